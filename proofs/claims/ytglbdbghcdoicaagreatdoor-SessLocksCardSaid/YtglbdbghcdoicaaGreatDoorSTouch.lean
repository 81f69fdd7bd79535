/- What a request touches, what locks it needs. -/
import Derived.Test.YtglbdbghcdoicaaGreatDoorSKnown
import Derived.Test.YtglbdbghcdoicaaGreatDoorSShP
import Derived.Test.YtglbdbghcdoicaaGreatDoorWLB
import Derived.Test.YtglbdbghcdoicaaGreatDoorCGrI
namespace Go.Proofs.YtglbdbghcdoicaaGreatDoor
open Go.RowKit

abbrev LockV := Int × Bool
def lockV (l : LockV) : List Value := [.int .i64 l.1, .bool l.2]
def lockCs (ls : List LockV) : List Value := ls.flatMap lockV
/-- Ints as cells. -/
def ivs (xs : List Int) : List Value := xs.map (Value.int .i64 ·)
theorem ivs_len (xs : List Int) : (ivs xs).length = xs.length := by simp [ivs]
theorem ivs_one (xs : List Int) : ∀ u ∈ ivs xs, u.oneCell' = true := fun u hu => by
  simp [ivs] at hu
  obtain ⟨a, _, rfl⟩ := hu
  rfl
/-- So many, with zeros behind. -/
def tcP (m : Nat) (zs : List Int) : List Int := zs.take m ++ List.replicate (m - zs.length) 0
theorem tcP_len (m : Nat) (zs : List Int) : (tcP m zs).length = m := by unfold tcP; rw [List.length_append, List.length_take, List.length_replicate]; omega
def tsP (m : Nat) (zs : List Int) : List Int := (tcP m zs).map (fun x => max x 0)
theorem tsP_len (m : Nat) (zs : List Int) : (tsP m zs).length = m := by unfold tsP; rw [List.length_map, tcP_len]
def needP (q : Rq) (zs : List Int) : List LockV :=
  if q.kind = 1 ∨ q.kind = 2 then (shardsP (tsP q.cs.length zs)).map (fun n => (2 + n, true))
  else if q.kind = 3 then (if q.epoch ≠ 0 then [(2, true)] else [(0, false), (1, false)])
  else if q.kind = 4 then [(0, false), (1, false)]
  else if q.kind = 5 ∨ q.kind = 6 then [(1, false)]
  else if q.kind = 7 then [(0, false)]
  else []
theorem info_int : (Tryz.prog.info? 3).map (fun i => (i.zero, i.size, i.bytes)) = some (some (.int .i64 0), 1, 8) := by kernel_rfl
theorem int_size : (Tryz.prog.info? 3).map (·.size) = some 1 := by kernel_rfl
theorem made_ints (n : Nat) : (madeCells (Value.int .i64 0).cells n) = (ivs (List.replicate n 0)).toArray := by
  apply Array.toList_inj.1
  rw [List.toList_toArray]
  unfold ivs madeCells
  simp [Value.cells, Nat.mod_one, List.map_const']
theorem tc_splice (m : Nat) (zs : List Int) : splice (ivs (List.replicate m 0)) 0 (ivs (zs.take m)) = ivs (tcP m zs) := by
  unfold splice tcP ivs
  rw [List.map_append, List.take_zero, List.nil_append, Nat.zero_add, List.length_map, List.length_take, List.map_replicate, List.map_replicate, List.drop_replicate]
  congr 2
  omega
theorem int_src {w : World} {Az : Option Addr} {zs : List Int} {n : Nat} (h : CellsAt w Az (ivs zs)) (hp : 0 < (ivs (zs.take n)).length) : ∃ ad, Az = some ad ∧ ∀ j v, (ivs (zs.take n))[j]? = some v → w.cell? (ad.add j) = some v := by
  have hl : ∀ j v, (ivs (zs.take n))[j]? = some v → (ivs zs)[j]? = some v := fun j v hj => by
    unfold ivs at hj ⊢
    rw [List.map_take, List.getElem?_take] at hj
    split at hj
    · exact hj
    · cases hj
  obtain ⟨v0, hv0⟩ : ∃ v0, (ivs (zs.take n))[0]? = some v0 := ⟨_, List.getElem?_eq_getElem hp⟩
  obtain ⟨h0, _⟩ := List.getElem?_eq_some_iff.1 (hl 0 v0 hv0)
  obtain ⟨ad, hA, _, _⟩ := h 0 h0
  refine ⟨ad, hA, fun j v hj => ?_⟩
  obtain ⟨hj', rfl⟩ := List.getElem?_eq_some_iff.1 (hl j v hj)
  obtain ⟨ad', hA', _, hc⟩ := h j hj'
  rw [hA] at hA'
  cases hA'
  exact hc
/-- What touch tells. -/
def TouchV (g n : Nat) (q : Rq) : Value :=
  if q.kind = 1 ∨ q.kind = 2 then .iface 97 (.slice (some ⟨g, 0, none⟩) n n)
  else if q.kind = 3 then (if q.epoch ≠ 0 then .iface 101 (.agg #[]) else .iface 102 (.agg #[]))
  else if q.kind = 4 then .iface 102 (.agg #[])
  else if q.kind = 5 ∨ q.kind = 6 then .iface 103 (.agg #[])
  else if q.kind = 7 then .iface 104 (.agg #[])
  else .nilIface
set_option maxHeartbeats 4000000 in
set_option maxRecDepth 100000 in
theorem touch_cells (k : Int) (hk : k = 1 ∨ k = 2) (A Az : Option Addr) (n c nz cz : Nat) (zs : List Int) (q : Rq) (W : World) (hq : q.kind = k) (hzl : zs.length = nz) (hz : CellsAt W Az (ivs zs)) (hn : n ≤ 1000000) :
    Calls Tryz.prog 44 #[.agg (rqC (.slice A n c) q), .slice Az nz cz] W fun e w' => ∃ g, e = .returned (.iface 97 (.slice (some ⟨g, 0, none⟩) n n)) ∧ Blk w' g 3 (ivs (tcP n zs)).toArray ∧ W.heap.size ≤ g ∧ Below W.heap.size W w' := by
  obtain ⟨kd, id_, ep, qs, fr, to_, lm⟩ := q
  have hq : kd = k := hq
  subst hq
  have bo := (Below.refl W.heap.size W).alloc (Nat.le_refl _) (.cells (rqC (.slice A n c) ⟨kd, id_, ep, qs, fr, to_, lm⟩) 43)
  have HB := Lib.hid bo
  have HZL := Lib.hid hzl
  have HZ := Lib.hid (hz.below bo)
  have hck := (Blk.new W 43 (rqC (.slice A n c) ⟨kd, id_, ep, qs, fr, to_, lm⟩)).cell
  obtain ⟨i, hi, hz0, hz1, hz2⟩ := info_parts info_int
  have HI := Lib.hid (show Tryz.prog.info? 3 = some i ∧ i.zero = some (.int .i64 0) ∧ i.size = 1 ∧ i.bytes = 8 from ⟨hi, hz0, hz1, hz2⟩)
  clear hzl hz bo hi hz0 hz1 hz2
  rcases hk with rfl | rfl
  · go_enter Tryz.func44, Tryz.ntmps44
    go_wp2_with (first
      | (at_make; refine wpList_make_cells rfl _ _ _ rfl 3 i (.int .i64 0) 8 Tryz.underlying97 HI.out.1 HI.out.2.1 HI.out.2.2.1 HI.out.2.2.2 n n rfl rfl (Nat.le_refl _) (by omega) (by omega) ?_
         rw [made_ints]
         have HM := Lib.hid (blk_last (W := W.alloc (.cells (rqC (.slice A n c) ⟨1, id_, ep, qs, fr, to_, lm⟩) 43)) (t := 3) (cs := (ivs (List.replicate n 0)).toArray) (n := W.heap.size + 1) (by simp))
         have HB2 := Lib.hid (HB.out.alloc HB.out.size (.cells (ivs (List.replicate n 0)).toArray 3))
         have HZ2 := Lib.hid (HZ.out.below ((Below.refl _ _).alloc (Nat.le_refl _) (.cells (ivs (List.replicate n 0)).toArray 3))))
      | ((with_reducible show wpList _ _ _ _ _ _); refine wpList_copy_splice rfl (.tmp 15) (.tmp 16) 97 23 rfl 3 Tryz.underlying97 int_size (some ⟨W.heap.size + 1, 0, none⟩) Az n n nz cz (by first | rfl | simp [Act.eval]) (by first | rfl | simp [Act.eval]) (W.heap.size + 1) 0 (ivs (List.replicate n 0)) 3 HM.out (ivs (zs.take n)) (by rw [ivs_len, List.length_take, HZL.out]; exact Nat.min_comm _ _) (fun hp => ⟨rfl, int_src HZ2.out hp⟩) (by rw [ivs_len, ivs_len, List.length_take, List.length_replicate]; omega) (ivs_one _) W.heap.size W HB2.out (by omega) ?_
         intro w' hw' hb'
         have HW := Lib.hid (show Blk w' (W.heap.size + 1) 3 (ivs (tcP n zs)).toArray from by have h := hw'.out; rw [tc_splice] at h; exact h)
         have HBW := Lib.hid hb'
         clear hw' hb'))
    go_ret
    exact ⟨W.heap.size + 1, rfl, HW.out, by omega, HBW.out⟩
  · go_enter Tryz.func44, Tryz.ntmps44
    go_wp2_with (first
      | (at_make; refine wpList_make_cells rfl _ _ _ rfl 3 i (.int .i64 0) 8 Tryz.underlying97 HI.out.1 HI.out.2.1 HI.out.2.2.1 HI.out.2.2.2 n n rfl rfl (Nat.le_refl _) (by omega) (by omega) ?_
         rw [made_ints]
         have HM := Lib.hid (blk_last (W := W.alloc (.cells (rqC (.slice A n c) ⟨2, id_, ep, qs, fr, to_, lm⟩) 43)) (t := 3) (cs := (ivs (List.replicate n 0)).toArray) (n := W.heap.size + 1) (by simp))
         have HB2 := Lib.hid (HB.out.alloc HB.out.size (.cells (ivs (List.replicate n 0)).toArray 3))
         have HZ2 := Lib.hid (HZ.out.below ((Below.refl _ _).alloc (Nat.le_refl _) (.cells (ivs (List.replicate n 0)).toArray 3))))
      | ((with_reducible show wpList _ _ _ _ _ _); refine wpList_copy_splice rfl (.tmp 15) (.tmp 16) 97 23 rfl 3 Tryz.underlying97 int_size (some ⟨W.heap.size + 1, 0, none⟩) Az n n nz cz (by first | rfl | simp [Act.eval]) (by first | rfl | simp [Act.eval]) (W.heap.size + 1) 0 (ivs (List.replicate n 0)) 3 HM.out (ivs (zs.take n)) (by rw [ivs_len, List.length_take, HZL.out]; exact Nat.min_comm _ _) (fun hp => ⟨rfl, int_src HZ2.out hp⟩) (by rw [ivs_len, ivs_len, List.length_take, List.length_replicate]; omega) (ivs_one _) W.heap.size W HB2.out (by omega) ?_
         intro w' hw' hb'
         have HW := Lib.hid (show Blk w' (W.heap.size + 1) 3 (ivs (tcP n zs)).toArray from by have h := hw'.out; rw [tc_splice] at h; exact h)
         have HBW := Lib.hid hb'
         clear hw' hb'))
    go_ret
    exact ⟨W.heap.size + 1, rfl, HW.out, by omega, HBW.out⟩
end Go.Proofs.YtglbdbghcdoicaaGreatDoor
