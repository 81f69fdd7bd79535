/- Plain: sorted and made compact, or put in one by one: the same row of shards. What a request touches, what locks it needs. Needs: the walk. SessLocks: the walk. The document's shards: put in one by one. The document's Needs; ints and locks held against one another. -/
import Derived.Lib.RowBridge
import Derived.Test.YtglbdbghcdoicaaGreatDoorSKnown
import Derived.Test.YtglbdbghcdoicaaGreatDoorWLB
import Derived.Test.YtglbdbghcdoicaaGreatDoorCGrI
import Derived.Test.YtglbdbghcdoicaaGreatDoorSShelf
import Derived.Test.YtglbdbghcdoicaaGreatDoorSApp
namespace Go.Proofs.YtglbdbghcdoicaaGreatDoor

/-- One more, where it belongs, unless it is there. -/
def insP (x : Int) : List Int → List Int
  | [] => [x]
  | y :: ys => if y < x then y :: insP x ys else if y = x then y :: ys else x :: y :: ys
theorem insP_mem (x z : Int) : ∀ l, z ∈ insP x l ↔ z = x ∨ z ∈ l
  | [] => by simp [insP]
  | y :: ys => by
    unfold insP
    by_cases h1 : y < x
    · rw [if_pos h1, List.mem_cons, insP_mem x z ys, List.mem_cons]
      constructor
      · rintro (h | h | h)
        · exact .inr (.inl h)
        · exact .inl h
        · exact .inr (.inr h)
      · rintro (h | h | h)
        · exact .inr (.inl h)
        · exact .inl h
        · exact .inr (.inr h)
    · rw [if_neg h1]
      by_cases h2 : y = x
      · rw [if_pos h2]
        subst h2
        simp
      · rw [if_neg h2, List.mem_cons]
theorem insP_sorted (x : Int) : ∀ l, l.Pairwise (· < ·) → (insP x l).Pairwise (· < ·)
  | [], _ => by simp [insP]
  | y :: ys, h => by
    have h' := List.pairwise_cons.1 h
    unfold insP
    by_cases h1 : y < x
    · rw [if_pos h1]
      refine List.pairwise_cons.2 ⟨fun z hz => ?_, insP_sorted x ys h'.2⟩
      rcases (insP_mem x z ys).1 hz with e | e
      · omega
      · exact h'.1 z e
    · rw [if_neg h1]
      by_cases h2 : y = x
      · rw [if_pos h2]; exact h
      · rw [if_neg h2]
        refine List.pairwise_cons.2 ⟨fun z hz => ?_, h⟩
        rcases List.mem_cons.1 hz with e | e
        · omega
        · have := h'.1 z e; omega
theorem sorted_ext : ∀ a b : List Int, a.Pairwise (· < ·) → b.Pairwise (· < ·) → (∀ z, z ∈ a ↔ z ∈ b) → a = b
  | [], [], _, _, _ => rfl
  | [], y :: ys, _, _, h => absurd ((h y).2 (by simp)) (by simp)
  | x :: xs, [], _, _, h => absurd ((h x).1 (by simp)) (by simp)
  | x :: xs, y :: ys, ha, hb, h => by
    have ha' := List.pairwise_cons.1 ha
    have hb' := List.pairwise_cons.1 hb
    have e : x = y := by
      have h1 := List.mem_cons.1 ((h x).1 (by simp))
      have h2 := List.mem_cons.1 ((h y).2 (by simp))
      rcases h1 with h1 | h1
      · exact h1
      · rcases h2 with h2 | h2
        · exact h2.symm
        · have := hb'.1 x h1; have := ha'.1 y h2; omega
    subst e
    rw [sorted_ext xs ys ha'.2 hb'.2 (fun z => ?_)]
    constructor
    · intro hz
      rcases List.mem_cons.1 ((h z).1 (List.mem_cons.2 (.inr hz))) with e | e
      · have := ha'.1 z hz; omega
      · exact e
    · intro hz
      rcases List.mem_cons.1 ((h z).2 (List.mem_cons.2 (.inr hz))) with e | e
      · have := hb'.1 z hz; omega
      · exact e
section
open Go.Lib
variable (d : Array Int) (hd : ∀ i j, i ≤ j → j < d.size → d[i]! ≤ d[j]!)
include hd
theorem compact_inv : ∀ m, m ≤ d.size → (compactUpTo d m).Pairwise (· < ·) ∧ (∀ z, z ∈ compactUpTo d m ↔ ∃ j, j < m ∧ d[j]! = z)
  | 0, _ => by simp [compactUpTo]
  | m + 1, hm => by
    obtain ⟨h1, h2⟩ := compact_inv m (by omega)
    rw [compactUpTo_succ]
    by_cases hk : keeps d m = true
    · rw [if_pos hk]
      refine ⟨List.pairwise_append.2 ⟨h1, by simp, fun x hx y hy => ?_⟩, fun z => ?_⟩
      · obtain rfl := List.mem_singleton.1 hy
        obtain ⟨j, hj, rfl⟩ := (h2 x).1 hx
        have hne : d[m]! ≠ d[m - 1]! := by
          have : m ≠ 0 := by omega
          simpa [keeps, this] using hk
        have h3 := hd j (m - 1) (by omega) (by omega)
        have h4 := hd (m - 1) m (by omega) (by omega)
        omega
      · rw [List.mem_append, h2 z, List.mem_singleton]
        constructor
        · rintro (⟨j, hj, e⟩ | e)
          · exact ⟨j, by omega, e⟩
          · exact ⟨m, by omega, e.symm⟩
        · rintro ⟨j, hj, e⟩
          by_cases hjm : j = m
          · subst hjm; exact .inr e.symm
          · exact .inl ⟨j, by omega, e⟩
    · rw [if_neg hk, List.append_nil]
      refine ⟨h1, fun z => ?_⟩
      rw [h2 z]
      constructor
      · rintro ⟨j, hj, e⟩
        exact ⟨j, by omega, e⟩
      · rintro ⟨j, hj, e⟩
        by_cases hjm : j = m
        · subst hjm
          have hne : j ≠ 0 ∧ d[j]! = d[j - 1]! := by
            by_cases h0 : j = 0
            · subst h0; simp [keeps] at hk
            · exact ⟨h0, by simpa [keeps, h0] using hk⟩
          exact ⟨j - 1, by omega, by rw [← e]; exact hne.2.symm⟩
        · exact ⟨j, by omega, e⟩
end
theorem sorted_get {l : List Int} (h : l.Pairwise (· ≤ ·)) : ∀ i j, i ≤ j → j < l.toArray.size → l.toArray[i]! ≤ l.toArray[j]! := by
  intro i j hij hj
  have hj' : j < l.length := by simpa using hj
  have hi' : i < l.length := by omega
  rcases Nat.lt_or_ge i j with h1 | h1
  · have := List.pairwise_iff_getElem.1 h i j hi' hj' h1
    simpa [hi', hj'] using this
  · have : i = j := by omega
    subst this; exact Int.le_refl _
theorem mem_bang (l : List Int) (z : Int) : (∃ j, j < l.length ∧ l.toArray[j]! = z) ↔ z ∈ l := by
  rw [List.mem_iff_getElem]
  constructor
  · rintro ⟨j, hj, e⟩
    exact ⟨j, hj, by simpa [hj] using e⟩
  · rintro ⟨j, hj, e⟩
    exact ⟨j, hj, by simpa [hj] using e⟩
/-- Sorted and made compact: rising, each once. -/
def shardsP (zs : List Int) : List Int := Go.Lib.compact (zs.mergeSort fun x y => decide (x ≤ y))
theorem mergeSort_le (zs : List Int) : (zs.mergeSort fun x y => decide (x ≤ y)).Pairwise (· ≤ ·) := by
  have := List.pairwise_mergeSort (le := fun x y : Int => decide (x ≤ y)) (fun a b c h1 h2 => by simp at *; omega) (fun a b => by simp; omega) zs
  exact this.imp (fun h => by simpa using h)
theorem shardsP_sorted (zs : List Int) : (shardsP zs).Pairwise (· < ·) := by
  have h := compact_inv _ (sorted_get (mergeSort_le zs)) (zs.mergeSort fun x y => decide (x ≤ y)).length (by simp)
  exact h.1
theorem shardsP_mem (zs : List Int) (z : Int) : z ∈ shardsP zs ↔ z ∈ zs := by
  have h := compact_inv _ (sorted_get (mergeSort_le zs)) (zs.mergeSort fun x y => decide (x ≤ y)).length (by simp)
  have h2 := h.2 z
  refine Iff.trans (b := z ∈ zs.mergeSort fun x y => decide (x ≤ y)) ?_ List.mem_mergeSort
  exact Iff.trans h2 (mem_bang _ z)
theorem shardsP_len (zs : List Int) : (shardsP zs).length ≤ zs.length := by
  have := Go.Lib.compact_length_le (zs.mergeSort fun x y => decide (x ≤ y))
  simpa [shardsP] using this
/-- The document's: one by one. -/
def insAll (zs : List Int) : List Int := zs.foldl (fun l x => insP x l) []
theorem insAll_any (zs : List Int) : ∀ l, l.Pairwise (· < ·) → (zs.foldl (fun l x => insP x l) l).Pairwise (· < ·) ∧ ∀ z, z ∈ zs.foldl (fun l x => insP x l) l ↔ z ∈ l ∨ z ∈ zs := by
  induction zs with
  | nil => intro l h; simp [h]
  | cons x xs ih =>
    intro l h
    obtain ⟨h1, h2⟩ := ih (insP x l) (insP_sorted x l h)
    refine ⟨h1, fun z => ?_⟩
    rw [List.foldl_cons, h2 z, insP_mem, List.mem_cons]
    constructor
    · rintro ((h | h) | h)
      · exact .inr (.inl h)
      · exact .inl h
      · exact .inr (.inr h)
    · rintro (h | h | h)
      · exact .inl (.inr h)
      · exact .inl (.inl h)
      · exact .inr h
theorem insAll_eq (zs : List Int) : insAll zs = shardsP zs :=
  sorted_ext _ _ (insAll_any zs [] (by simp)).1 (shardsP_sorted zs) (fun z => by rw [shardsP_mem, insAll, (insAll_any zs [] (by simp)).2 z]; simp)
end Go.Proofs.YtglbdbghcdoicaaGreatDoor

namespace Go.Proofs.YtglbdbghcdoicaaGreatDoor
open Go.RowKit

abbrev LockV := Int × Bool
def lockV (l : LockV) : List Value := [.int .i64 l.1, .bool l.2]
def lockCs (ls : List LockV) : List Value := ls.flatMap lockV
/-- Ints as cells. -/
def ivs (xs : List Int) : List Value := xs.map (Value.int .i64 ·)
theorem ivs_len (xs : List Int) : (ivs xs).length = xs.length := by simp [ivs]
theorem ivs_one (xs : List Int) : ∀ u ∈ ivs xs, u.oneCell' = true := fun u hu => by
  simp [ivs] at hu
  obtain ⟨a, _, rfl⟩ := hu
  rfl
/-- So many, with zeros behind. -/
def tcP (m : Nat) (zs : List Int) : List Int := zs.take m ++ List.replicate (m - zs.length) 0
theorem tcP_len (m : Nat) (zs : List Int) : (tcP m zs).length = m := by unfold tcP; rw [List.length_append, List.length_take, List.length_replicate]; omega
def tsP (m : Nat) (zs : List Int) : List Int := (tcP m zs).map (fun x => max x 0)
theorem tsP_len (m : Nat) (zs : List Int) : (tsP m zs).length = m := by unfold tsP; rw [List.length_map, tcP_len]
def needP (q : Rq) (zs : List Int) : List LockV :=
  if q.kind = 1 ∨ q.kind = 2 then (shardsP (tsP q.cs.length zs)).map (fun n => (2 + n, true))
  else if q.kind = 3 then (if q.epoch ≠ 0 then [(2, true)] else [(0, false), (1, false)])
  else if q.kind = 4 then [(0, false), (1, false)]
  else if q.kind = 5 ∨ q.kind = 6 then [(1, false)]
  else if q.kind = 7 then [(0, false)]
  else []
theorem info_int : (Tryz.prog.info? 3).map (fun i => (i.zero, i.size, i.bytes)) = some (some (.int .i64 0), 1, 8) := by kernel_rfl
theorem int_size : (Tryz.prog.info? 3).map (·.size) = some 1 := by kernel_rfl
theorem made_ints (n : Nat) : (madeCells (Value.int .i64 0).cells n) = (ivs (List.replicate n 0)).toArray := by
  apply Array.toList_inj.1
  rw [List.toList_toArray]
  unfold ivs madeCells
  simp [Value.cells, Nat.mod_one, List.map_const']
theorem tc_splice (m : Nat) (zs : List Int) : splice (ivs (List.replicate m 0)) 0 (ivs (zs.take m)) = ivs (tcP m zs) := by
  unfold splice tcP ivs
  rw [List.map_append, List.take_zero, List.nil_append, Nat.zero_add, List.length_map, List.length_take, List.map_replicate, List.map_replicate, List.drop_replicate]
  congr 2
  omega
theorem int_src {w : World} {Az : Option Addr} {zs : List Int} {n : Nat} (h : CellsAt w Az (ivs zs)) (hp : 0 < (ivs (zs.take n)).length) : ∃ ad, Az = some ad ∧ ∀ j v, (ivs (zs.take n))[j]? = some v → w.cell? (ad.add j) = some v := by
  have hl : ∀ j v, (ivs (zs.take n))[j]? = some v → (ivs zs)[j]? = some v := fun j v hj => by
    unfold ivs at hj ⊢
    rw [List.map_take, List.getElem?_take] at hj
    split at hj
    · exact hj
    · cases hj
  obtain ⟨v0, hv0⟩ : ∃ v0, (ivs (zs.take n))[0]? = some v0 := ⟨_, List.getElem?_eq_getElem hp⟩
  obtain ⟨h0, _⟩ := List.getElem?_eq_some_iff.1 (hl 0 v0 hv0)
  obtain ⟨ad, hA, _, _⟩ := h 0 h0
  refine ⟨ad, hA, fun j v hj => ?_⟩
  obtain ⟨hj', rfl⟩ := List.getElem?_eq_some_iff.1 (hl j v hj)
  obtain ⟨ad', hA', _, hc⟩ := h j hj'
  rw [hA] at hA'
  cases hA'
  exact hc
/-- What touch tells. -/
def TouchV (g n : Nat) (q : Rq) : Value :=
  if q.kind = 1 ∨ q.kind = 2 then .iface 97 (.slice (some ⟨g, 0, none⟩) n n)
  else if q.kind = 3 then (if q.epoch ≠ 0 then .iface 101 (.agg #[]) else .iface 102 (.agg #[]))
  else if q.kind = 4 then .iface 102 (.agg #[])
  else if q.kind = 5 ∨ q.kind = 6 then .iface 103 (.agg #[])
  else if q.kind = 7 then .iface 104 (.agg #[])
  else .nilIface
set_option maxHeartbeats 4000000 in
set_option maxRecDepth 100000 in
theorem touch_cells (k : Int) (hk : k = 1 ∨ k = 2) (A Az : Option Addr) (n c nz cz : Nat) (zs : List Int) (q : Rq) (W : World) (hq : q.kind = k) (hzl : zs.length = nz) (hz : CellsAt W Az (ivs zs)) (hn : n ≤ 1000000) :
    Calls Tryz.prog 44 #[.agg (rqC (.slice A n c) q), .slice Az nz cz] W fun e w' => ∃ g, e = .returned (.iface 97 (.slice (some ⟨g, 0, none⟩) n n)) ∧ Blk w' g 3 (ivs (tcP n zs)).toArray ∧ W.heap.size ≤ g ∧ Below W.heap.size W w' := by
  obtain ⟨kd, id_, ep, qs, fr, to_, lm⟩ := q
  have hq : kd = k := hq
  subst hq
  have bo := (Below.refl W.heap.size W).alloc (Nat.le_refl _) (.cells (rqC (.slice A n c) ⟨kd, id_, ep, qs, fr, to_, lm⟩) 43)
  have HB := Lib.hid bo
  have HZL := Lib.hid hzl
  have HZ := Lib.hid (hz.below bo)
  have hck := (Blk.new W 43 (rqC (.slice A n c) ⟨kd, id_, ep, qs, fr, to_, lm⟩)).cell
  obtain ⟨i, hi, hz0, hz1, hz2⟩ := info_parts info_int
  have HI := Lib.hid (show Tryz.prog.info? 3 = some i ∧ i.zero = some (.int .i64 0) ∧ i.size = 1 ∧ i.bytes = 8 from ⟨hi, hz0, hz1, hz2⟩)
  clear hzl hz bo hi hz0 hz1 hz2
  rcases hk with rfl | rfl
  · go_enter Tryz.func44, Tryz.ntmps44
    go_wp2_with (first
      | (at_make; refine wpList_make_cells rfl _ _ _ rfl 3 i (.int .i64 0) 8 Tryz.underlying97 HI.out.1 HI.out.2.1 HI.out.2.2.1 HI.out.2.2.2 n n rfl rfl (Nat.le_refl _) (by omega) (by omega) ?_
         rw [made_ints]
         have HM := Lib.hid (blk_last (W := W.alloc (.cells (rqC (.slice A n c) ⟨1, id_, ep, qs, fr, to_, lm⟩) 43)) (t := 3) (cs := (ivs (List.replicate n 0)).toArray) (n := W.heap.size + 1) (by simp))
         have HB2 := Lib.hid (HB.out.alloc HB.out.size (.cells (ivs (List.replicate n 0)).toArray 3))
         have HZ2 := Lib.hid (HZ.out.below ((Below.refl _ _).alloc (Nat.le_refl _) (.cells (ivs (List.replicate n 0)).toArray 3))))
      | ((with_reducible show wpList _ _ _ _ _ _); refine wpList_copy_splice rfl (.tmp 15) (.tmp 16) 97 23 rfl 3 Tryz.underlying97 int_size (some ⟨W.heap.size + 1, 0, none⟩) Az n n nz cz (by first | rfl | simp [Act.eval]) (by first | rfl | simp [Act.eval]) (W.heap.size + 1) 0 (ivs (List.replicate n 0)) 3 HM.out (ivs (zs.take n)) (by rw [ivs_len, List.length_take, HZL.out]; exact Nat.min_comm _ _) (fun hp => ⟨rfl, int_src HZ2.out hp⟩) (by rw [ivs_len, ivs_len, List.length_take, List.length_replicate]; omega) (ivs_one _) W.heap.size W HB2.out (by omega) ?_
         intro w' hw' hb'
         have HW := Lib.hid (show Blk w' (W.heap.size + 1) 3 (ivs (tcP n zs)).toArray from by have h := hw'.out; rw [tc_splice] at h; exact h)
         have HBW := Lib.hid hb'
         clear hw' hb'))
    go_ret
    exact ⟨W.heap.size + 1, rfl, HW.out, by omega, HBW.out⟩
  · go_enter Tryz.func44, Tryz.ntmps44
    go_wp2_with (first
      | (at_make; refine wpList_make_cells rfl _ _ _ rfl 3 i (.int .i64 0) 8 Tryz.underlying97 HI.out.1 HI.out.2.1 HI.out.2.2.1 HI.out.2.2.2 n n rfl rfl (Nat.le_refl _) (by omega) (by omega) ?_
         rw [made_ints]
         have HM := Lib.hid (blk_last (W := W.alloc (.cells (rqC (.slice A n c) ⟨2, id_, ep, qs, fr, to_, lm⟩) 43)) (t := 3) (cs := (ivs (List.replicate n 0)).toArray) (n := W.heap.size + 1) (by simp))
         have HB2 := Lib.hid (HB.out.alloc HB.out.size (.cells (ivs (List.replicate n 0)).toArray 3))
         have HZ2 := Lib.hid (HZ.out.below ((Below.refl _ _).alloc (Nat.le_refl _) (.cells (ivs (List.replicate n 0)).toArray 3))))
      | ((with_reducible show wpList _ _ _ _ _ _); refine wpList_copy_splice rfl (.tmp 15) (.tmp 16) 97 23 rfl 3 Tryz.underlying97 int_size (some ⟨W.heap.size + 1, 0, none⟩) Az n n nz cz (by first | rfl | simp [Act.eval]) (by first | rfl | simp [Act.eval]) (W.heap.size + 1) 0 (ivs (List.replicate n 0)) 3 HM.out (ivs (zs.take n)) (by rw [ivs_len, List.length_take, HZL.out]; exact Nat.min_comm _ _) (fun hp => ⟨rfl, int_src HZ2.out hp⟩) (by rw [ivs_len, ivs_len, List.length_take, List.length_replicate]; omega) (ivs_one _) W.heap.size W HB2.out (by omega) ?_
         intro w' hw' hb'
         have HW := Lib.hid (show Blk w' (W.heap.size + 1) 3 (ivs (tcP n zs)).toArray from by have h := hw'.out; rw [tc_splice] at h; exact h)
         have HBW := Lib.hid hb'
         clear hw' hb'))
    go_ret
    exact ⟨W.heap.size + 1, rfl, HW.out, by omega, HBW.out⟩
end Go.Proofs.YtglbdbghcdoicaaGreatDoor

namespace Go.Proofs.YtglbdbghcdoicaaGreatDoor
open Go.RowKit

theorem tn_cells (v : Value) (w : World) : (Instr.typeAssert (.iface 97 v) 20 97 true).run Tryz.prog w = .ok (.tuple #[v, .bool true]) w := by kernel_rfl
theorem tn_scan_cells (v : Value) (w : World) : (Instr.typeAssert (.iface 101 v) 20 97 true).run Tryz.prog w = .ok (.tuple #[.slice none 0 0, .bool false]) w := by kernel_rfl
theorem tn_scan (v : Value) (w : World) : (Instr.typeAssert (.iface 101 v) 20 101 true).run Tryz.prog w = .ok (.tuple #[v, .bool true]) w := by kernel_rfl
theorem tn_seal_cells (v : Value) (w : World) : (Instr.typeAssert (.iface 102 v) 20 97 true).run Tryz.prog w = .ok (.tuple #[.slice none 0 0, .bool false]) w := by kernel_rfl
theorem tn_seal_scan (v : Value) (w : World) : (Instr.typeAssert (.iface 102 v) 20 101 true).run Tryz.prog w = .ok (.tuple #[.agg #[], .bool false]) w := by kernel_rfl
theorem tn_seal (v : Value) (w : World) : (Instr.typeAssert (.iface 102 v) 20 102 true).run Tryz.prog w = .ok (.tuple #[v, .bool true]) w := by kernel_rfl
theorem tn_book_cells (v : Value) (w : World) : (Instr.typeAssert (.iface 103 v) 20 97 true).run Tryz.prog w = .ok (.tuple #[.slice none 0 0, .bool false]) w := by kernel_rfl
theorem tn_book_scan (v : Value) (w : World) : (Instr.typeAssert (.iface 103 v) 20 101 true).run Tryz.prog w = .ok (.tuple #[.agg #[], .bool false]) w := by kernel_rfl
theorem tn_book_seal (v : Value) (w : World) : (Instr.typeAssert (.iface 103 v) 20 102 true).run Tryz.prog w = .ok (.tuple #[.agg #[], .bool false]) w := by kernel_rfl
theorem tn_book (v : Value) (w : World) : (Instr.typeAssert (.iface 103 v) 20 103 true).run Tryz.prog w = .ok (.tuple #[v, .bool true]) w := by kernel_rfl
theorem tn_stats_cells (v : Value) (w : World) : (Instr.typeAssert (.iface 104 v) 20 97 true).run Tryz.prog w = .ok (.tuple #[.slice none 0 0, .bool false]) w := by kernel_rfl
theorem tn_stats_scan (v : Value) (w : World) : (Instr.typeAssert (.iface 104 v) 20 101 true).run Tryz.prog w = .ok (.tuple #[.agg #[], .bool false]) w := by kernel_rfl
theorem tn_stats_seal (v : Value) (w : World) : (Instr.typeAssert (.iface 104 v) 20 102 true).run Tryz.prog w = .ok (.tuple #[.agg #[], .bool false]) w := by kernel_rfl
theorem tn_stats_book (v : Value) (w : World) : (Instr.typeAssert (.iface 104 v) 20 103 true).run Tryz.prog w = .ok (.tuple #[.agg #[], .bool false]) w := by kernel_rfl
theorem tn_stats (v : Value) (w : World) : (Instr.typeAssert (.iface 104 v) 20 104 true).run Tryz.prog w = .ok (.tuple #[v, .bool true]) w := by kernel_rfl
theorem tn_nil_cells (w : World) : (Instr.typeAssert .nilIface 20 97 true).run Tryz.prog w = .ok (.tuple #[.slice none 0 0, .bool false]) w := by kernel_rfl
theorem tn_nil_scan (w : World) : (Instr.typeAssert .nilIface 20 101 true).run Tryz.prog w = .ok (.tuple #[.agg #[], .bool false]) w := by kernel_rfl
theorem tn_nil_seal (w : World) : (Instr.typeAssert .nilIface 20 102 true).run Tryz.prog w = .ok (.tuple #[.agg #[], .bool false]) w := by kernel_rfl
theorem tn_nil_book (w : World) : (Instr.typeAssert .nilIface 20 103 true).run Tryz.prog w = .ok (.tuple #[.agg #[], .bool false]) w := by kernel_rfl
theorem tn_nil_stats (w : World) : (Instr.typeAssert .nilIface 20 104 true).run Tryz.prog w = .ok (.tuple #[.agg #[], .bool false]) w := by kernel_rfl
theorem holds_blk {W : World} {g : Nat} {t : TypeId} {zs : List Int} (h : Blk W g t (ivs zs).toArray) : Go.Sort.Holds (Value.int .i64) W g 0 zs.toArray := fun j hj => by
  have hj' : j < zs.length := by simpa using hj
  rw [Nat.zero_add]
  exact ⟨by rw [h.cell j]; simp [ivs, hj'], h.frozen j⟩
theorem setCells_blk {g : Nat} {t : TypeId} : ∀ (us : List Value) (o : Nat) (cs : List Value) (W : World), Blk W g t cs.toArray → Blk (W.setCells g o us) g t (putL cs o us).toArray
  | [], _, _, _, h => h
  | u :: us, o, cs, W, h => by
    refine setCells_blk us (o + 1) (cs.set o u) (W.setCell ⟨g, o, none⟩ u) ?_
    have := h.set_ o u
    rwa [List.setIfInBounds_toArray] at this
theorem putL_all (us cs : List Value) (h : us.length = cs.length) : putL cs 0 us = us := by
  apply List.ext_getElem?
  intro j
  by_cases hj : j < us.length
  · have := putL_in us cs 0 j hj (by omega)
    rwa [Nat.zero_add] at this
  · rw [List.getElem?_eq_none (by rw [putL_len]; omega), List.getElem?_eq_none (by omega)]
theorem putRow_blk {W : World} {g : Nat} {t : TypeId} {zs ys : List Int} (h : Blk W g t (ivs zs).toArray) (hl : ys.length = zs.length) (n : Nat) :
    Blk (Go.Sort.putRow (Value.int .i64) (Go.Sort.ahead W n) g 0 ys.toArray) g t (ivs ys).toArray ∧ Tur (· = g) W (Go.Sort.putRow (Value.int .i64) (Go.Sort.ahead W n) g 0 ys.toArray) := by
  rw [Go.Lib.putRow_eq_setCells (Value.int .i64) W g 0 zs.toArray ys n (holds_blk h) (by simpa using hl)]
  refine ⟨?_, ?_⟩
  · have := setCells_blk (ys.map (Value.int .i64)) 0 (ivs zs) (W.drewN n) (h.drewN n)
    rwa [putL_all _ _ (by rw [List.length_map, ivs_len, hl])] at this
  · exact (Tur.of_below (below_drewN (Below.refl W.heap.size W) n)).trans (Tur.of_grown (S := (· = g)) (setCells_grown g _ _ _) (fun k hk => by cases hk; rfl)) (fun k hk => .inl hk)
theorem grow_blk {W : World} {g : Nat} {t : TypeId} {cs : Array Value} (h : Blk W g t cs) (os : Array Obj) : Blk (Go.Sort.grow W os) g t cs ∧ Below W.heap.size W (Go.Sort.grow W os) := by
  have hl : ∀ k, k < W.heap.size → (Go.Sort.grow W os).heap[k]? = W.heap[k]? := fun k hk => by
    show (W.heap ++ os)[k]? = _
    rw [Array.getElem?_append_left hk]
  exact ⟨(hl g h.lt).trans h, ⟨rfl, rfl, rfl, by show W.heap.size ≤ (W.heap ++ os).size; rw [Array.size_append]; omega, fun k hk => hl k hk⟩⟩
theorem sort_cells (g m : Nat) (zs : List Int) (W : World) (h : Blk W g 3 (ivs zs).toArray) (hm : zs.length = m) (hl : m < 4611686018427387904) :
    Calls Tryz.prog 45 #[.slice (some ⟨g, 0, none⟩) m m] W fun e w' => e = .returned (.tuple #[]) ∧ Blk w' g 3 (ivs (zs.mergeSort fun x y => decide (x ≤ y))).toArray ∧ Tur (· = g) W w' := by
  subst hm
  have C := AnyM.slices_Sort_int Tryz.sort g 0 zs.length zs W (holds_blk h) h.lt hl
  refine Calls.mono C ?_
  rintro e w' ⟨rfl, n, os, rfl⟩
  obtain ⟨h1, h2⟩ := putRow_blk h (ys := zs.mergeSort fun x y => decide (x ≤ y)) (by rw [List.length_mergeSort]) n
  obtain ⟨h3, h4⟩ := grow_blk h1 os
  exact ⟨rfl, h3, h2.trans (Tur.of_below (S := fun _ => False) h4) (fun k hk => hk.elim)⟩
theorem compact_cells (g m : Nat) (zs : List Int) (W : World) (h : Blk W g 3 (ivs zs).toArray) (hm : zs.length = m) (hl : m < 4611686018427387904) :
    Calls Tryz.prog 46 #[.slice (some ⟨g, 0, none⟩) m m] W fun e w' => e = .returned (.slice (some ⟨g, 0, none⟩) (Go.Lib.compact zs).length m) ∧ (∃ ys, Blk w' g 3 (ivs (Go.Lib.compact zs ++ ys)).toArray) ∧ Tur (· = g) W w' := by
  subst hm
  have C := AnyG.slices_Compact_int Tryz.compact g 0 zs.length zs W (holds_blk h) (by omega) (Nat.le_refl _)
  refine Calls.mono C ?_
  rintro e w' ⟨rfl, n, rfl⟩
  obtain ⟨h1, h2⟩ := putRow_blk h (ys := Go.Lib.compact zs ++ List.replicate (zs.length - (Go.Lib.compact zs).length) 0) (by have := Go.Lib.compact_length_le zs; rw [List.length_append, List.length_replicate]; omega) n
  exact ⟨rfl, ⟨_, h1⟩, h2⟩
/-- The first i of a row, none below zero. -/
def mxP (i : Nat) (L : List Int) : List Int := (L.take i).map (fun x => max x 0) ++ L.drop i
theorem mxP_0 (L : List Int) : mxP 0 L = L := by simp [mxP]
theorem mxP_all (L : List Int) : mxP L.length L = L.map (fun x => max x 0) := by simp [mxP]
theorem mxP_len (i : Nat) (L : List Int) : (mxP i L).length = L.length := by unfold mxP; rw [List.length_append, List.length_map, List.length_take, List.length_drop]; omega
theorem mxP_at (i : Nat) (L : List Int) (h : i < L.length) : (mxP i L)[i]? = some L[i] := by
  unfold mxP
  rw [List.getElem?_append_right (by simp; omega), List.length_map, List.length_take, Nat.min_eq_left (by omega), Nat.sub_self, List.getElem?_drop, Nat.add_zero, List.getElem?_eq_getElem h]
theorem mxP_step (i : Nat) (L : List Int) (h : i < L.length) : (mxP i L).set i (max L[i] 0) = mxP (i + 1) L := by
  unfold mxP
  rw [List.take_add_one, List.getElem?_eq_getElem h, Option.toList_some, List.map_append, List.map_singleton, List.drop_eq_getElem_cons h]
  rw [List.set_append_right _ _ (by simp; omega), List.length_map, List.length_take, Nat.min_eq_left (by omega), Nat.sub_self, List.set_cons_zero, List.append_assoc]
  rfl
theorem info_lock : (Tryz.prog.info? 53).map (fun i => (i.zero, i.size, i.bytes)) = some (some (.agg #[.int .i64 0, .bool false]), 2, 16) := by kernel_rfl
/-- Locks of one's own. -/
def LocksOwn (W : World) (B : Nat) (v : Value) (ls : List LockV) : Prop := W.ownsRow B 53 2 v ls.length (lockCs ls)
def NeedQ (W : World) (ls : List LockV) (e : Ending) (w' : World) : Prop := ∃ A c, e = .returned (.slice A ls.length c) ∧ LocksOwn w' W.heap.size (.slice A ls.length c) ls ∧ Below W.heap.size W w'
theorem lockCs_len (ls : List LockV) : (lockCs ls).length = ls.length * 2 := by
  induction ls with
  | nil => rfl
  | cons l ls ih => simp [lockCs, lockV] at ih ⊢; omega
theorem lockCs_one (ls : List LockV) : ∀ u ∈ lockCs ls, u.oneCell' = true := fun u hu => by
  obtain ⟨l, _, hl⟩ := List.mem_flatMap.1 hu
  simp only [lockV, List.mem_cons, List.not_mem_nil, or_false] at hl
  rcases hl with rfl | rfl <;> rfl
theorem lockCs_app (a b : List LockV) : lockCs (a ++ b) = lockCs a ++ lockCs b := by simp [lockCs]
theorem lock_lit (W : World) (ls : List LockV) (B : Nat) (hB : B ≤ W.heap.size) (hl : ls.length ≤ 1000) : LocksOwn (W.alloc (.cells (lockCs ls).toArray 53)) B (.slice (some ⟨W.heap.size, 0, none⟩) ls.length ls.length) ls := by
  have := World.ownsRow_lit (e := 53) (size := 2) (base := B) W (lockCs ls).toArray ls.length hB (by unfold maxLen; omega) (by simp [lockCs_len])
  simpa [LocksOwn] using this
set_option maxRecDepth 100000 in
theorem touch_3s (A Az : Option Addr) (n c nz cz : Nat) (q : Rq) (W : World) (hq : q.kind = 3) (hep : (q.epoch == 0) = false) :
    Calls Tryz.prog 44 #[.agg (rqC (.slice A n c) q), .slice Az nz cz] W fun e w' => e = .returned (.iface 101 (.agg #[])) ∧ Below W.heap.size W w' := by
  obtain ⟨kd, id_, ep, qs, fr, to_, lm⟩ := q
  have hq : kd = 3 := hq
  subst hq
  have hep : (ep == 0) = false := hep
  have bo := (Below.refl W.heap.size W).alloc (Nat.le_refl _) (.cells (rqC (.slice A n c) ⟨3, id_, ep, qs, fr, to_, lm⟩) 43)
  have HB := Lib.hid bo
  have hck := (Blk.new W 43 (rqC (.slice A n c) ⟨3, id_, ep, qs, fr, to_, lm⟩)).cell
  clear bo
  go_enter Tryz.func44, Tryz.ntmps44
  go_wp2
  go_ret
  exact ⟨rfl, HB.out⟩
set_option maxRecDepth 100000 in
theorem touch_3e (A Az : Option Addr) (n c nz cz : Nat) (q : Rq) (W : World) (hq : q.kind = 3) (hep : q.epoch = 0) :
    Calls Tryz.prog 44 #[.agg (rqC (.slice A n c) q), .slice Az nz cz] W fun e w' => e = .returned (.iface 102 (.agg #[])) ∧ Below W.heap.size W w' := by
  obtain ⟨kd, id_, ep, qs, fr, to_, lm⟩ := q
  have hq : kd = 3 := hq
  subst hq
  have hep : ep = 0 := hep
  subst hep
  have bo := (Below.refl W.heap.size W).alloc (Nat.le_refl _) (.cells (rqC (.slice A n c) ⟨3, id_, 0, qs, fr, to_, lm⟩) 43)
  have HB := Lib.hid bo
  have hck := (Blk.new W 43 (rqC (.slice A n c) ⟨3, id_, 0, qs, fr, to_, lm⟩)).cell
  clear bo
  go_enter Tryz.func44, Tryz.ntmps44
  go_wp2
  go_ret
  exact ⟨rfl, HB.out⟩
set_option maxRecDepth 100000 in
theorem touch_4 (A Az : Option Addr) (n c nz cz : Nat) (q : Rq) (W : World) (hq : q.kind = 4) :
    Calls Tryz.prog 44 #[.agg (rqC (.slice A n c) q), .slice Az nz cz] W fun e w' => e = .returned (.iface 102 (.agg #[])) ∧ Below W.heap.size W w' := by
  obtain ⟨kd, id_, ep, qs, fr, to_, lm⟩ := q
  have hq : kd = 4 := hq
  subst hq
  have bo := (Below.refl W.heap.size W).alloc (Nat.le_refl _) (.cells (rqC (.slice A n c) ⟨4, id_, ep, qs, fr, to_, lm⟩) 43)
  have HB := Lib.hid bo
  have hck := (Blk.new W 43 (rqC (.slice A n c) ⟨4, id_, ep, qs, fr, to_, lm⟩)).cell
  clear bo
  go_enter Tryz.func44, Tryz.ntmps44
  go_wp2
  go_ret
  exact ⟨rfl, HB.out⟩
set_option maxRecDepth 100000 in
theorem touch_5 (A Az : Option Addr) (n c nz cz : Nat) (q : Rq) (W : World) (hq : q.kind = 5) :
    Calls Tryz.prog 44 #[.agg (rqC (.slice A n c) q), .slice Az nz cz] W fun e w' => e = .returned (.iface 103 (.agg #[])) ∧ Below W.heap.size W w' := by
  obtain ⟨kd, id_, ep, qs, fr, to_, lm⟩ := q
  have hq : kd = 5 := hq
  subst hq
  have bo := (Below.refl W.heap.size W).alloc (Nat.le_refl _) (.cells (rqC (.slice A n c) ⟨5, id_, ep, qs, fr, to_, lm⟩) 43)
  have HB := Lib.hid bo
  have hck := (Blk.new W 43 (rqC (.slice A n c) ⟨5, id_, ep, qs, fr, to_, lm⟩)).cell
  clear bo
  go_enter Tryz.func44, Tryz.ntmps44
  go_wp2
  go_ret
  exact ⟨rfl, HB.out⟩
set_option maxRecDepth 100000 in
theorem touch_6 (A Az : Option Addr) (n c nz cz : Nat) (q : Rq) (W : World) (hq : q.kind = 6) :
    Calls Tryz.prog 44 #[.agg (rqC (.slice A n c) q), .slice Az nz cz] W fun e w' => e = .returned (.iface 103 (.agg #[])) ∧ Below W.heap.size W w' := by
  obtain ⟨kd, id_, ep, qs, fr, to_, lm⟩ := q
  have hq : kd = 6 := hq
  subst hq
  have bo := (Below.refl W.heap.size W).alloc (Nat.le_refl _) (.cells (rqC (.slice A n c) ⟨6, id_, ep, qs, fr, to_, lm⟩) 43)
  have HB := Lib.hid bo
  have hck := (Blk.new W 43 (rqC (.slice A n c) ⟨6, id_, ep, qs, fr, to_, lm⟩)).cell
  clear bo
  go_enter Tryz.func44, Tryz.ntmps44
  go_wp2
  go_ret
  exact ⟨rfl, HB.out⟩
set_option maxRecDepth 100000 in
theorem touch_7 (A Az : Option Addr) (n c nz cz : Nat) (q : Rq) (W : World) (hq : q.kind = 7) :
    Calls Tryz.prog 44 #[.agg (rqC (.slice A n c) q), .slice Az nz cz] W fun e w' => e = .returned (.iface 104 (.agg #[])) ∧ Below W.heap.size W w' := by
  obtain ⟨kd, id_, ep, qs, fr, to_, lm⟩ := q
  have hq : kd = 7 := hq
  subst hq
  have bo := (Below.refl W.heap.size W).alloc (Nat.le_refl _) (.cells (rqC (.slice A n c) ⟨7, id_, ep, qs, fr, to_, lm⟩) 43)
  have HB := Lib.hid bo
  have hck := (Blk.new W 43 (rqC (.slice A n c) ⟨7, id_, ep, qs, fr, to_, lm⟩)).cell
  clear bo
  go_enter Tryz.func44, Tryz.ntmps44
  go_wp2
  go_ret
  exact ⟨rfl, HB.out⟩
set_option maxRecDepth 100000 in
theorem touch_none (A Az : Option Addr) (n c nz cz : Nat) (q : Rq) (W : World) (hq : q.kind < 1 ∨ 7 < q.kind) :
    Calls Tryz.prog 44 #[.agg (rqC (.slice A n c) q), .slice Az nz cz] W fun e w' => e = .returned .nilIface ∧ Below W.heap.size W w' := by
  obtain ⟨kd, id_, ep, qs, fr, to_, lm⟩ := q
  have hq : kd < 1 ∨ 7 < kd := hq
  have h1 : (kd == 1) = false := by simp; omega
  have h2 : (kd == 2) = false := by simp; omega
  have h3 : (kd == 3) = false := by simp; omega
  have h4 : (kd == 4) = false := by simp; omega
  have h5 : (kd == 5) = false := by simp; omega
  have h6 : (kd == 6) = false := by simp; omega
  have h7 : (kd == 7) = false := by simp; omega
  have bo := (Below.refl W.heap.size W).alloc (Nat.le_refl _) (.cells (rqC (.slice A n c) ⟨kd, id_, ep, qs, fr, to_, lm⟩) 43)
  have HB := Lib.hid bo
  have hck := (Blk.new W 43 (rqC (.slice A n c) ⟨kd, id_, ep, qs, fr, to_, lm⟩)).cell
  clear bo hq
  go_enter Tryz.func44, Tryz.ntmps44
  go_wp2
  go_ret
  exact ⟨rfl, HB.out⟩
theorem Fin_lt {m : Nat} {zs : List Int} (h : ∀ z ∈ zs, z ≤ 1099511627776) : ∀ x ∈ shardsP (tsP m zs), 0 ≤ x ∧ x ≤ 1099511627776 := fun x hx => by
  rw [shardsP_mem] at hx
  unfold tsP at hx
  obtain ⟨y, hy, rfl⟩ := List.mem_map.1 hx
  unfold tcP at hy
  rcases List.mem_append.1 hy with hy | hy
  · have := h y (List.mem_of_mem_take hy); omega
  · have := (List.mem_replicate.1 hy).2; omega
set_option maxHeartbeats 16000000 in
set_option maxRecDepth 100000 in
theorem need_cells (p : Option Addr) (k : Int) (hk : k = 1 ∨ k = 2) (A Az : Option Addr) (n c nz cz : Nat) (zs : List Int) (q : Rq) (W : World) (hq : q.kind = k) (hqn : q.cs.length = n) (hzl : zs.length = nz) (hz : CellsAt W Az (ivs zs)) (hn : n ≤ 1000000) (hzm : ∀ z ∈ zs, z ≤ 1099511627776) :
    Calls Tryz.prog 18 #[.pointer p, .agg (rqC (.slice A n c) q), .slice Az nz cz] W (NeedQ W (needP q zs)) := by
  have HNP := Lib.hid (show needP q zs = (shardsP (tsP n zs)).map (fun x => (2 + x, true)) from by unfold needP; rw [if_pos (by rw [hq]; exact hk), hqn])
  rw [HNP.out]
  have hfb := Fin_lt (m := n) hzm
  have hts : (tcP n zs).map (fun x => max x 0) = tsP n zs := rfl
  clear HNP
  generalize tsP n zs = M at *
  obtain ⟨Q, hQ⟩ : ∃ Q, Q = shardsP M := ⟨_, rfl⟩
  rw [← hQ] at hfb ⊢
  have HFB := Lib.hid hfb
  have HTS := Lib.hid hts
  have HQD := Lib.hid hQ
  clear hfb hts hQ
  have bo := (Below.refl W.heap.size W).alloc (Nat.le_refl _) (.cells (rqC (.slice A n c) q) 43)
  have HB := Lib.hid bo
  have C1 := Lib.hid (touch_cells k hk A Az n c nz cz zs q _ hq hzl (hz.below bo) hn)
  have hck := (Blk.new W 43 (rqC (.slice A n c) q)).cell
  have HTL := Lib.hid (tcP_len n zs)
  clear bo hz hzl hq hqn hzm
  go_enter Tryz.func18, Tryz.ntmps18
  go_wp2_with fail
  go_at_call 44; (with_reducible refine C1.out.mono ?_); rintro e w1 ⟨g, rfl, hg, hgl, hb⟩
  have hgl' : W.heap.size + 1 ≤ g := by simpa using hgl
  have HG1 := Lib.hid hg
  have HB1 := Lib.hid (below_step HB.out hb (Nat.le_refl _))
  have ta := tn_cells
  generalize tcP n zs = L at *
  clear hg hgl hb C1 hck
  go_wp2_with fail
  go_loopw [24] (fun t24 wr => ∃ i : Nat, t24 = .int .i64 (i : Int) ∧ i ≤ n ∧ Hid (Blk wr g 3 (ivs (mxP i L)).toArray ∧ Below W.heap.size W wr)) (fun t24 _ => n - (intOf t24).toNat)
  case atStart => exact ⟨0, rfl, Nat.zero_le _, Lib.hid ⟨by rw [mxP_0]; exact HG1.out, HB1.out⟩⟩
  case round =>
    obtain ⟨i, rfl, hi, HP⟩ := hrel
    by_cases hin : i < n
    · have HIL := Lib.hid (show i < L.length by rw [HTL.out]; exact hin)
      obtain ⟨x, hx⟩ : ∃ x, x = L[i]'HIL.out := ⟨_, rfl⟩
      have c0 : wr.cell? ⟨g, i, none⟩ = some (.int .i64 x) := by
        rw [HP.out.1.cell i]
        have := mxP_at i L HIL.out
        simp [ivs, this, hx]
      have f0 : wr.frozen? ⟨g, i, none⟩ = false := HP.out.1.frozen i
      have HST := Lib.hid (show (ivs (mxP i L)).toArray.setIfInBounds i (.int .i64 (max x 0)) = (ivs (mxP (i + 1) L)).toArray from by
        rw [List.setIfInBounds_toArray, ← mxP_step i L HIL.out, hx]
        unfold ivs
        rw [List.map_set])
      have HX := Lib.hid hx
      clear hx
      go_wp2_with fail
      go_roundw
      case rel => exact ⟨i + 1, by go_num, by omega, Lib.hid ⟨by have h9 := HP.out.1.set_ i (.int .i64 (max x 0)); rw [HST.out] at h9; exact h9, HP.out.2.setCell (p := ⟨g, i, none⟩) (by show W.heap.size ≤ g; omega) _⟩⟩
      case measure => simp [intOf]; omega
    · obtain rfl : i = n := by omega
      have HM1 := Lib.hid (show Blk wr g 3 (ivs M).toArray from by
        have h9 := HP.out.1
        rw [show i = L.length from HTL.out.symm, mxP_all, HTS.out] at h9
        exact h9)
      have HML := Lib.hid (show M.length = i by rw [← HTS.out, List.length_map, HTL.out])
      have C2 := Lib.hid (sort_cells g i M wr HM1.out HML.out (by omega))
      have HB2 := Lib.hid HP.out.2
      clear HP hin
      go_wp2_with fail
      go_at_call 45; (with_reducible refine C2.out.mono ?_); rintro e w2 ⟨rfl, hs2, ht2⟩
      have HB3 := Lib.hid (HB2.out.trans (ht2.below HB2.out.size (fun k hk => by subst hk; omega)))
      have C3 := Lib.hid (compact_cells g i (M.mergeSort fun x y => decide (x ≤ y)) w2 hs2 (by rw [List.length_mergeSort]; exact HML.out) (by omega))
      have HPL := Lib.hid (show Q.length ≤ i from by rw [HQD.out]; exact Nat.le_trans (shardsP_len M) (Nat.le_of_eq HML.out))
      rw [show Go.Lib.compact (M.mergeSort fun x y => decide (x ≤ y)) = Q from HQD.out.symm] at C3
      clear hs2 ht2 C2 HM1 HB2 HML
      go_wp2_with fail
      go_at_call 46; (with_reducible refine C3.out.mono ?_); rintro e w3 ⟨rfl, ⟨ys, hy⟩, ht3⟩
      have HB4 := Lib.hid (HB3.out.trans (ht3.below HB3.out.size (fun k hk => by subst hk; omega)))
      have HG4 := Lib.hid hy
      obtain ⟨m, hm⟩ : ∃ m, m = Q.length := ⟨_, rfl⟩
      have HQL := Lib.hid hm
      rw [← hm] at HPL
      rw [← hm]
      obtain ⟨ik, hik, hz0, hz1, hz2⟩ := info_parts info_lock
      have HI := Lib.hid (show Tryz.prog.info? 53 = some ik ∧ ik.zero = some (.agg #[.int .i64 0, .bool false]) ∧ ik.size = 2 ∧ ik.bytes = 16 from ⟨hik, hz0, hz1, hz2⟩)
      have hmi : m ≤ i := HPL.out
      clear hy ht3 C3 hm HB3 hik hz0 hz1 hz2
      go_wp2_with fail
      go_loopw [9, 41] (fun t9 t41 wz => ∃ (j c9 : Nat) (A9 : Option Addr), t41 = .int .i64 (j : Int) ∧ t9 = .slice A9 j c9 ∧ j ≤ m ∧ Hid (wz.ownsRow W.heap.size 53 2 (.slice A9 j c9) j (lockCs ((Q.take j).map (fun x => (2 + x, true)))) ∧ Blk wz g 3 (ivs (Q ++ ys)).toArray ∧ Below W.heap.size W wz)) (fun _ t41 _ => m - (intOf t41).toNat)
      case atStart => exact ⟨0, 0, none, rfl, rfl, Nat.zero_le _, Lib.hid ⟨by rw [List.take_zero]; exact World.ownsRow_nil _ _ _ _, HG4.out, HB4.out⟩⟩
      case round =>
        obtain ⟨j, c9, A9, rfl, rfl, hj, HR⟩ := hrel
        rename World => wz
        by_cases hjm : j < m
        · have HJ := Lib.hid (show j < Q.length by rw [← HQL.out]; exact hjm)
          obtain ⟨x, hx⟩ : ∃ x, x = Q[j]'HJ.out := ⟨_, rfl⟩
          have c0 : wz.cell? ⟨g, j, none⟩ = some (.int .i64 x) := by
            rw [HR.out.2.1.cell j]
            have h9 : (Q ++ ys)[j]? = some x := by rw [List.getElem?_append_left HJ.out, List.getElem?_eq_getElem HJ.out, hx]
            have h8 : (ivs (Q ++ ys))[j]? = some (.int .i64 x) := by unfold ivs; rw [List.getElem?_map, h9]; rfl
            simpa using h8
          have hxb := HFB.out x (by rw [hx]; exact List.getElem_mem _)
          have HXB := Lib.hid hxb
          have hw2 : IntKind.i64.wrap (2 + x) = 2 + x := by rw [IntKind.wrap_i64]; omega
          have hml : m ≤ maxLen := by unfold maxLen; omega
          have HTK := Lib.hid (show lockCs ((Q.take j).map (fun x => (2 + x, true))) ++ [Value.int .i64 (2 + x), .bool true] = lockCs ((Q.take (j + 1)).map (fun x => (2 + x, true))) from by
            rw [List.take_add_one, List.getElem?_eq_getElem HJ.out, Option.toList_some, List.map_append, lockCs_app, hx]
            rfl)
          have HLW := Lib.hid (lock_lit wz [(2 + x, true)] 0 (Nat.zero_le _) (by simp))
          have HNB := Lib.hid (Blk.new wz 53 #[.int .i64 (2 + x), .bool true])
          have HRO := Lib.hid (ownsRow_tur HR.out.1 (Tur.of_below (S := fun _ => False) ((Below.refl wz.heap.size wz).alloc (Nat.le_refl _) (.cells #[.int .i64 (2 + x), .bool true] 53))) (fun _ _ h => h))
          have HRG := Lib.hid (HR.out.2.1.alloc (.cells #[.int .i64 (2 + x), .bool true] 53))
          have HRB := Lib.hid (HR.out.2.2.alloc HR.out.2.2.size (.cells #[.int .i64 (2 + x), .bool true] 53))
          clear hx hxb
          go_wp2_with (at_builtin; go_loud (refine wpList_append_own_at _ rfl _ _ _ rfl W.heap.size 53 ik (.agg #[.int .i64 0, .bool false]) 2 16 Tryz.underlying45 HI.out.1 HI.out.2.1 HI.out.2.2.1 HI.out.2.2.2 rfl (by omega) (.slice A9 j c9) j (lockCs ((Q.take j).map (fun x => (2 + x, true)))) rfl HRO.out ⟨wz.heap.size, 0, none⟩ 1 1 [.int .i64 (2 + x), .bool true] rfl rfl (fun k u hk => by (rw [add_zero_, HNB.out.cell k]; simpa using hk)) (by intro u hu; simp at hu; rcases hu with rfl | rfl <;> rfl) (by omega) (by omega) (by have := HRB.out.size; exact this) ?_)
                       intro v' w4 hown hg4 hnil hv4
                       obtain ⟨A', c', rfl⟩ := own_form3 hown
                       have HO4 := Lib.hid hown
                       have HG5 := Lib.hid (HRG.out.grown hg4 (fun e => by
                         obtain ⟨cur, hb9⟩ := own_blk HRO.out g e.symm
                         exact (HRG.out.ne_ hb9 (by decide)) rfl))
                       have HB5 := Lib.hid (HRB.out.grown hg4 HRB.out.size (fun k e => (HRO.out.lt k e).1))
                       clear hown hg4 hnil hv4)
          go_roundw
          case rel => exact ⟨j + 1, c', A', by go_num, rfl, by omega, Lib.hid ⟨by rw [← HTK.out]; exact HO4.out, HG5.out, HB5.out⟩⟩
          case measure => simp [intOf]; omega
        · obtain rfl : j = m := by omega
          have HQR := Lib.hid (show wz.ownsRow W.heap.size 53 2 (.slice A9 j c9) j (lockCs (Q.map (fun x => (2 + x, true)))) from by
            have h9 := HR.out.1
            rwa [show List.take j Q = Q from by rw [HQL.out]; exact List.take_length] at h9)
          have HBR := Lib.hid HR.out.2.2
          clear HR
          go_wp2_with fail
          go_ret
          refine ⟨A9, c9, by rw [List.length_map, ← HQL.out]; rfl, ?_, HBR.out⟩
          unfold LocksOwn
          rw [List.length_map, ← HQL.out]
          exact HQR.out
set_option maxHeartbeats 4000000 in
set_option maxRecDepth 100000 in
theorem need_scan (p : Option Addr) (A Az : Option Addr) (n c nz cz : Nat) (q : Rq) (W : World) (hq : q.kind = 3) (hep : (q.epoch == 0) = false) :
    Calls Tryz.prog 18 #[.pointer p, .agg (rqC (.slice A n c) q), .slice Az nz cz] W (NeedQ W [(2, true)]) := by
  have bo := (Below.refl W.heap.size W).alloc (Nat.le_refl _) (.cells (rqC (.slice A n c) q) 43)
  have HB := Lib.hid bo
  have C1 := Lib.hid (touch_3s A Az n c nz cz q (W.alloc (.cells (rqC (.slice A n c) q) 43)) hq hep)
  have hck := (Blk.new W 43 (rqC (.slice A n c) q)).cell
  clear bo hq hep
  go_enter Tryz.func18, Tryz.ntmps18
  go_wp2_with fail
  go_at_call 44; (with_reducible refine C1.out.mono ?_); rintro e w1 ⟨rfl, hb⟩
  have HB1 := Lib.hid (below_step HB.out hb (Nat.le_refl _))
  have t0 := tn_scan_cells
  have t1 := tn_scan
  clear hb C1 hck
  go_wp2_with fail
  go_ret
  have hs := HB1.out.size
  refine ⟨_, _, rfl, ?_, ?_⟩
  · have h9 := lock_lit (w1.alloc (.cells #[] 101)) [(2, true)] W.heap.size (Below.alloc HB1.out hs _).size (by simp)
    rw [show (w1.alloc (.cells #[] 101)).heap.size = w1.heap.size + 1 from Array.size_push ..] at h9
    exact h9
  · exact Below.alloc (Below.alloc HB1.out hs _) (Below.alloc HB1.out hs _).size _
set_option maxHeartbeats 4000000 in
set_option maxRecDepth 100000 in
theorem need_seal3 (p : Option Addr) (A Az : Option Addr) (n c nz cz : Nat) (q : Rq) (W : World) (hq : q.kind = 3) (hep : q.epoch = 0) :
    Calls Tryz.prog 18 #[.pointer p, .agg (rqC (.slice A n c) q), .slice Az nz cz] W (NeedQ W [(0, false), (1, false)]) := by
  have bo := (Below.refl W.heap.size W).alloc (Nat.le_refl _) (.cells (rqC (.slice A n c) q) 43)
  have HB := Lib.hid bo
  have C1 := Lib.hid (touch_3e A Az n c nz cz q (W.alloc (.cells (rqC (.slice A n c) q) 43)) hq hep)
  have hck := (Blk.new W 43 (rqC (.slice A n c) q)).cell
  clear bo hq hep
  go_enter Tryz.func18, Tryz.ntmps18
  go_wp2_with fail
  go_at_call 44; (with_reducible refine C1.out.mono ?_); rintro e w1 ⟨rfl, hb⟩
  have HB1 := Lib.hid (below_step HB.out hb (Nat.le_refl _))
  have t0 := tn_seal_cells
  have t1 := tn_seal_scan
  have t2 := tn_seal
  clear hb C1 hck
  go_wp2_with fail
  go_ret
  have hs := HB1.out.size
  refine ⟨_, _, rfl, ?_, ?_⟩
  · have h9 := lock_lit (w1.alloc (.cells #[] 102)) [(0, false), (1, false)] W.heap.size (Below.alloc HB1.out hs _).size (by simp)
    rw [show (w1.alloc (.cells #[] 102)).heap.size = w1.heap.size + 1 from Array.size_push ..] at h9
    exact h9
  · exact Below.alloc (Below.alloc HB1.out hs _) (Below.alloc HB1.out hs _).size _
set_option maxHeartbeats 4000000 in
set_option maxRecDepth 100000 in
theorem need_seal4 (p : Option Addr) (A Az : Option Addr) (n c nz cz : Nat) (q : Rq) (W : World) (hq : q.kind = 4) :
    Calls Tryz.prog 18 #[.pointer p, .agg (rqC (.slice A n c) q), .slice Az nz cz] W (NeedQ W [(0, false), (1, false)]) := by
  have bo := (Below.refl W.heap.size W).alloc (Nat.le_refl _) (.cells (rqC (.slice A n c) q) 43)
  have HB := Lib.hid bo
  have C1 := Lib.hid (touch_4 A Az n c nz cz q (W.alloc (.cells (rqC (.slice A n c) q) 43)) hq)
  have hck := (Blk.new W 43 (rqC (.slice A n c) q)).cell
  clear bo hq
  go_enter Tryz.func18, Tryz.ntmps18
  go_wp2_with fail
  go_at_call 44; (with_reducible refine C1.out.mono ?_); rintro e w1 ⟨rfl, hb⟩
  have HB1 := Lib.hid (below_step HB.out hb (Nat.le_refl _))
  have t0 := tn_seal_cells
  have t1 := tn_seal_scan
  have t2 := tn_seal
  clear hb C1 hck
  go_wp2_with fail
  go_ret
  have hs := HB1.out.size
  refine ⟨_, _, rfl, ?_, ?_⟩
  · have h9 := lock_lit (w1.alloc (.cells #[] 102)) [(0, false), (1, false)] W.heap.size (Below.alloc HB1.out hs _).size (by simp)
    rw [show (w1.alloc (.cells #[] 102)).heap.size = w1.heap.size + 1 from Array.size_push ..] at h9
    exact h9
  · exact Below.alloc (Below.alloc HB1.out hs _) (Below.alloc HB1.out hs _).size _
set_option maxHeartbeats 4000000 in
set_option maxRecDepth 100000 in
theorem need_book5 (p : Option Addr) (A Az : Option Addr) (n c nz cz : Nat) (q : Rq) (W : World) (hq : q.kind = 5) :
    Calls Tryz.prog 18 #[.pointer p, .agg (rqC (.slice A n c) q), .slice Az nz cz] W (NeedQ W [(1, false)]) := by
  have bo := (Below.refl W.heap.size W).alloc (Nat.le_refl _) (.cells (rqC (.slice A n c) q) 43)
  have HB := Lib.hid bo
  have C1 := Lib.hid (touch_5 A Az n c nz cz q (W.alloc (.cells (rqC (.slice A n c) q) 43)) hq)
  have hck := (Blk.new W 43 (rqC (.slice A n c) q)).cell
  clear bo hq
  go_enter Tryz.func18, Tryz.ntmps18
  go_wp2_with fail
  go_at_call 44; (with_reducible refine C1.out.mono ?_); rintro e w1 ⟨rfl, hb⟩
  have HB1 := Lib.hid (below_step HB.out hb (Nat.le_refl _))
  have t0 := tn_book_cells
  have t1 := tn_book_scan
  have t2 := tn_book_seal
  have t3 := tn_book
  clear hb C1 hck
  go_wp2_with fail
  go_ret
  have hs := HB1.out.size
  refine ⟨_, _, rfl, ?_, ?_⟩
  · have h9 := lock_lit (w1.alloc (.cells #[] 103)) [(1, false)] W.heap.size (Below.alloc HB1.out hs _).size (by simp)
    rw [show (w1.alloc (.cells #[] 103)).heap.size = w1.heap.size + 1 from Array.size_push ..] at h9
    exact h9
  · exact Below.alloc (Below.alloc HB1.out hs _) (Below.alloc HB1.out hs _).size _
set_option maxHeartbeats 4000000 in
set_option maxRecDepth 100000 in
theorem need_book6 (p : Option Addr) (A Az : Option Addr) (n c nz cz : Nat) (q : Rq) (W : World) (hq : q.kind = 6) :
    Calls Tryz.prog 18 #[.pointer p, .agg (rqC (.slice A n c) q), .slice Az nz cz] W (NeedQ W [(1, false)]) := by
  have bo := (Below.refl W.heap.size W).alloc (Nat.le_refl _) (.cells (rqC (.slice A n c) q) 43)
  have HB := Lib.hid bo
  have C1 := Lib.hid (touch_6 A Az n c nz cz q (W.alloc (.cells (rqC (.slice A n c) q) 43)) hq)
  have hck := (Blk.new W 43 (rqC (.slice A n c) q)).cell
  clear bo hq
  go_enter Tryz.func18, Tryz.ntmps18
  go_wp2_with fail
  go_at_call 44; (with_reducible refine C1.out.mono ?_); rintro e w1 ⟨rfl, hb⟩
  have HB1 := Lib.hid (below_step HB.out hb (Nat.le_refl _))
  have t0 := tn_book_cells
  have t1 := tn_book_scan
  have t2 := tn_book_seal
  have t3 := tn_book
  clear hb C1 hck
  go_wp2_with fail
  go_ret
  have hs := HB1.out.size
  refine ⟨_, _, rfl, ?_, ?_⟩
  · have h9 := lock_lit (w1.alloc (.cells #[] 103)) [(1, false)] W.heap.size (Below.alloc HB1.out hs _).size (by simp)
    rw [show (w1.alloc (.cells #[] 103)).heap.size = w1.heap.size + 1 from Array.size_push ..] at h9
    exact h9
  · exact Below.alloc (Below.alloc HB1.out hs _) (Below.alloc HB1.out hs _).size _
set_option maxHeartbeats 4000000 in
set_option maxRecDepth 100000 in
theorem need_stats (p : Option Addr) (A Az : Option Addr) (n c nz cz : Nat) (q : Rq) (W : World) (hq : q.kind = 7) :
    Calls Tryz.prog 18 #[.pointer p, .agg (rqC (.slice A n c) q), .slice Az nz cz] W (NeedQ W [(0, false)]) := by
  have bo := (Below.refl W.heap.size W).alloc (Nat.le_refl _) (.cells (rqC (.slice A n c) q) 43)
  have HB := Lib.hid bo
  have C1 := Lib.hid (touch_7 A Az n c nz cz q (W.alloc (.cells (rqC (.slice A n c) q) 43)) hq)
  have hck := (Blk.new W 43 (rqC (.slice A n c) q)).cell
  clear bo hq
  go_enter Tryz.func18, Tryz.ntmps18
  go_wp2_with fail
  go_at_call 44; (with_reducible refine C1.out.mono ?_); rintro e w1 ⟨rfl, hb⟩
  have HB1 := Lib.hid (below_step HB.out hb (Nat.le_refl _))
  have t0 := tn_stats_cells
  have t1 := tn_stats_scan
  have t2 := tn_stats_seal
  have t3 := tn_stats_book
  have t4 := tn_stats
  clear hb C1 hck
  go_wp2_with fail
  go_ret
  have hs := HB1.out.size
  refine ⟨_, _, rfl, ?_, ?_⟩
  · have h9 := lock_lit (w1.alloc (.cells #[] 104)) [(0, false)] W.heap.size (Below.alloc HB1.out hs _).size (by simp)
    rw [show (w1.alloc (.cells #[] 104)).heap.size = w1.heap.size + 1 from Array.size_push ..] at h9
    exact h9
  · exact Below.alloc (Below.alloc HB1.out hs _) (Below.alloc HB1.out hs _).size _
set_option maxHeartbeats 4000000 in
set_option maxRecDepth 100000 in
theorem need_none (p : Option Addr) (A Az : Option Addr) (n c nz cz : Nat) (q : Rq) (W : World) (hq : q.kind < 1 ∨ 7 < q.kind) :
    Calls Tryz.prog 18 #[.pointer p, .agg (rqC (.slice A n c) q), .slice Az nz cz] W (NeedQ W []) := by
  have bo := (Below.refl W.heap.size W).alloc (Nat.le_refl _) (.cells (rqC (.slice A n c) q) 43)
  have HB := Lib.hid bo
  have C1 := Lib.hid (touch_none A Az n c nz cz q (W.alloc (.cells (rqC (.slice A n c) q) 43)) hq)
  have hck := (Blk.new W 43 (rqC (.slice A n c) q)).cell
  clear bo hq
  go_enter Tryz.func18, Tryz.ntmps18
  go_wp2_with fail
  go_at_call 44; (with_reducible refine C1.out.mono ?_); rintro e w1 ⟨rfl, hb⟩
  have HB1 := Lib.hid (below_step HB.out hb (Nat.le_refl _))
  have t0 := tn_nil_cells
  have t1 := tn_nil_scan
  have t2 := tn_nil_seal
  have t3 := tn_nil_book
  have t4 := tn_nil_stats
  clear hb C1 hck
  go_wp2_with fail
  go_ret
  exact ⟨none, 0, rfl, World.ownsRow_nil _ _ _ _, HB1.out⟩
theorem need_any (p : Option Addr) (A Az : Option Addr) (n c nz cz : Nat) (zs : List Int) (q : Rq) (W : World) (hqn : q.cs.length = n) (hzl : zs.length = nz) (hz : CellsAt W Az (ivs zs)) (hn : n ≤ 1000000) (hzm : ∀ z ∈ zs, z ≤ 1099511627776) :
    Calls Tryz.prog 18 #[.pointer p, .agg (rqC (.slice A n c) q), .slice Az nz cz] W (NeedQ W (needP q zs)) := by
  by_cases h12 : q.kind = 1 ∨ q.kind = 2
  · exact need_cells p q.kind h12 A Az n c nz cz zs q W rfl hqn hzl hz hn hzm
  · unfold needP
    rw [if_neg h12]
    by_cases h3 : q.kind = 3
    · rw [if_pos h3]
      by_cases he : q.epoch = 0
      · rw [if_neg (by simp [he])]
        exact need_seal3 p A Az n c nz cz q W h3 he
      · rw [if_pos he]
        exact need_scan p A Az n c nz cz q W h3 (by simpa using he)
    · rw [if_neg h3]
      by_cases h4 : q.kind = 4
      · rw [if_pos h4]
        exact need_seal4 p A Az n c nz cz q W h4
      · rw [if_neg h4]
        by_cases h56 : q.kind = 5 ∨ q.kind = 6
        · rw [if_pos h56]
          rcases h56 with h5 | h6
          · exact need_book5 p A Az n c nz cz q W h5
          · exact need_book6 p A Az n c nz cz q W h6
        · rw [if_neg h56]
          by_cases h7 : q.kind = 7
          · rw [if_pos h7]
            exact need_stats p A Az n c nz cz q W h7
          · rw [if_neg h7]
            exact need_none p A Az n c nz cz q W (by omega)
end Go.Proofs.YtglbdbghcdoicaaGreatDoor

namespace Go.Proofs.YtglbdbghcdoicaaGreatDoor
open Go.RowKit

theorem needP_rise (q : Rq) (zs : List Int) : (needP q zs).Pairwise (fun a b => a.1 < b.1) := by
  unfold needP
  split
  · rw [List.pairwise_map]
    exact (shardsP_sorted _).imp fun h => by show _ < _; omega
  · repeat' split
    all_goals simp
theorem needP_two (q : Rq) (zs : List Int) (h : ¬ (q.kind = 1 ∨ q.kind = 2)) : (needP q zs).length ≤ 2 := by
  unfold needP
  rw [if_neg h]
  repeat' split
  all_goals simp
theorem needP_len (q : Rq) (zs : List Int) (h : q.kind = 1 ∨ q.kind = 2) : (needP q zs).length ≤ q.cs.length := by
  unfold needP
  rw [if_pos h, List.length_map]
  exact Nat.le_trans (shardsP_len _) (Nat.le_of_eq (tsP_len _ _))
/-- Where a cell goes. -/
def routeP (zs : List Int) (i : Nat) : Int := max (zs.getD i 0) 0
theorem tcP_get (m : Nat) (zs : List Int) (i : Nat) (hi : i < m) : (tcP m zs)[i]? = some (zs.getD i 0) := by
  unfold tcP
  by_cases h : i < zs.length
  · rw [List.getElem?_append_left (by rw [List.length_take]; omega), List.getElem?_take, if_pos hi, List.getD_eq_getElem?_getD, List.getElem?_eq_getElem h]; rfl
  · rw [List.getElem?_append_right (by rw [List.length_take]; omega), List.length_take, List.getElem?_replicate, if_pos (by omega), List.getD_eq_getElem?_getD, List.getElem?_eq_none (by omega)]; rfl
theorem needP_mem (q : Rq) (zs : List Int) (h : q.kind = 1 ∨ q.kind = 2) (i : Nat) (hi : i < q.cs.length) : (2 + routeP zs i, true) ∈ needP q zs := by
  unfold needP
  rw [if_pos h]
  refine List.mem_map.2 ⟨routeP zs i, ?_, rfl⟩
  rw [shardsP_mem]
  unfold tsP
  exact List.mem_map.2 ⟨zs.getD i 0, List.mem_of_getElem? (tcP_get _ zs i hi), rfl⟩
/-- Locks as they lie. -/
def LkAt (W : World) (A : Option Addr) (ls : List LockV) : Prop := ∀ k (h : k < ls.length), ∃ g, A = some ⟨g, 0, none⟩ ∧ W.cell? ⟨g, k * 2, none⟩ = some (.int .i64 ls[k].1) ∧ W.cell? ⟨g, k * 2 + 1, none⟩ = some (.bool ls[k].2)
theorem lockCs_get : ∀ (ls : List LockV) (k : Nat) (h : k < ls.length), (lockCs ls)[k * 2]? = some (.int .i64 ls[k].1) ∧ (lockCs ls)[k * 2 + 1]? = some (.bool ls[k].2)
  | [], _, h => absurd h (Nat.not_lt_zero _)
  | l :: ls, 0, _ => ⟨rfl, rfl⟩
  | l :: ls, k + 1, h => by
    have ih := lockCs_get ls k (by simpa using h)
    have e1 : lockCs (l :: ls) = .int .i64 l.1 :: .bool l.2 :: lockCs ls := rfl
    rw [e1, show (k + 1) * 2 = k * 2 + 1 + 1 by omega, show k * 2 + 1 + 1 + 1 = (k * 2 + 1) + 1 + 1 by omega]
    simpa using ih
theorem LocksOwn.lk {W : World} {B : Nat} {A : Option Addr} {c n : Nat} {ls : List LockV} (h : LocksOwn W B (.slice A n c) ls) : LkAt W A ls := fun k hk => by
  unfold LocksOwn at h
  rcases h.2 with ⟨hv, h0⟩ | ⟨g, cap, cur, hv, _⟩
  · omega
  · injection hv with hA hn hc
    have hc := World.ownsRow.cells (g := g) h (by rw [hA]; rfl)
    obtain ⟨e1, e2⟩ := lockCs_get ls k hk
    have c1 := hc _ _ e1
    have c2 := hc _ _ e2
    rw [add_zero_] at c1 c2
    exact ⟨g, hA, c1, c2⟩
/-- Is the lock among the first k? -/
structure HasL (ls : List LockV) (tt : Int) (k : Nat) (b : Bool) : Prop where
  iff_ : b = true ↔ ∃ j, ∃ h : j < ls.length, j < k ∧ ls[j] = (tt, true)
theorem HasL.zero (ls : List LockV) (tt : Int) : HasL ls tt 0 false := ⟨⟨fun h => (by cases h), fun ⟨_, _, h, _⟩ => absurd h (Nat.not_lt_zero _)⟩⟩
theorem HasL.yes {ls : List LockV} {tt : Int} {k : Nat} (h : HasL ls tt k true) : HasL ls tt (k + 1) true := by
  obtain ⟨j, hj, h1, h2⟩ := h.iff_.1 rfl
  exact ⟨⟨fun _ => ⟨j, hj, Nat.lt_succ_of_lt h1, h2⟩, fun _ => rfl⟩⟩
theorem HasL.here {ls : List LockV} {tt : Int} {k : Nat} (hk : k < ls.length) (he : ls[k] = (tt, true)) : HasL ls tt (k + 1) true := ⟨⟨fun _ => ⟨k, hk, by omega, he⟩, fun _ => rfl⟩⟩
theorem HasL.not_ {ls : List LockV} {tt : Int} {k : Nat} (h : HasL ls tt k false) (hk : k < ls.length) (he : ls[k] ≠ (tt, true)) : HasL ls tt (k + 1) false := by
  refine ⟨⟨fun h => (by cases h), ?_⟩⟩
  rintro ⟨j, hj, h1, h2⟩
  by_cases hjk : j = k
  · subst hjk; exact absurd h2 he
  · exact h.iff_.2 ⟨j, hj, by omega, h2⟩
theorem HasL.all {ls : List LockV} {tt : Int} {k : Nat} {b : Bool} (h : HasL ls tt k b) (hk : k = ls.length) (hm : (tt, true) ∈ ls) : b = true := h.iff_.2 (by
  obtain ⟨j, hj, he⟩ := List.getElem_of_mem hm
  exact ⟨j, hj, by omega, he⟩)
theorem LkAt.below {W W' : World} {A : Option Addr} {ls : List LockV} (h : LkAt W A ls) (hb : Below W.heap.size W W') : LkAt W' A ls := fun k hk => by
  obtain ⟨g, hA, c1, c2⟩ := h k hk
  exact ⟨g, hA, (hb.cell (p := ⟨g, k * 2, none⟩) (World.block_lt_of_cell? W _ c1)).trans c1, (hb.cell (p := ⟨g, k * 2 + 1, none⟩) (World.block_lt_of_cell? W _ c2)).trans c2⟩
end Go.Proofs.YtglbdbghcdoicaaGreatDoor

namespace Go.Proofs.YtglbdbghcdoicaaGreatDoor
open Go.RowKit

def mapL (Q : List Int) : List LockV := Q.map (fun x => (2 + x, true))
theorem mapL_len (Q : List Int) : (mapL Q).length = Q.length := by simp [mapL]
theorem mapL_get (Q : List Int) (k : Nat) (h : k < Q.length) : (mapL Q)[k]'(by rw [mapL_len]; exact h) = (2 + Q[k], true) := by simp [mapL]
def outP (n : Nat) (zs : List Int) (i : Nat) : List Int := insAll ((tsP n zs).take i)
theorem tsP_get (n : Nat) (zs : List Int) (i : Nat) (hi : i < n) : (tsP n zs)[i]? = some (routeP zs i) := by
  unfold tsP
  rw [List.getElem?_map, tcP_get n zs i hi]
  rfl
theorem outP_step (n : Nat) (zs : List Int) (i : Nat) (hi : i < n) : outP n zs (i + 1) = insP (routeP zs i) (outP n zs i) := by
  unfold outP insAll
  rw [List.take_add_one, tsP_get n zs i hi, Option.toList_some, List.foldl_append]
  rfl
theorem outP_all (n : Nat) (zs : List Int) : outP n zs n = shardsP (tsP n zs) := by
  unfold outP
  rw [List.take_of_length_le (by rw [tsP_len]; exact Nat.le_refl _), insAll_eq]
theorem insP_len (x : Int) : ∀ l : List Int, (insP x l).length ≤ l.length + 1
  | [] => by simp [insP]
  | y :: ys => by
    unfold insP
    split
    · have := insP_len x ys; simp; omega
    · split <;> simp
theorem outP_len (n : Nat) (zs : List Int) : ∀ i, i ≤ n → (outP n zs i).length ≤ i
  | 0, _ => by simp [outP, insAll]
  | i + 1, h => by
    rw [outP_step n zs i (by omega)]
    have := insP_len (routeP zs i) (outP n zs i)
    have := outP_len n zs i (by omega)
    omega
theorem outP_bd (n : Nat) (zs : List Int) (h : ∀ z ∈ zs, z ≤ 1099511627776) : ∀ i, i ≤ n → ∀ x ∈ outP n zs i, 0 ≤ x ∧ x ≤ 1099511627776
  | 0, _, x, hx => by simp [outP, insAll] at hx
  | i + 1, hi, x, hx => by
    rw [outP_step n zs i (by omega), insP_mem] at hx
    rcases hx with rfl | hx
    · unfold routeP
      rw [List.getD_eq_getElem?_getD]
      by_cases hl : i < zs.length
      · rw [List.getElem?_eq_getElem hl]
        have := h _ (List.getElem_mem hl)
        simp only [Option.getD_some]
        omega
      · rw [List.getElem?_eq_none (by omega)]; simp
    · exact outP_bd n zs h i (by omega) x hx
theorem insP_at (x : Int) : ∀ (Q : List Int) (j : Nat), j ≤ Q.length → (∀ a (h : a < Q.length), a < j → Q[a] < x) → (∀ h : j < Q.length, ¬ Q[j] < x) →
    insP x Q = if h : j < Q.length then (if Q[j] = x then Q else Q.take j ++ x :: Q.drop j) else Q.take j ++ x :: Q.drop j
  | [], j, hj, _, _ => by
    obtain rfl : j = 0 := by simpa using hj
    simp [insP]
  | y :: ys, 0, _, _, h2 => by
    have h2' := h2 (by simp)
    have h2'' : ¬ y < x := h2'
    rw [dif_pos (by simp)]
    simp only [List.getElem_cons_zero, List.take_zero, List.drop_zero, List.nil_append]
    unfold insP
    rw [if_neg h2'']
  | y :: ys, j + 1, hj, h1, h2 => by
    have hy : y < x := h1 0 (by simp) (by omega)
    have ih := insP_at x ys j (by simpa using hj) (fun a h h' => h1 (a + 1) (by simpa using h) (by omega)) (fun h => h2 (by simpa using h))
    unfold insP
    rw [if_pos hy, ih]
    by_cases hl : j < ys.length
    · rw [dif_pos hl, dif_pos (by simpa using hl)]
      simp only [List.getElem_cons_succ, List.take_succ_cons, List.drop_succ_cons]
      split <;> rfl
    · rw [dif_neg hl, dif_neg (by simpa using hl)]
      rfl
theorem own_cap {W : World} {B : Nat} {e : TypeId} {size : Nat} {A : Option Addr} {n c : Nat} {xs : List Value} (h : W.ownsRow B e size (.slice A n c) n xs) : n ≤ c ∧ (A = none → n = 0 ∧ c = 0) := by
  rcases h.2 with ⟨hv, h0⟩ | ⟨g, cap, cur, hv, _, _, hc, _⟩
  · injection hv with hA hn hc
    exact ⟨by omega, fun _ => ⟨h0, hc⟩⟩
  · injection hv with hA hn hc'
    exact ⟨by omega, fun e => by rw [e] at hA; cases hA⟩
theorem own_addr {W : World} {B : Nat} {e : TypeId} {size : Nat} {ad : Addr} {n c : Nat} {xs : List Value} (h : W.ownsRow B e size (.slice (some ad) n c) n xs) : ∃ g, ad = ⟨g, 0, none⟩ ∧ B ≤ g ∧ g < W.heap.size ∧ ∀ j u, xs[j]? = some u → W.cell? ⟨g, j, none⟩ = some u := by
  obtain ⟨g, rfl⟩ : ∃ g, ad = ⟨g, 0, none⟩ := by
    rcases h.2 with ⟨hv, _⟩ | ⟨g, cap, cur, hv, _⟩
    · injection hv with hA; cases hA
    · injection hv with hA; exact ⟨g, by injection hA⟩
  have hl := h.lt g rfl
  exact ⟨g, rfl, hl.1, hl.2, fun j u hj => by have := World.ownsRow.cells (g := g) h rfl j u hj; rwa [add_zero_] at this⟩
theorem cells_new2 (w : World) (a b : Value) : CellsAt (w.alloc (.cells #[a, b] 53)) (some ⟨w.heap.size, 0, none⟩) [a, b] := fun k hk => by
  refine ⟨_, rfl, by simp, ?_⟩
  rw [add_zero_, (Blk.new w 53 #[a, b]).cell k]
  simp at hk ⊢
theorem own_alloc {w : World} {B : Nat} {e : TypeId} {size : Nat} {v : Value} {n : Nat} {xs : List Value} (h : w.ownsRow B e size v n xs) (o : Obj) : (w.alloc o).ownsRow B e size v n xs :=
  ownsRow_tur h (Tur.of_below (S := fun _ => False) ((Below.refl w.heap.size w).alloc (Nat.le_refl _) o)) (fun _ _ h => h)
theorem own_lower {w : World} {B B' : Nat} {e : TypeId} {size : Nat} {v : Value} {n : Nat} {xs : List Value} (h : w.ownsRow B e size v n xs) (hb : B' ≤ B) : w.ownsRow B' e size v n xs :=
  ⟨h.1, h.2.imp id (fun ⟨g, cap, cur, hv, hb', r⟩ => ⟨g, cap, cur, hv, Nat.le_trans hb hb', r⟩)⟩
theorem own_max {W : World} {B : Nat} {e : TypeId} {size : Nat} {A : Option Addr} {n c : Nat} {xs : List Value} (h : W.ownsRow B e size (.slice A n c) n xs) : c ≤ maxLen := by
  rcases h.2 with ⟨hv, h0⟩ | ⟨g, cap, cur, hv, _, _, _, hm, _⟩
  · injection hv with hA hn hc
    rw [hc]; exact Nat.zero_le _
  · injection hv with hA hn hc
    rw [hc]; exact hm
theorem lockCs_take (Q : List Int) (j : Nat) : lockCs (mapL (Q.take j)) = (lockCs (mapL Q)).take (j * 2) := by
  induction Q generalizing j with
  | nil => simp [mapL, lockCs]
  | cons y ys ih =>
    cases j with
    | zero => simp [mapL, lockCs]
    | succ j =>
      have e : lockCs (mapL (y :: ys)) = Value.int .i64 (2 + y) :: .bool true :: lockCs (mapL ys) := rfl
      have e2 : lockCs (mapL ((y :: ys).take (j + 1))) = Value.int .i64 (2 + y) :: .bool true :: lockCs (mapL (ys.take j)) := rfl
      rw [e, e2, ih, show (j + 1) * 2 = j * 2 + 1 + 1 by omega]
      rfl
theorem lockCs_drop (Q : List Int) (j : Nat) : lockCs (mapL (Q.drop j)) = (lockCs (mapL Q)).drop (j * 2) := by
  induction Q generalizing j with
  | nil => simp [mapL, lockCs]
  | cons y ys ih =>
    cases j with
    | zero => simp
    | succ j =>
      have e : lockCs (mapL (y :: ys)) = Value.int .i64 (2 + y) :: .bool true :: lockCs (mapL ys) := rfl
      rw [e, show (j + 1) * 2 = j * 2 + 1 + 1 by omega]
      exact ih j
theorem own_src {W : World} {B : Nat} {A : Option Addr} {k c : Nat} {Q : List Int} (h : W.ownsRow B 53 2 (.slice A k c) k (lockCs (mapL Q))) (j : Nat) : CellsAt W A (lockCs (mapL (Q.take j))) := fun a ha => by
  rw [lockCs_take] at ha
  have ha' : a < (lockCs (mapL Q)).length := by rw [List.length_take] at ha; omega
  cases A with
  | none =>
    have := (own_cap h).2 rfl
    have hl := h.1
    rw [this.1] at hl
    omega
  | some ad =>
    obtain ⟨g, rfl, _, hg, hc⟩ := own_addr h
    refine ⟨_, rfl, hg, ?_⟩
    rw [add_zero_]
    refine hc a _ ?_
    simp only [lockCs_take]
    rw [List.getElem_take]
    exact List.getElem?_eq_getElem ha'
theorem own_srb {W : World} {B : Nat} {g k c : Nat} {Q : List Int} (h : W.ownsRow B 53 2 (.slice (some ⟨g, 0, none⟩) k c) k (lockCs (mapL Q))) (j : Nat) : CellsAt W (some ⟨g, j * 2, none⟩) (lockCs (mapL (Q.drop j))) := fun a ha => by
  obtain ⟨g', hg', _, hg, hc⟩ := own_addr h
  injection hg' with hg'
  subst hg'
  refine ⟨_, rfl, hg, ?_⟩
  have ha' : j * 2 + a < (lockCs (mapL Q)).length := by rw [lockCs_drop, List.length_drop] at ha; omega
  rw [show (⟨g, j * 2, none⟩ : Addr).add a = ⟨g, j * 2 + a, none⟩ from by cases a <;> simp [Addr.add]]
  refine hc (j * 2 + a) _ ?_
  simp only [lockCs_drop]
  rw [List.getElem_drop]
  exact List.getElem?_eq_getElem ha'
set_option maxHeartbeats 16000000 in
set_option maxRecDepth 100000 in
theorem shards_any (n : Nat) (Az : Option Addr) (nz cz : Nat) (zs : List Int) (W : World) (hzl : zs.length = nz) (hz : CellsAt W Az (ivs zs)) (hn : n ≤ 1000000) (hzm : ∀ z ∈ zs, z ≤ 1099511627776) :
    Calls Tryz.prog 49 #[.int .i64 (n : Int), .slice Az nz cz] W (NeedQ W (mapL (outP n zs n))) := by
  have HZ := Lib.hid hz
  have HZL := Lib.hid hzl
  have HZM := Lib.hid hzm
  have HBD := Lib.hid (outP_bd n zs hzm)
  obtain ⟨ik, hik, hz0, hz1, hz2⟩ := info_parts info_lock
  have HI := Lib.hid (show Tryz.prog.info? 53 = some ik ∧ ik.zero = some (.agg #[.int .i64 0, .bool false]) ∧ ik.size = 2 ∧ ik.bytes = 16 from ⟨hik, hz0, hz1, hz2⟩)
  clear hzl hz hzm hik hz0 hz1 hz2
  go_enter Tryz.func49, Tryz.ntmps49
  go_wp2_with fail
  go_loopw [5, 6] (fun t5 t6 wr => ∃ (i k c5 : Nat) (A5 : Option Addr), t6 = .int .i64 (i : Int) ∧ t5 = .slice A5 k c5 ∧ i ≤ n ∧ k ≤ i ∧ Hid (wr.ownsRow W.heap.size 53 2 (.slice A5 k c5) k (lockCs (mapL (outP n zs i))) ∧ k = (outP n zs i).length ∧ Below W.heap.size W wr)) (fun _ t6 _ => n - (intOf t6).toNat)
  case atStart => exact ⟨0, 0, 0, none, rfl, rfl, Nat.zero_le _, Nat.le_refl _, Lib.hid ⟨World.ownsRow_nil _ _ _ _, rfl, Below.refl _ _⟩⟩
  case round =>
    obtain ⟨i, k, c5, A5, rfl, rfl, hi, hk, HP⟩ := hrel
    rename World => wq
    by_cases hin : i < n
    · have HO := Lib.hid HP.out.1
      have HQL := Lib.hid HP.out.2.1
      have HBQ := Lib.hid HP.out.2.2
      have HQB := Lib.hid (HBD.out i hi)
      clear HP
      go_upto_region 6 with fail
      go_cut [25] from 10 to 75 (fun t25 w' => ∃ b25 : Bool, t25 = .bool b25 ∧ wq = w' ∧ Hid (b25 = decide (0 < routeP zs i)))
      case first =>
        by_cases h9z : i < nz
        · have HIL := Lib.hid (show i < zs.length by rw [HZL.out]; exact h9z)
          obtain ⟨x, hx⟩ : ∃ x, x = zs[i]'HIL.out := ⟨_, rfl⟩
          have HRX := Lib.hid (show decide (0 < x) = decide (0 < routeP zs i) by unfold routeP; rw [List.getD_eq_getElem?_getD, List.getElem?_eq_getElem HIL.out, hx]; simp only [Option.getD_some]; rw [decide_eq_decide]; omega)
          obtain ⟨ad, rfl, hc⟩ : ∃ ad, Az = some ad ∧ wq.cell? (ad.add i) = some (.int .i64 x) := by
            obtain ⟨ad, hA, hlt, hc⟩ := HZ.out.below HBQ.out i (by rw [ivs_len]; exact HIL.out)
            refine ⟨ad, hA, hc.trans ?_⟩
            simp [ivs, hx]
          clear hx
          go_wp2
          go_meet
          exact ⟨_, rfl, rfl, HRX⟩
        · have HRT := Lib.hid (show decide (0 < routeP zs i) = false by unfold routeP; rw [List.getD_eq_getElem?_getD, List.getElem?_eq_none (by rw [HZL.out]; omega)]; rfl)
          go_wp2
          go_meet
          exact ⟨false, rfl, rfl, Lib.hid HRT.out.symm⟩
      case rest =>
      obtain ⟨b25, rfl, rfl, HB25⟩ := hcut
      go_upto_if 25 with fail
      go_cut [7] from 10 to 75 (fun t7 w' => t7 = .int .i64 (routeP zs i) ∧ wq = w')
      case first =>
        rcases b25 with _ | _
        · have hr0 : ¬ 0 < routeP zs i := by have := HB25.out; simpa using this.symm
          have HRT := Lib.hid (show (0 : Int) = routeP zs i by unfold routeP at hr0 ⊢; omega)
          clear hr0 HB25
          go_wp2
          go_meet
          exact ⟨by rw [← HRT.out], rfl⟩
        · have hr0 : 0 < routeP zs i := by have := HB25.out; simpa using this.symm
          have h9z : i < nz := by
            refine Decidable.byContradiction fun h => ?_
            unfold routeP at hr0
            rw [List.getD_eq_getElem?_getD, List.getElem?_eq_none (by rw [HZL.out]; omega)] at hr0
            exact absurd hr0 (by decide)
          have HIL := Lib.hid (show i < zs.length by rw [HZL.out]; exact h9z)
          obtain ⟨x, hx⟩ : ∃ x, x = zs[i]'HIL.out := ⟨_, rfl⟩
          have hrx : routeP zs i = max x 0 := by unfold routeP; rw [List.getD_eq_getElem?_getD, List.getElem?_eq_getElem HIL.out, hx]; rfl
          obtain ⟨ad, rfl, hc⟩ : ∃ ad, Az = some ad ∧ wq.cell? (ad.add i) = some (.int .i64 x) := by
            obtain ⟨ad, hA, hlt, hc⟩ := HZ.out.below HBQ.out i (by rw [ivs_len]; exact HIL.out)
            refine ⟨ad, hA, hc.trans ?_⟩
            simp [ivs, hx]
          have HRT := Lib.hid (show (x : Int) = routeP zs i by omega)
          clear hx hrx hr0 HB25
          go_wp2
          go_meet
          exact ⟨by rw [HRT.out], rfl⟩
      case rest =>
      obtain ⟨rfl, rfl⟩ := hcut
      have HXB := Lib.hid (show 0 ≤ routeP zs i ∧ routeP zs i ≤ 1099511627776 from HBD.out (i + 1) (by omega) _ (by rw [outP_step n zs i hin, insP_mem]; exact .inl rfl))
      obtain ⟨x, hx⟩ : ∃ x, x = routeP zs i := ⟨_, rfl⟩
      obtain ⟨Q, hQ⟩ : ∃ Q, Q = outP n zs i := ⟨_, rfl⟩
      have HST := Lib.hid (show outP n zs (i + 1) = insP x Q by rw [outP_step n zs i hin, hx, hQ])
      rw [← hQ] at HO HQL HQB
      rw [← hx] at HXB
      rw [← hx]
      clear hx hQ HB25
      have hw : IntKind.i64.wrap (2 + x) = 2 + x := by rw [IntKind.wrap_i64]; have := HXB.out; omega
      have HLK := Lib.hid (show LkAt wq A5 (mapL Q) from LocksOwn.lk (B := W.heap.size) (c := c5) (n := k) (by unfold LocksOwn; rw [mapL_len, ← HQL.out]; exact HO.out))
      go_wp2_with fail
      go_loopw [8] (fun t8 wr => ∃ j : Nat, t8 = .int .i64 (j : Int) ∧ j ≤ k ∧ wq = wr ∧ Hid (∀ a (h : a < Q.length), a < j → Q[a] < x)) (fun t8 _ => k - (intOf t8).toNat)
      case atStart => exact ⟨0, rfl, Nat.zero_le _, rfl, Lib.hid (fun a h h' => absurd h' (Nat.not_lt_zero _))⟩
      case round =>
        obtain ⟨j, rfl, hjk, rfl, HJ⟩ := hrel
        by_cases hj : j < k
        · have HJL := Lib.hid (show j < Q.length by rw [← HQL.out]; exact hj)
          obtain ⟨g, rfl, c0, -⟩ := HLK.out j (by rw [mapL_len]; exact HJL.out)
          rw [mapL_get Q j HJL.out] at c0
          obtain ⟨y, hy⟩ : ∃ y, y = Q[j]'HJL.out := ⟨_, rfl⟩
          rw [← hy] at c0
          replace c0 : wq.cell? ⟨g, j * 2, none⟩ = some (.int .i64 (2 + y)) := c0
          have HY := Lib.hid hy
          clear hy
          by_cases hyx : y < x
          · go_wp2_with fail
            go_roundw
            case rel => exact ⟨j + 1, by go_num, by omega, by first | rfl | trivial, Lib.hid (fun a h h' => by
              rcases Nat.lt_succ_iff_lt_or_eq.1 h' with h1 | rfl
              · exact HJ.out a h h1
              · rw [← HY.out]; exact hyx)⟩
            case measure => simp [intOf]; omega
          · by_cases hye : y = x
            · subst hye
              have HNX := Lib.hid (show outP n zs (i + 1) = Q by rw [HST.out, insP_at y Q j (Nat.le_of_lt HJL.out) HJ.out (fun h => by rw [← HY.out]; omega), dif_pos HJL.out, if_pos HY.out.symm])
              go_wp2_with fail
              go_roundw
              case rel => exact ⟨i + 1, k, c5, _, by go_num, rfl, by omega, by omega, Lib.hid ⟨by rw [HNX.out]; exact HO.out, by rw [HNX.out]; exact HQL.out, HBQ.out⟩⟩
              case measure => simp [intOf]; omega
            · have HNEW := Lib.hid (show insP x Q = Q.take j ++ x :: Q.drop j from by rw [insP_at x Q j (Nat.le_of_lt HJL.out) HJ.out (fun h => by rw [← HY.out]; exact hyx), dif_pos HJL.out, if_neg (by rw [← HY.out]; exact hye)])
              obtain ⟨hjc, hA5⟩ := own_cap HO.out
              have hnc : c5 ≤ maxLen := own_max HO.out
              have HNP := Lib.hid (outP_step n zs i hin)
              have HSRC := Lib.hid (own_src HO.out j)
              have HSRB := Lib.hid (show CellsAt wq (some ⟨g, j * 2, none⟩) (lockCs (mapL (Q.drop j))) from own_srb HO.out j)
              have HTL := Lib.hid (show (lockCs (mapL (Q.take j))).length = j * 2 from by rw [lockCs_len, mapL_len, List.length_take, Nat.min_eq_left (by rw [← HQL.out]; exact hjk)])
              have HDL := Lib.hid (show (lockCs (mapL (Q.drop j))).length = (k - j) * 2 from by rw [lockCs_len, mapL_len, List.length_drop, ← HQL.out])
              have h0 : W.heap.size ≤ wq.heap.size := HBQ.out.size
              have HLB := Lib.hid (show lockCs (mapL (Q.take j ++ x :: Q.drop j)) = lockCs (mapL (Q.take j)) ++ [Value.int .i64 (2 + x), .bool true] ++ lockCs (mapL (Q.drop j)) from by simp [mapL, lockCs, lockV])
              have HA5 := Lib.hid hA5
              have HNB := Lib.hid (fun (X : World) => Blk.new X 53 #[.int .i64 (2 + x), .bool true])
              go_wp2_with
                (first
                  | (at_builtin; (refine wpList_append_any _ rfl _ _ _ rfl wq.heap.size 53 ik (.agg #[.int .i64 0, .bool false]) 2 16 Tryz.underlying45 HI.out.1 HI.out.2.1 HI.out.2.2.1 HI.out.2.2.2 rfl (by omega) (.slice A2 (j + 1) c2) (j + 1) (lockCs (mapL (Q.take j)) ++ [Value.int .i64 (2 + x), .bool true]) rfl HO2.out (some ⟨g, j * 2, none⟩) (k - j) (c5 - j) (fun e => by cases e) (lockCs (mapL (Q.drop j))) rfl HDL.out (HSRB.out.below HB2.out) (lockCs_one _) (by unfold maxLen; omega) (by omega) HB2.out.size ?_)
                     intro v3 w6 hown hg6 hv6
                     obtain ⟨A3, c3, rfl⟩ := own_form3 hown
                     have HO3 := Lib.hid hown
                     have HB3 := Lib.hid (HB2.out.grown hg6 HB2.out.size (fun kk e => (HO2.out.lt kk e).1))
                     clear hown hg6 hv6)
                  | (at_builtin; (refine wpList_append_any _ rfl _ _ _ rfl wq.heap.size 53 ik (.agg #[.int .i64 0, .bool false]) 2 16 Tryz.underlying45 HI.out.1 HI.out.2.1 HI.out.2.2.1 HI.out.2.2.2 rfl (by omega) (.slice A1 j c1) j (lockCs (mapL (Q.take j))) rfl (own_alloc HO1.out _) (some ⟨w4.heap.size, 0, none⟩) 1 1 (fun e => by cases e) [.int .i64 (2 + x), .bool true] rfl rfl (cells_new2 w4 _ _) (by intro u hu; simp at hu; rcases hu with rfl | rfl <;> rfl) (by unfold maxLen; omega) (by omega) (HB1.out.alloc HB1.out.size _).size ?_)
                     intro v2 w5 hown hg5 hv5
                     obtain ⟨A2, c2, rfl⟩ := own_form3 hown
                     have HO2 := Lib.hid hown
                     have HB2 := Lib.hid ((HB1.out.alloc HB1.out.size _).grown hg5 (HB1.out.alloc HB1.out.size _).size (fun kk e => (HO1.out.lt kk e).1))
                     clear hown hg5 hv5)
                  | (at_builtin; (refine wpList_append_any _ rfl _ _ _ rfl wq.heap.size 53 ik (.agg #[.int .i64 0, .bool false]) 2 16 Tryz.underlying45 HI.out.1 HI.out.2.1 HI.out.2.2.1 HI.out.2.2.2 rfl (by omega) (.slice none 0 0) 0 [] rfl (World.ownsRow_nil _ _ _ _) (some ⟨g, 0, none⟩) j c5 (fun e => by cases e) (lockCs (mapL (Q.take j))) rfl HTL.out HSRC.out (lockCs_one _) (by unfold maxLen; omega) (by omega) (Nat.le_refl _) ?_)
                     intro v1 w4 hown hg4 hv4
                     rw [Nat.zero_add, List.nil_append] at hown
                     obtain ⟨A1, c1, rfl⟩ := own_form3 hown
                     have HO1 := Lib.hid hown
                     have HB1 := Lib.hid ((Below.refl wq.heap.size wq).grown hg4 (Nat.le_refl _) (fun k e => by cases e))
                     clear hown hg4 hv4))
              have HFL := Lib.hid (show w6.ownsRow W.heap.size 53 2 (.slice A3 (j + 1 + (k - j)) c3) (j + 1 + (k - j)) (lockCs (mapL (outP n zs (i + 1)))) from by
                rw [HST.out, HNEW.out, HLB.out]
                exact own_lower HO3.out h0)
              have HFN := Lib.hid (show j + 1 + (k - j) = (outP n zs (i + 1)).length from by
                rw [HST.out, HNEW.out, List.length_append, List.length_cons, List.length_take, List.length_drop, ← HQL.out]; omega)
              have HFB := Lib.hid (HBQ.out.trans (HB3.out.mono h0))
              exact ⟨⟨i + 1, j + 1 + (k - j), c3, A3, by go_num, rfl, by omega, by omega, Lib.hid ⟨HFL.out, HFN.out, HFB.out⟩⟩, by simp [intOf]; omega⟩
        · have hjk2 : j = k := by omega
          rcases A5 with _ | ad
          · obtain ⟨hk0, rfl⟩ := (own_cap HO.out).2 rfl
            obtain rfl : k = 0 := hk0
            obtain rfl : j = 0 := by omega
            clear hjk2
            have HNEW := Lib.hid (show insP x Q = Q.take 0 ++ x :: Q.drop 0 from by rw [insP_at x Q 0 (by omega) HJ.out (fun h => absurd h (by rw [← HQL.out]; omega)), dif_neg (by rw [← HQL.out]; omega)])
            obtain ⟨hjc, hA5⟩ := own_cap HO.out
            have hnc : 0 ≤ maxLen := own_max HO.out
            have HNP := Lib.hid (outP_step n zs i hin)
            have HSRC := Lib.hid (own_src HO.out 0)
            have HSRB := Lib.hid (show CellsAt wq none (lockCs (mapL (Q.drop 0))) from fun a ha => absurd ha (by have h9 : Q = [] := List.eq_nil_of_length_eq_zero HQL.out.symm; rw [h9]; simp [mapL, lockCs]))
            have HTL := Lib.hid (show (lockCs (mapL (Q.take 0))).length = 0 * 2 from by rw [lockCs_len, mapL_len, List.length_take, Nat.min_eq_left (by rw [← HQL.out]; exact hjk)])
            have HDL := Lib.hid (show (lockCs (mapL (Q.drop 0))).length = (0 - 0) * 2 from by rw [lockCs_len, mapL_len, List.length_drop, ← HQL.out])
            have h0 : W.heap.size ≤ wq.heap.size := HBQ.out.size
            have HLB := Lib.hid (show lockCs (mapL (Q.take 0 ++ x :: Q.drop 0)) = lockCs (mapL (Q.take 0)) ++ [Value.int .i64 (2 + x), .bool true] ++ lockCs (mapL (Q.drop 0)) from by simp [mapL, lockCs, lockV])
            have HA5 := Lib.hid hA5
            have HNB := Lib.hid (fun (X : World) => Blk.new X 53 #[.int .i64 (2 + x), .bool true])
            go_wp2_with
              (first
                | (at_builtin; (refine wpList_append_any _ rfl _ _ _ rfl wq.heap.size 53 ik (.agg #[.int .i64 0, .bool false]) 2 16 Tryz.underlying45 HI.out.1 HI.out.2.1 HI.out.2.2.1 HI.out.2.2.2 rfl (by omega) (.slice A2 (0 + 1) c2) (0 + 1) (lockCs (mapL (Q.take 0)) ++ [Value.int .i64 (2 + x), .bool true]) rfl HO2.out none (0 - 0) (0 - 0) (fun _ => rfl) (lockCs (mapL (Q.drop 0))) rfl HDL.out (HSRB.out.below HB2.out) (lockCs_one _) (by unfold maxLen; omega) (by omega) HB2.out.size ?_)
                   intro v3 w6 hown hg6 hv6
                   obtain ⟨A3, c3, rfl⟩ := own_form3 hown
                   have HO3 := Lib.hid hown
                   have HB3 := Lib.hid (HB2.out.grown hg6 HB2.out.size (fun kk e => (HO2.out.lt kk e).1))
                   clear hown hg6 hv6)
                | (at_builtin; (refine wpList_append_any _ rfl _ _ _ rfl wq.heap.size 53 ik (.agg #[.int .i64 0, .bool false]) 2 16 Tryz.underlying45 HI.out.1 HI.out.2.1 HI.out.2.2.1 HI.out.2.2.2 rfl (by omega) (.slice A1 0 c1) 0 (lockCs (mapL (Q.take 0))) rfl (own_alloc HO1.out _) (some ⟨w4.heap.size, 0, none⟩) 1 1 (fun e => by cases e) [.int .i64 (2 + x), .bool true] rfl rfl (cells_new2 w4 _ _) (by intro u hu; simp at hu; rcases hu with rfl | rfl <;> rfl) (by unfold maxLen; omega) (by omega) (HB1.out.alloc HB1.out.size _).size ?_)
                   intro v2 w5 hown hg5 hv5
                   obtain ⟨A2, c2, rfl⟩ := own_form3 hown
                   have HO2 := Lib.hid hown
                   have HB2 := Lib.hid ((HB1.out.alloc HB1.out.size _).grown hg5 (HB1.out.alloc HB1.out.size _).size (fun kk e => (HO1.out.lt kk e).1))
                   clear hown hg5 hv5)
                | (at_builtin; (refine wpList_append_any _ rfl _ _ _ rfl wq.heap.size 53 ik (.agg #[.int .i64 0, .bool false]) 2 16 Tryz.underlying45 HI.out.1 HI.out.2.1 HI.out.2.2.1 HI.out.2.2.2 rfl (by omega) (.slice none 0 0) 0 [] rfl (World.ownsRow_nil _ _ _ _) none 0 0 (fun _ => rfl) (lockCs (mapL (Q.take 0))) rfl HTL.out HSRC.out (lockCs_one _) (by unfold maxLen; omega) (by omega) (Nat.le_refl _) ?_)
                   intro v1 w4 hown hg4 hv4
                   rw [Nat.zero_add, List.nil_append] at hown
                   obtain ⟨A1, c1, rfl⟩ := own_form3 hown
                   have HO1 := Lib.hid hown
                   have HB1 := Lib.hid ((Below.refl wq.heap.size wq).grown hg4 (Nat.le_refl _) (fun k e => by cases e))
                   clear hown hg4 hv4))
            have HFL := Lib.hid (show w6.ownsRow W.heap.size 53 2 (.slice A3 (0 + 1 + (0 - 0)) c3) (0 + 1 + (0 - 0)) (lockCs (mapL (outP n zs (i + 1)))) from by
              rw [HST.out, HNEW.out, HLB.out]
              exact own_lower HO3.out h0)
            have HFN := Lib.hid (show 0 + 1 + (0 - 0) = (outP n zs (i + 1)).length from by
              rw [HST.out, HNEW.out, List.length_append, List.length_cons, List.length_take, List.length_drop, ← HQL.out]; omega)
            have HFB := Lib.hid (HBQ.out.trans (HB3.out.mono h0))
            exact ⟨⟨i + 1, 0 + 1 + (0 - 0), c3, A3, by go_num, rfl, by omega, by omega, Lib.hid ⟨HFL.out, HFN.out, HFB.out⟩⟩, by simp [intOf]; omega⟩
          · obtain ⟨g, rfl, -, -, -⟩ := own_addr HO.out
            subst hjk2
            have hcc : j < c5 ∨ j = c5 := by have := (own_cap HO.out).1; omega
            rcases hcc with hcj | hcj
            · have HDN := Lib.hid (show lockCs (mapL (Q.drop j)) = [] from by rw [List.drop_of_length_le (by rw [← HQL.out]; exact Nat.le_refl _)]; rfl)
              have HNEW := Lib.hid (show insP x Q = Q.take j ++ x :: Q.drop j from by rw [insP_at x Q j (by rw [← HQL.out]; exact Nat.le_refl _) HJ.out (fun h => absurd h (by rw [← HQL.out]; omega)), dif_neg (by rw [← HQL.out]; omega)])
              obtain ⟨hjc, hA5⟩ := own_cap HO.out
              have hnc : c5 ≤ maxLen := own_max HO.out
              have HNP := Lib.hid (outP_step n zs i hin)
              have HSRC := Lib.hid (own_src HO.out j)
              have HSRB := Lib.hid (show CellsAt wq (some ⟨g, j * 2, none⟩) (lockCs (mapL (Q.drop j))) from own_srb HO.out j)
              have HTL := Lib.hid (show (lockCs (mapL (Q.take j))).length = j * 2 from by rw [lockCs_len, mapL_len, List.length_take, Nat.min_eq_left (by rw [← HQL.out]; exact hjk)])
              have HDL := Lib.hid (show (lockCs (mapL (Q.drop j))).length = (j - j) * 2 from by rw [lockCs_len, mapL_len, List.length_drop, ← HQL.out])
              have h0 : W.heap.size ≤ wq.heap.size := HBQ.out.size
              have HLB := Lib.hid (show lockCs (mapL (Q.take j ++ x :: Q.drop j)) = lockCs (mapL (Q.take j)) ++ [Value.int .i64 (2 + x), .bool true] ++ lockCs (mapL (Q.drop j)) from by simp [mapL, lockCs, lockV])
              have HA5 := Lib.hid hA5
              have HNB := Lib.hid (fun (X : World) => Blk.new X 53 #[.int .i64 (2 + x), .bool true])
              go_wp2_with
                (first
                  | (at_builtin; (refine wpList_append_any _ rfl _ _ _ rfl wq.heap.size 53 ik (.agg #[.int .i64 0, .bool false]) 2 16 Tryz.underlying45 HI.out.1 HI.out.2.1 HI.out.2.2.1 HI.out.2.2.2 rfl (by omega) (.slice A2 (j + 1) c2) (j + 1) (lockCs (mapL (Q.take j)) ++ [Value.int .i64 (2 + x), .bool true]) rfl HO2.out _ 0 _ (fun e => by cases e) [] rfl rfl (fun a ha => absurd ha (Nat.not_lt_zero _)) (fun u hu => absurd hu (List.not_mem_nil)) (by unfold maxLen; omega) (by omega) HB2.out.size ?_)
                     intro v3 w6 hown hg6 hv6
                     rw [List.append_nil, Nat.add_zero] at hown
                     obtain ⟨A3, c3, rfl⟩ := own_form3 hown
                     have HO3 := Lib.hid hown
                     have HB3 := Lib.hid (HB2.out.grown hg6 HB2.out.size (fun kk e => (HO2.out.lt kk e).1))
                     clear hown hg6 hv6)
                  | (at_builtin; (refine wpList_append_any _ rfl _ _ _ rfl wq.heap.size 53 ik (.agg #[.int .i64 0, .bool false]) 2 16 Tryz.underlying45 HI.out.1 HI.out.2.1 HI.out.2.2.1 HI.out.2.2.2 rfl (by omega) (.slice A1 j c1) j (lockCs (mapL (Q.take j))) rfl (own_alloc HO1.out _) (some ⟨w4.heap.size, 0, none⟩) 1 1 (fun e => by cases e) [.int .i64 (2 + x), .bool true] rfl rfl (cells_new2 w4 _ _) (by intro u hu; simp at hu; rcases hu with rfl | rfl <;> rfl) (by unfold maxLen; omega) (by omega) (HB1.out.alloc HB1.out.size _).size ?_)
                     intro v2 w5 hown hg5 hv5
                     obtain ⟨A2, c2, rfl⟩ := own_form3 hown
                     have HO2 := Lib.hid hown
                     have HB2 := Lib.hid ((HB1.out.alloc HB1.out.size _).grown hg5 (HB1.out.alloc HB1.out.size _).size (fun kk e => (HO1.out.lt kk e).1))
                     clear hown hg5 hv5)
                  | (at_builtin; (refine wpList_append_any _ rfl _ _ _ rfl wq.heap.size 53 ik (.agg #[.int .i64 0, .bool false]) 2 16 Tryz.underlying45 HI.out.1 HI.out.2.1 HI.out.2.2.1 HI.out.2.2.2 rfl (by omega) (.slice none 0 0) 0 [] rfl (World.ownsRow_nil _ _ _ _) (some ⟨g, 0, none⟩) j c5 (fun e => by cases e) (lockCs (mapL (Q.take j))) rfl HTL.out HSRC.out (lockCs_one _) (by unfold maxLen; omega) (by omega) (Nat.le_refl _) ?_)
                     intro v1 w4 hown hg4 hv4
                     rw [Nat.zero_add, List.nil_append] at hown
                     obtain ⟨A1, c1, rfl⟩ := own_form3 hown
                     have HO1 := Lib.hid hown
                     have HB1 := Lib.hid ((Below.refl wq.heap.size wq).grown hg4 (Nat.le_refl _) (fun k e => by cases e))
                     clear hown hg4 hv4))
              have HFL := Lib.hid (show w6.ownsRow W.heap.size 53 2 (.slice A3 (j + 1) c3) (j + 1) (lockCs (mapL (outP n zs (i + 1)))) from by
                rw [HST.out, HNEW.out, HLB.out, HDN.out, List.append_nil]
                exact own_lower HO3.out h0)
              have HFN := Lib.hid (show j + 1 = (outP n zs (i + 1)).length from by
                rw [HST.out, HNEW.out, List.length_append, List.length_cons, List.length_take, List.length_drop, ← HQL.out]; omega)
              have HFB := Lib.hid (HBQ.out.trans (HB3.out.mono h0))
              exact ⟨⟨i + 1, j + 1, c3, A3, by go_num, rfl, by omega, by omega, Lib.hid ⟨HFL.out, HFN.out, HFB.out⟩⟩, by simp [intOf]; omega⟩
            · subst hcj
              have HDN := Lib.hid (show lockCs (mapL (Q.drop j)) = [] from by rw [List.drop_of_length_le (by rw [← HQL.out]; exact Nat.le_refl _)]; rfl)
              have HNEW := Lib.hid (show insP x Q = Q.take j ++ x :: Q.drop j from by rw [insP_at x Q j (by rw [← HQL.out]; exact Nat.le_refl _) HJ.out (fun h => absurd h (by rw [← HQL.out]; omega)), dif_neg (by rw [← HQL.out]; omega)])
              obtain ⟨hjc, hA5⟩ := own_cap HO.out
              have hnc : j ≤ maxLen := own_max HO.out
              have HNP := Lib.hid (outP_step n zs i hin)
              have HSRC := Lib.hid (own_src HO.out j)
              have HSRB := Lib.hid (show CellsAt wq (some ⟨g, j * 2, none⟩) (lockCs (mapL (Q.drop j))) from own_srb HO.out j)
              have HTL := Lib.hid (show (lockCs (mapL (Q.take j))).length = j * 2 from by rw [lockCs_len, mapL_len, List.length_take, Nat.min_eq_left (by rw [← HQL.out]; exact hjk)])
              have HDL := Lib.hid (show (lockCs (mapL (Q.drop j))).length = (j - j) * 2 from by rw [lockCs_len, mapL_len, List.length_drop, ← HQL.out])
              have h0 : W.heap.size ≤ wq.heap.size := HBQ.out.size
              have HLB := Lib.hid (show lockCs (mapL (Q.take j ++ x :: Q.drop j)) = lockCs (mapL (Q.take j)) ++ [Value.int .i64 (2 + x), .bool true] ++ lockCs (mapL (Q.drop j)) from by simp [mapL, lockCs, lockV])
              have HA5 := Lib.hid hA5
              have HNB := Lib.hid (fun (X : World) => Blk.new X 53 #[.int .i64 (2 + x), .bool true])
              go_wp2_with
                (first
                  | (at_builtin; (refine wpList_append_any _ rfl _ _ _ rfl wq.heap.size 53 ik (.agg #[.int .i64 0, .bool false]) 2 16 Tryz.underlying45 HI.out.1 HI.out.2.1 HI.out.2.2.1 HI.out.2.2.2 rfl (by omega) (.slice A2 (j + 1) c2) (j + 1) (lockCs (mapL (Q.take j)) ++ [Value.int .i64 (2 + x), .bool true]) rfl HO2.out _ 0 _ (fun e => by cases e) [] rfl rfl (fun a ha => absurd ha (Nat.not_lt_zero _)) (fun u hu => absurd hu (List.not_mem_nil)) (by unfold maxLen; omega) (by omega) HB2.out.size ?_)
                     intro v3 w6 hown hg6 hv6
                     rw [List.append_nil, Nat.add_zero] at hown
                     obtain ⟨A3, c3, rfl⟩ := own_form3 hown
                     have HO3 := Lib.hid hown
                     have HB3 := Lib.hid (HB2.out.grown hg6 HB2.out.size (fun kk e => (HO2.out.lt kk e).1))
                     clear hown hg6 hv6)
                  | (at_builtin; (refine wpList_append_any _ rfl _ _ _ rfl wq.heap.size 53 ik (.agg #[.int .i64 0, .bool false]) 2 16 Tryz.underlying45 HI.out.1 HI.out.2.1 HI.out.2.2.1 HI.out.2.2.2 rfl (by omega) (.slice A1 j c1) j (lockCs (mapL (Q.take j))) rfl (own_alloc HO1.out _) (some ⟨w4.heap.size, 0, none⟩) 1 1 (fun e => by cases e) [.int .i64 (2 + x), .bool true] rfl rfl (cells_new2 w4 _ _) (by intro u hu; simp at hu; rcases hu with rfl | rfl <;> rfl) (by unfold maxLen; omega) (by omega) (HB1.out.alloc HB1.out.size _).size ?_)
                     intro v2 w5 hown hg5 hv5
                     obtain ⟨A2, c2, rfl⟩ := own_form3 hown
                     have HO2 := Lib.hid hown
                     have HB2 := Lib.hid ((HB1.out.alloc HB1.out.size _).grown hg5 (HB1.out.alloc HB1.out.size _).size (fun kk e => (HO1.out.lt kk e).1))
                     clear hown hg5 hv5)
                  | (at_builtin; (refine wpList_append_any _ rfl _ _ _ rfl wq.heap.size 53 ik (.agg #[.int .i64 0, .bool false]) 2 16 Tryz.underlying45 HI.out.1 HI.out.2.1 HI.out.2.2.1 HI.out.2.2.2 rfl (by omega) (.slice none 0 0) 0 [] rfl (World.ownsRow_nil _ _ _ _) (some ⟨g, 0, none⟩) j j (fun e => by cases e) (lockCs (mapL (Q.take j))) rfl HTL.out HSRC.out (lockCs_one _) (by unfold maxLen; omega) (by omega) (Nat.le_refl _) ?_)
                     intro v1 w4 hown hg4 hv4
                     rw [Nat.zero_add, List.nil_append] at hown
                     obtain ⟨A1, c1, rfl⟩ := own_form3 hown
                     have HO1 := Lib.hid hown
                     have HB1 := Lib.hid ((Below.refl wq.heap.size wq).grown hg4 (Nat.le_refl _) (fun k e => by cases e))
                     clear hown hg4 hv4))
              have HFL := Lib.hid (show w6.ownsRow W.heap.size 53 2 (.slice A3 (j + 1) c3) (j + 1) (lockCs (mapL (outP n zs (i + 1)))) from by
                rw [HST.out, HNEW.out, HLB.out, HDN.out, List.append_nil]
                exact own_lower HO3.out h0)
              have HFN := Lib.hid (show j + 1 = (outP n zs (i + 1)).length from by
                rw [HST.out, HNEW.out, List.length_append, List.length_cons, List.length_take, List.length_drop, ← HQL.out]; omega)
              have HFB := Lib.hid (HBQ.out.trans (HB3.out.mono h0))
              exact ⟨⟨i + 1, j + 1, c3, A3, by go_num, rfl, by omega, by omega, Lib.hid ⟨HFL.out, HFN.out, HFB.out⟩⟩, by simp [intOf]; omega⟩
    · obtain rfl : i = n := by omega
      have HO := Lib.hid HP.out.1
      have HBQ := Lib.hid HP.out.2.2
      have HKL := Lib.hid (show (mapL (outP i zs i)).length = k by rw [mapL_len]; exact HP.out.2.1.symm)
      clear HP
      go_wp2_with fail
      go_ret
      refine ⟨A5, c5, by rw [HKL.out]; rfl, ?_, HBQ.out⟩
      unfold LocksOwn
      rw [HKL.out]
      exact HO.out
end Go.Proofs.YtglbdbghcdoicaaGreatDoor

namespace Go.Proofs.YtglbdbghcdoicaaGreatDoor
open Go.RowKit

set_option maxHeartbeats 4000000 in
set_option maxRecDepth 100000 in
theorem same_ints (A B : Option Addr) (n c d : Nat) (zs : List Int) (W : World) (hl : zs.length = n) (ha : CellsAt W A (ivs zs)) (hb : CellsAt W B (ivs zs)) (hn : n ≤ 9223372036854775807) :
    Calls Tryz.prog 20 #[.slice A n c, .slice B n d] W fun e w' => e = .returned (.bool true) ∧ Below W.heap.size W w' := by
  have HA := Lib.hid ha
  have HB := Lib.hid hb
  have HL := Lib.hid hl
  clear ha hb hl
  go_enter Tryz.func20, Tryz.ntmps20
  go_wp2_with fail
  go_loopw [5] (fun t5 wr => ∃ i : Nat, t5 = .int .i64 (i : Int) ∧ i ≤ n ∧ Hid (Below W.heap.size W wr)) (fun t5 _ => n - (intOf t5).toNat)
  case atStart => exact ⟨0, rfl, Nat.zero_le _, Lib.hid (Below.refl _ _)⟩
  case round =>
    obtain ⟨i, rfl, hi, HP⟩ := hrel
    by_cases hin : i < n
    · have HIL := Lib.hid (show i < zs.length by rw [HL.out]; exact hin)
      obtain ⟨x, hx⟩ : ∃ x, x = zs[i]'HIL.out := ⟨_, rfl⟩
      obtain ⟨ad, rfl, hca⟩ : ∃ ad, A = some ad ∧ wr.cell? (ad.add i) = some (.int .i64 x) := by
        obtain ⟨ad, hA, hlt, hc⟩ := HA.out.below HP.out i (by rw [ivs_len]; exact HIL.out)
        refine ⟨ad, hA, hc.trans ?_⟩
        simp [ivs, hx]
      obtain ⟨bd, rfl, hcb⟩ : ∃ bd, B = some bd ∧ wr.cell? (bd.add i) = some (.int .i64 x) := by
        obtain ⟨ad, hA, hlt, hc⟩ := HB.out.below HP.out i (by rw [ivs_len]; exact HIL.out)
        refine ⟨ad, hA, hc.trans ?_⟩
        simp [ivs, hx]
      clear hx
      go_wp2
      go_region
      go_wp2
      go_roundw
      case rel => exact ⟨i + 1, by go_num, by omega, Lib.hid (by first | exact HP.out | exact HP.out.drew)⟩
      case measure => simp [intOf]; omega
    · obtain rfl : i = n := by omega
      go_wp2
      go_ret
      exact ⟨rfl, HP.out⟩
set_option maxHeartbeats 4000000 in
set_option maxRecDepth 100000 in
theorem same_locks (A B : Option Addr) (n c d : Nat) (ls : List LockV) (W : World) (hl : n = ls.length) (ha : LkAt W A ls) (hb : LkAt W B ls) (hn : n ≤ 1000000) :
    Calls Tryz.prog 21 #[.slice A n c, .slice B n d] W fun e w' => e = .returned (.bool true) ∧ Below W.heap.size W w' := by
  have HA := Lib.hid ha
  have HB := Lib.hid hb
  have HL := Lib.hid hl
  clear ha hb hl
  go_enter Tryz.func21, Tryz.ntmps21
  go_wp2_with fail
  go_loopw [5] (fun t5 wr => ∃ i : Nat, t5 = .int .i64 (i : Int) ∧ i ≤ n ∧ Hid (Below W.heap.size W wr)) (fun t5 _ => n - (intOf t5).toNat)
  case atStart => exact ⟨0, rfl, Nat.zero_le _, Lib.hid (Below.refl _ _)⟩
  case round =>
    obtain ⟨i, rfl, hi, HP⟩ := hrel
    by_cases hin : i < n
    · have HIL := Lib.hid (show i < ls.length by rw [← HL.out]; exact hin)
      obtain ⟨g, rfl, c0, c1⟩ := HA.out.below HP.out i HIL.out
      obtain ⟨g', rfl, c2, c3⟩ := HB.out.below HP.out i HIL.out
      generalize ls[i].1 = x at *
      generalize ls[i].2 = y at *
      go_wp2
      go_region
      go_wp2
      go_roundw
      case rel => exact ⟨i + 1, by go_num, by omega, Lib.hid (by first | exact HP.out | exact HP.out.drew)⟩
      case measure => simp [intOf]; omega
    · obtain rfl : i = n := by omega
      go_wp2
      go_ret
      exact ⟨rfl, HP.out⟩
theorem needP_12 (q : Rq) (zs : List Int) (h : q.kind = 1 ∨ q.kind = 2) : needP q zs = mapL (outP q.cs.length zs q.cs.length) := by
  unfold needP
  rw [if_pos h, outP_all]
  rfl
set_option maxRecDepth 100000 in
theorem rneed_1 (A Az : Option Addr) (n c nz cz : Nat) (zs : List Int) (q : Rq) (W : World) (hq : q.kind = 1) (hqn : q.cs.length = n) (hzl : zs.length = nz) (hz : CellsAt W Az (ivs zs)) (hn : n ≤ 1000000) (hzm : ∀ z ∈ zs, z ≤ 1099511627776) :
    Calls Tryz.prog 22 #[.agg (rqC (.slice A n c) q), .slice Az nz cz] W (NeedQ W (needP q zs)) := by
  rw [needP_12 q zs (by rw [hq]; decide), hqn]
  obtain ⟨kd, id_, ep, qs, fr, to_, lm⟩ := q
  have hq : kd = 1 := hq
  subst hq
  clear hqn
  have bo := (Below.refl W.heap.size W).alloc (Nat.le_refl _) (.cells (rqC (.slice A n c) ⟨1, id_, ep, qs, fr, to_, lm⟩) 43)
  have HB := Lib.hid bo
  have hck := (Blk.new W 43 (rqC (.slice A n c) ⟨1, id_, ep, qs, fr, to_, lm⟩)).cell
  have C1 := Lib.hid (shards_any n Az nz cz zs _ hzl (hz.below bo) hn hzm)
  clear bo hz hzl hzm
  generalize mapL (outP n zs n) = ls at *
  go_enter Tryz.func22, Tryz.ntmps22
  go_wp2_with fail
  go_at_call 49; (with_reducible refine C1.out.mono ?_); rintro e w1 ⟨A1, c1, rfl, ho, hb⟩
  have HO := Lib.hid (own_lower ho HB.out.size)
  have HBB := Lib.hid (HB.out.trans (hb.mono HB.out.size))
  clear ho hb C1 hck
  go_wp2
  go_ret
  exact ⟨A1, c1, rfl, HO.out, HBB.out⟩
set_option maxRecDepth 100000 in
theorem rneed_2 (A Az : Option Addr) (n c nz cz : Nat) (zs : List Int) (q : Rq) (W : World) (hq : q.kind = 2) (hqn : q.cs.length = n) (hzl : zs.length = nz) (hz : CellsAt W Az (ivs zs)) (hn : n ≤ 1000000) (hzm : ∀ z ∈ zs, z ≤ 1099511627776) :
    Calls Tryz.prog 22 #[.agg (rqC (.slice A n c) q), .slice Az nz cz] W (NeedQ W (needP q zs)) := by
  rw [needP_12 q zs (by rw [hq]; decide), hqn]
  obtain ⟨kd, id_, ep, qs, fr, to_, lm⟩ := q
  have hq : kd = 2 := hq
  subst hq
  clear hqn
  have bo := (Below.refl W.heap.size W).alloc (Nat.le_refl _) (.cells (rqC (.slice A n c) ⟨2, id_, ep, qs, fr, to_, lm⟩) 43)
  have HB := Lib.hid bo
  have hck := (Blk.new W 43 (rqC (.slice A n c) ⟨2, id_, ep, qs, fr, to_, lm⟩)).cell
  have C1 := Lib.hid (shards_any n Az nz cz zs _ hzl (hz.below bo) hn hzm)
  clear bo hz hzl hzm
  generalize mapL (outP n zs n) = ls at *
  go_enter Tryz.func22, Tryz.ntmps22
  go_wp2_with fail
  go_at_call 49; (with_reducible refine C1.out.mono ?_); rintro e w1 ⟨A1, c1, rfl, ho, hb⟩
  have HO := Lib.hid (own_lower ho HB.out.size)
  have HBB := Lib.hid (HB.out.trans (hb.mono HB.out.size))
  clear ho hb C1 hck
  go_wp2
  go_ret
  exact ⟨A1, c1, rfl, HO.out, HBB.out⟩
set_option maxRecDepth 100000 in
theorem rneed_3s (A Az : Option Addr) (n c nz cz : Nat) (q : Rq) (W : World) (hq : q.kind = 3) (hep : (q.epoch == 0) = false) :
    Calls Tryz.prog 22 #[.agg (rqC (.slice A n c) q), .slice Az nz cz] W (NeedQ W [(2, true)]) := by
  obtain ⟨kd, id_, ep, qs, fr, to_, lm⟩ := q
  have hq : kd = 3 := hq
  subst hq
  have hep : (ep == 0) = false := hep
  have bo := (Below.refl W.heap.size W).alloc (Nat.le_refl _) (.cells (rqC (.slice A n c) ⟨3, id_, ep, qs, fr, to_, lm⟩) 43)
  have HB := Lib.hid bo
  have hck := (Blk.new W 43 (rqC (.slice A n c) ⟨3, id_, ep, qs, fr, to_, lm⟩)).cell
  have h9 := lock_lit (W.alloc (.cells (rqC (.slice A n c) ⟨3, id_, ep, qs, fr, to_, lm⟩) 43)) [(2, true)] W.heap.size bo.size (by simp)
  rw [show (W.alloc (.cells (rqC (.slice A n c) ⟨3, id_, ep, qs, fr, to_, lm⟩) 43)).heap.size = W.heap.size + 1 from Array.size_push ..] at h9
  have H9 := Lib.hid h9
  clear bo h9
  go_enter Tryz.func22, Tryz.ntmps22
  go_wp2
  go_ret
  exact ⟨_, _, rfl, H9.out, HB.out.alloc HB.out.size _⟩
set_option maxRecDepth 100000 in
theorem rneed_3e (A Az : Option Addr) (n c nz cz : Nat) (q : Rq) (W : World) (hq : q.kind = 3) (hep : q.epoch = 0) :
    Calls Tryz.prog 22 #[.agg (rqC (.slice A n c) q), .slice Az nz cz] W (NeedQ W [(0, false), (1, false)]) := by
  obtain ⟨kd, id_, ep, qs, fr, to_, lm⟩ := q
  have hq : kd = 3 := hq
  subst hq
  have hep : ep = 0 := hep
  subst hep
  have bo := (Below.refl W.heap.size W).alloc (Nat.le_refl _) (.cells (rqC (.slice A n c) ⟨3, id_, 0, qs, fr, to_, lm⟩) 43)
  have HB := Lib.hid bo
  have hck := (Blk.new W 43 (rqC (.slice A n c) ⟨3, id_, 0, qs, fr, to_, lm⟩)).cell
  have h9 := lock_lit (W.alloc (.cells (rqC (.slice A n c) ⟨3, id_, 0, qs, fr, to_, lm⟩) 43)) [(0, false), (1, false)] W.heap.size bo.size (by simp)
  rw [show (W.alloc (.cells (rqC (.slice A n c) ⟨3, id_, 0, qs, fr, to_, lm⟩) 43)).heap.size = W.heap.size + 1 from Array.size_push ..] at h9
  have H9 := Lib.hid h9
  clear bo h9
  go_enter Tryz.func22, Tryz.ntmps22
  go_wp2
  go_ret
  exact ⟨_, _, rfl, H9.out, HB.out.alloc HB.out.size _⟩
set_option maxRecDepth 100000 in
theorem rneed_4 (A Az : Option Addr) (n c nz cz : Nat) (q : Rq) (W : World) (hq : q.kind = 4) :
    Calls Tryz.prog 22 #[.agg (rqC (.slice A n c) q), .slice Az nz cz] W (NeedQ W [(0, false), (1, false)]) := by
  obtain ⟨kd, id_, ep, qs, fr, to_, lm⟩ := q
  have hq : kd = 4 := hq
  subst hq
  have bo := (Below.refl W.heap.size W).alloc (Nat.le_refl _) (.cells (rqC (.slice A n c) ⟨4, id_, ep, qs, fr, to_, lm⟩) 43)
  have HB := Lib.hid bo
  have hck := (Blk.new W 43 (rqC (.slice A n c) ⟨4, id_, ep, qs, fr, to_, lm⟩)).cell
  have h9 := lock_lit (W.alloc (.cells (rqC (.slice A n c) ⟨4, id_, ep, qs, fr, to_, lm⟩) 43)) [(0, false), (1, false)] W.heap.size bo.size (by simp)
  rw [show (W.alloc (.cells (rqC (.slice A n c) ⟨4, id_, ep, qs, fr, to_, lm⟩) 43)).heap.size = W.heap.size + 1 from Array.size_push ..] at h9
  have H9 := Lib.hid h9
  clear bo h9
  go_enter Tryz.func22, Tryz.ntmps22
  go_wp2
  go_ret
  exact ⟨_, _, rfl, H9.out, HB.out.alloc HB.out.size _⟩
set_option maxRecDepth 100000 in
theorem rneed_5 (A Az : Option Addr) (n c nz cz : Nat) (q : Rq) (W : World) (hq : q.kind = 5) :
    Calls Tryz.prog 22 #[.agg (rqC (.slice A n c) q), .slice Az nz cz] W (NeedQ W [(1, false)]) := by
  obtain ⟨kd, id_, ep, qs, fr, to_, lm⟩ := q
  have hq : kd = 5 := hq
  subst hq
  have bo := (Below.refl W.heap.size W).alloc (Nat.le_refl _) (.cells (rqC (.slice A n c) ⟨5, id_, ep, qs, fr, to_, lm⟩) 43)
  have HB := Lib.hid bo
  have hck := (Blk.new W 43 (rqC (.slice A n c) ⟨5, id_, ep, qs, fr, to_, lm⟩)).cell
  have h9 := lock_lit (W.alloc (.cells (rqC (.slice A n c) ⟨5, id_, ep, qs, fr, to_, lm⟩) 43)) [(1, false)] W.heap.size bo.size (by simp)
  rw [show (W.alloc (.cells (rqC (.slice A n c) ⟨5, id_, ep, qs, fr, to_, lm⟩) 43)).heap.size = W.heap.size + 1 from Array.size_push ..] at h9
  have H9 := Lib.hid h9
  clear bo h9
  go_enter Tryz.func22, Tryz.ntmps22
  go_wp2
  go_ret
  exact ⟨_, _, rfl, H9.out, HB.out.alloc HB.out.size _⟩
set_option maxRecDepth 100000 in
theorem rneed_6 (A Az : Option Addr) (n c nz cz : Nat) (q : Rq) (W : World) (hq : q.kind = 6) :
    Calls Tryz.prog 22 #[.agg (rqC (.slice A n c) q), .slice Az nz cz] W (NeedQ W [(1, false)]) := by
  obtain ⟨kd, id_, ep, qs, fr, to_, lm⟩ := q
  have hq : kd = 6 := hq
  subst hq
  have bo := (Below.refl W.heap.size W).alloc (Nat.le_refl _) (.cells (rqC (.slice A n c) ⟨6, id_, ep, qs, fr, to_, lm⟩) 43)
  have HB := Lib.hid bo
  have hck := (Blk.new W 43 (rqC (.slice A n c) ⟨6, id_, ep, qs, fr, to_, lm⟩)).cell
  have h9 := lock_lit (W.alloc (.cells (rqC (.slice A n c) ⟨6, id_, ep, qs, fr, to_, lm⟩) 43)) [(1, false)] W.heap.size bo.size (by simp)
  rw [show (W.alloc (.cells (rqC (.slice A n c) ⟨6, id_, ep, qs, fr, to_, lm⟩) 43)).heap.size = W.heap.size + 1 from Array.size_push ..] at h9
  have H9 := Lib.hid h9
  clear bo h9
  go_enter Tryz.func22, Tryz.ntmps22
  go_wp2
  go_ret
  exact ⟨_, _, rfl, H9.out, HB.out.alloc HB.out.size _⟩
set_option maxRecDepth 100000 in
theorem rneed_7 (A Az : Option Addr) (n c nz cz : Nat) (q : Rq) (W : World) (hq : q.kind = 7) :
    Calls Tryz.prog 22 #[.agg (rqC (.slice A n c) q), .slice Az nz cz] W (NeedQ W [(0, false)]) := by
  obtain ⟨kd, id_, ep, qs, fr, to_, lm⟩ := q
  have hq : kd = 7 := hq
  subst hq
  have bo := (Below.refl W.heap.size W).alloc (Nat.le_refl _) (.cells (rqC (.slice A n c) ⟨7, id_, ep, qs, fr, to_, lm⟩) 43)
  have HB := Lib.hid bo
  have hck := (Blk.new W 43 (rqC (.slice A n c) ⟨7, id_, ep, qs, fr, to_, lm⟩)).cell
  have h9 := lock_lit (W.alloc (.cells (rqC (.slice A n c) ⟨7, id_, ep, qs, fr, to_, lm⟩) 43)) [(0, false)] W.heap.size bo.size (by simp)
  rw [show (W.alloc (.cells (rqC (.slice A n c) ⟨7, id_, ep, qs, fr, to_, lm⟩) 43)).heap.size = W.heap.size + 1 from Array.size_push ..] at h9
  have H9 := Lib.hid h9
  clear bo h9
  go_enter Tryz.func22, Tryz.ntmps22
  go_wp2
  go_ret
  exact ⟨_, _, rfl, H9.out, HB.out.alloc HB.out.size _⟩
set_option maxRecDepth 100000 in
theorem rneed_none (A Az : Option Addr) (n c nz cz : Nat) (q : Rq) (W : World) (hq : q.kind < 1 ∨ 7 < q.kind) :
    Calls Tryz.prog 22 #[.agg (rqC (.slice A n c) q), .slice Az nz cz] W (NeedQ W []) := by
  obtain ⟨kd, id_, ep, qs, fr, to_, lm⟩ := q
  have hq : kd < 1 ∨ 7 < kd := hq
  have h1 : (kd == 1) = false := by simp; omega
  have h2 : (kd == 2) = false := by simp; omega
  have h3 : (kd == 3) = false := by simp; omega
  have h4 : (kd == 4) = false := by simp; omega
  have h5 : (kd == 5) = false := by simp; omega
  have h6 : (kd == 6) = false := by simp; omega
  have h7 : (kd == 7) = false := by simp; omega
  have bo := (Below.refl W.heap.size W).alloc (Nat.le_refl _) (.cells (rqC (.slice A n c) ⟨kd, id_, ep, qs, fr, to_, lm⟩) 43)
  have HB := Lib.hid bo
  have hck := (Blk.new W 43 (rqC (.slice A n c) ⟨kd, id_, ep, qs, fr, to_, lm⟩)).cell
  clear bo hq
  go_enter Tryz.func22, Tryz.ntmps22
  go_wp2
  go_ret
  exact ⟨none, 0, rfl, World.ownsRow_nil _ _ _ _, HB.out⟩
theorem rneed_any (A Az : Option Addr) (n c nz cz : Nat) (zs : List Int) (q : Rq) (W : World) (hqn : q.cs.length = n) (hzl : zs.length = nz) (hz : CellsAt W Az (ivs zs)) (hn : n ≤ 1000000) (hzm : ∀ z ∈ zs, z ≤ 1099511627776) :
    Calls Tryz.prog 22 #[.agg (rqC (.slice A n c) q), .slice Az nz cz] W (NeedQ W (needP q zs)) := by
  by_cases h1 : q.kind = 1
  · exact rneed_1 A Az n c nz cz zs q W h1 hqn hzl hz hn hzm
  by_cases h2 : q.kind = 2
  · exact rneed_2 A Az n c nz cz zs q W h2 hqn hzl hz hn hzm
  · unfold needP
    rw [if_neg (by omega)]
    by_cases h3 : q.kind = 3
    · rw [if_pos h3]
      by_cases he : q.epoch = 0
      · rw [if_neg (by simp [he])]
        exact rneed_3e A Az n c nz cz q W h3 he
      · rw [if_pos he]
        exact rneed_3s A Az n c nz cz q W h3 (by simpa using he)
    · rw [if_neg h3]
      by_cases h4 : q.kind = 4
      · rw [if_pos h4]
        exact rneed_4 A Az n c nz cz q W h4
      · rw [if_neg h4]
        by_cases h56 : q.kind = 5 ∨ q.kind = 6
        · rw [if_pos h56]
          rcases h56 with h5 | h6
          · exact rneed_5 A Az n c nz cz q W h5
          · exact rneed_6 A Az n c nz cz q W h6
        · rw [if_neg h56]
          by_cases h7 : q.kind = 7
          · rw [if_pos h7]
            exact rneed_7 A Az n c nz cz q W h7
          · rw [if_neg h7]
            exact rneed_none A Az n c nz cz q W (by omega)
end Go.Proofs.YtglbdbghcdoicaaGreatDoor
