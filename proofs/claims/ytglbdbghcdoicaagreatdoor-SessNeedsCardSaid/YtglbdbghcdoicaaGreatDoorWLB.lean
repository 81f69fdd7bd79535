/- The law's own Lend and Back: bytes apart, with marks in the room behind them. The law's own Back. LendBytes, KeptBytes. -/
import Derived.Test.YtglbdbghcdoicaaGreatDoorWWs
import Derived.Laws.CopyOwn
import Derived.Laws.MakeOwn
namespace Go.Proofs.YtglbdbghcdoicaaGreatDoor
open Go.RowKit

theorem wpList_make_cells {P : Program} {w : World} {ops : Array Oper} {rest : List Oper} {o : Oper} {a : Act} {Q : Exit → Act → World → Prop} (hgd : o.guard = none) (l c : Operand) (t : TypeId) (hop : o.op = Op.makeSlice t l c)
    (e : TypeId) (i : TypeInfo) (z : Value) (bytes : Nat) (ht : P.underlying t = some (.slice e)) (hi : P.info? e = some i) (hz : i.zero = some z) (hsize : i.size = 1) (hby : i.bytes = bytes)
    (m n : Nat) (hl : a.eval l = .int .i64 (m : Int)) (hc : a.eval c = .int .i64 (n : Int)) (hmn : m ≤ n) (hn : bytes * n ≤ 281474976710656) (h63 : n ≤ 9223372036854775807)
    (hK : wpList P ops Q rest (a.put o.dst (.slice (some ⟨w.heap.size, 0, none⟩) m n)) (w.alloc (.cells (madeCells z.cells n) e))) :
    wpList P ops Q (o :: rest) a w := by
  refine wpList_plain hgd fun K hK' => ?_
  have hb : ((bytes * n : Nat) : Int) ≤ 281474976710656 := by omega
  rw [Int.natCast_mul] at hb
  have hrun := run_make (P := P) w t e i z ht hi hz .i64 .i64 (m : Int) (n : Int) (by omega) (by omega) (by rw [hby]; exact hb) (by omega)
  rw [hsize] at hrun
  simp only [Int.toNat_natCast, Nat.mul_one] at hrun
  unfold Oper.wp
  simp [execOp, hop, hl, hc, hrun, Result.andThen]
  exact hK' _ _ hK

section
variable {w : World}
theorem wpList_make_bytes {ops : Array Oper} {rest : List Oper} {o : Oper} {a : Act} {Q : Exit → Act → World → Prop} (hgd : o.guard = none) (l c : Operand) (hop : o.op = Op.makeSlice 32 l c)
    (n : Nat) (z : Int) (hl : a.eval l = .int .i64 z) (hc : a.eval c = .int .i64 z) (hz : z = (n : Int)) (hn : n ≤ 140737488355328)
    (hK : ∀ cs : List Value, cs.length = n → wpList Tryz.prog ops Q rest (a.put o.dst (.slice (some ⟨w.heap.size, 0, none⟩) n n)) (w.alloc (.cells cs.toArray 5))) :
    wpList Tryz.prog ops Q (o :: rest) a w := by
  subst hz
  obtain ⟨i, hi, hz0, hz1, hz2⟩ := info_parts info_u8
  refine wpList_make_cells hgd l c _ hop _ i _ 1 Tryz.underlying32 hi hz0 hz1 hz2 n n hl hc (Nat.le_refl _) (by omega) (by omega) ?_
  have h := hK (madeCells (Value.int .u8 0).cells n).toList (by rw [Array.length_toList]; exact size_madeCells _ _)
  rwa [Array.toArray_toList] at h
end
theorem u8_size : (Tryz.prog.info? 5).map (·.size) = some 1 := by kernel_rfl

theorem add_zero_ (g k : Nat) : (⟨g, 0, none⟩ : Addr).add k = ⟨g, k, none⟩ := by cases k <;> simp [Addr.add]
theorem take_succ_ {α : Type} (l : List α) (k : Nat) (h : k < l.length) : l.take (k + 1) = l.take k ++ [l[k]] := by
  rw [List.take_add_one, List.getElem?_eq_getElem h]; rfl
theorem fill_step (cs : Array Value) (xs : List Int) (u : Int) (n k : Nat) (hn : n ≤ k) (hk : k < cs.size) (h : cs.toList.take k = bvs (xs ++ List.replicate (k - n) u)) :
    (cs.setIfInBounds k (.int .u8 u)).toList.take (k + 1) = bvs (xs ++ List.replicate (k + 1 - n) u) := by
  have e : k + 1 - n = (k - n) + 1 := by omega
  have hs : (cs.setIfInBounds k (.int .u8 u)).toList = cs.toList.set k (.int .u8 u) := by simp
  rw [e, List.replicate_succ', hs, take_succ_ _ k (by simpa using hk), List.getElem_set_self, List.take_set_of_le (Nat.le_refl _), h]
  simp [bvs]

theorem copy_src {W : World} {A : Option Addr} {xs : List Int} {cs : List Value} {o : Obj} {g : Addr} (hcs : cs = bvs xs) (h : CellsAt W A (bvs xs)) (hp : 0 < cs.length) :
    some g = some g ∧ ∃ ad, A = some ad ∧ ∀ j v, cs[j]? = some v → (W.alloc o).cell? (ad.add j) = some v := by
  refine ⟨rfl, ?_⟩
  subst hcs
  obtain ⟨ad, hA, _, _⟩ := h 0 hp
  refine ⟨ad, hA, fun j v hj => ?_⟩
  obtain ⟨hlt, rfl⟩ := List.getElem?_eq_some_iff.1 hj
  obtain ⟨ad', hA', _, hc'⟩ := (h.below ((Below.refl W.heap.size W).alloc (Nat.le_refl _) o)) j hlt
  rw [hA] at hA'
  cases hA'
  exact hc'
end Go.Proofs.YtglbdbghcdoicaaGreatDoor

namespace Go.Proofs.YtglbdbghcdoicaaGreatDoor
open Go.RowKit

theorem conv_cells {W : World} {A : Option Addr} {n : Nat} {xs : List Int} (h : CellsAt W A (bvs xs)) (hl : xs.length = n) (c : Nat) : (convert 32 9 (.slice A n c)).run Tryz.prog W = .ok (.string (strOfNums xs)) W := by
  cases A with
  | none =>
    have hx : xs = [] := by
      cases xs with
      | nil => rfl
      | cons u us => obtain ⟨ad, h, _⟩ := h 0 (by simp [bvs]); cases h
    subst hx
    exact run_convert_bytes_nil (P := Tryz.prog) W _ _ Tryz.underlying32 Tryz.underlying5 n c _ Tryz.underlying9
  | some ad =>
    have hc := run_loadCells_list (P := Tryz.prog) W ad (bvs xs) (fun j v hj => by
      obtain ⟨hlt, rfl⟩ := List.getElem?_eq_some_iff.1 hj
      obtain ⟨ad', e, _, h2⟩ := h j hlt
      cases e
      exact h2)
    rw [bvs_len, hl] at hc
    rw [run_convert_bytes_string W _ _ _ _ n c Tryz.underlying32 Tryz.underlying5 Tryz.underlying9, run_bytesToString W ad n c xs hc, foldl_push_bytes]
    have e0 : ByteArray.empty.data = #[] := rfl
    rw [e0]
    simp [strOfNums]

theorem cells_of_blk {W : World} {g : Nat} {cur : Array Value} {xs more : List Int} (hg : Blk W g 5 cur) (hc : cur.toList = bvs (xs ++ more)) : CellsAt W (some ⟨g, 0, none⟩) (bvs xs) := fun k hk => by
  refine ⟨_, rfl, hg.lt, ?_⟩
  rw [add_zero_, hg.cell k, ← Array.getElem?_toList, hc, bvs_append, List.getElem?_append_left hk, List.getElem?_eq_getElem hk]
end Go.Proofs.YtglbdbghcdoicaaGreatDoor

namespace Go.Proofs.YtglbdbghcdoicaaGreatDoor
open Go.RowKit

section
variable {w : World}
theorem wpList_make_bytes_w {ops : Array Oper} {rest : List Oper} {o : Oper} {a : Act} {Q : Exit → Act → World → Prop} (hgd : o.guard = none) (l c : Operand) (hop : o.op = Op.makeSlice 32 l c)
    (n : Nat) (z : Int) (hl : a.eval l = .int .i64 z) (hc : a.eval c = .int .i64 z) (hz : z = (n : Int)) (hn : n ≤ 281474976710656)
    (hK : ∀ cs : List Value, cs.length = n → wpList Tryz.prog ops Q rest (a.put o.dst (.slice (some ⟨w.heap.size, 0, none⟩) n n)) (w.alloc (.cells cs.toArray 5))) :
    wpList Tryz.prog ops Q (o :: rest) a w := by
  subst hz
  obtain ⟨i, hi, hz0, hz1, hz2⟩ := info_parts info_u8
  refine wpList_make_cells hgd l c _ hop _ i _ 1 Tryz.underlying32 hi hz0 hz1 hz2 n n hl hc (Nat.le_refl _) (by omega) (by omega) ?_
  have h := hK (madeCells (Value.int .u8 0).cells n).toList (by rw [Array.length_toList]; exact size_madeCells _ _)
  rwa [Array.toArray_toList] at h
end
set_option maxHeartbeats 1000000 in
set_option maxRecDepth 100000 in
theorem lend_any (A : Option Addr) (n c : Nat) (xs : List Int) (W : World) (hl : xs.length = n) (h : CellsAt W A (bvs xs)) (hn : n + 37 ≤ 281474976710656) :
    Calls Tryz.prog 11 #[.slice A n c] W fun e w' => ∃ g cur, e = .returned (.slice (some ⟨g, 0, none⟩) n (n + 37)) ∧ W.heap.size ≤ g ∧ Blk w' g 5 cur ∧ cur.toList = bvs (xs ++ List.replicate 37 169) ∧ Below W.heap.size W w' := by
  have H := Lib.hid h
  have HL := Lib.hid hl
  have HN := Lib.hid hn
  obtain ⟨cs, hcs⟩ : ∃ cs, cs = bvs xs := ⟨_, rfl⟩
  have HCS := Lib.hid hcs
  have hnn : (0 : Int) ≤ (n : Int) := by omega
  have hn9 : (n : Int) ≤ 281474976710619 := by omega
  clear h hl hn hcs
  go_enter Tryz.func11, Tryz.ntmps11
  go_wp2_with (first
    | (at_make; refine wpList_make_bytes_w rfl _ _ rfl (n + 37) _ rfl rfl (by omega) HN.out ?_; intro cs0 h0; have H0 := Lib.hid h0; clear h0)
    | ((with_reducible show wpList _ _ _ _ _ _); refine wpList_copy_splice rfl (.tmp 9) (.tmp 10) 32 32 rfl 5 Tryz.underlying32 u8_size (some ⟨W.heap.size, 0, none⟩) A (n + 37) (n + 37) n c rfl rfl W.heap.size 0 cs0 5 (Blk.new W _ _) cs (by rw [HCS.out, bvs_len, HL.out]; exact (Nat.min_eq_left (by omega)).symm) ?_ (by rw [HCS.out, bvs_len, HL.out, H0.out]; omega) (by rw [HCS.out]; exact bvs_one _) W.heap.size W ((Below.refl _ _).alloc (Nat.le_refl _) _) (Nat.le_refl _) ?_
       exact copy_src HCS.out H.out
       intro w2 hw2 hb2
       have HW2 := Lib.hid (show Blk w2 W.heap.size 5 (splice cs0 0 cs).toArray from hw2.out)
       have B2 := Lib.hid hb2
       clear hw2 hb2))
  have HS := Lib.hid (show (splice cs0 0 cs).toArray.size = n + 37 ∧ (splice cs0 0 cs).toArray.toList.take n = bvs xs by
    have h1 := H0.out
    have h2 := HL.out
    rw [HCS.out]
    refine ⟨?_, ?_⟩
    · rw [List.size_toArray, length_splice _ _ _ (by rw [bvs_len]; omega)]; exact h1
    · rw [List.toList_toArray]
      unfold splice
      rw [List.take_zero, List.nil_append, List.take_left' (by rw [bvs_len]; exact h2)])
  generalize (splice cs0 0 cs).toArray = cur at HW2 HS
  go_loopw [4] (fun i wr => ∃ (k : Nat) (cs : Array Value), n ≤ k ∧ k ≤ n + 37 ∧ i = .int .i64 k ∧ Hid (Blk wr W.heap.size 5 cs ∧ cs.size = n + 37 ∧ cs.toList.take k = bvs (xs ++ List.replicate (k - n) 169) ∧ Below W.heap.size W wr)) (fun i _ => n + 37 - (intOf i).toNat)
  case atStart => exact ⟨n, cur, Nat.le_refl _, by omega, rfl, Lib.hid ⟨HW2.out, HS.out.1, by simpa using HS.out.2, B2.out⟩⟩
  case round =>
    obtain ⟨k, cs2, hk1, hk2, rfl, HP⟩ := hrel
    by_cases hlt : k < n + 37
    · have hkc : k < cs2.size := by rw [HP.out.2.1]; exact hlt
      have hcr : wr.cell? ⟨W.heap.size, k, none⟩ = some (cs2[k]'hkc) := by rw [HP.out.1.cell k, Array.getElem?_eq_getElem hkc]
      have hfr : wr.frozen? ⟨W.heap.size, k, none⟩ = false := HP.out.1.frozen k
      go_wp2
      go_roundw
      case rel => exact ⟨k + 1, cs2.setIfInBounds k (.int .u8 169), by omega, by omega, by go_num, Lib.hid ⟨HP.out.1.set_ k _, by simpa using HP.out.2.1, fill_step cs2 xs 169 n k hk1 hkc HP.out.2.2.1, HP.out.2.2.2.setCell (Nat.le_refl _) _⟩⟩
      case measure => simp [intOf]; omega
    · go_wp2
      go_ret
      refine ⟨W.heap.size, cs2, rfl, Nat.le_refl _, HP.out.1, ?_, HP.out.2.2.2⟩
      have h := HP.out.2.2.1
      obtain rfl : k = n + 37 := by omega
      rw [List.take_of_length_le (by simp [HP.out.2.1])] at h
      rw [h]
      simp
set_option maxHeartbeats 1000000 in
set_option maxRecDepth 100000 in
theorem back_any (g : Nat) (cur : Array Value) (A : Option Addr) (n c : Nat) (xs : List Int) (W : World) (hl : xs.length = n) (h : CellsAt W A (bvs xs)) (hg : Blk W g 5 cur) (hcu : cur.toList = bvs (xs ++ List.replicate 37 169)) (hn : n + 37 ≤ 281474976710656) :
    Calls Tryz.prog 14 #[.slice (some ⟨g, 0, none⟩) n (n + 37), .slice A n c] W fun e w' => e = .returned (.bool true) ∧ Tur (· = g) W w' := by
  have hc1 := conv_cells (cells_of_blk hg hcu) hl (n + 37)
  have hc2 := conv_cells h hl c
  have HG := Lib.hid hg
  have HC := Lib.hid hcu
  have HL := Lib.hid hl
  have HN := Lib.hid hn
  have hsz : Hid (cur.size = n + 37) := Lib.hid (by rw [← Array.length_toList, hcu, bvs_len, List.length_append, hl, List.length_replicate])
  have hnn : (0 : Int) ≤ (n : Int) := by omega
  have hn9 : (n : Int) ≤ 281474976710619 := by omega
  generalize strOfNums xs = S at hc1 hc2
  clear h hg hcu hl hn
  go_enter Tryz.func14, Tryz.ntmps14
  go_wp2
  go_loop [5, 7] (fun ok i => ∃ k : Nat, n ≤ k ∧ k ≤ n + 37 ∧ ok = .bool true ∧ i = .int .i64 k) (fun _ i => n + 37 - (intOf i).toNat)
  case atStart => exact ⟨n, Nat.le_refl _, by omega, by simp, rfl⟩
  case round =>
    obtain ⟨k, hk1, hk2, rfl, rfl⟩ := hrel
    by_cases hlt : k < n + 37
    · have hcr : W.cell? ⟨g, k, none⟩ = some (.int .u8 169) := by
        rw [HG.out.cell k, ← Array.getElem?_toList, HC.out, bvs_append, List.getElem?_append_right (by rw [bvs_len, HL.out]; exact hk1), bvs_len, HL.out]
        rw [show bvs (List.replicate 37 169) = List.replicate 37 (Value.int .u8 169) by simp [bvs], List.getElem?_replicate, if_pos (by omega)]
      clear hc1 hc2
      go_wp2
      go_round
      case rel => exact ⟨k + 1, by omega, by omega, by simp, by go_num⟩
      case measure => simp [intOf]; omega
    · clear hc1 hc2
      go_wp2
      go_loopw [8] (fun i wr => ∃ (j : Nat) (cs : Array Value), j ≤ n + 37 ∧ i = .int .i64 j ∧ Hid (Blk wr g 5 cs ∧ cs.size = n + 37 ∧ Tur (· = g) W wr)) (fun i _ => n + 37 - (intOf i).toNat)
      case atStart => exact ⟨0, cur, Nat.zero_le _, rfl, Lib.hid ⟨HG.out, hsz.out, Tur.refl _ _⟩⟩
      case round =>
        obtain ⟨j, cs, hj, rfl, HP⟩ := hrel
        by_cases hlt2 : j < n + 37
        · have hkc : j < cs.size := by rw [HP.out.2.1]; exact hlt2
          have hcr : wr.cell? ⟨g, j, none⟩ = some (cs[j]'hkc) := by rw [HP.out.1.cell j, Array.getElem?_eq_getElem hkc]
          have hfr : wr.frozen? ⟨g, j, none⟩ = false := HP.out.1.frozen j
          go_wp2
          go_roundw
          case rel => exact ⟨j + 1, cs.setIfInBounds j (.int .u8 94), by omega, by go_num, Lib.hid ⟨HP.out.1.set_ j _, by simpa using HP.out.2.1, HP.out.2.2.setCell (.inl rfl) _⟩⟩
          case measure => simp [intOf]; omega
        · go_wp2
          go_ret
          exact ⟨rfl, HP.out.2.2⟩
end Go.Proofs.YtglbdbghcdoicaaGreatDoor
