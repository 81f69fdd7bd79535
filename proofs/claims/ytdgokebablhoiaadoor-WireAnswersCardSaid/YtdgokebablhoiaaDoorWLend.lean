/- The law's own Lend and Back: bytes apart, with marks in the room behind them. -/
import Derived.Test.YtdgokebablhoiaaDoorWFrame
import Derived.Laws.CopyOwn
import Derived.Laws.MakeOwn
namespace Go.Proofs.YtdgokebablhoiaaDoor
open Go.RowKit

theorem wpList_make_cells {P : Program} {w : World} {ops : Array Oper} {rest : List Oper} {o : Oper} {a : Act} {Q : Exit → Act → World → Prop} (hgd : o.guard = none) (l c : Operand) (t : TypeId) (hop : o.op = Op.makeSlice t l c)
    (e : TypeId) (i : TypeInfo) (z : Value) (bytes : Nat) (ht : P.underlying t = some (.slice e)) (hi : P.info? e = some i) (hz : i.zero = some z) (hsize : i.size = 1) (hby : i.bytes = bytes)
    (m n : Nat) (hl : a.eval l = .int .i64 (m : Int)) (hc : a.eval c = .int .i64 (n : Int)) (hmn : m ≤ n) (hn : bytes * n ≤ 281474976710656) (h63 : n ≤ 9223372036854775807)
    (hK : wpList P ops Q rest (a.put o.dst (.slice (some ⟨w.heap.size, 0, none⟩) m n)) (w.alloc (.cells (madeCells z.cells n) e))) :
    wpList P ops Q (o :: rest) a w := by
  refine wpList_plain hgd fun K hK' => ?_
  have hb : ((bytes * n : Nat) : Int) ≤ 281474976710656 := by omega
  rw [Int.natCast_mul] at hb
  have hrun := run_make (P := P) w t e i z ht hi hz .i64 .i64 (m : Int) (n : Int) (by omega) (by omega) (by rw [hby]; exact hb) (by omega)
  rw [hsize] at hrun
  simp only [Int.toNat_natCast, Nat.mul_one] at hrun
  unfold Oper.wp
  simp [execOp, hop, hl, hc, hrun, Result.andThen]
  exact hK' _ _ hK

section
variable {w : World}
theorem wpList_make_bytes {ops : Array Oper} {rest : List Oper} {o : Oper} {a : Act} {Q : Exit → Act → World → Prop} (hgd : o.guard = none) (l c : Operand) (hop : o.op = Op.makeSlice 24 l c)
    (n : Nat) (z : Int) (hl : a.eval l = .int .i64 z) (hc : a.eval c = .int .i64 z) (hz : z = (n : Int)) (hn : n ≤ 140737488355328)
    (hK : ∀ cs : List Value, cs.length = n → wpList Tryd.prog ops Q rest (a.put o.dst (.slice (some ⟨w.heap.size, 0, none⟩) n n)) (w.alloc (.cells cs.toArray 5))) :
    wpList Tryd.prog ops Q (o :: rest) a w := by
  subst hz
  obtain ⟨i, hi, hz0, hz1, hz2⟩ := info_parts info_u8
  refine wpList_make_cells hgd l c _ hop _ i _ 1 Tryd.underlying24 hi hz0 hz1 hz2 n n hl hc (Nat.le_refl _) (by omega) (by omega) ?_
  have h := hK (madeCells (Value.int .u8 0).cells n).toList (by rw [Array.length_toList]; exact size_madeCells _ _)
  rwa [Array.toArray_toList] at h
end
theorem u8_size : (Tryd.prog.info? 5).map (·.size) = some 1 := by kernel_rfl

theorem add_zero_ (g k : Nat) : (⟨g, 0, none⟩ : Addr).add k = ⟨g, k, none⟩ := by cases k <;> simp [Addr.add]
theorem take_succ_ {α : Type} (l : List α) (k : Nat) (h : k < l.length) : l.take (k + 1) = l.take k ++ [l[k]] := by
  rw [List.take_add_one, List.getElem?_eq_getElem h]; rfl
theorem fill_step (cs : Array Value) (xs : List Int) (u : Int) (n k : Nat) (hn : n ≤ k) (hk : k < cs.size) (h : cs.toList.take k = bvs (xs ++ List.replicate (k - n) u)) :
    (cs.setIfInBounds k (.int .u8 u)).toList.take (k + 1) = bvs (xs ++ List.replicate (k + 1 - n) u) := by
  have e : k + 1 - n = (k - n) + 1 := by omega
  have hs : (cs.setIfInBounds k (.int .u8 u)).toList = cs.toList.set k (.int .u8 u) := by simp
  rw [e, List.replicate_succ', hs, take_succ_ _ k (by simpa using hk), List.getElem_set_self, List.take_set_of_le (Nat.le_refl _), h]
  simp [bvs]

theorem copy_src {W : World} {A : Option Addr} {xs : List Int} {cs : List Value} {o : Obj} {g : Addr} (hcs : cs = bvs xs) (h : CellsAt W A (bvs xs)) (hp : 0 < cs.length) :
    some g = some g ∧ ∃ ad, A = some ad ∧ ∀ j v, cs[j]? = some v → (W.alloc o).cell? (ad.add j) = some v := by
  refine ⟨rfl, ?_⟩
  subst hcs
  obtain ⟨ad, hA, _, _⟩ := h 0 hp
  refine ⟨ad, hA, fun j v hj => ?_⟩
  obtain ⟨hlt, rfl⟩ := List.getElem?_eq_some_iff.1 hj
  obtain ⟨ad', hA', _, hc'⟩ := (h.below ((Below.refl W.heap.size W).alloc (Nat.le_refl _) o)) j hlt
  rw [hA] at hA'
  cases hA'
  exact hc'

set_option maxHeartbeats 1000000 in
set_option maxRecDepth 100000 in
theorem lend_any (A : Option Addr) (n c : Nat) (xs : List Int) (W : World) (hl : xs.length = n) (h : CellsAt W A (bvs xs)) (hn : n + 67 ≤ 140737488355328) :
    Calls Tryd.prog 20 #[.slice A n c] W fun e w' => ∃ g cur, e = .returned (.slice (some ⟨g, 0, none⟩) n (n + 67)) ∧ W.heap.size ≤ g ∧ Blk w' g 5 cur ∧ cur.toList = bvs (xs ++ List.replicate 67 169) ∧ Below W.heap.size W w' := by
  have H := Lib.hid h
  have HL := Lib.hid hl
  have HN := Lib.hid hn
  obtain ⟨cs, hcs⟩ : ∃ cs, cs = bvs xs := ⟨_, rfl⟩
  have HCS := Lib.hid hcs
  have hnn : (0 : Int) ≤ (n : Int) := by omega
  have hn9 : (n : Int) ≤ 140737488355261 := by omega
  clear h hl hn hcs
  go_enter Tryd.func20, Tryd.ntmps20
  go_wp2_with (first
    | (at_make; refine wpList_make_bytes rfl _ _ rfl (n + 67) _ rfl rfl (by omega) HN.out ?_; intro cs0 h0; have H0 := Lib.hid h0; clear h0)
    | ((with_reducible show wpList _ _ _ _ _ _); refine wpList_copy_splice rfl (.tmp 9) (.tmp 10) 24 24 rfl 5 Tryd.underlying24 u8_size (some ⟨W.heap.size, 0, none⟩) A (n + 67) (n + 67) n c rfl rfl W.heap.size 0 cs0 5 (Blk.new W _ _) cs (by rw [HCS.out, bvs_len, HL.out]; exact (Nat.min_eq_left (by omega)).symm) ?_ (by rw [HCS.out, bvs_len, HL.out, H0.out]; omega) (by rw [HCS.out]; exact bvs_one _) W.heap.size W ((Below.refl _ _).alloc (Nat.le_refl _) _) (Nat.le_refl _) ?_
       exact copy_src HCS.out H.out
       intro w2 hw2 hb2
       have HW2 := Lib.hid (show Blk w2 W.heap.size 5 (splice cs0 0 cs).toArray from hw2.out)
       have B2 := Lib.hid hb2
       clear hw2 hb2))
  have HS := Lib.hid (show (splice cs0 0 cs).toArray.size = n + 67 ∧ (splice cs0 0 cs).toArray.toList.take n = bvs xs by
    have h1 := H0.out
    have h2 := HL.out
    rw [HCS.out]
    refine ⟨?_, ?_⟩
    · rw [List.size_toArray, length_splice _ _ _ (by rw [bvs_len]; omega)]; exact h1
    · rw [List.toList_toArray]
      unfold splice
      rw [List.take_zero, List.nil_append, List.take_left' (by rw [bvs_len]; exact h2)])
  generalize (splice cs0 0 cs).toArray = cur at HW2 HS
  go_loopw [4] (fun i wr => ∃ (k : Nat) (cs : Array Value), n ≤ k ∧ k ≤ n + 67 ∧ i = .int .i64 k ∧ Hid (Blk wr W.heap.size 5 cs ∧ cs.size = n + 67 ∧ cs.toList.take k = bvs (xs ++ List.replicate (k - n) 169) ∧ Below W.heap.size W wr)) (fun i _ => n + 67 - (intOf i).toNat)
  case atStart => exact ⟨n, cur, Nat.le_refl _, by omega, rfl, Lib.hid ⟨HW2.out, HS.out.1, by simpa using HS.out.2, B2.out⟩⟩
  case round =>
    obtain ⟨k, cs2, hk1, hk2, rfl, HP⟩ := hrel
    by_cases hlt : k < n + 67
    · have hkc : k < cs2.size := by rw [HP.out.2.1]; exact hlt
      have hcr : wr.cell? ⟨W.heap.size, k, none⟩ = some (cs2[k]'hkc) := by rw [HP.out.1.cell k, Array.getElem?_eq_getElem hkc]
      have hfr : wr.frozen? ⟨W.heap.size, k, none⟩ = false := HP.out.1.frozen k
      go_wp2
      go_roundw
      case rel => exact ⟨k + 1, cs2.setIfInBounds k (.int .u8 169), by omega, by omega, by go_num, Lib.hid ⟨HP.out.1.set_ k _, by simpa using HP.out.2.1, fill_step cs2 xs 169 n k hk1 hkc HP.out.2.2.1, HP.out.2.2.2.setCell (Nat.le_refl _) _⟩⟩
      case measure => simp [intOf]; omega
    · go_wp2
      go_ret
      refine ⟨W.heap.size, cs2, rfl, Nat.le_refl _, HP.out.1, ?_, HP.out.2.2.2⟩
      have h := HP.out.2.2.1
      obtain rfl : k = n + 67 := by omega
      rw [List.take_of_length_le (by simp [HP.out.2.1])] at h
      rw [h]
      simp
end Go.Proofs.YtdgokebablhoiaaDoor
