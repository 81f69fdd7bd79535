/- The law's own Lend and Back: bytes apart, with marks in the room behind them. The law's own Back. LendBytes, KeptBytes. -/
import Derived.Test.YtglbdbghcdoicaaDoorWWs
import Derived.Laws.CopyOwn
import Derived.Laws.MakeOwn
namespace Go.Proofs.YtglbdbghcdoicaaDoor
open Go.RowKit

theorem wpList_make_cells {P : Program} {w : World} {ops : Array Oper} {rest : List Oper} {o : Oper} {a : Act} {Q : Exit → Act → World → Prop} (hgd : o.guard = none) (l c : Operand) (t : TypeId) (hop : o.op = Op.makeSlice t l c)
    (e : TypeId) (i : TypeInfo) (z : Value) (bytes : Nat) (ht : P.underlying t = some (.slice e)) (hi : P.info? e = some i) (hz : i.zero = some z) (hsize : i.size = 1) (hby : i.bytes = bytes)
    (m n : Nat) (hl : a.eval l = .int .i64 (m : Int)) (hc : a.eval c = .int .i64 (n : Int)) (hmn : m ≤ n) (hn : bytes * n ≤ 281474976710656) (h63 : n ≤ 9223372036854775807)
    (hK : wpList P ops Q rest (a.put o.dst (.slice (some ⟨w.heap.size, 0, none⟩) m n)) (w.alloc (.cells (madeCells z.cells n) e))) :
    wpList P ops Q (o :: rest) a w := by
  refine wpList_plain hgd fun K hK' => ?_
  have hb : ((bytes * n : Nat) : Int) ≤ 281474976710656 := by omega
  rw [Int.natCast_mul] at hb
  have hrun := run_make (P := P) w t e i z ht hi hz .i64 .i64 (m : Int) (n : Int) (by omega) (by omega) (by rw [hby]; exact hb) (by omega)
  rw [hsize] at hrun
  simp only [Int.toNat_natCast, Nat.mul_one] at hrun
  unfold Oper.wp
  simp [execOp, hop, hl, hc, hrun, Result.andThen]
  exact hK' _ _ hK

section
variable {w : World}
theorem wpList_make_bytes {ops : Array Oper} {rest : List Oper} {o : Oper} {a : Act} {Q : Exit → Act → World → Prop} (hgd : o.guard = none) (l c : Operand) (hop : o.op = Op.makeSlice 33 l c)
    (n : Nat) (z : Int) (hl : a.eval l = .int .i64 z) (hc : a.eval c = .int .i64 z) (hz : z = (n : Int)) (hn : n ≤ 140737488355328)
    (hK : ∀ cs : List Value, cs.length = n → wpList Tryd.prog ops Q rest (a.put o.dst (.slice (some ⟨w.heap.size, 0, none⟩) n n)) (w.alloc (.cells cs.toArray 5))) :
    wpList Tryd.prog ops Q (o :: rest) a w := by
  subst hz
  obtain ⟨i, hi, hz0, hz1, hz2⟩ := info_parts info_u8
  refine wpList_make_cells hgd l c _ hop _ i _ 1 Tryd.underlying33 hi hz0 hz1 hz2 n n hl hc (Nat.le_refl _) (by omega) (by omega) ?_
  have h := hK (madeCells (Value.int .u8 0).cells n).toList (by rw [Array.length_toList]; exact size_madeCells _ _)
  rwa [Array.toArray_toList] at h
end
theorem u8_size : (Tryd.prog.info? 5).map (·.size) = some 1 := by kernel_rfl

theorem add_zero_ (g k : Nat) : (⟨g, 0, none⟩ : Addr).add k = ⟨g, k, none⟩ := by cases k <;> simp [Addr.add]
theorem take_succ_ {α : Type} (l : List α) (k : Nat) (h : k < l.length) : l.take (k + 1) = l.take k ++ [l[k]] := by
  rw [List.take_add_one, List.getElem?_eq_getElem h]; rfl
theorem fill_step (cs : Array Value) (xs : List Int) (u : Int) (n k : Nat) (hn : n ≤ k) (hk : k < cs.size) (h : cs.toList.take k = bvs (xs ++ List.replicate (k - n) u)) :
    (cs.setIfInBounds k (.int .u8 u)).toList.take (k + 1) = bvs (xs ++ List.replicate (k + 1 - n) u) := by
  have e : k + 1 - n = (k - n) + 1 := by omega
  have hs : (cs.setIfInBounds k (.int .u8 u)).toList = cs.toList.set k (.int .u8 u) := by simp
  rw [e, List.replicate_succ', hs, take_succ_ _ k (by simpa using hk), List.getElem_set_self, List.take_set_of_le (Nat.le_refl _), h]
  simp [bvs]

theorem copy_src {W : World} {A : Option Addr} {xs : List Int} {cs : List Value} {o : Obj} {g : Addr} (hcs : cs = bvs xs) (h : CellsAt W A (bvs xs)) (hp : 0 < cs.length) :
    some g = some g ∧ ∃ ad, A = some ad ∧ ∀ j v, cs[j]? = some v → (W.alloc o).cell? (ad.add j) = some v := by
  refine ⟨rfl, ?_⟩
  subst hcs
  obtain ⟨ad, hA, _, _⟩ := h 0 hp
  refine ⟨ad, hA, fun j v hj => ?_⟩
  obtain ⟨hlt, rfl⟩ := List.getElem?_eq_some_iff.1 hj
  obtain ⟨ad', hA', _, hc'⟩ := (h.below ((Below.refl W.heap.size W).alloc (Nat.le_refl _) o)) j hlt
  rw [hA] at hA'
  cases hA'
  exact hc'
end Go.Proofs.YtglbdbghcdoicaaDoor

namespace Go.Proofs.YtglbdbghcdoicaaDoor
open Go.RowKit

theorem conv_cells {W : World} {A : Option Addr} {n : Nat} {xs : List Int} (h : CellsAt W A (bvs xs)) (hl : xs.length = n) (c : Nat) : (convert 33 9 (.slice A n c)).run Tryd.prog W = .ok (.string (strOfNums xs)) W := by
  cases A with
  | none =>
    have hx : xs = [] := by
      cases xs with
      | nil => rfl
      | cons u us => obtain ⟨ad, h, _⟩ := h 0 (by simp [bvs]); cases h
    subst hx
    exact run_convert_bytes_nil (P := Tryd.prog) W _ _ Tryd.underlying33 Tryd.underlying5 n c _ Tryd.underlying9
  | some ad =>
    have hc := run_loadCells_list (P := Tryd.prog) W ad (bvs xs) (fun j v hj => by
      obtain ⟨hlt, rfl⟩ := List.getElem?_eq_some_iff.1 hj
      obtain ⟨ad', e, _, h2⟩ := h j hlt
      cases e
      exact h2)
    rw [bvs_len, hl] at hc
    rw [run_convert_bytes_string W _ _ _ _ n c Tryd.underlying33 Tryd.underlying5 Tryd.underlying9, run_bytesToString W ad n c xs hc, foldl_push_bytes]
    have e0 : ByteArray.empty.data = #[] := rfl
    rw [e0]
    simp [strOfNums]

theorem cells_of_blk {W : World} {g : Nat} {cur : Array Value} {xs more : List Int} (hg : Blk W g 5 cur) (hc : cur.toList = bvs (xs ++ more)) : CellsAt W (some ⟨g, 0, none⟩) (bvs xs) := fun k hk => by
  refine ⟨_, rfl, hg.lt, ?_⟩
  rw [add_zero_, hg.cell k, ← Array.getElem?_toList, hc, bvs_append, List.getElem?_append_left hk, List.getElem?_eq_getElem hk]
end Go.Proofs.YtglbdbghcdoicaaDoor

namespace Go.Proofs.YtglbdbghcdoicaaDoor
open Go.RowKit

section
variable {w : World}
theorem wpList_make_bytes_w {ops : Array Oper} {rest : List Oper} {o : Oper} {a : Act} {Q : Exit → Act → World → Prop} (hgd : o.guard = none) (l c : Operand) (hop : o.op = Op.makeSlice 33 l c)
    (n : Nat) (z : Int) (hl : a.eval l = .int .i64 z) (hc : a.eval c = .int .i64 z) (hz : z = (n : Int)) (hn : n ≤ 281474976710656)
    (hK : ∀ cs : List Value, cs.length = n → wpList Tryd.prog ops Q rest (a.put o.dst (.slice (some ⟨w.heap.size, 0, none⟩) n n)) (w.alloc (.cells cs.toArray 5))) :
    wpList Tryd.prog ops Q (o :: rest) a w := by
  subst hz
  obtain ⟨i, hi, hz0, hz1, hz2⟩ := info_parts info_u8
  refine wpList_make_cells hgd l c _ hop _ i _ 1 Tryd.underlying33 hi hz0 hz1 hz2 n n hl hc (Nat.le_refl _) (by omega) (by omega) ?_
  have h := hK (madeCells (Value.int .u8 0).cells n).toList (by rw [Array.length_toList]; exact size_madeCells _ _)
  rwa [Array.toArray_toList] at h
end
end Go.Proofs.YtglbdbghcdoicaaDoor
