/- The law's own Back. -/
import Derived.Test.YteffpfgdoganpaaDoorWLend
namespace Go.Proofs.YteffpfgdoganpaaDoor
open Go.RowKit

theorem conv_cells {W : World} {A : Option Addr} {n : Nat} {xs : List Int} (h : CellsAt W A (bvs xs)) (hl : xs.length = n) (c : Nat) : (convert 45 9 (.slice A n c)).run Tryd.prog W = .ok (.string (strOfNums xs)) W := by
  cases A with
  | none =>
    have hx : xs = [] := by
      cases xs with
      | nil => rfl
      | cons u us => obtain ⟨ad, h, _⟩ := h 0 (by simp [bvs]); cases h
    subst hx
    exact run_convert_bytes_nil (P := Tryd.prog) W _ _ Tryd.underlying45 Tryd.underlying5 n c _ Tryd.underlying9
  | some ad =>
    have hc := run_loadCells_list (P := Tryd.prog) W ad (bvs xs) (fun j v hj => by
      obtain ⟨hlt, rfl⟩ := List.getElem?_eq_some_iff.1 hj
      obtain ⟨ad', e, _, h2⟩ := h j hlt
      cases e
      exact h2)
    rw [bvs_len, hl] at hc
    rw [run_convert_bytes_string W _ _ _ _ n c Tryd.underlying45 Tryd.underlying5 Tryd.underlying9, run_bytesToString W ad n c xs hc, foldl_push_bytes]
    have e0 : ByteArray.empty.data = #[] := rfl
    rw [e0]
    simp [strOfNums]

theorem cells_of_blk {W : World} {g : Nat} {cur : Array Value} {xs more : List Int} (hg : Blk W g 5 cur) (hc : cur.toList = bvs (xs ++ more)) : CellsAt W (some ⟨g, 0, none⟩) (bvs xs) := fun k hk => by
  refine ⟨_, rfl, hg.lt, ?_⟩
  rw [add_zero_, hg.cell k, ← Array.getElem?_toList, hc, bvs_append, List.getElem?_append_left hk, List.getElem?_eq_getElem hk]
end Go.Proofs.YteffpfgdoganpaaDoor
