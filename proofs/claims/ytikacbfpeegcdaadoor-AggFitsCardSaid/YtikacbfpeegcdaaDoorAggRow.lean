/- A slice of int64s that came in reads as a list. -/
import Derived.Test.YtikacbfpeegcdaaDoorAggH
import Derived.Test.YtikacbfpeegcdaaDoorRowWords
namespace Go.Proofs.YtikacbfpeegcdaaDoor
open Go.ChangeShapes Go.WideShapes Go.ChangeAt Go.RowKit

theorem ints_at_arg {H : Type} {enc : TypeId × Value → H} {P : Program} {W : World} {t e : TypeId} {A : Option Addr} {n c : Nat} {d : DataW H} {p : List MemPlace}
    (ht : P.underlying t = some (.slice e)) (he : P.underlying e = some (.int .i64)) (hc : P.cellsOf e = 1) (h : DataW.Trod enc P W 0 (fun _ => true) true t (.slice A n c) d p) :
    ∃ zs, IntsAt W A n zs ∧ n ≤ maxLen := by
  obtain ⟨fuel, hf⟩ := h
  rcases open_ints ht he hc hf with ⟨hcs, _⟩ | ⟨a, len, cap, zs, hcs, _, hl, hm, hz, _, hcell, hwf⟩
  · simp [Value.cells] at hcs
    obtain ⟨rfl, rfl, rfl⟩ := hcs
    exact ⟨[], ⟨rfl, fun k hk => absurd hk (by omega), fun x hx => by cases hx⟩, by simp [maxLen]⟩
  · simp [Value.cells] at hcs
    obtain ⟨rfl, rfl, rfl⟩ := hcs
    have hzc : zs.length = c := by simpa using hz
    refine ⟨zs.take n, ⟨by simp; omega, fun k hk => ?_, fun x hx => bounds_i64 (hwf x (List.mem_of_mem_take hx))⟩, by omega⟩
    have h1 := hcell k (by omega)
    have h2 : zs.getD k 0 = (zs.take n)[k]'(by simp; omega) := by
      rw [List.getElem_take, List.getD_eq_getElem?_getD, List.getElem?_eq_getElem (by omega)]; rfl
    rw [h2] at h1
    exact ⟨a, rfl, by have := World.block_lt_of_cell? W _ h1; rwa [block_add] at this, h1⟩
end Go.Proofs.YtikacbfpeegcdaaDoor
