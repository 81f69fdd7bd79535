/- A slice of ints that came in. -/
import Derived.Test.YtglbdbghcdoicaaGreatDoorWBase
import Derived.Deep.Slices
namespace Go.Proofs.YtglbdbghcdoicaaGreatDoor
open Go.ChangeShapes Go.WideShapes Go.ChangeAt Go.RowKit Go.Deep

theorem block_add_si (a : Addr) (n : Nat) : (a.add n).block = a.block := by unfold Addr.add; split <;> rfl
section
variable {H : Type} {enc : TypeId × Value → H} {P : Program} {W : World}
theorem sints_arg {t e : TypeId} {A : Option Addr} {n c : Nat} {d : DataW H} {p : List MemPlace} (ht : P.underlying t = some (.slice e)) (he : P.underlying e = some (.int .i64)) (hc : P.cellsOf e = 1)
    (h : DataW.Trod enc P W 0 (fun _ => true) true t (.slice A n c) d p) : ∃ zs : List Int, zs.length = n ∧ CellsAt W A (zs.map (Value.int .i64 ·)) ∧ n ≤ maxLen := by
  obtain ⟨fuel, hf⟩ := h
  rcases open_ints ht he hc hf with ⟨hcs, _⟩ | ⟨a, len, cap, zs, hcs, _, hl, hm, hz, hx, hcell, hwf⟩
  · simp [Value.cells] at hcs
    obtain ⟨rfl, rfl, rfl⟩ := hcs
    exact ⟨[], rfl, fun k hk => absurd hk (by simp), Nat.zero_le _⟩
  · simp [Value.cells] at hcs
    obtain ⟨rfl, rfl, rfl⟩ := hcs
    have hzc : zs.length = c := by simpa using hz
    refine ⟨zs.take n, by simp; omega, fun k hk => ?_, Nat.le_trans hl hm⟩
    have hk' : k < n := by simp at hk; omega
    have h1 := hcell k (by omega)
    have h2 : zs.getD k 0 = (zs.take n)[k]'(by simp; omega) := by
      rw [List.getElem_take, List.getD_eq_getElem?_getD, List.getElem?_eq_getElem (by omega)]; rfl
    rw [h2] at h1
    exact ⟨a, rfl, by have := World.block_lt_of_cell? W _ h1; rwa [block_add_si] at this, by rw [h1]; simp⟩
end
end Go.Proofs.YtglbdbghcdoicaaGreatDoor
