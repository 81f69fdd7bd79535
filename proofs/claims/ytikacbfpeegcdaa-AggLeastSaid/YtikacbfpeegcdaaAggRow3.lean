/- A slice of ints, of float64s that came in reads as a list. -/
import Derived.Test.YtikacbfpeegcdaaAggRow2
import Derived.Test.YtikacbfpeegcdaaAggEnds
import Derived.Deep.Slices
namespace Go.Proofs.Ytikacbfpeegcdaa
open Go.ChangeShapes Go.WideShapes Go.ChangeAt Go.RowKit Go.Deep

theorem trod_float {H : Type} {enc : TypeId × Value → H} {P : Program} {w : World} {base : Nat} {spare : Nat → Bool} {held : Bool} {fuel : Nat} {t : TypeId} {k : FloatKind} {cs : List Value} {x : DataW H × List MemPlace}
    (ht : P.underlying t = some (.float k)) (h : DataW.trod enc P w base spare held fuel t cs = some x) : ∃ n, cs = [.float k n] := by
  cases fuel with
  | zero => simp [DataW.trod] at h
  | succ n =>
    unfold DataW.trod at h
    rw [ht] at h
    split at h <;> simp_all

def bitsOf : Value → Nat
  | .float _ b => b
  | _ => 0

theorem floats_at_arg {H : Type} {enc : TypeId × Value → H} {P : Program} {W : World} {t e : TypeId} {A : Option Addr} {n c : Nat} {d : DataW H} {p : List MemPlace}
    (ht : P.underlying t = some (.slice e)) (he : P.underlying e = some (.float .f64)) (hc : P.cellsOf e = 1) (h : DataW.Trod enc P W 0 (fun _ => true) true t (.slice A n c) d p) :
    ∃ fs : List Nat, fs.length = n ∧ CellsAt W A (fs.map (Value.float .f64 ·)) ∧ n ≤ maxLen := by
  obtain ⟨fuel, hf⟩ := h
  rcases open_slice1 ht hc hf with ⟨hcs, _⟩ | ⟨a, len, cap, m, n', V, D, Pl, hcs, hb, hl, hm, hmm, _, hx⟩
  · simp [Value.cells] at hcs
    obtain ⟨rfl, rfl, rfl⟩ := hcs
    exact ⟨[], rfl, fun k hk => absurd hk (by simp), by simp [maxLen]⟩
  · simp [Value.cells] at hcs
    obtain ⟨rfl, rfl, rfl⟩ := hcs
    simp only [if_true] at hmm
    refine ⟨(List.range n).map fun i => bitsOf (V i), by simp, fun k hk => ?_, by omega⟩
    simp at hk
    obtain ⟨h1, h2⟩ := hx k (by omega)
    obtain ⟨b, h3⟩ := trod_float he h2
    simp at h3
    exact ⟨a, rfl, by have := World.block_lt_of_cell? W _ h1; rwa [block_add] at this, by rw [h1, h3]; simp [h3, bitsOf]⟩
end Go.Proofs.Ytikacbfpeegcdaa
