/- An error that says so. -/
import Derived.Test.YtglbdbghcdoicaaGreatDoorZPl
import Derived.Test.YtglbdbghcdoicaaGreatDoorCFrs
namespace Go.Proofs.YtglbdbghcdoicaaGreatDoor
open Go.RowKit

theorem bytes_cap {H : Type} {enc : TypeId × Value → H} {P : Program} {W : World} {t e : TypeId} {A : Option Addr} {n c : Nat} {d : DataW H} {p : List MemPlace}
    (ht : P.underlying t = some (.slice e)) (he : P.underlying e = some (.int .u8)) (hc : P.cellsOf e = 1) (h : DataW.Trod enc P W 0 (fun _ => true) true t (.slice A n c) d p) : n ≤ c := by
  obtain ⟨fuel, hf⟩ := h
  rcases Go.ChangeShapes.open_ints ht he hc hf with ⟨hcs, _⟩ | ⟨a, len, cap, zs, hcs, _, hl, _⟩
  · simp [Value.cells] at hcs
    obtain ⟨rfl, rfl, rfl⟩ := hcs
    exact Nat.le_refl _
  · simp [Value.cells] at hcs
    obtain ⟨rfl, rfl, rfl⟩ := hcs
    exact hl
/-- An error that says so. -/
def FV (W : World) (ev : Value) : Option (Int × Int) → Prop
  | none => ev = .nilIface
  | some (e, p) => (e == 0) = false ∧ ∃ g, ev = errV g ∧ Blk W g 111 #[.int .i64 e, .int .i64 p]
def fcode : Option (Int × Int) → Int
  | none => 0
  | some (e, _) => e
def fplace : Option (Int × Int) → Int
  | none => 0
  | some (_, p) => p
section
variable {W W' : World} {ev : Value} {f : Option (Int × Int)}
theorem FV.kept (h : FV W ev f) (hb : Below W.heap.size W W') : FV W' ev f := by
  rcases f with _ | ⟨e, p⟩
  · exact h
  · obtain ⟨h0, g, h1, h2⟩ := h
    exact ⟨h0, g, h1, h2.kept hb⟩
theorem FV.tur {k : Nat} {t : TypeId} {cs : Array Value} (h : FV W ev f) (ht : Tur (· = k) W W') (hk : Blk W k t cs) (hne : 111 ≠ t) : FV W' ev f := by
  rcases f with _ | ⟨e, p⟩
  · exact h
  · obtain ⟨h0, g, h1, h2⟩ := h
    exact ⟨h0, g, h1, h2.tur ht (fun e => (h2.ne_ hk hne) e)⟩
theorem fault_any (h : FV W ev f) (hT : W.cell? ⟨0, 0, none⟩ = some tyErr) :
    Calls Tryz.prog 30 #[ev, .int .i64 (fcode f), .int .i64 (fplace f)] W fun e w' => e = .returned (.bool true) ∧ Below W.heap.size W w' := by
  rcases f with _ | ⟨e, p⟩
  · obtain rfl := h
    exact fault_no 0 W
  · obtain ⟨h0, g, rfl, h2⟩ := h
    exact fault_yes g e p W hT h0 h2
end
section
variable {W w' : World} {e : Ending} {xs : List Int}
theorem DecQ.open_ (h : DecQ W (decRq xs) e w') : ∃ v ev, e = .returned (.tuple #[.agg (rqC v (decRq xs).1), ev]) ∧ CellsOwn w' W.heap.size v (decRq xs).1.cs ∧ FV w' ev (decRq xs).2 ∧ Below W.heap.size W w' := by
  obtain ⟨hb, h⟩ := h
  rcases hd : decRq xs with ⟨q, _ | ⟨c, p⟩⟩
  · rw [hd] at h
    obtain ⟨v, h1, h2⟩ := h
    exact ⟨v, _, h1, h2, rfl, hb⟩
  · obtain ⟨rfl, h0⟩ := decRq_fault hd
    rw [hd] at h
    obtain ⟨g, h1, h2⟩ := h
    exact ⟨nilS, _, h1, World.ownsRow_nil _ _ _ _, ⟨h0, g, rfl, h2⟩, hb⟩
end
theorem same_self (q : Rq) : decide (sameRq q q) = true := by rw [decide_eq_true_eq, sameRq_eq]
theorem CellsOwn.kept_ {W W1 : World} {B : Nat} {v : Value} {cs : List CellV} (h : CellsOwn W B v cs) (hb : Below W.heap.size W W1) : CellsOwn W1 B v cs := ownsRow_tur h (Tur.of_below (S := fun _ => False) hb) (fun _ _ h => h)
end Go.Proofs.YtglbdbghcdoicaaGreatDoor
