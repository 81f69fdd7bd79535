/- What the tied condition gives a walk: the cell of errors.errorType; a world that meets the condition. After the given worked text ToyasProofs.lean. -/
import Derived.Test.YtglbdbghcdoicaaGreatDoorRows
import Derived.Test.YtglbdbghcdoicaaGreatDoorTie
import Derived.ChangeSame
import Derived.ChangeVars
import Derived.JoinedOf
import Derived.RowKit
import Derived.RowKitTokens
import Derived.LaidLaws
import Derived.LaidHandle
import Derived.Stop.Joined
import Derived.SevenTiedAt
namespace Go.Proofs.YtglbdbghcdoicaaGreatDoor
open Go.ChangeShapes Go.WideShapes Go.RowKit

abbrev tyErr : Value := .iface 207 (.agg #[.pointer (some ⟨1, 56, none⟩)])
theorem tied_et : Tryz.prog.globalNamed "errors.errorType" = some 0 := by kernel_rfl
theorem tied_rt : (Tryz.prog.cutTypes.find? (·.1 == "internal/reflectlite.rtype")).map (·.2) = some 207 := by kernel_rfl
theorem tied_row : ((List.range 286).filter fun t => Tryz.prog.rowNamed t [101, 114, 114, 111, 114]) = [56] := by kernel_rfl
theorem tied_size : Tryz.prog.types.size = 286 := by kernel_rfl
theorem handle_of_laid {W : World} (h : laidMetH Tryz.prog [("errors.errorType", Rows.laid_errors_errorType)] W) : W.cell? ⟨0, 0, none⟩ = some tyErr := by
  have h' : laidMet Tryz.prog [] W ∧ handlesMet Tryz.prog [("errors.errorType", Rows.laid_errors_errorType)] W := h
  obtain ⟨name, u, ty, e1, e2, e3, e4, e5⟩ := h'.2 _ (List.mem_singleton.2 rfl)
  have en : name = [101, 114, 114, 111, 114] := (Option.some.inj e1).symm
  subst en
  obtain rfl := Option.some.inj (tied_rt.symm.trans e2)
  have hm : ty ∈ (List.range 286).filter fun t => Tryz.prog.rowNamed t [101, 114, 114, 111, 114] := List.mem_filter.2 ⟨List.mem_range.2 (by rw [← tied_size]; exact e3), e4⟩
  rw [tied_row] at hm
  obtain rfl := List.mem_singleton.1 hm
  have hh : typeHandle Tryz.prog 56 = .pointer (some ⟨1, 56, none⟩) := by kernel_rfl
  rw [hh] at e5
  simpa using World.var?_cell tied_et e5 0
noncomputable def laidWorld (os : Os) : World :=
  let w0 := World.holding Tryz.prog os ⟨#[], #[], []⟩
  { w0 with heap := w0.heap.modify 0 fun
      | .cells _ t frozen => .cells #[tyErr] t frozen
      | o => o }
theorem laidWorld_met (os : Os) (args : Array Value) : laidMetH Tryz.prog [("errors.errorType", Rows.laid_errors_errorType)] ((laidWorld os).forCall (fun _ _ => 0) ⟨#[], args, []⟩).memory :=
  laidMetH_of_parts (laidMet_nil _ _) (by kernel_rfl)
end Go.Proofs.YtglbdbghcdoicaaGreatDoor
