/- The law WireNames: the walk. -/
import Derived.Test.YtdgokebablhoiaaDoorWHead
namespace Go.Proofs.YtdgokebablhoiaaDoor
open Go.RowKit

set_option maxRecDepth 100000 in
theorem law_wnames (w : World) :
    Calls Tryd.prog 13 #[] w fun e w' => e = .returned (.bool true) ∧ Below w.heap.size w w' := by
  go_enter Tryd.func13, Tryd.ntmps13
  go_wp2_with (first
    | (go_at_call 19; (with_reducible refine (head_any _).mono ?_); rintro e w1 ⟨rfl, hb⟩)
    | go_in)
  go_ret
  exact ⟨rfl, hb⟩
end Go.Proofs.YtdgokebablhoiaaDoor
