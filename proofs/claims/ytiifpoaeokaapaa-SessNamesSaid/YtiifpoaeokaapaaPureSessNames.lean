/- SessNames, as a closed statement over numbers and texts alone: the numbers and words are the document's. -/
import Derived.Test.YtiifpoaeokaapaaPSessNamesx1
import Derived.KernelRfl
namespace Go.Proofs.Ytiifpoaeokaapaa.Pure
open Go.RowKit Go.Proofs.Ytiifpoaeokaapaa.PSessNames Go.Proofs.YtiifpoaeokaapaaW.PrintWords Go.Proofs.YtiifpoaeokaapaaW.PrintLast

/-- YOURS: spatelaw17_SessNames.f  = some true
What it reaches (each with k first where it has rounds; `.mono`: more rounds tell the same; `.l0`, ..: its loops, with `.mono_l`): spatelaw17_SessNames.f -/
theorem SessNames : spatelaw17_SessNames.Pure := by
  show spatelaw17_SessNames.f = some true
  kernel_rfl

end Go.Proofs.Ytiifpoaeokaapaa.Pure
