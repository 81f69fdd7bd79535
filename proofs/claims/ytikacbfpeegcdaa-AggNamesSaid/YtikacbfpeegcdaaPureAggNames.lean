/- AggNames, as a statement over numbers and texts alone: the error's number is 25, and its word is 'overflow'. -/
import Derived.Test.YtikacbfpeegcdaaPAggNamesx1
import Derived.KernelRfl
namespace Go.Proofs.Ytikacbfpeegcdaa.Pure
open Go.RowKit Go.Proofs.Ytikacbfpeegcdaa.PAggNames Go.Proofs.YtikacbfpeegcdaaW.PrintWords Go.Proofs.YtikacbfpeegcdaaW.PrintLast

/-- YOURS: spatelaw3_AggNames.f  = some true
What it reaches (each with k first where it has rounds; `.mono`: more rounds tell the same; `.l0`, ..: its loops, with `.mono_l`): api_wordOfBytes.f, api_wordOfState.f, api_wordOfTasks.f, api_Errno_Error.f, spatelaw3_AggNames.f -/
theorem AggNames : spatelaw3_AggNames.Pure := by
  show spatelaw3_AggNames.f = some true
  kernel_rfl

end Go.Proofs.Ytikacbfpeegcdaa.Pure
