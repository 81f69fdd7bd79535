/- CodecNames, as a closed statement over numbers and texts alone: the numbers and words are the document's. -/
import Derived.Test.YteffpfgdoganpaaPCodecNamesx1
import Derived.KernelRfl
namespace Go.Proofs.Yteffpfgdoganpaa.Pure
open Go.RowKit Go.Proofs.Yteffpfgdoganpaa.PCodecNames Go.Proofs.YteffpfgdoganpaaW.PrintWords Go.Proofs.YteffpfgdoganpaaW.PrintLast

/-- YOURS: spatelaw2_CodecNames.f  = some true
What it reaches (each with k first where it has rounds; `.mono`: more rounds tell the same; `.l0`, ..: its loops, with `.mono_l`): spatelaw2_CodecNames.f -/
theorem CodecNames : spatelaw2_CodecNames.Pure := by
  show spatelaw2_CodecNames.f = some true
  kernel_rfl

end Go.Proofs.Yteffpfgdoganpaa.Pure
