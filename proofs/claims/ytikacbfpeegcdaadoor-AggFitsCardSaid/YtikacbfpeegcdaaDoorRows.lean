/-
  NARROWER THAN 'FOR EVERY INPUT', by the rows' own cells (each row's printed sentence says how): AggFits: laid · AggProducts: laid · AggFolds: laid · AggSums: laid · AggPuts: laid.
  DERIVED. THE GIVEN ROWS OF THIS SEAT. 5 by the template 'for every input the law returns true; each argument reads behind the call as it read before'; 0 by the template 'total and deterministic' (their statements: YtikacbfpeegcdaaDoorTotals.lean).
  GIVEN WITH THE SEED: the statements are not yours to turn. If you find one false, say at which input.
  Laid BY PROGRAM, IN A SANDBOX (cutbox-rows.mjs): the forced cells as the released guide's own fill.sh prints them over the translation 5a41c3ed01775a81… (all of the seat's roots in one cut). By AI agents, Wed Nov 11 2026. No macro, syntax, notation, axiom, sorry.
-/
import Derived.Test.YtikacbfpeegcdaaDoorChecked
import GoSem.Claim
import GoSem.ClaimJoined
import GoSem.ClaimMapViews
import Derived.JoinedTies
import Derived.KernelRfl
namespace Go.Proofs.YtikacbfpeegcdaaDoor
/- THE CELL 'sum', in the pinned program and in every row, IS THE sha256 OF THE DUMP (.gsa) THAT YtikacbfpeegcdaaDoorProg.lean LOADS. Nothing in Lean hashes anything: it is a label: what it is worth is what the hold of that sum in a sandbox is worth. -/
noncomputable def Tryd.pinned : Pinned := { name := "ytikacbfpeegcdaadoor", sum := "5a41c3ed01775a81a95ce8c91bba94de4c37e052e4fe7dae54ab10e08d09b170", checked := Tryd.checked }
namespace Rows
def none {H : Type} : Left H := { results := [], args := [] }

/- WHAT THE LISTED PACKAGE-LEVEL VARIABLES READ AS WHEN THE CALL BEGINS. Each datum BY PROGRAM (the guide's laid-datum.mjs) off the statement by which the dump's own 'gosem.cut.vars' lays the variable. In a bare row this is a premise. The card (YtikacbfpeegcdaaDoorCards.lean) ties it to the program's text. -/
def laid_errors_errorType {H : Type} : DataW H := .iface "internal/reflectlite.rtype" (.agg [.ptr (.lit (.string [101, 114, 114, 111, 114]))])

/-- 'spatelaw3.AggFits': WHATEVER THE INPUT: true; the input reads as it did. -/
def aggFitsSpec : ChangeSpec := { name := "aggFits", fn := fun _ => fun
  | [d] => { results := [.lit (.bool true)], args := [d] }
  | _ => none }
def aggFitsRow : OpenClaim := { program := "ytikacbfpeegcdaadoor", sum := "5a41c3ed01775a81a95ce8c91bba94de4c37e052e4fe7dae54ab10e08d09b170", func := "spate/spatelaw3.AggFits", spec := "aggFits", inPlace := ["math/bits.Add64", "internal/reflectlite.ValueOf", "(internal/reflectlite.Value).Type", "(internal/reflectlite.Value).IsNil", "internal/reflectlite.TypeOf", "(internal/reflectlite.Value).Elem", "(internal/reflectlite.Value).Set"], unfollowed := true, recurses := true, named := ["errors.errorType"], apart := false, laid := [("errors.errorType", laid_errors_errorType)] }
def AggFitsSaid : Prop := aggFitsRow.holds Tryd.pinned (OpenSpec.ofChange aggFitsSpec)

/-- ITS FALSE NEIGHBOUR: 'it returns false'. Refute it at one input. -/
def aggFitsWrong : ChangeSpec := { name := "aggFits", fn := fun _ => fun
  | [d] => { results := [.lit (.bool false)], args := [d] }
  | _ => none }
def AggFitsWrongFalsely : Prop := aggFitsRow.holds Tryd.pinned (OpenSpec.ofChange aggFitsWrong)

/-- 'spatelaw3.AggProducts': WHATEVER THE INPUT: true; the input reads as it did. -/
def aggProductsSpec : ChangeSpec := { name := "aggProducts", fn := fun _ => fun
  | [d1, d2] => { results := [.lit (.bool true)], args := [d1, d2] }
  | _ => none }
def aggProductsRow : OpenClaim := { program := "ytikacbfpeegcdaadoor", sum := "5a41c3ed01775a81a95ce8c91bba94de4c37e052e4fe7dae54ab10e08d09b170", func := "spate/spatelaw3.AggProducts", spec := "aggProducts", inPlace := ["math/bits.Add64", "internal/reflectlite.TypeOf", "internal/reflectlite.ValueOf", "(internal/reflectlite.Value).Type", "(internal/reflectlite.Value).IsNil", "(internal/reflectlite.Value).Elem", "(internal/reflectlite.Value).Set"], unfollowed := true, recurses := true, named := ["errors.errorType"], apart := false, laid := [("errors.errorType", laid_errors_errorType)] }
def AggProductsSaid : Prop := aggProductsRow.holds Tryd.pinned (OpenSpec.ofChange aggProductsSpec)

/-- ITS FALSE NEIGHBOUR: 'it returns false'. Refute it at one input. -/
def aggProductsWrong : ChangeSpec := { name := "aggProducts", fn := fun _ => fun
  | [d1, d2] => { results := [.lit (.bool false)], args := [d1, d2] }
  | _ => none }
def AggProductsWrongFalsely : Prop := aggProductsRow.holds Tryd.pinned (OpenSpec.ofChange aggProductsWrong)

/-- 'spatelaw3.AggFolds': WHATEVER THE INPUT: true; the input reads as it did. -/
def aggFoldsSpec : ChangeSpec := { name := "aggFolds", fn := fun _ => fun
  | [d] => { results := [.lit (.bool true)], args := [d] }
  | _ => none }
def aggFoldsRow : OpenClaim := { program := "ytikacbfpeegcdaadoor", sum := "5a41c3ed01775a81a95ce8c91bba94de4c37e052e4fe7dae54ab10e08d09b170", func := "spate/spatelaw3.AggFolds", spec := "aggFolds", inPlace := ["math/bits.Add64", "internal/reflectlite.TypeOf", "internal/reflectlite.ValueOf", "(internal/reflectlite.Value).Type", "(internal/reflectlite.Value).IsNil", "(internal/reflectlite.Value).Elem", "(internal/reflectlite.Value).Set"], unfollowed := true, recurses := true, named := ["errors.errorType"], apart := false, laid := [("errors.errorType", laid_errors_errorType)] }
def AggFoldsSaid : Prop := aggFoldsRow.holds Tryd.pinned (OpenSpec.ofChange aggFoldsSpec)

/-- ITS FALSE NEIGHBOUR: 'it returns false'. Refute it at one input. -/
def aggFoldsWrong : ChangeSpec := { name := "aggFolds", fn := fun _ => fun
  | [d] => { results := [.lit (.bool false)], args := [d] }
  | _ => none }
def AggFoldsWrongFalsely : Prop := aggFoldsRow.holds Tryd.pinned (OpenSpec.ofChange aggFoldsWrong)

/-- 'spatelaw3.AggSums': WHATEVER THE INPUT: true; the input reads as it did. -/
def aggSumsSpec : ChangeSpec := { name := "aggSums", fn := fun _ => fun
  | [d1, d2] => { results := [.lit (.bool true)], args := [d1, d2] }
  | _ => none }
def aggSumsRow : OpenClaim := { program := "ytikacbfpeegcdaadoor", sum := "5a41c3ed01775a81a95ce8c91bba94de4c37e052e4fe7dae54ab10e08d09b170", func := "spate/spatelaw3.AggSums", spec := "aggSums", inPlace := ["math/bits.Add64", "internal/reflectlite.TypeOf", "internal/reflectlite.ValueOf", "(internal/reflectlite.Value).Type", "(internal/reflectlite.Value).IsNil", "(internal/reflectlite.Value).Elem", "(internal/reflectlite.Value).Set"], unfollowed := true, recurses := true, named := ["errors.errorType"], apart := false, laid := [("errors.errorType", laid_errors_errorType)] }
def AggSumsSaid : Prop := aggSumsRow.holds Tryd.pinned (OpenSpec.ofChange aggSumsSpec)

/-- ITS FALSE NEIGHBOUR: 'it returns false'. Refute it at one input. -/
def aggSumsWrong : ChangeSpec := { name := "aggSums", fn := fun _ => fun
  | [d1, d2] => { results := [.lit (.bool false)], args := [d1, d2] }
  | _ => none }
def AggSumsWrongFalsely : Prop := aggSumsRow.holds Tryd.pinned (OpenSpec.ofChange aggSumsWrong)

/-- 'spatelaw3.AggPuts': WHATEVER THE INPUT: true; the input reads as it did. -/
def aggPutsSpec : ChangeSpec := { name := "aggPuts", fn := fun _ => fun
  | [d1, d2, d3] => { results := [.lit (.bool true)], args := [d1, d2, d3] }
  | _ => none }
def aggPutsRow : OpenClaim := { program := "ytikacbfpeegcdaadoor", sum := "5a41c3ed01775a81a95ce8c91bba94de4c37e052e4fe7dae54ab10e08d09b170", func := "spate/spatelaw3.AggPuts", spec := "aggPuts", inPlace := ["math/bits.Add64", "internal/reflectlite.TypeOf", "internal/reflectlite.ValueOf", "(internal/reflectlite.Value).Type", "(internal/reflectlite.Value).IsNil", "(internal/reflectlite.Value).Elem", "(internal/reflectlite.Value).Set"], unfollowed := true, recurses := true, named := ["errors.errorType"], apart := false, laid := [("errors.errorType", laid_errors_errorType)] }
def AggPutsSaid : Prop := aggPutsRow.holds Tryd.pinned (OpenSpec.ofChange aggPutsSpec)

/-- ITS FALSE NEIGHBOUR: 'it returns false'. Refute it at one input. -/
def aggPutsWrong : ChangeSpec := { name := "aggPuts", fn := fun _ => fun
  | [d1, d2, d3] => { results := [.lit (.bool false)], args := [d1, d2, d3] }
  | _ => none }
def AggPutsWrongFalsely : Prop := aggPutsRow.holds Tryd.pinned (OpenSpec.ofChange aggPutsWrong)

/- THE SECOND FORM. 'bulk': how many values and letters a reading holds, each counted each time it is reached (what is shared counts as often as it is met; a slice's spare places count too). A statement '..UptoSaid' is the law's where the arguments, and the package variables that the reading takes, are together of bulk at most 1048576: NARROWER than '..Said'. Prove '..Said' where nothing that the law and all that it calls make is longer than what came in: it says more and counts as full. Else prove '..UptoSaid'. A law counts once. -/
mutual
def uptoBulk {H : Type} : DataW H → Nat
  | .lit (.string bytes) => bytes.length + 1
  | .lit _ => 1
  | .nil => 1
  | .ptr d => uptoBulk d + 1
  | .slice elems spare => uptoBulkAll elems + uptoBulkAll spare + 1
  | .agg parts => uptoBulkAll parts + 1
  | .iface _ d => uptoBulk d + 1
  | .map entries => uptoBulkEntries entries + 1
  | .held _ => 1
def uptoBulkAll {H : Type} : List (DataW H) → Nat
  | [] => 0
  | d :: r => uptoBulk d + uptoBulkAll r
def uptoBulkEntries {H : Type} : List (Lit × DataW H) → Nat
  | [] => 0
  | x :: r => uptoBulkEntry x + uptoBulkEntries r
def uptoBulkEntry {H : Type} : Lit × DataW H → Nat
  | (.string bytes, d) => bytes.length + uptoBulk d + 1
  | (_, d) => uptoBulk d + 1
 end
def uptoSmall : (H : Type) → List (DataW H) → Bool := fun _ ds => decide (uptoBulkAll ds ≤ 1048576)
def OpenSpec.upto (s : _root_.Go.ChangeSpec) : _root_.Go.OpenSpec := { _root_.Go.OpenSpec.ofChange s with cond := some uptoSmall }

/-- 'spatelaw3.AggFits', WHERE WHAT IT READS IS OF BULK AT MOST 1048576: true; the input reads as it did. -/
def aggFitsUptoRow : OpenClaim := { program := "ytikacbfpeegcdaadoor", sum := "5a41c3ed01775a81a95ce8c91bba94de4c37e052e4fe7dae54ab10e08d09b170", func := "spate/spatelaw3.AggFits", spec := "aggFits", inPlace := ["math/bits.Add64", "internal/reflectlite.ValueOf", "(internal/reflectlite.Value).Type", "(internal/reflectlite.Value).IsNil", "internal/reflectlite.TypeOf", "(internal/reflectlite.Value).Elem", "(internal/reflectlite.Value).Set"], unfollowed := true, recurses := true, named := ["errors.errorType"], apart := false, laid := [("errors.errorType", laid_errors_errorType)], narrowed := true }
def AggFitsUptoSaid : Prop := aggFitsUptoRow.holds Tryd.pinned (OpenSpec.upto aggFitsSpec)

/-- 'spatelaw3.AggProducts', WHERE WHAT IT READS IS OF BULK AT MOST 1048576: true; the input reads as it did. -/
def aggProductsUptoRow : OpenClaim := { program := "ytikacbfpeegcdaadoor", sum := "5a41c3ed01775a81a95ce8c91bba94de4c37e052e4fe7dae54ab10e08d09b170", func := "spate/spatelaw3.AggProducts", spec := "aggProducts", inPlace := ["math/bits.Add64", "internal/reflectlite.TypeOf", "internal/reflectlite.ValueOf", "(internal/reflectlite.Value).Type", "(internal/reflectlite.Value).IsNil", "(internal/reflectlite.Value).Elem", "(internal/reflectlite.Value).Set"], unfollowed := true, recurses := true, named := ["errors.errorType"], apart := false, laid := [("errors.errorType", laid_errors_errorType)], narrowed := true }
def AggProductsUptoSaid : Prop := aggProductsUptoRow.holds Tryd.pinned (OpenSpec.upto aggProductsSpec)

/-- 'spatelaw3.AggFolds', WHERE WHAT IT READS IS OF BULK AT MOST 1048576: true; the input reads as it did. -/
def aggFoldsUptoRow : OpenClaim := { program := "ytikacbfpeegcdaadoor", sum := "5a41c3ed01775a81a95ce8c91bba94de4c37e052e4fe7dae54ab10e08d09b170", func := "spate/spatelaw3.AggFolds", spec := "aggFolds", inPlace := ["math/bits.Add64", "internal/reflectlite.TypeOf", "internal/reflectlite.ValueOf", "(internal/reflectlite.Value).Type", "(internal/reflectlite.Value).IsNil", "(internal/reflectlite.Value).Elem", "(internal/reflectlite.Value).Set"], unfollowed := true, recurses := true, named := ["errors.errorType"], apart := false, laid := [("errors.errorType", laid_errors_errorType)], narrowed := true }
def AggFoldsUptoSaid : Prop := aggFoldsUptoRow.holds Tryd.pinned (OpenSpec.upto aggFoldsSpec)

/-- 'spatelaw3.AggSums', WHERE WHAT IT READS IS OF BULK AT MOST 1048576: true; the input reads as it did. -/
def aggSumsUptoRow : OpenClaim := { program := "ytikacbfpeegcdaadoor", sum := "5a41c3ed01775a81a95ce8c91bba94de4c37e052e4fe7dae54ab10e08d09b170", func := "spate/spatelaw3.AggSums", spec := "aggSums", inPlace := ["math/bits.Add64", "internal/reflectlite.TypeOf", "internal/reflectlite.ValueOf", "(internal/reflectlite.Value).Type", "(internal/reflectlite.Value).IsNil", "(internal/reflectlite.Value).Elem", "(internal/reflectlite.Value).Set"], unfollowed := true, recurses := true, named := ["errors.errorType"], apart := false, laid := [("errors.errorType", laid_errors_errorType)], narrowed := true }
def AggSumsUptoSaid : Prop := aggSumsUptoRow.holds Tryd.pinned (OpenSpec.upto aggSumsSpec)

/-- 'spatelaw3.AggPuts', WHERE WHAT IT READS IS OF BULK AT MOST 1048576: true; the input reads as it did. -/
def aggPutsUptoRow : OpenClaim := { program := "ytikacbfpeegcdaadoor", sum := "5a41c3ed01775a81a95ce8c91bba94de4c37e052e4fe7dae54ab10e08d09b170", func := "spate/spatelaw3.AggPuts", spec := "aggPuts", inPlace := ["math/bits.Add64", "internal/reflectlite.TypeOf", "internal/reflectlite.ValueOf", "(internal/reflectlite.Value).Type", "(internal/reflectlite.Value).IsNil", "(internal/reflectlite.Value).Elem", "(internal/reflectlite.Value).Set"], unfollowed := true, recurses := true, named := ["errors.errorType"], apart := false, laid := [("errors.errorType", laid_errors_errorType)], narrowed := true }
def AggPutsUptoSaid : Prop := aggPutsUptoRow.holds Tryd.pinned (OpenSpec.upto aggPutsSpec)

end Rows
end Go.Proofs.YtikacbfpeegcdaaDoor
