/-
  NARROWER THAN 'FOR EVERY INPUT', by the rows' own cells (each row's printed sentence says how): SessAnswers: laid · SessPieces: laid · SessWhole: laid · SessHeard: laid.
  DERIVED. THE GIVEN ROWS OF THIS SEAT. 4 by the template 'for every input the law returns true; each argument reads behind the call as it read before'; 0 by the template 'total and deterministic' (their statements: YtglbdbghcdoicaaDoorTotals.lean).
  GIVEN WITH THE SEED: the statements are not yours to turn. If you find one false, say at which input.
  Laid BY PROGRAM, IN A SANDBOX (cutbox-rows.mjs): the forced cells as the released guide's own fill.sh prints them over the translation 3cc45a7f7afd8d96… (all of the seat's roots in one cut). By AI agents, Wed Nov 11 2026. No macro, syntax, notation, axiom, sorry.
-/
import Derived.Test.YtglbdbghcdoicaaDoorChecked
import GoSem.Claim
import GoSem.ClaimJoined
import GoSem.ClaimMapViews
import Derived.JoinedTies
import Derived.KernelRfl
namespace Go.Proofs.YtglbdbghcdoicaaDoor
/- THE CELL 'sum', in the pinned program and in every row, IS THE sha256 OF THE DUMP (.gsa) THAT YtglbdbghcdoicaaDoorProg.lean LOADS. Nothing in Lean hashes anything: it is a label: what it is worth is what the hold of that sum in a sandbox is worth. -/
noncomputable def Tryd.pinned : Pinned := { name := "ytglbdbghcdoicaadoor", sum := "3cc45a7f7afd8d96cd2099b9ba7329909404cf0ac2afc97d9bf13447c3fc5b8c", checked := Tryd.checked }
namespace Rows
def none {H : Type} : Left H := { results := [], args := [] }

/- WHAT THE LISTED PACKAGE-LEVEL VARIABLES READ AS WHEN THE CALL BEGINS. Each datum BY PROGRAM (the guide's laid-datum.mjs) off the statement by which the dump's own 'gosem.cut.vars' lays the variable. In a bare row this is a premise. The card (YtglbdbghcdoicaaDoorCards.lean) ties it to the program's text. -/
def laid_errors_errorType {H : Type} : DataW H := .iface "internal/reflectlite.rtype" (.agg [.ptr (.lit (.string [101, 114, 114, 111, 114]))])

/-- 'spatelaw17.SessAnswers': WHATEVER THE INPUT: true; the input reads as it did. -/
def sessAnswersSpec : ChangeSpec := { name := "sessAnswers", fn := fun _ => fun
  | [d1, d2, d3] => { results := [.lit (.bool true)], args := [d1, d2, d3] }
  | _ => none }
def sessAnswersRow : OpenClaim := { program := "ytglbdbghcdoicaadoor", sum := "3cc45a7f7afd8d96cd2099b9ba7329909404cf0ac2afc97d9bf13447c3fc5b8c", func := "spate/spatelaw17.SessAnswers", spec := "sessAnswers", inPlace := ["internal/reflectlite.TypeOf", "internal/reflectlite.ValueOf", "(internal/reflectlite.Value).Type", "(internal/reflectlite.Value).IsNil", "(internal/reflectlite.Value).Elem", "(internal/reflectlite.Value).Set"], unfollowed := true, recurses := true, named := ["errors.errorType"], apart := false, laid := [("errors.errorType", laid_errors_errorType)] }
def SessAnswersSaid : Prop := sessAnswersRow.holds Tryd.pinned (OpenSpec.ofChange sessAnswersSpec)

/-- ITS FALSE NEIGHBOUR: 'it returns false'. Refute it at one input. -/
def sessAnswersWrong : ChangeSpec := { name := "sessAnswers", fn := fun _ => fun
  | [d1, d2, d3] => { results := [.lit (.bool false)], args := [d1, d2, d3] }
  | _ => none }
def SessAnswersWrongFalsely : Prop := sessAnswersRow.holds Tryd.pinned (OpenSpec.ofChange sessAnswersWrong)

/-- 'spatelaw17.SessPieces': WHATEVER THE INPUT: true; the input reads as it did. -/
def sessPiecesSpec : ChangeSpec := { name := "sessPieces", fn := fun _ => fun
  | [d1, d2, d3] => { results := [.lit (.bool true)], args := [d1, d2, d3] }
  | _ => none }
def sessPiecesRow : OpenClaim := { program := "ytglbdbghcdoicaadoor", sum := "3cc45a7f7afd8d96cd2099b9ba7329909404cf0ac2afc97d9bf13447c3fc5b8c", func := "spate/spatelaw17.SessPieces", spec := "sessPieces", inPlace := ["internal/reflectlite.TypeOf", "internal/reflectlite.ValueOf", "(internal/reflectlite.Value).Type", "(internal/reflectlite.Value).IsNil", "(internal/reflectlite.Value).Elem", "(internal/reflectlite.Value).Set"], unfollowed := true, recurses := true, named := ["errors.errorType"], apart := false, laid := [("errors.errorType", laid_errors_errorType)] }
def SessPiecesSaid : Prop := sessPiecesRow.holds Tryd.pinned (OpenSpec.ofChange sessPiecesSpec)

/-- ITS FALSE NEIGHBOUR: 'it returns false'. Refute it at one input. -/
def sessPiecesWrong : ChangeSpec := { name := "sessPieces", fn := fun _ => fun
  | [d1, d2, d3] => { results := [.lit (.bool false)], args := [d1, d2, d3] }
  | _ => none }
def SessPiecesWrongFalsely : Prop := sessPiecesRow.holds Tryd.pinned (OpenSpec.ofChange sessPiecesWrong)

/-- 'spatelaw17.SessWhole': WHATEVER THE INPUT: true; the input reads as it did. -/
def sessWholeSpec : ChangeSpec := { name := "sessWhole", fn := fun _ => fun
  | [d1, d2, d3] => { results := [.lit (.bool true)], args := [d1, d2, d3] }
  | _ => none }
def sessWholeRow : OpenClaim := { program := "ytglbdbghcdoicaadoor", sum := "3cc45a7f7afd8d96cd2099b9ba7329909404cf0ac2afc97d9bf13447c3fc5b8c", func := "spate/spatelaw17.SessWhole", spec := "sessWhole", inPlace := ["internal/reflectlite.TypeOf", "internal/reflectlite.ValueOf", "(internal/reflectlite.Value).Type", "(internal/reflectlite.Value).IsNil", "(internal/reflectlite.Value).Elem", "(internal/reflectlite.Value).Set"], unfollowed := true, recurses := true, named := ["errors.errorType"], apart := false, laid := [("errors.errorType", laid_errors_errorType)] }
def SessWholeSaid : Prop := sessWholeRow.holds Tryd.pinned (OpenSpec.ofChange sessWholeSpec)

/-- ITS FALSE NEIGHBOUR: 'it returns false'. Refute it at one input. -/
def sessWholeWrong : ChangeSpec := { name := "sessWhole", fn := fun _ => fun
  | [d1, d2, d3] => { results := [.lit (.bool false)], args := [d1, d2, d3] }
  | _ => none }
def SessWholeWrongFalsely : Prop := sessWholeRow.holds Tryd.pinned (OpenSpec.ofChange sessWholeWrong)

/-- 'spatelaw17.SessHeard': WHATEVER THE INPUT: true; the input reads as it did. -/
def sessHeardSpec : ChangeSpec := { name := "sessHeard", fn := fun _ => fun
  | [d1, d2, d3] => { results := [.lit (.bool true)], args := [d1, d2, d3] }
  | _ => none }
def sessHeardRow : OpenClaim := { program := "ytglbdbghcdoicaadoor", sum := "3cc45a7f7afd8d96cd2099b9ba7329909404cf0ac2afc97d9bf13447c3fc5b8c", func := "spate/spatelaw17.SessHeard", spec := "sessHeard", inPlace := ["internal/reflectlite.TypeOf", "internal/reflectlite.ValueOf", "(internal/reflectlite.Value).Type", "(internal/reflectlite.Value).IsNil", "(internal/reflectlite.Value).Elem", "(internal/reflectlite.Value).Set"], unfollowed := true, recurses := true, named := ["errors.errorType"], apart := false, laid := [("errors.errorType", laid_errors_errorType)] }
def SessHeardSaid : Prop := sessHeardRow.holds Tryd.pinned (OpenSpec.ofChange sessHeardSpec)

/-- ITS FALSE NEIGHBOUR: 'it returns false'. Refute it at one input. -/
def sessHeardWrong : ChangeSpec := { name := "sessHeard", fn := fun _ => fun
  | [d1, d2, d3] => { results := [.lit (.bool false)], args := [d1, d2, d3] }
  | _ => none }
def SessHeardWrongFalsely : Prop := sessHeardRow.holds Tryd.pinned (OpenSpec.ofChange sessHeardWrong)

/- THE SECOND FORM. 'bulk': how many values and letters a reading holds, each counted each time it is reached (what is shared counts as often as it is met; a slice's spare places count too). A statement '..UptoSaid' is the law's where the arguments, and the package variables that the reading takes, are together of bulk at most 1048576: NARROWER than '..Said'. Prove '..Said' where nothing that the law and all that it calls make is longer than what came in: it says more and counts as full. Else prove '..UptoSaid'. A law counts once. -/
mutual
def uptoBulk {H : Type} : DataW H → Nat
  | .lit (.string bytes) => bytes.length + 1
  | .lit _ => 1
  | .nil => 1
  | .ptr d => uptoBulk d + 1
  | .slice elems spare => uptoBulkAll elems + uptoBulkAll spare + 1
  | .agg parts => uptoBulkAll parts + 1
  | .iface _ d => uptoBulk d + 1
  | .map entries => uptoBulkEntries entries + 1
  | .held _ => 1
def uptoBulkAll {H : Type} : List (DataW H) → Nat
  | [] => 0
  | d :: r => uptoBulk d + uptoBulkAll r
def uptoBulkEntries {H : Type} : List (Lit × DataW H) → Nat
  | [] => 0
  | x :: r => uptoBulkEntry x + uptoBulkEntries r
def uptoBulkEntry {H : Type} : Lit × DataW H → Nat
  | (.string bytes, d) => bytes.length + uptoBulk d + 1
  | (_, d) => uptoBulk d + 1
 end
def uptoSmall : (H : Type) → List (DataW H) → Bool := fun _ ds => decide (uptoBulkAll ds ≤ 1048576)
def OpenSpec.upto (s : _root_.Go.ChangeSpec) : _root_.Go.OpenSpec := { _root_.Go.OpenSpec.ofChange s with cond := some uptoSmall }

/-- 'spatelaw17.SessAnswers', WHERE WHAT IT READS IS OF BULK AT MOST 1048576: true; the input reads as it did. -/
def sessAnswersUptoRow : OpenClaim := { program := "ytglbdbghcdoicaadoor", sum := "3cc45a7f7afd8d96cd2099b9ba7329909404cf0ac2afc97d9bf13447c3fc5b8c", func := "spate/spatelaw17.SessAnswers", spec := "sessAnswers", inPlace := ["internal/reflectlite.TypeOf", "internal/reflectlite.ValueOf", "(internal/reflectlite.Value).Type", "(internal/reflectlite.Value).IsNil", "(internal/reflectlite.Value).Elem", "(internal/reflectlite.Value).Set"], unfollowed := true, recurses := true, named := ["errors.errorType"], apart := false, laid := [("errors.errorType", laid_errors_errorType)], narrowed := true }
def SessAnswersUptoSaid : Prop := sessAnswersUptoRow.holds Tryd.pinned (OpenSpec.upto sessAnswersSpec)

/-- 'spatelaw17.SessPieces', WHERE WHAT IT READS IS OF BULK AT MOST 1048576: true; the input reads as it did. -/
def sessPiecesUptoRow : OpenClaim := { program := "ytglbdbghcdoicaadoor", sum := "3cc45a7f7afd8d96cd2099b9ba7329909404cf0ac2afc97d9bf13447c3fc5b8c", func := "spate/spatelaw17.SessPieces", spec := "sessPieces", inPlace := ["internal/reflectlite.TypeOf", "internal/reflectlite.ValueOf", "(internal/reflectlite.Value).Type", "(internal/reflectlite.Value).IsNil", "(internal/reflectlite.Value).Elem", "(internal/reflectlite.Value).Set"], unfollowed := true, recurses := true, named := ["errors.errorType"], apart := false, laid := [("errors.errorType", laid_errors_errorType)], narrowed := true }
def SessPiecesUptoSaid : Prop := sessPiecesUptoRow.holds Tryd.pinned (OpenSpec.upto sessPiecesSpec)

/-- 'spatelaw17.SessWhole', WHERE WHAT IT READS IS OF BULK AT MOST 1048576: true; the input reads as it did. -/
def sessWholeUptoRow : OpenClaim := { program := "ytglbdbghcdoicaadoor", sum := "3cc45a7f7afd8d96cd2099b9ba7329909404cf0ac2afc97d9bf13447c3fc5b8c", func := "spate/spatelaw17.SessWhole", spec := "sessWhole", inPlace := ["internal/reflectlite.TypeOf", "internal/reflectlite.ValueOf", "(internal/reflectlite.Value).Type", "(internal/reflectlite.Value).IsNil", "(internal/reflectlite.Value).Elem", "(internal/reflectlite.Value).Set"], unfollowed := true, recurses := true, named := ["errors.errorType"], apart := false, laid := [("errors.errorType", laid_errors_errorType)], narrowed := true }
def SessWholeUptoSaid : Prop := sessWholeUptoRow.holds Tryd.pinned (OpenSpec.upto sessWholeSpec)

/-- 'spatelaw17.SessHeard', WHERE WHAT IT READS IS OF BULK AT MOST 1048576: true; the input reads as it did. -/
def sessHeardUptoRow : OpenClaim := { program := "ytglbdbghcdoicaadoor", sum := "3cc45a7f7afd8d96cd2099b9ba7329909404cf0ac2afc97d9bf13447c3fc5b8c", func := "spate/spatelaw17.SessHeard", spec := "sessHeard", inPlace := ["internal/reflectlite.TypeOf", "internal/reflectlite.ValueOf", "(internal/reflectlite.Value).Type", "(internal/reflectlite.Value).IsNil", "(internal/reflectlite.Value).Elem", "(internal/reflectlite.Value).Set"], unfollowed := true, recurses := true, named := ["errors.errorType"], apart := false, laid := [("errors.errorType", laid_errors_errorType)], narrowed := true }
def SessHeardUptoSaid : Prop := sessHeardUptoRow.holds Tryd.pinned (OpenSpec.upto sessHeardSpec)

end Rows
end Go.Proofs.YtglbdbghcdoicaaDoor
