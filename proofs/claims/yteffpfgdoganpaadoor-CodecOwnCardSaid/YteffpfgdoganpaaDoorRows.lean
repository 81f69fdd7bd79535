/-
  NARROWER THAN 'FOR EVERY INPUT', by the rows' own cells (each row's printed sentence says how): CodecChecks: laid · CodecWrites: laid · CodecBack: laid · CodecForm: laid · CodecUnlike: laid · CodecOwn: laid · CodecFronts: laid.
  DERIVED. THE GIVEN ROWS OF THIS SEAT. 7 by the template 'for every input the law returns true; each argument reads behind the call as it read before'; 0 by the template 'total and deterministic' (their statements: YteffpfgdoganpaaDoorTotals.lean).
  GIVEN WITH THE SEED: the statements are not yours to turn. If you find one false, say at which input.
  Laid BY PROGRAM, IN A SANDBOX (cutbox-rows.mjs): the forced cells as the released guide's own fill.sh prints them over the translation 382d583661169474… (all of the seat's roots in one cut). By AI agents, Wed Nov 11 2026. No macro, syntax, notation, axiom, sorry.
-/
import Derived.Test.YteffpfgdoganpaaDoorChecked
import GoSem.Claim
import GoSem.ClaimJoined
import GoSem.ClaimMapViews
import Derived.JoinedTies
import Derived.KernelRfl
namespace Go.Proofs.YteffpfgdoganpaaDoor
/- THE CELL 'sum', in the pinned program and in every row, IS THE sha256 OF THE DUMP (.gsa) THAT YteffpfgdoganpaaDoorProg.lean LOADS. Nothing in Lean hashes anything: it is a label: what it is worth is what the hold of that sum in a sandbox is worth. -/
noncomputable def Tryd.pinned : Pinned := { name := "yteffpfgdoganpaadoor", sum := "382d58366116947441c380c8d9c961fd0f02f70dc23bc319cf4632e474ce10ec", checked := Tryd.checked }
namespace Rows
def none {H : Type} : Left H := { results := [], args := [] }

/- WHAT THE LISTED PACKAGE-LEVEL VARIABLES READ AS WHEN THE CALL BEGINS. Each datum BY PROGRAM (the guide's laid-datum.mjs) off the statement by which the dump's own 'gosem.cut.vars' lays the variable. In a bare row this is a premise. The card (YteffpfgdoganpaaDoorCards.lean) ties it to the program's text. -/
def laid_errors_errorType {H : Type} : DataW H := .iface "internal/reflectlite.rtype" (.agg [.ptr (.lit (.string [101, 114, 114, 111, 114]))])

/-- 'spatelaw2.CodecChecks': WHATEVER THE INPUT: true; the input reads as it did. -/
def codecChecksSpec : ChangeSpec := { name := "codecChecks", fn := fun _ => fun
  | [d1, d2, d3, d4] => { results := [.lit (.bool true)], args := [d1, d2, d3, d4] }
  | _ => none }
def codecChecksRow : OpenClaim := { program := "yteffpfgdoganpaadoor", sum := "382d58366116947441c380c8d9c961fd0f02f70dc23bc319cf4632e474ce10ec", func := "spate/spatelaw2.CodecChecks", spec := "codecChecks", inPlace := ["internal/reflectlite.ValueOf", "(internal/reflectlite.Value).Type", "(internal/reflectlite.Value).IsNil", "internal/reflectlite.TypeOf", "(internal/reflectlite.Value).Elem", "(internal/reflectlite.Value).Set"], unfollowed := true, recurses := true, named := ["errors.errorType"], apart := false, laid := [("errors.errorType", laid_errors_errorType)] }
def CodecChecksSaid : Prop := codecChecksRow.holds Tryd.pinned (OpenSpec.ofChange codecChecksSpec)

/-- ITS FALSE NEIGHBOUR: 'it returns false'. Refute it at one input. -/
def codecChecksWrong : ChangeSpec := { name := "codecChecks", fn := fun _ => fun
  | [d1, d2, d3, d4] => { results := [.lit (.bool false)], args := [d1, d2, d3, d4] }
  | _ => none }
def CodecChecksWrongFalsely : Prop := codecChecksRow.holds Tryd.pinned (OpenSpec.ofChange codecChecksWrong)

/-- 'spatelaw2.CodecWrites': WHATEVER THE INPUT: true; the input reads as it did. -/
def codecWritesSpec : ChangeSpec := { name := "codecWrites", fn := fun _ => fun
  | [d1, d2] => { results := [.lit (.bool true)], args := [d1, d2] }
  | _ => none }
def codecWritesRow : OpenClaim := { program := "yteffpfgdoganpaadoor", sum := "382d58366116947441c380c8d9c961fd0f02f70dc23bc319cf4632e474ce10ec", func := "spate/spatelaw2.CodecWrites", spec := "codecWrites", inPlace := ["internal/reflectlite.ValueOf", "(internal/reflectlite.Value).Type", "(internal/reflectlite.Value).IsNil", "internal/reflectlite.TypeOf", "(internal/reflectlite.Value).Elem", "(internal/reflectlite.Value).Set"], unfollowed := true, recurses := true, named := ["errors.errorType"], apart := false, laid := [("errors.errorType", laid_errors_errorType)] }
def CodecWritesSaid : Prop := codecWritesRow.holds Tryd.pinned (OpenSpec.ofChange codecWritesSpec)

/-- ITS FALSE NEIGHBOUR: 'it returns false'. Refute it at one input. -/
def codecWritesWrong : ChangeSpec := { name := "codecWrites", fn := fun _ => fun
  | [d1, d2] => { results := [.lit (.bool false)], args := [d1, d2] }
  | _ => none }
def CodecWritesWrongFalsely : Prop := codecWritesRow.holds Tryd.pinned (OpenSpec.ofChange codecWritesWrong)

/-- 'spatelaw2.CodecBack': WHATEVER THE INPUT: true; the input reads as it did. -/
def codecBackSpec : ChangeSpec := { name := "codecBack", fn := fun _ => fun
  | [d1, d2] => { results := [.lit (.bool true)], args := [d1, d2] }
  | _ => none }
def codecBackRow : OpenClaim := { program := "yteffpfgdoganpaadoor", sum := "382d58366116947441c380c8d9c961fd0f02f70dc23bc319cf4632e474ce10ec", func := "spate/spatelaw2.CodecBack", spec := "codecBack", inPlace := ["internal/reflectlite.ValueOf", "(internal/reflectlite.Value).Type", "(internal/reflectlite.Value).IsNil", "internal/reflectlite.TypeOf", "(internal/reflectlite.Value).Elem", "(internal/reflectlite.Value).Set"], unfollowed := true, recurses := true, named := ["errors.errorType"], apart := false, laid := [("errors.errorType", laid_errors_errorType)] }
def CodecBackSaid : Prop := codecBackRow.holds Tryd.pinned (OpenSpec.ofChange codecBackSpec)

/-- ITS FALSE NEIGHBOUR: 'it returns false'. Refute it at one input. -/
def codecBackWrong : ChangeSpec := { name := "codecBack", fn := fun _ => fun
  | [d1, d2] => { results := [.lit (.bool false)], args := [d1, d2] }
  | _ => none }
def CodecBackWrongFalsely : Prop := codecBackRow.holds Tryd.pinned (OpenSpec.ofChange codecBackWrong)

/-- 'spatelaw2.CodecForm': WHATEVER THE INPUT: true; the input reads as it did. -/
def codecFormSpec : ChangeSpec := { name := "codecForm", fn := fun _ => fun
  | [d] => { results := [.lit (.bool true)], args := [d] }
  | _ => none }
def codecFormRow : OpenClaim := { program := "yteffpfgdoganpaadoor", sum := "382d58366116947441c380c8d9c961fd0f02f70dc23bc319cf4632e474ce10ec", func := "spate/spatelaw2.CodecForm", spec := "codecForm", inPlace := ["internal/reflectlite.ValueOf", "(internal/reflectlite.Value).Type", "(internal/reflectlite.Value).IsNil", "internal/reflectlite.TypeOf", "(internal/reflectlite.Value).Elem", "(internal/reflectlite.Value).Set"], unfollowed := true, recurses := true, named := ["errors.errorType"], apart := false, laid := [("errors.errorType", laid_errors_errorType)] }
def CodecFormSaid : Prop := codecFormRow.holds Tryd.pinned (OpenSpec.ofChange codecFormSpec)

/-- ITS FALSE NEIGHBOUR: 'it returns false'. Refute it at one input. -/
def codecFormWrong : ChangeSpec := { name := "codecForm", fn := fun _ => fun
  | [d] => { results := [.lit (.bool false)], args := [d] }
  | _ => none }
def CodecFormWrongFalsely : Prop := codecFormRow.holds Tryd.pinned (OpenSpec.ofChange codecFormWrong)

/-- 'spatelaw2.CodecUnlike': WHATEVER THE INPUT: true; the input reads as it did. -/
def codecUnlikeSpec : ChangeSpec := { name := "codecUnlike", fn := fun _ => fun
  | [d1, d2, d3, d4] => { results := [.lit (.bool true)], args := [d1, d2, d3, d4] }
  | _ => none }
def codecUnlikeRow : OpenClaim := { program := "yteffpfgdoganpaadoor", sum := "382d58366116947441c380c8d9c961fd0f02f70dc23bc319cf4632e474ce10ec", func := "spate/spatelaw2.CodecUnlike", spec := "codecUnlike", inPlace := ["internal/reflectlite.ValueOf", "(internal/reflectlite.Value).Type", "(internal/reflectlite.Value).IsNil", "internal/reflectlite.TypeOf", "(internal/reflectlite.Value).Elem", "(internal/reflectlite.Value).Set"], unfollowed := true, recurses := true, named := ["errors.errorType"], apart := false, laid := [("errors.errorType", laid_errors_errorType)] }
def CodecUnlikeSaid : Prop := codecUnlikeRow.holds Tryd.pinned (OpenSpec.ofChange codecUnlikeSpec)

/-- ITS FALSE NEIGHBOUR: 'it returns false'. Refute it at one input. -/
def codecUnlikeWrong : ChangeSpec := { name := "codecUnlike", fn := fun _ => fun
  | [d1, d2, d3, d4] => { results := [.lit (.bool false)], args := [d1, d2, d3, d4] }
  | _ => none }
def CodecUnlikeWrongFalsely : Prop := codecUnlikeRow.holds Tryd.pinned (OpenSpec.ofChange codecUnlikeWrong)

/-- 'spatelaw2.CodecOwn': WHATEVER THE INPUT: true; the input reads as it did. -/
def codecOwnSpec : ChangeSpec := { name := "codecOwn", fn := fun _ => fun
  | [d1, d2, d3, d4] => { results := [.lit (.bool true)], args := [d1, d2, d3, d4] }
  | _ => none }
def codecOwnRow : OpenClaim := { program := "yteffpfgdoganpaadoor", sum := "382d58366116947441c380c8d9c961fd0f02f70dc23bc319cf4632e474ce10ec", func := "spate/spatelaw2.CodecOwn", spec := "codecOwn", inPlace := ["internal/reflectlite.ValueOf", "(internal/reflectlite.Value).Type", "(internal/reflectlite.Value).IsNil", "internal/reflectlite.TypeOf", "(internal/reflectlite.Value).Elem", "(internal/reflectlite.Value).Set"], unfollowed := true, recurses := true, named := ["errors.errorType"], apart := false, laid := [("errors.errorType", laid_errors_errorType)] }
def CodecOwnSaid : Prop := codecOwnRow.holds Tryd.pinned (OpenSpec.ofChange codecOwnSpec)

/-- ITS FALSE NEIGHBOUR: 'it returns false'. Refute it at one input. -/
def codecOwnWrong : ChangeSpec := { name := "codecOwn", fn := fun _ => fun
  | [d1, d2, d3, d4] => { results := [.lit (.bool false)], args := [d1, d2, d3, d4] }
  | _ => none }
def CodecOwnWrongFalsely : Prop := codecOwnRow.holds Tryd.pinned (OpenSpec.ofChange codecOwnWrong)

/-- 'spatelaw2.CodecFronts': WHATEVER THE INPUT: true; the input reads as it did. -/
def codecFrontsSpec : ChangeSpec := { name := "codecFronts", fn := fun _ => fun
  | [d1, d2, d3, d4] => { results := [.lit (.bool true)], args := [d1, d2, d3, d4] }
  | _ => none }
def codecFrontsRow : OpenClaim := { program := "yteffpfgdoganpaadoor", sum := "382d58366116947441c380c8d9c961fd0f02f70dc23bc319cf4632e474ce10ec", func := "spate/spatelaw2.CodecFronts", spec := "codecFronts", inPlace := ["internal/reflectlite.ValueOf", "(internal/reflectlite.Value).Type", "(internal/reflectlite.Value).IsNil", "internal/reflectlite.TypeOf", "(internal/reflectlite.Value).Elem", "(internal/reflectlite.Value).Set"], unfollowed := true, recurses := true, named := ["errors.errorType"], apart := false, laid := [("errors.errorType", laid_errors_errorType)] }
def CodecFrontsSaid : Prop := codecFrontsRow.holds Tryd.pinned (OpenSpec.ofChange codecFrontsSpec)

/-- ITS FALSE NEIGHBOUR: 'it returns false'. Refute it at one input. -/
def codecFrontsWrong : ChangeSpec := { name := "codecFronts", fn := fun _ => fun
  | [d1, d2, d3, d4] => { results := [.lit (.bool false)], args := [d1, d2, d3, d4] }
  | _ => none }
def CodecFrontsWrongFalsely : Prop := codecFrontsRow.holds Tryd.pinned (OpenSpec.ofChange codecFrontsWrong)

/- THE SECOND FORM. 'bulk': how many values and letters a reading holds, each counted each time it is reached (what is shared counts as often as it is met; a slice's spare places count too). A statement '..UptoSaid' is the law's where the arguments, and the package variables that the reading takes, are together of bulk at most 1048576: NARROWER than '..Said'. Prove '..Said' where nothing that the law and all that it calls make is longer than what came in: it says more and counts as full. Else prove '..UptoSaid'. A law counts once. -/
mutual
def uptoBulk {H : Type} : DataW H → Nat
  | .lit (.string bytes) => bytes.length + 1
  | .lit _ => 1
  | .nil => 1
  | .ptr d => uptoBulk d + 1
  | .slice elems spare => uptoBulkAll elems + uptoBulkAll spare + 1
  | .agg parts => uptoBulkAll parts + 1
  | .iface _ d => uptoBulk d + 1
  | .map entries => uptoBulkEntries entries + 1
  | .held _ => 1
def uptoBulkAll {H : Type} : List (DataW H) → Nat
  | [] => 0
  | d :: r => uptoBulk d + uptoBulkAll r
def uptoBulkEntries {H : Type} : List (Lit × DataW H) → Nat
  | [] => 0
  | x :: r => uptoBulkEntry x + uptoBulkEntries r
def uptoBulkEntry {H : Type} : Lit × DataW H → Nat
  | (.string bytes, d) => bytes.length + uptoBulk d + 1
  | (_, d) => uptoBulk d + 1
 end
def uptoSmall : (H : Type) → List (DataW H) → Bool := fun _ ds => decide (uptoBulkAll ds ≤ 1048576)
def OpenSpec.upto (s : _root_.Go.ChangeSpec) : _root_.Go.OpenSpec := { _root_.Go.OpenSpec.ofChange s with cond := some uptoSmall }

/-- 'spatelaw2.CodecChecks', WHERE WHAT IT READS IS OF BULK AT MOST 1048576: true; the input reads as it did. -/
def codecChecksUptoRow : OpenClaim := { program := "yteffpfgdoganpaadoor", sum := "382d58366116947441c380c8d9c961fd0f02f70dc23bc319cf4632e474ce10ec", func := "spate/spatelaw2.CodecChecks", spec := "codecChecks", inPlace := ["internal/reflectlite.ValueOf", "(internal/reflectlite.Value).Type", "(internal/reflectlite.Value).IsNil", "internal/reflectlite.TypeOf", "(internal/reflectlite.Value).Elem", "(internal/reflectlite.Value).Set"], unfollowed := true, recurses := true, named := ["errors.errorType"], apart := false, laid := [("errors.errorType", laid_errors_errorType)], narrowed := true }
def CodecChecksUptoSaid : Prop := codecChecksUptoRow.holds Tryd.pinned (OpenSpec.upto codecChecksSpec)

/-- 'spatelaw2.CodecWrites', WHERE WHAT IT READS IS OF BULK AT MOST 1048576: true; the input reads as it did. -/
def codecWritesUptoRow : OpenClaim := { program := "yteffpfgdoganpaadoor", sum := "382d58366116947441c380c8d9c961fd0f02f70dc23bc319cf4632e474ce10ec", func := "spate/spatelaw2.CodecWrites", spec := "codecWrites", inPlace := ["internal/reflectlite.ValueOf", "(internal/reflectlite.Value).Type", "(internal/reflectlite.Value).IsNil", "internal/reflectlite.TypeOf", "(internal/reflectlite.Value).Elem", "(internal/reflectlite.Value).Set"], unfollowed := true, recurses := true, named := ["errors.errorType"], apart := false, laid := [("errors.errorType", laid_errors_errorType)], narrowed := true }
def CodecWritesUptoSaid : Prop := codecWritesUptoRow.holds Tryd.pinned (OpenSpec.upto codecWritesSpec)

/-- 'spatelaw2.CodecBack', WHERE WHAT IT READS IS OF BULK AT MOST 1048576: true; the input reads as it did. -/
def codecBackUptoRow : OpenClaim := { program := "yteffpfgdoganpaadoor", sum := "382d58366116947441c380c8d9c961fd0f02f70dc23bc319cf4632e474ce10ec", func := "spate/spatelaw2.CodecBack", spec := "codecBack", inPlace := ["internal/reflectlite.ValueOf", "(internal/reflectlite.Value).Type", "(internal/reflectlite.Value).IsNil", "internal/reflectlite.TypeOf", "(internal/reflectlite.Value).Elem", "(internal/reflectlite.Value).Set"], unfollowed := true, recurses := true, named := ["errors.errorType"], apart := false, laid := [("errors.errorType", laid_errors_errorType)], narrowed := true }
def CodecBackUptoSaid : Prop := codecBackUptoRow.holds Tryd.pinned (OpenSpec.upto codecBackSpec)

/-- 'spatelaw2.CodecForm', WHERE WHAT IT READS IS OF BULK AT MOST 1048576: true; the input reads as it did. -/
def codecFormUptoRow : OpenClaim := { program := "yteffpfgdoganpaadoor", sum := "382d58366116947441c380c8d9c961fd0f02f70dc23bc319cf4632e474ce10ec", func := "spate/spatelaw2.CodecForm", spec := "codecForm", inPlace := ["internal/reflectlite.ValueOf", "(internal/reflectlite.Value).Type", "(internal/reflectlite.Value).IsNil", "internal/reflectlite.TypeOf", "(internal/reflectlite.Value).Elem", "(internal/reflectlite.Value).Set"], unfollowed := true, recurses := true, named := ["errors.errorType"], apart := false, laid := [("errors.errorType", laid_errors_errorType)], narrowed := true }
def CodecFormUptoSaid : Prop := codecFormUptoRow.holds Tryd.pinned (OpenSpec.upto codecFormSpec)

/-- 'spatelaw2.CodecUnlike', WHERE WHAT IT READS IS OF BULK AT MOST 1048576: true; the input reads as it did. -/
def codecUnlikeUptoRow : OpenClaim := { program := "yteffpfgdoganpaadoor", sum := "382d58366116947441c380c8d9c961fd0f02f70dc23bc319cf4632e474ce10ec", func := "spate/spatelaw2.CodecUnlike", spec := "codecUnlike", inPlace := ["internal/reflectlite.ValueOf", "(internal/reflectlite.Value).Type", "(internal/reflectlite.Value).IsNil", "internal/reflectlite.TypeOf", "(internal/reflectlite.Value).Elem", "(internal/reflectlite.Value).Set"], unfollowed := true, recurses := true, named := ["errors.errorType"], apart := false, laid := [("errors.errorType", laid_errors_errorType)], narrowed := true }
def CodecUnlikeUptoSaid : Prop := codecUnlikeUptoRow.holds Tryd.pinned (OpenSpec.upto codecUnlikeSpec)

/-- 'spatelaw2.CodecOwn', WHERE WHAT IT READS IS OF BULK AT MOST 1048576: true; the input reads as it did. -/
def codecOwnUptoRow : OpenClaim := { program := "yteffpfgdoganpaadoor", sum := "382d58366116947441c380c8d9c961fd0f02f70dc23bc319cf4632e474ce10ec", func := "spate/spatelaw2.CodecOwn", spec := "codecOwn", inPlace := ["internal/reflectlite.ValueOf", "(internal/reflectlite.Value).Type", "(internal/reflectlite.Value).IsNil", "internal/reflectlite.TypeOf", "(internal/reflectlite.Value).Elem", "(internal/reflectlite.Value).Set"], unfollowed := true, recurses := true, named := ["errors.errorType"], apart := false, laid := [("errors.errorType", laid_errors_errorType)], narrowed := true }
def CodecOwnUptoSaid : Prop := codecOwnUptoRow.holds Tryd.pinned (OpenSpec.upto codecOwnSpec)

/-- 'spatelaw2.CodecFronts', WHERE WHAT IT READS IS OF BULK AT MOST 1048576: true; the input reads as it did. -/
def codecFrontsUptoRow : OpenClaim := { program := "yteffpfgdoganpaadoor", sum := "382d58366116947441c380c8d9c961fd0f02f70dc23bc319cf4632e474ce10ec", func := "spate/spatelaw2.CodecFronts", spec := "codecFronts", inPlace := ["internal/reflectlite.ValueOf", "(internal/reflectlite.Value).Type", "(internal/reflectlite.Value).IsNil", "internal/reflectlite.TypeOf", "(internal/reflectlite.Value).Elem", "(internal/reflectlite.Value).Set"], unfollowed := true, recurses := true, named := ["errors.errorType"], apart := false, laid := [("errors.errorType", laid_errors_errorType)], narrowed := true }
def CodecFrontsUptoSaid : Prop := codecFrontsUptoRow.holds Tryd.pinned (OpenSpec.upto codecFrontsSpec)

end Rows
end Go.Proofs.YteffpfgdoganpaaDoor
