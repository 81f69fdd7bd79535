/-
  NARROWER THAN 'FOR EVERY INPUT', by the rows' own cells (each row's printed sentence says how): SessPlays: laid · SessNeeds: laid · SessLocks: laid · SessOwn: laid · SessBook: laid.
  DERIVED. THE GIVEN ROWS OF THIS SEAT. 5 by the template 'for every input the law returns true; each argument reads behind the call as it read before'; 0 by the template 'total and deterministic' (their statements: YtglbdbghcdoicaaGreatDoorTotals.lean).
  GIVEN WITH THE SEED: the statements are not yours to turn. If you find one false, say at which input.
  Laid BY PROGRAM, IN A SANDBOX (cutbox-rows.mjs): the forced cells as the released guide's own fill.sh prints them over the translation f55b06f93792a98a… (all of the seat's roots in one cut). By AI agents, Wed Nov 11 2026. No macro, syntax, notation, axiom, sorry.
-/
import Derived.Test.YtglbdbghcdoicaaGreatDoorChecked
import GoSem.Claim
import GoSem.ClaimJoined
import GoSem.ClaimMapViews
import Derived.JoinedTies
import Derived.KernelRfl
namespace Go.Proofs.YtglbdbghcdoicaaGreatDoor
/- THE CELL 'sum', in the pinned program and in every row, IS THE sha256 OF THE DUMP (.gsa) THAT YtglbdbghcdoicaaGreatDoorProg.lean LOADS. Nothing in Lean hashes anything: it is a label: what it is worth is what the hold of that sum in a sandbox is worth. -/
noncomputable def Tryz.pinned : Pinned := { name := "ytglbdbghcdoicaagreatdoor", sum := "f55b06f93792a98a5b41e45a786ebaad6b030c83b02ef68c346f6f8d79a5a84e", checked := Tryz.checked }
namespace Rows
def none {H : Type} : Left H := { results := [], args := [] }

/- WHAT THE LISTED PACKAGE-LEVEL VARIABLES READ AS WHEN THE CALL BEGINS. Each datum BY PROGRAM (the guide's laid-datum.mjs) off the statement by which the dump's own 'gosem.cut.vars' lays the variable. In a bare row this is a premise. The card (YtglbdbghcdoicaaGreatDoorCards.lean) ties it to the program's text. -/
def laid_errors_errorType {H : Type} : DataW H := .iface "internal/reflectlite.rtype" (.agg [.ptr (.lit (.string [101, 114, 114, 111, 114]))])

/-- 'spatelaw17.SessPlays': WHATEVER THE INPUT: true; the input reads as it did. -/
def sessPlaysSpec : ChangeSpec := { name := "sessPlays", fn := fun _ => fun
  | [d1, d2, d3] => { results := [.lit (.bool true)], args := [d1, d2, d3] }
  | _ => none }
def sessPlaysRow : OpenClaim := { program := "ytglbdbghcdoicaagreatdoor", sum := "f55b06f93792a98a5b41e45a786ebaad6b030c83b02ef68c346f6f8d79a5a84e", func := "spate/spatelaw17.SessPlays", spec := "sessPlays", inPlace := ["internal/reflectlite.TypeOf", "internal/reflectlite.ValueOf", "(internal/reflectlite.Value).Type", "(internal/reflectlite.Value).IsNil", "(internal/reflectlite.Value).Elem", "(internal/reflectlite.Value).Set"], unfollowed := true, recurses := true, named := ["errors.errorType"], apart := false, laid := [("errors.errorType", laid_errors_errorType)] }
def SessPlaysSaid : Prop := sessPlaysRow.holds Tryz.pinned (OpenSpec.ofChange sessPlaysSpec)

/-- ITS FALSE NEIGHBOUR: 'it returns false'. Refute it at one input. -/
def sessPlaysWrong : ChangeSpec := { name := "sessPlays", fn := fun _ => fun
  | [d1, d2, d3] => { results := [.lit (.bool false)], args := [d1, d2, d3] }
  | _ => none }
def SessPlaysWrongFalsely : Prop := sessPlaysRow.holds Tryz.pinned (OpenSpec.ofChange sessPlaysWrong)

/-- 'spatelaw17.SessNeeds': WHATEVER THE INPUT: true; the input reads as it did. -/
def sessNeedsSpec : ChangeSpec := { name := "sessNeeds", fn := fun _ => fun
  | [d1, d2] => { results := [.lit (.bool true)], args := [d1, d2] }
  | _ => none }
def sessNeedsRow : OpenClaim := { program := "ytglbdbghcdoicaagreatdoor", sum := "f55b06f93792a98a5b41e45a786ebaad6b030c83b02ef68c346f6f8d79a5a84e", func := "spate/spatelaw17.SessNeeds", spec := "sessNeeds", inPlace := ["internal/reflectlite.TypeOf", "internal/reflectlite.ValueOf", "(internal/reflectlite.Value).Type", "(internal/reflectlite.Value).IsNil", "(internal/reflectlite.Value).Elem", "(internal/reflectlite.Value).Set"], unfollowed := true, recurses := true, named := ["errors.errorType"], apart := false, laid := [("errors.errorType", laid_errors_errorType)] }
def SessNeedsSaid : Prop := sessNeedsRow.holds Tryz.pinned (OpenSpec.ofChange sessNeedsSpec)

/-- ITS FALSE NEIGHBOUR: 'it returns false'. Refute it at one input. -/
def sessNeedsWrong : ChangeSpec := { name := "sessNeeds", fn := fun _ => fun
  | [d1, d2] => { results := [.lit (.bool false)], args := [d1, d2] }
  | _ => none }
def SessNeedsWrongFalsely : Prop := sessNeedsRow.holds Tryz.pinned (OpenSpec.ofChange sessNeedsWrong)

/-- 'spatelaw17.SessLocks': WHATEVER THE INPUT: true; the input reads as it did. -/
def sessLocksSpec : ChangeSpec := { name := "sessLocks", fn := fun _ => fun
  | [d1, d2] => { results := [.lit (.bool true)], args := [d1, d2] }
  | _ => none }
def sessLocksRow : OpenClaim := { program := "ytglbdbghcdoicaagreatdoor", sum := "f55b06f93792a98a5b41e45a786ebaad6b030c83b02ef68c346f6f8d79a5a84e", func := "spate/spatelaw17.SessLocks", spec := "sessLocks", inPlace := ["internal/reflectlite.TypeOf", "internal/reflectlite.ValueOf", "(internal/reflectlite.Value).Type", "(internal/reflectlite.Value).IsNil", "(internal/reflectlite.Value).Elem", "(internal/reflectlite.Value).Set"], unfollowed := true, recurses := true, named := ["errors.errorType"], apart := false, laid := [("errors.errorType", laid_errors_errorType)] }
def SessLocksSaid : Prop := sessLocksRow.holds Tryz.pinned (OpenSpec.ofChange sessLocksSpec)

/-- ITS FALSE NEIGHBOUR: 'it returns false'. Refute it at one input. -/
def sessLocksWrong : ChangeSpec := { name := "sessLocks", fn := fun _ => fun
  | [d1, d2] => { results := [.lit (.bool false)], args := [d1, d2] }
  | _ => none }
def SessLocksWrongFalsely : Prop := sessLocksRow.holds Tryz.pinned (OpenSpec.ofChange sessLocksWrong)

/-- 'spatelaw17.SessOwn': WHATEVER THE INPUT: true; the input reads as it did. -/
def sessOwnSpec : ChangeSpec := { name := "sessOwn", fn := fun _ => fun
  | [d1, d2, d3] => { results := [.lit (.bool true)], args := [d1, d2, d3] }
  | _ => none }
def sessOwnRow : OpenClaim := { program := "ytglbdbghcdoicaagreatdoor", sum := "f55b06f93792a98a5b41e45a786ebaad6b030c83b02ef68c346f6f8d79a5a84e", func := "spate/spatelaw17.SessOwn", spec := "sessOwn", inPlace := ["internal/reflectlite.TypeOf", "internal/reflectlite.ValueOf", "(internal/reflectlite.Value).Type", "(internal/reflectlite.Value).IsNil", "(internal/reflectlite.Value).Elem", "(internal/reflectlite.Value).Set"], unfollowed := true, recurses := true, named := ["errors.errorType"], apart := false, laid := [("errors.errorType", laid_errors_errorType)] }
def SessOwnSaid : Prop := sessOwnRow.holds Tryz.pinned (OpenSpec.ofChange sessOwnSpec)

/-- ITS FALSE NEIGHBOUR: 'it returns false'. Refute it at one input. -/
def sessOwnWrong : ChangeSpec := { name := "sessOwn", fn := fun _ => fun
  | [d1, d2, d3] => { results := [.lit (.bool false)], args := [d1, d2, d3] }
  | _ => none }
def SessOwnWrongFalsely : Prop := sessOwnRow.holds Tryz.pinned (OpenSpec.ofChange sessOwnWrong)

/-- 'spatelaw17.SessBook': WHATEVER THE INPUT: true; the input reads as it did. -/
def sessBookSpec : ChangeSpec := { name := "sessBook", fn := fun _ => fun
  | [d1, d2, d3, d4] => { results := [.lit (.bool true)], args := [d1, d2, d3, d4] }
  | _ => none }
def sessBookRow : OpenClaim := { program := "ytglbdbghcdoicaagreatdoor", sum := "f55b06f93792a98a5b41e45a786ebaad6b030c83b02ef68c346f6f8d79a5a84e", func := "spate/spatelaw17.SessBook", spec := "sessBook", inPlace := ["internal/reflectlite.TypeOf", "internal/reflectlite.ValueOf", "(internal/reflectlite.Value).Type", "(internal/reflectlite.Value).IsNil", "(internal/reflectlite.Value).Elem", "(internal/reflectlite.Value).Set"], unfollowed := true, recurses := true, named := ["errors.errorType"], apart := false, laid := [("errors.errorType", laid_errors_errorType)] }
def SessBookSaid : Prop := sessBookRow.holds Tryz.pinned (OpenSpec.ofChange sessBookSpec)

/-- ITS FALSE NEIGHBOUR: 'it returns false'. Refute it at one input. -/
def sessBookWrong : ChangeSpec := { name := "sessBook", fn := fun _ => fun
  | [d1, d2, d3, d4] => { results := [.lit (.bool false)], args := [d1, d2, d3, d4] }
  | _ => none }
def SessBookWrongFalsely : Prop := sessBookRow.holds Tryz.pinned (OpenSpec.ofChange sessBookWrong)

/- THE SECOND FORM. 'bulk': how many values and letters a reading holds, each counted each time it is reached (what is shared counts as often as it is met; a slice's spare places count too). A statement '..UptoSaid' is the law's where the arguments, and the package variables that the reading takes, are together of bulk at most 1048576: NARROWER than '..Said'. Prove '..Said' where nothing that the law and all that it calls make is longer than what came in: it says more and counts as full. Else prove '..UptoSaid'. A law counts once. -/
mutual
def uptoBulk {H : Type} : DataW H → Nat
  | .lit (.string bytes) => bytes.length + 1
  | .lit _ => 1
  | .nil => 1
  | .ptr d => uptoBulk d + 1
  | .slice elems spare => uptoBulkAll elems + uptoBulkAll spare + 1
  | .agg parts => uptoBulkAll parts + 1
  | .iface _ d => uptoBulk d + 1
  | .map entries => uptoBulkEntries entries + 1
  | .held _ => 1
def uptoBulkAll {H : Type} : List (DataW H) → Nat
  | [] => 0
  | d :: r => uptoBulk d + uptoBulkAll r
def uptoBulkEntries {H : Type} : List (Lit × DataW H) → Nat
  | [] => 0
  | x :: r => uptoBulkEntry x + uptoBulkEntries r
def uptoBulkEntry {H : Type} : Lit × DataW H → Nat
  | (.string bytes, d) => bytes.length + uptoBulk d + 1
  | (_, d) => uptoBulk d + 1
 end
def uptoSmall : (H : Type) → List (DataW H) → Bool := fun _ ds => decide (uptoBulkAll ds ≤ 1048576)
def OpenSpec.upto (s : _root_.Go.ChangeSpec) : _root_.Go.OpenSpec := { _root_.Go.OpenSpec.ofChange s with cond := some uptoSmall }

/-- 'spatelaw17.SessPlays', WHERE WHAT IT READS IS OF BULK AT MOST 1048576: true; the input reads as it did. -/
def sessPlaysUptoRow : OpenClaim := { program := "ytglbdbghcdoicaagreatdoor", sum := "f55b06f93792a98a5b41e45a786ebaad6b030c83b02ef68c346f6f8d79a5a84e", func := "spate/spatelaw17.SessPlays", spec := "sessPlays", inPlace := ["internal/reflectlite.TypeOf", "internal/reflectlite.ValueOf", "(internal/reflectlite.Value).Type", "(internal/reflectlite.Value).IsNil", "(internal/reflectlite.Value).Elem", "(internal/reflectlite.Value).Set"], unfollowed := true, recurses := true, named := ["errors.errorType"], apart := false, laid := [("errors.errorType", laid_errors_errorType)], narrowed := true }
def SessPlaysUptoSaid : Prop := sessPlaysUptoRow.holds Tryz.pinned (OpenSpec.upto sessPlaysSpec)

/-- 'spatelaw17.SessNeeds', WHERE WHAT IT READS IS OF BULK AT MOST 1048576: true; the input reads as it did. -/
def sessNeedsUptoRow : OpenClaim := { program := "ytglbdbghcdoicaagreatdoor", sum := "f55b06f93792a98a5b41e45a786ebaad6b030c83b02ef68c346f6f8d79a5a84e", func := "spate/spatelaw17.SessNeeds", spec := "sessNeeds", inPlace := ["internal/reflectlite.TypeOf", "internal/reflectlite.ValueOf", "(internal/reflectlite.Value).Type", "(internal/reflectlite.Value).IsNil", "(internal/reflectlite.Value).Elem", "(internal/reflectlite.Value).Set"], unfollowed := true, recurses := true, named := ["errors.errorType"], apart := false, laid := [("errors.errorType", laid_errors_errorType)], narrowed := true }
def SessNeedsUptoSaid : Prop := sessNeedsUptoRow.holds Tryz.pinned (OpenSpec.upto sessNeedsSpec)

/-- 'spatelaw17.SessLocks', WHERE WHAT IT READS IS OF BULK AT MOST 1048576: true; the input reads as it did. -/
def sessLocksUptoRow : OpenClaim := { program := "ytglbdbghcdoicaagreatdoor", sum := "f55b06f93792a98a5b41e45a786ebaad6b030c83b02ef68c346f6f8d79a5a84e", func := "spate/spatelaw17.SessLocks", spec := "sessLocks", inPlace := ["internal/reflectlite.TypeOf", "internal/reflectlite.ValueOf", "(internal/reflectlite.Value).Type", "(internal/reflectlite.Value).IsNil", "(internal/reflectlite.Value).Elem", "(internal/reflectlite.Value).Set"], unfollowed := true, recurses := true, named := ["errors.errorType"], apart := false, laid := [("errors.errorType", laid_errors_errorType)], narrowed := true }
def SessLocksUptoSaid : Prop := sessLocksUptoRow.holds Tryz.pinned (OpenSpec.upto sessLocksSpec)

/-- 'spatelaw17.SessOwn', WHERE WHAT IT READS IS OF BULK AT MOST 1048576: true; the input reads as it did. -/
def sessOwnUptoRow : OpenClaim := { program := "ytglbdbghcdoicaagreatdoor", sum := "f55b06f93792a98a5b41e45a786ebaad6b030c83b02ef68c346f6f8d79a5a84e", func := "spate/spatelaw17.SessOwn", spec := "sessOwn", inPlace := ["internal/reflectlite.TypeOf", "internal/reflectlite.ValueOf", "(internal/reflectlite.Value).Type", "(internal/reflectlite.Value).IsNil", "(internal/reflectlite.Value).Elem", "(internal/reflectlite.Value).Set"], unfollowed := true, recurses := true, named := ["errors.errorType"], apart := false, laid := [("errors.errorType", laid_errors_errorType)], narrowed := true }
def SessOwnUptoSaid : Prop := sessOwnUptoRow.holds Tryz.pinned (OpenSpec.upto sessOwnSpec)

/-- 'spatelaw17.SessBook', WHERE WHAT IT READS IS OF BULK AT MOST 1048576: true; the input reads as it did. -/
def sessBookUptoRow : OpenClaim := { program := "ytglbdbghcdoicaagreatdoor", sum := "f55b06f93792a98a5b41e45a786ebaad6b030c83b02ef68c346f6f8d79a5a84e", func := "spate/spatelaw17.SessBook", spec := "sessBook", inPlace := ["internal/reflectlite.TypeOf", "internal/reflectlite.ValueOf", "(internal/reflectlite.Value).Type", "(internal/reflectlite.Value).IsNil", "(internal/reflectlite.Value).Elem", "(internal/reflectlite.Value).Set"], unfollowed := true, recurses := true, named := ["errors.errorType"], apart := false, laid := [("errors.errorType", laid_errors_errorType)], narrowed := true }
def SessBookUptoSaid : Prop := sessBookUptoRow.holds Tryz.pinned (OpenSpec.upto sessBookSpec)

end Rows
end Go.Proofs.YtglbdbghcdoicaaGreatDoor
