/-
  NARROWER THAN 'FOR EVERY INPUT', by the rows' own cells (each row's printed sentence says how): WireWrites: laid · WireBodies: laid · WireOne: laid · WireBack: laid · WirePieces: laid · WireLong: laid · WireCuts: laid · WireOwn: laid · WireMany: laid · WireAnswers: laid · WireNames: laid · WireReads: laid.
  DERIVED. THE GIVEN ROWS OF THIS SEAT. 12 by the template 'for every input the law returns true; each argument reads behind the call as it read before'; 0 by the template 'total and deterministic' (their statements: YtdgokebablhoiaaDoorTotals.lean).
  GIVEN WITH THE SEED: the statements are not yours to turn. If you find one false, say at which input.
  Laid BY PROGRAM, IN A SANDBOX (cutbox-rows.mjs): the forced cells as the released guide's own fill.sh prints them over the translation 4667dd681e42f27a… (all of the seat's roots in one cut). By AI agents, Wed Nov 11 2026. No macro, syntax, notation, axiom, sorry.
-/
import Derived.Test.YtdgokebablhoiaaDoorChecked
import GoSem.Claim
import GoSem.ClaimJoined
import GoSem.ClaimMapViews
import Derived.JoinedTies
import Derived.KernelRfl
namespace Go.Proofs.YtdgokebablhoiaaDoor
/- THE CELL 'sum', in the pinned program and in every row, IS THE sha256 OF THE DUMP (.gsa) THAT YtdgokebablhoiaaDoorProg.lean LOADS. Nothing in Lean hashes anything: it is a label: what it is worth is what the hold of that sum in a sandbox is worth. -/
noncomputable def Tryd.pinned : Pinned := { name := "ytdgokebablhoiaadoor", sum := "4667dd681e42f27a86e19576f996bf413055ad20ca68db4e4f0928d483565824", checked := Tryd.checked }
namespace Rows
def none {H : Type} : Left H := { results := [], args := [] }

/- WHAT THE LISTED PACKAGE-LEVEL VARIABLES READ AS WHEN THE CALL BEGINS. Each datum BY PROGRAM (the guide's laid-datum.mjs) off the statement by which the dump's own 'gosem.cut.vars' lays the variable. In a bare row this is a premise. The card (YtdgokebablhoiaaDoorCards.lean) ties it to the program's text. -/
def laid_errors_errorType {H : Type} : DataW H := .iface "internal/reflectlite.rtype" (.agg [.ptr (.lit (.string [101, 114, 114, 111, 114]))])

/-- 'spatelaw1.WireWrites': WHATEVER THE INPUT: true; the input reads as it did. -/
def wireWritesSpec : ChangeSpec := { name := "wireWrites", fn := fun _ => fun
  | [d1, d2] => { results := [.lit (.bool true)], args := [d1, d2] }
  | _ => none }
def wireWritesRow : OpenClaim := { program := "ytdgokebablhoiaadoor", sum := "4667dd681e42f27a86e19576f996bf413055ad20ca68db4e4f0928d483565824", func := "spate/spatelaw1.WireWrites", spec := "wireWrites", inPlace := ["internal/reflectlite.ValueOf", "(internal/reflectlite.Value).Type", "(internal/reflectlite.Value).IsNil", "internal/reflectlite.TypeOf", "(internal/reflectlite.Value).Elem", "(internal/reflectlite.Value).Set"], unfollowed := true, recurses := true, named := ["errors.errorType"], apart := false, laid := [("errors.errorType", laid_errors_errorType)] }
def WireWritesSaid : Prop := wireWritesRow.holds Tryd.pinned (OpenSpec.ofChange wireWritesSpec)

/-- ITS FALSE NEIGHBOUR: 'it returns false'. Refute it at one input. -/
def wireWritesWrong : ChangeSpec := { name := "wireWrites", fn := fun _ => fun
  | [d1, d2] => { results := [.lit (.bool false)], args := [d1, d2] }
  | _ => none }
def WireWritesWrongFalsely : Prop := wireWritesRow.holds Tryd.pinned (OpenSpec.ofChange wireWritesWrong)

/-- 'spatelaw1.WireBodies': WHATEVER THE INPUT: true; the input reads as it did. -/
def wireBodiesSpec : ChangeSpec := { name := "wireBodies", fn := fun _ => fun
  | [d] => { results := [.lit (.bool true)], args := [d] }
  | _ => none }
def wireBodiesRow : OpenClaim := { program := "ytdgokebablhoiaadoor", sum := "4667dd681e42f27a86e19576f996bf413055ad20ca68db4e4f0928d483565824", func := "spate/spatelaw1.WireBodies", spec := "wireBodies", inPlace := ["internal/reflectlite.ValueOf", "(internal/reflectlite.Value).Type", "(internal/reflectlite.Value).IsNil", "internal/reflectlite.TypeOf", "(internal/reflectlite.Value).Elem", "(internal/reflectlite.Value).Set"], unfollowed := true, recurses := true, named := ["errors.errorType"], apart := false, laid := [("errors.errorType", laid_errors_errorType)] }
def WireBodiesSaid : Prop := wireBodiesRow.holds Tryd.pinned (OpenSpec.ofChange wireBodiesSpec)

/-- ITS FALSE NEIGHBOUR: 'it returns false'. Refute it at one input. -/
def wireBodiesWrong : ChangeSpec := { name := "wireBodies", fn := fun _ => fun
  | [d] => { results := [.lit (.bool false)], args := [d] }
  | _ => none }
def WireBodiesWrongFalsely : Prop := wireBodiesRow.holds Tryd.pinned (OpenSpec.ofChange wireBodiesWrong)

/-- 'spatelaw1.WireOne': WHATEVER THE INPUT: true; the input reads as it did. -/
def wireOneSpec : ChangeSpec := { name := "wireOne", fn := fun _ => fun
  | [d] => { results := [.lit (.bool true)], args := [d] }
  | _ => none }
def wireOneRow : OpenClaim := { program := "ytdgokebablhoiaadoor", sum := "4667dd681e42f27a86e19576f996bf413055ad20ca68db4e4f0928d483565824", func := "spate/spatelaw1.WireOne", spec := "wireOne", inPlace := ["internal/reflectlite.ValueOf", "(internal/reflectlite.Value).Type", "(internal/reflectlite.Value).IsNil", "internal/reflectlite.TypeOf", "(internal/reflectlite.Value).Elem", "(internal/reflectlite.Value).Set"], unfollowed := true, recurses := true, named := ["errors.errorType"], apart := false, laid := [("errors.errorType", laid_errors_errorType)] }
def WireOneSaid : Prop := wireOneRow.holds Tryd.pinned (OpenSpec.ofChange wireOneSpec)

/-- ITS FALSE NEIGHBOUR: 'it returns false'. Refute it at one input. -/
def wireOneWrong : ChangeSpec := { name := "wireOne", fn := fun _ => fun
  | [d] => { results := [.lit (.bool false)], args := [d] }
  | _ => none }
def WireOneWrongFalsely : Prop := wireOneRow.holds Tryd.pinned (OpenSpec.ofChange wireOneWrong)

/-- 'spatelaw1.WireBack': WHATEVER THE INPUT: true; the input reads as it did. -/
def wireBackSpec : ChangeSpec := { name := "wireBack", fn := fun _ => fun
  | [d1, d2, d3] => { results := [.lit (.bool true)], args := [d1, d2, d3] }
  | _ => none }
def wireBackRow : OpenClaim := { program := "ytdgokebablhoiaadoor", sum := "4667dd681e42f27a86e19576f996bf413055ad20ca68db4e4f0928d483565824", func := "spate/spatelaw1.WireBack", spec := "wireBack", inPlace := ["internal/reflectlite.ValueOf", "(internal/reflectlite.Value).Type", "(internal/reflectlite.Value).IsNil", "internal/reflectlite.TypeOf", "(internal/reflectlite.Value).Elem", "(internal/reflectlite.Value).Set"], unfollowed := true, recurses := true, named := ["errors.errorType"], apart := false, laid := [("errors.errorType", laid_errors_errorType)] }
def WireBackSaid : Prop := wireBackRow.holds Tryd.pinned (OpenSpec.ofChange wireBackSpec)

/-- ITS FALSE NEIGHBOUR: 'it returns false'. Refute it at one input. -/
def wireBackWrong : ChangeSpec := { name := "wireBack", fn := fun _ => fun
  | [d1, d2, d3] => { results := [.lit (.bool false)], args := [d1, d2, d3] }
  | _ => none }
def WireBackWrongFalsely : Prop := wireBackRow.holds Tryd.pinned (OpenSpec.ofChange wireBackWrong)

/-- 'spatelaw1.WirePieces': WHATEVER THE INPUT: true; the input reads as it did. -/
def wirePiecesSpec : ChangeSpec := { name := "wirePieces", fn := fun _ => fun
  | [d1, d2, d3] => { results := [.lit (.bool true)], args := [d1, d2, d3] }
  | _ => none }
def wirePiecesRow : OpenClaim := { program := "ytdgokebablhoiaadoor", sum := "4667dd681e42f27a86e19576f996bf413055ad20ca68db4e4f0928d483565824", func := "spate/spatelaw1.WirePieces", spec := "wirePieces", inPlace := ["internal/reflectlite.TypeOf", "internal/reflectlite.ValueOf", "(internal/reflectlite.Value).Type", "(internal/reflectlite.Value).IsNil", "(internal/reflectlite.Value).Elem", "(internal/reflectlite.Value).Set"], unfollowed := true, recurses := true, named := ["errors.errorType"], apart := false, laid := [("errors.errorType", laid_errors_errorType)] }
def WirePiecesSaid : Prop := wirePiecesRow.holds Tryd.pinned (OpenSpec.ofChange wirePiecesSpec)

/-- ITS FALSE NEIGHBOUR: 'it returns false'. Refute it at one input. -/
def wirePiecesWrong : ChangeSpec := { name := "wirePieces", fn := fun _ => fun
  | [d1, d2, d3] => { results := [.lit (.bool false)], args := [d1, d2, d3] }
  | _ => none }
def WirePiecesWrongFalsely : Prop := wirePiecesRow.holds Tryd.pinned (OpenSpec.ofChange wirePiecesWrong)

/-- 'spatelaw1.WireLong': WHATEVER THE INPUT: true; the input reads as it did. -/
def wireLongSpec : ChangeSpec := { name := "wireLong", fn := fun _ => fun
  | [d1, d2] => { results := [.lit (.bool true)], args := [d1, d2] }
  | _ => none }
def wireLongRow : OpenClaim := { program := "ytdgokebablhoiaadoor", sum := "4667dd681e42f27a86e19576f996bf413055ad20ca68db4e4f0928d483565824", func := "spate/spatelaw1.WireLong", spec := "wireLong", inPlace := ["internal/reflectlite.ValueOf", "(internal/reflectlite.Value).Type", "(internal/reflectlite.Value).IsNil", "internal/reflectlite.TypeOf", "(internal/reflectlite.Value).Elem", "(internal/reflectlite.Value).Set"], unfollowed := true, recurses := true, named := ["errors.errorType"], apart := false, laid := [("errors.errorType", laid_errors_errorType)] }
def WireLongSaid : Prop := wireLongRow.holds Tryd.pinned (OpenSpec.ofChange wireLongSpec)

/-- ITS FALSE NEIGHBOUR: 'it returns false'. Refute it at one input. -/
def wireLongWrong : ChangeSpec := { name := "wireLong", fn := fun _ => fun
  | [d1, d2] => { results := [.lit (.bool false)], args := [d1, d2] }
  | _ => none }
def WireLongWrongFalsely : Prop := wireLongRow.holds Tryd.pinned (OpenSpec.ofChange wireLongWrong)

/-- 'spatelaw1.WireCuts': WHATEVER THE INPUT: true; the input reads as it did. -/
def wireCutsSpec : ChangeSpec := { name := "wireCuts", fn := fun _ => fun
  | [d1, d2, d3] => { results := [.lit (.bool true)], args := [d1, d2, d3] }
  | _ => none }
def wireCutsRow : OpenClaim := { program := "ytdgokebablhoiaadoor", sum := "4667dd681e42f27a86e19576f996bf413055ad20ca68db4e4f0928d483565824", func := "spate/spatelaw1.WireCuts", spec := "wireCuts", inPlace := ["internal/reflectlite.TypeOf", "internal/reflectlite.ValueOf", "(internal/reflectlite.Value).Type", "(internal/reflectlite.Value).IsNil", "(internal/reflectlite.Value).Elem", "(internal/reflectlite.Value).Set"], unfollowed := true, recurses := true, named := ["errors.errorType"], apart := false, laid := [("errors.errorType", laid_errors_errorType)] }
def WireCutsSaid : Prop := wireCutsRow.holds Tryd.pinned (OpenSpec.ofChange wireCutsSpec)

/-- ITS FALSE NEIGHBOUR: 'it returns false'. Refute it at one input. -/
def wireCutsWrong : ChangeSpec := { name := "wireCuts", fn := fun _ => fun
  | [d1, d2, d3] => { results := [.lit (.bool false)], args := [d1, d2, d3] }
  | _ => none }
def WireCutsWrongFalsely : Prop := wireCutsRow.holds Tryd.pinned (OpenSpec.ofChange wireCutsWrong)

/-- 'spatelaw1.WireOwn': WHATEVER THE INPUT: true; the input reads as it did. -/
def wireOwnSpec : ChangeSpec := { name := "wireOwn", fn := fun _ => fun
  | [d1, d2] => { results := [.lit (.bool true)], args := [d1, d2] }
  | _ => none }
def wireOwnRow : OpenClaim := { program := "ytdgokebablhoiaadoor", sum := "4667dd681e42f27a86e19576f996bf413055ad20ca68db4e4f0928d483565824", func := "spate/spatelaw1.WireOwn", spec := "wireOwn", inPlace := ["internal/reflectlite.TypeOf", "internal/reflectlite.ValueOf", "(internal/reflectlite.Value).Type", "(internal/reflectlite.Value).IsNil", "(internal/reflectlite.Value).Elem", "(internal/reflectlite.Value).Set"], unfollowed := true, recurses := true, named := ["errors.errorType"], apart := false, laid := [("errors.errorType", laid_errors_errorType)] }
def WireOwnSaid : Prop := wireOwnRow.holds Tryd.pinned (OpenSpec.ofChange wireOwnSpec)

/-- ITS FALSE NEIGHBOUR: 'it returns false'. Refute it at one input. -/
def wireOwnWrong : ChangeSpec := { name := "wireOwn", fn := fun _ => fun
  | [d1, d2] => { results := [.lit (.bool false)], args := [d1, d2] }
  | _ => none }
def WireOwnWrongFalsely : Prop := wireOwnRow.holds Tryd.pinned (OpenSpec.ofChange wireOwnWrong)

/-- 'spatelaw1.WireMany': WHATEVER THE INPUT: true; the input reads as it did. -/
def wireManySpec : ChangeSpec := { name := "wireMany", fn := fun _ => fun
  | [d1, d2, d3] => { results := [.lit (.bool true)], args := [d1, d2, d3] }
  | _ => none }
def wireManyRow : OpenClaim := { program := "ytdgokebablhoiaadoor", sum := "4667dd681e42f27a86e19576f996bf413055ad20ca68db4e4f0928d483565824", func := "spate/spatelaw1.WireMany", spec := "wireMany", inPlace := ["internal/reflectlite.TypeOf", "internal/reflectlite.ValueOf", "(internal/reflectlite.Value).Type", "(internal/reflectlite.Value).IsNil", "(internal/reflectlite.Value).Elem", "(internal/reflectlite.Value).Set"], unfollowed := true, recurses := true, named := ["errors.errorType"], apart := false, laid := [("errors.errorType", laid_errors_errorType)] }
def WireManySaid : Prop := wireManyRow.holds Tryd.pinned (OpenSpec.ofChange wireManySpec)

/-- ITS FALSE NEIGHBOUR: 'it returns false'. Refute it at one input. -/
def wireManyWrong : ChangeSpec := { name := "wireMany", fn := fun _ => fun
  | [d1, d2, d3] => { results := [.lit (.bool false)], args := [d1, d2, d3] }
  | _ => none }
def WireManyWrongFalsely : Prop := wireManyRow.holds Tryd.pinned (OpenSpec.ofChange wireManyWrong)

/-- 'spatelaw1.WireAnswers': WHATEVER THE INPUT: true; the input reads as it did. -/
def wireAnswersSpec : ChangeSpec := { name := "wireAnswers", fn := fun _ => fun
  | [d1, d2] => { results := [.lit (.bool true)], args := [d1, d2] }
  | _ => none }
def wireAnswersRow : OpenClaim := { program := "ytdgokebablhoiaadoor", sum := "4667dd681e42f27a86e19576f996bf413055ad20ca68db4e4f0928d483565824", func := "spate/spatelaw1.WireAnswers", spec := "wireAnswers", inPlace := ["internal/reflectlite.TypeOf", "internal/reflectlite.ValueOf", "(internal/reflectlite.Value).Type", "(internal/reflectlite.Value).IsNil", "(internal/reflectlite.Value).Elem", "(internal/reflectlite.Value).Set"], unfollowed := true, recurses := true, named := ["errors.errorType"], apart := false, laid := [("errors.errorType", laid_errors_errorType)] }
def WireAnswersSaid : Prop := wireAnswersRow.holds Tryd.pinned (OpenSpec.ofChange wireAnswersSpec)

/-- ITS FALSE NEIGHBOUR: 'it returns false'. Refute it at one input. -/
def wireAnswersWrong : ChangeSpec := { name := "wireAnswers", fn := fun _ => fun
  | [d1, d2] => { results := [.lit (.bool false)], args := [d1, d2] }
  | _ => none }
def WireAnswersWrongFalsely : Prop := wireAnswersRow.holds Tryd.pinned (OpenSpec.ofChange wireAnswersWrong)

/-- 'spatelaw1.WireNames': WHATEVER THE INPUT: true; the input reads as it did. -/
def wireNamesSpec : ChangeSpec := { name := "wireNames", fn := fun _ => fun
  | [] => { results := [.lit (.bool true)], args := [] }
  | _ => none }
def wireNamesRow : OpenClaim := { program := "ytdgokebablhoiaadoor", sum := "4667dd681e42f27a86e19576f996bf413055ad20ca68db4e4f0928d483565824", func := "spate/spatelaw1.WireNames", spec := "wireNames", inPlace := ["internal/reflectlite.ValueOf", "(internal/reflectlite.Value).Type", "(internal/reflectlite.Value).IsNil", "internal/reflectlite.TypeOf", "(internal/reflectlite.Value).Elem", "(internal/reflectlite.Value).Set"], unfollowed := true, recurses := true, named := ["errors.errorType"], apart := false, laid := [("errors.errorType", laid_errors_errorType)] }
def WireNamesSaid : Prop := wireNamesRow.holds Tryd.pinned (OpenSpec.ofChange wireNamesSpec)

/-- ITS FALSE NEIGHBOUR: 'it returns false'. Refute it at one input. -/
def wireNamesWrong : ChangeSpec := { name := "wireNames", fn := fun _ => fun
  | [] => { results := [.lit (.bool false)], args := [] }
  | _ => none }
def WireNamesWrongFalsely : Prop := wireNamesRow.holds Tryd.pinned (OpenSpec.ofChange wireNamesWrong)

/-- 'spatelaw1.WireReads': WHATEVER THE INPUT: true; the input reads as it did. -/
def wireReadsSpec : ChangeSpec := { name := "wireReads", fn := fun _ => fun
  | [d1, d2] => { results := [.lit (.bool true)], args := [d1, d2] }
  | _ => none }
def wireReadsRow : OpenClaim := { program := "ytdgokebablhoiaadoor", sum := "4667dd681e42f27a86e19576f996bf413055ad20ca68db4e4f0928d483565824", func := "spate/spatelaw1.WireReads", spec := "wireReads", inPlace := ["internal/reflectlite.ValueOf", "(internal/reflectlite.Value).Type", "(internal/reflectlite.Value).IsNil", "internal/reflectlite.TypeOf", "(internal/reflectlite.Value).Elem", "(internal/reflectlite.Value).Set"], unfollowed := true, recurses := true, named := ["errors.errorType"], apart := false, laid := [("errors.errorType", laid_errors_errorType)] }
def WireReadsSaid : Prop := wireReadsRow.holds Tryd.pinned (OpenSpec.ofChange wireReadsSpec)

/-- ITS FALSE NEIGHBOUR: 'it returns false'. Refute it at one input. -/
def wireReadsWrong : ChangeSpec := { name := "wireReads", fn := fun _ => fun
  | [d1, d2] => { results := [.lit (.bool false)], args := [d1, d2] }
  | _ => none }
def WireReadsWrongFalsely : Prop := wireReadsRow.holds Tryd.pinned (OpenSpec.ofChange wireReadsWrong)

/- THE SECOND FORM. 'bulk': how many values and letters a reading holds, each counted each time it is reached (what is shared counts as often as it is met; a slice's spare places count too). A statement '..UptoSaid' is the law's where the arguments, and the package variables that the reading takes, are together of bulk at most 1048576: NARROWER than '..Said'. Prove '..Said' where nothing that the law and all that it calls make is longer than what came in: it says more and counts as full. Else prove '..UptoSaid'. A law counts once. -/
mutual
def uptoBulk {H : Type} : DataW H → Nat
  | .lit (.string bytes) => bytes.length + 1
  | .lit _ => 1
  | .nil => 1
  | .ptr d => uptoBulk d + 1
  | .slice elems spare => uptoBulkAll elems + uptoBulkAll spare + 1
  | .agg parts => uptoBulkAll parts + 1
  | .iface _ d => uptoBulk d + 1
  | .map entries => uptoBulkEntries entries + 1
  | .held _ => 1
def uptoBulkAll {H : Type} : List (DataW H) → Nat
  | [] => 0
  | d :: r => uptoBulk d + uptoBulkAll r
def uptoBulkEntries {H : Type} : List (Lit × DataW H) → Nat
  | [] => 0
  | x :: r => uptoBulkEntry x + uptoBulkEntries r
def uptoBulkEntry {H : Type} : Lit × DataW H → Nat
  | (.string bytes, d) => bytes.length + uptoBulk d + 1
  | (_, d) => uptoBulk d + 1
 end
def uptoSmall : (H : Type) → List (DataW H) → Bool := fun _ ds => decide (uptoBulkAll ds ≤ 1048576)
def OpenSpec.upto (s : _root_.Go.ChangeSpec) : _root_.Go.OpenSpec := { _root_.Go.OpenSpec.ofChange s with cond := some uptoSmall }

/-- 'spatelaw1.WireWrites', WHERE WHAT IT READS IS OF BULK AT MOST 1048576: true; the input reads as it did. -/
def wireWritesUptoRow : OpenClaim := { program := "ytdgokebablhoiaadoor", sum := "4667dd681e42f27a86e19576f996bf413055ad20ca68db4e4f0928d483565824", func := "spate/spatelaw1.WireWrites", spec := "wireWrites", inPlace := ["internal/reflectlite.ValueOf", "(internal/reflectlite.Value).Type", "(internal/reflectlite.Value).IsNil", "internal/reflectlite.TypeOf", "(internal/reflectlite.Value).Elem", "(internal/reflectlite.Value).Set"], unfollowed := true, recurses := true, named := ["errors.errorType"], apart := false, laid := [("errors.errorType", laid_errors_errorType)], narrowed := true }
def WireWritesUptoSaid : Prop := wireWritesUptoRow.holds Tryd.pinned (OpenSpec.upto wireWritesSpec)

/-- 'spatelaw1.WireBodies', WHERE WHAT IT READS IS OF BULK AT MOST 1048576: true; the input reads as it did. -/
def wireBodiesUptoRow : OpenClaim := { program := "ytdgokebablhoiaadoor", sum := "4667dd681e42f27a86e19576f996bf413055ad20ca68db4e4f0928d483565824", func := "spate/spatelaw1.WireBodies", spec := "wireBodies", inPlace := ["internal/reflectlite.ValueOf", "(internal/reflectlite.Value).Type", "(internal/reflectlite.Value).IsNil", "internal/reflectlite.TypeOf", "(internal/reflectlite.Value).Elem", "(internal/reflectlite.Value).Set"], unfollowed := true, recurses := true, named := ["errors.errorType"], apart := false, laid := [("errors.errorType", laid_errors_errorType)], narrowed := true }
def WireBodiesUptoSaid : Prop := wireBodiesUptoRow.holds Tryd.pinned (OpenSpec.upto wireBodiesSpec)

/-- 'spatelaw1.WireOne', WHERE WHAT IT READS IS OF BULK AT MOST 1048576: true; the input reads as it did. -/
def wireOneUptoRow : OpenClaim := { program := "ytdgokebablhoiaadoor", sum := "4667dd681e42f27a86e19576f996bf413055ad20ca68db4e4f0928d483565824", func := "spate/spatelaw1.WireOne", spec := "wireOne", inPlace := ["internal/reflectlite.ValueOf", "(internal/reflectlite.Value).Type", "(internal/reflectlite.Value).IsNil", "internal/reflectlite.TypeOf", "(internal/reflectlite.Value).Elem", "(internal/reflectlite.Value).Set"], unfollowed := true, recurses := true, named := ["errors.errorType"], apart := false, laid := [("errors.errorType", laid_errors_errorType)], narrowed := true }
def WireOneUptoSaid : Prop := wireOneUptoRow.holds Tryd.pinned (OpenSpec.upto wireOneSpec)

/-- 'spatelaw1.WireBack', WHERE WHAT IT READS IS OF BULK AT MOST 1048576: true; the input reads as it did. -/
def wireBackUptoRow : OpenClaim := { program := "ytdgokebablhoiaadoor", sum := "4667dd681e42f27a86e19576f996bf413055ad20ca68db4e4f0928d483565824", func := "spate/spatelaw1.WireBack", spec := "wireBack", inPlace := ["internal/reflectlite.ValueOf", "(internal/reflectlite.Value).Type", "(internal/reflectlite.Value).IsNil", "internal/reflectlite.TypeOf", "(internal/reflectlite.Value).Elem", "(internal/reflectlite.Value).Set"], unfollowed := true, recurses := true, named := ["errors.errorType"], apart := false, laid := [("errors.errorType", laid_errors_errorType)], narrowed := true }
def WireBackUptoSaid : Prop := wireBackUptoRow.holds Tryd.pinned (OpenSpec.upto wireBackSpec)

/-- 'spatelaw1.WirePieces', WHERE WHAT IT READS IS OF BULK AT MOST 1048576: true; the input reads as it did. -/
def wirePiecesUptoRow : OpenClaim := { program := "ytdgokebablhoiaadoor", sum := "4667dd681e42f27a86e19576f996bf413055ad20ca68db4e4f0928d483565824", func := "spate/spatelaw1.WirePieces", spec := "wirePieces", inPlace := ["internal/reflectlite.TypeOf", "internal/reflectlite.ValueOf", "(internal/reflectlite.Value).Type", "(internal/reflectlite.Value).IsNil", "(internal/reflectlite.Value).Elem", "(internal/reflectlite.Value).Set"], unfollowed := true, recurses := true, named := ["errors.errorType"], apart := false, laid := [("errors.errorType", laid_errors_errorType)], narrowed := true }
def WirePiecesUptoSaid : Prop := wirePiecesUptoRow.holds Tryd.pinned (OpenSpec.upto wirePiecesSpec)

/-- 'spatelaw1.WireLong', WHERE WHAT IT READS IS OF BULK AT MOST 1048576: true; the input reads as it did. -/
def wireLongUptoRow : OpenClaim := { program := "ytdgokebablhoiaadoor", sum := "4667dd681e42f27a86e19576f996bf413055ad20ca68db4e4f0928d483565824", func := "spate/spatelaw1.WireLong", spec := "wireLong", inPlace := ["internal/reflectlite.ValueOf", "(internal/reflectlite.Value).Type", "(internal/reflectlite.Value).IsNil", "internal/reflectlite.TypeOf", "(internal/reflectlite.Value).Elem", "(internal/reflectlite.Value).Set"], unfollowed := true, recurses := true, named := ["errors.errorType"], apart := false, laid := [("errors.errorType", laid_errors_errorType)], narrowed := true }
def WireLongUptoSaid : Prop := wireLongUptoRow.holds Tryd.pinned (OpenSpec.upto wireLongSpec)

/-- 'spatelaw1.WireCuts', WHERE WHAT IT READS IS OF BULK AT MOST 1048576: true; the input reads as it did. -/
def wireCutsUptoRow : OpenClaim := { program := "ytdgokebablhoiaadoor", sum := "4667dd681e42f27a86e19576f996bf413055ad20ca68db4e4f0928d483565824", func := "spate/spatelaw1.WireCuts", spec := "wireCuts", inPlace := ["internal/reflectlite.TypeOf", "internal/reflectlite.ValueOf", "(internal/reflectlite.Value).Type", "(internal/reflectlite.Value).IsNil", "(internal/reflectlite.Value).Elem", "(internal/reflectlite.Value).Set"], unfollowed := true, recurses := true, named := ["errors.errorType"], apart := false, laid := [("errors.errorType", laid_errors_errorType)], narrowed := true }
def WireCutsUptoSaid : Prop := wireCutsUptoRow.holds Tryd.pinned (OpenSpec.upto wireCutsSpec)

/-- 'spatelaw1.WireOwn', WHERE WHAT IT READS IS OF BULK AT MOST 1048576: true; the input reads as it did. -/
def wireOwnUptoRow : OpenClaim := { program := "ytdgokebablhoiaadoor", sum := "4667dd681e42f27a86e19576f996bf413055ad20ca68db4e4f0928d483565824", func := "spate/spatelaw1.WireOwn", spec := "wireOwn", inPlace := ["internal/reflectlite.TypeOf", "internal/reflectlite.ValueOf", "(internal/reflectlite.Value).Type", "(internal/reflectlite.Value).IsNil", "(internal/reflectlite.Value).Elem", "(internal/reflectlite.Value).Set"], unfollowed := true, recurses := true, named := ["errors.errorType"], apart := false, laid := [("errors.errorType", laid_errors_errorType)], narrowed := true }
def WireOwnUptoSaid : Prop := wireOwnUptoRow.holds Tryd.pinned (OpenSpec.upto wireOwnSpec)

/-- 'spatelaw1.WireMany', WHERE WHAT IT READS IS OF BULK AT MOST 1048576: true; the input reads as it did. -/
def wireManyUptoRow : OpenClaim := { program := "ytdgokebablhoiaadoor", sum := "4667dd681e42f27a86e19576f996bf413055ad20ca68db4e4f0928d483565824", func := "spate/spatelaw1.WireMany", spec := "wireMany", inPlace := ["internal/reflectlite.TypeOf", "internal/reflectlite.ValueOf", "(internal/reflectlite.Value).Type", "(internal/reflectlite.Value).IsNil", "(internal/reflectlite.Value).Elem", "(internal/reflectlite.Value).Set"], unfollowed := true, recurses := true, named := ["errors.errorType"], apart := false, laid := [("errors.errorType", laid_errors_errorType)], narrowed := true }
def WireManyUptoSaid : Prop := wireManyUptoRow.holds Tryd.pinned (OpenSpec.upto wireManySpec)

/-- 'spatelaw1.WireAnswers', WHERE WHAT IT READS IS OF BULK AT MOST 1048576: true; the input reads as it did. -/
def wireAnswersUptoRow : OpenClaim := { program := "ytdgokebablhoiaadoor", sum := "4667dd681e42f27a86e19576f996bf413055ad20ca68db4e4f0928d483565824", func := "spate/spatelaw1.WireAnswers", spec := "wireAnswers", inPlace := ["internal/reflectlite.TypeOf", "internal/reflectlite.ValueOf", "(internal/reflectlite.Value).Type", "(internal/reflectlite.Value).IsNil", "(internal/reflectlite.Value).Elem", "(internal/reflectlite.Value).Set"], unfollowed := true, recurses := true, named := ["errors.errorType"], apart := false, laid := [("errors.errorType", laid_errors_errorType)], narrowed := true }
def WireAnswersUptoSaid : Prop := wireAnswersUptoRow.holds Tryd.pinned (OpenSpec.upto wireAnswersSpec)

/-- 'spatelaw1.WireNames', WHERE WHAT IT READS IS OF BULK AT MOST 1048576: true; the input reads as it did. -/
def wireNamesUptoRow : OpenClaim := { program := "ytdgokebablhoiaadoor", sum := "4667dd681e42f27a86e19576f996bf413055ad20ca68db4e4f0928d483565824", func := "spate/spatelaw1.WireNames", spec := "wireNames", inPlace := ["internal/reflectlite.ValueOf", "(internal/reflectlite.Value).Type", "(internal/reflectlite.Value).IsNil", "internal/reflectlite.TypeOf", "(internal/reflectlite.Value).Elem", "(internal/reflectlite.Value).Set"], unfollowed := true, recurses := true, named := ["errors.errorType"], apart := false, laid := [("errors.errorType", laid_errors_errorType)], narrowed := true }
def WireNamesUptoSaid : Prop := wireNamesUptoRow.holds Tryd.pinned (OpenSpec.upto wireNamesSpec)

/-- 'spatelaw1.WireReads', WHERE WHAT IT READS IS OF BULK AT MOST 1048576: true; the input reads as it did. -/
def wireReadsUptoRow : OpenClaim := { program := "ytdgokebablhoiaadoor", sum := "4667dd681e42f27a86e19576f996bf413055ad20ca68db4e4f0928d483565824", func := "spate/spatelaw1.WireReads", spec := "wireReads", inPlace := ["internal/reflectlite.ValueOf", "(internal/reflectlite.Value).Type", "(internal/reflectlite.Value).IsNil", "internal/reflectlite.TypeOf", "(internal/reflectlite.Value).Elem", "(internal/reflectlite.Value).Set"], unfollowed := true, recurses := true, named := ["errors.errorType"], apart := false, laid := [("errors.errorType", laid_errors_errorType)], narrowed := true }
def WireReadsUptoSaid : Prop := wireReadsUptoRow.holds Tryd.pinned (OpenSpec.upto wireReadsSpec)

end Rows
end Go.Proofs.YtdgokebablhoiaaDoor
