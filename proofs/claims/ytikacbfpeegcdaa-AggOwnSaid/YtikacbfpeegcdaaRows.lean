/-
  No cell of these rows narrows 'for every input' (looked for: loops, veiled, ifaces, maps, wideKeys, modest, calm, conditions, laid).
  DERIVED. THE GIVEN ROWS OF THIS SEAT. 7 by the template 'for every input the law returns true; each argument reads behind the call as it read before'; 0 by the template 'total and deterministic' (their statements: YtikacbfpeegcdaaTotals.lean).
  GIVEN WITH THE SEED: the statements are not yours to turn. If you find one false, say at which input.
  Laid BY PROGRAM, IN A SANDBOX (cutbox-rows.mjs): the forced cells as the released guide's own fill.sh prints them over the translation fb2daad73569852a… (all of the seat's roots in one cut). By AI agents, Wed Nov 11 2026. No macro, syntax, notation, axiom, sorry.
-/
import Derived.Test.YtikacbfpeegcdaaChecked
import GoSem.Claim
import GoSem.ClaimJoined
import GoSem.ClaimMapViews
import Derived.JoinedTies
import Derived.KernelRfl
namespace Go.Proofs.Ytikacbfpeegcdaa
/- THE CELL 'sum', in the pinned program and in every row, IS THE sha256 OF THE DUMP (.gsa) THAT YtikacbfpeegcdaaProg.lean LOADS. Nothing in Lean hashes anything: it is a label: what it is worth is what the hold of that sum in a sandbox is worth. -/
noncomputable def Try.pinned : Pinned := { name := "ytikacbfpeegcdaa", sum := "fb2daad73569852a97a81d042fbff565d61dee2bfa941e2f476bfcecd75c9580", checked := Try.checked }
namespace Rows
def none {H : Type} : Left H := { results := [], args := [] }

/-- 'spatelaw3.AggNames': WHATEVER THE INPUT: true; the input reads as it did. -/
def aggNamesSpec : ChangeSpec := { name := "aggNames", fn := fun _ => fun
  | [] => { results := [.lit (.bool true)], args := [] }
  | _ => none }
def aggNamesRow : OpenClaim := { program := "ytikacbfpeegcdaa", sum := "fb2daad73569852a97a81d042fbff565d61dee2bfa941e2f476bfcecd75c9580", func := "spate/spatelaw3.AggNames", spec := "aggNames", apart := false }
def AggNamesSaid : Prop := aggNamesRow.holds Try.pinned (OpenSpec.ofChange aggNamesSpec)

/-- ITS FALSE NEIGHBOUR: 'it returns false'. Refute it at one input. -/
def aggNamesWrong : ChangeSpec := { name := "aggNames", fn := fun _ => fun
  | [] => { results := [.lit (.bool false)], args := [] }
  | _ => none }
def AggNamesWrongFalsely : Prop := aggNamesRow.holds Try.pinned (OpenSpec.ofChange aggNamesWrong)

/-- 'spatelaw3.AggRight': WHATEVER THE INPUT: true; the input reads as it did. -/
def aggRightSpec : ChangeSpec := { name := "aggRight", fn := fun _ => fun
  | [d] => { results := [.lit (.bool true)], args := [d] }
  | _ => none }
def aggRightRow : OpenClaim := { program := "ytikacbfpeegcdaa", sum := "fb2daad73569852a97a81d042fbff565d61dee2bfa941e2f476bfcecd75c9580", func := "spate/spatelaw3.AggRight", spec := "aggRight", inPlace := ["math/bits.Add64"], recurses := true, apart := false }
def AggRightSaid : Prop := aggRightRow.holds Try.pinned (OpenSpec.ofChange aggRightSpec)

/-- ITS FALSE NEIGHBOUR: 'it returns false'. Refute it at one input. -/
def aggRightWrong : ChangeSpec := { name := "aggRight", fn := fun _ => fun
  | [d] => { results := [.lit (.bool false)], args := [d] }
  | _ => none }
def AggRightWrongFalsely : Prop := aggRightRow.holds Try.pinned (OpenSpec.ofChange aggRightWrong)

/-- 'spatelaw3.AggReal': WHATEVER THE INPUT: true; the input reads as it did. -/
def aggRealSpec : ChangeSpec := { name := "aggReal", fn := fun _ => fun
  | [d1, d2] => { results := [.lit (.bool true)], args := [d1, d2] }
  | _ => none }
def aggRealRow : OpenClaim := { program := "ytikacbfpeegcdaa", sum := "fb2daad73569852a97a81d042fbff565d61dee2bfa941e2f476bfcecd75c9580", func := "spate/spatelaw3.AggReal", spec := "aggReal", inPlace := ["math/bits.Add64"], apart := false }
def AggRealSaid : Prop := aggRealRow.holds Try.pinned (OpenSpec.ofChange aggRealSpec)

/-- ITS FALSE NEIGHBOUR: 'it returns false'. Refute it at one input. -/
def aggRealWrong : ChangeSpec := { name := "aggReal", fn := fun _ => fun
  | [d1, d2] => { results := [.lit (.bool false)], args := [d1, d2] }
  | _ => none }
def AggRealWrongFalsely : Prop := aggRealRow.holds Try.pinned (OpenSpec.ofChange aggRealWrong)

/-- 'spatelaw3.AggExact': WHATEVER THE INPUT: true; the input reads as it did. -/
def aggExactSpec : ChangeSpec := { name := "aggExact", fn := fun _ => fun
  | [d1, d2, d3, d4] => { results := [.lit (.bool true)], args := [d1, d2, d3, d4] }
  | _ => none }
def aggExactRow : OpenClaim := { program := "ytikacbfpeegcdaa", sum := "fb2daad73569852a97a81d042fbff565d61dee2bfa941e2f476bfcecd75c9580", func := "spate/spatelaw3.AggExact", spec := "aggExact", inPlace := ["math/bits.Add64"], apart := false }
def AggExactSaid : Prop := aggExactRow.holds Try.pinned (OpenSpec.ofChange aggExactSpec)

/-- ITS FALSE NEIGHBOUR: 'it returns false'. Refute it at one input. -/
def aggExactWrong : ChangeSpec := { name := "aggExact", fn := fun _ => fun
  | [d1, d2, d3, d4] => { results := [.lit (.bool false)], args := [d1, d2, d3, d4] }
  | _ => none }
def AggExactWrongFalsely : Prop := aggExactRow.holds Try.pinned (OpenSpec.ofChange aggExactWrong)

/-- 'spatelaw3.AggLeast': WHATEVER THE INPUT: true; the input reads as it did. -/
def aggLeastSpec : ChangeSpec := { name := "aggLeast", fn := fun _ => fun
  | [d1, d2, d3] => { results := [.lit (.bool true)], args := [d1, d2, d3] }
  | _ => none }
def aggLeastRow : OpenClaim := { program := "ytikacbfpeegcdaa", sum := "fb2daad73569852a97a81d042fbff565d61dee2bfa941e2f476bfcecd75c9580", func := "spate/spatelaw3.AggLeast", spec := "aggLeast", inPlace := ["math/bits.Add64"], unfollowed := true, recurses := true, apart := false }
def AggLeastSaid : Prop := aggLeastRow.holds Try.pinned (OpenSpec.ofChange aggLeastSpec)

/-- ITS FALSE NEIGHBOUR: 'it returns false'. Refute it at one input. -/
def aggLeastWrong : ChangeSpec := { name := "aggLeast", fn := fun _ => fun
  | [d1, d2, d3] => { results := [.lit (.bool false)], args := [d1, d2, d3] }
  | _ => none }
def AggLeastWrongFalsely : Prop := aggLeastRow.holds Try.pinned (OpenSpec.ofChange aggLeastWrong)

/-- 'spatelaw3.AggOwn': WHATEVER THE INPUT: true; the input reads as it did. -/
def aggOwnSpec : ChangeSpec := { name := "aggOwn", fn := fun _ => fun
  | [d] => { results := [.lit (.bool true)], args := [d] }
  | _ => none }
def aggOwnRow : OpenClaim := { program := "ytikacbfpeegcdaa", sum := "fb2daad73569852a97a81d042fbff565d61dee2bfa941e2f476bfcecd75c9580", func := "spate/spatelaw3.AggOwn", spec := "aggOwn", inPlace := ["math/bits.Add64"], unfollowed := true, recurses := true, apart := false }
def AggOwnSaid : Prop := aggOwnRow.holds Try.pinned (OpenSpec.ofChange aggOwnSpec)

/-- ITS FALSE NEIGHBOUR: 'it returns false'. Refute it at one input. -/
def aggOwnWrong : ChangeSpec := { name := "aggOwn", fn := fun _ => fun
  | [d] => { results := [.lit (.bool false)], args := [d] }
  | _ => none }
def AggOwnWrongFalsely : Prop := aggOwnRow.holds Try.pinned (OpenSpec.ofChange aggOwnWrong)

/-- 'spatelaw3.AggOrders': WHATEVER THE INPUT: true; the input reads as it did. -/
def aggOrdersSpec : ChangeSpec := { name := "aggOrders", fn := fun _ => fun
  | [d1, d2] => { results := [.lit (.bool true)], args := [d1, d2] }
  | _ => none }
def aggOrdersRow : OpenClaim := { program := "ytikacbfpeegcdaa", sum := "fb2daad73569852a97a81d042fbff565d61dee2bfa941e2f476bfcecd75c9580", func := "spate/spatelaw3.AggOrders", spec := "aggOrders", inPlace := ["math/bits.Add64", "internal/reflectlite.TypeOf"], unfollowed := true, recurses := true, apart := false }
def AggOrdersSaid : Prop := aggOrdersRow.holds Try.pinned (OpenSpec.ofChange aggOrdersSpec)

/-- ITS FALSE NEIGHBOUR: 'it returns false'. Refute it at one input. -/
def aggOrdersWrong : ChangeSpec := { name := "aggOrders", fn := fun _ => fun
  | [d1, d2] => { results := [.lit (.bool false)], args := [d1, d2] }
  | _ => none }
def AggOrdersWrongFalsely : Prop := aggOrdersRow.holds Try.pinned (OpenSpec.ofChange aggOrdersWrong)

/- THE SECOND FORM. 'bulk': how many values and letters a reading holds, each counted each time it is reached (what is shared counts as often as it is met; a slice's spare places count too). A statement '..UptoSaid' is the law's where the arguments, and the package variables that the reading takes, are together of bulk at most 1048576: NARROWER than '..Said'. Prove '..Said' where nothing that the law and all that it calls make is longer than what came in: it says more and counts as full. Else prove '..UptoSaid'. A law counts once. -/
mutual
def uptoBulk {H : Type} : DataW H → Nat
  | .lit (.string bytes) => bytes.length + 1
  | .lit _ => 1
  | .nil => 1
  | .ptr d => uptoBulk d + 1
  | .slice elems spare => uptoBulkAll elems + uptoBulkAll spare + 1
  | .agg parts => uptoBulkAll parts + 1
  | .iface _ d => uptoBulk d + 1
  | .map entries => uptoBulkEntries entries + 1
  | .held _ => 1
def uptoBulkAll {H : Type} : List (DataW H) → Nat
  | [] => 0
  | d :: r => uptoBulk d + uptoBulkAll r
def uptoBulkEntries {H : Type} : List (Lit × DataW H) → Nat
  | [] => 0
  | x :: r => uptoBulkEntry x + uptoBulkEntries r
def uptoBulkEntry {H : Type} : Lit × DataW H → Nat
  | (.string bytes, d) => bytes.length + uptoBulk d + 1
  | (_, d) => uptoBulk d + 1
 end
def uptoSmall : (H : Type) → List (DataW H) → Bool := fun _ ds => decide (uptoBulkAll ds ≤ 1048576)
def OpenSpec.upto (s : _root_.Go.ChangeSpec) : _root_.Go.OpenSpec := { _root_.Go.OpenSpec.ofChange s with cond := some uptoSmall }

/-- 'spatelaw3.AggNames', WHERE WHAT IT READS IS OF BULK AT MOST 1048576: true; the input reads as it did. -/
def aggNamesUptoRow : OpenClaim := { program := "ytikacbfpeegcdaa", sum := "fb2daad73569852a97a81d042fbff565d61dee2bfa941e2f476bfcecd75c9580", func := "spate/spatelaw3.AggNames", spec := "aggNames", apart := false, narrowed := true }
def AggNamesUptoSaid : Prop := aggNamesUptoRow.holds Try.pinned (OpenSpec.upto aggNamesSpec)

/-- 'spatelaw3.AggRight', WHERE WHAT IT READS IS OF BULK AT MOST 1048576: true; the input reads as it did. -/
def aggRightUptoRow : OpenClaim := { program := "ytikacbfpeegcdaa", sum := "fb2daad73569852a97a81d042fbff565d61dee2bfa941e2f476bfcecd75c9580", func := "spate/spatelaw3.AggRight", spec := "aggRight", inPlace := ["math/bits.Add64"], recurses := true, apart := false, narrowed := true }
def AggRightUptoSaid : Prop := aggRightUptoRow.holds Try.pinned (OpenSpec.upto aggRightSpec)

/-- 'spatelaw3.AggReal', WHERE WHAT IT READS IS OF BULK AT MOST 1048576: true; the input reads as it did. -/
def aggRealUptoRow : OpenClaim := { program := "ytikacbfpeegcdaa", sum := "fb2daad73569852a97a81d042fbff565d61dee2bfa941e2f476bfcecd75c9580", func := "spate/spatelaw3.AggReal", spec := "aggReal", inPlace := ["math/bits.Add64"], apart := false, narrowed := true }
def AggRealUptoSaid : Prop := aggRealUptoRow.holds Try.pinned (OpenSpec.upto aggRealSpec)

/-- 'spatelaw3.AggExact', WHERE WHAT IT READS IS OF BULK AT MOST 1048576: true; the input reads as it did. -/
def aggExactUptoRow : OpenClaim := { program := "ytikacbfpeegcdaa", sum := "fb2daad73569852a97a81d042fbff565d61dee2bfa941e2f476bfcecd75c9580", func := "spate/spatelaw3.AggExact", spec := "aggExact", inPlace := ["math/bits.Add64"], apart := false, narrowed := true }
def AggExactUptoSaid : Prop := aggExactUptoRow.holds Try.pinned (OpenSpec.upto aggExactSpec)

/-- 'spatelaw3.AggLeast', WHERE WHAT IT READS IS OF BULK AT MOST 1048576: true; the input reads as it did. -/
def aggLeastUptoRow : OpenClaim := { program := "ytikacbfpeegcdaa", sum := "fb2daad73569852a97a81d042fbff565d61dee2bfa941e2f476bfcecd75c9580", func := "spate/spatelaw3.AggLeast", spec := "aggLeast", inPlace := ["math/bits.Add64"], unfollowed := true, recurses := true, apart := false, narrowed := true }
def AggLeastUptoSaid : Prop := aggLeastUptoRow.holds Try.pinned (OpenSpec.upto aggLeastSpec)

/-- 'spatelaw3.AggOwn', WHERE WHAT IT READS IS OF BULK AT MOST 1048576: true; the input reads as it did. -/
def aggOwnUptoRow : OpenClaim := { program := "ytikacbfpeegcdaa", sum := "fb2daad73569852a97a81d042fbff565d61dee2bfa941e2f476bfcecd75c9580", func := "spate/spatelaw3.AggOwn", spec := "aggOwn", inPlace := ["math/bits.Add64"], unfollowed := true, recurses := true, apart := false, narrowed := true }
def AggOwnUptoSaid : Prop := aggOwnUptoRow.holds Try.pinned (OpenSpec.upto aggOwnSpec)

/-- 'spatelaw3.AggOrders', WHERE WHAT IT READS IS OF BULK AT MOST 1048576: true; the input reads as it did. -/
def aggOrdersUptoRow : OpenClaim := { program := "ytikacbfpeegcdaa", sum := "fb2daad73569852a97a81d042fbff565d61dee2bfa941e2f476bfcecd75c9580", func := "spate/spatelaw3.AggOrders", spec := "aggOrders", inPlace := ["math/bits.Add64", "internal/reflectlite.TypeOf"], unfollowed := true, recurses := true, apart := false, narrowed := true }
def AggOrdersUptoSaid : Prop := aggOrdersUptoRow.holds Try.pinned (OpenSpec.upto aggOrdersSpec)

end Rows
end Go.Proofs.Ytikacbfpeegcdaa
