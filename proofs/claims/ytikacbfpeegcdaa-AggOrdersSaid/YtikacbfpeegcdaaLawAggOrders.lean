/- AggOrders: for every two rows of values the law answers true; the rows read as they did. No condition beyond the row's own. -/
import Derived.Test.YtikacbfpeegcdaaRows
import Derived.Test.YtikacbfpeegcdaaAggRow2
import Derived.Test.YtikacbfpeegcdaaAggRow
namespace Go.Proofs.Ytikacbfpeegcdaa.aggOrders
open Go.ChangeShapes Go.WideShapes Go.ChangeAt Go.RowKit Go.Joins
open Go.ChangeMaps (open_string shut_string)
set_option linter.unusedVariables false
theorem own : ownKnob Try.prog.godebug = none := by kernel_rfl
theorem laid : laidOutB Try.prog = true := by kernel_rfl
theorem readable : (Try.f9.params.toList.all fun t => Try.prog.readableRec t && decide (t < Try.prog.types.size)) = true := by kernel_rfl
theorem cellsInt : Try.prog.cellsOf 2 = 1 := by kernel_rfl
set_option maxRecDepth 100000 in
theorem lifted (os : Os) (started : os.Started) (H : Type) (enc : TypeId × Value → H) :
    ReturnsInHanded {} Try.checked os 9 .any (Rows.aggOrdersSpec.pre6 enc Try.prog Try.f9 Rows.aggOrdersRow.domain false) (Rows.aggOrdersSpec.post enc Try.prog Try.f9 false true false false) := by
  refine returnsInHanded_of_change_sized (C := Try.checked) own started (by kernel_rfl) Try.func9
    (ChangeSpec.witness6 (enc := enc) (C := Try.checked) false ⟨#[], #[.slice none 0 0, .slice none 0 0], []⟩ 8 (by kernel_rfl) (by kernel_rfl) (by kernel_rfl) (by kernel_rfl)) ?_
  intro W base args ds gs before hval0 hW hcnd hsz0 _
  have hsz : (DataW.weightsEach Try.prog (Try.f9.params.toList ++ Rows.aggOrdersSpec.plain.varTypes Try.prog) (ds ++ gs)).all (· ≤ reachBytes) = true := hsz0
  have hval : ∀ (j : Nat) t v, Try.f9.params[j]? = some t → args[j]? = some v → Value.okWide Try.prog W .any base t v := hval0
  have hW' := hW
  obtain ⟨p, q, hA0, hV, rfl, hfz, hnd⟩ := hW
  have hA : DataW.TrodAll enc Try.prog W 0 (fun _ => true) true Try.f9.params.toList args.toList ds p := hA0
  have hA1 := hA
  have hR := readable
  rw [Try.params9] at hA hA1 hval hsz hR
  obtain ⟨rfl, rfl⟩ := trodVars_none hV
  have hlt : ∀ x ∈ p, x.block < W.heap.size := fun x hx => hW'.lt x (by simpa using hx)
  clear hA0 hval0 hsz0
  obtain ⟨v0, vs0, d0, ds0, p0, q0, hargs, rfl, hp0, h0, r0⟩ := trodAll_cons hA
  obtain ⟨v1, vs1, d1, ds1, p1, q1, rfl, rfl, hp1, h1, r1⟩ := trodAll_cons r0
  obtain ⟨rfl, rfl, _⟩ := trodAll_nil r1
  obtain rfl : args = #[v0, v1] := by cases args; simpa using hargs
  obtain ⟨Al, nl, cl, rfl⟩ := okWide_slice Try.underlying28 (hval 0 28 v0 rfl rfl)
  obtain ⟨zsl, hzl, hnl⟩ := ints_at_arg Try.underlying28 Try.underlying2 cellsInt h0
  obtain ⟨Am, nm, cm, rfl⟩ := okWide_slice Try.underlying28 (hval 1 28 v1 rfl rfl)
  obtain ⟨zsm, hzm, hnm⟩ := ints_at_arg Try.underlying28 Try.underlying2 cellsInt h1
  refine (law_orders Al nl cl Am nm cm zsl zsm W hzl hzm (ints_none Try.underlying28 Try.underlying2 cellsInt h0) (ints_none Try.underlying28 Try.underlying2 cellsInt h1) (by simp only [maxLen] at hnl; omega) (by simp only [maxLen] at hnm; omega)).mono fun e W' ⟨he, bel⟩ => ?_
  subst he
  exact ⟨_, rfl, _, _, _, [], p, [], hW', trodAll_mk1 (shut_bool Try.underlying4 _), trodAll_below laid bel _ _ _ _ hR hA1 hlt, rfl, bel.frame _, fun h => by cases h⟩
theorem over : Rows.aggOrdersRow.holds Try.pinned (OpenSpec.ofChange Rows.aggOrdersSpec) :=
  OpenClaim.holds_of_wide 9 Try.f9 rfl rfl rfl rfl rfl rfl rfl ⟨rfl, rfl, rfl, rfl, rfl⟩ rfl rfl rfl rfl rfl (by kernel_rfl) Try.func9 (by kernel_rfl)
    (of_decide_eq_true (by kernel_rfl)) (by unfold Func.isWrapper; first | (rw [if_pos (by decide +kernel)]; kernel_rfl) | (rw [if_neg (by decide +kernel)]; exact ⟨rfl, rfl⟩))
    (fun os started H enc _ => lifted os started H enc)
theorem proved : Rows.AggOrdersSaid := over
#print axioms proved
end Go.Proofs.Ytikacbfpeegcdaa.aggOrders
namespace Go.Proofs.Ytikacbfpeegcdaa
/-- The row, under a short name, for the claim. -/
theorem aggOrders_holds : Rows.AggOrdersSaid := aggOrders.proved
end Go.Proofs.Ytikacbfpeegcdaa
