/- AggLeast: for every row of int64s, of ints, of floats the law answers true; the rows read as they did. No condition beyond the row's own. -/
import Derived.Test.YtikacbfpeegcdaaRows
import Derived.Test.YtikacbfpeegcdaaAggLeast
import Derived.Test.YtikacbfpeegcdaaAggRow3
namespace Go.Proofs.Ytikacbfpeegcdaa.aggLeast
open Go.ChangeShapes Go.WideShapes Go.ChangeAt Go.RowKit Go.Joins
open Go.ChangeMaps (open_string shut_string)
set_option linter.unusedVariables false
theorem own : ownKnob Try.prog.godebug = none := by kernel_rfl
theorem laid : laidOutB Try.prog = true := by kernel_rfl
theorem readable : (Try.f7.params.toList.all fun t => Try.prog.readableRec t && decide (t < Try.prog.types.size)) = true := by kernel_rfl
theorem cellsFloat : Try.prog.cellsOf 39 = 1 := by kernel_rfl
theorem cellsInt : Try.prog.cellsOf 2 = 1 := by kernel_rfl
theorem cellsInt2 : Try.prog.cellsOf 3 = 1 := by kernel_rfl
set_option maxRecDepth 100000 in
theorem lifted (os : Os) (started : os.Started) (H : Type) (enc : TypeId × Value → H) :
    ReturnsInHanded {} Try.checked os 7 .any (Rows.aggLeastSpec.pre6 enc Try.prog Try.f7 Rows.aggLeastRow.domain false) (Rows.aggLeastSpec.post enc Try.prog Try.f7 false true false false) := by
  refine returnsInHanded_of_change_sized (C := Try.checked) own started (by kernel_rfl) Try.func7
    (ChangeSpec.witness6 (enc := enc) (C := Try.checked) false ⟨#[], #[.slice none 0 0, .slice none 0 0, .slice none 0 0], []⟩ 8 (by kernel_rfl) (by kernel_rfl) (by kernel_rfl) (by kernel_rfl)) ?_
  intro W base args ds gs before hval0 hW hcnd hsz0 _
  have hsz : (DataW.weightsEach Try.prog (Try.f7.params.toList ++ Rows.aggLeastSpec.plain.varTypes Try.prog) (ds ++ gs)).all (· ≤ reachBytes) = true := hsz0
  have hval : ∀ (j : Nat) t v, Try.f7.params[j]? = some t → args[j]? = some v → Value.okWide Try.prog W .any base t v := hval0
  have hW' := hW
  obtain ⟨p, q, hA0, hV, rfl, hfz, hnd⟩ := hW
  have hA : DataW.TrodAll enc Try.prog W 0 (fun _ => true) true Try.f7.params.toList args.toList ds p := hA0
  have hA1 := hA
  have hR := readable
  rw [Try.params7] at hA hA1 hval hsz hR
  obtain ⟨rfl, rfl⟩ := trodVars_none hV
  have hlt : ∀ x ∈ p, x.block < W.heap.size := fun x hx => hW'.lt x (by simpa using hx)
  clear hA0 hval0 hsz0
  obtain ⟨v0, vs0, d0, ds0, p0, q0, hargs, rfl, hp0, h0, r0⟩ := trodAll_cons hA
  obtain ⟨v1, vs1, d1, ds1, p1, q1, rfl, rfl, hp1, h1, r1⟩ := trodAll_cons r0
  obtain ⟨v2, vs2, d2, ds2, p2, q2, rfl, rfl, hp2, h2, r2⟩ := trodAll_cons r1
  obtain ⟨rfl, rfl, _⟩ := trodAll_nil r2
  obtain rfl : args = #[v0, v1, v2] := by cases args; simpa using hargs
  obtain ⟨Al, nl, cl, rfl⟩ := okWide_slice Try.underlying28 (hval 0 28 v0 rfl rfl)
  obtain ⟨zsl, hzl, hnl⟩ := ints_at_arg Try.underlying28 Try.underlying2 cellsInt h0
  obtain ⟨As, ns, cs, rfl⟩ := okWide_slice Try.underlying37 (hval 1 37 v1 rfl rfl)
  obtain ⟨zss, hzs, hns⟩ := ints_at_arg Try.underlying37 Try.underlying3 cellsInt2 h1
  obtain ⟨Af, nf, cf, rfl⟩ := okWide_slice Try.underlying38 (hval 2 38 v2 rfl rfl)
  obtain ⟨fsf, hlf, hzf, hnf⟩ := floats_at_arg Try.underlying38 Try.underlying39 cellsFloat h2
  refine (law_least Al nl cl As ns cs Af nf cf zsl zss fsf W hzl.len hzs.len hlf hzl.cells hzs.cells hzf (by simp only [maxLen] at hnl; omega) (by simp only [maxLen] at hns; omega) (by simp only [maxLen] at hnf; omega)).mono fun e W' ⟨he, bel⟩ => ?_
  subst he
  exact ⟨_, rfl, _, _, _, [], p, [], hW', trodAll_mk1 (shut_bool Try.underlying4 _), trodAll_below laid bel _ _ _ _ hR hA1 hlt, rfl, bel.frame _, fun h => by cases h⟩
theorem over : Rows.aggLeastRow.holds Try.pinned (OpenSpec.ofChange Rows.aggLeastSpec) :=
  OpenClaim.holds_of_wide 7 Try.f7 rfl rfl rfl rfl rfl rfl rfl ⟨rfl, rfl, rfl, rfl, rfl⟩ rfl rfl rfl rfl rfl (by kernel_rfl) Try.func7 (by kernel_rfl)
    (of_decide_eq_true (by kernel_rfl)) (by unfold Func.isWrapper; first | (rw [if_pos (by decide +kernel)]; kernel_rfl) | (rw [if_neg (by decide +kernel)]; exact ⟨rfl, rfl⟩))
    (fun os started H enc _ => lifted os started H enc)
theorem proved : Rows.AggLeastSaid := over
#print axioms proved
end Go.Proofs.Ytikacbfpeegcdaa.aggLeast
namespace Go.Proofs.Ytikacbfpeegcdaa
/-- The row, under a short name, for the claim. -/
theorem aggLeast_holds : Rows.AggLeastSaid := aggLeast.proved
end Go.Proofs.Ytikacbfpeegcdaa
