/- AggRight: for every aggregate the law answers true, and the aggregate reads as it did. No condition beyond the row's own. -/
import Derived.Test.YtikacbfpeegcdaaRows
import Derived.Test.YtikacbfpeegcdaaAggR
import Derived.ProofKit
import Derived.OpenShut
import Derived.ShutString
import Derived.ChangeOld
import Derived.SizedLaws
import Derived.Lib.SmallJoins
namespace Go.Proofs.Ytikacbfpeegcdaa.aggRight
open Go.ChangeShapes Go.WideShapes Go.ChangeAt Go.RowKit Go.Joins
set_option linter.unusedVariables false
theorem own : ownKnob Try.prog.godebug = none := by kernel_rfl
theorem cellsOf : Try.prog.cellsOf 26 = 4 := by kernel_rfl
theorem laid : laidOutB Try.prog = true := by kernel_rfl
theorem readable : Try.prog.readableRec 26 = true := by kernel_rfl
theorem inTypes : 26 < Try.prog.types.size := of_decide_eq_true (by kernel_rfl)
set_option maxRecDepth 100000 in
theorem lifted (os : Os) (started : os.Started) (H : Type) (enc : TypeId × Value → H) :
    ReturnsInHanded {} Try.checked os 4 .any (Rows.aggRightSpec.pre6 enc Try.prog Try.f4 Rows.aggRightRow.domain false) (Rows.aggRightSpec.post enc Try.prog Try.f4 false true false false) := by
  refine returnsInHanded_of_change_sized (C := Try.checked) own started (by kernel_rfl) Try.func4
    (ChangeSpec.witness6 (enc := enc) (C := Try.checked) false ⟨#[], #[.agg #[.int .i64 0, .int .i64 0, .int .i64 0, .int .i64 0]], []⟩ 8 (by kernel_rfl) (by kernel_rfl) (by kernel_rfl) (by kernel_rfl)) ?_
  intro W base args ds gs before hval0 hW hcnd hsz0 _
  have hval : ∀ (j : Nat) t v, Try.f4.params[j]? = some t → args[j]? = some v → Value.okWide Try.prog W .any base t v := hval0
  have hW' := hW
  obtain ⟨p, q, hA0, hV, rfl, hfz, hnd⟩ := hW
  have hA : DataW.TrodAll enc Try.prog W 0 (fun _ => true) true Try.f4.params.toList args.toList ds p := hA0
  rw [Try.params4] at hA hval
  obtain ⟨v0, d0, rfl, rfl, h0⟩ := trodAll_one hA
  obtain ⟨rfl, rfl⟩ := trodVars_none hV
  clear hA0 hval0 hsz0
  obtain ⟨c0, c1, c2, c3, y0, y1, y2, y3, m, rfl, rfl, rfl, hy0, hy1, hy2, hy3⟩ := open_agg4 Try.underlying26 (by kernel_rfl) cellsOf (hval 0 26 v0 rfl rfl) h0
  obtain ⟨c, e0, _, wc⟩ := DataW.trod_int Try.underlying2 hy0
  obtain ⟨s, e1, _, ws⟩ := DataW.trod_int Try.underlying2 hy1
  obtain ⟨mi, e2, _, wmi⟩ := DataW.trod_int Try.underlying2 hy2
  obtain ⟨ma, e3, _, wma⟩ := DataW.trod_int Try.underlying2 hy3
  simp only [List.cons.injEq, and_true] at e0 e1 e2 e3
  subst e0 e1 e2 e3
  refine (law_right c s mi ma (bounds_i64 wc) (bounds_i64 ws) (bounds_i64 wmi) (bounds_i64 wma) W).mono fun e W' ⟨he, bel⟩ => ?_
  subst he
  have hlt : ∀ x ∈ (y0.2 ++ (y1.2 ++ (y2.2 ++ y3.2))), x.block < W.heap.size := fun x hx => hW'.lt x (by simpa using hx)
  exact ⟨_, rfl, _, _, _, [], _, [], hW', trodAll_mk1 (shut_bool Try.underlying4 _), trodAll_mk1 (Below.trod laid readable inTypes h0 bel hlt), rfl, bel.frame _, fun h => by cases h⟩
theorem over : Rows.aggRightRow.holds Try.pinned (OpenSpec.ofChange Rows.aggRightSpec) :=
  OpenClaim.holds_of_wide 4 Try.f4 rfl rfl rfl rfl rfl rfl rfl ⟨rfl, rfl, rfl, rfl, rfl⟩ rfl rfl rfl rfl rfl (by kernel_rfl) Try.func4 (by kernel_rfl)
    (of_decide_eq_true (by kernel_rfl)) (by unfold Func.isWrapper; first | (rw [if_pos (by decide +kernel)]; kernel_rfl) | (rw [if_neg (by decide +kernel)]; exact ⟨rfl, rfl⟩))
    (fun os started H enc _ => lifted os started H enc)
theorem proved : Rows.AggRightSaid := over
#print axioms proved
end Go.Proofs.Ytikacbfpeegcdaa.aggRight
namespace Go.Proofs.Ytikacbfpeegcdaa
/-- The row, under a short name, for the claim. -/
theorem aggRight_holds : Rows.AggRightSaid := aggRight.proved
end Go.Proofs.Ytikacbfpeegcdaa
