/- What Writers, Frame and Frames told, many of each in hand at one time, is the caller's own; asked again behind their spoiling they tell the same: WireAnswers returns true. No condition beyond the row's own; the card ties errors.errorType to the program's text. -/
import Derived.Test.YtdgokebablhoiaaDoorTied
import Derived.Test.YtdgokebablhoiaaDoorCards
import Derived.Test.YtdgokebablhoiaaDoorWAns
import Derived.Test.YtdgokebablhoiaaDoorWRowsB
import Derived.Test.YtdgokebablhoiaaDoorRowWords
namespace Go.Proofs.YtdgokebablhoiaaDoor.wireAnswers
open Go.ChangeShapes Go.WideShapes Go.ChangeAt Go.RowKit Go.Joins
open Go.ChangeMaps (open_string shut_string)
set_option linter.unusedVariables false
theorem own : ownKnob Tryd.prog.godebug = none := by kernel_rfl
theorem laid : laidOutB Tryd.prog = true := by kernel_rfl
theorem readable : (Tryd.f12.params.toList.all fun t => Tryd.prog.readableRec t && decide (t < Tryd.prog.types.size)) = true := by kernel_rfl
theorem cellsRow : Tryd.prog.cellsOf 24 = 1 := by kernel_rfl
theorem cellsByte : Tryd.prog.cellsOf 5 = 1 := by kernel_rfl
set_option maxRecDepth 100000 in
theorem lifted (os : Os) (started : os.Started) (H : Type) (enc : TypeId × Value → H) :
    ReturnsInHanded {} Tryd.checked os 12 .any (fun w args => (Rows.wireAnswersSpec.pre enc Tryd.prog Tryd.f12 Rows.wireAnswersRow.domain false w args ∧ laidMetH Tryd.prog [("errors.errorType", Rows.laid_errors_errorType)] w) ∧ sizedMet enc Tryd.prog Tryd.f12 (OpenSpec.ofChange Rows.wireAnswersSpec) false w args) (Rows.wireAnswersSpec.post enc Tryd.prog Tryd.f12 false true false false) := by
  refine returnsInHanded_of_change_and (C := Tryd.checked) (X := fun w _ => laidMetH Tryd.prog [("errors.errorType", Rows.laid_errors_errorType)] w) (fun _ _ _ hh h => h.of_heap hh) own started (by kernel_rfl) Tryd.func12
    (ChangeSpec.witness_at (enc := enc) (C := Tryd.checked) (os := os) (X := fun w _ => laidMetH Tryd.prog [("errors.errorType", Rows.laid_errors_errorType)] w) false (laidWorld os) #[.slice none 0 0, .slice none 0 0] 8 rfl (by kernel_rfl) (by kernel_rfl) (by kernel_rfl) (by kernel_rfl) (by kernel_rfl) (laidWorld_met os _)) ?_
  intro W base args ds gs before hval0 hW hcnd hsz0 hL _
  have hT := handle_of_laid hL
  have hsz : (DataW.weightsEach Tryd.prog (Tryd.f12.params.toList ++ Rows.wireAnswersSpec.plain.varTypes Tryd.prog) (ds ++ gs)).all (· ≤ reachBytes) = true := hsz0
  have hval : ∀ (j : Nat) t v, Tryd.f12.params[j]? = some t → args[j]? = some v → Value.okWide Tryd.prog W .any base t v := hval0
  have hW' := hW
  obtain ⟨p, q, hA0, hV, rfl, hfz, hnd⟩ := hW
  have hA : DataW.TrodAll enc Tryd.prog W 0 (fun _ => true) true Tryd.f12.params.toList args.toList ds p := hA0
  have hA1 := hA
  have hR := readable
  rw [Tryd.params12] at hA hA1 hval hsz hR
  obtain ⟨rfl, rfl⟩ := trodVars_none hV
  have hlt : ∀ x ∈ p, x.block < W.heap.size := fun x hx => hW'.lt x (by simpa using hx)
  clear hA0 hval0 hsz0
  obtain ⟨v0, vs0, d0, ds0, p0, q0, hargs, rfl, hp0, h0, r0⟩ := trodAll_cons hA
  obtain ⟨v1, vs1, d1, ds1, p1, q1, rfl, rfl, hp1, h1, r1⟩ := trodAll_cons r0
  obtain ⟨rfl, rfl, _⟩ := trodAll_nil r1
  obtain rfl : args = #[v0, v1] := by cases args; simpa using hargs
  obtain ⟨Al, nl, cl, rfl⟩ := okWide_slice Tryd.underlying22 (hval 0 22 v0 rfl rfl)
  obtain ⟨csl, hll, hzl, hol, hsl, hnl, _, hSl, hMl⟩ := calls_at_arg h0
  have hSl := hSl 140737488351232 (sized_weights (j := 0) hsz rfl rfl)
  obtain ⟨Ab, nb, cb, rfl⟩ := okWide_slice Tryd.underlying58 (hval 1 58 v1 rfl rfl)
  obtain ⟨rsb, hlb, hzb, hob, hkb, hcb, hSb⟩ := rows_at_bulk Tryd.underlying58 cellsRow Tryd.underlying24 Tryd.underlying5 cellsByte h1
  have hSb := hSb (by kernel_rfl) 140737488351232 (sized_weights (j := 1) hsz rfl rfl)
  refine (law_answers Al Ab nl cl nb cb csl rsb W hll hzl hol hSl hMl hlb hzb hob hSb).mono fun e W' ⟨he, bel⟩ => ?_
  subst he
  exact ⟨_, rfl, _, _, _, [], p, [], hW', trodAll_mk1 (shut_bool Tryd.underlying4 _), trodAll_below laid bel _ _ _ _ hR hA1 hlt, rfl, bel.frame _, fun h => by cases h⟩
theorem over : Rows.wireAnswersRow.holds Tryd.pinned (OpenSpec.ofChange Rows.wireAnswersSpec) :=
  OpenClaim.holds_of_wide 12 Tryd.f12 rfl rfl rfl rfl rfl rfl rfl ⟨rfl, rfl, rfl, rfl, rfl⟩ rfl rfl rfl rfl rfl (by kernel_rfl) Tryd.func12 (by kernel_rfl)
    (of_decide_eq_true (by kernel_rfl)) (by unfold Func.isWrapper; first | (rw [if_pos (by decide +kernel)]; kernel_rfl) | (rw [if_neg (by decide +kernel)]; exact ⟨rfl, rfl⟩))
    (fun os started H enc _ => lifted os started H enc)
theorem noStand : (Tryd.f12.params.toList.all fun t => !(Tryd.prog.wantsStandIn t)) = true := by kernel_rfl
theorem proved : Rows.WireAnswersCardSaid :=
  Claim7.holds_tied_plain_at .later [] [.handle] true (true, "ee94de4dc58d34873838f65bee0a26f67287d7493605663a09d1a92110e5868f") true
    over (fun _ h => by cases h) (by kernel_rfl) (fun _ h => by cases h) wireAnswers_row_tie rfl ⟨rfl, rfl⟩ (by kernel_rfl) rfl
    (fun f fn hf hfn => by
      obtain rfl : f = 12 := Option.some.inj ((show Tryd.prog.funcNamed "spate/spatelaw1.WireAnswers" = some 12 by kernel_rfl).symm.trans hf) |>.symm
      obtain rfl : fn = Tryd.f12 := (Option.some.inj (Tryd.func12.symm.trans hfn)).symm
      exact ⟨by kernel_rfl, fun j t ht => by
        have h := List.all_eq_true.1 noStand t (Array.mem_toList_iff.2 (Array.mem_of_getElem? ht))
        show Tryd.prog.wantsStandIn t = false
        simpa using h⟩)
    (by kernel_rfl)
#print axioms proved
end Go.Proofs.YtdgokebablhoiaaDoor.wireAnswers
namespace Go.Proofs.YtdgokebablhoiaaDoor
/-- The row, under a short name, for the claim. -/
theorem wireAnswers_holds : Rows.WireAnswersCardSaid := wireAnswers.proved
end Go.Proofs.YtdgokebablhoiaaDoor
