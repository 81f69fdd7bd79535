/- What Writers, Frame and Frames told, many of each in hand at one time, is the caller's own; asked again behind their spoiling they tell the same: WireAnswers returns true. No condition beyond the row's own; the input's bulk is at most 1048576; the card ties errors.errorType to the program's text. -/
import Derived.Test.YtdgokebablhoiaaDoorTied
import Derived.Test.YtdgokebablhoiaaDoorCards
import Derived.Deep.DeepHandedRow
import Derived.Test.YtdgokebablhoiaaDoorWAns
import Derived.Test.YtdgokebablhoiaaDoorWRowsB
import Derived.Test.YtdgokebablhoiaaDoorRowWords
namespace Go.Proofs.YtdgokebablhoiaaDoor.wireAnswers
open Go.ChangeShapes Go.WideShapes Go.ChangeAt Go.RowKit Go.Joins
open Go.ChangeMaps (open_string shut_string)
set_option linter.unusedVariables false
theorem own : ownKnob Tryd.prog.godebug = none := by kernel_rfl
theorem laid : laidOutB Tryd.prog = true := by kernel_rfl
theorem readable : (Tryd.f12.params.toList.all fun t => Tryd.prog.readableRec t && decide (t < Tryd.prog.types.size)) = true := by kernel_rfl
theorem cellsRow : Tryd.prog.cellsOf 24 = 1 := by kernel_rfl
theorem cellsByte : Tryd.prog.cellsOf 5 = 1 := by kernel_rfl
theorem reads (os : Os) {H : Type} (enc : TypeId × Value → H) : ∃ places, DataW.whole enc Tryd.prog ((laidWorld os).forCall (fun _ _ => 0) ⟨#[], #[.slice none 0 0, .slice none 0 0], []⟩).memory Tryd.f12.params.toList Rows.wireAnswersSpec.vars false #[.slice none 0 0, .slice none 0 0].toList 8 = some ([.nil, .nil], [], places) :=
  ⟨[], by kernel_rfl⟩
set_option maxRecDepth 100000 in
theorem lifted (os : Os) (started : os.Started) (H : Type) (enc : TypeId × Value → H) (F : Stop.Interp) :
    ReturnsInHanded {} Tryd.checked os 12 .any ((Rows.OpenSpec.upto Rows.wireAnswersSpec).preRow enc Tryd.prog Tryd.f12 Rows.wireAnswersUptoRow.domain false Rows.wireAnswersUptoRow.laid) (((Rows.OpenSpec.upto Rows.wireAnswersSpec).at F).post enc Tryd.prog Tryd.f12 false true false false) := by
  obtain ⟨places, hx⟩ := reads os enc
  refine returnsInHanded_of_row (C := Tryd.checked) (s := Rows.OpenSpec.upto Rows.wireAnswersSpec) own started (by kernel_rfl) Tryd.func12
    (witness_row_at (enc := enc) (C := Tryd.checked) false (laidWorld os) #[.slice none 0 0, .slice none 0 0] rfl (by kernel_rfl) (by kernel_rfl) (by kernel_rfl)
      (OpenSpec.preRow_of_cond 8 hx (by kernel_rfl) (fun k hk => by cases hk; kernel_rfl) (by kernel_rfl) (laidWorld_met os _))) ?_
  intro W base args ds gs before hval0 hW hcnd hcond hsz0 hL hsh _
  have hbd := of_decide_eq_true (hcond _ rfl)
  have hT := handle_of_laid hL
  have hsz : (DataW.weightsEach Tryd.prog (Tryd.f12.params.toList ++ Rows.wireAnswersSpec.plain.varTypes Tryd.prog) (ds ++ gs)).all (· ≤ reachBytes) = true := hsz0
  have hval : ∀ (j : Nat) t v, Tryd.f12.params[j]? = some t → args[j]? = some v → Value.okWide Tryd.prog W .any base t v := hval0
  have hW' := hW
  obtain ⟨p, q, hA0, hV, rfl, hfz, hnd⟩ := hW
  have hA : DataW.TrodAll enc Tryd.prog W 0 (fun _ => true) true Tryd.f12.params.toList args.toList ds p := hA0
  have hA1 := hA
  have hR := readable
  rw [Tryd.params12] at hA hA1 hval hsz hR
  obtain ⟨rfl, rfl⟩ := trodVars_none hV
  have hlt : ∀ x ∈ p, x.block < W.heap.size := fun x hx => hW'.lt x (by simpa using hx)
  clear hA0 hval0 hsz0
  obtain ⟨v0, vs0, d0, ds0, p0, q0, hargs, rfl, hp0, h0, r0⟩ := trodAll_cons hA
  obtain ⟨v1, vs1, d1, ds1, p1, q1, rfl, rfl, hp1, h1, r1⟩ := trodAll_cons r0
  obtain ⟨rfl, rfl, _⟩ := trodAll_nil r1
  obtain rfl : args = #[v0, v1] := by cases args; simpa using hargs
  have hbl : Rows.uptoBulk d0 ≤ 1048576 := Nat.le_trans (bulk_part (by simp)) hbd
  have hbb : Rows.uptoBulk d1 ≤ 1048576 := Nat.le_trans (bulk_part (by simp)) hbd
  obtain ⟨Al, nl, cl, rfl⟩ := okWide_slice Tryd.underlying22 (hval 0 22 v0 rfl rfl)
  obtain ⟨csl, hll, hzl, hol, hsl, hnl, _⟩ := calls_at_arg h0
  obtain ⟨Ab, nb, cb, rfl⟩ := okWide_slice Tryd.underlying58 (hval 1 58 v1 rfl rfl)
  obtain ⟨rsb, hlb, hzb, hob, hkb, hcb⟩ := rows_at_bulk Tryd.underlying58 cellsRow Tryd.underlying24 Tryd.underlying5 cellsByte h1
  refine (law_answers Al Ab nl cl nb cb csl rsb W hll hzl hol (fun x hx => Nat.le_trans (hsl x hx) hbl) (Nat.le_trans hnl hbl) hlb hzb hob (fun b hb => Nat.le_trans (hkb b hb) hbb)).mono fun e W' ⟨he, bel⟩ => ?_
  subst he
  exact ⟨_, rfl, _, _, _, [], p, [], hW', trodAll_mk1 (shut_bool Tryd.underlying4 _), trodAll_below laid bel _ _ _ _ hR hA1 hlt, rfl, bel.frame _, fun h => by cases h⟩
theorem over : Rows.wireAnswersUptoRow.holds Tryd.pinned (Rows.OpenSpec.upto Rows.wireAnswersSpec) :=
  OpenClaim.holds_of_cond 12 Tryd.f12 rfl rfl rfl rfl rfl rfl rfl ⟨rfl, rfl, rfl, rfl, rfl⟩ rfl rfl rfl rfl rfl (by kernel_rfl) Tryd.func12 (by kernel_rfl)
    (of_decide_eq_true (by kernel_rfl)) (by unfold Func.isWrapper; first | (rw [if_pos (by decide +kernel)]; kernel_rfl) | (rw [if_neg (by decide +kernel)]; exact ⟨rfl, rfl⟩))
    (fun os started H enc _ F => by rw [OpenClaim.pre_eq_preRow]; exact lifted os started H enc F)
theorem noStand : (Tryd.f12.params.toList.all fun t => !(Tryd.prog.wantsStandIn t)) = true := by kernel_rfl
theorem proved : Rows.WireAnswersUptoCardSaid :=
  Claim7.holds_tied_plain_at .later [] [.handle] true (true, "ee94de4dc58d34873838f65bee0a26f67287d7493605663a09d1a92110e5868f") true
    over (fun _ h => by cases h) (by kernel_rfl) (fun _ h => by cases h) wireAnswersUpto_row_tie rfl ⟨rfl, rfl⟩ (by kernel_rfl) rfl
    (fun f fn hf hfn => by
      obtain rfl : f = 12 := Option.some.inj ((show Tryd.prog.funcNamed "spate/spatelaw1.WireAnswers" = some 12 by kernel_rfl).symm.trans hf) |>.symm
      obtain rfl : fn = Tryd.f12 := (Option.some.inj (Tryd.func12.symm.trans hfn)).symm
      exact ⟨by kernel_rfl, fun j t ht => by
        have h := List.all_eq_true.1 noStand t (Array.mem_toList_iff.2 (Array.mem_of_getElem? ht))
        show Tryd.prog.wantsStandIn t = false
        simpa using h⟩)
    (by kernel_rfl)
#print axioms proved
end Go.Proofs.YtdgokebablhoiaaDoor.wireAnswers
namespace Go.Proofs.YtdgokebablhoiaaDoor
/-- The row, under a short name, for the claim. -/
theorem wireAnswers_holds : Rows.WireAnswersUptoCardSaid := wireAnswers.proved
end Go.Proofs.YtdgokebablhoiaaDoor
