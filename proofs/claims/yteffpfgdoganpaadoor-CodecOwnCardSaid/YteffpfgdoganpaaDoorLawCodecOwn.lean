/- CodecOwn: for every request, response, place and byte the law answers true. No condition beyond the row's own; the card ties errors.errorType to the program's text. -/
import Derived.Test.YteffpfgdoganpaaDoorTied
import Derived.Test.YteffpfgdoganpaaDoorCards
import Derived.Test.YteffpfgdoganpaaDoorCOwn
import Derived.Test.YteffpfgdoganpaaDoorCOpen
namespace Go.Proofs.YteffpfgdoganpaaDoor.codecOwn
open Go.ChangeShapes Go.WideShapes Go.ChangeAt Go.RowKit Go.Joins
open Go.ChangeMaps (open_string shut_string)
set_option linter.unusedVariables false
theorem own : ownKnob Tryd.prog.godebug = none := by kernel_rfl
theorem laid : laidOutB Tryd.prog = true := by kernel_rfl
theorem readable : (Tryd.f8.params.toList.all fun t => Tryd.prog.readableRec t && decide (t < Tryd.prog.types.size)) = true := by kernel_rfl
set_option maxRecDepth 100000 in
theorem lifted (os : Os) (started : os.Started) (H : Type) (enc : TypeId × Value → H) :
    ReturnsInHanded {} Tryd.checked os 8 .any (fun w args => (Rows.codecOwnSpec.pre enc Tryd.prog Tryd.f8 Rows.codecOwnRow.domain false w args ∧ laidMetH Tryd.prog [("errors.errorType", Rows.laid_errors_errorType)] w) ∧ sizedMet enc Tryd.prog Tryd.f8 (OpenSpec.ofChange Rows.codecOwnSpec) false w args) (Rows.codecOwnSpec.post enc Tryd.prog Tryd.f8 false true false false) := by
  refine returnsInHanded_of_change_and (C := Tryd.checked) (X := fun w _ => laidMetH Tryd.prog [("errors.errorType", Rows.laid_errors_errorType)] w) (fun _ _ _ hh h => h.of_heap hh) own started (by kernel_rfl) Tryd.func8
    (ChangeSpec.witness_at (enc := enc) (C := Tryd.checked) (os := os) (X := fun w _ => laidMetH Tryd.prog [("errors.errorType", Rows.laid_errors_errorType)] w) false (laidWorld os) #[.agg #[.int .i64 0, .int .i64 0, .int .i64 0, .slice none 0 0, .int .i64 0, .string ⟨#[]⟩, .int .i64 0, .int .i64 0, .string ⟨#[]⟩, .int .i64 0, .int .i64 0], .agg #[.int .i64 0, .int .i64 0, .int .i64 0, .int .i64 0, .slice none 0 0, .int .i64 0, .int .i64 0, .int .i64 0, .int .i64 0, .int .i64 0, .int .i64 0], .int .i64 0, .int .u8 0] 8 rfl (by kernel_rfl) (by kernel_rfl) (by kernel_rfl) (by kernel_rfl) (by kernel_rfl) (laidWorld_met os _)) ?_
  intro W base args ds gs before hval0 hW hcnd hsz0 hL _
  have hT := handle_of_laid hL
  have hsz : (DataW.weightsEach Tryd.prog (Tryd.f8.params.toList ++ Rows.codecOwnSpec.plain.varTypes Tryd.prog) (ds ++ gs)).all (· ≤ reachBytes) = true := hsz0
  have hval : ∀ (j : Nat) t v, Tryd.f8.params[j]? = some t → args[j]? = some v → Value.okWide Tryd.prog W .any base t v := hval0
  have hW' := hW
  obtain ⟨p, q, hA0, hV, rfl, hfz, hnd⟩ := hW
  have hA : DataW.TrodAll enc Tryd.prog W 0 (fun _ => true) true Tryd.f8.params.toList args.toList ds p := hA0
  have hA1 := hA
  have hR := readable
  rw [Tryd.params8] at hA hA1 hval hsz hR
  obtain ⟨rfl, rfl⟩ := trodVars_none hV
  have hlt : ∀ x ∈ p, x.block < W.heap.size := fun x hx => hW'.lt x (by simpa using hx)
  clear hA0 hval0 hsz0
  obtain ⟨v0, vs0, d0, ds0, p0, q0, hargs, rfl, hp0, h0, r0⟩ := trodAll_cons hA
  obtain ⟨v1, vs1, d1, ds1, p1, q1, rfl, rfl, hp1, h1, r1⟩ := trodAll_cons r0
  obtain ⟨v2, vs2, d2, ds2, p2, q2, rfl, rfl, hp2, h2, r2⟩ := trodAll_cons r1
  obtain ⟨v3, vs3, d3, ds3, p3, q3, rfl, rfl, hp3, h3, r3⟩ := trodAll_cons r2
  obtain ⟨rfl, rfl, _⟩ := trodAll_nil r3
  obtain rfl : args = #[v0, v1, v2, v3] := by cases args; simpa using hargs
  obtain ⟨a, Aa, na, ca, rfl, hla, hra, hia, hma, hBa, hka, hfa, hta⟩ := rq_arg (hval 0 26 v0 rfl rfl) h0
  have hAa : RqA W Aa na a := ⟨hla, hra, hma, hia.ok⟩
  obtain ⟨r, Ar, nr, cr, rfl, hlr, hrr, hir, hmr, hBr, hkr⟩ := rs_arg (hval 1 32 v1 rfl rfl) h1
  have hAr : RsA W Ar nr r := ⟨hlr, hrr, hmr, hir.ok, hir.rows⟩
  obtain ⟨i, rfl, rfl, _, wi⟩ := open_int Tryd.underlying3 (hval 2 3 v2 rfl rfl) h2
  obtain ⟨y, rfl, rfl, _, wy⟩ := open_int Tryd.underlying5 (hval 3 5 v3 rfl rfl) h3
  refine (law_own known_true Aa Ar na ca nr cr a r i y W hT hAa hAr (by have := bounds_u8 wy; omega)).mono fun e W' ⟨he, bel⟩ => ?_
  subst he
  exact ⟨_, rfl, _, _, _, [], p, [], hW', trodAll_mk1 (shut_bool Tryd.underlying4 _), trodAll_below laid bel _ _ _ _ hR hA1 hlt, rfl, bel.frame _, fun h => by cases h⟩
theorem over : Rows.codecOwnRow.holds Tryd.pinned (OpenSpec.ofChange Rows.codecOwnSpec) :=
  OpenClaim.holds_of_wide 8 Tryd.f8 rfl rfl rfl rfl rfl rfl rfl ⟨rfl, rfl, rfl, rfl, rfl⟩ rfl rfl rfl rfl rfl (by kernel_rfl) Tryd.func8 (by kernel_rfl)
    (of_decide_eq_true (by kernel_rfl)) (by unfold Func.isWrapper; first | (rw [if_pos (by decide +kernel)]; kernel_rfl) | (rw [if_neg (by decide +kernel)]; exact ⟨rfl, rfl⟩))
    (fun os started H enc _ => lifted os started H enc)
theorem noStand : (Tryd.f8.params.toList.all fun t => !(Tryd.prog.wantsStandIn t)) = true := by kernel_rfl
theorem proved : Rows.CodecOwnCardSaid :=
  Claim7.holds_tied_plain_at .later [] [.handle] true (true, "dbde39ae187d9fdd10135f2eefe57d1252aa477f52fd6a3890d3d52e3cbc3b01") true
    over (fun _ h => by cases h) (by kernel_rfl) (fun _ h => by cases h) codecOwn_row_tie rfl ⟨rfl, rfl⟩ (by kernel_rfl) rfl
    (fun f fn hf hfn => by
      obtain rfl : f = 8 := Option.some.inj ((show Tryd.prog.funcNamed "spate/spatelaw2.CodecOwn" = some 8 by kernel_rfl).symm.trans hf) |>.symm
      obtain rfl : fn = Tryd.f8 := (Option.some.inj (Tryd.func8.symm.trans hfn)).symm
      exact ⟨by kernel_rfl, fun j t ht => by
        have h := List.all_eq_true.1 noStand t (Array.mem_toList_iff.2 (Array.mem_of_getElem? ht))
        show Tryd.prog.wantsStandIn t = false
        simpa using h⟩)
    (by kernel_rfl)
#print axioms proved
end Go.Proofs.YteffpfgdoganpaaDoor.codecOwn
namespace Go.Proofs.YteffpfgdoganpaaDoor
/-- The row, under a short name, for the claim. -/
theorem codecOwn_holds : Rows.CodecOwnCardSaid := codecOwn.proved
end Go.Proofs.YteffpfgdoganpaaDoor
