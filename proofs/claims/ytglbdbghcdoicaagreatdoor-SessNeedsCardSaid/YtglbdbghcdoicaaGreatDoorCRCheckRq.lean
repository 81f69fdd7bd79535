/- The document's CheckRequest: the walk. -/
import Derived.Test.YtglbdbghcdoicaaGreatDoorCCheckRq
namespace Go.Proofs.YtglbdbghcdoicaaGreatDoor
open Go.RowKit

set_option maxHeartbeats 4000000 in
set_option maxRecDepth 100000 in
theorem unused_any (A : Option Addr) (n c : Nat) (q : Rq) (W : World) (hl : q.cs.length = n) :
    Calls Tryz.prog 122 #[.agg (rqC (.slice A n c) q)] W fun e w' => e = .returned (.bool (decide (unusedP q))) ∧ Below W.heap.size W w' := by
  have e1 : ∀ w : World, (binOp .neq 41 (.agg #[.int .i64 q.frm.view, .string q.frm.key, .int .i64 q.frm.start]) (.agg #[.int .i64 0, .string ⟨#[]⟩, .int .i64 0])).run Tryz.prog w = .ok (.bool (!decide (q.frm = cell0))) w := neqCell q.frm cell0
  have e2 : ∀ w : World, (binOp .neq 41 (.agg #[.int .i64 q.too.view, .string q.too.key, .int .i64 q.too.start]) (.agg #[.int .i64 0, .string ⟨#[]⟩, .int .i64 0])).run Tryz.prog w = .ok (.bool (!decide (q.too = cell0))) w := neqCell q.too cell0
  have HL := Lib.hid (show (q.cs ≠ [] ↔ 0 < n) by rw [← hl, List.length_pos_iff])
  have HB := Lib.hid (show Below W.heap.size W ((W.alloc (.cells (rqC (.slice A n c) q) 43)).alloc (.cells #[.int .i64 0, .string ⟨#[]⟩, .int .i64 0] 41)) from ((Below.refl _ _).alloc (Nat.le_refl _) _).alloc (by simp) _)
  clear hl
  go_enter Tryz.func122, Tryz.ntmps122
  go_wp2
  all_goals go_ret
  all_goals
    refine ⟨ret_bool ?_, HB.out⟩
    rw [Bool.eq_iff_iff]
    simp only [unusedP, decide_eq_true_eq, HL.out]
    clear HL HB e1 e2
    generalize q.kind = k at *
    generalize q.limit = l at *
    generalize q.epoch = ep at *
    by_cases hf : q.frm = cell0 <;> by_cases ht : q.too = cell0 <;> simp_all <;> omega
set_option maxHeartbeats 4000000 in
set_option maxRecDepth 100000 in
theorem rcheck_bare (A : Option Addr) (n c : Nat) (q : Rq) (hk : q.kind = 4 ∨ q.kind = 7) (W : World) (hl : q.cs.length = n) (hr : CellsRd W A q.cs) (hn : n ≤ 9223372036854775807) :
    Calls Tryz.prog 79 #[.agg (rqC (.slice A n c) q)] W fun e w' => e = .returned (.int .i64 (checkRq q)) ∧ Below W.heap.size W w' := by
  have CU := Lib.hid (fun W' => unused_any A n c q W' hl)
  have HB1 := Lib.hid (show Below W.heap.size W (W.alloc (.cells (rqC (.slice A n c) q) 43)) from (Below.refl _ _).alloc (Nat.le_refl _) _)
  have HK1 := Lib.hid (show Blk (W.alloc (.cells (rqC (.slice A n c) q) 43)) W.heap.size 43 (rqC (.slice A n c) q) from Blk.new _ _ _)
  have HK := Lib.hid hk
  have HR := Lib.hid hr
  have HL := Lib.hid hl
  have HKR := Lib.hid (show 1 ≤ q.kind ∧ q.kind ≤ 7 by omega)
  have hk1 : 1 ≤ q.kind := by omega
  have hk7 : q.kind ≤ 7 := by omega
  have k1 : (q.kind == 1) = false := by simp; omega
  have k2 : (q.kind == 2) = false := by simp; omega
  have k3 : (q.kind != 3) = true := by simp; omega
  have k5 : (q.kind == 5) = false := by simp; omega
  have k6 : (q.kind == 6) = false := by simp; omega
  clear hk hl hr
  go_enter Tryz.func79, Tryz.ntmps79
  go_wp2_with fail
  go_at_call 121; (with_reducible refine (rin_any _ _).mono ?_); rintro e w1 ⟨rfl, rfl⟩
  go_wp2_with fail
  · go_at_call 122; (with_reducible refine (CU.out _).mono ?_); rintro e w2 ⟨rfl, hb⟩
    have HG1 := Lib.hid (show smallP q.id = true by assumption)
    have HB2 := Lib.hid (HB1.out.trans (hb.mono HB1.out.size))
    have HK2 := Lib.hid (HK1.out.kept hb)
    have hlt := HK2.out.lt
    have hc := HK2.out.cell
    clear hb
    go_wp2_with fail
    · have HU := Lib.hid (show unusedP q by assumption)
      go_ret
      exact ⟨ret_int (checkRq_bad HKR.out (.inr (.inl HU.out))).symm, HB2.out⟩
    · go_at_call 121; (with_reducible refine (rin_any _ _).mono ?_); rintro e w3 ⟨rfl, rfl⟩
      have HU := Lib.hid (show ¬ unusedP q by assumption)
      by_cases hg3 : smallP q.epoch = true
      · have HG3 := Lib.hid hg3
        have hg4 : (!smallP q.epoch) = false := by rw [hg3]; rfl
        clear hg3
        have HS := Lib.hid (show sameRq q ⟨q.kind, q.id, 0, [], cell0, cell0, 0⟩ from Classical.byContradiction (fun h => HU.out ((unused_bare HK.out).2 h)))
        have HSP := Lib.hid (good_bare HK.out HG1.out HS.out HG3.out)
        have hn0 : n = 0 := by have := (same_bare_iff.1 HS.out).2.1; have h := HL.out; rw [this] at h; exact h.symm
        subst hn0
        go_wp2
        refine wp_loop_rounds 1 ?_
        rw [rounds_succ]
        go_wp2
        go_ret
        exact ⟨ret_int HSP.out.symm, HB2.out⟩
      · have hg4 : (!smallP q.epoch) = true := by simpa using hg3
        have HG3 := Lib.hid (show smallP q.epoch = false by simpa using hg3)
        clear hg3
        go_wp2
        go_ret
        exact ⟨ret_int (checkRq_bad HKR.out (.inr (.inr HG3.out))).symm, HB2.out⟩
  · have HG1 := Lib.hid (show smallP q.id = false by simpa using (show ¬ smallP q.id = true by assumption))
    go_ret
    exact ⟨ret_int (checkRq_bad HKR.out (.inl HG1.out)).symm, HB1.out⟩
set_option maxHeartbeats 4000000 in
set_option maxRecDepth 100000 in
theorem rcheck_epoch (A : Option Addr) (n c : Nat) (q : Rq) (hk : q.kind = 5 ∨ q.kind = 6) (W : World) (hl : q.cs.length = n) (hr : CellsRd W A q.cs) (hn : n ≤ 9223372036854775807) :
    Calls Tryz.prog 79 #[.agg (rqC (.slice A n c) q)] W fun e w' => e = .returned (.int .i64 (checkRq q)) ∧ Below W.heap.size W w' := by
  have CU := Lib.hid (fun W' => unused_any A n c q W' hl)
  have HB1 := Lib.hid (show Below W.heap.size W (W.alloc (.cells (rqC (.slice A n c) q) 43)) from (Below.refl _ _).alloc (Nat.le_refl _) _)
  have HK1 := Lib.hid (show Blk (W.alloc (.cells (rqC (.slice A n c) q) 43)) W.heap.size 43 (rqC (.slice A n c) q) from Blk.new _ _ _)
  have HK := Lib.hid hk
  have HR := Lib.hid hr
  have HL := Lib.hid hl
  have HKR := Lib.hid (show 1 ≤ q.kind ∧ q.kind ≤ 7 by omega)
  have hk1 : 1 ≤ q.kind := by omega
  have hk7 : q.kind ≤ 7 := by omega
  have k1 : (q.kind == 1) = false := by simp; omega
  have k2 : (q.kind == 2) = false := by simp; omega
  have k3 : (q.kind != 3) = true := by simp; omega
  clear hk hl hr
  go_enter Tryz.func79, Tryz.ntmps79
  go_wp2_with fail
  go_at_call 121; (with_reducible refine (rin_any _ _).mono ?_); rintro e w1 ⟨rfl, rfl⟩
  go_wp2_with fail
  · go_at_call 122; (with_reducible refine (CU.out _).mono ?_); rintro e w2 ⟨rfl, hb⟩
    have HG1 := Lib.hid (show smallP q.id = true by assumption)
    have HB2 := Lib.hid (HB1.out.trans (hb.mono HB1.out.size))
    have HK2 := Lib.hid (HK1.out.kept hb)
    have hlt := HK2.out.lt
    have hc := HK2.out.cell
    clear hb
    go_wp2_with fail
    · have HU := Lib.hid (show unusedP q by assumption)
      go_ret
      exact ⟨ret_int (checkRq_bad HKR.out (.inr (.inl HU.out))).symm, HB2.out⟩
    · go_at_call 121; (with_reducible refine (rin_any _ _).mono ?_); rintro e w3 ⟨rfl, rfl⟩
      have HU := Lib.hid (show ¬ unusedP q by assumption)
      by_cases hg3 : smallP q.epoch = true
      · have HG3 := Lib.hid hg3
        have hg4 : (!smallP q.epoch) = false := by rw [hg3]; rfl
        clear hg3
        have HS := Lib.hid (show sameRq q ⟨q.kind, q.id, q.epoch, [], cell0, cell0, 0⟩ from Classical.byContradiction (fun h => HU.out ((unused_epoch HK.out).2 h)))
        have HSP := Lib.hid (good_epoch HK.out HG1.out HS.out HG3.out)
        have hn0 : n = 0 := by have := (same_epoch_iff.1 HS.out).1; have h := HL.out; rw [this] at h; exact h.symm
        subst hn0
        have hor : (q.kind == 5) = true ∨ ((q.kind == 5) = false ∧ (q.kind == 6) = true) := by
          by_cases e : q.kind = 5
          · exact .inl (by simpa using e)
          · exact .inr ⟨by simpa using e, by have := HK.out; simp; omega⟩
        by_cases he : q.epoch = 0
        · have he2 : (q.epoch == 0) = true := by simpa using he
          have HE := Lib.hid he
          clear he
          rcases hor with h5 | ⟨h5, h6⟩
          all_goals
            go_wp2
            go_ret
            exact ⟨ret_int (by rw [HSP.out, if_pos HE.out]), HB2.out⟩
        · have he2 : (q.epoch == 0) = false := by simpa using he
          have HE := Lib.hid he
          clear he
          rcases hor with h5 | ⟨h5, h6⟩
          all_goals
            go_wp2
            refine wp_loop_rounds 1 ?_
            rw [rounds_succ]
            go_wp2
            go_ret
            exact ⟨ret_int (by rw [HSP.out, if_neg HE.out]), HB2.out⟩
      · have hg4 : (!smallP q.epoch) = true := by simpa using hg3
        have HG3 := Lib.hid (show smallP q.epoch = false by simpa using hg3)
        clear hg3
        go_wp2
        go_ret
        exact ⟨ret_int (checkRq_bad HKR.out (.inr (.inr HG3.out))).symm, HB2.out⟩
  · have HG1 := Lib.hid (show smallP q.id = false by simpa using (show ¬ smallP q.id = true by assumption))
    go_ret
    exact ⟨ret_int (checkRq_bad HKR.out (.inl HG1.out)).symm, HB1.out⟩
set_option maxHeartbeats 4000000 in
set_option maxRecDepth 100000 in
theorem rcheck_scan (A : Option Addr) (n c : Nat) (q : Rq) (hk : q.kind = 3) (W : World) (hl : q.cs.length = n) (hr : CellsRd W A q.cs) (hn : n ≤ 9223372036854775807) (hkf : q.frm.key.size ≤ 9223372036854775807) (hkt : q.too.key.size ≤ 9223372036854775807) :
    Calls Tryz.prog 79 #[.agg (rqC (.slice A n c) q)] W fun e w' => e = .returned (.int .i64 (checkRq q)) ∧ Below W.heap.size W w' := by
  have CU := Lib.hid (fun W' => unused_any A n c q W' hl)
  have HB1 := Lib.hid (show Below W.heap.size W (W.alloc (.cells (rqC (.slice A n c) q) 43)) from (Below.refl _ _).alloc (Nat.le_refl _) _)
  have HK1 := Lib.hid (show Blk (W.alloc (.cells (rqC (.slice A n c) q) 43)) W.heap.size 43 (rqC (.slice A n c) q) from Blk.new _ _ _)
  have HK := Lib.hid hk
  have HR := Lib.hid hr
  have HL := Lib.hid hl
  have HKR := Lib.hid (show 1 ≤ q.kind ∧ q.kind ≤ 7 by omega)
  have hk1 : 1 ≤ q.kind := by omega
  have hk7 : q.kind ≤ 7 := by omega
  have k1 : (q.kind == 1) = false := by simp; omega
  have k2 : (q.kind == 2) = false := by simp; omega
  have k3 : (q.kind != 3) = false := by simp; omega
  have k5 : (q.kind == 5) = false := by simp; omega
  have k6 : (q.kind == 6) = false := by simp; omega
  have HF := Lib.hid (fun W' => inside_yes q.frm W' hkf)
  have HT := Lib.hid (fun W' => inside_yes q.too W' hkt)
  clear hkf hkt
  clear hk hl hr
  go_enter Tryz.func79, Tryz.ntmps79
  go_wp2_with fail
  go_at_call 121; (with_reducible refine (rin_any _ _).mono ?_); rintro e w1 ⟨rfl, rfl⟩
  go_wp2_with fail
  · go_at_call 122; (with_reducible refine (CU.out _).mono ?_); rintro e w2 ⟨rfl, hb⟩
    have HG1 := Lib.hid (show smallP q.id = true by assumption)
    have HB2 := Lib.hid (HB1.out.trans (hb.mono HB1.out.size))
    have HK2 := Lib.hid (HK1.out.kept hb)
    have hlt := HK2.out.lt
    have hc := HK2.out.cell
    clear hb
    go_wp2_with fail
    · have HU := Lib.hid (show unusedP q by assumption)
      go_ret
      exact ⟨ret_int (checkRq_bad HKR.out (.inr (.inl HU.out))).symm, HB2.out⟩
    · go_at_call 121; (with_reducible refine (rin_any _ _).mono ?_); rintro e w3 ⟨rfl, rfl⟩
      have HU := Lib.hid (show ¬ unusedP q by assumption)
      by_cases hg3 : smallP q.epoch = true
      · have HG3 := Lib.hid hg3
        have hg4 : (!smallP q.epoch) = false := by rw [hg3]; rfl
        clear hg3
        have HS := Lib.hid (show sameRq q { q with cs := [] } from Classical.byContradiction (fun h => HU.out ((unused_scan HK.out).2 h)))
        have HSP := Lib.hid (good_scan HK.out HG1.out HS.out HG3.out)
        have hn0 : n = 0 := by have := same_scan_iff.1 HS.out; have h := HL.out; rw [this] at h; exact h.symm
        subst hn0
        go_wp2
        refine wp_loop_rounds 1 ?_
        rw [rounds_succ]
        go_wp2_with fail
        go_at_call 123; (with_reducible refine (HF.out _).mono ?_); rintro e w4 ⟨rfl, hb⟩
        have HK4 := Lib.hid (HK2.out.kept hb)
        have HB4 := Lib.hid (HB2.out.trans (hb.mono HB2.out.size))
        have hc4 := HK4.out.cell
        clear hb hc
        by_cases hf : placeP q.frm 4 0 = 0
        · have hf2 : (placeP q.frm 4 0 == 0) = true := by simpa using hf
          have HF0 := Lib.hid hf
          clear hf
          go_wp2_with fail
          go_at_call 123; (with_reducible refine (HT.out _).mono ?_); rintro e w5 ⟨rfl, hb⟩
          have HK5 := Lib.hid (HK4.out.kept hb)
          have HB5 := Lib.hid (HB4.out.trans (hb.mono HB4.out.size))
          have hc5 := HK5.out.cell
          clear hb hc4
          by_cases ht : placeP q.too 4 0 = 0
          · have ht2 : (placeP q.too 4 0 == 0) = true := by simpa using ht
            have HT0 := Lib.hid ht
            by_cases hlim : q.limit < 1 ∨ 256 < q.limit
            · have HLM := Lib.hid hlim
              have hor : q.limit < 1 ∨ (¬ q.limit < 1 ∧ 256 < q.limit) := by omega
              clear ht hlim
              rcases hor with h1 | ⟨h1, h2⟩
              all_goals
                go_wp2
                go_ret
                exact ⟨ret_int (by rw [HSP.out]; unfold scanP; rw [if_neg (by rw [HF0.out]; simp), if_neg (by rw [HT0.out]; simp), if_pos HLM.out]), HB5.out⟩
            · have HLM := Lib.hid hlim
              have h1 : ¬ q.limit < 1 := by omega
              have h2 : ¬ 256 < q.limit := by omega
              have HZ := Lib.hid (show placeP q.too 4 0 = 0 from ht)
              clear ht hlim
              go_wp2
              go_ret
              exact ⟨ret_int (by rw [HSP.out]; unfold scanP; rw [if_neg (by rw [HF0.out]; simp), if_neg (by rw [HT0.out]; simp), if_neg HLM.out]; exact HZ.out), HB5.out⟩
          · have ht2 : (placeP q.too 4 0 == 0) = false := by simpa using ht
            have HT0 := Lib.hid ht
            clear ht
            go_wp2
            go_ret
            exact ⟨ret_int (by rw [HSP.out]; unfold scanP; rw [if_neg (by rw [HF0.out]; simp), if_pos HT0.out]), HB5.out⟩
        · have hf2 : (placeP q.frm 4 0 == 0) = false := by simpa using hf
          have HF0 := Lib.hid hf
          clear hf
          go_wp2
          go_ret
          exact ⟨ret_int (by rw [HSP.out]; unfold scanP; rw [if_pos HF0.out]), HB4.out⟩
      · have hg4 : (!smallP q.epoch) = true := by simpa using hg3
        have HG3 := Lib.hid (show smallP q.epoch = false by simpa using hg3)
        clear hg3
        go_wp2
        go_ret
        exact ⟨ret_int (checkRq_bad HKR.out (.inr (.inr HG3.out))).symm, HB2.out⟩
  · have HG1 := Lib.hid (show smallP q.id = false by simpa using (show ¬ smallP q.id = true by assumption))
    go_ret
    exact ⟨ret_int (checkRq_bad HKR.out (.inl HG1.out)).symm, HB1.out⟩
set_option maxHeartbeats 4000000 in
set_option maxRecDepth 100000 in
theorem rcheck_cells (A : Option Addr) (n c : Nat) (q : Rq) (hk : q.kind = 1 ∨ q.kind = 2) (W : World) (hl : q.cs.length = n) (hr : CellsRd W A q.cs) (hn : n ≤ 9223372036854775807) (hks : ∀ x ∈ q.cs, x.key.size ≤ 9223372036854775807) :
    Calls Tryz.prog 79 #[.agg (rqC (.slice A n c) q)] W fun e w' => e = .returned (.int .i64 (checkRq q)) ∧ Below W.heap.size W w' := by
  have CU := Lib.hid (fun W' => unused_any A n c q W' hl)
  have HB1 := Lib.hid (show Below W.heap.size W (W.alloc (.cells (rqC (.slice A n c) q) 43)) from (Below.refl _ _).alloc (Nat.le_refl _) _)
  have HK1 := Lib.hid (show Blk (W.alloc (.cells (rqC (.slice A n c) q) 43)) W.heap.size 43 (rqC (.slice A n c) q) from Blk.new _ _ _)
  have HK := Lib.hid hk
  have HR := Lib.hid hr
  have HL := Lib.hid hl
  have HKR := Lib.hid (show 1 ≤ q.kind ∧ q.kind ≤ 7 by omega)
  have hk1 : 1 ≤ q.kind := by omega
  have hk7 : q.kind ≤ 7 := by omega
  have k3 : (q.kind != 3) = true := by simp; omega
  have k5 : (q.kind == 5) = false := by simp; omega
  have k6 : (q.kind == 6) = false := by simp; omega
  have HKS := Lib.hid hks
  clear hks
  clear hk hl hr
  go_enter Tryz.func79, Tryz.ntmps79
  go_wp2_with fail
  go_at_call 121; (with_reducible refine (rin_any _ _).mono ?_); rintro e w1 ⟨rfl, rfl⟩
  go_wp2_with fail
  · go_at_call 122; (with_reducible refine (CU.out _).mono ?_); rintro e w2 ⟨rfl, hb⟩
    have HG1 := Lib.hid (show smallP q.id = true by assumption)
    have HB2 := Lib.hid (HB1.out.trans (hb.mono HB1.out.size))
    have HK2 := Lib.hid (HK1.out.kept hb)
    have hlt := HK2.out.lt
    have hc := HK2.out.cell
    clear hb
    go_wp2_with fail
    · have HU := Lib.hid (show unusedP q by assumption)
      go_ret
      exact ⟨ret_int (checkRq_bad HKR.out (.inr (.inl HU.out))).symm, HB2.out⟩
    · go_at_call 121; (with_reducible refine (rin_any _ _).mono ?_); rintro e w3 ⟨rfl, rfl⟩
      have HU := Lib.hid (show ¬ unusedP q by assumption)
      by_cases hg3 : smallP q.epoch = true
      · have HG3 := Lib.hid hg3
        have hg4 : (!smallP q.epoch) = false := by rw [hg3]; rfl
        clear hg3
        have HS := Lib.hid (show sameRq q { q with frm := cell0, too := cell0, limit := 0 } from Classical.byContradiction (fun h => HU.out ((unused_cells HK.out).2 h)))
        have HSP := Lib.hid (good_cells HK.out HG1.out HS.out HG3.out)
        rw [HL.out] at HSP
        have hor : ((q.kind == 1) = true ∧ q.kind = 1) ∨ ((q.kind == 1) = false ∧ (q.kind == 2) = true ∧ q.kind = 2) := by
          by_cases e : q.kind = 1
          · exact .inl ⟨by simpa using e, e⟩
          · have h2 : q.kind = 2 := by have := HK.out; omega
            exact .inr ⟨by simpa using e, by simpa using h2, h2⟩
        by_cases hbad : n = 0 ∨ (q.kind = 1 ∧ n ≠ 1)
        · have HBAD := Lib.hid hbad
          rcases hor with ⟨h11, h12⟩ | ⟨h11, h22, h23⟩
          · have hn1 : ((n : Int) != 1) = true := by simp; omega
            clear hbad h12
            go_wp2
            go_ret
            exact ⟨ret_int (by rw [HSP.out, if_pos HBAD.out]), HB2.out⟩
          · have hn1 : ((n : Int) == 0) = true := by simp; omega
            clear hbad h23
            go_wp2
            go_ret
            exact ⟨ret_int (by rw [HSP.out, if_pos HBAD.out]), HB2.out⟩
        · have HBAD := Lib.hid hbad
          have hor2 : ((q.kind == 1) = true ∧ ((n : Int) != 1) = false) ∨ ((q.kind == 1) = false ∧ (q.kind == 2) = true ∧ ((n : Int) == 0) = false) := by
            rcases hor with ⟨h11, h12⟩ | ⟨h11, h22, h23⟩
            · exact .inl ⟨h11, by simp; omega⟩
            · exact .inr ⟨h11, h22, by simp; omega⟩
          clear hbad hor
          rcases hor2 with ⟨h11, h12⟩ | ⟨h11, h22, h23⟩
          all_goals
            by_cases h16 : 16 < n
            · go_wp2
              go_ret
              exact ⟨ret_int (by rw [HSP.out, if_neg HBAD.out, if_pos h16]), HB2.out⟩
            · have HSP2 := Lib.hid (show checkRq q = firstP q.cs by rw [HSP.out, if_neg HBAD.out, if_neg h16])
              go_wp2
              go_loopw [3] (fun t3 wz => ∃ k : Nat, t3 = .int .i64 (k : Int) ∧ k ≤ n ∧ Hid (firstP (q.cs.take k) = 0 ∧ Below w2.heap.size w2 wz)) (fun t3 _ => n - (intOf t3).toNat)
              case atStart => exact ⟨0, rfl, Nat.zero_le _, Lib.hid ⟨rfl, Below.refl _ _⟩⟩
              case round =>
                obtain ⟨k, rfl, hk, HP⟩ := hrel
                rename World => wz
                have HBZ := Lib.hid (HB2.out.trans (HP.out.2.mono HB2.out.size))
                have HKZ := Lib.hid (HK2.out.kept HP.out.2)
                have hcz := HKZ.out.cell
                clear hc
                by_cases hkn : k < n
                · have hkx : k < q.cs.length := by rw [HL.out]; exact hkn
                  obtain ⟨ad, rfl, a0, a1, a2⟩ := HR.out.at HBZ.out k hkx
                  have HC := Lib.hid (fun W' => inside_no q.cs[k] W' (HKS.out _ (List.getElem_mem hkx)))
                  have HH := Lib.hid (firstP_hit k q.cs hkx HP.out.1)
                  have HX := Lib.hid (firstP_next k q.cs hkx HP.out.1)
                  generalize q.cs[k] = x at *
                  go_wp2_with fail
                  go_at_call 123; (with_reducible refine (HC.out _).mono ?_); rintro e w5 ⟨rfl, hb⟩
                  have HB5 := Lib.hid (HP.out.2.trans (hb.mono HP.out.2.size))
                  clear hb
                  by_cases hp : placeP x 3 1 = 0
                  · have hp2 : (placeP x 3 1 != 0) = false := by simpa using hp
                    have HNX := Lib.hid (HX.out hp)
                    clear hp
                    go_wp2
                    go_roundw
                    case rel => exact ⟨k + 1, by go_num, by omega, Lib.hid ⟨HNX.out, HB5.out⟩⟩
                    case measure => simp [intOf]; omega
                  · have hp2 : (placeP x 3 1 != 0) = true := by simpa using hp
                    have HNX := Lib.hid (HH.out hp)
                    clear hp
                    go_wp2
                    go_ret
                    exact ⟨ret_int (by rw [HSP2.out, HNX.out]), HB2.out.trans (HB5.out.mono HB2.out.size)⟩
                · have HE := Lib.hid (show firstP q.cs = 0 by
                    have h := HP.out.1
                    rwa [List.take_of_length_le (by rw [HL.out]; omega)] at h)
                  go_wp2
                  go_ret
                  exact ⟨ret_int (by rw [HSP2.out, HE.out]), HBZ.out⟩
      · have hg4 : (!smallP q.epoch) = true := by simpa using hg3
        have HG3 := Lib.hid (show smallP q.epoch = false by simpa using hg3)
        clear hg3
        go_wp2
        go_ret
        exact ⟨ret_int (checkRq_bad HKR.out (.inr (.inr HG3.out))).symm, HB2.out⟩
  · have HG1 := Lib.hid (show smallP q.id = false by simpa using (show ¬ smallP q.id = true by assumption))
    go_ret
    exact ⟨ret_int (checkRq_bad HKR.out (.inl HG1.out)).symm, HB1.out⟩
set_option maxRecDepth 100000 in
theorem rcheck_none (A : Option Addr) (n c : Nat) (q : Rq) (hk : q.kind < 1 ∨ 7 < q.kind) (W : World) :
    Calls Tryz.prog 79 #[.agg (rqC (.slice A n c) q)] W fun e w' => e = .returned (.int .i64 (checkRq q)) ∧ Below W.heap.size W w' := by
  have HB1 := Lib.hid (show Below W.heap.size W (W.alloc (.cells (rqC (.slice A n c) q) 43)) from (Below.refl _ _).alloc (Nat.le_refl _) _)
  have HF := Lib.hid (checkRq_none hk)
  have hor : q.kind < 1 ∨ (¬ q.kind < 1 ∧ 7 < q.kind) := by omega
  clear hk
  rcases hor with h1 | ⟨h1, h2⟩
  all_goals
    go_enter Tryz.func79, Tryz.ntmps79
    go_wp2
    go_ret
    exact ⟨ret_int HF.out.symm, HB1.out⟩
theorem rcheck_rq (A : Option Addr) (n c : Nat) (q : Rq) (W : World) (hl : q.cs.length = n) (hr : CellsRd W A q.cs) (hn : n ≤ 9223372036854775807) (hok : RqOk q) :
    Calls Tryz.prog 79 #[.agg (rqC (.slice A n c) q)] W fun e w' => e = .returned (.int .i64 (checkRq q)) ∧ Below W.heap.size W w' := by
  by_cases h0 : q.kind < 1 ∨ 7 < q.kind
  · exact rcheck_none A n c q h0 W
  · obtain h | h | h | h : (q.kind = 1 ∨ q.kind = 2) ∨ q.kind = 3 ∨ (q.kind = 4 ∨ q.kind = 7) ∨ (q.kind = 5 ∨ q.kind = 6) := by omega
    · exact rcheck_cells A n c q h W hl hr hn hok.cs
    · exact rcheck_scan A n c q h W hl hr hn hok.frm hok.too
    · exact rcheck_bare A n c q h W hl hr hn
    · exact rcheck_epoch A n c q h W hl hr hn
end Go.Proofs.YtglbdbghcdoicaaGreatDoor
