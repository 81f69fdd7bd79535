/- The document's CheckResponse: the walk. -/
import Derived.Test.YtglbdbghcdoicaaGreatDoorCCheckRs
namespace Go.Proofs.YtglbdbghcdoicaaGreatDoor
open Go.RowKit

set_option maxHeartbeats 4000000 in
set_option maxRecDepth 100000 in
theorem rrow_any (x : RowV) (W : World) (hk : x.cell.key.size ≤ 9223372036854775807) :
    Calls Tryz.prog 127 #[rowV x] W fun e w' => e = .returned (.int .i64 (rowP x)) ∧ Below W.heap.size W w' := by
  have HC := Lib.hid (fun W' => inside_no x.cell W' hk)
  have HB1 := Lib.hid (show Below W.heap.size W (W.alloc (.cells #[.int .i64 x.cell.view, .string x.cell.key, .int .i64 x.cell.start, .int .i64 x.count, .int .i64 x.sum, .int .i64 x.min, .int .i64 x.max] 123)) from (Below.refl _ _).alloc (Nat.le_refl _) _)
  have HK1 := Lib.hid (Blk.new W 123 #[.int .i64 x.cell.view, .string x.cell.key, .int .i64 x.cell.start, .int .i64 x.count, .int .i64 x.sum, .int .i64 x.min, .int .i64 x.max])
  clear hk
  go_enter Tryz.func127, Tryz.ntmps127
  go_wp2_with fail
  go_at_call 123; (with_reducible refine (HC.out _).mono ?_); rintro e w5 ⟨rfl, hb⟩
  have HB5 := Lib.hid (HB1.out.trans (hb.mono HB1.out.size))
  have HK5 := Lib.hid (HK1.out.kept hb)
  have hc5 := HK5.out.cell
  clear hb
  by_cases hp : placeP x.cell 3 1 = 0
  · have hp2 : (placeP x.cell 3 1 != 0) = false := by simpa using hp
    have HPL := Lib.hid hp
    clear hp
    by_cases hbad : rowBad x
    · have HF := Lib.hid (rowP_bad HPL.out hbad)
      have hor : x.count < 0 ∨ (¬ x.count < 0 ∧ (x.count == 0) = true ∧ (x.sum != 0) = true) ∨ (¬ x.count < 0 ∧ (x.count == 0) = true ∧ (x.sum != 0) = false ∧ (x.min != 0) = true) ∨ (¬ x.count < 0 ∧ (x.count == 0) = true ∧ (x.sum != 0) = false ∧ (x.min != 0) = false ∧ (x.max != 0) = true) ∨
          (¬ x.count < 0 ∧ (x.count == 0) = false ∧ x.max < x.min) ∨ (¬ x.count < 0 ∧ (x.count == 0) = true ∧ (x.sum != 0) = false ∧ (x.min != 0) = false ∧ (x.max != 0) = false ∧ x.max < x.min) := by
        unfold rowBad at hbad
        simp only [beq_iff_eq, beq_eq_false_iff_ne, bne_iff_ne, bne_eq_false_iff_eq]
        omega
      clear hbad
      rcases hor with h1 | ⟨h1, h2, h3⟩ | ⟨h1, h2, h3, h4⟩ | ⟨h1, h2, h3, h4, h5⟩ | ⟨h1, h2, h3⟩ | ⟨h1, h2, h3, h4, h5, h6⟩
      all_goals
        go_wp2
        go_ret
        exact ⟨ret_int HF.out.symm, HB5.out⟩
    · have HF := Lib.hid (rowP_ok HPL.out hbad)
      have hor : (¬ x.count < 0 ∧ (x.count == 0) = false ∧ ¬ x.max < x.min) ∨ (¬ x.count < 0 ∧ (x.count == 0) = true ∧ (x.sum != 0) = false ∧ (x.min != 0) = false ∧ (x.max != 0) = false ∧ ¬ x.max < x.min) := by
        unfold rowBad at hbad
        simp only [beq_iff_eq, beq_eq_false_iff_ne, bne_eq_false_iff_eq]
        omega
      clear hbad
      rcases hor with ⟨h1, h2, h3⟩ | ⟨h1, h2, h3, h4, h5, h6⟩
      all_goals
        go_wp2
        go_ret
        exact ⟨ret_int HF.out.symm, HB5.out⟩
  · have hp2 : (placeP x.cell 3 1 != 0) = true := by simpa using hp
    have HF := Lib.hid (rowP_cell hp)
    clear hp
    go_wp2
    go_ret
    exact ⟨ret_int HF.out.symm, HB5.out⟩
set_option maxHeartbeats 4000000 in
set_option maxRecDepth 100000 in
theorem spare_any (A : Option Addr) (n c : Nat) (r : Rs) (W : World) (hl : r.rows.length = n) :
    Calls Tryz.prog 126 #[.agg (rsC (.slice A n c) r)] W fun e w' => e = .returned (.bool (decide (spareP r))) ∧ Below W.heap.size W w' := by
  have e1 : ∀ w : World, (binOp .neq 69 (.agg #[.int .i64 r.st.taken, .int .i64 r.st.late, .int .i64 r.st.over, .int .i64 r.st.full, .int .i64 r.st.cells, .int .i64 r.st.now]) (.agg #[.int .i64 0, .int .i64 0, .int .i64 0, .int .i64 0, .int .i64 0, .int .i64 0])).run Tryz.prog w = .ok (.bool (!decide (r.st = st0))) w := neqSt r.st st0
  have HL := Lib.hid (show (r.rows ≠ [] ↔ 0 < n) by rw [← hl, List.length_pos_iff])
  have HB := Lib.hid (show ∀ o1 o2, Below W.heap.size W ((W.alloc o1).alloc o2) from fun _ _ => ((Below.refl _ _).alloc (Nat.le_refl _) _).alloc (by simp) _)
  clear hl
  go_enter Tryz.func126, Tryz.ntmps126
  go_wp2
  all_goals go_ret
  all_goals
    refine ⟨ret_bool ?_, HB.out _ _⟩
    rw [Bool.eq_iff_iff]
    simp only [spareP, decide_eq_true_eq, HL.out]
    clear HL HB e1
    generalize r.kind = k at *
    generalize r.epoch = ep at *
    generalize r.err = er at *
    by_cases hf : r.st = st0 <;> simp_all <;> omega
set_option maxHeartbeats 4000000 in
set_option maxRecDepth 100000 in
theorem rchecks_epoch (A : Option Addr) (n c : Nat) (r : Rs) (hk : r.kind = 2) (W : World) (hl : r.rows.length = n) (hr : RowsRd W A r.rows) (hn : n ≤ 9223372036854775807) :
    Calls Tryz.prog 82 #[.agg (rsC (.slice A n c) r)] W fun e w' => e = .returned (.int .i64 (checkRs r)) ∧ Below W.heap.size W w' := by
  have CU := Lib.hid (fun W' => spare_any A n c r W' hl)
  have HB1 := Lib.hid (show Below W.heap.size W (W.alloc (.cells (rsC (.slice A n c) r) 71)) from (Below.refl _ _).alloc (Nat.le_refl _) _)
  have HK1 := Lib.hid (show Blk (W.alloc (.cells (rsC (.slice A n c) r) 71)) W.heap.size 71 (rsC (.slice A n c) r) from Blk.new _ _ _)
  have HK := Lib.hid hk
  have HR := Lib.hid hr
  have HL := Lib.hid hl
  have HKR := Lib.hid (show 1 ≤ r.kind ∧ r.kind ≤ 5 by omega)
  have hk1 : 1 ≤ r.kind := by omega
  have hk5 : r.kind ≤ 5 := by omega
  have k2 : (r.kind == 2) = true := by simp; omega
  have k4 : (r.kind == 4) = false := by simp; omega
  have k5 : (r.kind == 5) = false := by simp; omega
  clear hk hl hr
  go_enter Tryz.func82, Tryz.ntmps82
  go_wp2_with fail
  go_at_call 121; (with_reducible refine (rin_any _ _).mono ?_); rintro e w1 ⟨rfl, rfl⟩
  go_wp2_with fail
  · go_at_call 126; (with_reducible refine (CU.out _).mono ?_); rintro e w2 ⟨rfl, hb⟩
    have HG1 := Lib.hid (show smallP r.id = true by assumption)
    have HB2 := Lib.hid (HB1.out.trans (hb.mono HB1.out.size))
    have HK2 := Lib.hid (HK1.out.kept hb)
    have hlt := HK2.out.lt
    have hc := HK2.out.cell
    clear hb
    by_cases hu : spareP r
    · have hu2 : decide (spareP r) = true := decide_eq_true hu
      have HU := Lib.hid hu
      clear hu
      go_wp2
      go_ret
      exact ⟨ret_int (checkRs_bad HKR.out (.inr HU.out)).symm, HB2.out⟩
    · have hu2 : decide (spareP r) = false := decide_eq_false hu
      have HU := Lib.hid hu
      have HG2 := Lib.hid (show sameRs r (ownRs r) from Classical.byContradiction (fun h => hu ((spare_own HKR.out).2 h)))
      clear hu
      have HSP := Lib.hid (show checkRs r = if r.epoch < 1 ∨ 1099511627776 < r.epoch then 16 else 0 by rw [good_other (by have := HK.out; omega) HG1.out HG2.out, if_pos HK.out])
      have hn0 : n = 0 := by have := rows_nil (by have := HK.out; omega) HG2.out; have h := HL.out; rw [this] at h; exact h.symm
      subst hn0
      have HB4 := Lib.hid (HB2.out.alloc HB2.out.size (.cells #[.int .i64 r.st.taken, .int .i64 r.st.late, .int .i64 r.st.over, .int .i64 r.st.full, .int .i64 r.st.cells, .int .i64 r.st.now] 69))
      go_wp2
      refine wp_loop_rounds 1 ?_
      rw [rounds_succ]
      go_wp2
      all_goals
        go_ret
        refine ⟨ret_int ?_, HB4.out⟩
        rw [HSP.out]
        first | rw [if_pos (by omega)] | rw [if_neg (by omega)]
  · have HG1 := Lib.hid (show smallP r.id = false by simpa using (show ¬ smallP r.id = true by assumption))
    go_ret
    exact ⟨ret_int (checkRs_bad HKR.out (.inl HG1.out)).symm, HB1.out⟩
set_option maxHeartbeats 4000000 in
set_option maxRecDepth 100000 in
theorem rchecks_done (A : Option Addr) (n c : Nat) (r : Rs) (hk : r.kind = 3) (W : World) (hl : r.rows.length = n) (hr : RowsRd W A r.rows) (hn : n ≤ 9223372036854775807) :
    Calls Tryz.prog 82 #[.agg (rsC (.slice A n c) r)] W fun e w' => e = .returned (.int .i64 (checkRs r)) ∧ Below W.heap.size W w' := by
  have CU := Lib.hid (fun W' => spare_any A n c r W' hl)
  have HB1 := Lib.hid (show Below W.heap.size W (W.alloc (.cells (rsC (.slice A n c) r) 71)) from (Below.refl _ _).alloc (Nat.le_refl _) _)
  have HK1 := Lib.hid (show Blk (W.alloc (.cells (rsC (.slice A n c) r) 71)) W.heap.size 71 (rsC (.slice A n c) r) from Blk.new _ _ _)
  have HK := Lib.hid hk
  have HR := Lib.hid hr
  have HL := Lib.hid hl
  have HKR := Lib.hid (show 1 ≤ r.kind ∧ r.kind ≤ 5 by omega)
  have hk1 : 1 ≤ r.kind := by omega
  have hk5 : r.kind ≤ 5 := by omega
  have k2 : (r.kind == 2) = false := by simp; omega
  have k4 : (r.kind == 4) = false := by simp; omega
  have k5 : (r.kind == 5) = false := by simp; omega
  clear hk hl hr
  go_enter Tryz.func82, Tryz.ntmps82
  go_wp2_with fail
  go_at_call 121; (with_reducible refine (rin_any _ _).mono ?_); rintro e w1 ⟨rfl, rfl⟩
  go_wp2_with fail
  · go_at_call 126; (with_reducible refine (CU.out _).mono ?_); rintro e w2 ⟨rfl, hb⟩
    have HG1 := Lib.hid (show smallP r.id = true by assumption)
    have HB2 := Lib.hid (HB1.out.trans (hb.mono HB1.out.size))
    have HK2 := Lib.hid (HK1.out.kept hb)
    have hlt := HK2.out.lt
    have hc := HK2.out.cell
    clear hb
    by_cases hu : spareP r
    · have hu2 : decide (spareP r) = true := decide_eq_true hu
      have HU := Lib.hid hu
      clear hu
      go_wp2
      go_ret
      exact ⟨ret_int (checkRs_bad HKR.out (.inr HU.out)).symm, HB2.out⟩
    · have hu2 : decide (spareP r) = false := decide_eq_false hu
      have HU := Lib.hid hu
      have HG2 := Lib.hid (show sameRs r (ownRs r) from Classical.byContradiction (fun h => hu ((spare_own HKR.out).2 h)))
      clear hu
      have HSP := Lib.hid (show checkRs r = 0 by rw [good_other (by have := HK.out; omega) HG1.out HG2.out, if_neg (by have := HK.out; omega), if_neg (by have := HK.out; omega), if_neg (by have := HK.out; omega)])
      have hn0 : n = 0 := by have := rows_nil (by have := HK.out; omega) HG2.out; have h := HL.out; rw [this] at h; exact h.symm
      subst hn0
      have HB4 := Lib.hid (HB2.out.alloc HB2.out.size (.cells #[.int .i64 r.st.taken, .int .i64 r.st.late, .int .i64 r.st.over, .int .i64 r.st.full, .int .i64 r.st.cells, .int .i64 r.st.now] 69))
      go_wp2
      refine wp_loop_rounds 1 ?_
      rw [rounds_succ]
      go_wp2
      go_ret
      exact ⟨ret_int HSP.out.symm, HB4.out⟩
  · have HG1 := Lib.hid (show smallP r.id = false by simpa using (show ¬ smallP r.id = true by assumption))
    go_ret
    exact ⟨ret_int (checkRs_bad HKR.out (.inl HG1.out)).symm, HB1.out⟩
set_option maxHeartbeats 4000000 in
set_option maxRecDepth 100000 in
theorem rchecks_error (A : Option Addr) (n c : Nat) (r : Rs) (hk : r.kind = 5) (W : World) (hl : r.rows.length = n) (hr : RowsRd W A r.rows) (hn : n ≤ 9223372036854775807) :
    Calls Tryz.prog 82 #[.agg (rsC (.slice A n c) r)] W fun e w' => e = .returned (.int .i64 (checkRs r)) ∧ Below W.heap.size W w' := by
  have CU := Lib.hid (fun W' => spare_any A n c r W' hl)
  have HB1 := Lib.hid (show Below W.heap.size W (W.alloc (.cells (rsC (.slice A n c) r) 71)) from (Below.refl _ _).alloc (Nat.le_refl _) _)
  have HK1 := Lib.hid (show Blk (W.alloc (.cells (rsC (.slice A n c) r) 71)) W.heap.size 71 (rsC (.slice A n c) r) from Blk.new _ _ _)
  have HK := Lib.hid hk
  have HR := Lib.hid hr
  have HL := Lib.hid hl
  have HKR := Lib.hid (show 1 ≤ r.kind ∧ r.kind ≤ 5 by omega)
  have hk1 : 1 ≤ r.kind := by omega
  have hk5 : r.kind ≤ 5 := by omega
  have k2 : (r.kind == 2) = false := by simp; omega
  have k4 : (r.kind == 4) = false := by simp; omega
  have k5 : (r.kind == 5) = true := by simp; omega
  clear hk hl hr
  go_enter Tryz.func82, Tryz.ntmps82
  go_wp2_with fail
  go_at_call 121; (with_reducible refine (rin_any _ _).mono ?_); rintro e w1 ⟨rfl, rfl⟩
  go_wp2_with fail
  · go_at_call 126; (with_reducible refine (CU.out _).mono ?_); rintro e w2 ⟨rfl, hb⟩
    have HG1 := Lib.hid (show smallP r.id = true by assumption)
    have HB2 := Lib.hid (HB1.out.trans (hb.mono HB1.out.size))
    have HK2 := Lib.hid (HK1.out.kept hb)
    have hlt := HK2.out.lt
    have hc := HK2.out.cell
    clear hb
    by_cases hu : spareP r
    · have hu2 : decide (spareP r) = true := decide_eq_true hu
      have HU := Lib.hid hu
      clear hu
      go_wp2
      go_ret
      exact ⟨ret_int (checkRs_bad HKR.out (.inr HU.out)).symm, HB2.out⟩
    · have hu2 : decide (spareP r) = false := decide_eq_false hu
      have HU := Lib.hid hu
      have HG2 := Lib.hid (show sameRs r (ownRs r) from Classical.byContradiction (fun h => hu ((spare_own HKR.out).2 h)))
      clear hu
      have HSP := Lib.hid (show checkRs r = if r.err < 1 ∨ 255 < r.err then 16 else 0 by rw [good_other (by have := HK.out; omega) HG1.out HG2.out, if_neg (by have := HK.out; omega), if_neg (by have := HK.out; omega), if_pos HK.out])
      have hn0 : n = 0 := by have := rows_nil (by have := HK.out; omega) HG2.out; have h := HL.out; rw [this] at h; exact h.symm
      subst hn0
      have HB4 := Lib.hid (HB2.out.alloc HB2.out.size (.cells #[.int .i64 r.st.taken, .int .i64 r.st.late, .int .i64 r.st.over, .int .i64 r.st.full, .int .i64 r.st.cells, .int .i64 r.st.now] 69))
      go_wp2
      refine wp_loop_rounds 1 ?_
      rw [rounds_succ]
      go_wp2
      all_goals
        go_ret
        refine ⟨ret_int ?_, HB4.out⟩
        rw [HSP.out]
        first | rw [if_pos (by omega)] | rw [if_neg (by omega)]
  · have HG1 := Lib.hid (show smallP r.id = false by simpa using (show ¬ smallP r.id = true by assumption))
    go_ret
    exact ⟨ret_int (checkRs_bad HKR.out (.inl HG1.out)).symm, HB1.out⟩
set_option maxHeartbeats 4000000 in
set_option maxRecDepth 100000 in
theorem rchecks_stats (A : Option Addr) (n c : Nat) (r : Rs) (hk : r.kind = 4) (W : World) (hl : r.rows.length = n) (hr : RowsRd W A r.rows) (hn : n ≤ 9223372036854775807) :
    Calls Tryz.prog 82 #[.agg (rsC (.slice A n c) r)] W fun e w' => e = .returned (.int .i64 (checkRs r)) ∧ Below W.heap.size W w' := by
  have CU := Lib.hid (fun W' => spare_any A n c r W' hl)
  have HB1 := Lib.hid (show Below W.heap.size W (W.alloc (.cells (rsC (.slice A n c) r) 71)) from (Below.refl _ _).alloc (Nat.le_refl _) _)
  have HK1 := Lib.hid (show Blk (W.alloc (.cells (rsC (.slice A n c) r) 71)) W.heap.size 71 (rsC (.slice A n c) r) from Blk.new _ _ _)
  have HK := Lib.hid hk
  have HR := Lib.hid hr
  have HL := Lib.hid hl
  have HKR := Lib.hid (show 1 ≤ r.kind ∧ r.kind ≤ 5 by omega)
  have hk1 : 1 ≤ r.kind := by omega
  have hk5 : r.kind ≤ 5 := by omega
  have k2 : (r.kind == 2) = false := by simp; omega
  have k4 : (r.kind == 4) = true := by simp; omega
  have k5 : (r.kind == 5) = false := by simp; omega
  clear hk hl hr
  go_enter Tryz.func82, Tryz.ntmps82
  go_wp2_with fail
  go_at_call 121; (with_reducible refine (rin_any _ _).mono ?_); rintro e w1 ⟨rfl, rfl⟩
  go_wp2_with fail
  · go_at_call 126; (with_reducible refine (CU.out _).mono ?_); rintro e w2 ⟨rfl, hb⟩
    have HG1 := Lib.hid (show smallP r.id = true by assumption)
    have HB2 := Lib.hid (HB1.out.trans (hb.mono HB1.out.size))
    have HK2 := Lib.hid (HK1.out.kept hb)
    have hlt := HK2.out.lt
    have hc := HK2.out.cell
    clear hb
    by_cases hu : spareP r
    · have hu2 : decide (spareP r) = true := decide_eq_true hu
      have HU := Lib.hid hu
      clear hu
      go_wp2
      go_ret
      exact ⟨ret_int (checkRs_bad HKR.out (.inr HU.out)).symm, HB2.out⟩
    · have hu2 : decide (spareP r) = false := decide_eq_false hu
      have HU := Lib.hid hu
      have HG2 := Lib.hid (show sameRs r (ownRs r) from Classical.byContradiction (fun h => hu ((spare_own HKR.out).2 h)))
      clear hu
      have HSP := Lib.hid (show checkRs r = stP r.st by rw [good_other (by have := HK.out; omega) HG1.out HG2.out, if_neg (by have := HK.out; omega), if_pos HK.out])
      have hn0 : n = 0 := by have := rows_nil (by have := HK.out; omega) HG2.out; have h := HL.out; rw [this] at h; exact h.symm
      subst hn0
      have HB4 := Lib.hid (HB2.out.alloc HB2.out.size (.cells #[.int .i64 r.st.taken, .int .i64 r.st.late, .int .i64 r.st.over, .int .i64 r.st.full, .int .i64 r.st.cells, .int .i64 r.st.now] 69))
      go_wp2
      refine wp_loop_rounds 1 ?_
      rw [rounds_succ]
      go_wp2_with (go_at_call 121; (with_reducible refine (rin_any _ _).mono ?_); rintro e w7 ⟨rfl, rfl⟩)
      all_goals
        go_ret
        refine ⟨ret_int ?_, HB4.out⟩
        rw [HSP.out]
        clear HSP HB4
        unfold stP
        simp_all
  · have HG1 := Lib.hid (show smallP r.id = false by simpa using (show ¬ smallP r.id = true by assumption))
    go_ret
    exact ⟨ret_int (checkRs_bad HKR.out (.inl HG1.out)).symm, HB1.out⟩
set_option maxHeartbeats 4000000 in
set_option maxRecDepth 100000 in
theorem rchecks_rows (A : Option Addr) (n c : Nat) (r : Rs) (hk : r.kind = 1) (W : World) (hl : r.rows.length = n) (hr : RowsRd W A r.rows) (hn : n ≤ 9223372036854775807) (hks : ∀ x ∈ r.rows, x.cell.key.size ≤ 9223372036854775807) :
    Calls Tryz.prog 82 #[.agg (rsC (.slice A n c) r)] W fun e w' => e = .returned (.int .i64 (checkRs r)) ∧ Below W.heap.size W w' := by
  have CU := Lib.hid (fun W' => spare_any A n c r W' hl)
  have HB1 := Lib.hid (show Below W.heap.size W (W.alloc (.cells (rsC (.slice A n c) r) 71)) from (Below.refl _ _).alloc (Nat.le_refl _) _)
  have HK1 := Lib.hid (show Blk (W.alloc (.cells (rsC (.slice A n c) r) 71)) W.heap.size 71 (rsC (.slice A n c) r) from Blk.new _ _ _)
  have HK := Lib.hid hk
  have HR := Lib.hid hr
  have HL := Lib.hid hl
  have HKR := Lib.hid (show 1 ≤ r.kind ∧ r.kind ≤ 5 by omega)
  have hk1 : 1 ≤ r.kind := by omega
  have hk5 : r.kind ≤ 5 := by omega
  have k2 : (r.kind == 2) = false := by simp; omega
  have k4 : (r.kind == 4) = false := by simp; omega
  have k5 : (r.kind == 5) = false := by simp; omega
  have HKS := Lib.hid hks
  clear hks
  clear hk hl hr
  go_enter Tryz.func82, Tryz.ntmps82
  go_wp2_with fail
  go_at_call 121; (with_reducible refine (rin_any _ _).mono ?_); rintro e w1 ⟨rfl, rfl⟩
  go_wp2_with fail
  · go_at_call 126; (with_reducible refine (CU.out _).mono ?_); rintro e w2 ⟨rfl, hb⟩
    have HG1 := Lib.hid (show smallP r.id = true by assumption)
    have HB2 := Lib.hid (HB1.out.trans (hb.mono HB1.out.size))
    have HK2 := Lib.hid (HK1.out.kept hb)
    have hlt := HK2.out.lt
    have hc := HK2.out.cell
    clear hb
    by_cases hu : spareP r
    · have hu2 : decide (spareP r) = true := decide_eq_true hu
      have HU := Lib.hid hu
      clear hu
      go_wp2
      go_ret
      exact ⟨ret_int (checkRs_bad HKR.out (.inr HU.out)).symm, HB2.out⟩
    · have hu2 : decide (spareP r) = false := decide_eq_false hu
      have HU := Lib.hid hu
      have HG2 := Lib.hid (show sameRs r (ownRs r) from Classical.byContradiction (fun h => hu ((spare_own HKR.out).2 h)))
      clear hu
      have HSP := Lib.hid (good_rows HK.out HG1.out HG2.out)
      rw [HL.out] at HSP
      by_cases h16 : 256 < n
      · go_wp2
        go_ret
        exact ⟨ret_int (by rw [HSP.out, if_pos h16]), HB2.out⟩
      · have HSP2 := Lib.hid (show checkRs r = firstR r.rows by rw [HSP.out, if_neg h16])
        go_wp2
        go_loopw [3] (fun t3 wz => ∃ k : Nat, t3 = .int .i64 (k : Int) ∧ k ≤ n ∧ Hid (firstR (r.rows.take k) = 0 ∧ Below w2.heap.size w2 wz)) (fun t3 _ => n - (intOf t3).toNat)
        case atStart => exact ⟨0, rfl, Nat.zero_le _, Lib.hid ⟨rfl, Below.refl _ _⟩⟩
        case round =>
          obtain ⟨k, rfl, hk, HP⟩ := hrel
          rename World => wz
          have HBZ := Lib.hid (HB2.out.trans (HP.out.2.mono HB2.out.size))
          have HKZ := Lib.hid (HK2.out.kept HP.out.2)
          have hcz := HKZ.out.cell
          have hltz := HKZ.out.lt
          clear hc
          by_cases hkn : k < n
          · have hkx : k < r.rows.length := by rw [HL.out]; exact hkn
            obtain ⟨ad, rfl, a0, a1, a2, a3, a4, a5, a6⟩ := HR.out.at HBZ.out k hkx
            have HC := Lib.hid (fun W' => rrow_any r.rows[k] W' (HKS.out _ (List.getElem_mem hkx)))
            have HH := Lib.hid (firstR_hit k r.rows hkx HP.out.1)
            have HX := Lib.hid (firstR_next k r.rows hkx HP.out.1)
            generalize r.rows[k] = x at *
            go_wp2_with fail
            go_at_call 127; (with_reducible refine (HC.out _).mono ?_); rintro e w5 ⟨rfl, hb⟩
            have HB5 := Lib.hid (HP.out.2.trans (hb.mono HP.out.2.size))
            clear hb
            by_cases hp : rowP x = 0
            · have hp2 : (rowP x != 0) = false := by simpa using hp
              have HNX := Lib.hid (HX.out hp)
              clear hp
              go_wp2
              go_roundw
              case rel => exact ⟨k + 1, by go_num, by omega, Lib.hid ⟨HNX.out, HB5.out⟩⟩
              case measure => simp [intOf]; omega
            · have hp2 : (rowP x != 0) = true := by simpa using hp
              have HNX := Lib.hid (HH.out hp)
              clear hp
              go_wp2
              go_ret
              exact ⟨ret_int (by rw [HSP2.out, HNX.out]), HB2.out.trans (HB5.out.mono HB2.out.size)⟩
          · have HE := Lib.hid (show firstR r.rows = 0 by
              have h := HP.out.1
              rwa [List.take_of_length_le (by rw [HL.out]; omega)] at h)
            have HB4 := Lib.hid (HBZ.out.alloc HBZ.out.size (.cells #[.int .i64 r.st.taken, .int .i64 r.st.late, .int .i64 r.st.over, .int .i64 r.st.full, .int .i64 r.st.cells, .int .i64 r.st.now] 69))
            go_wp2
            go_ret
            exact ⟨ret_int (by rw [HSP2.out, HE.out]), HB4.out⟩
  · have HG1 := Lib.hid (show smallP r.id = false by simpa using (show ¬ smallP r.id = true by assumption))
    go_ret
    exact ⟨ret_int (checkRs_bad HKR.out (.inl HG1.out)).symm, HB1.out⟩
set_option maxRecDepth 100000 in
theorem rchecks_none (A : Option Addr) (n c : Nat) (r : Rs) (hk : r.kind < 1 ∨ 5 < r.kind) (W : World) :
    Calls Tryz.prog 82 #[.agg (rsC (.slice A n c) r)] W fun e w' => e = .returned (.int .i64 (checkRs r)) ∧ Below W.heap.size W w' := by
  have HB1 := Lib.hid (show Below W.heap.size W (W.alloc (.cells (rsC (.slice A n c) r) 71)) from (Below.refl _ _).alloc (Nat.le_refl _) _)
  have HF := Lib.hid (checkRs_none hk)
  have hor : r.kind < 1 ∨ (¬ r.kind < 1 ∧ 5 < r.kind) := by omega
  clear hk
  rcases hor with h1 | ⟨h1, h2⟩
  all_goals
    go_enter Tryz.func82, Tryz.ntmps82
    go_wp2
    go_ret
    exact ⟨ret_int HF.out.symm, HB1.out⟩
theorem rcheck_rs (A : Option Addr) (n c : Nat) (r : Rs) (W : World) (hl : r.rows.length = n) (hr : RowsRd W A r.rows) (hn : n ≤ 9223372036854775807) (hok : RsOk r) :
    Calls Tryz.prog 82 #[.agg (rsC (.slice A n c) r)] W fun e w' => e = .returned (.int .i64 (checkRs r)) ∧ Below W.heap.size W w' := by
  by_cases h0 : r.kind < 1 ∨ 5 < r.kind
  · exact rchecks_none A n c r h0 W
  · obtain h | h | h | h | h : r.kind = 1 ∨ r.kind = 2 ∨ r.kind = 3 ∨ r.kind = 4 ∨ r.kind = 5 := by omega
    · exact rchecks_rows A n c r h W hl hr hn hok
    · exact rchecks_epoch A n c r h W hl hr hn
    · exact rchecks_done A n c r h W hl hr hn
    · exact rchecks_stats A n c r h W hl hr hn
    · exact rchecks_error A n c r h W hl hr hn
end Go.Proofs.YtglbdbghcdoicaaGreatDoor
