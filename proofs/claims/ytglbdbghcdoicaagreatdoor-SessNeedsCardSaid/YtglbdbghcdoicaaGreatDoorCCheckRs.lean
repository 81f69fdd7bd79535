/- CheckResponse: the walk. -/
import Derived.Test.YtglbdbghcdoicaaGreatDoorCCheckRq
namespace Go.Proofs.YtglbdbghcdoicaaGreatDoor
open Go.RowKit

theorem firstR_hit : ∀ (k : Nat) (rs : List RowV) (hk : k < rs.length), firstR (rs.take k) = 0 → rowP rs[k] ≠ 0 → firstR rs = rowP rs[k]
  | 0, c :: cs, _, _, h => by unfold firstR; rw [if_neg (by simpa using h)]; rfl
  | k + 1, c :: cs, hk, h0, h => by
    simp only [List.take_succ_cons, firstR] at h0
    unfold firstR
    by_cases e : rowP c = 0
    · rw [if_pos e] at h0 ⊢
      exact firstR_hit k cs (by simpa using hk) h0 (by simpa using h)
    · rw [if_neg e] at h0
      exact absurd h0 e
theorem firstR_next : ∀ (k : Nat) (rs : List RowV) (hk : k < rs.length), firstR (rs.take k) = 0 → rowP rs[k] = 0 → firstR (rs.take (k + 1)) = 0
  | 0, c :: cs, _, _, h => by
    have h : rowP c = 0 := h
    simp [firstR, h]
  | k + 1, c :: cs, hk, h0, h => by
    simp only [List.take_succ_cons, firstR] at h0 ⊢
    by_cases e : rowP c = 0
    · rw [if_pos e] at h0 ⊢
      exact firstR_next k cs (by simpa using hk) h0 (by simpa using h)
    · rw [if_neg e] at h0
      exact absurd h0 e
theorem neqAgg (a b c d : Int) (w : World) : (binOp .neq 121 (.agg #[.int .i64 a, .int .i64 b, .int .i64 c, .int .i64 d]) (.agg #[.int .i64 0, .int .i64 0, .int .i64 0, .int .i64 0])).run Tryz.prog w = .ok (.bool (!decide (a = 0 ∧ b = 0 ∧ c = 0 ∧ d = 0))) w := by
  go_simp
  repeat' split
  all_goals simp_all
/-- A row that may not be, its cell apart. -/
def rowBad (r : RowV) : Prop := r.count < 0 ∨ (r.count = 0 ∧ (r.sum ≠ 0 ∨ r.min ≠ 0 ∨ r.max ≠ 0)) ∨ r.max < r.min
theorem rowP_cell {r : RowV} (h : placeP r.cell 3 1 ≠ 0) : rowP r = placeP r.cell 3 1 := if_pos h
theorem rowP_bad {r : RowV} (h : placeP r.cell 3 1 = 0) (hb : rowBad r) : rowP r = 16 := by
  unfold rowP
  rw [if_neg (by rw [h]; simp)]
  exact if_pos hb
theorem rowP_ok {r : RowV} (h : placeP r.cell 3 1 = 0) (hb : ¬ rowBad r) : rowP r = 0 := by
  unfold rowP
  rw [if_neg (by rw [h]; simp)]
  exact if_neg hb
theorem take_succ_c {α : Type} (l : List α) (k : Nat) (h : k < l.length) : l.take (k + 1) = l.take k ++ [l[k]] := by
  rw [List.take_add_one, List.getElem?_eq_getElem h]; rfl
def stL (s : StV) : List Int := [s.taken, s.late, s.over, s.full, s.cells, s.now]
theorem stP_ok {s : StV} (h : ∀ x ∈ stL s, smallP x = true) : stP s = 0 := by
  unfold stP
  have h1 := h s.taken (by simp [stL]); have h2 := h s.late (by simp [stL]); have h3 := h s.over (by simp [stL])
  have h4 := h s.full (by simp [stL]); have h5 := h s.cells (by simp [stL]); have h6 := h s.now (by simp [stL])
  rw [h1, h2, h3, h4, h5, h6]; rfl
theorem stP_bad {s : StV} {x : Int} (hx : x ∈ stL s) (h : smallP x = false) : stP s = 16 := by
  unfold stP
  rw [if_neg]
  intro h2
  simp only [Bool.and_eq_true] at h2
  obtain ⟨⟨⟨⟨⟨a, b⟩, c⟩, d⟩, e⟩, f⟩ := h2
  simp only [stL, List.mem_cons, List.not_mem_nil, or_false] at hx
  rcases hx with rfl | rfl | rfl | rfl | rfl | rfl
  all_goals simp_all
set_option maxHeartbeats 4000000 in
set_option maxRecDepth 100000 in
theorem checks_epoch (A : Option Addr) (n c : Nat) (r : Rs) (hk : r.kind = 2) (W : World) (hl : r.rows.length = n) (hr : RowsRd W A r.rows) (hn : n ≤ 9223372036854775807) :
    Calls Tryz.prog 84 #[.agg (rsC (.slice A n c) r)] W fun e w' => e = .returned (.int .i64 (checkRs r)) ∧ Below W.heap.size W w' := by
  have CA := Lib.hid (fun W' => tells_epoch A n c r hk W')
  have CS := Lib.hid (fun W' (hb : Below W.heap.size W W') => same_rs A none n 0 c 0 r ⟨r.kind, r.id, 0, r.epoch, [], st0⟩ W' hl rfl (hr.below hb) (fun k hk => absurd hk (Nat.not_lt_zero _)) hn (by omega))
  have HB1 := Lib.hid (show Below W.heap.size W (W.alloc (.cells (rsC (.slice A n c) r) 71)) from (Below.refl _ _).alloc (Nat.le_refl _) _)
  have HK1 := Lib.hid (show Blk (W.alloc (.cells (rsC (.slice A n c) r) 71)) W.heap.size 71 (rsC (.slice A n c) r) from Blk.new _ _ _)
  have HK := Lib.hid hk
  have HR := Lib.hid hr
  have HL := Lib.hid hl
  have HKR := Lib.hid (show 1 ≤ r.kind ∧ r.kind ≤ 5 by omega)
  have HOWN := Lib.hid (show ownRs r = ⟨r.kind, r.id, 0, r.epoch, [], st0⟩ by unfold ownRs; rw [if_neg (by omega), if_pos hk])
  have t1 := ta_epoch_rows
  have t2 := ta_epoch
  clear hk hl hr
  go_enter Tryz.func84, Tryz.ntmps84
  go_wp2_with fail
  go_at_call 86; (with_reducible refine (CA.out _).mono ?_); rintro e w1 ⟨rfl, hb⟩
  have HB2 := Lib.hid (HB1.out.trans (hb.mono HB1.out.size))
  have HK2 := Lib.hid (HK1.out.kept hb)
  have hlt := HK2.out.lt
  clear hb
  have hc := HK2.out.cell
  go_wp2_with fail
  go_at_call 118; (with_reducible refine (small_any _ _).mono ?_); rintro e w2 ⟨rfl, rfl⟩
  by_cases hg1 : smallP r.id = true
  · have hg4 : (!smallP r.id) = false := by rw [hg1]; rfl
    have HG1 := Lib.hid hg1
    clear hg1
    go_wp2_with fail
    go_at_call 128; (with_reducible refine (CS.out _ (HB2.out.alloc (by have := HB2.out.size; omega) _)).mono ?_); rintro e w3 ⟨rfl, hb⟩
    have HB3 := Lib.hid ((HB2.out.alloc (by have := HB2.out.size; omega) _).trans (hb.mono (by simp; have := HB2.out.size; omega)))
    clear hc hb
    by_cases hg2 : sameRs r (⟨r.kind, r.id, 0, r.epoch, [], st0⟩)
    · have hg5 : decide (sameRs r (⟨r.kind, r.id, 0, r.epoch, [], st0⟩)) = true := decide_eq_true hg2
      have HG2 := Lib.hid (show sameRs r (ownRs r) by rw [HOWN.out]; exact hg2)
      clear hg2
      have HSP := Lib.hid (show checkRs r = if r.epoch < 1 ∨ 1099511627776 < r.epoch then 16 else 0 by rw [good_other (by have := HK.out; omega) HG1.out HG2.out, if_pos HK.out])
      by_cases he : r.epoch < 1
      · have HE := Lib.hid he
        go_wp2
        go_ret
        exact ⟨ret_int (by rw [HSP.out, if_pos (.inl HE.out)]), HB3.out.alloc (by have := HB3.out.size; omega) _⟩
      · have HE := Lib.hid he
        go_wp2_with fail
        go_at_call 118; (with_reducible refine (small_any _ _).mono ?_); rintro e w4 ⟨rfl, rfl⟩
        by_cases hs : smallP r.epoch = true
        · have hs2 : (!smallP r.epoch) = false := by rw [hs]; rfl
          have HS := Lib.hid (show ¬ (r.epoch < 1 ∨ 1099511627776 < r.epoch) by unfold smallP at hs; simp at hs; omega)
          clear hs he
          go_wp2
          go_ret
          exact ⟨ret_int (by rw [HSP.out, if_neg HS.out]), HB3.out.alloc (by have := HB3.out.size; omega) _⟩
        · have hs2 : (!smallP r.epoch) = true := by simpa using hs
          have HS := Lib.hid (show r.epoch < 1 ∨ 1099511627776 < r.epoch by unfold smallP at hs; simp at hs; omega)
          clear hs he
          go_wp2
          go_ret
          exact ⟨ret_int (by rw [HSP.out, if_pos HS.out]), HB3.out.alloc (by have := HB3.out.size; omega) _⟩
    · have hg5 : decide (sameRs r (⟨r.kind, r.id, 0, r.epoch, [], st0⟩)) = false := decide_eq_false hg2
      have HG2 := Lib.hid (show spareP r from (spare_own HKR.out).2 (by rw [HOWN.out]; exact hg2))
      clear hg2
      go_wp2
      go_ret
      exact ⟨ret_int (checkRs_bad HKR.out (.inr HG2.out)).symm, HB3.out⟩
  · have hg4 : (!smallP r.id) = true := by simpa using hg1
    have HG1 := Lib.hid (show smallP r.id = false by simpa using hg1)
    clear hg1
    go_wp2
    go_ret
    exact ⟨ret_int (checkRs_bad HKR.out (.inl HG1.out)).symm, HB2.out.alloc (by have := HB2.out.size; omega) _⟩
set_option maxHeartbeats 4000000 in
set_option maxRecDepth 100000 in
theorem checks_done (A : Option Addr) (n c : Nat) (r : Rs) (hk : r.kind = 3) (W : World) (hl : r.rows.length = n) (hr : RowsRd W A r.rows) (hn : n ≤ 9223372036854775807) :
    Calls Tryz.prog 84 #[.agg (rsC (.slice A n c) r)] W fun e w' => e = .returned (.int .i64 (checkRs r)) ∧ Below W.heap.size W w' := by
  have CA := Lib.hid (fun W' => tells_done A n c r hk W')
  have CS := Lib.hid (fun W' (hb : Below W.heap.size W W') => same_rs A none n 0 c 0 r ⟨r.kind, r.id, 0, 0, [], st0⟩ W' hl rfl (hr.below hb) (fun k hk => absurd hk (Nat.not_lt_zero _)) hn (by omega))
  have HB1 := Lib.hid (show Below W.heap.size W (W.alloc (.cells (rsC (.slice A n c) r) 71)) from (Below.refl _ _).alloc (Nat.le_refl _) _)
  have HK1 := Lib.hid (show Blk (W.alloc (.cells (rsC (.slice A n c) r) 71)) W.heap.size 71 (rsC (.slice A n c) r) from Blk.new _ _ _)
  have HK := Lib.hid hk
  have HR := Lib.hid hr
  have HL := Lib.hid hl
  have HKR := Lib.hid (show 1 ≤ r.kind ∧ r.kind ≤ 5 by omega)
  have HOWN := Lib.hid (show ownRs r = ⟨r.kind, r.id, 0, 0, [], st0⟩ by unfold ownRs; rw [if_neg (by omega), if_neg (by omega), if_pos hk])
  have t1 := ta_bare_rows
  have t2 := ta_bare_epoch
  have t3 := ta_bare_stats
  have t4 := ta_bare_failed
  clear hk hl hr
  go_enter Tryz.func84, Tryz.ntmps84
  go_wp2_with fail
  go_at_call 86; (with_reducible refine (CA.out _).mono ?_); rintro e w1 ⟨rfl, hb⟩
  have HB2 := Lib.hid (HB1.out.trans (hb.mono HB1.out.size))
  have HK2 := Lib.hid (HK1.out.kept hb)
  have hlt := HK2.out.lt
  clear hb
  have hc := HK2.out.cell
  go_wp2_with fail
  go_at_call 118; (with_reducible refine (small_any _ _).mono ?_); rintro e w2 ⟨rfl, rfl⟩
  by_cases hg1 : smallP r.id = true
  · have hg4 : (!smallP r.id) = false := by rw [hg1]; rfl
    have HG1 := Lib.hid hg1
    clear hg1
    go_wp2_with fail
    go_at_call 128; (with_reducible refine (CS.out _ (HB2.out.alloc (by have := HB2.out.size; omega) _)).mono ?_); rintro e w3 ⟨rfl, hb⟩
    have HB3 := Lib.hid ((HB2.out.alloc (by have := HB2.out.size; omega) _).trans (hb.mono (by simp; have := HB2.out.size; omega)))
    clear hc hb
    by_cases hg2 : sameRs r (⟨r.kind, r.id, 0, 0, [], st0⟩)
    · have hg5 : decide (sameRs r (⟨r.kind, r.id, 0, 0, [], st0⟩)) = true := decide_eq_true hg2
      have HG2 := Lib.hid (show sameRs r (ownRs r) by rw [HOWN.out]; exact hg2)
      clear hg2
      have HSP := Lib.hid (show checkRs r = 0 by rw [good_other (by have := HK.out; omega) HG1.out HG2.out, if_neg (by have := HK.out; omega), if_neg (by have := HK.out; omega), if_neg (by have := HK.out; omega)])
      go_wp2
      go_ret
      exact ⟨ret_int HSP.out.symm, HB3.out⟩
    · have hg5 : decide (sameRs r (⟨r.kind, r.id, 0, 0, [], st0⟩)) = false := decide_eq_false hg2
      have HG2 := Lib.hid (show spareP r from (spare_own HKR.out).2 (by rw [HOWN.out]; exact hg2))
      clear hg2
      go_wp2
      go_ret
      exact ⟨ret_int (checkRs_bad HKR.out (.inr HG2.out)).symm, HB3.out⟩
  · have hg4 : (!smallP r.id) = true := by simpa using hg1
    have HG1 := Lib.hid (show smallP r.id = false by simpa using hg1)
    clear hg1
    go_wp2
    go_ret
    exact ⟨ret_int (checkRs_bad HKR.out (.inl HG1.out)).symm, HB2.out.alloc (by have := HB2.out.size; omega) _⟩
set_option maxHeartbeats 4000000 in
set_option maxRecDepth 100000 in
theorem checks_error (A : Option Addr) (n c : Nat) (r : Rs) (hk : r.kind = 5) (W : World) (hl : r.rows.length = n) (hr : RowsRd W A r.rows) (hn : n ≤ 9223372036854775807) :
    Calls Tryz.prog 84 #[.agg (rsC (.slice A n c) r)] W fun e w' => e = .returned (.int .i64 (checkRs r)) ∧ Below W.heap.size W w' := by
  have CA := Lib.hid (fun W' => tells_error A n c r hk W')
  have CS := Lib.hid (fun W' (hb : Below W.heap.size W W') => same_rs A none n 0 c 0 r ⟨r.kind, r.id, r.err, 0, [], st0⟩ W' hl rfl (hr.below hb) (fun k hk => absurd hk (Nat.not_lt_zero _)) hn (by omega))
  have HB1 := Lib.hid (show Below W.heap.size W (W.alloc (.cells (rsC (.slice A n c) r) 71)) from (Below.refl _ _).alloc (Nat.le_refl _) _)
  have HK1 := Lib.hid (show Blk (W.alloc (.cells (rsC (.slice A n c) r) 71)) W.heap.size 71 (rsC (.slice A n c) r) from Blk.new _ _ _)
  have HK := Lib.hid hk
  have HR := Lib.hid hr
  have HL := Lib.hid hl
  have HKR := Lib.hid (show 1 ≤ r.kind ∧ r.kind ≤ 5 by omega)
  have HOWN := Lib.hid (show ownRs r = ⟨r.kind, r.id, r.err, 0, [], st0⟩ by unfold ownRs; rw [if_neg (by omega), if_neg (by omega), if_neg (by omega), if_neg (by omega)])
  have t1 := ta_failed_rows
  have t2 := ta_failed_epoch
  have t3 := ta_failed_stats
  have t4 := ta_failed
  clear hk hl hr
  go_enter Tryz.func84, Tryz.ntmps84
  go_wp2_with fail
  go_at_call 86; (with_reducible refine (CA.out _).mono ?_); rintro e w1 ⟨rfl, hb⟩
  have HB2 := Lib.hid (HB1.out.trans (hb.mono HB1.out.size))
  have HK2 := Lib.hid (HK1.out.kept hb)
  have hlt := HK2.out.lt
  clear hb
  have hc := HK2.out.cell
  go_wp2_with fail
  go_at_call 118; (with_reducible refine (small_any _ _).mono ?_); rintro e w2 ⟨rfl, rfl⟩
  by_cases hg1 : smallP r.id = true
  · have hg4 : (!smallP r.id) = false := by rw [hg1]; rfl
    have HG1 := Lib.hid hg1
    clear hg1
    go_wp2_with fail
    go_at_call 128; (with_reducible refine (CS.out _ (HB2.out.alloc (by have := HB2.out.size; omega) _)).mono ?_); rintro e w3 ⟨rfl, hb⟩
    have HB3 := Lib.hid ((HB2.out.alloc (by have := HB2.out.size; omega) _).trans (hb.mono (by simp; have := HB2.out.size; omega)))
    clear hc hb
    by_cases hg2 : sameRs r (⟨r.kind, r.id, r.err, 0, [], st0⟩)
    · have hg5 : decide (sameRs r (⟨r.kind, r.id, r.err, 0, [], st0⟩)) = true := decide_eq_true hg2
      have HG2 := Lib.hid (show sameRs r (ownRs r) by rw [HOWN.out]; exact hg2)
      clear hg2
      have HSP := Lib.hid (show checkRs r = if r.err < 1 ∨ 255 < r.err then 16 else 0 by rw [good_other (by have := HK.out; omega) HG1.out HG2.out, if_neg (by have := HK.out; omega), if_neg (by have := HK.out; omega), if_pos HK.out])
      go_wp2
      all_goals
        go_ret
        refine ⟨ret_int ?_, HB3.out.alloc (by have := HB3.out.size; omega) _⟩
        rw [HSP.out]
        first | rw [if_pos (by omega)] | rw [if_neg (by omega)]
    · have hg5 : decide (sameRs r (⟨r.kind, r.id, r.err, 0, [], st0⟩)) = false := decide_eq_false hg2
      have HG2 := Lib.hid (show spareP r from (spare_own HKR.out).2 (by rw [HOWN.out]; exact hg2))
      clear hg2
      go_wp2
      go_ret
      exact ⟨ret_int (checkRs_bad HKR.out (.inr HG2.out)).symm, HB3.out⟩
  · have hg4 : (!smallP r.id) = true := by simpa using hg1
    have HG1 := Lib.hid (show smallP r.id = false by simpa using hg1)
    clear hg1
    go_wp2
    go_ret
    exact ⟨ret_int (checkRs_bad HKR.out (.inl HG1.out)).symm, HB2.out.alloc (by have := HB2.out.size; omega) _⟩
set_option maxHeartbeats 4000000 in
set_option maxRecDepth 100000 in
theorem checks_stats (A : Option Addr) (n c : Nat) (r : Rs) (hk : r.kind = 4) (W : World) (hl : r.rows.length = n) (hr : RowsRd W A r.rows) (hn : n ≤ 9223372036854775807) :
    Calls Tryz.prog 84 #[.agg (rsC (.slice A n c) r)] W fun e w' => e = .returned (.int .i64 (checkRs r)) ∧ Below W.heap.size W w' := by
  have CA := Lib.hid (fun W' => tells_stats A n c r hk W')
  have CS := Lib.hid (fun W' (hb : Below W.heap.size W W') => same_rs A none n 0 c 0 r ⟨r.kind, r.id, 0, 0, [], r.st⟩ W' hl rfl (hr.below hb) (fun k hk => absurd hk (Nat.not_lt_zero _)) hn (by omega))
  have HB1 := Lib.hid (show Below W.heap.size W (W.alloc (.cells (rsC (.slice A n c) r) 71)) from (Below.refl _ _).alloc (Nat.le_refl _) _)
  have HK1 := Lib.hid (show Blk (W.alloc (.cells (rsC (.slice A n c) r) 71)) W.heap.size 71 (rsC (.slice A n c) r) from Blk.new _ _ _)
  have HK := Lib.hid hk
  have HR := Lib.hid hr
  have HL := Lib.hid hl
  have HKR := Lib.hid (show 1 ≤ r.kind ∧ r.kind ≤ 5 by omega)
  have HOWN := Lib.hid (show ownRs r = ⟨r.kind, r.id, 0, 0, [], r.st⟩ by unfold ownRs; rw [if_neg (by omega), if_neg (by omega), if_neg (by omega), if_pos hk])
  have t1 := ta_stats_rows
  have t2 := ta_stats_epoch
  have t3 := ta_stats
  clear hk hl hr
  go_enter Tryz.func84, Tryz.ntmps84
  go_wp2_with fail
  go_at_call 86; (with_reducible refine (CA.out _).mono ?_); rintro e w1 ⟨rfl, hb⟩
  have HB2 := Lib.hid (HB1.out.trans (hb.mono HB1.out.size))
  have HK2 := Lib.hid (HK1.out.kept hb)
  have hlt := HK2.out.lt
  clear hb
  have hc := HK2.out.cell
  go_wp2_with fail
  go_at_call 118; (with_reducible refine (small_any _ _).mono ?_); rintro e w2 ⟨rfl, rfl⟩
  by_cases hg1 : smallP r.id = true
  · have hg4 : (!smallP r.id) = false := by rw [hg1]; rfl
    have HG1 := Lib.hid hg1
    clear hg1
    go_wp2_with fail
    go_at_call 128; (with_reducible refine (CS.out _ (HB2.out.alloc (by have := HB2.out.size; omega) _)).mono ?_); rintro e w3 ⟨rfl, hb⟩
    have HB3 := Lib.hid ((HB2.out.alloc (by have := HB2.out.size; omega) _).trans (hb.mono (by simp; have := HB2.out.size; omega)))
    clear hc hb
    by_cases hg2 : sameRs r (⟨r.kind, r.id, 0, 0, [], r.st⟩)
    · have hg5 : decide (sameRs r (⟨r.kind, r.id, 0, 0, [], r.st⟩)) = true := decide_eq_true hg2
      have HG2 := Lib.hid (show sameRs r (ownRs r) by rw [HOWN.out]; exact hg2)
      clear hg2
      have HSP := Lib.hid (show checkRs r = stP r.st by rw [good_other (by have := HK.out; omega) HG1.out HG2.out, if_neg (by have := HK.out; omega), if_pos HK.out])
      go_wp2
      have HX := Lib.hid (show ∀ k (h : k < (stL r.st).length), ((w3.alloc (.cells #[.int .i64 r.st.taken, .int .i64 r.st.late, .int .i64 r.st.over, .int .i64 r.st.full, .int .i64 r.st.cells, .int .i64 r.st.now] 179)).alloc (.cells #[.int .i64 r.st.taken, .int .i64 r.st.late, .int .i64 r.st.over, .int .i64 r.st.full, .int .i64 r.st.cells, .int .i64 r.st.now] 3)).cell? ⟨w3.heap.size + 1, k, none⟩ = some (.int .i64 (stL r.st)[k]) from fun k h => by
        have hb := Blk.new (w3.alloc (.cells #[.int .i64 r.st.taken, .int .i64 r.st.late, .int .i64 r.st.over, .int .i64 r.st.full, .int .i64 r.st.cells, .int .i64 r.st.now] 179)) 3 #[.int .i64 r.st.taken, .int .i64 r.st.late, .int .i64 r.st.over, .int .i64 r.st.full, .int .i64 r.st.cells, .int .i64 r.st.now]
        have hs : (w3.alloc (.cells #[.int .i64 r.st.taken, .int .i64 r.st.late, .int .i64 r.st.over, .int .i64 r.st.full, .int .i64 r.st.cells, .int .i64 r.st.now] 179)).heap.size = w3.heap.size + 1 := by simp
        rw [hs] at hb
        rw [hb.cell k]
        have h : k < 6 := h
        match k, h with
        | 0, _ => rfl
        | 1, _ => rfl
        | 2, _ => rfl
        | 3, _ => rfl
        | 4, _ => rfl
        | 5, _ => rfl)
      have HB5 := Lib.hid ((HB3.out.alloc (o := .cells #[.int .i64 r.st.taken, .int .i64 r.st.late, .int .i64 r.st.over, .int .i64 r.st.full, .int .i64 r.st.cells, .int .i64 r.st.now] 179) (by have := HB3.out.size; omega)).alloc (o := .cells #[.int .i64 r.st.taken, .int .i64 r.st.late, .int .i64 r.st.over, .int .i64 r.st.full, .int .i64 r.st.cells, .int .i64 r.st.now] 3) (by have := HB3.out.size; simp; omega))
      generalize (w3.alloc (.cells #[.int .i64 r.st.taken, .int .i64 r.st.late, .int .i64 r.st.over, .int .i64 r.st.full, .int .i64 r.st.cells, .int .i64 r.st.now] 179)).alloc (.cells #[.int .i64 r.st.taken, .int .i64 r.st.late, .int .i64 r.st.over, .int .i64 r.st.full, .int .i64 r.st.cells, .int .i64 r.st.now] 3) = w5 at HX HB5 ⊢
      go_loop [115] (fun t115 => ∃ k : Nat, t115 = .int .i64 (k : Int) ∧ k ≤ 6 ∧ Hid (∀ x ∈ (stL r.st).take k, smallP x = true)) (fun t115 => 6 - (intOf t115).toNat)
      case atStart => exact ⟨0, rfl, Nat.zero_le _, Lib.hid (fun x hx => by simp at hx)⟩
      case round =>
        obtain ⟨k, rfl, hk, HP⟩ := hrel
        by_cases hk6 : k < 6
        · have hkl : k < (stL r.st).length := hk6
          have hx0 := HX.out k hkl
          have HM := Lib.hid (List.getElem_mem hkl)
          have HT := Lib.hid (take_succ_c (stL r.st) k hkl)
          generalize (stL r.st)[k] = x at *
          go_wp2_with fail
          go_at_call 118; (with_reducible refine (small_any _ _).mono ?_); rintro e w6 ⟨rfl, rfl⟩
          by_cases hs : smallP x = true
          · have hs2 : (!smallP x) = false := by rw [hs]; rfl
            have HS := Lib.hid hs
            clear hs
            go_wp2
            go_round
            case rel => exact ⟨k + 1, by go_num, by omega, Lib.hid (fun y hy => by
              rw [HT.out] at hy
              rcases List.mem_append.1 hy with h | h
              · exact HP.out y h
              · rw [List.mem_singleton] at h; subst h; exact HS.out)⟩
            case measure => simp [intOf]; omega
          · have hs2 : (!smallP x) = true := by simpa using hs
            have HS := Lib.hid (show smallP x = false by simpa using hs)
            clear hs
            go_wp2
            go_ret
            exact ⟨ret_int (by rw [HSP.out]; exact (stP_bad HM.out HS.out).symm), HB5.out⟩
        · have HS := Lib.hid (show stP r.st = 0 from stP_ok (fun x hx => HP.out x (by rw [List.take_of_length_le (by show 6 ≤ k; omega)]; exact hx)))
          go_wp2
          go_ret
          exact ⟨ret_int (by rw [HSP.out, HS.out]), HB5.out⟩
    · have hg5 : decide (sameRs r (⟨r.kind, r.id, 0, 0, [], r.st⟩)) = false := decide_eq_false hg2
      have HG2 := Lib.hid (show spareP r from (spare_own HKR.out).2 (by rw [HOWN.out]; exact hg2))
      clear hg2
      go_wp2
      go_ret
      exact ⟨ret_int (checkRs_bad HKR.out (.inr HG2.out)).symm, HB3.out⟩
  · have hg4 : (!smallP r.id) = true := by simpa using hg1
    have HG1 := Lib.hid (show smallP r.id = false by simpa using hg1)
    clear hg1
    go_wp2
    go_ret
    exact ⟨ret_int (checkRs_bad HKR.out (.inl HG1.out)).symm, HB2.out.alloc (by have := HB2.out.size; omega) _⟩
set_option maxHeartbeats 4000000 in
set_option maxRecDepth 100000 in
theorem checks_rows (A : Option Addr) (n c : Nat) (r : Rs) (hk : r.kind = 1) (W : World) (hl : r.rows.length = n) (hr : RowsRd W A r.rows) (hn : n ≤ 9223372036854775807) (hks : ∀ x ∈ r.rows, x.cell.key.size ≤ 9223372036854775807) :
    Calls Tryz.prog 84 #[.agg (rsC (.slice A n c) r)] W fun e w' => e = .returned (.int .i64 (checkRs r)) ∧ Below W.heap.size W w' := by
  have CA := Lib.hid (fun W' => tells_rows A n c r hk W')
  have CS := Lib.hid (fun W' (hb : Below W.heap.size W W') => same_rs A A n n c c r ⟨r.kind, r.id, 0, 0, r.rows, st0⟩ W' hl hl (hr.below hb) (hr.below hb) hn hn)
  have HB1 := Lib.hid (show Below W.heap.size W (W.alloc (.cells (rsC (.slice A n c) r) 71)) from (Below.refl _ _).alloc (Nat.le_refl _) _)
  have HK1 := Lib.hid (show Blk (W.alloc (.cells (rsC (.slice A n c) r) 71)) W.heap.size 71 (rsC (.slice A n c) r) from Blk.new _ _ _)
  have HK := Lib.hid hk
  have HR := Lib.hid hr
  have HL := Lib.hid hl
  have HKR := Lib.hid (show 1 ≤ r.kind ∧ r.kind ≤ 5 by omega)
  have HOWN := Lib.hid (show ownRs r = ⟨r.kind, r.id, 0, 0, r.rows, st0⟩ by unfold ownRs; rw [if_pos hk])
  have t1 := ta_rows
  have HKS := Lib.hid hks
  clear hks
  clear hk hl hr
  go_enter Tryz.func84, Tryz.ntmps84
  go_wp2_with fail
  go_at_call 86; (with_reducible refine (CA.out _).mono ?_); rintro e w1 ⟨rfl, hb⟩
  have HB2 := Lib.hid (HB1.out.trans (hb.mono HB1.out.size))
  have HK2 := Lib.hid (HK1.out.kept hb)
  have hlt := HK2.out.lt
  clear hb
  have hc := HK2.out.cell
  go_wp2_with fail
  go_at_call 118; (with_reducible refine (small_any _ _).mono ?_); rintro e w2 ⟨rfl, rfl⟩
  by_cases hg1 : smallP r.id = true
  · have hg4 : (!smallP r.id) = false := by rw [hg1]; rfl
    have HG1 := Lib.hid hg1
    clear hg1
    go_wp2_with fail
    go_at_call 128; (with_reducible refine (CS.out _ (HB2.out.alloc (by have := HB2.out.size; omega) _)).mono ?_); rintro e w3 ⟨rfl, hb⟩
    have HB3 := Lib.hid ((HB2.out.alloc (by have := HB2.out.size; omega) _).trans (hb.mono (by simp; have := HB2.out.size; omega)))
    clear hc hb
    by_cases hg2 : sameRs r (⟨r.kind, r.id, 0, 0, r.rows, st0⟩)
    · have hg5 : decide (sameRs r (⟨r.kind, r.id, 0, 0, r.rows, st0⟩)) = true := decide_eq_true hg2
      have HG2 := Lib.hid (show sameRs r (ownRs r) by rw [HOWN.out]; exact hg2)
      clear hg2
      have HSP := Lib.hid (good_rows HK.out HG1.out HG2.out)
      rw [HL.out] at HSP
      have HB4 := Lib.hid (HB3.out.alloc (o := .cells #[.slice A n c] 172) HB3.out.size)
      by_cases h16 : 256 < n
      · go_wp2
        go_ret
        exact ⟨ret_int (by rw [HSP.out, if_pos h16]), HB4.out⟩
      · have HSP2 := Lib.hid (show checkRs r = firstR r.rows by rw [HSP.out, if_neg h16])
        go_wp2
        go_loopw [44] (fun t44 wz => ∃ k : Nat, t44 = .int .i64 (k : Int) ∧ k ≤ n ∧ Hid (firstR (r.rows.take k) = 0 ∧ Below W.heap.size W wz)) (fun t44 _ => n - (intOf t44).toNat)
        case atStart => exact ⟨0, rfl, Nat.zero_le _, Lib.hid ⟨rfl, HB4.out⟩⟩
        case round =>
          obtain ⟨k, rfl, hk, HP⟩ := hrel
          rename World => wz
          by_cases hkn : k < n
          · have hkx : k < r.rows.length := by rw [HL.out]; exact hkn
            obtain ⟨ad, rfl, a0, a1, a2, a3, a4, a5, a6⟩ := HR.out.at HP.out.2 k hkx
            have HC := Lib.hid (fun W' => ccell_any r.rows[k].cell W' (HKS.out _ (List.getElem_mem hkx)))
            have HH := Lib.hid (firstR_hit k r.rows hkx HP.out.1)
            have HX := Lib.hid (firstR_next k r.rows hkx HP.out.1)
            have HBZ := Lib.hid (HP.out.2.alloc HP.out.2.size (.cells #[.int .i64 r.rows[k].cell.view, .string r.rows[k].cell.key, .int .i64 r.rows[k].cell.start, .int .i64 r.rows[k].count, .int .i64 r.rows[k].sum, .int .i64 r.rows[k].min, .int .i64 r.rows[k].max] 123))
            generalize r.rows[k] = x at *
            have HKX := Lib.hid (Blk.new wz 123 #[.int .i64 x.cell.view, .string x.cell.key, .int .i64 x.cell.start, .int .i64 x.count, .int .i64 x.sum, .int .i64 x.min, .int .i64 x.max])
            go_wp2_with fail
            go_at_call 119; (with_reducible refine (HC.out _).mono ?_); rintro e w5 ⟨rfl, hb⟩
            have HB5 := Lib.hid (HBZ.out.trans (hb.mono HBZ.out.size))
            have HK5 := Lib.hid (HKX.out.kept hb)
            have hc5 := HK5.out.cell
            clear hb
            by_cases hp : placeP x.cell 3 1 = 0
            · have hp2 : (placeP x.cell 3 1 != 0) = false := by simpa using hp
              have HPL := Lib.hid hp
              have hag := neqAgg x.count x.sum x.min x.max
              clear hp
              by_cases hbad : rowBad x
              · have HNX := Lib.hid (show firstR r.rows = 16 by rw [HH.out (by rw [rowP_bad HPL.out hbad]; decide), rowP_bad HPL.out hbad])
                have hor : x.count < 0 ∨ (¬ x.count < 0 ∧ (x.count == 0) = true ∧ decide (x.count = 0 ∧ x.sum = 0 ∧ x.min = 0 ∧ x.max = 0) = false) ∨ (¬ x.count < 0 ∧ (x.count == 0) = false ∧ x.max < x.min) ∨ (¬ x.count < 0 ∧ (x.count == 0) = true ∧ decide (x.count = 0 ∧ x.sum = 0 ∧ x.min = 0 ∧ x.max = 0) = true ∧ x.max < x.min) := by
                  unfold rowBad at hbad
                  simp only [beq_iff_eq, beq_eq_false_iff_ne, decide_eq_false_iff_not, decide_eq_true_eq]
                  omega
                clear hbad
                rcases hor with h1 | ⟨h1, h2, h3⟩ | ⟨h1, h2, h3⟩ | ⟨h1, h2, h3, h4⟩
                all_goals
                  try rw [h3] at hag
                  go_wp2
                  go_ret
                  exact ⟨ret_int (by rw [HSP2.out, HNX.out]), HB5.out⟩
              · have HNX := Lib.hid (HX.out (rowP_ok HPL.out hbad))
                have hor : (¬ x.count < 0 ∧ (x.count == 0) = false ∧ ¬ x.max < x.min) ∨ (¬ x.count < 0 ∧ (x.count == 0) = true ∧ decide (x.count = 0 ∧ x.sum = 0 ∧ x.min = 0 ∧ x.max = 0) = true ∧ ¬ x.max < x.min) := by
                  unfold rowBad at hbad
                  simp only [beq_iff_eq, beq_eq_false_iff_ne, decide_eq_true_eq]
                  omega
                clear hbad
                rcases hor with ⟨h1, h2, h3⟩ | ⟨h1, h2, h3, h4⟩
                all_goals
                  try rw [h3] at hag
                  go_wp2
                  go_roundw
                  case rel => exact ⟨k + 1, by go_num, by omega, Lib.hid ⟨HNX.out, HB5.out⟩⟩
                  case measure => simp [intOf]; omega
            · have hp2 : (placeP x.cell 3 1 != 0) = true := by simpa using hp
              have HNX := Lib.hid (show firstR r.rows = placeP x.cell 3 1 by rw [HH.out (by rw [rowP_cell hp]; exact hp), rowP_cell hp])
              clear hp
              go_wp2
              go_ret
              exact ⟨ret_int (by rw [HSP2.out, HNX.out]), HB5.out⟩
          · have HE := Lib.hid (show firstR r.rows = 0 by
              have h := HP.out.1
              rwa [List.take_of_length_le (by rw [HL.out]; omega)] at h)
            go_wp2
            go_ret
            exact ⟨ret_int (by rw [HSP2.out, HE.out]), HP.out.2⟩
    · have hg5 : decide (sameRs r (⟨r.kind, r.id, 0, 0, r.rows, st0⟩)) = false := decide_eq_false hg2
      have HG2 := Lib.hid (show spareP r from (spare_own HKR.out).2 (by rw [HOWN.out]; exact hg2))
      clear hg2
      go_wp2
      go_ret
      exact ⟨ret_int (checkRs_bad HKR.out (.inr HG2.out)).symm, HB3.out⟩
  · have hg4 : (!smallP r.id) = true := by simpa using hg1
    have HG1 := Lib.hid (show smallP r.id = false by simpa using hg1)
    clear hg1
    go_wp2
    go_ret
    exact ⟨ret_int (checkRs_bad HKR.out (.inl HG1.out)).symm, HB2.out.alloc (by have := HB2.out.size; omega) _⟩
set_option maxRecDepth 100000 in
theorem checks_none (A : Option Addr) (n c : Nat) (r : Rs) (hk : r.kind < 1 ∨ 5 < r.kind) (W : World) :
    Calls Tryz.prog 84 #[.agg (rsC (.slice A n c) r)] W fun e w' => e = .returned (.int .i64 (checkRs r)) ∧ Below W.heap.size W w' := by
  have CA := Lib.hid (fun W' => tells_none A n c r hk W')
  have HB1 := Lib.hid (show Below W.heap.size W (W.alloc (.cells (rsC (.slice A n c) r) 71)) from (Below.refl _ _).alloc (Nat.le_refl _) _)
  have HF := Lib.hid (checkRs_none hk)
  clear hk
  go_enter Tryz.func84, Tryz.ntmps84
  go_wp2_with fail
  go_at_call 86; (with_reducible refine (CA.out _).mono ?_); rintro e w1 ⟨rfl, hb⟩
  have HB2 := Lib.hid (HB1.out.trans (hb.mono HB1.out.size))
  clear hb
  go_wp2
  go_ret
  exact ⟨ret_int HF.out.symm, HB2.out.alloc HB2.out.size _⟩
/-- A response's strings are shorter than any machine's. -/
def RsOk (r : Rs) : Prop := ∀ x ∈ r.rows, x.cell.key.size ≤ 9223372036854775807
theorem check_rs (A : Option Addr) (n c : Nat) (r : Rs) (W : World) (hl : r.rows.length = n) (hr : RowsRd W A r.rows) (hn : n ≤ 9223372036854775807) (hok : RsOk r) :
    Calls Tryz.prog 84 #[.agg (rsC (.slice A n c) r)] W fun e w' => e = .returned (.int .i64 (checkRs r)) ∧ Below W.heap.size W w' := by
  by_cases h0 : r.kind < 1 ∨ 5 < r.kind
  · exact checks_none A n c r h0 W
  · obtain h | h | h | h | h : r.kind = 1 ∨ r.kind = 2 ∨ r.kind = 3 ∨ r.kind = 4 ∨ r.kind = 5 := by omega
    · exact checks_rows A n c r h W hl hr hn hok
    · exact checks_epoch A n c r h W hl hr hn
    · exact checks_done A n c r h W hl hr hn
    · exact checks_stats A n c r h W hl hr hn
    · exact checks_error A n c r h W hl hr hn
end Go.Proofs.YtglbdbghcdoicaaGreatDoor
