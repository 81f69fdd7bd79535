/- CheckRequest: the walk. -/
import Derived.Test.YtglbdbghcdoicaaGreatDoorCAssert
import Derived.Test.YtglbdbghcdoicaaGreatDoorCCheckP
namespace Go.Proofs.YtglbdbghcdoicaaGreatDoor
open Go.RowKit

theorem firstP_hit : ∀ (k : Nat) (cs : List CellV) (hk : k < cs.length), firstP (cs.take k) = 0 → placeP cs[k] 3 1 ≠ 0 → firstP cs = placeP cs[k] 3 1
  | 0, c :: cs, _, _, h => by unfold firstP; rw [if_neg (by simpa using h)]; rfl
  | k + 1, c :: cs, hk, h0, h => by
    simp only [List.take_succ_cons, firstP] at h0
    unfold firstP
    by_cases e : placeP c 3 1 = 0
    · rw [if_pos e] at h0 ⊢
      exact firstP_hit k cs (by simpa using hk) h0 (by simpa using h)
    · rw [if_neg e] at h0
      exact absurd h0 e
theorem firstP_next : ∀ (k : Nat) (cs : List CellV) (hk : k < cs.length), firstP (cs.take k) = 0 → placeP cs[k] 3 1 = 0 → firstP (cs.take (k + 1)) = 0
  | 0, c :: cs, _, _, h => by
    have h : placeP c 3 1 = 0 := h
    simp [firstP, h]
  | k + 1, c :: cs, hk, h0, h => by
    simp only [List.take_succ_cons, firstP] at h0 ⊢
    by_cases e : placeP c 3 1 = 0
    · rw [if_pos e] at h0 ⊢
      exact firstP_next k cs (by simpa using hk) h0 (by simpa using h)
    · rw [if_neg e] at h0
      exact absurd h0 e
set_option maxHeartbeats 4000000 in
set_option maxRecDepth 100000 in
theorem check_epoch (A : Option Addr) (n c : Nat) (q : Rq) (hk : q.kind = 5 ∨ q.kind = 6) (W : World) (hl : q.cs.length = n) (hr : CellsRd W A q.cs) (hn : n ≤ 9223372036854775807) :
    Calls Tryz.prog 76 #[.agg (rqC (.slice A n c) q)] W fun e w' => e = .returned (.int .i64 (checkRq q)) ∧ Below W.heap.size W w' := by
  have CA := Lib.hid (fun W' => asks_epoch A n c q hk W')
  have CS := Lib.hid (fun W' (hb : Below W.heap.size W W') => same_rq A none n 0 c 0 q ⟨q.kind, q.id, q.epoch, [], cell0, cell0, 0⟩ W' hl rfl (hr.below hb) (fun k hk => absurd hk (Nat.not_lt_zero _)) hn (by omega))
  have HB1 := Lib.hid (show Below W.heap.size W (W.alloc (.cells (rqC (.slice A n c) q) 43)) from (Below.refl _ _).alloc (Nat.le_refl _) _)
  have HK1 := Lib.hid (show Blk (W.alloc (.cells (rqC (.slice A n c) q) 43)) W.heap.size 43 (rqC (.slice A n c) q) from Blk.new _ _ _)
  have HK := Lib.hid hk
  have HR := Lib.hid hr
  have HL := Lib.hid hl
  have HKR := Lib.hid (show 1 ≤ q.kind ∧ q.kind ≤ 7 by omega)
  have t1 := ta_epoch_cells
  have t2 := ta_epoch_scan
  have t3 := ta_epoch
  clear hk hl hr
  go_enter Tryz.func76, Tryz.ntmps76
  go_wp2_with fail
  go_at_call 117; (with_reducible refine (CA.out _).mono ?_); rintro e w1 ⟨rfl, hb⟩
  have HB2 := Lib.hid (HB1.out.trans (hb.mono HB1.out.size))
  have HK2 := Lib.hid (HK1.out.kept hb)
  have hlt := HK2.out.lt
  clear hb
  have hc := HK2.out.cell
  go_wp2_with fail
  go_at_call 118; (with_reducible refine (small_any _ _).mono ?_); rintro e w2 ⟨rfl, rfl⟩
  go_wp2_with fail
  · go_at_call 50; (with_reducible refine (CS.out _ (HB2.out.alloc (by have := HB2.out.size; omega) _)).mono ?_); rintro e w3 ⟨rfl, hb⟩
    have HB3 := Lib.hid ((HB2.out.alloc (by have := HB2.out.size; omega) _).trans (hb.mono (by simp; have := HB2.out.size; omega)))
    have HK3 := Lib.hid ((HK2.out.alloc _).kept hb)
    have hc3 := HK3.out.cell
    clear hc hb
    have hlt3 := HK3.out.lt
    go_wp2_with fail
    · go_at_call 118; (with_reducible refine (small_any _ _).mono ?_); rintro e w4 ⟨rfl, rfl⟩
      have HG1 := Lib.hid (show smallP q.id = true by assumption)
      have HG2 := Lib.hid (show sameRq q ⟨q.kind, q.id, q.epoch, [], cell0, cell0, 0⟩ by assumption)
      by_cases hg3 : smallP q.epoch = true
      · have HG3 := Lib.hid hg3
        have hg4 : (!smallP q.epoch) = false := by rw [hg3]; rfl
        clear hg3
        by_cases he : q.epoch = 0
        · have he2 : (q.epoch == 0) = true := by simpa using he
          have HE := Lib.hid he
          clear he
          go_wp2
          go_ret
          exact ⟨ret_int (by rw [good_epoch HK.out HG1.out HG2.out HG3.out, if_pos HE.out]), (HB3.out.alloc (by have := HB3.out.size; omega) _)⟩
        · have he2 : (q.epoch == 0) = false := by simpa using he
          have HE := Lib.hid he
          clear he
          go_wp2
          go_ret
          exact ⟨ret_int (by rw [good_epoch HK.out HG1.out HG2.out HG3.out, if_neg HE.out]), (HB3.out.alloc (by have := HB3.out.size; omega) _)⟩
      · have hg4 : (!smallP q.epoch) = true := by simpa using hg3
        have HG3 := Lib.hid (show smallP q.epoch = false by simpa using hg3)
        clear hg3
        go_wp2
        go_ret
        exact ⟨ret_int (checkRq_bad HKR.out (.inr (.inr HG3.out))).symm, HB3.out⟩
    · have HG2 := Lib.hid ((unused_epoch HK.out).2 (by assumption))
      go_ret
      exact ⟨ret_int (checkRq_bad HKR.out (.inr (.inl HG2.out))).symm, HB3.out⟩
  · have HG1 := Lib.hid (show smallP q.id = false by simpa using (show ¬ smallP q.id = true by assumption))
    go_ret
    exact ⟨ret_int (checkRq_bad HKR.out (.inl HG1.out)).symm, HB2.out.alloc (by have := HB2.out.size; omega) _⟩
set_option maxHeartbeats 4000000 in
set_option maxRecDepth 100000 in
theorem check_bare (A : Option Addr) (n c : Nat) (q : Rq) (hk : q.kind = 4 ∨ q.kind = 7) (W : World) (hl : q.cs.length = n) (hr : CellsRd W A q.cs) (hn : n ≤ 9223372036854775807) :
    Calls Tryz.prog 76 #[.agg (rqC (.slice A n c) q)] W fun e w' => e = .returned (.int .i64 (checkRq q)) ∧ Below W.heap.size W w' := by
  have CA := Lib.hid (fun W' => asks_bare A n c q hk W')
  have CS := Lib.hid (fun W' (hb : Below W.heap.size W W') => same_rq A none n 0 c 0 q ⟨q.kind, q.id, 0, [], cell0, cell0, 0⟩ W' hl rfl (hr.below hb) (fun k hk => absurd hk (Nat.not_lt_zero _)) hn (by omega))
  have HB1 := Lib.hid (show Below W.heap.size W (W.alloc (.cells (rqC (.slice A n c) q) 43)) from (Below.refl _ _).alloc (Nat.le_refl _) _)
  have HK1 := Lib.hid (show Blk (W.alloc (.cells (rqC (.slice A n c) q) 43)) W.heap.size 43 (rqC (.slice A n c) q) from Blk.new _ _ _)
  have HK := Lib.hid hk
  have HR := Lib.hid hr
  have HL := Lib.hid hl
  have HKR := Lib.hid (show 1 ≤ q.kind ∧ q.kind ≤ 7 by omega)
  have t1 := ta_bare_cells
  have t2 := ta_bare_scan
  have t3 := ta_bare_epoch
  clear hk hl hr
  go_enter Tryz.func76, Tryz.ntmps76
  go_wp2_with fail
  go_at_call 117; (with_reducible refine (CA.out _).mono ?_); rintro e w1 ⟨rfl, hb⟩
  have HB2 := Lib.hid (HB1.out.trans (hb.mono HB1.out.size))
  have HK2 := Lib.hid (HK1.out.kept hb)
  have hlt := HK2.out.lt
  clear hb
  have hc := HK2.out.cell
  go_wp2_with fail
  go_at_call 118; (with_reducible refine (small_any _ _).mono ?_); rintro e w2 ⟨rfl, rfl⟩
  go_wp2_with fail
  · go_at_call 50; (with_reducible refine (CS.out _ (HB2.out.alloc (by have := HB2.out.size; omega) _)).mono ?_); rintro e w3 ⟨rfl, hb⟩
    have HB3 := Lib.hid ((HB2.out.alloc (by have := HB2.out.size; omega) _).trans (hb.mono (by simp; have := HB2.out.size; omega)))
    have HK3 := Lib.hid ((HK2.out.alloc _).kept hb)
    have hc3 := HK3.out.cell
    clear hc hb
    have hlt3 := HK3.out.lt
    go_wp2_with fail
    · go_at_call 118; (with_reducible refine (small_any _ _).mono ?_); rintro e w4 ⟨rfl, rfl⟩
      have HG1 := Lib.hid (show smallP q.id = true by assumption)
      have HG2 := Lib.hid (show sameRq q ⟨q.kind, q.id, 0, [], cell0, cell0, 0⟩ by assumption)
      by_cases hg3 : smallP q.epoch = true
      · have HG3 := Lib.hid hg3
        have hg4 : (!smallP q.epoch) = false := by rw [hg3]; rfl
        clear hg3
        go_wp2
        go_ret
        exact ⟨ret_int (good_bare HK.out HG1.out HG2.out HG3.out).symm, HB3.out⟩
      · have hg4 : (!smallP q.epoch) = true := by simpa using hg3
        have HG3 := Lib.hid (show smallP q.epoch = false by simpa using hg3)
        clear hg3
        go_wp2
        go_ret
        exact ⟨ret_int (checkRq_bad HKR.out (.inr (.inr HG3.out))).symm, HB3.out⟩
    · have HG2 := Lib.hid ((unused_bare HK.out).2 (by assumption))
      go_ret
      exact ⟨ret_int (checkRq_bad HKR.out (.inr (.inl HG2.out))).symm, HB3.out⟩
  · have HG1 := Lib.hid (show smallP q.id = false by simpa using (show ¬ smallP q.id = true by assumption))
    go_ret
    exact ⟨ret_int (checkRq_bad HKR.out (.inl HG1.out)).symm, HB2.out.alloc (by have := HB2.out.size; omega) _⟩
set_option maxHeartbeats 4000000 in
set_option maxRecDepth 100000 in
theorem check_scan (A : Option Addr) (n c : Nat) (q : Rq) (hk : q.kind = 3) (W : World) (hl : q.cs.length = n) (hr : CellsRd W A q.cs) (hn : n ≤ 9223372036854775807) (hkf : q.frm.key.size ≤ 9223372036854775807) (hkt : q.too.key.size ≤ 9223372036854775807) :
    Calls Tryz.prog 76 #[.agg (rqC (.slice A n c) q)] W fun e w' => e = .returned (.int .i64 (checkRq q)) ∧ Below W.heap.size W w' := by
  have CA := Lib.hid (fun W' => asks_scan A n c q hk W')
  have CS := Lib.hid (fun W' (hb : Below W.heap.size W W') => same_rq A none n 0 c 0 q { q with cs := [] } W' hl rfl (hr.below hb) (fun k hk => absurd hk (Nat.not_lt_zero _)) hn (by omega))
  have HB1 := Lib.hid (show Below W.heap.size W (W.alloc (.cells (rqC (.slice A n c) q) 43)) from (Below.refl _ _).alloc (Nat.le_refl _) _)
  have HK1 := Lib.hid (show Blk (W.alloc (.cells (rqC (.slice A n c) q) 43)) W.heap.size 43 (rqC (.slice A n c) q) from Blk.new _ _ _)
  have HK := Lib.hid hk
  have HR := Lib.hid hr
  have HL := Lib.hid hl
  have HKR := Lib.hid (show 1 ≤ q.kind ∧ q.kind ≤ 7 by omega)
  have t1 := ta_scan_cells
  have t2 := ta_scan
  have HF := Lib.hid (fun W' => cbound_any q.frm W' hkf)
  have HT := Lib.hid (fun W' => cbound_any q.too W' hkt)
  clear hkf hkt
  clear hk hl hr
  go_enter Tryz.func76, Tryz.ntmps76
  go_wp2_with fail
  go_at_call 117; (with_reducible refine (CA.out _).mono ?_); rintro e w1 ⟨rfl, hb⟩
  have HB2 := Lib.hid (HB1.out.trans (hb.mono HB1.out.size))
  have HK2 := Lib.hid (HK1.out.kept hb)
  have hlt := HK2.out.lt
  clear hb
  have hc := HK2.out.cell
  go_wp2_with fail
  go_at_call 118; (with_reducible refine (small_any _ _).mono ?_); rintro e w2 ⟨rfl, rfl⟩
  go_wp2_with fail
  · go_at_call 50; (with_reducible refine (CS.out _ (HB2.out.alloc (by have := HB2.out.size; omega) _)).mono ?_); rintro e w3 ⟨rfl, hb⟩
    have HB3 := Lib.hid ((HB2.out.alloc (by have := HB2.out.size; omega) _).trans (hb.mono (by simp; have := HB2.out.size; omega)))
    have HK3 := Lib.hid ((HK2.out.alloc _).kept hb)
    have hc3 := HK3.out.cell
    clear hc hb
    have hlt3 := HK3.out.lt
    go_wp2_with fail
    · go_at_call 118; (with_reducible refine (small_any _ _).mono ?_); rintro e w4 ⟨rfl, rfl⟩
      have HG1 := Lib.hid (show smallP q.id = true by assumption)
      have HG2 := Lib.hid (show sameRq q { q with cs := [] } by assumption)
      by_cases hg3 : smallP q.epoch = true
      · have HG3 := Lib.hid hg3
        have hg4 : (!smallP q.epoch) = false := by rw [hg3]; rfl
        clear hg3
        go_wp2_with fail
        go_at_call 120; (with_reducible refine (HF.out _).mono ?_); rintro e w4 ⟨rfl, hb⟩
        have HX3 := Lib.hid (show Blk (w3.alloc (.cells #[.int .i64 q.epoch, .int .i64 q.frm.view, .string q.frm.key, .int .i64 q.frm.start, .int .i64 q.too.view, .string q.too.key, .int .i64 q.too.start, .int .i64 q.limit] 228)) w3.heap.size 228 #[.int .i64 q.epoch, .int .i64 q.frm.view, .string q.frm.key, .int .i64 q.frm.start, .int .i64 q.too.view, .string q.too.key, .int .i64 q.too.start, .int .i64 q.limit] from Blk.new _ _ _)
        have HX4 := Lib.hid (HX3.out.kept hb)
        have HB4 := Lib.hid ((HB3.out.alloc (by have := HB3.out.size; omega) _).trans (hb.mono (by simp; have := HB3.out.size; omega)))
        have hx4 := HX4.out.cell
        clear hb hc3
        have HSP := Lib.hid (good_scan HK.out HG1.out HG2.out HG3.out)
        by_cases hf : placeP q.frm 4 0 = 0
        · have hf2 : (placeP q.frm 4 0 != 0) = false := by simpa using hf
          have HF0 := Lib.hid hf
          clear hf
          go_wp2_with fail
          go_at_call 120; (with_reducible refine (HT.out _).mono ?_); rintro e w5 ⟨rfl, hb⟩
          have HX5 := Lib.hid (HX4.out.kept hb)
          have HB5 := Lib.hid (HB4.out.trans (hb.mono HB4.out.size))
          have hx5 := HX5.out.cell
          clear hb hx4
          by_cases ht : placeP q.too 4 0 = 0
          · have ht2 : (placeP q.too 4 0 != 0) = false := by simpa using ht
            have HT0 := Lib.hid ht
            clear ht
            go_wp2
            all_goals
              go_ret
              refine ⟨ret_int ?_, HB5.out⟩
              rw [HSP.out]
              unfold scanP
              rw [if_neg (by rw [HF0.out]; simp), if_neg (by rw [HT0.out]; simp)]
              first | rw [if_pos (by omega)] | rw [if_neg (by omega)]
          · have ht2 : (placeP q.too 4 0 != 0) = true := by simpa using ht
            have HT0 := Lib.hid ht
            clear ht
            go_wp2
            go_ret
            exact ⟨ret_int (by rw [HSP.out]; unfold scanP; rw [if_neg (by rw [HF0.out]; simp), if_pos HT0.out]), HB5.out⟩
        · have hf2 : (placeP q.frm 4 0 != 0) = true := by simpa using hf
          have HF0 := Lib.hid hf
          clear hf
          go_wp2
          go_ret
          exact ⟨ret_int (by rw [HSP.out]; unfold scanP; rw [if_pos HF0.out]), HB4.out⟩
      · have hg4 : (!smallP q.epoch) = true := by simpa using hg3
        have HG3 := Lib.hid (show smallP q.epoch = false by simpa using hg3)
        clear hg3
        go_wp2
        go_ret
        exact ⟨ret_int (checkRq_bad HKR.out (.inr (.inr HG3.out))).symm, HB3.out⟩
    · have HG2 := Lib.hid ((unused_scan HK.out).2 (by assumption))
      go_ret
      exact ⟨ret_int (checkRq_bad HKR.out (.inr (.inl HG2.out))).symm, HB3.out⟩
  · have HG1 := Lib.hid (show smallP q.id = false by simpa using (show ¬ smallP q.id = true by assumption))
    go_ret
    exact ⟨ret_int (checkRq_bad HKR.out (.inl HG1.out)).symm, HB2.out.alloc (by have := HB2.out.size; omega) _⟩
set_option maxHeartbeats 4000000 in
set_option maxRecDepth 100000 in
theorem check_cells (A : Option Addr) (n c : Nat) (q : Rq) (hk : q.kind = 1 ∨ q.kind = 2) (W : World) (hl : q.cs.length = n) (hr : CellsRd W A q.cs) (hn : n ≤ 9223372036854775807) (hks : ∀ x ∈ q.cs, x.key.size ≤ 9223372036854775807) :
    Calls Tryz.prog 76 #[.agg (rqC (.slice A n c) q)] W fun e w' => e = .returned (.int .i64 (checkRq q)) ∧ Below W.heap.size W w' := by
  have CA := Lib.hid (fun W' => asks_cells A n c q hk W')
  have CS := Lib.hid (fun W' (hb : Below W.heap.size W W') => same_rq A A n n c c q { q with frm := cell0, too := cell0, limit := 0 } W' hl hl (hr.below hb) (hr.below hb) hn hn)
  have HB1 := Lib.hid (show Below W.heap.size W (W.alloc (.cells (rqC (.slice A n c) q) 43)) from (Below.refl _ _).alloc (Nat.le_refl _) _)
  have HK1 := Lib.hid (show Blk (W.alloc (.cells (rqC (.slice A n c) q) 43)) W.heap.size 43 (rqC (.slice A n c) q) from Blk.new _ _ _)
  have HK := Lib.hid hk
  have HR := Lib.hid hr
  have HL := Lib.hid hl
  have HKR := Lib.hid (show 1 ≤ q.kind ∧ q.kind ≤ 7 by omega)
  have t1 := ta_cells
  have HKS := Lib.hid hks
  clear hks
  clear hk hl hr
  go_enter Tryz.func76, Tryz.ntmps76
  go_wp2_with fail
  go_at_call 117; (with_reducible refine (CA.out _).mono ?_); rintro e w1 ⟨rfl, hb⟩
  have HB2 := Lib.hid (HB1.out.trans (hb.mono HB1.out.size))
  have HK2 := Lib.hid (HK1.out.kept hb)
  have hlt := HK2.out.lt
  clear hb
  have hc := HK2.out.cell
  go_wp2_with fail
  go_at_call 118; (with_reducible refine (small_any _ _).mono ?_); rintro e w2 ⟨rfl, rfl⟩
  go_wp2_with fail
  · go_at_call 50; (with_reducible refine (CS.out _ (HB2.out.alloc (by have := HB2.out.size; omega) _)).mono ?_); rintro e w3 ⟨rfl, hb⟩
    have HB3 := Lib.hid ((HB2.out.alloc (by have := HB2.out.size; omega) _).trans (hb.mono (by simp; have := HB2.out.size; omega)))
    have HK3 := Lib.hid ((HK2.out.alloc _).kept hb)
    have hc3 := HK3.out.cell
    clear hc hb
    have hlt3 := HK3.out.lt
    go_wp2_with fail
    · go_at_call 118; (with_reducible refine (small_any _ _).mono ?_); rintro e w4 ⟨rfl, rfl⟩
      have HG1 := Lib.hid (show smallP q.id = true by assumption)
      have HG2 := Lib.hid (show sameRq q { q with frm := cell0, too := cell0, limit := 0 } by assumption)
      by_cases hg3 : smallP q.epoch = true
      · have HG3 := Lib.hid hg3
        have hg4 : (!smallP q.epoch) = false := by rw [hg3]; rfl
        clear hg3
        have HSP := Lib.hid (good_cells HK.out HG1.out HG2.out HG3.out)
        rw [HL.out] at HSP
        have hb4 := HB3.out.alloc HB3.out.size (.cells #[.int .i64 q.epoch, .slice A n c] 225)
        have HB4 := Lib.hid hb4
        clear hb4
        by_cases h0 : n = 0
        · have h02 : ((n : Int) == 0) = true := by simp [h0]
          have HN0 := Lib.hid h0
          clear h0
          go_wp2
          go_ret
          exact ⟨ret_int (by rw [HSP.out, if_pos (.inl HN0.out)]), HB4.out⟩
        · have h02 : ((n : Int) == 0) = false := by simpa using h0
          by_cases h1 : q.kind = 1 ∧ n ≠ 1
          · have h12 : (q.kind == 1) = true := by simpa using h1.1
            have h13 : ((n : Int) != 1) = true := by simp; omega
            have HN1 := Lib.hid h1
            clear h0 h1
            go_wp2
            go_ret
            exact ⟨ret_int (by rw [HSP.out, if_pos (.inr HN1.out)]), HB4.out⟩
          · have HN := Lib.hid (show ¬ (n = 0 ∨ (q.kind = 1 ∧ n ≠ 1)) by omega)
            have hor : ((q.kind == 1) = false) ∨ ((q.kind == 1) = true ∧ ((n : Int) != 1) = false) := by
              by_cases e : q.kind = 1
              · right; exact ⟨by simpa using e, by simp; omega⟩
              · left; simpa using e
            clear h0 h1
            rcases hor with h12 | ⟨h12, h13⟩
            all_goals
              by_cases h16 : 16 < n
              · go_wp2
                go_ret
                exact ⟨ret_int (by rw [HSP.out, if_neg HN.out, if_pos h16]), HB4.out⟩
              · have HSP2 := Lib.hid (show checkRq q = firstP q.cs by rw [HSP.out, if_neg HN.out, if_neg h16])
                go_wp2
                go_loopw [64] (fun t64 wz => ∃ k : Nat, t64 = .int .i64 (k : Int) ∧ k ≤ n ∧ Hid (firstP (q.cs.take k) = 0 ∧ Below W.heap.size W wz)) (fun t64 _ => n - (intOf t64).toNat)
                case atStart => exact ⟨0, rfl, Nat.zero_le _, Lib.hid ⟨rfl, HB4.out⟩⟩
                case round =>
                  obtain ⟨k, rfl, hk, HP⟩ := hrel
                  rename World => wz
                  by_cases hkn : k < n
                  · have hkx : k < q.cs.length := by rw [HL.out]; exact hkn
                    obtain ⟨ad, rfl, a0, a1, a2⟩ := HR.out.at HP.out.2 k hkx
                    have HC := Lib.hid (fun W' => ccell_any q.cs[k] W' (HKS.out _ (List.getElem_mem hkx)))
                    have HH := Lib.hid (firstP_hit k q.cs hkx HP.out.1)
                    have HX := Lib.hid (firstP_next k q.cs hkx HP.out.1)
                    have HBZ := Lib.hid (HP.out.2.alloc HP.out.2.size (.cells #[.int .i64 q.cs[k].view, .string q.cs[k].key, .int .i64 q.cs[k].start] 41))
                    generalize q.cs[k] = x at *
                    go_wp2_with fail
                    go_at_call 119; (with_reducible refine (HC.out _).mono ?_); rintro e w5 ⟨rfl, hb⟩
                    have HB5 := Lib.hid (HBZ.out.trans (hb.mono HBZ.out.size))
                    clear hb
                    by_cases hp : placeP x 3 1 = 0
                    · have hp2 : (placeP x 3 1 != 0) = false := by simpa using hp
                      have HNX := Lib.hid (HX.out hp)
                      clear hp
                      go_wp2
                      go_roundw
                      case rel => exact ⟨k + 1, by go_num, by omega, Lib.hid ⟨HNX.out, HB5.out⟩⟩
                      case measure => simp [intOf]; omega
                    · have hp2 : (placeP x 3 1 != 0) = true := by simpa using hp
                      have HNX := Lib.hid (HH.out hp)
                      clear hp
                      go_wp2
                      go_ret
                      exact ⟨ret_int (by rw [HSP2.out, HNX.out]), HB5.out⟩
                  · have HE := Lib.hid (show firstP q.cs = 0 by
                      have h := HP.out.1
                      rwa [List.take_of_length_le (by rw [HL.out]; omega)] at h)
                    go_wp2
                    go_ret
                    exact ⟨ret_int (by rw [HSP2.out, HE.out]), HP.out.2⟩
      · have hg4 : (!smallP q.epoch) = true := by simpa using hg3
        have HG3 := Lib.hid (show smallP q.epoch = false by simpa using hg3)
        clear hg3
        go_wp2
        go_ret
        exact ⟨ret_int (checkRq_bad HKR.out (.inr (.inr HG3.out))).symm, HB3.out⟩
    · have HG2 := Lib.hid ((unused_cells HK.out).2 (by assumption))
      go_ret
      exact ⟨ret_int (checkRq_bad HKR.out (.inr (.inl HG2.out))).symm, HB3.out⟩
  · have HG1 := Lib.hid (show smallP q.id = false by simpa using (show ¬ smallP q.id = true by assumption))
    go_ret
    exact ⟨ret_int (checkRq_bad HKR.out (.inl HG1.out)).symm, HB2.out.alloc (by have := HB2.out.size; omega) _⟩
set_option maxRecDepth 100000 in
theorem check_none (A : Option Addr) (n c : Nat) (q : Rq) (hk : q.kind < 1 ∨ 7 < q.kind) (W : World) :
    Calls Tryz.prog 76 #[.agg (rqC (.slice A n c) q)] W fun e w' => e = .returned (.int .i64 (checkRq q)) ∧ Below W.heap.size W w' := by
  have CA := Lib.hid (fun W' => asks_none A n c q hk W')
  have HB1 := Lib.hid (show Below W.heap.size W (W.alloc (.cells (rqC (.slice A n c) q) 43)) from (Below.refl _ _).alloc (Nat.le_refl _) _)
  have HF := Lib.hid (checkRq_none hk)
  clear hk
  go_enter Tryz.func76, Tryz.ntmps76
  go_wp2_with fail
  go_at_call 117; (with_reducible refine (CA.out _).mono ?_); rintro e w1 ⟨rfl, hb⟩
  have HB2 := Lib.hid (HB1.out.trans (hb.mono HB1.out.size))
  clear hb
  go_wp2
  go_ret
  exact ⟨ret_int HF.out.symm, HB2.out.alloc HB2.out.size _⟩
/-- A request's strings are shorter than any machine's. -/
structure RqOk (q : Rq) : Prop where
  cs : ∀ x ∈ q.cs, x.key.size ≤ 9223372036854775807
  frm : q.frm.key.size ≤ 9223372036854775807
  too : q.too.key.size ≤ 9223372036854775807
theorem check_rq (A : Option Addr) (n c : Nat) (q : Rq) (W : World) (hl : q.cs.length = n) (hr : CellsRd W A q.cs) (hn : n ≤ 9223372036854775807) (hok : RqOk q) :
    Calls Tryz.prog 76 #[.agg (rqC (.slice A n c) q)] W fun e w' => e = .returned (.int .i64 (checkRq q)) ∧ Below W.heap.size W w' := by
  by_cases h0 : q.kind < 1 ∨ 7 < q.kind
  · exact check_none A n c q h0 W
  · obtain h | h | h | h : (q.kind = 1 ∨ q.kind = 2) ∨ q.kind = 3 ∨ (q.kind = 4 ∨ q.kind = 7) ∨ (q.kind = 5 ∨ q.kind = 6) := by omega
    · exact check_cells A n c q h W hl hr hn hok.cs
    · exact check_scan A n c q h W hl hr hn hok.frm hok.too
    · exact check_bare A n c q h W hl hr hn
    · exact check_epoch A n c q h W hl hr hn
end Go.Proofs.YtglbdbghcdoicaaGreatDoor
