/- CodecBack: the walk. -/
import Derived.Test.YteffpfgdoganpaaDoorCForm
namespace Go.Proofs.YteffpfgdoganpaaDoor
open Go.RowKit

theorem encB_no {q : Rq} (h : ¬ checkRq q = 0) : encB q = [] := by unfold encB; rw [if_neg h]
theorem encS_no {q : Rs} (h : ¬ checkRs q = 0) : encS q = [] := by unfold encS; rw [if_neg h]
theorem dec_encB {q : Rq} (h : checkRq q = 0) : decRq (encB q) = (q, none) := by
  have := dec_enc_rq h []
  rw [List.append_nil, if_pos rfl] at this
  rw [encB_ok h]
  exact this
theorem dec_encS {q : Rs} (h : checkRs q = 0) (hi : ∀ x ∈ q.rows, RowI x) : decRs (encS q) = (q, none) := by
  have := dec_enc_rs h hi []
  rw [List.append_nil, if_pos rfl] at this
  rw [encS_ok h]
  exact this
theorem encB_two {q : Rq} (h : checkRq q = 0) : 2 ≤ (encB q).length ∧ (encB q).length ≤ 800 := by rw [encB_ok h]; exact encRq_le (rq_good h)
theorem encS_two {q : Rs} (h : checkRs q = 0) (hi : ∀ x ∈ q.rows, RowI x) : 2 ≤ (encS q).length ∧ (encS q).length ≤ 30000 := by rw [encS_ok h]; exact encRs_le (rs_good h) hi
theorem same_self (q : Rq) : decide (sameRq q q) = true := by rw [decide_eq_true_eq, sameRq_eq]
theorem same_selfS (q : Rs) : decide (sameRs q q) = true := by rw [decide_eq_true_eq, sameRs_eq]

set_option maxHeartbeats 16000000 in
set_option maxRecDepth 100000 in
theorem law_back (CK : KnownOk) (A C : Option Addr) (n c k c2 : Nat) (q : Rq) (r : Rs) (W : World) (hT : W.cell? ⟨0, 0, none⟩ = some tyErr) (hq : RqA W A n q) (hr : RsA W C k r) :
    Calls Tryd.prog 5 #[.agg (rqC (.slice A n c) q), .agg (rsC (.slice C k c2) r)] W fun e w' => e = .returned (.bool true) ∧ Below W.heap.size W w' := by
  have HBX := Lib.hid (box2 W 26 32 (rqC (.slice A n c) q) (rsC (.slice C k c2) r))
  have HT := Lib.hid (fun (W9 : World) (h : Below W.heap.size W W9) => (h.cell (p := ⟨0, 0, none⟩) (World.block_lt_of_cell? W _ hT)).trans hT)
  have HQ := Lib.hid hq
  have HR := Lib.hid hr
  have CK := Lib.hid CK
  clear hT hq hr
  go_enter Tryd.func5, Tryd.ntmps5
  go_wp2_with fail
  generalize ((W.alloc (.cells (rqC (.slice A n c) q) 26)).alloc (.cells (rsC (.slice C k c2) r) 32)) = W0 at *
  obtain ⟨k1, k2, hb0⟩ := HBX.out
  have K1 := Lib.hid k1
  have K2 := Lib.hid k2
  have B0 := Lib.hid hb0
  have HQ0 := Lib.hid (HQ.out.below hb0)
  have HR0 := Lib.hid (HR.out.below hb0)
  clear k1 k2 hb0 HBX HQ HR
  have BW := Lib.hid (fun (W9 : World) (h : Below W0.heap.size W0 W9) => B0.out.trans (h.mono B0.out.size))
  have HTW := Lib.hid (fun (W9 : World) (h : Below W0.heap.size W0 W9) => HT.out W9 (BW.out W9 h))
  go_at_call 10; (with_reducible refine (CK.out _ (HT.out _ B0.out)).mono ?_); rintro e w1 ⟨rfl, hb1⟩
  have B1 := Lib.hid hb1
  clear hb1
  have hcq : ∀ i, w1.cell? ⟨W.heap.size, i, none⟩ = (rqC (.slice A n c) q)[i]? := (K1.out.kept B1.out).cell
  go_wp2_with fail
  go_at_call 23; (with_reducible refine (enc_rq (HQ0.out.below B1.out) c).mono ?_); rintro e w2 ⟨Aa, rfl, hra, hb2⟩
  have B2 := Lib.hid (below_step B1.out hb2 (Nat.le_refl _))
  have RA2 := Lib.hid hra
  clear hb2 hra hcq
  have hcr : ∀ i, w2.cell? ⟨W.heap.size + 1, i, none⟩ = (rsC (.slice C k c2) r)[i]? := (K2.out.kept B2.out).cell
  go_wp2_with fail
  go_at_call 24; (with_reducible refine (enc_rs (HR0.out.below B2.out) c2).mono ?_); rintro e w3 ⟨Ab, rfl, hrb, hb3⟩
  have B3 := Lib.hid (below_step B2.out hb3 (Nat.le_refl _))
  have RB3 := Lib.hid hrb
  have RA3 := Lib.hid (RA2.out.kept_ hb3)
  clear hb3 hrb hcr RA2
  have hcq : ∀ i, w3.cell? ⟨W.heap.size, i, none⟩ = (rqC (.slice A n c) q)[i]? := (K1.out.kept B3.out).cell
  go_wp2_with fail
  go_at_call 13; (with_reducible refine (check_rq A n c q w3 HQ0.out.len (HQ0.out.below B3.out).rd HQ0.out.big HQ0.out.ok).mono ?_); rintro e w4 ⟨rfl, hb4⟩
  have B4 := Lib.hid (below_step B3.out hb4 (Nat.le_refl _))
  have RA4 := Lib.hid (RA3.out.kept_ hb4)
  have RB4 := Lib.hid (RB3.out.kept_ hb4)
  clear hb4 hcq RA3 RB3
  have hcr : ∀ i, w4.cell? ⟨W.heap.size + 1, i, none⟩ = (rsC (.slice C k c2) r)[i]? := (K2.out.kept B4.out).cell
  go_wp2_with fail
  go_at_call 14; (with_reducible refine (check_rs C k c2 r w4 HR0.out.len (HR0.out.below B4.out).rd HR0.out.big HR0.out.ok).mono ?_); rintro e w5 ⟨rfl, hb5⟩
  have B5 := Lib.hid (below_step B4.out hb5 (Nat.le_refl _))
  have RA5 := Lib.hid (RA4.out.kept_ hb5)
  have RB5 := Lib.hid (RB4.out.kept_ hb5)
  clear hb5 hcr RA4 RB4
  by_cases h1 : checkRq q = 0
  · have HDA := Lib.hid (dec_encB h1)
    have HGA := Lib.hid (rq_good h1)
    have HLA := Lib.hid (encB_two h1)
    rw [h1]
    clear h1
    by_cases h2 : checkRs r = 0
    · have HDB := Lib.hid (dec_encS h2 HR0.out.rows)
      have HGB := Lib.hid (rs_good h2)
      have HLB := Lib.hid (encS_two h2 HR0.out.rows)
      rw [h2]
      clear h2
      go_wp2_with fail
      go_at_call 27; (with_reducible refine (decode_rq Aa _ _ (encB q) w5 rfl RA5.out.cells (byt_wf (encB_byt q)) (by have := HLA.out.2; omega) (HTW.out _ B5.out)).mono ?_); rintro e w6 ⟨hb6, hq⟩
      rw [HDA.out] at hq
      obtain ⟨v6, rfl, hv⟩ := hq
      obtain ⟨As, cz, rfl, hra⟩ := rqA_of hv HGA.out
      have B6 := Lib.hid (below_step B5.out hb6 (Nat.le_refl _))
      have RQ6 := Lib.hid (hra.below ((Below.refl w6.heap.size w6).alloc (Nat.le_refl _) (.cells (rqC (.slice As q.cs.length cz) q) 26)))
      have B7 := Lib.hid (B6.out.alloc B6.out.size (.cells (rqC (.slice As q.cs.length cz) q) 26))
      have RB7 := Lib.hid ((RB5.out.kept_ hb6).kept_ ((Below.refl w6.heap.size w6).alloc (Nat.le_refl _) (.cells (rqC (.slice As q.cs.length cz) q) 26)))
      clear hb6 hv hra
      have hcs : ∀ i, (w6.alloc (.cells (rqC (.slice As q.cs.length cz) q) 26)).cell? ⟨w6.heap.size, i, none⟩ = (rqC (.slice As q.cs.length cz) q)[i]? := (Blk.new w6 26 _).cell
      have hcq : ∀ i, (w6.alloc (.cells (rqC (.slice As q.cs.length cz) q) 26)).cell? ⟨W.heap.size, i, none⟩ = (rqC (.slice A n c) q)[i]? := (K1.out.kept B7.out).cell
      go_wp2_with fail
      go_at_call 15; (with_reducible refine (same_rq As A _ n cz c q q _ RQ6.out.len HQ0.out.len RQ6.out.rd (HQ0.out.below B7.out).rd RQ6.out.big HQ0.out.big).mono ?_); rintro e w8 ⟨rfl, hb8⟩
      rw [same_self]
      have B8 := Lib.hid (below_step B7.out hb8 (Nat.le_refl _))
      have RB8 := Lib.hid (RB7.out.kept_ hb8)
      clear hb8 hcs hcq RQ6 RB7
      have hl1 : ¬ ((800 : Int) < ((encB q).length : Int)) := by have := HLA.out.2; omega
      have hl2 : ¬ (((encB q).length : Int) < 2) := by have := HLA.out.1; omega
      go_wp2_with fail
      go_at_call 28; (with_reducible refine (decode_rs Ab _ _ (encS r) w8 rfl RB8.out.cells (byt_wf (encS_byt r)) (by have := HLB.out.2; omega) (HTW.out _ B8.out)).mono ?_); rintro e wa ⟨hba, hq⟩
      rw [HDB.out] at hq
      obtain ⟨va, rfl, hv⟩ := hq
      obtain ⟨At, ct, rfl, hra⟩ := rsA_of hv HGB.out HR0.out.rows
      have Ba := Lib.hid (below_step B8.out hba (Nat.le_refl _))
      have RQa := Lib.hid (hra.below ((Below.refl wa.heap.size wa).alloc (Nat.le_refl _) (.cells (rsC (.slice At r.rows.length ct) r) 32)))
      have Bb := Lib.hid (Ba.out.alloc Ba.out.size (.cells (rsC (.slice At r.rows.length ct) r) 32))
      clear hba hv hra
      have hcs : ∀ i, (wa.alloc (.cells (rsC (.slice At r.rows.length ct) r) 32)).cell? ⟨wa.heap.size, i, none⟩ = (rsC (.slice At r.rows.length ct) r)[i]? := (Blk.new wa 32 _).cell
      have hcr : ∀ i, (wa.alloc (.cells (rsC (.slice At r.rows.length ct) r) 32)).cell? ⟨W.heap.size + 1, i, none⟩ = (rsC (.slice C k c2) r)[i]? := (K2.out.kept Bb.out).cell
      go_wp2_with fail
      go_at_call 17; (with_reducible refine (same_rs At C _ k ct c2 r r _ RQa.out.len HR0.out.len RQa.out.rd (HR0.out.below Bb.out).rd RQa.out.big HR0.out.big).mono ?_); rintro e wc ⟨rfl, hbc⟩
      rw [same_selfS]
      have Bc := Lib.hid (below_step Bb.out hbc (Nat.le_refl _))
      clear hbc hcs hcr RQa
      have hl3 : ¬ ((65536 : Int) < ((encS r).length : Int)) := by have := HLB.out.2; omega
      go_wp2
      go_ret
      exact ⟨rfl, BW.out _ Bc.out⟩
    · have g2 : (checkRs r != 0) = true := by simpa using h2
      have g3 : (checkRs r == 0) = false := by simpa using h2
      rw [encS_no h2] at RB5 ⊢
      clear h2
      go_wp2_with fail
      go_at_call 27; (with_reducible refine (decode_rq Aa _ _ (encB q) w5 rfl RA5.out.cells (byt_wf (encB_byt q)) (by have := HLA.out.2; omega) (HTW.out _ B5.out)).mono ?_); rintro e w6 ⟨hb6, hq⟩
      rw [HDA.out] at hq
      obtain ⟨v6, rfl, hv⟩ := hq
      obtain ⟨As, cz, rfl, hra⟩ := rqA_of hv HGA.out
      have B6 := Lib.hid (below_step B5.out hb6 (Nat.le_refl _))
      have RQ6 := Lib.hid (hra.below ((Below.refl w6.heap.size w6).alloc (Nat.le_refl _) (.cells (rqC (.slice As q.cs.length cz) q) 26)))
      have B7 := Lib.hid (B6.out.alloc B6.out.size (.cells (rqC (.slice As q.cs.length cz) q) 26))
      have RB7 := Lib.hid ((RB5.out.kept_ hb6).kept_ ((Below.refl w6.heap.size w6).alloc (Nat.le_refl _) (.cells (rqC (.slice As q.cs.length cz) q) 26)))
      clear hb6 hv hra
      have hcs : ∀ i, (w6.alloc (.cells (rqC (.slice As q.cs.length cz) q) 26)).cell? ⟨w6.heap.size, i, none⟩ = (rqC (.slice As q.cs.length cz) q)[i]? := (Blk.new w6 26 _).cell
      have hcq : ∀ i, (w6.alloc (.cells (rqC (.slice As q.cs.length cz) q) 26)).cell? ⟨W.heap.size, i, none⟩ = (rqC (.slice A n c) q)[i]? := (K1.out.kept B7.out).cell
      go_wp2_with fail
      go_at_call 15; (with_reducible refine (same_rq As A _ n cz c q q _ RQ6.out.len HQ0.out.len RQ6.out.rd (HQ0.out.below B7.out).rd RQ6.out.big HQ0.out.big).mono ?_); rintro e w8 ⟨rfl, hb8⟩
      rw [same_self]
      have B8 := Lib.hid (below_step B7.out hb8 (Nat.le_refl _))
      have RB8 := Lib.hid (RB7.out.kept_ hb8)
      clear hb8 hcs hcq RQ6 RB7
      have hl1 : ¬ ((800 : Int) < ((encB q).length : Int)) := by have := HLA.out.2; omega
      have hl2 : ¬ (((encB q).length : Int) < 2) := by have := HLA.out.1; omega
      go_wp2
      go_ret
      exact ⟨rfl, BW.out _ B8.out⟩
  · have g0 : (checkRq q != 0) = true := by simpa using h1
    have g1 : (checkRq q == 0) = false := by simpa using h1
    rw [encB_no h1] at RA5 ⊢
    clear h1
    by_cases h2 : checkRs r = 0
    · have HDB := Lib.hid (dec_encS h2 HR0.out.rows)
      have HGB := Lib.hid (rs_good h2)
      have HLB := Lib.hid (encS_two h2 HR0.out.rows)
      rw [h2]
      clear h2
      go_wp2_with fail
      go_at_call 28; (with_reducible refine (decode_rs Ab _ _ (encS r) w5 rfl RB5.out.cells (byt_wf (encS_byt r)) (by have := HLB.out.2; omega) (HTW.out _ B5.out)).mono ?_); rintro e wa ⟨hba, hq⟩
      rw [HDB.out] at hq
      obtain ⟨va, rfl, hv⟩ := hq
      obtain ⟨At, ct, rfl, hra⟩ := rsA_of hv HGB.out HR0.out.rows
      have Ba := Lib.hid (below_step B5.out hba (Nat.le_refl _))
      have RQa := Lib.hid (hra.below ((Below.refl wa.heap.size wa).alloc (Nat.le_refl _) (.cells (rsC (.slice At r.rows.length ct) r) 32)))
      have Bb := Lib.hid (Ba.out.alloc Ba.out.size (.cells (rsC (.slice At r.rows.length ct) r) 32))
      clear hba hv hra
      have hcs : ∀ i, (wa.alloc (.cells (rsC (.slice At r.rows.length ct) r) 32)).cell? ⟨wa.heap.size, i, none⟩ = (rsC (.slice At r.rows.length ct) r)[i]? := (Blk.new wa 32 _).cell
      have hcr : ∀ i, (wa.alloc (.cells (rsC (.slice At r.rows.length ct) r) 32)).cell? ⟨W.heap.size + 1, i, none⟩ = (rsC (.slice C k c2) r)[i]? := (K2.out.kept Bb.out).cell
      go_wp2_with fail
      go_at_call 17; (with_reducible refine (same_rs At C _ k ct c2 r r _ RQa.out.len HR0.out.len RQa.out.rd (HR0.out.below Bb.out).rd RQa.out.big HR0.out.big).mono ?_); rintro e wc ⟨rfl, hbc⟩
      rw [same_selfS]
      have Bc := Lib.hid (below_step Bb.out hbc (Nat.le_refl _))
      clear hbc hcs hcr RQa
      have hl3 : ¬ ((65536 : Int) < ((encS r).length : Int)) := by have := HLB.out.2; omega
      go_wp2
      go_ret
      exact ⟨rfl, BW.out _ Bc.out⟩
    · have g2 : (checkRs r != 0) = true := by simpa using h2
      have g3 : (checkRs r == 0) = false := by simpa using h2
      rw [encS_no h2] at RB5 ⊢
      clear h2
      go_wp2
      go_ret
      exact ⟨rfl, BW.out _ B5.out⟩
end Go.Proofs.YteffpfgdoganpaaDoor
