/- CodecForm: the walk. -/
import Derived.Test.YteffpfgdoganpaaDoorCKn
namespace Go.Proofs.YteffpfgdoganpaaDoor
open Go.RowKit

theorem RqGood.ok {q : Rq} (h : RqGood q) : RqOk q := by
  refine ⟨fun x hx => by have := (h.cells x hx).k1; omega, ?_, ?_⟩
  · by_cases h3 : q.kind = 3
    · have := (h.scan h3).1.k1; omega
    · rw [(h.noscan h3).1]; decide
  · by_cases h3 : q.kind = 3
    · have := (h.scan h3).2.1.k1; omega
    · rw [(h.noscan h3).2.1]; decide
theorem RsGood.ok {r : Rs} (h : RsGood r) : RsOk r := fun x hx => by have := (h.rows x hx).cell.k1; omega
/-- What is decoded lies there as an argument. -/
theorem rqA_of {W : World} {B : Nat} {v : Value} {q : Rq} (h : CellsOwn W B v q.cs) (hg : RqGood q) : ∃ A c, v = .slice A q.cs.length c ∧ RqA W A q.cs.length q := by
  obtain ⟨A, c, e, hr, _⟩ := CellsOwn.rd h
  exact ⟨A, c, e, ⟨rfl, hr, by have := hg.len; omega, hg.ok⟩⟩
theorem rsA_of {W : World} {B : Nat} {v : Value} {r : Rs} (h : RowsOwn W B v r.rows) (hg : RsGood r) (hi : ∀ x ∈ r.rows, RowI x) : ∃ A c, v = .slice A r.rows.length c ∧ RsA W A r.rows.length r := by
  obtain ⟨A, c, e, hr, _⟩ := RowsOwn.rd h
  exact ⟨A, c, e, ⟨rfl, hr, by have := hg.len; omega, hg.ok, hi⟩⟩
theorem encB_ok {q : Rq} (h : checkRq q = 0) : encB q = encRq q := by unfold encB; rw [if_pos h]
theorem encS_ok {q : Rs} (h : checkRs q = 0) : encS q = encRs q := by unfold encS; rw [if_pos h]

set_option maxHeartbeats 16000000 in
set_option maxRecDepth 100000 in
theorem law_form (CK : KnownOk) (A : Option Addr) (n c : Nat) (xs : List Int) (W : World) (hT : W.cell? ⟨0, 0, none⟩ = some tyErr) (hl : xs.length = n) (hx : CellsAt W A (bvs xs)) (hw : ∀ x ∈ xs, (Lit.int .u8 x).wf = true) (hn : n ≤ 211106232532992) :
    Calls Tryd.prog 6 #[.slice A n c] W fun e w' => e = .returned (.bool true) ∧ Below W.heap.size W w' := by
  have HT := Lib.hid (fun (W9 : World) (h : Below W.heap.size W W9) => (h.cell (p := ⟨0, 0, none⟩) (World.block_lt_of_cell? W _ hT)).trans hT)
  have CQ := Lib.hid (fun (W9 : World) (h : Below W.heap.size W W9) => decode_rq A n c xs W9 hl (hx.below h) hw hn ((h.cell (p := ⟨0, 0, none⟩) (World.block_lt_of_cell? W _ hT)).trans hT))
  have CS := Lib.hid (fun (W9 : World) (h : Below W.heap.size W W9) => decode_rs A n c xs W9 hl (hx.below h) hw hn ((h.cell (p := ⟨0, 0, none⟩) (World.block_lt_of_cell? W _ hT)).trans hT))
  have CV := Lib.hid (fun (W9 : World) (h : Below W.heap.size W W9) => conv_cells (hx.below h) hl c)
  have HBY := Lib.hid (byt_of hw)
  have CK := Lib.hid CK
  clear hT hl hx hw hn
  go_enter Tryd.func6, Tryd.ntmps6
  go_wp2_with fail
  go_at_call 10; (with_reducible refine (CK.out _ (HT.out _ (Below.refl _ _))).mono ?_); rintro e w1 ⟨rfl, hb1⟩
  have B1 := Lib.hid hb1
  clear hb1
  go_wp2_with fail
  go_at_call 27; (with_reducible refine (CQ.out _ B1.out).mono ?_); rintro e w2 ⟨hb2, hq⟩
  have B2 := Lib.hid (below_step B1.out hb2 (Nat.le_refl _))
  clear hb2
  rcases hd : decRq xs with ⟨q, _ | ⟨code, pl⟩⟩
  · rw [hd] at hq
    obtain ⟨v, rfl, hv⟩ := hq
    obtain ⟨h0, hxs⟩ := enc_dec_rq HBY.out hd
    obtain ⟨As, cz, rfl, hra⟩ := rqA_of hv (rq_good h0)
    have HE := Lib.hid (show encB q = xs by rw [encB_ok h0]; exact hxs.symm)
    have H0 := Lib.hid h0
    have RA := Lib.hid hra
    clear hv hra h0 hxs hd
    have B3 := Lib.hid (B2.out.alloc B2.out.size (.cells (rqC (.slice As q.cs.length cz) q) 26))
    have RA3 := Lib.hid (RA.out.below ((Below.refl w2.heap.size w2).alloc (Nat.le_refl _) (.cells (rqC (.slice As q.cs.length cz) q) 26)))
    have hcb : ∀ i, (w2.alloc (.cells (rqC (.slice As q.cs.length cz) q) 26)).cell? ⟨w2.heap.size, i, none⟩ = (rqC (.slice As q.cs.length cz) q)[i]? := (Blk.new w2 26 _).cell
    go_wp2_with fail
    go_at_call 23; (with_reducible refine (enc_rq RA3.out cz).mono ?_); rintro e w4 ⟨Ab, rfl, hrb, hb4⟩
    have B4 := Lib.hid (below_step B3.out hb4 (Nat.le_refl _))
    rw [HE.out] at hrb ⊢
    rw [H0.out]
    have c1 := conv_cells hrb.cells rfl xs.length
    have c2 := CV.out _ B4.out
    clear hrb hb4 hcb
    go_wp2_with fail
    clear c1 c2
    go_at_call 28; (with_reducible refine (CS.out _ B4.out).mono ?_); rintro e w6 ⟨hb6, hq⟩
    have B6 := Lib.hid (below_step B4.out hb6 (Nat.le_refl _))
    clear hb6
    rcases hd : decRs xs with ⟨r, _ | ⟨code, pl⟩⟩
    · rw [hd] at hq
      obtain ⟨v, rfl, hv⟩ := hq
      obtain ⟨h0, hxs, hri⟩ := enc_dec_rs HBY.out hd
      obtain ⟨As, cz, rfl, hra⟩ := rsA_of hv (rs_good h0) hri
      have HE := Lib.hid (show encS r = xs by rw [encS_ok h0]; exact hxs.symm)
      have H0 := Lib.hid h0
      have RA := Lib.hid hra
      clear hv hra h0 hxs hri hd
      have B7 := Lib.hid (B6.out.alloc B6.out.size (.cells (rsC (.slice As r.rows.length cz) r) 32))
      have RA7 := Lib.hid (RA.out.below ((Below.refl w6.heap.size w6).alloc (Nat.le_refl _) (.cells (rsC (.slice As r.rows.length cz) r) 32)))
      have hcb : ∀ i, (w6.alloc (.cells (rsC (.slice As r.rows.length cz) r) 32)).cell? ⟨w6.heap.size, i, none⟩ = (rsC (.slice As r.rows.length cz) r)[i]? := (Blk.new w6 32 _).cell
      go_wp2_with fail
      go_at_call 24; (with_reducible refine (enc_rs RA7.out cz).mono ?_); rintro e w8 ⟨Ab, rfl, hrb, hb8⟩
      have B8 := Lib.hid (below_step B7.out hb8 (Nat.le_refl _))
      rw [HE.out] at hrb ⊢
      rw [H0.out]
      have c1 := conv_cells hrb.cells rfl xs.length
      have c2 := CV.out _ B8.out
      clear hrb hb8 hcb
      go_wp2
      go_ret
      exact ⟨rfl, B8.out⟩
    · rw [hd] at hq
      obtain ⟨g, rfl, _⟩ := hq
      have B7 := Lib.hid (fun o : Obj => B6.out.alloc B6.out.size o)
      clear hd
      go_wp2
      go_ret
      exact ⟨rfl, B7.out _⟩
  · rw [hd] at hq
    obtain ⟨g, rfl, _⟩ := hq
    have B3 := Lib.hid (fun o : Obj => B2.out.alloc B2.out.size o)
    clear hd
    go_wp2_with fail
    go_at_call 28; (with_reducible refine (CS.out _ (B3.out _)).mono ?_); rintro e w6 ⟨hb6, hq⟩
    have B6 := Lib.hid (below_step (B3.out _) hb6 (Nat.le_refl _))
    clear hb6
    rcases hd : decRs xs with ⟨r, _ | ⟨code, pl⟩⟩
    · rw [hd] at hq
      obtain ⟨v, rfl, hv⟩ := hq
      obtain ⟨h0, hxs, hri⟩ := enc_dec_rs HBY.out hd
      obtain ⟨As, cz, rfl, hra⟩ := rsA_of hv (rs_good h0) hri
      have HE := Lib.hid (show encS r = xs by rw [encS_ok h0]; exact hxs.symm)
      have H0 := Lib.hid h0
      have RA := Lib.hid hra
      clear hv hra h0 hxs hri hd
      have B7 := Lib.hid (B6.out.alloc B6.out.size (.cells (rsC (.slice As r.rows.length cz) r) 32))
      have RA7 := Lib.hid (RA.out.below ((Below.refl w6.heap.size w6).alloc (Nat.le_refl _) (.cells (rsC (.slice As r.rows.length cz) r) 32)))
      have hcb : ∀ i, (w6.alloc (.cells (rsC (.slice As r.rows.length cz) r) 32)).cell? ⟨w6.heap.size, i, none⟩ = (rsC (.slice As r.rows.length cz) r)[i]? := (Blk.new w6 32 _).cell
      go_wp2_with fail
      go_at_call 24; (with_reducible refine (enc_rs RA7.out cz).mono ?_); rintro e w8 ⟨Ab, rfl, hrb, hb8⟩
      have B8 := Lib.hid (below_step B7.out hb8 (Nat.le_refl _))
      rw [HE.out] at hrb ⊢
      rw [H0.out]
      have c1 := conv_cells hrb.cells rfl xs.length
      have c2 := CV.out _ B8.out
      clear hrb hb8 hcb
      go_wp2
      go_ret
      exact ⟨rfl, B8.out⟩
    · rw [hd] at hq
      obtain ⟨g, rfl, _⟩ := hq
      have B7 := Lib.hid (fun o : Obj => B6.out.alloc B6.out.size o)
      clear hd
      go_wp2
      go_ret
      exact ⟨rfl, B7.out _⟩
end Go.Proofs.YteffpfgdoganpaaDoor
