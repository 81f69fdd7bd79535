/- CodecFronts: the walk. -/
import Derived.Test.YteffpfgdoganpaaDoorCBack
namespace Go.Proofs.YteffpfgdoganpaaDoor
open Go.RowKit

theorem cut_encB {q : Rq} (h : checkRq q = 0) {j : Nat} (hj : j < (encB q).length) : decRq ((encB q).take j) = (rq0, some (11, (j : Int))) := by
  rw [encB_ok h] at hj ⊢
  exact dec_cut_rq h j hj
theorem cut_encS {q : Rs} (h : checkRs q = 0) (hi : ∀ x ∈ q.rows, RowI x) {j : Nat} (hj : j < (encS q).length) : decRs ((encS q).take j) = (rs0, some (11, (j : Int))) := by
  rw [encS_ok h] at hj ⊢
  exact dec_cut_rs h hi j hj
theorem tail_encB {q : Rq} (h : checkRq q = 0) (ys : List Int) : decRq (encB q ++ ys) = if ys = [] then (q, none) else (rq0, some (13, ((encB q).length : Int))) := by
  rw [encB_ok h]
  exact dec_enc_rq h ys
theorem tail_encS {q : Rs} (h : checkRs q = 0) (hi : ∀ x ∈ q.rows, RowI x) (ys : List Int) : decRs (encS q ++ ys) = if ys = [] then (q, none) else (rs0, some (13, ((encS q).length : Int))) := by
  rw [encS_ok h]
  exact dec_enc_rs h hi ys
theorem Byt.take {xs : List Int} (h : Byt xs) (k : Nat) : Byt (xs.take k) := fun x hx => h x (List.mem_of_mem_take hx)
/-- A row that one's own memory holds reads as these bytes. -/
theorem own_cells {W : World} {base n : Nat} {v : Value} {xs : List Int} (h : W.ownsRow base 5 1 v n (bvs xs)) : ∃ A c, v = .slice A n c ∧ CellsAt W A (bvs xs) ∧ xs.length = n := by
  obtain ⟨A, c, e, hr, _⟩ := row_of_own h
  refine ⟨A, c, e, hr.cells, ?_⟩
  have := h.1
  rw [bvs_len] at this
  omega

set_option maxHeartbeats 32000000 in
set_option maxRecDepth 100000 in
theorem law_fronts (CK : KnownOk) (A C D : Option Addr) (n c k c2 m d : Nat) (q : Rq) (r : Rs) (cut : Int) (ys : List Int) (W : World) (hT : W.cell? ⟨0, 0, none⟩ = some tyErr) (hq : RqA W A n q) (hr : RsA W C k r)
    (hm : ys.length = m) (hy : CellsAt W D (bvs ys)) (hD : D = none → d = 0) (hw : ∀ x ∈ ys, (Lit.int .u8 x).wf = true) (hmn : m ≤ 140737488351232) :
    Calls Tryd.prog 9 #[.agg (rqC (.slice A n c) q), .agg (rsC (.slice C k c2) r), .int .i64 cut, .slice D m d] W fun e w' => e = .returned (.bool true) ∧ Below W.heap.size W w' := by
  have HBX := Lib.hid (box2 W 26 32 (rqC (.slice A n c) q) (rsC (.slice C k c2) r))
  have HT := Lib.hid (fun (W9 : World) (h : Below W.heap.size W W9) => (h.cell (p := ⟨0, 0, none⟩) (World.block_lt_of_cell? W _ hT)).trans hT)
  have HQ := Lib.hid hq
  have HR := Lib.hid hr
  have HY := Lib.hid (fun (W9 : World) (h : Below W.heap.size W W9) => hy.below h)
  have HD := Lib.hid hD
  have HW := Lib.hid hw
  have HM := Lib.hid hm
  have HMN := Lib.hid hmn
  have CK := Lib.hid CK
  clear hT hq hr hy hD hw hm hmn
  go_enter Tryd.func9, Tryd.ntmps9
  go_wp2_with fail
  generalize ((W.alloc (.cells (rqC (.slice A n c) q) 26)).alloc (.cells (rsC (.slice C k c2) r) 32)) = W0 at *
  obtain ⟨k1, k2, hb0⟩ := HBX.out
  have K1 := Lib.hid k1
  have K2 := Lib.hid k2
  have B0 := Lib.hid hb0
  have HQ0 := Lib.hid (HQ.out.below hb0)
  have HR0 := Lib.hid (HR.out.below hb0)
  clear k1 k2 hb0 HBX HQ HR
  have BW := Lib.hid (fun (W9 : World) (h : Below W0.heap.size W0 W9) => B0.out.trans (h.mono B0.out.size))
  have HTW := Lib.hid (fun (W9 : World) (h : Below W0.heap.size W0 W9) => HT.out W9 (BW.out W9 h))
  have HYW := Lib.hid (fun (W9 : World) (h : Below W0.heap.size W0 W9) => HY.out W9 (BW.out W9 h))
  go_at_call 10; (with_reducible refine (CK.out _ (HT.out _ B0.out)).mono ?_); rintro e w1 ⟨rfl, hb1⟩
  have B1 := Lib.hid hb1
  clear hb1
  have hcq : ∀ i, w1.cell? ⟨W.heap.size, i, none⟩ = (rqC (.slice A n c) q)[i]? := (K1.out.kept B1.out).cell
  go_wp2_with fail
  go_at_call 23; (with_reducible refine (enc_rq (HQ0.out.below B1.out) c).mono ?_); rintro e w2 ⟨Aa, rfl, hra, hb2⟩
  have B2 := Lib.hid (below_step B1.out hb2 (Nat.le_refl _))
  have RA2 := Lib.hid hra
  clear hb2 hra hcq
  by_cases h1 : checkRq q = 0
  · have H1 := Lib.hid h1
    rw [h1]
    clear h1
    have HLXp := Lib.hid (encB_two H1.out)
    have HCUTp := Lib.hid (fun (j : Nat) (hj : j < (encB q).length) => cut_encB H1.out hj)
    have HTLp := Lib.hid (tail_encB H1.out ys)
    have HBYp := Lib.hid (encB_byt q)
    obtain ⟨xs, hxs⟩ : ∃ xs, xs = encB q := ⟨_, rfl⟩
    rw [← hxs] at RA2 HLXp HCUTp HTLp HBYp ⊢
    obtain ⟨l, hl⟩ : ∃ l, l = xs.length := ⟨_, rfl⟩
    rw [← hl] at RA2 HLXp HCUTp HTLp ⊢
    have HL := Lib.hid hl
    obtain ⟨adp, hadA⟩ : ∃ ad, Aa = some ad := by
      cases hA : Aa with
      | none => exact absurd (RA2.out.none_ hA) (by have := HLXp.out.1; omega)
      | some ad => exact ⟨ad, rfl⟩
    subst hadA
    have HANp := Lib.hid (show some adp = none → l = 0 from fun h => by cases h)
    obtain ⟨R, hR, CW⟩ := within_any cut l (by have := HLXp.out.1; omega) (by have := HLXp.out.2; omega)
    have HRLp := Lib.hid hR
    have CW := Lib.hid CW
    clear hl hxs hR
    go_wp2_with fail
    go_at_call 31; (with_reducible refine (CW.out _).mono ?_); rintro e wS1p ⟨rfl, rfl⟩
    have hRl : R ≤ l := by have := HRLp.out; omega
    have hA0 : (some adp) = none → R = 0 := fun e => by have := HANp.out e; have := HLXp.out.1; omega
    have hct : CellsAt w2 (some adp) (bvs (xs.take R)) := by
      have := RA2.out.cells.take_ R
      rwa [show (bvs xs).take R = bvs (xs.take R) by simp [bvs, List.map_take]] at this
    have CD := Lib.hid (decode_rq (some adp) R l (xs.take R) w2 (by rw [List.length_take]; have := HL.out; omega) hct (byt_wf (HBYp.out.take R)) (by have := HRLp.out; have := HLXp.out.2; omega) (HTW.out _ B2.out))
    clear hct
    go_wp2_with fail
    go_at_call 27; (with_reducible refine CD.out.mono ?_); rintro e w2_p ⟨hb2_p, hq_p⟩
    rw [HCUTp.out R HRLp.out] at hq_p
    obtain ⟨g1, rfl, hg1⟩ := hq_p
    have B2_p := Lib.hid (below_step B2.out hb2_p (Nat.le_refl _))
    have RA2_p := Lib.hid (RA2.out.kept_ hb2_p)
    have HG2_p := Lib.hid hg1
    clear hb2_p hg1 CD CW hRl hA0
    have hs3_p : (w2_p.alloc (.cells (rqC nilS rq0) 26)).heap.size = w2_p.heap.size + 1 := by simp
    have B4_p := Lib.hid ((B2_p.out.alloc B2_p.out.size (.cells (rqC nilS rq0) 26)).alloc (by have := B2_p.out.size; rw [hs3_p]; omega) (.cells #[] 5))
    have RA4_p := Lib.hid ((RA2_p.out.kept_ ((Below.refl w2_p.heap.size w2_p).alloc (Nat.le_refl _) (.cells (rqC nilS rq0) 26))).kept_ ((Below.refl _ _).alloc (Nat.le_refl _) (.cells #[] 5)))
    have HG4_p := Lib.hid ((HG2_p.out.alloc (.cells (rqC nilS rq0) 26)).alloc (.cells #[] 5))
    have O4_p := Lib.hid (show ((w2_p.alloc (.cells (rqC nilS rq0) 26)).alloc (.cells #[] 5)).ownsRow (w2_p.heap.size + 1) 5 1 (.slice (some ⟨w2_p.heap.size + 1, 0, none⟩) 0 0) 0 (bvs []) from hs3_p ▸ own_cells_alloc (w2_p.alloc (.cells (rqC nilS rq0) 26)))
    have hs4_p : ((w2_p.alloc (.cells (rqC nilS rq0) 26)).alloc (.cells #[] 5)).heap.size = w2_p.heap.size + 1 + 1 := by simp
    have hz2_p : W0.heap.size ≤ w2_p.heap.size := B2_p.out.size
    clear hs3_p
    go_wp2_with (first
      | (at_builtin; refine wpList_append_bytes rfl _ _ rfl (w2_p.heap.size + 1) _ 0 [] rfl O4_p.out (some adp) l l HANp.out xs rfl HL.out.symm RA4_p.out.cells (by have := HLXp.out.2; omega) (by simp <;> omega) ?_
         intro v5 w5_p hown hg hv
         have B5_p := Lib.hid (below_grown B4_p.out hg (by intro g hg; cases hg; show W0.heap.size ≤ w2_p.heap.size + 1; omega) (by rw [hs4_p]; omega))
         have O5_p := Lib.hid (show w5_p.ownsRow (w2_p.heap.size + 1) 5 1 v5 l (bvs xs) by simpa [bvs] using hown)
         have HG5_p := Lib.hid (HG4_p.out.grown hg (fun e => by have e2 : g1 = w2_p.heap.size + 1 := Option.some.inj e; have h1 := HG2_p.out.lt; omega))
         have S5_p := Lib.hid (show w2_p.heap.size + 1 ≤ w5_p.heap.size by have := hg.size; simp at this; omega)
         obtain ⟨A5, c5, hv5, _, _⟩ := own_cells O5_p.out
         subst hv5
         clear hown hg hv)
      | (at_builtin; refine wpList_append_bytes rfl _ _ rfl (w2_p.heap.size + 1) _ l xs rfl O5_p.out D m d HD.out ys rfl HM.out (HYW.out _ B5_p.out) (by have := HLXp.out.2; have := HMN.out; omega) S5_p.out ?_
         intro v6 w6_p hown hg hv
         have B6_p := Lib.hid (below_grown B5_p.out hg (fun g e => by have := (O5_p.out.lt g e).1; omega) B5_p.out.size)
         have HG6_p := Lib.hid (HG5_p.out.grown hg (fun e => by have h1 := (O5_p.out.lt _ e.symm).1; have h2 := HG2_p.out.lt; omega))
         have O6_p := Lib.hid (show w6_p.ownsRow (w2_p.heap.size + 1) 5 1 v6 (l + m) (bvs (xs ++ ys)) by rw [bvs_append]; exact hown)
         obtain ⟨A6, c6, hv6, hc6, hl6⟩ := own_cells O6_p.out
         subst hv6
         have CD2 := Lib.hid (decode_rq A6 (l + m) c6 (xs ++ ys) w6_p hl6 hc6 (byt_wf (HBYp.out.append (byt_of HW.out))) (by have := HLXp.out.2; have := HMN.out; omega) (HTW.out _ B6_p.out))
         clear hown hg hv hc6 hl6)
      | fail)
    go_at_call 27; (with_reducible refine CD2.out.mono ?_); rintro e w7_p ⟨hb7_p, hq_p⟩
    rw [HTLp.out] at hq_p
    have B7_p := Lib.hid (below_step B6_p.out hb7_p (Nat.le_refl _))
    have HG7_p := Lib.hid (HG6_p.out.kept hb7_p)
    clear hb7_p CD2 hs4_p hz2_p
    by_cases hys : ys = []
    · rw [if_pos hys] at hq_p
      obtain ⟨v7, rfl, hv7⟩ := hq_p
      obtain ⟨A7, c7, rfl, _, _⟩ := CellsOwn.rd hv7
      have hm0 : ¬ (0 : Int) < (m : Int) := by have := HM.out; rw [hys] at this; simp at this; omega
      have hm1 : ((m : Int) == 0) = true := by have := HM.out; rw [hys] at this; simp at this; simp; omega
      clear hv7
      have B8_p := Lib.hid (fun o : Obj => B7_p.out.alloc B7_p.out.size o)
      have HG8_p := Lib.hid (fun o : Obj => HG7_p.out.alloc o)
      go_wp2_with fail
      go_at_call 32; (with_reducible refine (fault_yes g1 11 (R : Int) _ (HTW.out _ (B8_p.out _)) (by decide) (HG8_p.out _)).mono ?_); rintro e w9_p ⟨rfl, hb9_p⟩
      have B9_p := Lib.hid (below_step (B8_p.out _) hb9_p (Nat.le_refl _))
      clear hb9_p B8_p HG8_p
      have hcr : ∀ i, w9_p.cell? ⟨W.heap.size + 1, i, none⟩ = (rsC (.slice C k c2) r)[i]? := (K2.out.kept B9_p.out).cell
      go_wp2_with fail
      go_at_call 24; (with_reducible refine (enc_rs (HR0.out.below B9_p.out) c2).mono ?_); rintro e ws ⟨Ab, rfl, hrb, hbs⟩
      have Bs := Lib.hid (below_step B9_p.out hbs (Nat.le_refl _))
      have RAs := Lib.hid hrb
      clear hbs hrb hcr
      by_cases h2 : checkRs r = 0
      · have H2 := Lib.hid h2
        rw [h2]
        clear h2
        have HLXs := Lib.hid (encS_two H2.out HR0.out.rows)
        have HCUTs := Lib.hid (fun (j : Nat) (hj : j < (encS r).length) => cut_encS H2.out HR0.out.rows hj)
        have HTLs := Lib.hid (tail_encS H2.out HR0.out.rows ys)
        have HBYs := Lib.hid (encS_byt r)
        obtain ⟨xs, hxs⟩ : ∃ xs, xs = encS r := ⟨_, rfl⟩
        rw [← hxs] at RAs HLXs HCUTs HTLs HBYs ⊢
        obtain ⟨l, hl⟩ : ∃ l, l = xs.length := ⟨_, rfl⟩
        rw [← hl] at RAs HLXs HCUTs HTLs ⊢
        have HL := Lib.hid hl
        obtain ⟨ads, hadA⟩ : ∃ ad, Ab = some ad := by
          cases hA : Ab with
          | none => exact absurd (RAs.out.none_ hA) (by have := HLXs.out.1; omega)
          | some ad => exact ⟨ad, rfl⟩
        subst hadA
        have HANs := Lib.hid (show some ads = none → l = 0 from fun h => by cases h)
        obtain ⟨R, hR, CW⟩ := within_any cut l (by have := HLXs.out.1; omega) (by have := HLXs.out.2; omega)
        have HRLs := Lib.hid hR
        have CW := Lib.hid CW
        clear hl hxs hR
        go_wp2_with fail
        go_at_call 31; (with_reducible refine (CW.out _).mono ?_); rintro e wS1s ⟨rfl, rfl⟩
        have hRl : R ≤ l := by have := HRLs.out; omega
        have hA0 : (some ads) = none → R = 0 := fun e => by have := HANs.out e; have := HLXs.out.1; omega
        have hct : CellsAt ws (some ads) (bvs (xs.take R)) := by
          have := RAs.out.cells.take_ R
          rwa [show (bvs xs).take R = bvs (xs.take R) by simp [bvs, List.map_take]] at this
        have CD := Lib.hid (decode_rs (some ads) R l (xs.take R) ws (by rw [List.length_take]; have := HL.out; omega) hct (byt_wf (HBYs.out.take R)) (by have := HRLs.out; have := HLXs.out.2; omega) (HTW.out _ Bs.out))
        clear hct
        go_wp2_with fail
        go_at_call 28; (with_reducible refine CD.out.mono ?_); rintro e w2_s ⟨hb2_s, hq_s⟩
        rw [HCUTs.out R HRLs.out] at hq_s
        obtain ⟨g1, rfl, hg1⟩ := hq_s
        have B2_s := Lib.hid (below_step Bs.out hb2_s (Nat.le_refl _))
        have RA2_s := Lib.hid (RAs.out.kept_ hb2_s)
        have HG2_s := Lib.hid hg1
        clear hb2_s hg1 CD CW hRl hA0
        have hs3_s : (w2_s.alloc (.cells (rsC nilS rs0) 32)).heap.size = w2_s.heap.size + 1 := by simp
        have B4_s := Lib.hid ((B2_s.out.alloc B2_s.out.size (.cells (rsC nilS rs0) 32)).alloc (by have := B2_s.out.size; rw [hs3_s]; omega) (.cells #[] 5))
        have RA4_s := Lib.hid ((RA2_s.out.kept_ ((Below.refl w2_s.heap.size w2_s).alloc (Nat.le_refl _) (.cells (rsC nilS rs0) 32))).kept_ ((Below.refl _ _).alloc (Nat.le_refl _) (.cells #[] 5)))
        have HG4_s := Lib.hid ((HG2_s.out.alloc (.cells (rsC nilS rs0) 32)).alloc (.cells #[] 5))
        have O4_s := Lib.hid (show ((w2_s.alloc (.cells (rsC nilS rs0) 32)).alloc (.cells #[] 5)).ownsRow (w2_s.heap.size + 1) 5 1 (.slice (some ⟨w2_s.heap.size + 1, 0, none⟩) 0 0) 0 (bvs []) from hs3_s ▸ own_cells_alloc (w2_s.alloc (.cells (rsC nilS rs0) 32)))
        have hs4_s : ((w2_s.alloc (.cells (rsC nilS rs0) 32)).alloc (.cells #[] 5)).heap.size = w2_s.heap.size + 1 + 1 := by simp
        have hz2_s : W0.heap.size ≤ w2_s.heap.size := B2_s.out.size
        clear hs3_s
        go_wp2_with (first
          | (at_builtin; refine wpList_append_bytes rfl _ _ rfl (w2_s.heap.size + 1) _ 0 [] rfl O4_s.out (some ads) l l HANs.out xs rfl HL.out.symm RA4_s.out.cells (by have := HLXs.out.2; omega) (by simp <;> omega) ?_
             intro v5 w5_s hown hg hv
             have B5_s := Lib.hid (below_grown B4_s.out hg (by intro g hg; cases hg; show W0.heap.size ≤ w2_s.heap.size + 1; omega) (by rw [hs4_s]; omega))
             have O5_s := Lib.hid (show w5_s.ownsRow (w2_s.heap.size + 1) 5 1 v5 l (bvs xs) by simpa [bvs] using hown)
             have HG5_s := Lib.hid (HG4_s.out.grown hg (fun e => by have e2 : g1 = w2_s.heap.size + 1 := Option.some.inj e; have h1 := HG2_s.out.lt; omega))
             have S5_s := Lib.hid (show w2_s.heap.size + 1 ≤ w5_s.heap.size by have := hg.size; simp at this; omega)
             obtain ⟨A5, c5, hv5, _, _⟩ := own_cells O5_s.out
             subst hv5
             clear hown hg hv)
          | (at_builtin; refine wpList_append_bytes rfl _ _ rfl (w2_s.heap.size + 1) _ l xs rfl O5_s.out D m d HD.out ys rfl HM.out (HYW.out _ B5_s.out) (by have := HLXs.out.2; have := HMN.out; omega) S5_s.out ?_
             intro v6 w6_s hown hg hv
             have B6_s := Lib.hid (below_grown B5_s.out hg (fun g e => by have := (O5_s.out.lt g e).1; omega) B5_s.out.size)
             have HG6_s := Lib.hid (HG5_s.out.grown hg (fun e => by have h1 := (O5_s.out.lt _ e.symm).1; have h2 := HG2_s.out.lt; omega))
             have O6_s := Lib.hid (show w6_s.ownsRow (w2_s.heap.size + 1) 5 1 v6 (l + m) (bvs (xs ++ ys)) by rw [bvs_append]; exact hown)
             obtain ⟨A6, c6, hv6, hc6, hl6⟩ := own_cells O6_s.out
             subst hv6
             have CD2 := Lib.hid (decode_rs A6 (l + m) c6 (xs ++ ys) w6_s hl6 hc6 (byt_wf (HBYs.out.append (byt_of HW.out))) (by have := HLXs.out.2; have := HMN.out; omega) (HTW.out _ B6_s.out))
             clear hown hg hv hc6 hl6)
          | fail)
        go_at_call 28; (with_reducible refine CD2.out.mono ?_); rintro e w7_s ⟨hb7_s, hq_s⟩
        rw [HTLs.out] at hq_s
        have B7_s := Lib.hid (below_step B6_s.out hb7_s (Nat.le_refl _))
        have HG7_s := Lib.hid (HG6_s.out.kept hb7_s)
        clear hb7_s CD2 hs4_s hz2_s
        rw [if_pos hys] at hq_s
        obtain ⟨v7, rfl, hv7⟩ := hq_s
        obtain ⟨A7, c7, rfl, _, _⟩ := RowsOwn.rd hv7
        have hm0 : ¬ (0 : Int) < (m : Int) := by have := HM.out; rw [hys] at this; simp at this; omega
        have hm1 : ((m : Int) == 0) = true := by have := HM.out; rw [hys] at this; simp at this; simp; omega
        clear hv7
        have B8_s := Lib.hid (fun o : Obj => B7_s.out.alloc B7_s.out.size o)
        have HG8_s := Lib.hid (fun o : Obj => HG7_s.out.alloc o)
        go_wp2_with fail
        go_at_call 32; (with_reducible refine (fault_yes g1 11 (R : Int) _ (HTW.out _ (B8_s.out _)) (by decide) (HG8_s.out _)).mono ?_); rintro e w9_s ⟨rfl, hb9_s⟩
        have B9_s := Lib.hid (below_step (B8_s.out _) hb9_s (Nat.le_refl _))
        clear hb9_s B8_s HG8_s
        go_wp2
        go_ret
        exact ⟨rfl, BW.out _ B9_s.out⟩
      · have g2 : (checkRs r != 0) = true := by simpa using h2
        clear h2
        go_wp2
        go_ret
        exact ⟨rfl, BW.out _ Bs.out⟩
    · rw [if_neg hys] at hq_p
      obtain ⟨g2, rfl, hg2⟩ := hq_p
      have hm0 : (0 : Int) < (m : Int) := by have h1 := HM.out; have := List.length_pos_iff.2 hys; omega
      have hm1 : ((m : Int) == 0) = false := by simp; omega
      have HGG := Lib.hid hg2
      clear hg2
      have B8_p := Lib.hid (fun o : Obj => B7_p.out.alloc B7_p.out.size o)
      have HG8_p := Lib.hid (fun o : Obj => HG7_p.out.alloc o)
      have HH8_p := Lib.hid (fun o : Obj => HGG.out.alloc o)
      go_wp2_with fail
      go_at_call 32; (with_reducible refine (fault_yes g1 11 (R : Int) _ (HTW.out _ (B8_p.out _)) (by decide) (HG8_p.out _)).mono ?_); rintro e w9_p ⟨rfl, hb9_p⟩
      have B9_p := Lib.hid (below_step (B8_p.out _) hb9_p (Nat.le_refl _))
      have HH9_p := Lib.hid ((HH8_p.out _).kept hb9_p)
      clear hb9_p B8_p HG8_p HH8_p
      go_wp2_with fail
      go_at_call 32; (with_reducible refine (fault_yes g2 13 (l : Int) _ (HTW.out _ B9_p.out) (by decide) HH9_p.out).mono ?_); rintro e wA_p ⟨rfl, hbA_p⟩
      have BA_p := Lib.hid (below_step B9_p.out hbA_p (Nat.le_refl _))
      clear hbA_p
      have hcr : ∀ i, wA_p.cell? ⟨W.heap.size + 1, i, none⟩ = (rsC (.slice C k c2) r)[i]? := (K2.out.kept BA_p.out).cell
      go_wp2_with fail
      go_at_call 24; (with_reducible refine (enc_rs (HR0.out.below BA_p.out) c2).mono ?_); rintro e ws ⟨Ab, rfl, hrb, hbs⟩
      have Bs := Lib.hid (below_step BA_p.out hbs (Nat.le_refl _))
      have RAs := Lib.hid hrb
      clear hbs hrb hcr
      by_cases h2 : checkRs r = 0
      · have H2 := Lib.hid h2
        rw [h2]
        clear h2
        have HLXs := Lib.hid (encS_two H2.out HR0.out.rows)
        have HCUTs := Lib.hid (fun (j : Nat) (hj : j < (encS r).length) => cut_encS H2.out HR0.out.rows hj)
        have HTLs := Lib.hid (tail_encS H2.out HR0.out.rows ys)
        have HBYs := Lib.hid (encS_byt r)
        obtain ⟨xs, hxs⟩ : ∃ xs, xs = encS r := ⟨_, rfl⟩
        rw [← hxs] at RAs HLXs HCUTs HTLs HBYs ⊢
        obtain ⟨l, hl⟩ : ∃ l, l = xs.length := ⟨_, rfl⟩
        rw [← hl] at RAs HLXs HCUTs HTLs ⊢
        have HL := Lib.hid hl
        obtain ⟨ads, hadA⟩ : ∃ ad, Ab = some ad := by
          cases hA : Ab with
          | none => exact absurd (RAs.out.none_ hA) (by have := HLXs.out.1; omega)
          | some ad => exact ⟨ad, rfl⟩
        subst hadA
        have HANs := Lib.hid (show some ads = none → l = 0 from fun h => by cases h)
        obtain ⟨R, hR, CW⟩ := within_any cut l (by have := HLXs.out.1; omega) (by have := HLXs.out.2; omega)
        have HRLs := Lib.hid hR
        have CW := Lib.hid CW
        clear hl hxs hR
        go_wp2_with fail
        go_at_call 31; (with_reducible refine (CW.out _).mono ?_); rintro e wS1s ⟨rfl, rfl⟩
        have hRl : R ≤ l := by have := HRLs.out; omega
        have hA0 : (some ads) = none → R = 0 := fun e => by have := HANs.out e; have := HLXs.out.1; omega
        have hct : CellsAt ws (some ads) (bvs (xs.take R)) := by
          have := RAs.out.cells.take_ R
          rwa [show (bvs xs).take R = bvs (xs.take R) by simp [bvs, List.map_take]] at this
        have CD := Lib.hid (decode_rs (some ads) R l (xs.take R) ws (by rw [List.length_take]; have := HL.out; omega) hct (byt_wf (HBYs.out.take R)) (by have := HRLs.out; have := HLXs.out.2; omega) (HTW.out _ Bs.out))
        clear hct
        go_wp2_with fail
        go_at_call 28; (with_reducible refine CD.out.mono ?_); rintro e w2_s ⟨hb2_s, hq_s⟩
        rw [HCUTs.out R HRLs.out] at hq_s
        obtain ⟨g1, rfl, hg1⟩ := hq_s
        have B2_s := Lib.hid (below_step Bs.out hb2_s (Nat.le_refl _))
        have RA2_s := Lib.hid (RAs.out.kept_ hb2_s)
        have HG2_s := Lib.hid hg1
        clear hb2_s hg1 CD CW hRl hA0
        have hs3_s : (w2_s.alloc (.cells (rsC nilS rs0) 32)).heap.size = w2_s.heap.size + 1 := by simp
        have B4_s := Lib.hid ((B2_s.out.alloc B2_s.out.size (.cells (rsC nilS rs0) 32)).alloc (by have := B2_s.out.size; rw [hs3_s]; omega) (.cells #[] 5))
        have RA4_s := Lib.hid ((RA2_s.out.kept_ ((Below.refl w2_s.heap.size w2_s).alloc (Nat.le_refl _) (.cells (rsC nilS rs0) 32))).kept_ ((Below.refl _ _).alloc (Nat.le_refl _) (.cells #[] 5)))
        have HG4_s := Lib.hid ((HG2_s.out.alloc (.cells (rsC nilS rs0) 32)).alloc (.cells #[] 5))
        have O4_s := Lib.hid (show ((w2_s.alloc (.cells (rsC nilS rs0) 32)).alloc (.cells #[] 5)).ownsRow (w2_s.heap.size + 1) 5 1 (.slice (some ⟨w2_s.heap.size + 1, 0, none⟩) 0 0) 0 (bvs []) from hs3_s ▸ own_cells_alloc (w2_s.alloc (.cells (rsC nilS rs0) 32)))
        have hs4_s : ((w2_s.alloc (.cells (rsC nilS rs0) 32)).alloc (.cells #[] 5)).heap.size = w2_s.heap.size + 1 + 1 := by simp
        have hz2_s : W0.heap.size ≤ w2_s.heap.size := B2_s.out.size
        clear hs3_s
        go_wp2_with (first
          | (at_builtin; refine wpList_append_bytes rfl _ _ rfl (w2_s.heap.size + 1) _ 0 [] rfl O4_s.out (some ads) l l HANs.out xs rfl HL.out.symm RA4_s.out.cells (by have := HLXs.out.2; omega) (by simp <;> omega) ?_
             intro v5 w5_s hown hg hv
             have B5_s := Lib.hid (below_grown B4_s.out hg (by intro g hg; cases hg; show W0.heap.size ≤ w2_s.heap.size + 1; omega) (by rw [hs4_s]; omega))
             have O5_s := Lib.hid (show w5_s.ownsRow (w2_s.heap.size + 1) 5 1 v5 l (bvs xs) by simpa [bvs] using hown)
             have HG5_s := Lib.hid (HG4_s.out.grown hg (fun e => by have e2 : g1 = w2_s.heap.size + 1 := Option.some.inj e; have h1 := HG2_s.out.lt; omega))
             have S5_s := Lib.hid (show w2_s.heap.size + 1 ≤ w5_s.heap.size by have := hg.size; simp at this; omega)
             obtain ⟨A5, c5, hv5, _, _⟩ := own_cells O5_s.out
             subst hv5
             clear hown hg hv)
          | (at_builtin; refine wpList_append_bytes rfl _ _ rfl (w2_s.heap.size + 1) _ l xs rfl O5_s.out D m d HD.out ys rfl HM.out (HYW.out _ B5_s.out) (by have := HLXs.out.2; have := HMN.out; omega) S5_s.out ?_
             intro v6 w6_s hown hg hv
             have B6_s := Lib.hid (below_grown B5_s.out hg (fun g e => by have := (O5_s.out.lt g e).1; omega) B5_s.out.size)
             have HG6_s := Lib.hid (HG5_s.out.grown hg (fun e => by have h1 := (O5_s.out.lt _ e.symm).1; have h2 := HG2_s.out.lt; omega))
             have O6_s := Lib.hid (show w6_s.ownsRow (w2_s.heap.size + 1) 5 1 v6 (l + m) (bvs (xs ++ ys)) by rw [bvs_append]; exact hown)
             obtain ⟨A6, c6, hv6, hc6, hl6⟩ := own_cells O6_s.out
             subst hv6
             have CD2 := Lib.hid (decode_rs A6 (l + m) c6 (xs ++ ys) w6_s hl6 hc6 (byt_wf (HBYs.out.append (byt_of HW.out))) (by have := HLXs.out.2; have := HMN.out; omega) (HTW.out _ B6_s.out))
             clear hown hg hv hc6 hl6)
          | fail)
        go_at_call 28; (with_reducible refine CD2.out.mono ?_); rintro e w7_s ⟨hb7_s, hq_s⟩
        rw [HTLs.out] at hq_s
        have B7_s := Lib.hid (below_step B6_s.out hb7_s (Nat.le_refl _))
        have HG7_s := Lib.hid (HG6_s.out.kept hb7_s)
        clear hb7_s CD2 hs4_s hz2_s
        rw [if_neg hys] at hq_s
        obtain ⟨g2, rfl, hg2⟩ := hq_s
        have hm0 : (0 : Int) < (m : Int) := by have h1 := HM.out; have := List.length_pos_iff.2 hys; omega
        have hm1 : ((m : Int) == 0) = false := by simp; omega
        have HGG := Lib.hid hg2
        clear hg2
        have B8_s := Lib.hid (fun o : Obj => B7_s.out.alloc B7_s.out.size o)
        have HG8_s := Lib.hid (fun o : Obj => HG7_s.out.alloc o)
        have HH8_s := Lib.hid (fun o : Obj => HGG.out.alloc o)
        go_wp2_with fail
        go_at_call 32; (with_reducible refine (fault_yes g1 11 (R : Int) _ (HTW.out _ (B8_s.out _)) (by decide) (HG8_s.out _)).mono ?_); rintro e w9_s ⟨rfl, hb9_s⟩
        have B9_s := Lib.hid (below_step (B8_s.out _) hb9_s (Nat.le_refl _))
        have HH9_s := Lib.hid ((HH8_s.out _).kept hb9_s)
        clear hb9_s B8_s HG8_s HH8_s
        go_wp2_with fail
        go_at_call 32; (with_reducible refine (fault_yes g2 13 (l : Int) _ (HTW.out _ B9_s.out) (by decide) HH9_s.out).mono ?_); rintro e wA_s ⟨rfl, hbA_s⟩
        have BA_s := Lib.hid (below_step B9_s.out hbA_s (Nat.le_refl _))
        clear hbA_s
        go_wp2
        go_ret
        exact ⟨rfl, BW.out _ BA_s.out⟩
      · have g2 : (checkRs r != 0) = true := by simpa using h2
        clear h2
        go_wp2
        go_ret
        exact ⟨rfl, BW.out _ Bs.out⟩
  · have g1 : (checkRq q == 0) = false := by simpa using h1
    clear h1
    have hcr : ∀ i, w2.cell? ⟨W.heap.size + 1, i, none⟩ = (rsC (.slice C k c2) r)[i]? := (K2.out.kept B2.out).cell
    go_wp2_with fail
    go_at_call 24; (with_reducible refine (enc_rs (HR0.out.below B2.out) c2).mono ?_); rintro e ws ⟨Ab, rfl, hrb, hbs⟩
    have Bs := Lib.hid (below_step B2.out hbs (Nat.le_refl _))
    have RAs := Lib.hid hrb
    clear hbs hrb hcr
    by_cases h2 : checkRs r = 0
    · have H2 := Lib.hid h2
      rw [h2]
      clear h2
      have HLXs := Lib.hid (encS_two H2.out HR0.out.rows)
      have HCUTs := Lib.hid (fun (j : Nat) (hj : j < (encS r).length) => cut_encS H2.out HR0.out.rows hj)
      have HTLs := Lib.hid (tail_encS H2.out HR0.out.rows ys)
      have HBYs := Lib.hid (encS_byt r)
      obtain ⟨xs, hxs⟩ : ∃ xs, xs = encS r := ⟨_, rfl⟩
      rw [← hxs] at RAs HLXs HCUTs HTLs HBYs ⊢
      obtain ⟨l, hl⟩ : ∃ l, l = xs.length := ⟨_, rfl⟩
      rw [← hl] at RAs HLXs HCUTs HTLs ⊢
      have HL := Lib.hid hl
      obtain ⟨ads, hadA⟩ : ∃ ad, Ab = some ad := by
        cases hA : Ab with
        | none => exact absurd (RAs.out.none_ hA) (by have := HLXs.out.1; omega)
        | some ad => exact ⟨ad, rfl⟩
      subst hadA
      have HANs := Lib.hid (show some ads = none → l = 0 from fun h => by cases h)
      obtain ⟨R, hR, CW⟩ := within_any cut l (by have := HLXs.out.1; omega) (by have := HLXs.out.2; omega)
      have HRLs := Lib.hid hR
      have CW := Lib.hid CW
      clear hl hxs hR
      go_wp2_with fail
      go_at_call 31; (with_reducible refine (CW.out _).mono ?_); rintro e wS1s ⟨rfl, rfl⟩
      have hRl : R ≤ l := by have := HRLs.out; omega
      have hA0 : (some ads) = none → R = 0 := fun e => by have := HANs.out e; have := HLXs.out.1; omega
      have hct : CellsAt ws (some ads) (bvs (xs.take R)) := by
        have := RAs.out.cells.take_ R
        rwa [show (bvs xs).take R = bvs (xs.take R) by simp [bvs, List.map_take]] at this
      have CD := Lib.hid (decode_rs (some ads) R l (xs.take R) ws (by rw [List.length_take]; have := HL.out; omega) hct (byt_wf (HBYs.out.take R)) (by have := HRLs.out; have := HLXs.out.2; omega) (HTW.out _ Bs.out))
      clear hct
      go_wp2_with fail
      go_at_call 28; (with_reducible refine CD.out.mono ?_); rintro e w2_s ⟨hb2_s, hq_s⟩
      rw [HCUTs.out R HRLs.out] at hq_s
      obtain ⟨g1, rfl, hg1⟩ := hq_s
      have B2_s := Lib.hid (below_step Bs.out hb2_s (Nat.le_refl _))
      have RA2_s := Lib.hid (RAs.out.kept_ hb2_s)
      have HG2_s := Lib.hid hg1
      clear hb2_s hg1 CD CW hRl hA0
      have hs3_s : (w2_s.alloc (.cells (rsC nilS rs0) 32)).heap.size = w2_s.heap.size + 1 := by simp
      have B4_s := Lib.hid ((B2_s.out.alloc B2_s.out.size (.cells (rsC nilS rs0) 32)).alloc (by have := B2_s.out.size; rw [hs3_s]; omega) (.cells #[] 5))
      have RA4_s := Lib.hid ((RA2_s.out.kept_ ((Below.refl w2_s.heap.size w2_s).alloc (Nat.le_refl _) (.cells (rsC nilS rs0) 32))).kept_ ((Below.refl _ _).alloc (Nat.le_refl _) (.cells #[] 5)))
      have HG4_s := Lib.hid ((HG2_s.out.alloc (.cells (rsC nilS rs0) 32)).alloc (.cells #[] 5))
      have O4_s := Lib.hid (show ((w2_s.alloc (.cells (rsC nilS rs0) 32)).alloc (.cells #[] 5)).ownsRow (w2_s.heap.size + 1) 5 1 (.slice (some ⟨w2_s.heap.size + 1, 0, none⟩) 0 0) 0 (bvs []) from hs3_s ▸ own_cells_alloc (w2_s.alloc (.cells (rsC nilS rs0) 32)))
      have hs4_s : ((w2_s.alloc (.cells (rsC nilS rs0) 32)).alloc (.cells #[] 5)).heap.size = w2_s.heap.size + 1 + 1 := by simp
      have hz2_s : W0.heap.size ≤ w2_s.heap.size := B2_s.out.size
      clear hs3_s
      go_wp2_with (first
        | (at_builtin; refine wpList_append_bytes rfl _ _ rfl (w2_s.heap.size + 1) _ 0 [] rfl O4_s.out (some ads) l l HANs.out xs rfl HL.out.symm RA4_s.out.cells (by have := HLXs.out.2; omega) (by simp <;> omega) ?_
           intro v5 w5_s hown hg hv
           have B5_s := Lib.hid (below_grown B4_s.out hg (by intro g hg; cases hg; show W0.heap.size ≤ w2_s.heap.size + 1; omega) (by rw [hs4_s]; omega))
           have O5_s := Lib.hid (show w5_s.ownsRow (w2_s.heap.size + 1) 5 1 v5 l (bvs xs) by simpa [bvs] using hown)
           have HG5_s := Lib.hid (HG4_s.out.grown hg (fun e => by have e2 : g1 = w2_s.heap.size + 1 := Option.some.inj e; have h1 := HG2_s.out.lt; omega))
           have S5_s := Lib.hid (show w2_s.heap.size + 1 ≤ w5_s.heap.size by have := hg.size; simp at this; omega)
           obtain ⟨A5, c5, hv5, _, _⟩ := own_cells O5_s.out
           subst hv5
           clear hown hg hv)
        | (at_builtin; refine wpList_append_bytes rfl _ _ rfl (w2_s.heap.size + 1) _ l xs rfl O5_s.out D m d HD.out ys rfl HM.out (HYW.out _ B5_s.out) (by have := HLXs.out.2; have := HMN.out; omega) S5_s.out ?_
           intro v6 w6_s hown hg hv
           have B6_s := Lib.hid (below_grown B5_s.out hg (fun g e => by have := (O5_s.out.lt g e).1; omega) B5_s.out.size)
           have HG6_s := Lib.hid (HG5_s.out.grown hg (fun e => by have h1 := (O5_s.out.lt _ e.symm).1; have h2 := HG2_s.out.lt; omega))
           have O6_s := Lib.hid (show w6_s.ownsRow (w2_s.heap.size + 1) 5 1 v6 (l + m) (bvs (xs ++ ys)) by rw [bvs_append]; exact hown)
           obtain ⟨A6, c6, hv6, hc6, hl6⟩ := own_cells O6_s.out
           subst hv6
           have CD2 := Lib.hid (decode_rs A6 (l + m) c6 (xs ++ ys) w6_s hl6 hc6 (byt_wf (HBYs.out.append (byt_of HW.out))) (by have := HLXs.out.2; have := HMN.out; omega) (HTW.out _ B6_s.out))
           clear hown hg hv hc6 hl6)
        | fail)
      go_at_call 28; (with_reducible refine CD2.out.mono ?_); rintro e w7_s ⟨hb7_s, hq_s⟩
      rw [HTLs.out] at hq_s
      have B7_s := Lib.hid (below_step B6_s.out hb7_s (Nat.le_refl _))
      have HG7_s := Lib.hid (HG6_s.out.kept hb7_s)
      clear hb7_s CD2 hs4_s hz2_s
      by_cases hys : ys = []
      · rw [if_pos hys] at hq_s
        obtain ⟨v7, rfl, hv7⟩ := hq_s
        obtain ⟨A7, c7, rfl, _, _⟩ := RowsOwn.rd hv7
        have hm0 : ¬ (0 : Int) < (m : Int) := by have := HM.out; rw [hys] at this; simp at this; omega
        have hm1 : ((m : Int) == 0) = true := by have := HM.out; rw [hys] at this; simp at this; simp; omega
        clear hv7
        have B8_s := Lib.hid (fun o : Obj => B7_s.out.alloc B7_s.out.size o)
        have HG8_s := Lib.hid (fun o : Obj => HG7_s.out.alloc o)
        go_wp2_with fail
        go_at_call 32; (with_reducible refine (fault_yes g1 11 (R : Int) _ (HTW.out _ (B8_s.out _)) (by decide) (HG8_s.out _)).mono ?_); rintro e w9_s ⟨rfl, hb9_s⟩
        have B9_s := Lib.hid (below_step (B8_s.out _) hb9_s (Nat.le_refl _))
        clear hb9_s B8_s HG8_s
        go_wp2
        go_ret
        exact ⟨rfl, BW.out _ B9_s.out⟩
      · rw [if_neg hys] at hq_s
        obtain ⟨g2, rfl, hg2⟩ := hq_s
        have hm0 : (0 : Int) < (m : Int) := by have h1 := HM.out; have := List.length_pos_iff.2 hys; omega
        have hm1 : ((m : Int) == 0) = false := by simp; omega
        have HGG := Lib.hid hg2
        clear hg2
        have B8_s := Lib.hid (fun o : Obj => B7_s.out.alloc B7_s.out.size o)
        have HG8_s := Lib.hid (fun o : Obj => HG7_s.out.alloc o)
        have HH8_s := Lib.hid (fun o : Obj => HGG.out.alloc o)
        go_wp2_with fail
        go_at_call 32; (with_reducible refine (fault_yes g1 11 (R : Int) _ (HTW.out _ (B8_s.out _)) (by decide) (HG8_s.out _)).mono ?_); rintro e w9_s ⟨rfl, hb9_s⟩
        have B9_s := Lib.hid (below_step (B8_s.out _) hb9_s (Nat.le_refl _))
        have HH9_s := Lib.hid ((HH8_s.out _).kept hb9_s)
        clear hb9_s B8_s HG8_s HH8_s
        go_wp2_with fail
        go_at_call 32; (with_reducible refine (fault_yes g2 13 (l : Int) _ (HTW.out _ B9_s.out) (by decide) HH9_s.out).mono ?_); rintro e wA_s ⟨rfl, hbA_s⟩
        have BA_s := Lib.hid (below_step B9_s.out hbA_s (Nat.le_refl _))
        clear hbA_s
        go_wp2
        go_ret
        exact ⟨rfl, BW.out _ BA_s.out⟩
    · have g2 : (checkRs r != 0) = true := by simpa using h2
      clear h2
      go_wp2
      go_ret
      exact ⟨rfl, BW.out _ Bs.out⟩
end Go.Proofs.YteffpfgdoganpaaDoor
