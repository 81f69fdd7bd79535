/- The law WirePieces: the walk. -/
import Derived.Test.YtdgokebablhoiaaDoorWPc
import Derived.Test.YtdgokebablhoiaaDoorWRowsB
import Derived.Test.YtdgokebablhoiaaDoorWCuts
import Derived.Test.YtdgokebablhoiaaDoorWSame
namespace Go.Proofs.YtdgokebablhoiaaDoor
open Go.RowKit

@[irreducible] def pcK (i : Nat) : Nat := i * 1048576
theorem pcK_eq (i : Nat) : pcK i = i * 1048576 := by unfold pcK; rfl
set_option maxHeartbeats 8000000 in
set_option maxRecDepth 100000 in
theorem law_pieces (most : Int) (Ap Az : Option Addr) (np cp nz cz : Nat) (ps : List Bw) (zs : List Int) (w : World) (hl : ps.length = np) (hr : RowsAt w Ap ps) (hok : ∀ b ∈ ps, b.Ok w) (hbk : ∀ b ∈ ps, b.n ≤ 1048576) (hnp : np ≤ 1048576) (hzl : zs.length = nz) (hz : CellsAt w Az (zs.map (Value.int .i64 ·))) (hnz : nz ≤ maxLen) :
    Calls Tryd.prog 7 #[.int .i64 most, .slice Ap np cp, .slice Az nz cz] w fun e w' => e = .returned (.bool true) ∧ Below w.heap.size w w' := by
  have HL := Lib.hid hl
  have HR := Lib.hid hr
  have HK := Lib.hid hok
  have HBK := Lib.hid hbk
  have HZL := Lib.hid hzl
  have HZ := Lib.hid hz
  have HNZ := Lib.hid hnz
  clear hl hr hok hbk hzl hz hnz
  go_enter Tryd.func7, Tryd.ntmps7
  by_cases hm : most < 1 ∨ 65536 < most
  · go_wp2_with fail
    go_at_call 35; (with_reducible refine (f_new_no most w hm).mono ?_); rintro e w1 ⟨rfl, rfl⟩
    go_wp2_with fail
    go_at_call 36; (with_reducible refine (d_new_no most w hm).mono ?_); rintro e w1 ⟨rfl, rfl⟩
    clear hm
    by_cases hnp0 : 0 < np
    · have hd0 : decide ((0 : Int) < (np : Int)) = true := by simp; omega
      go_wp2_with fail
      refine wp_loop_rounds 1 ?_
      rw [rounds_succ]
      go_wp2_with fail
      go_at_call 19; (with_reducible refine (head_any _).mono ?_); rintro e w2 ⟨rfl, hb⟩
      go_wp2
      go_ret
      exact ⟨rfl, hb⟩
    · have hd0 : decide ((0 : Int) < (np : Int)) = false := by simp; omega
      go_wp2_with fail
      refine wp_loop_rounds 1 ?_
      rw [rounds_succ]
      go_wp2_with fail
      go_at_call 19; (with_reducible refine (head_any _).mono ?_); rintro e w2 ⟨rfl, hb⟩
      go_wp2
      go_ret
      exact ⟨rfl, hb⟩
  · have hm1 : 1 ≤ most := by omega
    have hm2 : most ≤ 65536 := by omega
    clear hm
    go_wp2_with fail
    go_at_call 35; (with_reducible refine (f_new_yes most w hm1 hm2).mono ?_); rintro e w1 ⟨rfl, hf, hb⟩
    have B1 := Lib.hid hb
    have HF1 := Lib.hid hf
    clear hf hb
    go_wp2_with fail
    go_at_call 36; (with_reducible refine (d_new_yes most w1 hm1 hm2).mono ?_); rintro e w2 ⟨rfl, hf, hb⟩
    have HP2 := Lib.hid (show PcS w.heap.size w1.heap.size most 0 w2.heap.size w2 from ⟨HF1.out.blk.lt, hf.blk.lt, Nat.le_refl _, .inl ⟨[], _, _, HF1.out.kept hb, hf, (fun h => by cases h), (fun k h => by cases h), (fun k h => by cases h), (fun k h => by cases h), (fun x hx => by cases hx), Nat.le_refl _⟩⟩)
    have B2 := Lib.hid (B1.out.trans (hb.mono B1.out.size))
    clear hf hb B1 HF1
    obtain ⟨r, hr⟩ : ∃ r, r = w1.heap.size := ⟨_, rfl⟩
    rw [← hr] at HP2
    rw [← hr]
    clear hr
    obtain ⟨q, hq⟩ : ∃ q, q = w.heap.size := ⟨_, rfl⟩
    rw [← hq] at HP2
    rw [← hq]
    have HQ := Lib.hid hq
    clear hq
    go_wp2_with fail
    go_loopw [11] (fun t11 wr => ∃ i : Nat, t11 = .int .i64 (i : Int) ∧ i ≤ np ∧ i ≤ 100 ∧ Hid (PcS q r most (pcK i) wr.heap.size wr ∧ Below w.heap.size w wr)) (fun t11 _ => 100 - (intOf t11).toNat)
    case atStart => exact ⟨0, rfl, Nat.zero_le _, by omega, Lib.hid ⟨HP2.out.more (Nat.zero_le _), B2.out⟩⟩
    case round =>
      obtain ⟨i, rfl, hi, hi9, HP⟩ := hrel
      by_cases hgo : i < np ∧ i < 100
      · obtain ⟨hib, hi30⟩ := hgo
        have hkl : i < ps.length := by rw [HL.out]; exact hib
        obtain ⟨ad, rfl, c0⟩ := HR.out.at HP.out.2 i hkl
        have HB := Lib.hid (HK.out ps[i] (List.getElem_mem _))
        have hbn := HBK.out ps[i] (List.getElem_mem _)
        have HRI := Lib.hid (fun (W' : World) (hb : Below w.heap.size w W') => HR.out.at hb i hkl)
        generalize ps[i] = b at *
        obtain ⟨bA, bn, bc, bx⟩ := b
        have c0 : wr.cell? (ad.add i) = some (.slice bA bn bc) := c0
        have hbn : bn ≤ 1048576 := hbn
        have HRI := Lib.hid (show ∀ (W' : World), Below w.heap.size w W' → W'.cell? (ad.add i) = some (.slice bA bn bc) from fun W' hb => by
          obtain ⟨ad', e, h⟩ := HRI.out W' hb
          cases e; exact h)
        go_wp2_with fail
        go_at_call 20; (with_reducible refine (lend_any bA bn bc bx wr HB.out.len (HB.out.cells.below HP.out.2) (by omega)).mono ?_); rintro e w3 ⟨g, cur, rfl, hg, hbk, hcu, hb⟩
        have HC3 := Lib.hid (cells_of_blk hbk hcu)
        have HCU := Lib.hid hcu
        have HG := Lib.hid hg
        have HG3 := Lib.hid hbk
        have B3 := Lib.hid (HP.out.2.trans (hb.mono HP.out.2.size))
        have HS3 := Lib.hid hb.size
        have CF := Lib.hid (pc_feed (some ⟨g, 0, none⟩) bn (bn + 67) bA bc bx (HP.out.1.kept hb) HB.out.len HC3.out (fun h => by cases h) HB.out.none_ HB.out.wf (by rw [pcK_eq]; omega))
        clear hg hbk hcu hb c0
        go_wp2_with fail
        go_at_call 37; (with_reducible refine CF.out.mono ?_); rintro e w4 ⟨rfl, ht, hd⟩
        have B4 := Lib.hid (B3.out.trans (ht.below (B := w.heap.size) B3.out.size (fun k hk => by have := hk.1; have := HQ.out; omega)))
        have HG4 := Lib.hid (HG3.out.tur ht (fun hs => by have := hs.2; have := HG.out; omega))
        have c0 := HRI.out w4 B4.out
        have CD := Lib.hid (hd (HB.out.cells.below B4.out))
        clear ht hd CF
        go_wp2_with fail
        go_at_call 38; (with_reducible refine CD.out.mono ?_); rintro e w5 ⟨rfl, ht, hd⟩
        have B5 := Lib.hid (B4.out.trans (ht.below (B := w.heap.size) B4.out.size (fun k hk => by have := hk.1; have := HQ.out; omega)))
        have HG5 := Lib.hid (HG4.out.tur ht (fun hs => by have := hs.2; have := HG.out; omega))
        have c0 := HRI.out w5 B5.out
        have HP5 := Lib.hid hd
        have HKM := Lib.hid (show pcK i + bn ≤ pcK (i + 1) by rw [pcK_eq, pcK_eq]; omega)
        clear ht hd CD
        have CRG := Lib.hid (HRI.out w5.drew B5.out.drew)
        have HCB := Lib.hid (back_any g cur bA bn bc bx w5.drew HB.out.len (HB.out.cells.below B5.out.drew) HG5.out.drew HCU.out (by omega))
        have HB0 := Lib.hid (show ∀ W6, Tur (· = g) w5.drew W6 → Tur (fun k => wr.heap.size ≤ k ∧ k < w3.heap.size) w5 W6 from fun W6 h => ⟨h.os.trans rfl, h.tape.trans rfl, h.output.trans rfl, h.size, fun k hk hn => h.block k hk (fun e => hn (e ▸ ⟨HG.out, HG3.out.lt⟩))⟩)
        have HB5 := Lib.hid (show ∀ W6, Tur (· = g) w5.drew W6 → Below w.heap.size w W6 from fun W6 h => B5.out.drew.trans (h.below (B := w.heap.size) B5.out.drew.size (fun k hk => by have := HG.out; have := HP.out.2.size; omega)))
        obtain ⟨xA, xn, xc, yA, yc, m1, f1, m2, f2, hxb, hyb⟩ := (HP5.out w5 (Tur.refl _ _)).held
        have HXB := Lib.hid hxb
        have HYB := Lib.hid hyb
        have HQR := Lib.hid (show q < r ∧ r < wr.heap.size from ⟨HP.out.1.1, HP.out.1.2.1⟩)
        clear hxb hyb
        go_wp2_with fail
        (refine wp_region_held_drew (S := fun W9 => W9.cell? (ad.add i) = some (.slice bA bn bc) ∧ W9.cell? ⟨r, 1, none⟩ = some (.slice yA xn yc)) (by kernel_rfl) ⟨CRG.out, HYB.out.drew.cell 1⟩ (fun hHeld => ?_))
        (refine take_q (i := 0) (d := 69) (v := ?v101) rfl rfl (by kernel_rfl) (by kernel_rfl) (by kernel_rfl) (fun _ _ _ h => h) (by kernel_rfl) ?hy101 (by assumption) ?rest101)
        case hy101 => (intro w9 hSw; obtain ⟨hc9, hy9⟩ := hSw; first | (go_simp; done) | (go_simp; with_reducible rfl))
        (try simp only [Act.put, List.setIfInBounds_toArray, List.set_cons_zero, List.set_cons_succ])
        (refine take_q (i := 1) (d := 70) (v := ?v102) rfl rfl (by kernel_rfl) (by kernel_rfl) (by kernel_rfl) (fun _ _ _ h => h) (by kernel_rfl) ?hy102 (by assumption) ?rest102)
        case hy102 => (intro w9 hSw; obtain ⟨hc9, hy9⟩ := hSw; first | (go_simp; done) | (go_simp; with_reducible rfl))
        (try simp only [Act.put, List.setIfInBounds_toArray, List.set_cons_zero, List.set_cons_succ])
        (refine take_q (i := 2) (d := 71) (v := ?v103) rfl rfl (by kernel_rfl) (by kernel_rfl) (by kernel_rfl) (fun _ _ _ h => h) (by kernel_rfl) ?hy103 (by assumption) ?rest103)
        case hy103 => (intro w9 hSw; obtain ⟨hc9, hy9⟩ := hSw; first | (go_simp; done) | (go_simp; with_reducible rfl))
        (try simp only [Act.put, List.setIfInBounds_toArray, List.set_cons_zero, List.set_cons_succ])
        (refine take_q (i := 3) (d := 72) (v := ?v104) rfl rfl (by kernel_rfl) (by kernel_rfl) (by kernel_rfl) (fun _ _ _ h => h) (by kernel_rfl) ?hy104 (by assumption) ?rest104)
        case hy104 => (intro w9 hSw; obtain ⟨hc9, hy9⟩ := hSw; first | (go_simp; done) | (go_simp; with_reducible rfl))
        (try simp only [Act.put, List.setIfInBounds_toArray, List.set_cons_zero, List.set_cons_succ])
        (refine take_q (i := 4) (d := 73) (v := ?v105) rfl rfl (by kernel_rfl) (by kernel_rfl) (by kernel_rfl) (fun _ _ _ h => h) (by kernel_rfl) ?hy105 (by assumption) ?rest105)
        case hy105 => (intro w9 hSw; obtain ⟨hc9, hy9⟩ := hSw; first | (go_simp; done) | (go_simp; with_reducible rfl))
        (try simp only [Act.put, List.setIfInBounds_toArray, List.set_cons_zero, List.set_cons_succ])
        (refine wpAnyH_ready (rs := [5]) (by kernel_rfl) (by simp) ?_)
        (refine AllReadyH.cons (o := _) rfl (fun K hK => ?_) AllReadyH.nil)
        go_simp
        (with_reducible refine HCB.out.mono ?_)
        rintro e w6 ⟨rfl, hb6⟩
        have HP6 := Lib.hid ((HP5.out w6 (HB0.out _ hb6)).more HKM.out)
        have B6 := Lib.hid (HB5.out w6 hb6)
        have HXB6 := Lib.hid (HXB.out.drew.tur hb6 (show ¬ q = g by have := HQR.out; have := HG.out; omega))
        have HYB6 := Lib.hid (HYB.out.drew.tur hb6 (show ¬ r = g by have := HQR.out; have := HG.out; omega))
        clear hb6
        go_wp2_with fail
        (refine hK.out _ _ ⟨HRI.out _ B6.out, HYB6.out.cell 1⟩ (fun hHeld => ?_))
        clear hK K
        (try simp only [Act.put, List.setIfInBounds_toArray, List.set_cons_zero, List.set_cons_succ])
        (refine take_q (i := 6) (d := 75) (v := ?v106) rfl rfl (by kernel_rfl) (by kernel_rfl) (by kernel_rfl) (fun _ _ _ h => h) (by kernel_rfl) ?hy106 (by assumption) ?rest106)
        case hy106 => (intro w9 hSw; obtain ⟨hc9, hy9⟩ := hSw; first | (go_simp; done) | (go_simp; with_reducible rfl))
        (try simp only [Act.put, List.setIfInBounds_toArray, List.set_cons_zero, List.set_cons_succ])
        (refine take_q (i := 7) (d := 76) (v := ?v107) rfl rfl (by kernel_rfl) (by kernel_rfl) (by kernel_rfl) (fun _ _ _ h => h) (by kernel_rfl) ?hy107 (by assumption) ?rest107)
        case hy107 => (intro w9 hSw; obtain ⟨hc9, hy9⟩ := hSw; first | (go_simp; done) | (go_simp; with_reducible rfl))
        (try simp only [Act.put, List.setIfInBounds_toArray, List.set_cons_zero, List.set_cons_succ])
        (refine take_q (i := 8) (d := 77) (v := ?v108) rfl rfl (by kernel_rfl) (by kernel_rfl) (by kernel_rfl) (fun _ _ _ h => h) (by kernel_rfl) ?hy108 (by assumption) ?rest108)
        case hy108 => (intro w9 hSw; obtain ⟨hc9, hy9⟩ := hSw; first | (go_simp; done) | (go_simp; with_reducible rfl))
        (try simp only [Act.put, List.setIfInBounds_toArray, List.set_cons_zero, List.set_cons_succ])
        (refine take_q (i := 10) (d := 79) (v := ?v109) rfl rfl (by kernel_rfl) (by kernel_rfl) (by kernel_rfl) (fun _ _ _ h => h) (by kernel_rfl) ?hy109 (by assumption) ?rest109)
        case hy109 => (intro w9 hSw; obtain ⟨hc9, hy9⟩ := hSw; first | (go_simp; done) | (go_simp; with_reducible rfl))
        (try simp only [Act.put, List.setIfInBounds_toArray, List.set_cons_zero, List.set_cons_succ])
        (refine take_q (i := 11) (d := 80) (v := ?v110) rfl rfl (by kernel_rfl) (by kernel_rfl) (by kernel_rfl) (fun _ _ _ h => h) (by kernel_rfl) ?hy110 (by assumption) ?rest110)
        case hy110 => (intro w9 hSw; obtain ⟨hc9, hy9⟩ := hSw; first | (go_simp; done) | (go_simp; with_reducible rfl))
        (try simp only [Act.put, List.setIfInBounds_toArray, List.set_cons_zero, List.set_cons_succ])
        (refine take_q (i := 12) (d := 81) (v := ?v111) rfl rfl (by kernel_rfl) (by kernel_rfl) (by kernel_rfl) (fun _ _ _ h => h) (by kernel_rfl) ?hy111 (by assumption) ?rest111)
        case hy111 => (intro w9 hSw; obtain ⟨hc9, hy9⟩ := hSw; first | (go_simp; done) | (go_simp; with_reducible rfl))
        (try simp only [Act.put, List.setIfInBounds_toArray, List.set_cons_zero, List.set_cons_succ])
        (refine take_q (i := 13) (d := 82) (v := ?v112) rfl rfl (by kernel_rfl) (by kernel_rfl) (by kernel_rfl) (fun _ _ _ h => h) (by kernel_rfl) ?hy112 (by assumption) ?rest112)
        case hy112 => (intro w9 hSw; obtain ⟨hc9, hy9⟩ := hSw; first | (go_simp; done) | (go_simp; with_reducible rfl))
        (try simp only [Act.put, List.setIfInBounds_toArray, List.set_cons_zero, List.set_cons_succ])
        (refine take_q (i := 14) (d := 83) (v := ?v113) rfl rfl (by kernel_rfl) (by kernel_rfl) (by kernel_rfl) (fun _ _ _ h => h) (by kernel_rfl) ?hy113 (by assumption) ?rest113)
        case hy113 => (intro w9 hSw; obtain ⟨hc9, hy9⟩ := hSw; first | (go_simp; done) | (go_simp; with_reducible rfl))
        (try simp only [Act.put, List.setIfInBounds_toArray, List.set_cons_zero, List.set_cons_succ])
        (refine wpAnyH_ready (rs := [9]) (by kernel_rfl) (by simp) ?_)
        (refine AllReadyH.cons (o := _) rfl (fun K hK => ?_) AllReadyH.nil)
        go_simp
        (with_reducible refine (f_held q m1 f1 xA xn xc _ HXB6.out).mono ?_)
        rintro e w7 ⟨rfl, rfl⟩
        go_wp2_with fail
        (refine hK.out _ _ hHeld (fun hHeld => ?_))
        clear hK K
        (try simp only [Act.put, List.setIfInBounds_toArray, List.set_cons_zero, List.set_cons_succ])
        (refine take_q (i := 15) (d := 84) (v := ?v114) rfl rfl (by kernel_rfl) (by kernel_rfl) (by kernel_rfl) (fun _ _ _ h => h) (by kernel_rfl) ?hy114 (by assumption) ?rest114)
        case hy114 => (intro w9 hSw; obtain ⟨hc9, hy9⟩ := hSw; first | (go_simp; done) | (go_simp; with_reducible rfl))
        (try simp only [Act.put, List.setIfInBounds_toArray, List.set_cons_zero, List.set_cons_succ])
        (refine take_q (i := 16) (d := 85) (v := ?v115) rfl rfl (by kernel_rfl) (by kernel_rfl) (by kernel_rfl) (fun _ _ _ h => h) (by kernel_rfl) ?hy115 (by assumption) ?rest115)
        case hy115 => (intro w9 hSw; obtain ⟨hc9, hy9⟩ := hSw; first | (go_simp; done) | (go_simp; with_reducible rfl))
        (try simp only [Act.put, List.setIfInBounds_toArray, List.set_cons_zero, List.set_cons_succ])
        (refine wpAnyH_done (by kernel_rfl) ?_ _)
        clear hHeld
        go_upto_if 88 with fail
        go_cut [13] (fun t13 w' => ∃ N : Nat, t13 = .int .i64 (N : Int) ∧ N ≤ 3 ∧ Hid (PcS q r most (pcK (i + 1)) w'.heap.size w' ∧ Below w.heap.size w w'))
        case first =>
          by_cases hz0 : 0 < nz
          · have hz1 : decide ((0 : Int) < (nz : Int)) = true := by simp; omega
            obtain ⟨ri, hri⟩ : ∃ ri, ri = i % nz := ⟨_, rfl⟩
            have hrl : ri < nz := by rw [hri]; exact Nat.mod_lt _ hz0
            have hr1 : (i : Int) % (nz : Int) = (ri : Int) := by rw [hri]; simp
            have hr2 : (i : Int).tmod (nz : Int) = (ri : Int) := by rw [Int.tmod_eq_emod_of_nonneg (by omega)]; exact hr1
            have hnz0 : ((nz : Int) == 0) = false := by simp; omega
            obtain ⟨adz, hAz, hzb, hzc⟩ := HZ.out ri (by rw [List.length_map, HZL.out]; exact hrl)
            subst hAz
            have hzc2 : w6.cell? (adz.add ri) = some (.int .i64 (zs[ri]'(by rw [HZL.out]; exact hrl))) := (B6.out.cell (by rw [block_add]; exact hzb)).trans (by rw [hzc]; simp)
            generalize zs[ri]'(by rw [HZL.out]; exact hrl) = z at hzc2
            clear hzc hzb hri
            obtain ⟨R, hR, CRD⟩ := round_any z 4 (by omega) (by omega)
            have HCR := Lib.hid CRD
            clear CRD
            go_wp2_with fail
            go_at_call 33; (with_reducible refine (HCR.out _).mono ?_); rintro e w9 ⟨rfl, rfl⟩
            clear hr1 hr2 hzc2
            go_wp2
            go_meet
            exact ⟨R, rfl, by omega, Lib.hid ⟨HP6.out, B6.out⟩⟩
          · have hz1 : decide ((0 : Int) < (nz : Int)) = false := by simp; omega
            go_wp2
            go_meet
            exact ⟨0, rfl, by omega, Lib.hid ⟨HP6.out, B6.out⟩⟩
        case rest =>
          obtain ⟨N, rfl, hN, HP7⟩ := hcut
          rename World => w8
          clear HP6 B6 HXB6 HYB6
          go_upto_if 101 with fail
          go_cut [13] (fun t13 w' => ∃ N : Nat, t13 = .int .i64 (N : Int) ∧ N ≤ 40 ∧ Hid (PcS q r most (pcK (i + 1)) w'.heap.size w' ∧ Below w.heap.size w w'))
          case first =>
            by_cases hlast : i = np - 1
            · have hl1 : ((i : Int) == (np : Int) - 1) = true := by simp; omega
              go_wp2
              go_meet
              exact ⟨40, rfl, by omega, HP7⟩
            · have hl1 : ((i : Int) == (np : Int) - 1) = false := by simp; omega
              go_wp2
              go_meet
              exact ⟨N, rfl, by omega, HP7⟩
          case rest =>
            obtain ⟨N, rfl, hN, HP8⟩ := hcut
            rename World => w9
            clear HP7
            go_wp2
            go_loopw [14] (fun t14 wz => ∃ k : Nat, t14 = .int .i64 (k : Int) ∧ k ≤ N ∧ Hid (PcS q r most (pcK (i + 1)) wz.heap.size wz ∧ Below w.heap.size w wz)) (fun t14 _ => N - (intOf t14).toNat)
            case atStart => exact ⟨0, rfl, Nat.zero_le _, HP8⟩
            case round =>
              obtain ⟨k, rfl, hk, HPk⟩ := hrel
              rename World => wk
              by_cases hkn : k < N
              · go_wp2_with fail
                go_at_call 40; (with_reducible refine (pc_next HPk.out.1 (by rw [pcK_eq]; omega)).mono ?_); rintro e wa ⟨nA, nn, nc, nb, ng, nx, rfl, hra, hta, hda⟩
                have HDA := Lib.hid hda
                have BA := Lib.hid (HPk.out.2.trans (hta.below (B := w.heap.size) HPk.out.2.size (fun j hj => by have := hj.1; have := HQ.out; omega)))
                clear hra hta hda
                go_wp2_with fail
                go_at_call 41; (with_reducible refine HDA.out.mono ?_); rintro e wb ⟨mA, mc, rfl, hr1, hr2, htb, hpb⟩
                have HPB := Lib.hid hpb
                have BB := Lib.hid (BA.out.trans (htb.below (B := w.heap.size) BA.out.size (fun j hj => by have := hj.1; have := HQ.out; omega)))
                have hcv1 := row_convN hr2 nc
                have hcv2 := row_convN hr1 mc
                generalize strOfNums nx = Sx at hcv1 hcv2
                clear hr1 hr2 htb hpb HDA
                obtain ⟨xA, xn, xc, yA, yc, m1, f1, m2, f2, hxb, hyb⟩ := HPB.out.held
                have HXB := Lib.hid hxb
                have y1 : wb.cell? ⟨r, 1, none⟩ = some (.slice yA xn yc) := hyb.cell 1
                clear hxb hyb
                cases nb
                all_goals
                  go_wp2
                  go_quiet ((go_at_call 39; exact Calls.quiet_of_same ((f_held q m1 f1 xA xn xc _ (HXB.out.drewN _)).mono (fun _ _ h => ⟨h.1, h.2.symm⟩))))
                  go_wp2
                  go_roundw
                  case rel => exact ⟨k + 1, by go_num, by omega, Lib.hid ⟨(HPB.out.kept (below_drewN (Below.refl _ _) _)).base, below_drewN BB.out _⟩⟩
                  case measure => simp [intOf]; omega
              · go_wp2
                go_roundw
                case rel => exact ⟨i + 1, by go_num, by omega, by omega, HPk⟩
                case measure => simp [intOf]; omega
      · have hor : ¬ i < np ∨ (i < np ∧ ¬ i < 100) := by omega
        have BW := Lib.hid HP.out.2
        clear hgo
        rcases hor with hkn | ⟨hkn, hk5⟩
        all_goals
          go_wp2_with fail
          go_at_call 19; (with_reducible refine (head_any _).mono ?_); rintro e w7 ⟨rfl, hb⟩
          go_wp2
          go_ret
          exact ⟨rfl, BW.out.trans (hb.mono BW.out.size)⟩
end Go.Proofs.YtdgokebablhoiaaDoor
