/- SessPlays: the walk. -/
import Derived.Test.YtglbdbghcdoicaaGreatDoorSPlays
import Derived.Test.YtglbdbghcdoicaaGreatDoorSBw
import Derived.Test.YtglbdbghcdoicaaGreatDoorSWi
namespace Go.Proofs.YtglbdbghcdoicaaGreatDoor
open Go.RowKit

theorem sNext_le (most : Int) (st : Ses) : (sNext most st).2.bs.length ≤ st.bs.length ∧ (sNext most st).2.n ≤ st.n + 1 := by
  rcases h : sNext most st with ⟨_ | q, s'⟩
  · have h1 := (sNext_nil h).1
    refine ⟨?_, by show s'.n ≤ _; omega⟩
    rcases hb : st.bad with _ | f
    · rcases hn : nextP most st.bs with _ | _ | ⟨body, tail⟩
      · rw [sNext_wait hb hn] at h; injection h with _ h; subst h; exact Nat.le_refl _
      · rw [sNext_bad hb hn] at h; injection h with _ h; subst h; exact Nat.le_refl _
      · have hl := (nextP_yes_of hn).2.1
        rcases hd : (decRq body).2 with _ | f
        · rw [sNext_yes hb hn hd] at h; injection h with h _; cases h
        · rw [sNext_none hb hn hd] at h; injection h with _ h; subst h; show tail.length ≤ _; omega
    · rw [sNext_broken hb] at h; injection h with _ h; subst h; exact Nat.le_refl _
  · have h1 := sNext_six h
    have h2 := (sNext_some h).2.2.1
    exact ⟨by show s'.bs.length ≤ _; omega, by show s'.n ≤ _; omega⟩
/-- A session's state that is small, in memory. -/
def TwoL (W0 : World) (s r : Nat) (most : Int) (K N : Nat) (W : World) : Prop := ∃ st, TwoQ W0 s r most st K W ∧ st.bs.length ≤ K ∧ st.n ≤ N
theorem TwoL.kept {W0 W W' : World} {s r : Nat} {most : Int} {K N : Nat} (h : TwoL W0 s r most K N W) (hb : Below W.heap.size W W') : TwoL W0 s r most K N W' := by
  obtain ⟨st, h, h1, h2⟩ := h
  exact ⟨st, h.kept hb, h1, h2⟩
theorem TwoL.more {W0 W : World} {s r : Nat} {most : Int} {K N N' : Nat} (h : TwoL W0 s r most K N W) (hN : N ≤ N') : TwoL W0 s r most K N' W := by
  obtain ⟨st, h, h1, h2⟩ := h
  exact ⟨st, h, h1, Nat.le_trans h2 hN⟩
theorem TwoL.bel {W0 W : World} {s r : Nat} {most : Int} {K N : Nat} (h : TwoL W0 s r most K N W) : Below W0.heap.size W0 W := by
  obtain ⟨st, ⟨S, R, h⟩, _⟩ := h
  exact h.bel
theorem next_l {W0 W : World} {s r : Nat} {most : Int} {K N : Nat} (hT : W0.cell? ⟨0, 0, none⟩ = some tyErr) (h : TwoL W0 s r most K N W) (hK : K ≤ 140737488355328) (hN : N ≤ 1000000) :
    Calls Tryz.prog 16 #[.pointer (some ⟨s, 0, none⟩), .pointer (some ⟨r, 0, none⟩)] W fun e w' => e = .returned (.bool true) ∧ TwoL W0 s r most K (N + 1) w' := by
  obtain ⟨st, h, h1, h2⟩ := h
  refine (next_any hT h h1 hK (by omega)).mono ?_
  rintro e w' ⟨rfl, h3⟩
  have := sNext_le most st
  exact ⟨rfl, _, h3, by omega, by omega⟩
/-- Both fed, and the piece looked at: apart still. -/
theorem two_fed {W0 wr w3 w4 w5 w6 : World} {s r g : Nat} {most : Int} {st st4 : Ses} {K K' : Nat} {S R S4 R5 : Nat → Prop} {cur : Array Value} (H0 : Two W0 wr s r most st K S R) (hb3 : Below wr.heap.size wr w3) (hg : wr.heap.size ≤ g) (hg3 : g < w3.heap.size) (hG : Blk w5 g 5 cur)
    (sx4 : Sx w4 S4 s most st4) (hS4 : ∀ k, S4 k → S k ∨ w3.heap.size ≤ k) (ht4 : Tur S w3 w4) (rx5 : Rx w5 R5 r most st4 K') (hR5 : ∀ k, R5 k → R k ∨ w4.heap.size ≤ k) (ht5 : Tur R w4 w5) (hk5 : KeepE w4 w5) (ht6 : Tur (· = g) w5 w6) : Two W0 w6 s r most st4 K' S4 R5 := by
  have l1 := hb3.size
  have l2 := ht4.size
  have l3 := ht5.size
  have l0 := H0.bel.size
  have hSl := H0.sx.lt
  have hRl := H0.rx.lt
  refine ⟨(sx4.turn ht5 hk5 (fun k hk hs => ?_)).turn ht6 (KeepE.tur ht6 (fun k hk => by subst hk; exact .inr ⟨_, _, hG, by decide⟩)) (fun k hk hs => ?_), rx5.turn ht6 (fun k hk hs => ?_), fun k hs hr => ?_, fun k hs => ?_, fun k hs => ?_, ?_⟩
  · rcases hS4 k hs with h | h
    · exact H0.ap k h hk
    · have := hRl k hk; omega
  · subst hk
    rcases hS4 k hs with h | h
    · have := hSl k h; omega
    · omega
  · subst hk
    rcases hR5 k hs with h | h
    · have := hRl k h; omega
    · omega
  · have h4 := sx4.lt k hs
    rcases hR5 k hr with h | h
    · rcases hS4 k hs with h2 | h2
      · exact H0.ap k h2 h
      · have := hRl k h; omega
    · omega
  · rcases hS4 k hs with h | h
    · exact H0.sB k h
    · omega
  · rcases hR5 k hs with h | h
    · exact H0.rB k h
    · omega
  · exact (((below_step H0.bel hb3 (Nat.le_refl _)).trans (ht4.below (by omega) H0.sB)).trans (ht5.below (by omega) H0.rB)).trans (ht6.below (by omega) (fun k hk => by subst hk; omega))
theorem Two.start {W0 W1 W2 : World} {s r : Nat} {most : Int} {S R : Nat → Prop} (hs : Sx W1 S s most ses0) (hS : ∀ k, S k → W0.heap.size ≤ k) (hb1 : Below W0.heap.size W0 W1) (hr : Rx W2 R r most ses0 0) (hR : ∀ k, R k → W1.heap.size ≤ k) (hb2 : Below W1.heap.size W1 W2) : TwoL W0 s r most 0 0 W2 :=
  ⟨ses0, ⟨S, R, hs.kept hb2, hr, fun k h1 h2 => by have := hs.lt k h1; have := hR k h2; omega, hS, fun k h => Nat.le_trans hb1.size (hR k h), below_step hb1 hb2 (Nat.le_refl _)⟩, Nat.le_refl _, Nat.le_refl _⟩
set_option maxHeartbeats 16000000 in
set_option maxRecDepth 100000 in
theorem law_plays (most : Int) (Ap Az : Option Addr) (np cp nz cz : Nat) (ps : List Bw) (zs : List Int) (w : World) (hT : w.cell? ⟨0, 0, none⟩ = some tyErr) (hl : ps.length = np) (hr : RowsAt w Ap ps) (hok : ∀ b ∈ ps, b.Ok w) (hzl : zs.length = nz) (hz : CellsAt w Az (zs.map (Value.int .i64 ·))) (hnz : nz ≤ maxLen) :
    Calls Tryz.prog 3 #[.int .i64 most, .slice Ap np cp, .slice Az nz cz] w fun e w' => e = .returned (.bool true) ∧ Below w.heap.size w w' := by
  have HT := Lib.hid hT
  have HL := Lib.hid hl
  have HR := Lib.hid hr
  have HK := Lib.hid hok
  have HZL := Lib.hid hzl
  have HZ := Lib.hid hz
  have HNZ := Lib.hid hnz
  have CK := Lib.hid (known_true w hT)
  clear hT hl hr hok hzl hz hnz
  go_enter Tryz.func3, Tryz.ntmps3
  go_wp2_with fail
  go_at_call 8; (with_reducible refine CK.out.mono ?_); rintro e w1 ⟨rfl, hb1⟩
  have B1 := Lib.hid hb1
  clear hb1 CK
  by_cases hm : most < 16 ∨ 65536 < most
  · go_wp2_with fail
    go_at_call 9; (with_reducible refine (s_new_no most w1 hm).mono ?_); rintro e w2 ⟨rfl, rfl⟩
    go_wp2_with fail
    go_at_call 10; (with_reducible refine (r_new_no most w1 hm).mono ?_); rintro e w2 ⟨rfl, rfl⟩
    clear hm
    go_wp2
    go_ret
    exact ⟨rfl, B1.out⟩
  · have hm1 : 16 ≤ most := by omega
    have hm2 : most ≤ 65536 := by omega
    clear hm
    go_wp2_with fail
    go_at_call 9; (with_reducible refine (s_new_yes most w1 hm1 hm2).mono ?_); rintro e w2 ⟨s, S, rfl, hsx, hS, hb2⟩
    go_wp2_with fail
    go_at_call 10; (with_reducible refine (r_new_yes most w2 hm1 hm2).mono ?_); rintro e w3 ⟨r, R, rfl, hrx, hR, hb3⟩
    have HP0 := Lib.hid (Two.start (W0 := w) hsx (fun k hk => Nat.le_trans B1.out.size (hS k hk)) (below_step B1.out hb2 (Nat.le_refl _)) hrx hR hb3)
    clear hsx hS hb2 hrx hR hb3
    go_wp2_with fail
    have HNZP := Lib.hid (show ∀ z : Int, ∃ R : Nat, R < 4 ∧ ∀ W, Calls Tryz.prog 15 #[.int .i64 z, .int .i64 4] W fun e w' => e = .returned (.int .i64 (R : Int)) ∧ W = w' from fun z => within_any z 4 (by omega) (by omega))
    go_loopw [11, 12] (fun t11 t12 wr => ∃ n i : Nat, t11 = .int .i64 (n : Int) ∧ t12 = .int .i64 (i : Int) ∧ i ≤ np ∧ i ≤ 400 ∧ (n : Int) ≤ 524288 ∧ Hid (TwoL w s r most n (4 * i) wr)) (fun _ t12 _ => 400 - (intOf t12).toNat)
    case atStart => exact ⟨0, 0, rfl, rfl, Nat.zero_le _, by omega, by omega, HP0⟩
    case round =>
      obtain ⟨n, i, rfl, rfl, hi, hi4, hn, HP⟩ := hrel
      clear HP0
      obtain ⟨k9, hk9⟩ : ∃ k9 : Nat, (262144 : Int) = (k9 : Int) := ⟨262144, rfl⟩
      have HK9 := Lib.hid hk9
      rw [hk9]
      clear hk9
      by_cases hgo : i < np ∧ i < 400 ∧ n < k9
      · obtain ⟨hib, hi40, hn26⟩ := hgo
        have hkl : i < ps.length := by rw [HL.out]; exact hib
        obtain ⟨ad, hAd, c0⟩ := HR.out.at HP.out.bel i hkl
        subst hAd
        have HB := Lib.hid (HK.out ps[i] (List.getElem_mem _))
        generalize ps[i] = b at *
        obtain ⟨bA, bn, bc, bx⟩ := b
        replace c0 : wr.cell? (ad.add i) = some (.slice bA bn bc) := c0
        have hcap : bn ≤ bc := HB.out.cap
        go_upto_if 61 with fail
        go_cut [13] from 41 to 98 (fun t13 w' => ∃ m : Nat, t13 = .slice bA m bc ∧ m ≤ k9 ∧ m ≤ bn ∧ w' = wr)
        case first =>
          by_cases hbg : k9 < bn
          · have hd : decide ((k9 : Int) < (bn : Int)) = true := by simp; omega
            obtain ⟨ba, rfl⟩ : ∃ ba, bA = some ba := by
              cases bA with
              | none => have h0 : bc = 0 := HB.out.none_ rfl; omega
              | some ba => exact ⟨ba, rfl⟩
            have hb2 : k9 ≤ bc := by omega
            have hb3 : ¬ k9 = 0 := by have := HK9.out; omega
            go_wp2
            go_meet
            exact ⟨k9, rfl, Nat.le_refl _, by omega, rfl⟩
          · have hd : decide ((k9 : Int) < (bn : Int)) = false := by simp; omega
            go_wp2
            go_meet
            exact ⟨bn, rfl, by omega, Nat.le_refl _, rfl⟩
        case rest =>
          obtain ⟨m, rfl, hm26, hmb, rfl⟩ := hcut
          rename World => wr
          have hm27 : (m : Int) ≤ 262144 := by have := HK9.out; omega
          have hn27 : (n : Int) ≤ 262144 := by have := HK9.out; omega
          clear hm26 hn26 hn
          have HX := Lib.hid (show CellsAt w bA (bvs (bx.take m)) from fun k hk => by
            rw [bvs_len, List.length_take] at hk
            obtain ⟨a, e, hl, hc⟩ := HB.out.cells k (by rw [bvs_len]; show k < bx.length; omega)
            exact ⟨a, e, hl, by rw [hc]; simp [bvs]⟩)
          have HXL := Lib.hid (show (bx.take m).length = m by rw [List.length_take]; have := HB.out.len; dsimp only at this; omega)
          have HXW := Lib.hid (show ∀ x ∈ bx.take m, (Lit.int .u8 x).wf = true from fun x hx => HB.out.wf x (List.mem_of_mem_take hx))
          have HXN := Lib.hid HB.out.none_
          obtain ⟨st, ⟨S, R, h0⟩, hsb, hsn⟩ := HP.out
          have H0 := Lib.hid h0
          have HSB := Lib.hid (show st.bs.length ≤ n ∧ st.n ≤ 4 * i from ⟨hsb, hsn⟩)
          generalize bx.take m = xs at *
          clear h0 hsb hsn c0 HB hcap
          go_wp2_with fail
          go_at_call 11; (with_reducible refine (lend_any bA m bc xs wr HXL.out (HX.out.below H0.out.bel) (by omega)).mono ?_); rintro e w3 ⟨g, cur, rfl, hg, hbk, hcu, hb⟩
          have HG := Lib.hid hg
          have HG3 := Lib.hid hbk
          have HCU := Lib.hid hcu
          have B3 := Lib.hid hb
          have C4 := Lib.hid (s_feed (some ⟨g, 0, none⟩) m (m + 37) xs S s most st w3 (H0.out.sx.kept hb) HXL.out (cells_of_blk hbk hcu) (fun e => by cases e) HXW.out (by have := HSB.out.1; omega))
          clear hg hbk hcu hb
          go_wp2_with fail
          go_at_call 12; (with_reducible refine C4.out.mono ?_); rintro e w4 ⟨rfl, S4, hx4, hS4, ht4, hk4⟩
          have HG4 := Lib.hid (HG3.out.tur ht4 (fun hs => by have := H0.out.sx.lt g hs; have := HG.out; omega))
          have HX4 := Lib.hid hx4
          have HS4 := Lib.hid hS4
          have HT4 := Lib.hid ht4
          have HB4 := Lib.hid (show Below w.heap.size w w4 from (below_step H0.out.bel B3.out (Nat.le_refl _)).trans (ht4.below (Nat.le_trans H0.out.bel.size B3.out.size) H0.out.sB))
          have C5 := Lib.hid (r_feed bA m bc xs R r most st n w4 ((H0.out.rx.kept B3.out).turn ht4 H0.out.ap) HXL.out (HX.out.below HB4.out) HXN.out HXW.out (by omega))
          clear hx4 hS4 ht4 hk4 C4
          go_wp2_with fail
          go_at_call 13; (with_reducible refine C5.out.mono ?_); rintro e w5 ⟨rfl, R5, hx5, hR5, ht5, hk5⟩
          have HG5 := Lib.hid (HG4.out.tur ht5 (fun hs => by have := H0.out.rx.lt g hs; have := HG.out; omega))
          have HTW := Lib.hid (fun (w6 : World) (h6 : Tur (· = g) w5 w6) => two_fed H0.out B3.out HG.out HG3.out.lt HG5.out HX4.out HS4.out HT4.out hx5 hR5 ht5 hk5 h6)
          have HB5 := Lib.hid (show Below w.heap.size w w5 from HB4.out.trans (ht5.below HB4.out.size H0.out.rB))
          have C6 := Lib.hid (back_any g cur bA m bc xs w5 HXL.out (HX.out.below HB5.out) HG5.out HCU.out (by omega))
          clear hx5 hR5 ht5 hk5 C5 HX4 HS4 HT4 HB4 HG4
          go_wp2_with fail
          go_at_call 14; (with_reducible refine C6.out.mono ?_); rintro e w6 ⟨rfl, ht6⟩
          have HP6 := Lib.hid (show TwoL w s r most (n + m) (4 * i) w6 from ⟨sFeed st xs, ⟨_, _, HTW.out w6 ht6⟩, by show (st.bs ++ xs).length ≤ n + m; rw [List.length_append, HXL.out]; have := HSB.out.1; omega, HSB.out.2⟩)
          clear ht6 HTW C6 HG5 HB5 H0 HG3 HG HCU B3 HP
          go_upto_if 82 with fail
          go_cut [15] from 41 to 98 (fun t15 w' => ∃ k : Nat, t15 = .int .i64 (k : Int) ∧ k ≤ 3 ∧ Hid (TwoL w s r most (n + m) (4 * i) w'))
          case first =>
            by_cases hz0 : 0 < nz
            · have hz1 : decide ((0 : Int) < (nz : Int)) = true := by simp; omega
              obtain ⟨ri, hri⟩ : ∃ ri, ri = i % nz := ⟨_, rfl⟩
              have hrl : ri < nz := by rw [hri]; exact Nat.mod_lt _ hz0
              have hr1 : (i : Int) % (nz : Int) = (ri : Int) := by rw [hri]; simp
              have hr2 : (i : Int).tmod (nz : Int) = (ri : Int) := by rw [Int.tmod_eq_emod_of_nonneg (by omega)]; exact hr1
              have hnz0 : ((nz : Int) == 0) = false := by simp; omega
              obtain ⟨adz, hAz, hzb, hzc⟩ := HZ.out ri (by rw [List.length_map, HZL.out]; exact hrl)
              subst hAz
              have hzc2 : w6.cell? (adz.add ri) = some (.int .i64 (zs[ri]'(by rw [HZL.out]; exact hrl))) := (HP6.out.bel.cell (by rw [block_add]; exact hzb)).trans (by rw [hzc]; simp)
              generalize zs[ri]'(by rw [HZL.out]; exact hrl) = z at hzc2
              clear hzc hzb hri
              obtain ⟨k, hk4, CRD⟩ := HNZP.out z
              have HCR := Lib.hid CRD
              clear CRD
              go_wp2_with fail
              go_at_call 15; (with_reducible refine (HCR.out _).mono ?_); rintro e w9 ⟨rfl, rfl⟩
              clear hr1 hr2 hzc2
              go_wp2
              go_meet
              exact ⟨k, rfl, by omega, HP6⟩
            · have hz1 : decide ((0 : Int) < (nz : Int)) = false := by simp; omega
              go_wp2
              go_meet
              exact ⟨1, rfl, by omega, HP6⟩
          case rest =>
            obtain ⟨k0, rfl, hk0, HP7⟩ := hcut
            rename World => w8
            clear HP6
            go_wp2
            go_loopw [15] (fun t15 wz => ∃ k : Nat, t15 = .int .i64 (k : Int) ∧ k ≤ 3 ∧ Hid (TwoL w s r most (n + m) (4 * i + (3 - k)) wz)) (fun t15 _ => (intOf t15).toNat)
            case atStart => exact ⟨k0, rfl, hk0, Lib.hid (HP7.out.more (by omega))⟩
            case round =>
              obtain ⟨k, rfl, hk, HPk⟩ := hrel
              rename World => wk
              by_cases hkn : 0 < k
              · have hkd : decide ((0 : Int) < (k : Int)) = true := by simp; omega
                have CN := Lib.hid (next_l HT.out HPk.out (by omega) (by omega))
                go_wp2_with fail
                go_at_call 16; (with_reducible refine CN.out.mono ?_); rintro e wa ⟨rfl, hpa⟩
                have HPA := Lib.hid (hpa.more (N' := 4 * i + (3 - (k - 1))) (by omega))
                clear hpa CN hkd
                go_wp2
                go_roundw
                case rel => first | exact ⟨k - 1, by go_num, by omega, HPA⟩ | ((repeat apply Exists.intro); refine ⟨?_, rfl⟩; exact ⟨k - 1, by go_num, by omega, HPA⟩)
                case measure => simp [intOf]; omega
              · have hkd : decide ((0 : Int) < (k : Int)) = false := by simp; omega
                go_wp2
                go_roundw
                case rel => first | exact ⟨n + m, i + 1, by first | rfl | go_num, by go_num, by omega, by omega, by omega, Lib.hid (HPk.out.more (by omega))⟩ | ((repeat apply Exists.intro); refine ⟨?_, rfl⟩; exact ⟨n + m, i + 1, by first | rfl | go_num, by go_num, by omega, by omega, by omega, Lib.hid (HPk.out.more (by omega))⟩)
                case measure => simp [intOf]; omega
      · skip
        by_cases h1 : i < np
        · by_cases h2 : i < 400
          · have d3 : decide (n < k9) = false := by simp; omega
            clear hgo
            go_wp2
            rename World => wy
            have HP40 := Lib.hid (HP.out.more (N' := 1600) (by omega))
            go_loopw [16] (fun t16 wz => ∃ k : Nat, t16 = .int .i64 (k : Int) ∧ k ≤ 40 ∧ Hid (TwoL w s r most n (1600 + k) wz)) (fun t16 _ => 40 - (intOf t16).toNat)
            case atStart => exact ⟨0, rfl, Nat.zero_le _, HP40⟩
            case round =>
              obtain ⟨k, rfl, hk, HPk⟩ := hrel
              rename World => wk
              by_cases hkn : k < 40
              · have hkd : decide ((k : Int) < 40) = true := by simp; omega
                have CN := Lib.hid (next_l HT.out HPk.out (by omega) (by omega))
                go_wp2_with fail
                go_at_call 16; (with_reducible refine CN.out.mono ?_); rintro e wa ⟨rfl, hpa⟩
                have HPA := Lib.hid hpa
                clear hpa CN hkd
                go_wp2
                go_roundw
                case rel => first | exact ⟨k + 1, by go_num, by omega, Lib.hid (HPA.out.more (by omega))⟩ | ((repeat apply Exists.intro); refine ⟨?_, rfl⟩; exact ⟨k + 1, by go_num, by omega, Lib.hid (HPA.out.more (by omega))⟩)
                case measure => simp [intOf]; omega
              · have hkd : decide ((k : Int) < 40) = false := by simp; omega
                go_wp2
                go_ret
                exact ⟨rfl, HPk.out.bel⟩
          · have d3 : decide (i < 400) = false := by simp; omega
            have d4 : decide ((i : Int) < 400) = false := by simp; omega
            clear hgo h2
            go_wp2
            rename World => wy
            have HP40 := Lib.hid (HP.out.more (N' := 1600) (by omega))
            go_loopw [16] (fun t16 wz => ∃ k : Nat, t16 = .int .i64 (k : Int) ∧ k ≤ 40 ∧ Hid (TwoL w s r most n (1600 + k) wz)) (fun t16 _ => 40 - (intOf t16).toNat)
            case atStart => exact ⟨0, rfl, Nat.zero_le _, HP40⟩
            case round =>
              obtain ⟨k, rfl, hk, HPk⟩ := hrel
              rename World => wk
              by_cases hkn : k < 40
              · have hkd : decide ((k : Int) < 40) = true := by simp; omega
                have CN := Lib.hid (next_l HT.out HPk.out (by omega) (by omega))
                go_wp2_with fail
                go_at_call 16; (with_reducible refine CN.out.mono ?_); rintro e wa ⟨rfl, hpa⟩
                have HPA := Lib.hid hpa
                clear hpa CN hkd
                go_wp2
                go_roundw
                case rel => first | exact ⟨k + 1, by go_num, by omega, Lib.hid (HPA.out.more (by omega))⟩ | ((repeat apply Exists.intro); refine ⟨?_, rfl⟩; exact ⟨k + 1, by go_num, by omega, Lib.hid (HPA.out.more (by omega))⟩)
                case measure => simp [intOf]; omega
              · have hkd : decide ((k : Int) < 40) = false := by simp; omega
                go_wp2
                go_ret
                exact ⟨rfl, HPk.out.bel⟩
        · have d3 : decide (i < np) = false := by simp; omega
          clear hgo h1
          go_wp2
          rename World => wy
          have HP40 := Lib.hid (HP.out.more (N' := 1600) (by omega))
          go_loopw [16] (fun t16 wz => ∃ k : Nat, t16 = .int .i64 (k : Int) ∧ k ≤ 40 ∧ Hid (TwoL w s r most n (1600 + k) wz)) (fun t16 _ => 40 - (intOf t16).toNat)
          case atStart => exact ⟨0, rfl, Nat.zero_le _, HP40⟩
          case round =>
            obtain ⟨k, rfl, hk, HPk⟩ := hrel
            rename World => wk
            by_cases hkn : k < 40
            · have hkd : decide ((k : Int) < 40) = true := by simp; omega
              have CN := Lib.hid (next_l HT.out HPk.out (by omega) (by omega))
              go_wp2_with fail
              go_at_call 16; (with_reducible refine CN.out.mono ?_); rintro e wa ⟨rfl, hpa⟩
              have HPA := Lib.hid hpa
              clear hpa CN hkd
              go_wp2
              go_roundw
              case rel => first | exact ⟨k + 1, by go_num, by omega, Lib.hid (HPA.out.more (by omega))⟩ | ((repeat apply Exists.intro); refine ⟨?_, rfl⟩; exact ⟨k + 1, by go_num, by omega, Lib.hid (HPA.out.more (by omega))⟩)
              case measure => simp [intOf]; omega
            · have hkd : decide ((k : Int) < 40) = false := by simp; omega
              go_wp2
              go_ret
              exact ⟨rfl, HPk.out.bel⟩
end Go.Proofs.YtglbdbghcdoicaaGreatDoor
