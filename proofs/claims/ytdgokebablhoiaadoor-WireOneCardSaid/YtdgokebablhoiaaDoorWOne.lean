/- The law WireOne: the walk. -/
import Derived.Test.YtdgokebablhoiaaDoorWNumber
namespace Go.Proofs.YtdgokebablhoiaaDoor
open Go.RowKit

theorem bchain {w W1 W2 : World} (h1 : Below w.heap.size w W1) (h2 : Below W1.heap.size W1 W2) : Below w.heap.size w W2 := h1.trans (h2.mono h1.size)
theorem tchain {w W1 W2 : World} {q : Nat} (h1 : Below w.heap.size w W1) (h2 : Tur (· = q) W1 W2) (hq : w.heap.size ≤ q) : Below w.heap.size w W2 := h1.trans (h2.below h1.size (fun k hk => by subst hk; exact hq))
theorem hT_below {w W : World} (h : w.cell? ⟨0, 0, none⟩ = some tyErr) (hb : Below w.heap.size w W) : W.cell? ⟨0, 0, none⟩ = some tyErr :=
  (hb.cell (p := ⟨0, 0, none⟩) (World.block_lt_of_cell? w _ h)).trans h
theorem wr_new (W : World) : Wr (W.alloc (.cells #[.slice none 0 0] 49)) W.heap.size W.heap.size (.slice none 0 0) [] :=
  ⟨Blk.new _ _ _, World.ownsRow_nil _ _ _ _, by simp [Value.ownBlock], Nat.le_refl _⟩

set_option maxHeartbeats 4000000 in
set_option maxRecDepth 100000 in
theorem law_one (A : Option Addr) (n c : Nat) (xs : List Int) (w : World) (hT : w.cell? ⟨0, 0, none⟩ = some tyErr) (hl : xs.length = n) (hx : CellsAt w A (bvs xs)) (hw : ∀ x ∈ xs, (Lit.int .u8 x).wf = true) (hn : n ≤ 140737488355328) :
    Calls Tryd.prog 5 #[.slice A n c] w fun e w' => e = .returned (.bool true) ∧ Below w.heap.size w w' := by
  have HT := Lib.hid hT
  have HL := Lib.hid hl
  have HX := Lib.hid hx
  have HW := Lib.hid hw
  have HN := Lib.hid hn
  have B0 := Lib.hid (Below.refl w.heap.size w)
  clear hT hl hx hw hn
  go_enter Tryd.func5, Tryd.ntmps5
  go_wp2_with fail
  go_at_call 24; (with_reducible refine (r_read A n c xs _ HL.out (HX.out.below B0.out) HN.out).mono ?_); rintro e wr1 ⟨q1, A1, c1, rfl, hq, hbk, hrow, hlt, hb⟩
  have BR1 := Lib.hid (bchain B0.out hb)
  have hqw1 : w.heap.size ≤ q1 := Nat.le_trans B0.out.size hq
  have hq01 : 0 < q1 := Nat.lt_of_lt_of_le (World.block_lt_of_cell? w _ HT.out) hqw1
  have CN1 := Lib.hid (r_num_max q1 A1 n c1 xs 0 wr1 (hT_below HT.out BR1.out) hq01 hbk hrow.len hrow.cells (fun ad h => Nat.ne_of_lt (hlt ad h)) HW.out (Nat.zero_le _) HN.out)
  clear hq hbk hrow hlt hb
  go_wp2_with fail
  go_at_call 25; (with_reducible refine CN1.out.mono ?_); intro e wn1 hp
  rcases hp with ⟨m1, k, rfl, k1, k2, k3, k4, k5, k6⟩ | ⟨g1, code, pl, rfl, k1, k2, k3⟩
  · by_cases hk : k = n
    · have HM1 := Lib.hid (show sev m1 = xs by rw [k3, hk, List.drop_zero, List.take_of_length_le (by have := HL.out; omega)])
      have K1 := Lib.hid (show Blk wn1 q1 95 (RdC (.slice A1 n c1) (n : Int) .nilIface) from hk ▸ k5)
      have BN1 := Lib.hid (tchain BR1.out k6 hqw1)
      have hm1 := k4
      have HMI1 := Lib.hid (show (m1 : Int) ≤ 9223372036854775807 by omega)
      clear hm1
      clear hk k1 k2 k3 k4 k5 k6
      go_wp2_with fail
      go_at_call 26; (with_reducible refine (r_end_eq q1 A1 n c1 _ K1.out).mono ?_); rintro e we1 ⟨rfl, hb⟩
      have KE1 := Lib.hid (K1.out.kept hb)
      have BE1 := Lib.hid (bchain BN1.out hb)
      clear hb
      go_wp2_with fail
      go_at_call 27; (with_reducible refine (r_err_no q1 _ _ _ KE1.out).mono ?_); rintro e wf1 ⟨rfl, hb⟩
      have BF1 := Lib.hid (bchain BE1.out hb)
      clear hb
      go_wp2_with fail
      go_at_call 17; (with_reducible refine (w_num (m1 : Int) HMI1.out _ _ _ _ _ (wr_new wf1) (by simp)).mono ?_); rintro e wx1 ⟨rfl, v1, hwr, hfr⟩
      have HWr1 := Lib.hid (show Wr wx1 wf1.heap.size wf1.heap.size v1 xs by rw [← HM1.out]; simpa using hwr)
      have BX1 := Lib.hid ((BF1.out.alloc BF1.out.size _).trans (((wr_new wf1).fr_below hfr).mono BF1.out.size))
      clear hwr hfr
      go_wp2
      go_cut [32] (fun v w' => v = .bool false ∧ Hid (Below w.heap.size w w'))
      case first =>
        have c0 := conv_cells (HX.out.below BX1.out.drew) HL.out c
        generalize hS : strOfNums xs = S at c0
        have HS := Lib.hid hS
        clear hS
        go_region_with (go_at_call 16; (with_reducible refine (w_bytes _ _ _ _ _ (HWr1.out.kept (Below.refl _ _).drew) (by rw [HL.out]; exact HN.out)).mono ?_); rintro e wy ⟨Ay, rfl, hry, hby⟩; have c1 := HS.out ▸ hry.conv xs.length; have B5 := bchain BX1.out.drew hby; have c2 := HS.out ▸ conv_cells (HX.out.below B5) HL.out c; have BY := Lib.hid B5; clear hry hby B5)
        all_goals
          go_wp2
          go_meet
          exact ⟨by first | rfl | simp, BY⟩
      case rest =>
        obtain ⟨rfl, BZ1⟩ := hcut
        go_wp2_with fail
        go_at_call 24; (with_reducible refine (r_read A n c xs _ HL.out (HX.out.below BZ1.out) HN.out).mono ?_); rintro e wr2 ⟨q2, A2, c2, rfl, hq, hbk, hrow, hlt, hb⟩
        have BR2 := Lib.hid (bchain BZ1.out hb)
        have hqw2 : w.heap.size ≤ q2 := Nat.le_trans BZ1.out.size hq
        have hq02 : 0 < q2 := Nat.lt_of_lt_of_le (World.block_lt_of_cell? w _ HT.out) hqw2
        have CN2 := Lib.hid (r_int q2 A2 n c2 xs 0 wr2 (hT_below HT.out BR2.out) hq02 hbk hrow.len hrow.cells (fun ad h => Nat.ne_of_lt (hlt ad h)) HW.out (Nat.zero_le _) HN.out)
        clear hq hbk hrow hlt hb
        go_wp2_with fail
        go_at_call 28; (with_reducible refine CN2.out.mono ?_); intro e wn2 hp
        rcases hp with ⟨m2, k, rfl, k1, k2, k3, k4, k5, k6⟩ | ⟨g2, code, pl, rfl, k1, k2, k3⟩
        · by_cases hk : k = n
          · have HM2 := Lib.hid (show sev m2 = xs by rw [k3, hk, List.drop_zero, List.take_of_length_le (by have := HL.out; omega)])
            have K2 := Lib.hid (show Blk wn2 q2 95 (RdC (.slice A2 n c2) (n : Int) .nilIface) from hk ▸ k5)
            have BN2 := Lib.hid (tchain BR2.out k6 hqw2)
            have HMB2 := Lib.hid (unzz_bd m2 k4)
            clear hk k1 k2 k3 k4 k5 k6
            go_wp2_with fail
            go_at_call 26; (with_reducible refine (r_end_eq q2 A2 n c2 _ K2.out).mono ?_); rintro e we2 ⟨rfl, hb⟩
            have KE2 := Lib.hid (K2.out.kept hb)
            have BE2 := Lib.hid (bchain BN2.out hb)
            clear hb
            go_wp2_with fail
            go_at_call 27; (with_reducible refine (r_err_no q2 _ _ _ KE2.out).mono ?_); rintro e wf2 ⟨rfl, hb⟩
            have BF2 := Lib.hid (bchain BE2.out hb)
            clear hb
            go_wp2_with fail
            go_at_call 29; (with_reducible refine (w_int (unzz m2) HMB2.out.1 HMB2.out.2 _ _ _ _ _ (wr_new wf2) (by simp)).mono ?_); rintro e wx2 ⟨rfl, v2, hwr, hfr⟩
            have HWr2 := Lib.hid (show Wr wx2 wf2.heap.size wf2.heap.size v2 xs by rw [← HM2.out, ← zz_unzz m2]; simpa [zz_unzz] using hwr)
            have BX2 := Lib.hid ((BF2.out.alloc BF2.out.size _).trans (((wr_new wf2).fr_below hfr).mono BF2.out.size))
            clear hwr hfr
            go_wp2
            go_cut [52] (fun v w' => v = .bool false ∧ Hid (Below w.heap.size w w'))
            case first =>
              have c0 := conv_cells (HX.out.below BX2.out.drew) HL.out c
              generalize hS : strOfNums xs = S at c0
              have HS := Lib.hid hS
              clear hS
              go_region_with (go_at_call 16; (with_reducible refine (w_bytes _ _ _ _ _ (HWr2.out.kept (Below.refl _ _).drew) (by rw [HL.out]; exact HN.out)).mono ?_); rintro e wy ⟨Ay, rfl, hry, hby⟩; have c1 := HS.out ▸ hry.conv xs.length; have B5 := bchain BX2.out.drew hby; have c2 := HS.out ▸ conv_cells (HX.out.below B5) HL.out c; have BY := Lib.hid B5; clear hry hby B5)
              all_goals
                go_wp2
                go_meet
                exact ⟨by first | rfl | simp, BY⟩
            case rest =>
              obtain ⟨rfl, BZ2⟩ := hcut
              go_wp2_with fail
              go_at_call 19; (with_reducible refine (head_any _).mono ?_); rintro e wh ⟨rfl, hb⟩
              go_wp2
              go_ret
              exact ⟨rfl, bchain BZ2.out hb⟩
          · have k7 : k < n := by have := HL.out; omega
            have K2 := Lib.hid k5
            have BN2 := Lib.hid (tchain BR2.out k6 hqw2)
            clear hk k1 k2 k3 k4 k5 k6
            go_wp2_with fail
            go_at_call 26; (with_reducible refine (r_end_lt q2 A2 n c2 k k7 _ K2.out).mono ?_); rintro e we2 ⟨rfl, g, k1, k2, k3⟩
            have KE2 := Lib.hid k1
            have GE2 := Lib.hid k2
            have BE2 := Lib.hid (tchain BN2.out k3 hqw2)
            clear k1 k2 k3
            go_wp2_with fail
            go_at_call 27; (with_reducible refine (r_err_yes q2 g _ _ _ _ _ (hT_below HT.out BE2.out) KE2.out GE2.out).mono ?_); rintro e wf2 ⟨g2, rfl, _, hb⟩
            have BZ2 := Lib.hid (bchain BE2.out hb)
            clear hb
            go_wp2_with fail
            go_at_call 19; (with_reducible refine (head_any _).mono ?_); rintro e wh ⟨rfl, hb⟩
            go_wp2
            go_ret
            exact ⟨rfl, bchain BZ2.out hb⟩
        · have K2 := Lib.hid k1
          have G2 := Lib.hid k2
          have BN2 := Lib.hid (tchain BR2.out k3 hqw2)
          clear k1 k2 k3
          go_wp2_with fail
          go_at_call 26; (with_reducible refine (r_end_fault q2 g2 A2 n c2 0 _ (hT_below HT.out BN2.out) K2.out).mono ?_); rintro e we2 ⟨rfl, hb⟩
          have KE2 := Lib.hid (K2.out.kept hb)
          have GE2 := Lib.hid (G2.out.kept hb)
          have BE2 := Lib.hid (bchain BN2.out hb)
          clear hb
          go_wp2_with fail
          go_at_call 27; (with_reducible refine (r_err_yes q2 g2 _ _ _ _ _ (hT_below HT.out BE2.out) KE2.out GE2.out).mono ?_); rintro e wf2 ⟨g2, rfl, _, hb⟩
          have BZ2 := Lib.hid (bchain BE2.out hb)
          clear hb
          go_wp2_with fail
          go_at_call 19; (with_reducible refine (head_any _).mono ?_); rintro e wh ⟨rfl, hb⟩
          go_wp2
          go_ret
          exact ⟨rfl, bchain BZ2.out hb⟩
    · have k7 : k < n := by have := HL.out; omega
      have K1 := Lib.hid k5
      have BN1 := Lib.hid (tchain BR1.out k6 hqw1)
      clear hk k1 k2 k3 k4 k5 k6
      go_wp2_with fail
      go_at_call 26; (with_reducible refine (r_end_lt q1 A1 n c1 k k7 _ K1.out).mono ?_); rintro e we1 ⟨rfl, g, k1, k2, k3⟩
      have KE1 := Lib.hid k1
      have GE1 := Lib.hid k2
      have BE1 := Lib.hid (tchain BN1.out k3 hqw1)
      clear k1 k2 k3
      go_wp2_with fail
      go_at_call 27; (with_reducible refine (r_err_yes q1 g _ _ _ _ _ (hT_below HT.out BE1.out) KE1.out GE1.out).mono ?_); rintro e wf1 ⟨g2, rfl, _, hb⟩
      have BZ1 := Lib.hid (bchain BE1.out hb)
      clear hb
      go_wp2_with fail
      go_at_call 24; (with_reducible refine (r_read A n c xs _ HL.out (HX.out.below BZ1.out) HN.out).mono ?_); rintro e wr2 ⟨q2, A2, c2, rfl, hq, hbk, hrow, hlt, hb⟩
      have BR2 := Lib.hid (bchain BZ1.out hb)
      have hqw2 : w.heap.size ≤ q2 := Nat.le_trans BZ1.out.size hq
      have hq02 : 0 < q2 := Nat.lt_of_lt_of_le (World.block_lt_of_cell? w _ HT.out) hqw2
      have CN2 := Lib.hid (r_int q2 A2 n c2 xs 0 wr2 (hT_below HT.out BR2.out) hq02 hbk hrow.len hrow.cells (fun ad h => Nat.ne_of_lt (hlt ad h)) HW.out (Nat.zero_le _) HN.out)
      clear hq hbk hrow hlt hb
      go_wp2_with fail
      go_at_call 28; (with_reducible refine CN2.out.mono ?_); intro e wn2 hp
      rcases hp with ⟨m2, k, rfl, k1, k2, k3, k4, k5, k6⟩ | ⟨g2, code, pl, rfl, k1, k2, k3⟩
      · by_cases hk : k = n
        · have HM2 := Lib.hid (show sev m2 = xs by rw [k3, hk, List.drop_zero, List.take_of_length_le (by have := HL.out; omega)])
          have K2 := Lib.hid (show Blk wn2 q2 95 (RdC (.slice A2 n c2) (n : Int) .nilIface) from hk ▸ k5)
          have BN2 := Lib.hid (tchain BR2.out k6 hqw2)
          have HMB2 := Lib.hid (unzz_bd m2 k4)
          clear hk k1 k2 k3 k4 k5 k6
          go_wp2_with fail
          go_at_call 26; (with_reducible refine (r_end_eq q2 A2 n c2 _ K2.out).mono ?_); rintro e we2 ⟨rfl, hb⟩
          have KE2 := Lib.hid (K2.out.kept hb)
          have BE2 := Lib.hid (bchain BN2.out hb)
          clear hb
          go_wp2_with fail
          go_at_call 27; (with_reducible refine (r_err_no q2 _ _ _ KE2.out).mono ?_); rintro e wf2 ⟨rfl, hb⟩
          have BF2 := Lib.hid (bchain BE2.out hb)
          clear hb
          go_wp2_with fail
          go_at_call 29; (with_reducible refine (w_int (unzz m2) HMB2.out.1 HMB2.out.2 _ _ _ _ _ (wr_new wf2) (by simp)).mono ?_); rintro e wx2 ⟨rfl, v2, hwr, hfr⟩
          have HWr2 := Lib.hid (show Wr wx2 wf2.heap.size wf2.heap.size v2 xs by rw [← HM2.out, ← zz_unzz m2]; simpa [zz_unzz] using hwr)
          have BX2 := Lib.hid ((BF2.out.alloc BF2.out.size _).trans (((wr_new wf2).fr_below hfr).mono BF2.out.size))
          clear hwr hfr
          go_wp2
          go_cut [52] (fun v w' => v = .bool false ∧ Hid (Below w.heap.size w w'))
          case first =>
            have c0 := conv_cells (HX.out.below BX2.out.drew) HL.out c
            generalize hS : strOfNums xs = S at c0
            have HS := Lib.hid hS
            clear hS
            go_region_with (go_at_call 16; (with_reducible refine (w_bytes _ _ _ _ _ (HWr2.out.kept (Below.refl _ _).drew) (by rw [HL.out]; exact HN.out)).mono ?_); rintro e wy ⟨Ay, rfl, hry, hby⟩; have c1 := HS.out ▸ hry.conv xs.length; have B5 := bchain BX2.out.drew hby; have c2 := HS.out ▸ conv_cells (HX.out.below B5) HL.out c; have BY := Lib.hid B5; clear hry hby B5)
            all_goals
              go_wp2
              go_meet
              exact ⟨by first | rfl | simp, BY⟩
          case rest =>
            obtain ⟨rfl, BZ2⟩ := hcut
            go_wp2_with fail
            go_at_call 19; (with_reducible refine (head_any _).mono ?_); rintro e wh ⟨rfl, hb⟩
            go_wp2
            go_ret
            exact ⟨rfl, bchain BZ2.out hb⟩
        · have k7 : k < n := by have := HL.out; omega
          have K2 := Lib.hid k5
          have BN2 := Lib.hid (tchain BR2.out k6 hqw2)
          clear hk k1 k2 k3 k4 k5 k6
          go_wp2_with fail
          go_at_call 26; (with_reducible refine (r_end_lt q2 A2 n c2 k k7 _ K2.out).mono ?_); rintro e we2 ⟨rfl, g, k1, k2, k3⟩
          have KE2 := Lib.hid k1
          have GE2 := Lib.hid k2
          have BE2 := Lib.hid (tchain BN2.out k3 hqw2)
          clear k1 k2 k3
          go_wp2_with fail
          go_at_call 27; (with_reducible refine (r_err_yes q2 g _ _ _ _ _ (hT_below HT.out BE2.out) KE2.out GE2.out).mono ?_); rintro e wf2 ⟨g2, rfl, _, hb⟩
          have BZ2 := Lib.hid (bchain BE2.out hb)
          clear hb
          go_wp2_with fail
          go_at_call 19; (with_reducible refine (head_any _).mono ?_); rintro e wh ⟨rfl, hb⟩
          go_wp2
          go_ret
          exact ⟨rfl, bchain BZ2.out hb⟩
      · have K2 := Lib.hid k1
        have G2 := Lib.hid k2
        have BN2 := Lib.hid (tchain BR2.out k3 hqw2)
        clear k1 k2 k3
        go_wp2_with fail
        go_at_call 26; (with_reducible refine (r_end_fault q2 g2 A2 n c2 0 _ (hT_below HT.out BN2.out) K2.out).mono ?_); rintro e we2 ⟨rfl, hb⟩
        have KE2 := Lib.hid (K2.out.kept hb)
        have GE2 := Lib.hid (G2.out.kept hb)
        have BE2 := Lib.hid (bchain BN2.out hb)
        clear hb
        go_wp2_with fail
        go_at_call 27; (with_reducible refine (r_err_yes q2 g2 _ _ _ _ _ (hT_below HT.out BE2.out) KE2.out GE2.out).mono ?_); rintro e wf2 ⟨g2, rfl, _, hb⟩
        have BZ2 := Lib.hid (bchain BE2.out hb)
        clear hb
        go_wp2_with fail
        go_at_call 19; (with_reducible refine (head_any _).mono ?_); rintro e wh ⟨rfl, hb⟩
        go_wp2
        go_ret
        exact ⟨rfl, bchain BZ2.out hb⟩
  · have K1 := Lib.hid k1
    have G1 := Lib.hid k2
    have BN1 := Lib.hid (tchain BR1.out k3 hqw1)
    clear k1 k2 k3
    go_wp2_with fail
    go_at_call 26; (with_reducible refine (r_end_fault q1 g1 A1 n c1 0 _ (hT_below HT.out BN1.out) K1.out).mono ?_); rintro e we1 ⟨rfl, hb⟩
    have KE1 := Lib.hid (K1.out.kept hb)
    have GE1 := Lib.hid (G1.out.kept hb)
    have BE1 := Lib.hid (bchain BN1.out hb)
    clear hb
    go_wp2_with fail
    go_at_call 27; (with_reducible refine (r_err_yes q1 g1 _ _ _ _ _ (hT_below HT.out BE1.out) KE1.out GE1.out).mono ?_); rintro e wf1 ⟨g2, rfl, _, hb⟩
    have BZ1 := Lib.hid (bchain BE1.out hb)
    clear hb
    go_wp2_with fail
    go_at_call 24; (with_reducible refine (r_read A n c xs _ HL.out (HX.out.below BZ1.out) HN.out).mono ?_); rintro e wr2 ⟨q2, A2, c2, rfl, hq, hbk, hrow, hlt, hb⟩
    have BR2 := Lib.hid (bchain BZ1.out hb)
    have hqw2 : w.heap.size ≤ q2 := Nat.le_trans BZ1.out.size hq
    have hq02 : 0 < q2 := Nat.lt_of_lt_of_le (World.block_lt_of_cell? w _ HT.out) hqw2
    have CN2 := Lib.hid (r_int q2 A2 n c2 xs 0 wr2 (hT_below HT.out BR2.out) hq02 hbk hrow.len hrow.cells (fun ad h => Nat.ne_of_lt (hlt ad h)) HW.out (Nat.zero_le _) HN.out)
    clear hq hbk hrow hlt hb
    go_wp2_with fail
    go_at_call 28; (with_reducible refine CN2.out.mono ?_); intro e wn2 hp
    rcases hp with ⟨m2, k, rfl, k1, k2, k3, k4, k5, k6⟩ | ⟨g2, code, pl, rfl, k1, k2, k3⟩
    · by_cases hk : k = n
      · have HM2 := Lib.hid (show sev m2 = xs by rw [k3, hk, List.drop_zero, List.take_of_length_le (by have := HL.out; omega)])
        have K2 := Lib.hid (show Blk wn2 q2 95 (RdC (.slice A2 n c2) (n : Int) .nilIface) from hk ▸ k5)
        have BN2 := Lib.hid (tchain BR2.out k6 hqw2)
        have HMB2 := Lib.hid (unzz_bd m2 k4)
        clear hk k1 k2 k3 k4 k5 k6
        go_wp2_with fail
        go_at_call 26; (with_reducible refine (r_end_eq q2 A2 n c2 _ K2.out).mono ?_); rintro e we2 ⟨rfl, hb⟩
        have KE2 := Lib.hid (K2.out.kept hb)
        have BE2 := Lib.hid (bchain BN2.out hb)
        clear hb
        go_wp2_with fail
        go_at_call 27; (with_reducible refine (r_err_no q2 _ _ _ KE2.out).mono ?_); rintro e wf2 ⟨rfl, hb⟩
        have BF2 := Lib.hid (bchain BE2.out hb)
        clear hb
        go_wp2_with fail
        go_at_call 29; (with_reducible refine (w_int (unzz m2) HMB2.out.1 HMB2.out.2 _ _ _ _ _ (wr_new wf2) (by simp)).mono ?_); rintro e wx2 ⟨rfl, v2, hwr, hfr⟩
        have HWr2 := Lib.hid (show Wr wx2 wf2.heap.size wf2.heap.size v2 xs by rw [← HM2.out, ← zz_unzz m2]; simpa [zz_unzz] using hwr)
        have BX2 := Lib.hid ((BF2.out.alloc BF2.out.size _).trans (((wr_new wf2).fr_below hfr).mono BF2.out.size))
        clear hwr hfr
        go_wp2
        go_cut [52] (fun v w' => v = .bool false ∧ Hid (Below w.heap.size w w'))
        case first =>
          have c0 := conv_cells (HX.out.below BX2.out.drew) HL.out c
          generalize hS : strOfNums xs = S at c0
          have HS := Lib.hid hS
          clear hS
          go_region_with (go_at_call 16; (with_reducible refine (w_bytes _ _ _ _ _ (HWr2.out.kept (Below.refl _ _).drew) (by rw [HL.out]; exact HN.out)).mono ?_); rintro e wy ⟨Ay, rfl, hry, hby⟩; have c1 := HS.out ▸ hry.conv xs.length; have B5 := bchain BX2.out.drew hby; have c2 := HS.out ▸ conv_cells (HX.out.below B5) HL.out c; have BY := Lib.hid B5; clear hry hby B5)
          all_goals
            go_wp2
            go_meet
            exact ⟨by first | rfl | simp, BY⟩
        case rest =>
          obtain ⟨rfl, BZ2⟩ := hcut
          go_wp2_with fail
          go_at_call 19; (with_reducible refine (head_any _).mono ?_); rintro e wh ⟨rfl, hb⟩
          go_wp2
          go_ret
          exact ⟨rfl, bchain BZ2.out hb⟩
      · have k7 : k < n := by have := HL.out; omega
        have K2 := Lib.hid k5
        have BN2 := Lib.hid (tchain BR2.out k6 hqw2)
        clear hk k1 k2 k3 k4 k5 k6
        go_wp2_with fail
        go_at_call 26; (with_reducible refine (r_end_lt q2 A2 n c2 k k7 _ K2.out).mono ?_); rintro e we2 ⟨rfl, g, k1, k2, k3⟩
        have KE2 := Lib.hid k1
        have GE2 := Lib.hid k2
        have BE2 := Lib.hid (tchain BN2.out k3 hqw2)
        clear k1 k2 k3
        go_wp2_with fail
        go_at_call 27; (with_reducible refine (r_err_yes q2 g _ _ _ _ _ (hT_below HT.out BE2.out) KE2.out GE2.out).mono ?_); rintro e wf2 ⟨g2, rfl, _, hb⟩
        have BZ2 := Lib.hid (bchain BE2.out hb)
        clear hb
        go_wp2_with fail
        go_at_call 19; (with_reducible refine (head_any _).mono ?_); rintro e wh ⟨rfl, hb⟩
        go_wp2
        go_ret
        exact ⟨rfl, bchain BZ2.out hb⟩
    · have K2 := Lib.hid k1
      have G2 := Lib.hid k2
      have BN2 := Lib.hid (tchain BR2.out k3 hqw2)
      clear k1 k2 k3
      go_wp2_with fail
      go_at_call 26; (with_reducible refine (r_end_fault q2 g2 A2 n c2 0 _ (hT_below HT.out BN2.out) K2.out).mono ?_); rintro e we2 ⟨rfl, hb⟩
      have KE2 := Lib.hid (K2.out.kept hb)
      have GE2 := Lib.hid (G2.out.kept hb)
      have BE2 := Lib.hid (bchain BN2.out hb)
      clear hb
      go_wp2_with fail
      go_at_call 27; (with_reducible refine (r_err_yes q2 g2 _ _ _ _ _ (hT_below HT.out BE2.out) KE2.out GE2.out).mono ?_); rintro e wf2 ⟨g2, rfl, _, hb⟩
      have BZ2 := Lib.hid (bchain BE2.out hb)
      clear hb
      go_wp2_with fail
      go_at_call 19; (with_reducible refine (head_any _).mono ?_); rintro e wh ⟨rfl, hb⟩
      go_wp2
      go_ret
      exact ⟨rfl, bchain BZ2.out hb⟩
end Go.Proofs.YtdgokebablhoiaaDoor
