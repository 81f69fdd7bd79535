/- SessLocks: the walk. -/
import Derived.Test.YtglbdbghcdoicaaGreatDoorSLocksP
namespace Go.Proofs.YtglbdbghcdoicaaGreatDoor
open Go.RowKit

set_option maxHeartbeats 16000000 in
set_option maxRecDepth 100000 in
theorem law_locks (A Az : Option Addr) (n c nz cz : Nat) (q : Rq) (zs : List Int) (W : World) (hT : W.cell? ⟨0, 0, none⟩ = some tyErr) (hqn : q.cs.length = n) (hn : n ≤ 9223372036854775807) (hzl : zs.length = nz) (hz : CellsAt W Az (ivs zs)) (hnz : nz ≤ 9223372036854775807) :
    Calls Tryz.prog 5 #[.agg (rqC (.slice A n c) q), .slice Az nz cz] W fun e w' => e = .returned (.bool true) ∧ Below W.heap.size W w' := by
  have bo := (Below.refl W.heap.size W).alloc (Nat.le_refl _) (.cells (rqC (.slice A n c) q) 43)
  have HT := Lib.hid (fun (W9 : World) (h : Below W.heap.size W W9) => (h.cell (p := ⟨0, 0, none⟩) (World.block_lt_of_cell? W _ hT)).trans hT)
  have K1 := Lib.hid (Blk.new W 43 (rqC (.slice A n c) q))
  have B0 := Lib.hid bo
  have HZ := Lib.hid hz
  have HZL := Lib.hid hzl
  have HQN := Lib.hid hqn
  have CK := Lib.hid (known_true _ (HT.out _ bo))
  clear hT hqn hzl hz bo
  go_enter Tryz.func5, Tryz.ntmps5
  go_wp2_with fail
  go_at_call 8; (with_reducible refine CK.out.mono ?_); rintro e w1 ⟨rfl, hb1⟩
  have B1 := Lib.hid (below_step B0.out hb1 (Nat.le_refl _))
  have K1 := Lib.hid (K1.out.kept hb1)
  clear hb1 CK
  go_wp2_with fail
  go_at_call 23; (with_reducible refine (open_yes 16 w1 (by decide) (by decide)).mono ?_); rintro e w2 ⟨s, S, rfl, hsx, hS, hb2⟩
  have B2 := Lib.hid (below_step B1.out hb2 (Nat.le_refl _))
  have K2 := Lib.hid (K1.out.kept hb2)
  clear hsx hS hb2 K1
  have hck : ∀ i, w2.cell? ⟨W.heap.size, i, none⟩ = (rqC (.slice A n c) q)[i]? := K2.out.cell
  by_cases hbig : 1000 < n
  · go_wp2_with fail
    go_ret
    exact ⟨rfl, B2.out⟩
  · have hn1 : n ≤ 1000 := by omega
    go_wp2_with fail
    go_loopw [6] (fun t6 wr => ∃ i : Nat, t6 = .int .i64 (i : Int) ∧ i ≤ nz ∧ w2 = wr ∧ Hid (∀ j (h : j < zs.length), j < i → zs[j] ≤ 1099511627776)) (fun t6 _ => nz - (intOf t6).toNat)
    case atStart => exact ⟨0, rfl, Nat.zero_le _, rfl, Lib.hid (fun j h h' => absurd h' (Nat.not_lt_zero _))⟩
    case round =>
      obtain ⟨i, rfl, hi, rfl, HP⟩ := hrel
      obtain ⟨k9, hk9⟩ : ∃ k9 : Int, (1099511627776 : Int) = k9 := ⟨_, rfl⟩
      have HK9 := Lib.hid hk9
      rw [hk9]
      clear hk9
      by_cases hin : i < nz
      · have HIL := Lib.hid (show i < zs.length by rw [HZL.out]; exact hin)
        obtain ⟨x, hx⟩ : ∃ x, x = zs[i]'HIL.out := ⟨_, rfl⟩
        obtain ⟨ad, rfl, hc⟩ : ∃ ad, Az = some ad ∧ w2.cell? (ad.add i) = some (.int .i64 x) := by
          obtain ⟨ad, hA, hlt, hc⟩ := HZ.out.below B2.out i (by rw [ivs_len]; exact HIL.out)
          refine ⟨ad, hA, hc.trans ?_⟩
          simp [ivs, hx]
        have HX := Lib.hid hx
        clear hx
        by_cases hbx : k9 < x
        · have hd : decide (k9 < x) = true := by simpa using hbx
          go_wp2_with fail
          go_ret
          exact ⟨rfl, B2.out⟩
        · have hd : decide (k9 < x) = false := by simpa using hbx
          go_wp2_with fail
          go_roundw
          case rel => exact ⟨i + 1, by go_num, by omega, by first | rfl | trivial, Lib.hid (fun j h h' => by
            rcases Nat.lt_succ_iff_lt_or_eq.1 h' with h1 | rfl
            · have := HP.out j h h1; have := HK9.out; omega
            · have := HX.out; have := HK9.out; omega)⟩
          case measure => simp [intOf]; omega
      · obtain rfl : i = nz := by omega
        have HZM := Lib.hid (show ∀ z ∈ zs, z ≤ 1099511627776 from fun z hz => by
          obtain ⟨j, hj, rfl⟩ := List.getElem_of_mem hz
          exact HP.out j hj (by rw [← HZL.out]; exact hj))
        have C3 := Lib.hid (need_any (some ⟨s, 0, none⟩) A Az n c i cz zs q w2 HQN.out HZL.out (HZ.out.below B2.out) (by omega) HZM.out)
        clear HP hin HK9
        go_wp2_with fail
        go_at_call 18; (with_reducible refine C3.out.mono ?_); rintro e w3 ⟨A3, c3, rfl, hown, hb3⟩
        have HLK := Lib.hid hown.lk
        have B3 := Lib.hid (below_step B2.out hb3 (Nat.le_refl _))
        have K3 := Lib.hid (K2.out.kept hb3)
        have HPW := Lib.hid (needP_rise q zs)
        have H2 := Lib.hid (needP_two q zs)
        have HNL := Lib.hid (needP_len q zs)
        have HMM := Lib.hid (needP_mem q zs)
        have hm1 : (needP q zs).length ≤ 1002 := by
          by_cases h : q.kind = 1 ∨ q.kind = 2
          · have := HNL.out h; have := HQN.out; omega
          · have := H2.out h; omega
        generalize needP q zs = ls at *
        obtain ⟨m, hm⟩ : ∃ m, m = ls.length := ⟨_, rfl⟩
        have HML := Lib.hid hm
        rw [← hm] at hm1
        rw [← hm]
        clear hown hb3 C3 hm hck K2
        go_wp2_with fail
        go_loopw [8] (fun t8 wr => ∃ i8 : Nat, t8 = .int .i64 (i8 : Int) ∧ 1 ≤ i8 ∧ (i8 ≤ m ∨ i8 = 1) ∧ Hid (Below w3.heap.size w3 wr)) (fun t8 _ => m - (intOf t8).toNat)
        case atStart => exact ⟨1, rfl, Nat.le_refl _, .inr rfl, Lib.hid (Below.refl _ _)⟩
        case round =>
          obtain ⟨i8, rfl, h81, h82, HP8⟩ := hrel
          rename World => wq
          by_cases h8m : i8 < m
          · obtain ⟨j, rfl⟩ : ∃ j, i8 = j + 1 := ⟨i8 - 1, by omega⟩
            have HJ1 := Lib.hid (show j + 1 < ls.length by rw [← HML.out]; exact h8m)
            have HJ0 := Lib.hid (show j < ls.length by have := HJ1.out; omega)
            obtain ⟨g, rfl, c0, -⟩ := HLK.out.below HP8.out j HJ0.out
            obtain ⟨g', hg', c1, -⟩ := HLK.out.below HP8.out (j + 1) HJ1.out
            injection hg' with hg'
            injection hg' with hg'
            subst hg'
            have hlt : ls[j].1 < ls[j + 1].1 := List.pairwise_iff_getElem.1 HPW.out j (j + 1) HJ0.out HJ1.out (by omega)
            generalize ls[j].1 = x0 at *
            generalize ls[j + 1].1 = x1 at *
            have hd : decide (x1 ≤ x0) = false := by simpa using hlt
            go_wp2
            go_region
            go_wp2
            go_roundw
            case rel => exact ⟨j + 1 + 1, by go_num, by omega, .inl (by omega), Lib.hid (by first | exact HP8.out | exact HP8.out.drew)⟩
            case measure => simp [intOf]; omega
          · have hmi : m ≤ i8 := by omega
            have hck : ∀ i, wq.cell? ⟨W.heap.size, i, none⟩ = (rqC (.slice A n c) q)[i]? := (K3.out.kept HP8.out).cell
            have HLQ := Lib.hid (HLK.out.below HP8.out)
            have BQ := Lib.hid (below_step B3.out HP8.out (Nat.le_refl _))
            clear HP8 HLK
            by_cases hk : q.kind = 1 ∨ q.kind = 2
            · have HK := Lib.hid hk
              have hmn : m ≤ n := by have := HNL.out hk; rw [← HML.out, HQN.out] at this; exact this
              clear hk
              rcases HK.out with e1 | e1
              · go_wp2_with fail
                go_loopw [9] (fun t9 wr => ∃ i9 : Nat, t9 = .int .i64 (i9 : Int) ∧ i9 ≤ n ∧ wq = wr) (fun t9 _ => n - (intOf t9).toNat)
                case atStart => exact ⟨0, rfl, Nat.zero_le _, rfl⟩
                case round =>
                  obtain ⟨i9, rfl, h9, rfl⟩ := hrel
                  by_cases h9n : i9 < n
                  · go_upto_region 23 with fail
                    go_cut [87] from 70 to 110 (fun t87 w' => ∃ b87 : Bool, t87 = .bool b87 ∧ wq = w' ∧ Hid (b87 = decide (0 < routeP zs i9)))
                    case first =>
                      by_cases h9z : i9 < i
                      · have HIL := Lib.hid (show i9 < zs.length by rw [HZL.out]; exact h9z)
                        obtain ⟨x, hx⟩ : ∃ x, x = zs[i9]'HIL.out := ⟨_, rfl⟩
                        have HRX := Lib.hid (show decide (0 < x) = decide (0 < routeP zs i9) by unfold routeP; rw [List.getD_eq_getElem?_getD, List.getElem?_eq_getElem HIL.out, hx]; simp only [Option.getD_some]; rw [decide_eq_decide]; omega)
                        obtain ⟨ad, rfl, hc⟩ : ∃ ad, Az = some ad ∧ wq.cell? (ad.add i9) = some (.int .i64 x) := by
                          obtain ⟨ad, hA, hlt, hc⟩ := HZ.out.below BQ.out i9 (by rw [ivs_len]; exact HIL.out)
                          refine ⟨ad, hA, hc.trans ?_⟩
                          simp [ivs, hx]
                        clear hx
                        go_wp2
                        go_meet
                        exact ⟨_, rfl, rfl, HRX⟩
                      · have HRT := Lib.hid (show decide (0 < routeP zs i9) = false by unfold routeP; rw [List.getD_eq_getElem?_getD, List.getElem?_eq_none (by rw [HZL.out]; omega)]; rfl)
                        go_wp2
                        go_meet
                        exact ⟨false, rfl, rfl, Lib.hid HRT.out.symm⟩
                    case rest =>
                    obtain ⟨b87, rfl, rfl, HB87⟩ := hcut
                    go_upto_if 87 with fail
                    go_cut [10] from 70 to 110 (fun t10 w' => t10 = .int .i64 (2 + routeP zs i9) ∧ wq = w')
                    case first =>
                      rcases b87 with _ | _
                      rotate_left
                      · have hr0 : 0 < routeP zs i9 := by have := HB87.out; simpa using this.symm
                        have h9z : i9 < i := by
                          refine Decidable.byContradiction fun h => ?_
                          unfold routeP at hr0
                          rw [List.getD_eq_getElem?_getD, List.getElem?_eq_none (by rw [HZL.out]; omega)] at hr0
                          exact absurd hr0 (by decide)
                        have HIL := Lib.hid (show i9 < zs.length by rw [HZL.out]; exact h9z)
                        obtain ⟨x, hx⟩ : ∃ x, x = zs[i9]'HIL.out := ⟨_, rfl⟩
                        have hrx : routeP zs i9 = max x 0 := by unfold routeP; rw [List.getD_eq_getElem?_getD, List.getElem?_eq_getElem HIL.out, hx]; rfl
                        have hxm := HZM.out x (by rw [hx]; exact List.getElem_mem _)
                        obtain ⟨ad, rfl, hc⟩ : ∃ ad, Az = some ad ∧ wq.cell? (ad.add i9) = some (.int .i64 x) := by
                          obtain ⟨ad, hA, hlt, hc⟩ := HZ.out.below BQ.out i9 (by rw [ivs_len]; exact HIL.out)
                          refine ⟨ad, hA, hc.trans ?_⟩
                          simp [ivs, hx]
                        have hw : IntKind.i64.wrap (2 + x) = 2 + x := by rw [IntKind.wrap_i64]; omega
                        have HRT := Lib.hid (show (2 + x : Int) = 2 + routeP zs i9 by omega)
                        clear hx hxm hrx hr0 HB87
                        go_wp2
                        go_meet
                        exact ⟨by rw [HRT.out], rfl⟩
                      · have hr0 : ¬ 0 < routeP zs i9 := by have := HB87.out; simpa using this.symm
                        have HRT := Lib.hid (show (2 : Int) = 2 + routeP zs i9 by unfold routeP at hr0 ⊢; omega)
                        clear hr0 HB87
                        go_wp2
                        go_meet
                        exact ⟨by rw [← HRT.out], rfl⟩
                    case rest =>
                      obtain ⟨rfl, rfl⟩ := hcut
                      have HME := Lib.hid (HMM.out HK.out i9 (by rw [HQN.out]; exact h9n))
                      generalize 2 + routeP zs i9 = tt at *
                      go_wp2_with fail
                      go_loopw [11, 12] (fun t11 t12 wr => ∃ (k4 : Nat) (b4 : Bool), t12 = .int .i64 (k4 : Int) ∧ t11 = .bool b4 ∧ k4 ≤ m ∧ wq = wr ∧ HasL ls tt k4 b4) (fun _ t12 _ => m - (intOf t12).toNat)
                      case atStart => exact ⟨0, false, rfl, rfl, Nat.zero_le _, rfl, HasL.zero ls tt⟩
                      case round =>
                        obtain ⟨k4, b4, rfl, rfl, hk4, rfl, HB4⟩ := hrel
                        by_cases hkm : k4 < m
                        · have HKL := Lib.hid (show k4 < ls.length by rw [← HML.out]; exact hkm)
                          rcases b4 with _ | _
                          · obtain ⟨g, rfl, c0, c1⟩ := HLQ.out k4 HKL.out
                            obtain ⟨e4, he4⟩ : ∃ e4, e4 = ls[k4]'HKL.out := ⟨_, rfl⟩
                            rw [← he4] at c0 c1
                            have HE4 := Lib.hid he4
                            clear he4
                            obtain ⟨x4, y4⟩ := e4
                            by_cases hxy : x4 = tt ∧ y4 = true
                            · obtain ⟨rfl, rfl⟩ := hxy
                              go_wp2
                              exact ⟨⟨k4 + 1, true, by go_num, rfl, by omega, by first | rfl | trivial, HasL.here HKL.out HE4.out.symm⟩, by simp [intOf]; omega⟩
                            · have HNE := Lib.hid (show ls[k4]'HKL.out ≠ (tt, true) from fun h => hxy (by rw [← HE4.out] at h; exact ⟨congrArg Prod.fst h, congrArg Prod.snd h⟩))
                              rcases y4 with _ | _
                              · clear hxy
                                go_wp2
                                all_goals exact ⟨⟨k4 + 1, false, by go_num, rfl, by omega, by first | rfl | trivial, HB4.not_ HKL.out HNE.out⟩, by simp [intOf]; omega⟩
                              · have hxe : ¬ x4 = tt := fun h => hxy ⟨h, rfl⟩
                                clear hxy
                                go_wp2
                                all_goals exact ⟨⟨k4 + 1, false, by go_num, rfl, by omega, by first | rfl | trivial, HB4.not_ HKL.out HNE.out⟩, by simp [intOf]; omega⟩
                          · go_wp2_with fail
                            go_roundw
                            case rel => exact ⟨k4 + 1, true, by go_num, rfl, by omega, by first | rfl | trivial, HB4.yes⟩
                            case measure => simp [intOf]; omega
                        · obtain rfl : k4 = m := by omega
                          have hb4 : b4 = true := HB4.all HML.out HME.out
                          subst hb4
                          go_wp2_with fail
                          go_roundw
                          case rel => exact ⟨i9 + 1, by go_num, by omega, by first | rfl | trivial⟩
                          case measure => simp [intOf]; omega
                  · have hmd : decide ((m : Int) ≤ (n : Int)) = true := by simp; omega
                    go_wp2_with fail
                    go_ret
                    exact ⟨rfl, BQ.out⟩
              · go_wp2_with fail
                go_loopw [9] (fun t9 wr => ∃ i9 : Nat, t9 = .int .i64 (i9 : Int) ∧ i9 ≤ n ∧ wq = wr) (fun t9 _ => n - (intOf t9).toNat)
                case atStart => exact ⟨0, rfl, Nat.zero_le _, rfl⟩
                case round =>
                  obtain ⟨i9, rfl, h9, rfl⟩ := hrel
                  by_cases h9n : i9 < n
                  · go_upto_region 23 with fail
                    go_cut [87] from 70 to 110 (fun t87 w' => ∃ b87 : Bool, t87 = .bool b87 ∧ wq = w' ∧ Hid (b87 = decide (0 < routeP zs i9)))
                    case first =>
                      by_cases h9z : i9 < i
                      · have HIL := Lib.hid (show i9 < zs.length by rw [HZL.out]; exact h9z)
                        obtain ⟨x, hx⟩ : ∃ x, x = zs[i9]'HIL.out := ⟨_, rfl⟩
                        have HRX := Lib.hid (show decide (0 < x) = decide (0 < routeP zs i9) by unfold routeP; rw [List.getD_eq_getElem?_getD, List.getElem?_eq_getElem HIL.out, hx]; simp only [Option.getD_some]; rw [decide_eq_decide]; omega)
                        obtain ⟨ad, rfl, hc⟩ : ∃ ad, Az = some ad ∧ wq.cell? (ad.add i9) = some (.int .i64 x) := by
                          obtain ⟨ad, hA, hlt, hc⟩ := HZ.out.below BQ.out i9 (by rw [ivs_len]; exact HIL.out)
                          refine ⟨ad, hA, hc.trans ?_⟩
                          simp [ivs, hx]
                        clear hx
                        go_wp2
                        go_meet
                        exact ⟨_, rfl, rfl, HRX⟩
                      · have HRT := Lib.hid (show decide (0 < routeP zs i9) = false by unfold routeP; rw [List.getD_eq_getElem?_getD, List.getElem?_eq_none (by rw [HZL.out]; omega)]; rfl)
                        go_wp2
                        go_meet
                        exact ⟨false, rfl, rfl, Lib.hid HRT.out.symm⟩
                    case rest =>
                    obtain ⟨b87, rfl, rfl, HB87⟩ := hcut
                    go_upto_if 87 with fail
                    go_cut [10] from 70 to 110 (fun t10 w' => t10 = .int .i64 (2 + routeP zs i9) ∧ wq = w')
                    case first =>
                      rcases b87 with _ | _
                      rotate_left
                      · have hr0 : 0 < routeP zs i9 := by have := HB87.out; simpa using this.symm
                        have h9z : i9 < i := by
                          refine Decidable.byContradiction fun h => ?_
                          unfold routeP at hr0
                          rw [List.getD_eq_getElem?_getD, List.getElem?_eq_none (by rw [HZL.out]; omega)] at hr0
                          exact absurd hr0 (by decide)
                        have HIL := Lib.hid (show i9 < zs.length by rw [HZL.out]; exact h9z)
                        obtain ⟨x, hx⟩ : ∃ x, x = zs[i9]'HIL.out := ⟨_, rfl⟩
                        have hrx : routeP zs i9 = max x 0 := by unfold routeP; rw [List.getD_eq_getElem?_getD, List.getElem?_eq_getElem HIL.out, hx]; rfl
                        have hxm := HZM.out x (by rw [hx]; exact List.getElem_mem _)
                        obtain ⟨ad, rfl, hc⟩ : ∃ ad, Az = some ad ∧ wq.cell? (ad.add i9) = some (.int .i64 x) := by
                          obtain ⟨ad, hA, hlt, hc⟩ := HZ.out.below BQ.out i9 (by rw [ivs_len]; exact HIL.out)
                          refine ⟨ad, hA, hc.trans ?_⟩
                          simp [ivs, hx]
                        have hw : IntKind.i64.wrap (2 + x) = 2 + x := by rw [IntKind.wrap_i64]; omega
                        have HRT := Lib.hid (show (2 + x : Int) = 2 + routeP zs i9 by omega)
                        clear hx hxm hrx hr0 HB87
                        go_wp2
                        go_meet
                        exact ⟨by rw [HRT.out], rfl⟩
                      · have hr0 : ¬ 0 < routeP zs i9 := by have := HB87.out; simpa using this.symm
                        have HRT := Lib.hid (show (2 : Int) = 2 + routeP zs i9 by unfold routeP at hr0 ⊢; omega)
                        clear hr0 HB87
                        go_wp2
                        go_meet
                        exact ⟨by rw [← HRT.out], rfl⟩
                    case rest =>
                      obtain ⟨rfl, rfl⟩ := hcut
                      have HME := Lib.hid (HMM.out HK.out i9 (by rw [HQN.out]; exact h9n))
                      generalize 2 + routeP zs i9 = tt at *
                      go_wp2_with fail
                      go_loopw [11, 12] (fun t11 t12 wr => ∃ (k4 : Nat) (b4 : Bool), t12 = .int .i64 (k4 : Int) ∧ t11 = .bool b4 ∧ k4 ≤ m ∧ wq = wr ∧ HasL ls tt k4 b4) (fun _ t12 _ => m - (intOf t12).toNat)
                      case atStart => exact ⟨0, false, rfl, rfl, Nat.zero_le _, rfl, HasL.zero ls tt⟩
                      case round =>
                        obtain ⟨k4, b4, rfl, rfl, hk4, rfl, HB4⟩ := hrel
                        by_cases hkm : k4 < m
                        · have HKL := Lib.hid (show k4 < ls.length by rw [← HML.out]; exact hkm)
                          rcases b4 with _ | _
                          · obtain ⟨g, rfl, c0, c1⟩ := HLQ.out k4 HKL.out
                            obtain ⟨e4, he4⟩ : ∃ e4, e4 = ls[k4]'HKL.out := ⟨_, rfl⟩
                            rw [← he4] at c0 c1
                            have HE4 := Lib.hid he4
                            clear he4
                            obtain ⟨x4, y4⟩ := e4
                            by_cases hxy : x4 = tt ∧ y4 = true
                            · obtain ⟨rfl, rfl⟩ := hxy
                              go_wp2
                              exact ⟨⟨k4 + 1, true, by go_num, rfl, by omega, by first | rfl | trivial, HasL.here HKL.out HE4.out.symm⟩, by simp [intOf]; omega⟩
                            · have HNE := Lib.hid (show ls[k4]'HKL.out ≠ (tt, true) from fun h => hxy (by rw [← HE4.out] at h; exact ⟨congrArg Prod.fst h, congrArg Prod.snd h⟩))
                              rcases y4 with _ | _
                              · clear hxy
                                go_wp2
                                all_goals exact ⟨⟨k4 + 1, false, by go_num, rfl, by omega, by first | rfl | trivial, HB4.not_ HKL.out HNE.out⟩, by simp [intOf]; omega⟩
                              · have hxe : ¬ x4 = tt := fun h => hxy ⟨h, rfl⟩
                                clear hxy
                                go_wp2
                                all_goals exact ⟨⟨k4 + 1, false, by go_num, rfl, by omega, by first | rfl | trivial, HB4.not_ HKL.out HNE.out⟩, by simp [intOf]; omega⟩
                          · go_wp2_with fail
                            go_roundw
                            case rel => exact ⟨k4 + 1, true, by go_num, rfl, by omega, by first | rfl | trivial, HB4.yes⟩
                            case measure => simp [intOf]; omega
                        · obtain rfl : k4 = m := by omega
                          have hb4 : b4 = true := HB4.all HML.out HME.out
                          subst hb4
                          go_wp2_with fail
                          go_roundw
                          case rel => exact ⟨i9 + 1, by go_num, by omega, by first | rfl | trivial⟩
                          case measure => simp [intOf]; omega
                  · have hmd : decide ((m : Int) ≤ (n : Int)) = true := by simp; omega
                    go_wp2_with fail
                    go_ret
                    exact ⟨rfl, BQ.out⟩
            · have h1 : (q.kind == 1) = false ∧ (q.kind != 1) = true ∧ (q.kind == 2) = false ∧ (q.kind != 2) = true := by simp; omega
              obtain ⟨k1, k2, k3, k4⟩ := h1
              have hm2 : decide ((m : Int) ≤ 2) = true := by have := H2.out hk; rw [← HML.out] at this; simp; omega
              clear hk
              go_wp2_with fail
              go_ret
              exact ⟨rfl, BQ.out⟩
end Go.Proofs.YtglbdbghcdoicaaGreatDoor
