/- The law AggLeast: the walk. -/
import Derived.Test.YtikacbfpeegcdaaAggEnds
import Derived.Test.YtikacbfpeegcdaaAggK
import Derived.Deep.DeepCutAuto
import Derived.Deep.CutBlock
namespace Go.Proofs.Ytikacbfpeegcdaa
open Go.RowKit

set_option maxHeartbeats 2000000 in
set_option maxRecDepth 100000 in
theorem law_least (A : Option Addr) (n cap : Nat) (B : Option Addr) (m cap2 : Nat) (C : Option Addr) (r cap3 : Nat) (zs ys : List Int) (fs : List Nat) (w : World) (hza : zs.length = n) (hya : ys.length = m) (hfa : fs.length = r)
    (ha : CellsAt w A (ivs zs)) (hb : CellsAt w B (ivs ys)) (hf : CellsAt w C (fs.map (Value.float .f64 ·))) (hn : n ≤ 9223372036854775807) (hm : m ≤ 9223372036854775807) (hr : r ≤ 9223372036854775807) :
    Calls Try.prog 7 #[.slice A n cap, .slice B m cap2, .slice C r cap3] w fun e w' => e = .returned (.bool true) ∧ Below w.heap.size w w' := by
  have HA := Lib.hid ha
  have HB := Lib.hid hb
  have HF := Lib.hid hf
  have LA := Lib.hid hza
  have LB := Lib.hid hya
  have LF := Lib.hid hfa
  clear ha hb hf hza hya hfa
  go_enter Try.func7, Try.ntmps7
  go_wp2_with (go_at_call 11; (with_reducible refine (known_any _).mono ?_); rintro e w1 ⟨rfl, hb1⟩; have B1 := Lib.hid hb1; clear hb1)
  go_loopw [7] (fun i wr => ∃ k : Nat, k ≤ r ∧ i = .int .i64 k ∧ Hid ((∀ j (h : j < fs.length), j < k → (FloatKind.f64.format.order fs[j] fs[j] == some .eq) = true) ∧ Below w.heap.size w wr)) (fun i _ => r - (intOf i).toNat)
  case atStart => exact ⟨0, Nat.zero_le _, rfl, Lib.hid ⟨fun j _ h => absurd h (by omega), B1.out⟩⟩
  case round =>
    obtain ⟨k, hk, rfl, HP⟩ := hrel
    by_cases hlt : k < r
    · obtain ⟨ad, rfl, hal, hcell⟩ := (HF.out.below HP.out.2) k (by rw [List.length_map, LF.out]; exact hlt)
      have hkl : k < fs.length := by rw [LF.out]; exact hlt
      have hcr : wr.cell? (ad.add k) = some (.float .f64 fs[k]) := by rw [hcell]; simp
      clear hcell
      by_cases hq : (FloatKind.f64.format.order fs[k] fs[k] == some .eq) = true
      · have HQ := Lib.hid hq
        have hq2 : (FloatKind.f64.format.order fs[k] fs[k] != some .eq) = false := by unfold bne; rw [hq]; rfl
        clear hq
        generalize hx : fs[k] = x at hcr hq2
        clear hx
        go_wp2
        go_quiet (fail)
        go_wp2
        go_roundw
        case rel => exact ⟨k + 1, by omega, by go_num, Lib.hid ⟨fun j hj hjk => by
          rcases Nat.lt_or_ge j k with h | h
          · exact HP.out.1 j hj h
          · obtain rfl : j = k := by omega
            exact HQ.out, below_drewN HP.out.2 _⟩⟩
        case measure => simp [intOf]; omega
      · have hq2 : (FloatKind.f64.format.order fs[k] fs[k] != some .eq) = true := by unfold bne; simp only [Bool.not_eq_true] at hq; rw [hq]; rfl
        clear hq
        generalize hx : fs[k] = x at hcr hq2
        clear hx
        go_wp2
        go_quiet (fail)
        go_wp2
        go_ret
        exact ⟨rfl, below_drewN HP.out.2 _⟩
    · have QF := Lib.hid (show ∀ x ∈ fs, (FloatKind.f64.format.order x x == some .eq) = true from fun x hx => by
        obtain ⟨j, hj, rfl⟩ := List.getElem_of_mem hx
        exact HP.out.1 j hj (by have := LF.out; omega))
      have BW := Lib.hid HP.out.2
      have C1 := Lib.hid (Least_i64 A n cap zs wr LA.out (HA.out.below BW.out) hn)
      have C2 := Lib.hid (Most_i64 A n cap zs wr LA.out (HA.out.below BW.out) hn)
      have C3 := Lib.hid (Least_int B m cap2 ys wr LB.out (HB.out.below BW.out) hm)
      have C4 := Lib.hid (Most_int B m cap2 ys wr LB.out (HB.out.below BW.out) hm)
      have C5 := Lib.hid (floats_any C r cap3 fs wr LF.out (HF.out.below BW.out) QF.out hr)
      have FA := Lib.hid (least_int zs)
      have FB := Lib.hid (most_int zs)
      have FC := Lib.hid (least_int ys)
      have FD := Lib.hid (most_int ys)
      generalize bestL iltB 0 zs = a at C1 FA
      generalize bestL igtB 0 zs = b at C2 FB
      generalize bestL iltB 0 ys = c at C3 FC
      generalize bestL igtB 0 ys = d at C4 FD
      have C6 := Lib.hid (ends_any A n cap zs a b wr LA.out (HA.out.below BW.out) (fun h => FA.out.2.1 (by rw [LA.out]; exact h)) (fun h => FB.out.2.1 (by rw [LA.out]; exact h)) hn)
      have Z1 := Lib.hid (show n = 0 → a = 0 ∧ b = 0 from fun h => ⟨FA.out.2.2 (by rw [LA.out]; exact h), FB.out.2.2 (by rw [LA.out]; exact h)⟩)
      have Z2 := Lib.hid (show m = 0 → c = 0 ∧ d = 0 from fun h => ⟨FC.out.2.2 (by rw [LB.out]; exact h), FD.out.2.2 (by rw [LB.out]; exact h)⟩)
      clear HP QF HF LF
      go_upto_region 10 with (first
        | (go_at_call 18; (with_reducible refine C1.out.mono ?_); rintro e w2 ⟨rfl, rfl⟩)
        | (go_at_call 19; (with_reducible refine C2.out.mono ?_); rintro e w2 ⟨rfl, rfl⟩))
      go_cut [67] (fun v w' => v = .bool false ∧ wr = w')
      case first =>
        by_cases h0 : 0 < n
        · have hd : decide (0 < n) = true := by simpa using h0
          go_wp2
          go_meet
          exact ⟨rfl, rfl⟩
        · obtain ⟨rfl, rfl⟩ := Z1.out (by omega)
          obtain rfl : n = 0 := by omega
          go_wp2
          go_meet
          exact ⟨rfl, rfl⟩
      case rest =>
        obtain ⟨rfl, rfl⟩ := hcut
        go_wp2
        go_loop [12, 13] (fun at_ i => ∃ k q : Nat, k ≤ n ∧ q ≤ k ∧ at_ = .int .i64 q ∧ i = .int .i64 k ∧ Hid (Seen zs k (· = a) → 0 < q)) (fun _ i => n - (intOf i).toNat)
        case atStart => exact ⟨0, 0, Nat.zero_le _, Nat.le_refl _, rfl, rfl, Lib.hid fun h => absurd h Seen.no⟩
        case round =>
          obtain ⟨k, q, hk, hqk, rfl, rfl, HP⟩ := hrel
          by_cases hlt : k < n
          · obtain ⟨ad, rfl, hal, hcell⟩ := (HA.out.below BW.out) k (by rw [ivs_len, LA.out]; exact hlt)
            have hkl : k < zs.length := by rw [LA.out]; exact hlt
            have hcr : wr.cell? (ad.add k) = some (.int .i64 zs[k]) := by rw [hcell]; simp [ivs]
            have HS := Lib.hid (show Seen zs (k + 1) (· = a) → Seen zs k (· = a) ∨ zs[k] = a from fun h => h.succ hkl)
            have t1 : decide (zs[k] < a) = false := FA.out.1 _ (List.getElem_mem _)
            have t2 : decide (zs[k] > b) = false := FB.out.1 _ (List.getElem_mem _)
            clear hcell
            generalize hx : zs[k] = x at hcr HS t1 t2
            clear hx
            by_cases e1 : x = a
            · have e2 : (x == a) = true := by simpa using e1
              clear e1
              go_wp2
              go_round
              case rel => exact ⟨k + 1, q + 1, by omega, by omega, by go_num, by go_num, Lib.hid fun _ => by omega⟩
              case measure => simp [intOf]; omega
            · have e2 : (x == a) = false := by simpa using e1
              have HS2 := Lib.hid (show Seen zs (k + 1) (· = a) → 0 < q from fun h => (HS.out h).elim HP.out (fun h => absurd h e1))
              clear e1
              by_cases e3 : x = b
              · have e4 : (x == b) = true := by simpa using e3
                clear e3
                go_wp2
                go_round
                case rel => exact ⟨k + 1, q + 1, by omega, by omega, by go_num, by go_num, Lib.hid fun _ => by omega⟩
                case measure => simp [intOf]; omega
              · have e4 : (x == b) = false := by simpa using e3
                clear e3
                go_wp2
                go_round
                case rel => exact ⟨k + 1, q, by omega, by omega, rfl, by go_num, HS2⟩
                case measure => simp [intOf]; omega
          · have HQ := Lib.hid (show 0 < n → 0 < q from fun h => HP.out (Seen.all (FA.out.2.1 (by rw [LA.out]; exact h)) rfl (by rw [LA.out]; omega)))
            clear HP
            go_upto_region 22 with (first
              | (go_at_call 20; (with_reducible refine C3.out.mono ?_); rintro e w2 ⟨rfl, rfl⟩)
              | (go_at_call 21; (with_reducible refine C4.out.mono ?_); rintro e w2 ⟨rfl, rfl⟩))
            go_cut [135] (fun v w' => v = .bool false ∧ wr = w')
            case first =>
              by_cases h0 : 0 < m
              · have hd : decide (0 < m) = true := by simpa using h0
                go_wp2
                go_meet
                exact ⟨rfl, rfl⟩
              · obtain ⟨rfl, rfl⟩ := Z2.out (by omega)
                obtain rfl : m = 0 := by omega
                go_wp2
                go_meet
                exact ⟨rfl, rfl⟩
            case rest =>
              obtain ⟨rfl, rfl⟩ := hcut
              go_wp2
              go_loop [16, 17, 18] (fun lo hi i => ∃ (k : Nat) (p q : Bool), k ≤ m ∧ i = .int .i64 k ∧ lo = .bool p ∧ hi = .bool q ∧ Hid ((Seen ys k (· = c) → p = true) ∧ (Seen ys k (· = d) → q = true))) (fun _ _ i => m - (intOf i).toNat)
              case atStart => exact ⟨0, false, false, Nat.zero_le _, rfl, rfl, rfl, Lib.hid ⟨fun h => absurd h Seen.no, fun h => absurd h Seen.no⟩⟩
              case round =>
                obtain ⟨k2, p, q2, hk2, rfl, rfl, rfl, HP⟩ := hrel
                by_cases hlt2 : k2 < m
                · obtain ⟨ad, rfl, hal, hcell⟩ := (HB.out.below BW.out) k2 (by rw [ivs_len, LB.out]; exact hlt2)
                  have hkl : k2 < ys.length := by rw [LB.out]; exact hlt2
                  have hcr : wr.cell? (ad.add k2) = some (.int .i64 ys[k2]) := by rw [hcell]; simp [ivs]
                  have HS := Lib.hid (show (Seen ys (k2 + 1) (· = c) → Seen ys k2 (· = c) ∨ ys[k2] = c) ∧ (Seen ys (k2 + 1) (· = d) → Seen ys k2 (· = d) ∨ ys[k2] = d) from ⟨fun h => h.succ hkl, fun h => h.succ hkl⟩)
                  have t1 : decide (ys[k2] < c) = false := FC.out.1 _ (List.getElem_mem _)
                  have t2 : decide (ys[k2] > d) = false := FD.out.1 _ (List.getElem_mem _)
                  clear hcell
                  generalize hx : ys[k2] = x at hcr HS t1 t2
                  clear hx
                  cases p <;> cases q2
                  · go_wp2
                    go_round
                    case rel => exact ⟨k2 + 1, x == c, x == d, by omega, by go_num, rfl, rfl, Lib.hid ⟨fun h => (HS.out.1 h).elim (fun h => absurd (HP.out.1 h) (by simp)) (fun h => by simpa using h), fun h => (HS.out.2 h).elim (fun h => absurd (HP.out.2 h) (by simp)) (fun h => by simpa using h)⟩⟩
                    case measure => simp [intOf]; omega
                  · go_wp2
                    go_round
                    case rel => exact ⟨k2 + 1, x == c, true, by omega, by go_num, rfl, rfl, Lib.hid ⟨fun h => (HS.out.1 h).elim (fun h => absurd (HP.out.1 h) (by simp)) (fun h => by simpa using h), fun _ => rfl⟩⟩
                    case measure => simp [intOf]; omega
                  · go_wp2
                    go_round
                    case rel => exact ⟨k2 + 1, true, x == d, by omega, by go_num, rfl, rfl, Lib.hid ⟨fun _ => rfl, fun h => (HS.out.2 h).elim (fun h => absurd (HP.out.2 h) (by simp)) (fun h => by simpa using h)⟩⟩
                    case measure => simp [intOf]; omega
                  · go_wp2
                    go_round
                    case rel => exact ⟨k2 + 1, true, true, by omega, by go_num, rfl, rfl, Lib.hid ⟨fun _ => rfl, fun _ => rfl⟩⟩
                    case measure => simp [intOf]; omega
                · have HPQ := Lib.hid (show 0 < m → p = true ∧ q2 = true from fun h => ⟨HP.out.1 (Seen.all (FC.out.2.1 (by rw [LB.out]; exact h)) rfl (by rw [LB.out]; omega)), HP.out.2 (Seen.all (FD.out.2.1 (by rw [LB.out]; exact h)) rfl (by rw [LB.out]; omega))⟩)
                  clear HP
                  go_upto_region 33 with fail
                  go_cut [9, 11, 193] (fun _ _ v w' => v = .bool false ∧ wr = w')
                  case first =>
                    have HN := Lib.hid (show decide (0 < n) = true → ((q : Int) == 0) = false from fun h => by have := HQ.out (by simpa using h); simp; omega)
                    by_cases h1 : 0 < m
                    · obtain ⟨rfl, rfl⟩ := HPQ.out h1
                      by_cases h0 : 0 < n
                      · have hd : decide (0 < n) = true := by simpa using h0
                        have hq := HN.out hd
                        go_wp2
                        go_meet
                        exact ⟨rfl, rfl⟩
                      · obtain rfl : n = 0 := by omega
                        go_wp2
                        go_meet
                        exact ⟨rfl, rfl⟩
                    · obtain rfl : m = 0 := by omega
                      by_cases h0 : 0 < n
                      · have hd : decide (0 < n) = true := by simpa using h0
                        have hq := HN.out hd
                        go_wp2
                        go_meet
                        exact ⟨rfl, rfl⟩
                      · obtain rfl : n = 0 := by omega
                        go_wp2
                        go_meet
                        exact ⟨rfl, rfl⟩
                  case rest =>
                    obtain ⟨rfl, rfl⟩ := hcut
                    go_wp2_with (first
                      | (go_at_call 22; (with_reducible refine C5.out.mono ?_); rintro e w2 ⟨rfl, rfl⟩)
                      | (go_at_call 23; (with_reducible refine C6.out.mono ?_); rintro e w2 ⟨rfl, rfl⟩))
                    go_ret
                    exact ⟨rfl, BW.out⟩
end Go.Proofs.Ytikacbfpeegcdaa
