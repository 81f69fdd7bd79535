-- PRINTED BY print.sh 35421559b90ae4d0a3588c463048766b98c2df88dd9212a6774a882060cdf62d: not written by this session
import Derived.Test.YtikacbfpeegcdaaPAggNamesx0
namespace Go.Proofs.Ytikacbfpeegcdaa.PAggNames
open Go.RowKit Go.Proofs.YtikacbfpeegcdaaW.PrintWords Go.Proofs.YtikacbfpeegcdaaW.PrintLast Go.Proofs.YtikacbfpeegcdaaW.PrintMore
attribute [local go_sem] max2_int min2_int max_two min_two max_three min_three max_four min_four   -- for this text's walks alone
set_option linter.unusedVariables false
set_option linter.unusedSimpArgs false

/-! ### api_wordOfBytes: function 28 -/
def api_wordOfBytes.f (a0 : Int) : Option (ByteArray) := if a0 = 1 then (some (⟨#[97, 114, 103]⟩ : ByteArray)) else (if a0 = 2 then (some (⟨#[109, 97, 110, 121]⟩ : ByteArray)) else (if a0 = 3 then (some (⟨#[119, 111, 114, 100]⟩ : ByteArray)) else (if a0 = 4 then (some (⟨#[108, 111, 110, 103]⟩ : ByteArray)) else (if a0 = 11 then (some (⟨#[99, 117, 116]⟩ : ByteArray)) else (if a0 = 12 then (some (⟨#[102, 111, 114, 109]⟩ : ByteArray)) else (if a0 = 13 then (some (⟨#[116, 97, 105, 108]⟩ : ByteArray)) else (if a0 = 14 then (some (⟨#[102, 114, 97, 109, 101]⟩ : ByteArray)) else (if a0 = 15 then (some (⟨#[107, 105, 110, 100]⟩ : ByteArray)) else (if a0 = 16 then (some (⟨#[102, 105, 101, 108, 100]⟩ : ByteArray)) else (some (⟨#[101, 114, 114, 111, 114]⟩ : ByteArray)))))))))))
set_option maxHeartbeats 8000000 in
set_option maxRecDepth 100000 in
theorem api_wordOfBytes.calls (a0 : Int) (r : ByteArray) (w : World) (h : api_wordOfBytes.f a0 = some r) :
    Calls Try.prog 28 #[.int .i64 a0] w fun e w' => e = .returned (.string r) ∧ Drawn0 w w' := by
  have H : (if a0 = 1 then (some (⟨#[97, 114, 103]⟩ : ByteArray)) else (if a0 = 2 then (some (⟨#[109, 97, 110, 121]⟩ : ByteArray)) else (if a0 = 3 then (some (⟨#[119, 111, 114, 100]⟩ : ByteArray)) else (if a0 = 4 then (some (⟨#[108, 111, 110, 103]⟩ : ByteArray)) else (if a0 = 11 then (some (⟨#[99, 117, 116]⟩ : ByteArray)) else (if a0 = 12 then (some (⟨#[102, 111, 114, 109]⟩ : ByteArray)) else (if a0 = 13 then (some (⟨#[116, 97, 105, 108]⟩ : ByteArray)) else (if a0 = 14 then (some (⟨#[102, 114, 97, 109, 101]⟩ : ByteArray)) else (if a0 = 15 then (some (⟨#[107, 105, 110, 100]⟩ : ByteArray)) else (if a0 = 16 then (some (⟨#[102, 105, 101, 108, 100]⟩ : ByteArray)) else (some (⟨#[101, 114, 114, 111, 114]⟩ : ByteArray)))))))))))) = some r := h
  clear h
  by_cases c2 : a0 = 1
  · rw [if_pos c2] at H
    have c2b0 : (a0 == 1) = true := beq_iff_eq.mpr c2
    have c2b1 : (a0 != 1) = false := bne_eq_false_iff_eq.mpr c2
    clear c2
    obtain rfl := Option.some.inj H
    go_enter Try.func28, Try.ntmps28
    go_wp2
    go_ret
    exact ⟨by first | rfl | (simp; done) | (simp [*]; done), by repeat (first | exact Drawn0.refl _ | apply Drawn0.step)⟩
  · rw [if_neg c2] at H
    have c2b0 : (a0 == 1) = false := beq_eq_false_iff_ne.mpr c2
    have c2b1 : (a0 != 1) = true := bne_iff_ne.mpr c2
    by_cases c3 : a0 = 2
    · rw [if_pos c3] at H
      have c3b0 : (a0 == 2) = true := beq_iff_eq.mpr c3
      have c3b1 : (a0 != 2) = false := bne_eq_false_iff_eq.mpr c3
      clear c3
      obtain rfl := Option.some.inj H
      go_enter Try.func28, Try.ntmps28
      go_wp2
      go_ret
      exact ⟨by first | rfl | (simp; done) | (simp [*]; done), by repeat (first | exact Drawn0.refl _ | apply Drawn0.step)⟩
    · rw [if_neg c3] at H
      have c3b0 : (a0 == 2) = false := beq_eq_false_iff_ne.mpr c3
      have c3b1 : (a0 != 2) = true := bne_iff_ne.mpr c3
      by_cases c4 : a0 = 3
      · rw [if_pos c4] at H
        have c4b0 : (a0 == 3) = true := beq_iff_eq.mpr c4
        have c4b1 : (a0 != 3) = false := bne_eq_false_iff_eq.mpr c4
        clear c4
        obtain rfl := Option.some.inj H
        go_enter Try.func28, Try.ntmps28
        go_wp2
        go_ret
        exact ⟨by first | rfl | (simp; done) | (simp [*]; done), by repeat (first | exact Drawn0.refl _ | apply Drawn0.step)⟩
      · rw [if_neg c4] at H
        have c4b0 : (a0 == 3) = false := beq_eq_false_iff_ne.mpr c4
        have c4b1 : (a0 != 3) = true := bne_iff_ne.mpr c4
        by_cases c5 : a0 = 4
        · rw [if_pos c5] at H
          have c5b0 : (a0 == 4) = true := beq_iff_eq.mpr c5
          have c5b1 : (a0 != 4) = false := bne_eq_false_iff_eq.mpr c5
          clear c5
          obtain rfl := Option.some.inj H
          go_enter Try.func28, Try.ntmps28
          go_wp2
          go_ret
          exact ⟨by first | rfl | (simp; done) | (simp [*]; done), by repeat (first | exact Drawn0.refl _ | apply Drawn0.step)⟩
        · rw [if_neg c5] at H
          have c5b0 : (a0 == 4) = false := beq_eq_false_iff_ne.mpr c5
          have c5b1 : (a0 != 4) = true := bne_iff_ne.mpr c5
          by_cases c6 : a0 = 11
          · rw [if_pos c6] at H
            have c6b0 : (a0 == 11) = true := beq_iff_eq.mpr c6
            have c6b1 : (a0 != 11) = false := bne_eq_false_iff_eq.mpr c6
            clear c6
            obtain rfl := Option.some.inj H
            go_enter Try.func28, Try.ntmps28
            go_wp2
            go_ret
            exact ⟨by first | rfl | (simp; done) | (simp [*]; done), by repeat (first | exact Drawn0.refl _ | apply Drawn0.step)⟩
          · rw [if_neg c6] at H
            have c6b0 : (a0 == 11) = false := beq_eq_false_iff_ne.mpr c6
            have c6b1 : (a0 != 11) = true := bne_iff_ne.mpr c6
            by_cases c7 : a0 = 12
            · rw [if_pos c7] at H
              have c7b0 : (a0 == 12) = true := beq_iff_eq.mpr c7
              have c7b1 : (a0 != 12) = false := bne_eq_false_iff_eq.mpr c7
              clear c7
              obtain rfl := Option.some.inj H
              go_enter Try.func28, Try.ntmps28
              go_wp2
              go_ret
              exact ⟨by first | rfl | (simp; done) | (simp [*]; done), by repeat (first | exact Drawn0.refl _ | apply Drawn0.step)⟩
            · rw [if_neg c7] at H
              have c7b0 : (a0 == 12) = false := beq_eq_false_iff_ne.mpr c7
              have c7b1 : (a0 != 12) = true := bne_iff_ne.mpr c7
              by_cases c8 : a0 = 13
              · rw [if_pos c8] at H
                have c8b0 : (a0 == 13) = true := beq_iff_eq.mpr c8
                have c8b1 : (a0 != 13) = false := bne_eq_false_iff_eq.mpr c8
                clear c8
                obtain rfl := Option.some.inj H
                go_enter Try.func28, Try.ntmps28
                go_wp2
                go_ret
                exact ⟨by first | rfl | (simp; done) | (simp [*]; done), by repeat (first | exact Drawn0.refl _ | apply Drawn0.step)⟩
              · rw [if_neg c8] at H
                have c8b0 : (a0 == 13) = false := beq_eq_false_iff_ne.mpr c8
                have c8b1 : (a0 != 13) = true := bne_iff_ne.mpr c8
                by_cases c9 : a0 = 14
                · rw [if_pos c9] at H
                  have c9b0 : (a0 == 14) = true := beq_iff_eq.mpr c9
                  have c9b1 : (a0 != 14) = false := bne_eq_false_iff_eq.mpr c9
                  clear c9
                  obtain rfl := Option.some.inj H
                  go_enter Try.func28, Try.ntmps28
                  go_wp2
                  go_ret
                  exact ⟨by first | rfl | (simp; done) | (simp [*]; done), by repeat (first | exact Drawn0.refl _ | apply Drawn0.step)⟩
                · rw [if_neg c9] at H
                  have c9b0 : (a0 == 14) = false := beq_eq_false_iff_ne.mpr c9
                  have c9b1 : (a0 != 14) = true := bne_iff_ne.mpr c9
                  by_cases c10 : a0 = 15
                  · rw [if_pos c10] at H
                    have c10b0 : (a0 == 15) = true := beq_iff_eq.mpr c10
                    have c10b1 : (a0 != 15) = false := bne_eq_false_iff_eq.mpr c10
                    clear c10
                    obtain rfl := Option.some.inj H
                    go_enter Try.func28, Try.ntmps28
                    go_wp2
                    go_ret
                    exact ⟨by first | rfl | (simp; done) | (simp [*]; done), by repeat (first | exact Drawn0.refl _ | apply Drawn0.step)⟩
                  · rw [if_neg c10] at H
                    have c10b0 : (a0 == 15) = false := beq_eq_false_iff_ne.mpr c10
                    have c10b1 : (a0 != 15) = true := bne_iff_ne.mpr c10
                    by_cases c11 : a0 = 16
                    · rw [if_pos c11] at H
                      have c11b0 : (a0 == 16) = true := beq_iff_eq.mpr c11
                      have c11b1 : (a0 != 16) = false := bne_eq_false_iff_eq.mpr c11
                      clear c11
                      obtain rfl := Option.some.inj H
                      go_enter Try.func28, Try.ntmps28
                      go_wp2
                      go_ret
                      exact ⟨by first | rfl | (simp; done) | (simp [*]; done), by repeat (first | exact Drawn0.refl _ | apply Drawn0.step)⟩
                    · rw [if_neg c11] at H
                      have c11b0 : (a0 == 16) = false := beq_eq_false_iff_ne.mpr c11
                      have c11b1 : (a0 != 16) = true := bne_iff_ne.mpr c11
                      obtain rfl := Option.some.inj H
                      go_enter Try.func28, Try.ntmps28
                      go_wp2
                      go_ret
                      exact ⟨by first | rfl | (simp; done) | (simp [*]; done), by repeat (first | exact Drawn0.refl _ | apply Drawn0.step)⟩

/-! ### api_wordOfState: function 29 -/
def api_wordOfState.f (a0 : Int) : Option (ByteArray) := if a0 = 21 then (some (⟨#[107, 101, 121]⟩ : ByteArray)) else (if a0 = 22 then (some (⟨#[116, 105, 109, 101]⟩ : ByteArray)) else (if a0 = 23 then (some (⟨#[118, 105, 101, 119]⟩ : ByteArray)) else (if a0 = 24 then (some (⟨#[99, 111, 110, 102, 105, 103]⟩ : ByteArray)) else (if a0 = 25 then (some (⟨#[111, 118, 101, 114, 102, 108, 111, 119]⟩ : ByteArray)) else (if a0 = 26 then (some (⟨#[108, 97, 116, 101]⟩ : ByteArray)) else (if a0 = 31 then (some (⟨#[102, 117, 108, 108]⟩ : ByteArray)) else (if a0 = 32 then (some (⟨#[111, 108, 100]⟩ : ByteArray)) else (if a0 = 33 then (some (⟨#[101, 112, 111, 99, 104]⟩ : ByteArray)) else (if a0 = 34 then (some (⟨#[112, 105, 110, 115]⟩ : ByteArray)) else (if a0 = 35 then (some (⟨#[98, 117, 115, 121]⟩ : ByteArray)) else (if a0 = 36 then (some (⟨#[100, 111, 119, 110]⟩ : ByteArray)) else (some (⟨#[101, 114, 114, 111, 114]⟩ : ByteArray)))))))))))))
set_option maxHeartbeats 8000000 in
set_option maxRecDepth 100000 in
theorem api_wordOfState.calls (a0 : Int) (r : ByteArray) (w : World) (h : api_wordOfState.f a0 = some r) :
    Calls Try.prog 29 #[.int .i64 a0] w fun e w' => e = .returned (.string r) ∧ Drawn0 w w' := by
  have H : (if a0 = 21 then (some (⟨#[107, 101, 121]⟩ : ByteArray)) else (if a0 = 22 then (some (⟨#[116, 105, 109, 101]⟩ : ByteArray)) else (if a0 = 23 then (some (⟨#[118, 105, 101, 119]⟩ : ByteArray)) else (if a0 = 24 then (some (⟨#[99, 111, 110, 102, 105, 103]⟩ : ByteArray)) else (if a0 = 25 then (some (⟨#[111, 118, 101, 114, 102, 108, 111, 119]⟩ : ByteArray)) else (if a0 = 26 then (some (⟨#[108, 97, 116, 101]⟩ : ByteArray)) else (if a0 = 31 then (some (⟨#[102, 117, 108, 108]⟩ : ByteArray)) else (if a0 = 32 then (some (⟨#[111, 108, 100]⟩ : ByteArray)) else (if a0 = 33 then (some (⟨#[101, 112, 111, 99, 104]⟩ : ByteArray)) else (if a0 = 34 then (some (⟨#[112, 105, 110, 115]⟩ : ByteArray)) else (if a0 = 35 then (some (⟨#[98, 117, 115, 121]⟩ : ByteArray)) else (if a0 = 36 then (some (⟨#[100, 111, 119, 110]⟩ : ByteArray)) else (some (⟨#[101, 114, 114, 111, 114]⟩ : ByteArray)))))))))))))) = some r := h
  clear h
  by_cases c2 : a0 = 21
  · rw [if_pos c2] at H
    have c2b0 : (a0 == 21) = true := beq_iff_eq.mpr c2
    have c2b1 : (a0 != 21) = false := bne_eq_false_iff_eq.mpr c2
    clear c2
    obtain rfl := Option.some.inj H
    go_enter Try.func29, Try.ntmps29
    go_wp2
    go_ret
    exact ⟨by first | rfl | (simp; done) | (simp [*]; done), by repeat (first | exact Drawn0.refl _ | apply Drawn0.step)⟩
  · rw [if_neg c2] at H
    have c2b0 : (a0 == 21) = false := beq_eq_false_iff_ne.mpr c2
    have c2b1 : (a0 != 21) = true := bne_iff_ne.mpr c2
    by_cases c3 : a0 = 22
    · rw [if_pos c3] at H
      have c3b0 : (a0 == 22) = true := beq_iff_eq.mpr c3
      have c3b1 : (a0 != 22) = false := bne_eq_false_iff_eq.mpr c3
      clear c3
      obtain rfl := Option.some.inj H
      go_enter Try.func29, Try.ntmps29
      go_wp2
      go_ret
      exact ⟨by first | rfl | (simp; done) | (simp [*]; done), by repeat (first | exact Drawn0.refl _ | apply Drawn0.step)⟩
    · rw [if_neg c3] at H
      have c3b0 : (a0 == 22) = false := beq_eq_false_iff_ne.mpr c3
      have c3b1 : (a0 != 22) = true := bne_iff_ne.mpr c3
      by_cases c4 : a0 = 23
      · rw [if_pos c4] at H
        have c4b0 : (a0 == 23) = true := beq_iff_eq.mpr c4
        have c4b1 : (a0 != 23) = false := bne_eq_false_iff_eq.mpr c4
        clear c4
        obtain rfl := Option.some.inj H
        go_enter Try.func29, Try.ntmps29
        go_wp2
        go_ret
        exact ⟨by first | rfl | (simp; done) | (simp [*]; done), by repeat (first | exact Drawn0.refl _ | apply Drawn0.step)⟩
      · rw [if_neg c4] at H
        have c4b0 : (a0 == 23) = false := beq_eq_false_iff_ne.mpr c4
        have c4b1 : (a0 != 23) = true := bne_iff_ne.mpr c4
        by_cases c5 : a0 = 24
        · rw [if_pos c5] at H
          have c5b0 : (a0 == 24) = true := beq_iff_eq.mpr c5
          have c5b1 : (a0 != 24) = false := bne_eq_false_iff_eq.mpr c5
          clear c5
          obtain rfl := Option.some.inj H
          go_enter Try.func29, Try.ntmps29
          go_wp2
          go_ret
          exact ⟨by first | rfl | (simp; done) | (simp [*]; done), by repeat (first | exact Drawn0.refl _ | apply Drawn0.step)⟩
        · rw [if_neg c5] at H
          have c5b0 : (a0 == 24) = false := beq_eq_false_iff_ne.mpr c5
          have c5b1 : (a0 != 24) = true := bne_iff_ne.mpr c5
          by_cases c6 : a0 = 25
          · rw [if_pos c6] at H
            have c6b0 : (a0 == 25) = true := beq_iff_eq.mpr c6
            have c6b1 : (a0 != 25) = false := bne_eq_false_iff_eq.mpr c6
            clear c6
            obtain rfl := Option.some.inj H
            go_enter Try.func29, Try.ntmps29
            go_wp2
            go_ret
            exact ⟨by first | rfl | (simp; done) | (simp [*]; done), by repeat (first | exact Drawn0.refl _ | apply Drawn0.step)⟩
          · rw [if_neg c6] at H
            have c6b0 : (a0 == 25) = false := beq_eq_false_iff_ne.mpr c6
            have c6b1 : (a0 != 25) = true := bne_iff_ne.mpr c6
            by_cases c7 : a0 = 26
            · rw [if_pos c7] at H
              have c7b0 : (a0 == 26) = true := beq_iff_eq.mpr c7
              have c7b1 : (a0 != 26) = false := bne_eq_false_iff_eq.mpr c7
              clear c7
              obtain rfl := Option.some.inj H
              go_enter Try.func29, Try.ntmps29
              go_wp2
              go_ret
              exact ⟨by first | rfl | (simp; done) | (simp [*]; done), by repeat (first | exact Drawn0.refl _ | apply Drawn0.step)⟩
            · rw [if_neg c7] at H
              have c7b0 : (a0 == 26) = false := beq_eq_false_iff_ne.mpr c7
              have c7b1 : (a0 != 26) = true := bne_iff_ne.mpr c7
              by_cases c8 : a0 = 31
              · rw [if_pos c8] at H
                have c8b0 : (a0 == 31) = true := beq_iff_eq.mpr c8
                have c8b1 : (a0 != 31) = false := bne_eq_false_iff_eq.mpr c8
                clear c8
                obtain rfl := Option.some.inj H
                go_enter Try.func29, Try.ntmps29
                go_wp2
                go_ret
                exact ⟨by first | rfl | (simp; done) | (simp [*]; done), by repeat (first | exact Drawn0.refl _ | apply Drawn0.step)⟩
              · rw [if_neg c8] at H
                have c8b0 : (a0 == 31) = false := beq_eq_false_iff_ne.mpr c8
                have c8b1 : (a0 != 31) = true := bne_iff_ne.mpr c8
                by_cases c9 : a0 = 32
                · rw [if_pos c9] at H
                  have c9b0 : (a0 == 32) = true := beq_iff_eq.mpr c9
                  have c9b1 : (a0 != 32) = false := bne_eq_false_iff_eq.mpr c9
                  clear c9
                  obtain rfl := Option.some.inj H
                  go_enter Try.func29, Try.ntmps29
                  go_wp2
                  go_ret
                  exact ⟨by first | rfl | (simp; done) | (simp [*]; done), by repeat (first | exact Drawn0.refl _ | apply Drawn0.step)⟩
                · rw [if_neg c9] at H
                  have c9b0 : (a0 == 32) = false := beq_eq_false_iff_ne.mpr c9
                  have c9b1 : (a0 != 32) = true := bne_iff_ne.mpr c9
                  by_cases c10 : a0 = 33
                  · rw [if_pos c10] at H
                    have c10b0 : (a0 == 33) = true := beq_iff_eq.mpr c10
                    have c10b1 : (a0 != 33) = false := bne_eq_false_iff_eq.mpr c10
                    clear c10
                    obtain rfl := Option.some.inj H
                    go_enter Try.func29, Try.ntmps29
                    go_wp2
                    go_ret
                    exact ⟨by first | rfl | (simp; done) | (simp [*]; done), by repeat (first | exact Drawn0.refl _ | apply Drawn0.step)⟩
                  · rw [if_neg c10] at H
                    have c10b0 : (a0 == 33) = false := beq_eq_false_iff_ne.mpr c10
                    have c10b1 : (a0 != 33) = true := bne_iff_ne.mpr c10
                    by_cases c11 : a0 = 34
                    · rw [if_pos c11] at H
                      have c11b0 : (a0 == 34) = true := beq_iff_eq.mpr c11
                      have c11b1 : (a0 != 34) = false := bne_eq_false_iff_eq.mpr c11
                      clear c11
                      obtain rfl := Option.some.inj H
                      go_enter Try.func29, Try.ntmps29
                      go_wp2
                      go_ret
                      exact ⟨by first | rfl | (simp; done) | (simp [*]; done), by repeat (first | exact Drawn0.refl _ | apply Drawn0.step)⟩
                    · rw [if_neg c11] at H
                      have c11b0 : (a0 == 34) = false := beq_eq_false_iff_ne.mpr c11
                      have c11b1 : (a0 != 34) = true := bne_iff_ne.mpr c11
                      by_cases c12 : a0 = 35
                      · rw [if_pos c12] at H
                        have c12b0 : (a0 == 35) = true := beq_iff_eq.mpr c12
                        have c12b1 : (a0 != 35) = false := bne_eq_false_iff_eq.mpr c12
                        clear c12
                        obtain rfl := Option.some.inj H
                        go_enter Try.func29, Try.ntmps29
                        go_wp2
                        go_ret
                        exact ⟨by first | rfl | (simp; done) | (simp [*]; done), by repeat (first | exact Drawn0.refl _ | apply Drawn0.step)⟩
                      · rw [if_neg c12] at H
                        have c12b0 : (a0 == 35) = false := beq_eq_false_iff_ne.mpr c12
                        have c12b1 : (a0 != 35) = true := bne_iff_ne.mpr c12
                        by_cases c13 : a0 = 36
                        · rw [if_pos c13] at H
                          have c13b0 : (a0 == 36) = true := beq_iff_eq.mpr c13
                          have c13b1 : (a0 != 36) = false := bne_eq_false_iff_eq.mpr c13
                          clear c13
                          obtain rfl := Option.some.inj H
                          go_enter Try.func29, Try.ntmps29
                          go_wp2
                          go_ret
                          exact ⟨by first | rfl | (simp; done) | (simp [*]; done), by repeat (first | exact Drawn0.refl _ | apply Drawn0.step)⟩
                        · rw [if_neg c13] at H
                          have c13b0 : (a0 == 36) = false := beq_eq_false_iff_ne.mpr c13
                          have c13b1 : (a0 != 36) = true := bne_iff_ne.mpr c13
                          obtain rfl := Option.some.inj H
                          go_enter Try.func29, Try.ntmps29
                          go_wp2
                          go_ret
                          exact ⟨by first | rfl | (simp; done) | (simp [*]; done), by repeat (first | exact Drawn0.refl _ | apply Drawn0.step)⟩

/-! ### api_wordOfTasks: function 30 -/
def api_wordOfTasks.f (a0 : Int) : Option (ByteArray) := if a0 = 41 then (some (⟨#[104, 101, 108, 100]⟩ : ByteArray)) else (if a0 = 42 then (some (⟨#[116, 97, 115, 107]⟩ : ByteArray)) else (if a0 = 43 then (some (⟨#[116, 119, 105, 99, 101]⟩ : ByteArray)) else (if a0 = 44 then (some (⟨#[103, 111, 110, 101]⟩ : ByteArray)) else (if a0 = 45 then (some (⟨#[119, 97, 105, 116]⟩ : ByteArray)) else (if a0 = 51 then (some (⟨#[112, 111, 105, 110, 116]⟩ : ByteArray)) else (if a0 = 52 then (some (⟨#[97, 110, 115, 119, 101, 114]⟩ : ByteArray)) else (if a0 = 53 then (some (⟨#[111, 114, 100, 101, 114]⟩ : ByteArray)) else (some (⟨#[101, 114, 114, 111, 114]⟩ : ByteArray)))))))))
set_option maxHeartbeats 8000000 in
set_option maxRecDepth 100000 in
theorem api_wordOfTasks.calls (a0 : Int) (r : ByteArray) (w : World) (h : api_wordOfTasks.f a0 = some r) :
    Calls Try.prog 30 #[.int .i64 a0] w fun e w' => e = .returned (.string r) ∧ Drawn0 w w' := by
  have H : (if a0 = 41 then (some (⟨#[104, 101, 108, 100]⟩ : ByteArray)) else (if a0 = 42 then (some (⟨#[116, 97, 115, 107]⟩ : ByteArray)) else (if a0 = 43 then (some (⟨#[116, 119, 105, 99, 101]⟩ : ByteArray)) else (if a0 = 44 then (some (⟨#[103, 111, 110, 101]⟩ : ByteArray)) else (if a0 = 45 then (some (⟨#[119, 97, 105, 116]⟩ : ByteArray)) else (if a0 = 51 then (some (⟨#[112, 111, 105, 110, 116]⟩ : ByteArray)) else (if a0 = 52 then (some (⟨#[97, 110, 115, 119, 101, 114]⟩ : ByteArray)) else (if a0 = 53 then (some (⟨#[111, 114, 100, 101, 114]⟩ : ByteArray)) else (some (⟨#[101, 114, 114, 111, 114]⟩ : ByteArray)))))))))) = some r := h
  clear h
  by_cases c2 : a0 = 41
  · rw [if_pos c2] at H
    have c2b0 : (a0 == 41) = true := beq_iff_eq.mpr c2
    have c2b1 : (a0 != 41) = false := bne_eq_false_iff_eq.mpr c2
    clear c2
    obtain rfl := Option.some.inj H
    go_enter Try.func30, Try.ntmps30
    go_wp2
    go_ret
    exact ⟨by first | rfl | (simp; done) | (simp [*]; done), by repeat (first | exact Drawn0.refl _ | apply Drawn0.step)⟩
  · rw [if_neg c2] at H
    have c2b0 : (a0 == 41) = false := beq_eq_false_iff_ne.mpr c2
    have c2b1 : (a0 != 41) = true := bne_iff_ne.mpr c2
    by_cases c3 : a0 = 42
    · rw [if_pos c3] at H
      have c3b0 : (a0 == 42) = true := beq_iff_eq.mpr c3
      have c3b1 : (a0 != 42) = false := bne_eq_false_iff_eq.mpr c3
      clear c3
      obtain rfl := Option.some.inj H
      go_enter Try.func30, Try.ntmps30
      go_wp2
      go_ret
      exact ⟨by first | rfl | (simp; done) | (simp [*]; done), by repeat (first | exact Drawn0.refl _ | apply Drawn0.step)⟩
    · rw [if_neg c3] at H
      have c3b0 : (a0 == 42) = false := beq_eq_false_iff_ne.mpr c3
      have c3b1 : (a0 != 42) = true := bne_iff_ne.mpr c3
      by_cases c4 : a0 = 43
      · rw [if_pos c4] at H
        have c4b0 : (a0 == 43) = true := beq_iff_eq.mpr c4
        have c4b1 : (a0 != 43) = false := bne_eq_false_iff_eq.mpr c4
        clear c4
        obtain rfl := Option.some.inj H
        go_enter Try.func30, Try.ntmps30
        go_wp2
        go_ret
        exact ⟨by first | rfl | (simp; done) | (simp [*]; done), by repeat (first | exact Drawn0.refl _ | apply Drawn0.step)⟩
      · rw [if_neg c4] at H
        have c4b0 : (a0 == 43) = false := beq_eq_false_iff_ne.mpr c4
        have c4b1 : (a0 != 43) = true := bne_iff_ne.mpr c4
        by_cases c5 : a0 = 44
        · rw [if_pos c5] at H
          have c5b0 : (a0 == 44) = true := beq_iff_eq.mpr c5
          have c5b1 : (a0 != 44) = false := bne_eq_false_iff_eq.mpr c5
          clear c5
          obtain rfl := Option.some.inj H
          go_enter Try.func30, Try.ntmps30
          go_wp2
          go_ret
          exact ⟨by first | rfl | (simp; done) | (simp [*]; done), by repeat (first | exact Drawn0.refl _ | apply Drawn0.step)⟩
        · rw [if_neg c5] at H
          have c5b0 : (a0 == 44) = false := beq_eq_false_iff_ne.mpr c5
          have c5b1 : (a0 != 44) = true := bne_iff_ne.mpr c5
          by_cases c6 : a0 = 45
          · rw [if_pos c6] at H
            have c6b0 : (a0 == 45) = true := beq_iff_eq.mpr c6
            have c6b1 : (a0 != 45) = false := bne_eq_false_iff_eq.mpr c6
            clear c6
            obtain rfl := Option.some.inj H
            go_enter Try.func30, Try.ntmps30
            go_wp2
            go_ret
            exact ⟨by first | rfl | (simp; done) | (simp [*]; done), by repeat (first | exact Drawn0.refl _ | apply Drawn0.step)⟩
          · rw [if_neg c6] at H
            have c6b0 : (a0 == 45) = false := beq_eq_false_iff_ne.mpr c6
            have c6b1 : (a0 != 45) = true := bne_iff_ne.mpr c6
            by_cases c7 : a0 = 51
            · rw [if_pos c7] at H
              have c7b0 : (a0 == 51) = true := beq_iff_eq.mpr c7
              have c7b1 : (a0 != 51) = false := bne_eq_false_iff_eq.mpr c7
              clear c7
              obtain rfl := Option.some.inj H
              go_enter Try.func30, Try.ntmps30
              go_wp2
              go_ret
              exact ⟨by first | rfl | (simp; done) | (simp [*]; done), by repeat (first | exact Drawn0.refl _ | apply Drawn0.step)⟩
            · rw [if_neg c7] at H
              have c7b0 : (a0 == 51) = false := beq_eq_false_iff_ne.mpr c7
              have c7b1 : (a0 != 51) = true := bne_iff_ne.mpr c7
              by_cases c8 : a0 = 52
              · rw [if_pos c8] at H
                have c8b0 : (a0 == 52) = true := beq_iff_eq.mpr c8
                have c8b1 : (a0 != 52) = false := bne_eq_false_iff_eq.mpr c8
                clear c8
                obtain rfl := Option.some.inj H
                go_enter Try.func30, Try.ntmps30
                go_wp2
                go_ret
                exact ⟨by first | rfl | (simp; done) | (simp [*]; done), by repeat (first | exact Drawn0.refl _ | apply Drawn0.step)⟩
              · rw [if_neg c8] at H
                have c8b0 : (a0 == 52) = false := beq_eq_false_iff_ne.mpr c8
                have c8b1 : (a0 != 52) = true := bne_iff_ne.mpr c8
                by_cases c9 : a0 = 53
                · rw [if_pos c9] at H
                  have c9b0 : (a0 == 53) = true := beq_iff_eq.mpr c9
                  have c9b1 : (a0 != 53) = false := bne_eq_false_iff_eq.mpr c9
                  clear c9
                  obtain rfl := Option.some.inj H
                  go_enter Try.func30, Try.ntmps30
                  go_wp2
                  go_ret
                  exact ⟨by first | rfl | (simp; done) | (simp [*]; done), by repeat (first | exact Drawn0.refl _ | apply Drawn0.step)⟩
                · rw [if_neg c9] at H
                  have c9b0 : (a0 == 53) = false := beq_eq_false_iff_ne.mpr c9
                  have c9b1 : (a0 != 53) = true := bne_iff_ne.mpr c9
                  obtain rfl := Option.some.inj H
                  go_enter Try.func30, Try.ntmps30
                  go_wp2
                  go_ret
                  exact ⟨by first | rfl | (simp; done) | (simp [*]; done), by repeat (first | exact Drawn0.refl _ | apply Drawn0.step)⟩

/-! ### api_Errno_Error: function 10 -/
def api_Errno_Error.f (a0 : Int) : Option (ByteArray) := if a0 = 0 then (some (⟨#[111, 107]⟩ : ByteArray)) else (if a0 < 21 then ((api_wordOfBytes.f a0).bind fun t101 => (some t101)) else (if a0 < 41 then ((api_wordOfState.f a0).bind fun t102 => (some t102)) else ((api_wordOfTasks.f a0).bind fun t103 => (some t103))))
set_option maxHeartbeats 8000000 in
set_option maxRecDepth 100000 in
theorem api_Errno_Error.calls (a0 : Int) (r : ByteArray) (w : World) (h : api_Errno_Error.f a0 = some r) :
    Calls Try.prog 10 #[.int .i64 a0] w fun e w' => e = .returned (.string r) ∧ Drawn0 w w' := by
  have H : (if a0 = 0 then (some (⟨#[111, 107]⟩ : ByteArray)) else (if a0 < 21 then ((api_wordOfBytes.f a0).bind fun t101 => (some t101)) else (if a0 < 41 then ((api_wordOfState.f a0).bind fun t102 => (some t102)) else ((api_wordOfTasks.f a0).bind fun t103 => (some t103))))) = some r := h
  clear h
  by_cases c2 : a0 = 0
  · rw [if_pos c2] at H
    have c2b0 : (a0 == 0) = true := beq_iff_eq.mpr c2
    have c2b1 : (a0 != 0) = false := bne_eq_false_iff_eq.mpr c2
    clear c2
    obtain rfl := Option.some.inj H
    go_enter Try.func10, Try.ntmps10
    go_wp2
    go_ret
    exact ⟨by first | rfl | (simp; done) | (simp [*]; done), by repeat (first | exact Drawn0.refl _ | apply Drawn0.step)⟩
  · rw [if_neg c2] at H
    have c2b0 : (a0 == 0) = false := beq_eq_false_iff_ne.mpr c2
    have c2b1 : (a0 != 0) = true := bne_iff_ne.mpr c2
    by_cases c3 : a0 < 21
    · rw [if_pos c3] at H
      have c3b0 : decide (a0 < 21) = true := decide_eq_true c3
      clear c3
      replace H := Option.bind_eq_some_iff.mp H
      obtain ⟨t101, A40, H⟩ := H
      replace H : (some t101) = some r := H
      have A4 := Aside0.mk A40
      clear A40
      obtain rfl := Option.some.inj H
      go_enter Try.func10, Try.ntmps10
      go_wp2_with (first | ((with_reducible refine gate_callee (f := 28) rfl ?_); refine goesL_ (some 10) rfl rfl Try.func28 (by kernel_rfl) rfl #[.int .i64 a0] rfl (by (try simp only [List.map_toArray, List.map_cons, List.map_nil]); first | done | rfl | (simp only [List.length_drop, List.length_take]; rfl)) ?_; (with_reducible refine (api_wordOfBytes.calls a0 t101 _ A4.out).mono ?_); rintro e w' ⟨rfl, ⟨nd, rfl⟩⟩; refine ⟨_, rfl, ?_⟩))
      go_ret
      exact ⟨by first | rfl | (simp; done) | (simp [*]; done), by repeat (first | exact Drawn0.refl _ | apply Drawn0.step)⟩
    · rw [if_neg c3] at H
      have c3b0 : decide (a0 < 21) = false := decide_eq_false c3
      clear c3
      by_cases c5 : a0 < 41
      · rw [if_pos c5] at H
        have c5b0 : decide (a0 < 41) = true := decide_eq_true c5
        clear c5
        replace H := Option.bind_eq_some_iff.mp H
        obtain ⟨t102, A60, H⟩ := H
        replace H : (some t102) = some r := H
        have A6 := Aside0.mk A60
        clear A60
        obtain rfl := Option.some.inj H
        go_enter Try.func10, Try.ntmps10
        go_wp2_with (first | ((with_reducible refine gate_callee (f := 29) rfl ?_); refine goesL_ (some 15) rfl rfl Try.func29 (by kernel_rfl) rfl #[.int .i64 a0] rfl (by (try simp only [List.map_toArray, List.map_cons, List.map_nil]); first | done | rfl | (simp only [List.length_drop, List.length_take]; rfl)) ?_; (with_reducible refine (api_wordOfState.calls a0 t102 _ A6.out).mono ?_); rintro e w' ⟨rfl, ⟨nd, rfl⟩⟩; refine ⟨_, rfl, ?_⟩))
        go_ret
        exact ⟨by first | rfl | (simp; done) | (simp [*]; done), by repeat (first | exact Drawn0.refl _ | apply Drawn0.step)⟩
      · rw [if_neg c5] at H
        have c5b0 : decide (a0 < 41) = false := decide_eq_false c5
        clear c5
        replace H := Option.bind_eq_some_iff.mp H
        obtain ⟨t103, A70, H⟩ := H
        replace H : (some t103) = some r := H
        have A7 := Aside0.mk A70
        clear A70
        obtain rfl := Option.some.inj H
        go_enter Try.func10, Try.ntmps10
        go_wp2_with (first | ((with_reducible refine gate_callee (f := 30) rfl ?_); refine goesL_ (some 17) rfl rfl Try.func30 (by kernel_rfl) rfl #[.int .i64 a0] rfl (by (try simp only [List.map_toArray, List.map_cons, List.map_nil]); first | done | rfl | (simp only [List.length_drop, List.length_take]; rfl)) ?_; (with_reducible refine (api_wordOfTasks.calls a0 t103 _ A7.out).mono ?_); rintro e w' ⟨rfl, ⟨nd, rfl⟩⟩; refine ⟨_, rfl, ?_⟩))
        go_ret
        exact ⟨by first | rfl | (simp; done) | (simp [*]; done), by repeat (first | exact Drawn0.refl _ | apply Drawn0.step)⟩

/-! ### spatelaw3_AggNames: function 3 -/
def spatelaw3_AggNames.f  : Option (Bool) := (api_Errno_Error.f 25).bind fun t104 => (some (t104.toList == ([111, 118, 101, 114, 102, 108, 111, 119] : List UInt8)))
set_option maxHeartbeats 8000000 in
set_option maxRecDepth 100000 in
theorem spatelaw3_AggNames.calls  (r : Bool) (w : World) (h : spatelaw3_AggNames.f  = some r) :
    Calls Try.prog 3 #[] w fun e w' => e = .returned (.bool r) ∧ Drawn0 w w' := by
  have H : ((api_Errno_Error.f 25).bind fun t104 => (some (t104.toList == ([111, 118, 101, 114, 102, 108, 111, 119] : List UInt8)))) = some r := h
  clear h
  replace H := Option.bind_eq_some_iff.mp H
  obtain ⟨t104, A10, H⟩ := H
  replace H : (some (t104.toList == ([111, 118, 101, 114, 102, 108, 111, 119] : List UInt8))) = some r := H
  have A1 := Aside0.mk A10
  clear A10
  obtain rfl := Option.some.inj H
  go_enter Try.func3, Try.ntmps3
  go_wp2_with (first | (go_at_call 10; (with_reducible refine (api_Errno_Error.calls 25 t104 _ A1.out).mono ?_); rintro e w' ⟨rfl, ⟨nd, rfl⟩⟩))
  go_ret
  exact ⟨by first | rfl | (simp; done) | (simp [*]; done), by repeat (first | exact Drawn0.refl _ | apply Drawn0.step)⟩

/-- THE ONE PURE STATEMENT of spatelaw3_AggNames: yours. -/
def spatelaw3_AggNames.Pure : Prop := spatelaw3_AggNames.f  = some true
theorem spatelaw3_AggNames.walk (P : spatelaw3_AggNames.Pure)  (w : World)  :
    Calls Try.prog 3 #[] w fun e w' => e = .returned (.bool true) ∧ Below w.heap.size w w' := by
  have h := P  
  refine (spatelaw3_AggNames.calls  true w h).mono ?_
  rintro e w' ⟨rfl, hd⟩
  exact ⟨rfl, hd.below⟩

end Go.Proofs.Ytikacbfpeegcdaa.PAggNames
