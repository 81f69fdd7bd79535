/- The Reader's sevens: a number that is read is the one that is written so. The Reader's Num (of the greatest bound), Int, End. -/
import Derived.Test.YtglbdbghcdoicaaGreatDoorWReader
import Derived.Test.YtglbdbghcdoicaaGreatDoorWLB
import Derived.Laws.BitsAllLaws
import Derived.Laws.DeepNot64
namespace Go.Proofs.YtglbdbghcdoicaaGreatDoor
open Go.RowKit

/-- i bytes of a number were read, none of them its last; N is what they tell. -/
def SevPre (xs : List Int) (first i N : Nat) : Prop :=
  N < 128 ^ i ∧ first + i ≤ xs.length ∧ ∀ m, (i = 0 ∨ 0 < m) → sev (N + m * 128 ^ i) = (xs.drop first).take i ++ sev m
theorem SevPre.start (xs : List Int) (first : Nat) (h : first ≤ xs.length) : SevPre xs first 0 0 := ⟨by simp, by omega, fun m _ => by simp⟩
theorem drop_take_succ (xs : List Int) (first i : Nat) (h : first + i < xs.length) : (xs.drop first).take (i + 1) = (xs.drop first).take i ++ [xs[first + i]] := by
  rw [take_succ_ _ i (by simp; omega)]
  simp
theorem SevPre.step {xs : List Int} {first i N c : Nat} (h : SevPre xs first i N) (hlt : first + i < xs.length) (hc : xs[first + i] = (c : Int)) (h128 : 128 ≤ c) (h256 : c < 256) : SevPre xs first (i + 1) (N + (c - 128) * 128 ^ i) := by
  obtain ⟨h1, _, h2⟩ := h
  refine ⟨?_, by omega, fun m hm => ?_⟩
  · rw [Nat.pow_succ]
    have := Nat.mul_le_mul_right (128 ^ i) (show c - 128 ≤ 127 by omega)
    omega
  · have hm0 : 0 < m := by rcases hm with h | h <;> omega
    have e : N + (c - 128) * 128 ^ i + m * 128 ^ (i + 1) = N + ((c - 128) + m * 128) * 128 ^ i := by
      rw [Nat.pow_succ, Nat.add_mul, Nat.mul_assoc m 128, Nat.mul_comm 128 (128 ^ i)]; omega
    rw [e, h2 _ (.inr (by omega)), sev_big _ (by omega), drop_take_succ xs first i hlt, List.append_assoc, hc]
    have e1 : (c - 128 + m * 128) % 128 + 128 = c := by omega
    have e2 : (c - 128 + m * 128) / 128 = m := by omega
    rw [e1, e2]
    rfl
theorem SevPre.last {xs : List Int} {first i N c : Nat} (h : SevPre xs first i N) (hlt : first + i < xs.length) (hc : xs[first + i] = (c : Int)) (h128 : c < 128) (h0 : i = 0 ∨ 0 < c) : sev (N + c * 128 ^ i) = (xs.drop first).take (i + 1) := by
  rw [h.2.2 c h0, sev_small c h128, drop_take_succ xs first i hlt, hc]

set_option maxRecDepth 100000 in
theorem and127_ : ∀ x : Fin 256, bits .and .u8 (x.val : Int) 127 = ((x.val % 128 : Nat) : Int) := by decide
theorem and127 (c : Nat) (hc : c < 256) : bits .and .u8 (c : Int) 127 = ((c % 128 : Nat) : Int) := and127_ ⟨c, hc⟩

theorem or_seven (N x i : Nat) (hN : N < 128 ^ i) (hx : x * 128 ^ i < 18446744073709551616) (h1 : 128 ^ i ≤ 9223372036854775808) :
    bits .or .u64 (N : Int) (IntKind.u64.wrap ((x : Int) * 2 ^ (7 * i))) = ((N + x * 128 ^ i : Nat) : Int) := by
  have e : (x : Int) * 2 ^ (7 * i) = ((x * 128 ^ i : Nat) : Int) := by
    rw [Int.natCast_mul, Int.natCast_pow, Int.pow_mul]; rfl
  have e2 : IntKind.u64.wrap ((x * 128 ^ i : Nat) : Int) = ((x * 128 ^ i : Nat) : Int) := by rw [IntKind.wrap_u64]; omega
  rw [e, e2, u64_or_nat N (x * 128 ^ i) (by omega) hx]
  have h := Nat.two_pow_add_eq_or_of_lt (i := 7 * i) (b := N) (by rw [Nat.pow_mul]; exact hN) x
  rw [Nat.pow_mul, show 2 ^ 7 = 128 from rfl] at h
  rw [Nat.or_comm, Nat.mul_comm x, ← h, Nat.add_comm]

theorem pow_le (i : Nat) (h : i ≤ 9) : 128 ^ i ≤ 9223372036854775808 := Nat.le_trans (Nat.pow_le_pow_right (by omega) h) (by decide)
theorem good_last {xs : List Int} {first i N c most last : Nat} (h : SevPre xs first i N) (hlt : first + i < xs.length) (hc : xs[first + i] = (c : Int)) (h128 : c < 128) (h0 : i = 0 ∨ 0 < c) (hi : i < most) (hm : most ≤ 10) (hml : most = 10 → last = 1) (hg : i = most - 1 → c ≤ last) :
    ∃ M : Nat, bits .or .u64 (N : Int) (IntKind.u64.wrap ((c : Int) % 128 * 2 ^ (7 * i))) = (M : Int) ∧ sev M = (xs.drop first).take (i + 1) ∧ M < 128 ^ (i + 1) ∧ M < 18446744073709551616 := by
  have hP := pow_le i (by omega)
  have hx : c * 128 ^ i ≤ 9223372036854775808 := by
    by_cases h9 : i = 9
    · have hc1 : c ≤ 1 := by have := hml (by omega); have := hg (by omega); omega
      have := Nat.mul_le_mul_right (128 ^ i) hc1
      omega
    · have h1 : 128 ^ i ≤ 72057594037927936 := Nat.le_trans (Nat.pow_le_pow_right (by omega) (show i ≤ 8 by omega)) (by decide)
      have := Nat.mul_le_mul (show c ≤ 127 by omega) h1
      omega
  have hN := h.1
  refine ⟨N + c * 128 ^ i, ?_, h.last hlt hc h128 h0, ?_, by omega⟩
  · rw [show (c : Int) % 128 = (c : Int) by omega]
    exact or_seven N c i hN (by omega) hP
  · rw [Nat.pow_succ]
    have := Nat.mul_le_mul_right (128 ^ i) (show c ≤ 127 by omega)
    omega
theorem good_next {xs : List Int} {first i N c : Nat} (h : SevPre xs first i N) (hlt : first + i < xs.length) (hc : xs[first + i] = (c : Int)) (h128 : 128 ≤ c) (h256 : c < 256) (hi : i ≤ 8) :
    ∃ M : Nat, bits .or .u64 (N : Int) (IntKind.u64.wrap ((c : Int) % 128 * 2 ^ (7 * i))) = (M : Int) ∧ SevPre xs first (i + 1) M := by
  have h1 : 128 ^ i ≤ 72057594037927936 := Nat.le_trans (Nat.pow_le_pow_right (by omega) hi) (by decide)
  have hx := Nat.mul_le_mul (show c - 128 ≤ 127 by omega) h1
  refine ⟨N + (c - 128) * 128 ^ i, ?_, h.step hlt hc h128 h256⟩
  rw [show (c : Int) % 128 = ((c - 128 : Nat) : Int) by omega]
  exact or_seven N (c - 128) i h.1 (by omega) (by omega)

/-- What sevens leaves. -/
def SevPost (W : World) (q : Nat) (v : Value) (xs : List Int) (first most : Nat) (e : Ending) (w' : World) : Prop :=
  (∃ n k : Nat, e = .returned (.tuple #[.int .u64 (n : Int), .int .i64 (first : Int)]) ∧ first < k ∧ k ≤ xs.length ∧ k ≤ first + most ∧ sev n = (xs.drop first).take (k - first) ∧ n < 128 ^ (k - first) ∧ n < 18446744073709551616 ∧
    Blk w' q 219 (RdC v (k : Int) .nilIface) ∧ Tur (· = q) W w') ∨
  (∃ g code pl, e = .returned (.tuple #[.int .u64 0, .int .i64 (first : Int)]) ∧ Blk w' q 219 (RdC v (first : Int) (errV g)) ∧ Blk w' g 111 #[.int .i64 code, .int .i64 pl] ∧ Tur (· = q) W w')

set_option maxHeartbeats 2000000 in
set_option maxRecDepth 100000 in
theorem r_sevens (q : Nat) (A : Option Addr) (n c : Nat) (xs : List Int) (first most last : Nat) (W : World) (h : Blk W q 219 (RdC (.slice A n c) (first : Int) .nilIface)) (hl : xs.length = n) (hx : CellsAt W A (bvs xs)) (hq : ∀ ad, A = some ad → ad.block ≠ q)
    (hw : ∀ x ∈ xs, (Lit.int .u8 x).wf = true) (hf : first ≤ n) (hn : n ≤ 211106232532992) (hm : 1 ≤ most ∧ most ≤ 10) (hla : last ≤ 127) (hml : most = 10 → last = 1) :
    Calls Tryz.prog 142 #[.pointer (some ⟨q, 0, none⟩), .int .i64 (most : Int), .int .u8 (last : Int)] W (SevPost W q (.slice A n c) xs first most) := by
  have H := Lib.hid h
  have HL := Lib.hid hl
  have HX := Lib.hid hx
  have HQ := Lib.hid hq
  have HW := Lib.hid hw
  have HN := Lib.hid hn
  have p1 : W.cell? ⟨q, 1, none⟩ = some (.int .i64 (first : Int)) := h.cell 1
  have hm1 := hm.1
  have hm2 := hm.2
  have hfn : (first : Int) ≤ 211106232532992 := by omega
  clear h hl hx hq hw hn hm
  go_enter Tryz.func142, Tryz.ntmps142
  go_wp2_with fail
  go_at_call 116; (with_reducible refine (r_broken_no q _ _ _ H.out).mono ?_); rintro e w1 ⟨rfl, hb⟩
  have K := Lib.hid (H.out.kept hb)
  have B := Lib.hid hb
  have HX1 := Lib.hid (HX.out.below hb)
  have p0 : w1.cell? ⟨q, 0, none⟩ = some (.slice A n c) := K.out.cell 0
  clear hb p1
  go_wp2
  go_loop [6, 7, 18] (fun t6 t7 t18 => ∃ i N : Nat, i ≤ most ∧ t6 = .int .u64 (N : Int) ∧ t7 = .int .i64 (first : Int) ∧ t18 = .int .i64 (i : Int) ∧ Hid (SevPre xs first i N)) (fun _ _ t18 => most - (intOf t18).toNat)
  case atStart => exact ⟨0, 0, Nat.zero_le _, rfl, rfl, rfl, Lib.hid (SevPre.start xs first (by rw [HL.out]; exact hf))⟩
  case round =>
    obtain ⟨i, N, hi, rfl, rfl, rfl, HP⟩ := hrel
    by_cases him : i < most
    · by_cases hend : first + i = n
      · have hfe : ((first : Int) + (i : Int) == (n : Int)) = true := by simp; omega
        go_wp2_with fail
        go_at_call 73; (with_reducible refine (r_fail_set q _ _ 11 (n : Int) _ (by decide) K.out).mono ?_); rintro e w2 ⟨rfl, g, hk, hg, ht⟩
        have HH := Lib.hid (show Blk w2 q 219 (RdC _ (first : Int) (errV g)) ∧ Blk w2 g 111 #[.int .i64 11, .int .i64 (n : Int)] ∧ Tur (· = q) W w2 from ⟨hk, hg, (Tur.of_below (S := (· = q)) B.out).trans ht (fun _ h => .inl h)⟩)
        clear hk hg ht
        go_wp2
        go_ret2
        exact .inr ⟨g, 11, _, rfl, HH.out⟩
      · have hlt : first + i < n := by have := HP.out.2.1; rw [HL.out] at this; omega
        have hfe : ((first : Int) + (i : Int) == (n : Int)) = false := by simp; omega
        have hltx : first + i < xs.length := by rw [HL.out]; exact hlt
        obtain ⟨ad, rfl, hal, hcell⟩ := HX1.out (first + i) (by rw [bvs_len]; exact hltx)
        obtain ⟨cc, hcc, hc256⟩ : ∃ cc : Nat, xs[first + i] = (cc : Int) ∧ cc < 256 := by
          have hb := bounds_u8 (HW.out xs[first + i] (List.getElem_mem _))
          exact ⟨xs[first + i].toNat, by omega, by omega⟩
        have hcr : w1.cell? (ad.add (first + i)) = some (.int .u8 (cc : Int)) := by rw [hcell]; simp [bvs, hcc]
        have ha := and127 cc hc256
        have HCC := Lib.hid hcc
        have q1 : w1.cell? ⟨q, 1, none⟩ = some (.int .i64 (first : Int)) := K.out.cell 1
        have qf : w1.frozen? ⟨q, 1, none⟩ = false := K.out.frozen 1
        clear hcell hcc hal
        by_cases hbad : 0 < i ∧ cc = 0
        · obtain ⟨hi0, rfl⟩ := hbad
          have z1 : decide ((last : Int) < 0) = false := by simp
          by_cases he : i = most - 1
          · have e1 : ((i : Int) == (most : Int) - 1) = true := by simp; omega
            clear he
            go_wp2_with fail
            go_at_call 73; (with_reducible refine (r_fail_set q _ _ 12 (first : Int) _ (by decide) K.out).mono ?_); rintro e w2 ⟨rfl, g, hk, hg, ht⟩
            have HH := Lib.hid (show Blk w2 q 219 (RdC _ (first : Int) (errV g)) ∧ Blk w2 g 111 #[.int .i64 12, .int .i64 (first : Int)] ∧ Tur (· = q) W w2 from ⟨hk, hg, (Tur.of_below (S := (· = q)) B.out).trans ht (fun _ h => .inl h)⟩)
            clear hk hg ht
            go_wp2
            go_ret2
            exact .inr ⟨g, 12, _, rfl, HH.out⟩
          · have e1 : ((i : Int) == (most : Int) - 1) = false := by simp; omega
            clear he
            go_wp2_with fail
            go_at_call 73; (with_reducible refine (r_fail_set q _ _ 12 (first : Int) _ (by decide) K.out).mono ?_); rintro e w2 ⟨rfl, g, hk, hg, ht⟩
            have HH := Lib.hid (show Blk w2 q 219 (RdC _ (first : Int) (errV g)) ∧ Blk w2 g 111 #[.int .i64 12, .int .i64 (first : Int)] ∧ Tur (· = q) W w2 from ⟨hk, hg, (Tur.of_below (S := (· = q)) B.out).trans ht (fun _ h => .inl h)⟩)
            clear hk hg ht
            go_wp2
            go_ret2
            exact .inr ⟨g, 12, _, rfl, HH.out⟩
        · have HNB := Lib.hid (show i = 0 ∨ 0 < cc by omega)
          by_cases he : i = most - 1
          · have e1 : ((i : Int) == (most : Int) - 1) = true := by simp; omega
            by_cases hl : last < cc
            · have z1 : decide ((last : Int) < (cc : Int)) = true := by simp; omega
              clear he hbad
              go_wp2_with fail
              go_at_call 73; (with_reducible refine (r_fail_set q _ _ 12 (first : Int) _ (by decide) K.out).mono ?_); rintro e w2 ⟨rfl, g, hk, hg, ht⟩
              have HH := Lib.hid (show Blk w2 q 219 (RdC _ (first : Int) (errV g)) ∧ Blk w2 g 111 #[.int .i64 12, .int .i64 (first : Int)] ∧ Tur (· = q) W w2 from ⟨hk, hg, (Tur.of_below (S := (· = q)) B.out).trans ht (fun _ h => .inl h)⟩)
              clear hk hg ht
              go_wp2
              go_ret2
              exact .inr ⟨g, 12, _, rfl, HH.out⟩
            · have z1 : decide ((last : Int) < (cc : Int)) = false := by simp; omega
              have hc1 : cc < 128 := by omega
              obtain ⟨M, hor, hM⟩ := good_last HP.out hltx HCC.out hc1 HNB.out him hm2 hml (fun _ => by omega)
              have HM := Lib.hid hM
              have h7 : decide ((cc : Int) < 128) = true := by simp; omega
              clear hM he
              by_cases hi0 : 0 < i
              · have z0 : ((cc : Int) == 0) = false := by simp; omega
                clear hbad
                go_wp2
                go_ret2
                exact .inl ⟨M, first + i + 1, rfl, by omega, by omega, by omega, by rw [show first + i + 1 - first = i + 1 by omega]; exact HM.out.1, by rw [show first + i + 1 - first = i + 1 by omega]; exact HM.out.2.1, HM.out.2.2, by rw [show ((first + i + 1 : Nat) : Int) = (first : Int) + (i : Int) + 1 by omega]; exact K.out.set_ 1 _, Tur.setCell (S := (· = q)) (p := ⟨q, 1, none⟩) (Tur.of_below B.out) (.inl rfl) _⟩
              · have hi1 : i = 0 := by omega
                have HI := Lib.hid hi1
                have hi2 : decide ((0 : Int) < (i : Int)) = false := by simp; omega
                clear hbad hi1
                go_wp2
                go_ret2
                exact .inl ⟨M, first + i + 1, rfl, by omega, by omega, by omega, by rw [show first + i + 1 - first = i + 1 by omega]; exact HM.out.1, by rw [show first + i + 1 - first = i + 1 by omega]; exact HM.out.2.1, HM.out.2.2, by rw [show ((first + i + 1 : Nat) : Int) = (first : Int) + (i : Int) + 1 by omega]; exact K.out.set_ 1 _, Tur.setCell (S := (· = q)) (p := ⟨q, 1, none⟩) (Tur.of_below B.out) (.inl rfl) _⟩
          · have e1 : ((i : Int) == (most : Int) - 1) = false := by simp; omega
            by_cases hc1 : cc < 128
            · obtain ⟨M, hor, hM⟩ := good_last HP.out hltx HCC.out hc1 HNB.out him hm2 hml (fun h => absurd h he)
              have HM := Lib.hid hM
              have h7 : decide ((cc : Int) < 128) = true := by simp; omega
              clear hM he
              by_cases hi0 : 0 < i
              · have z0 : ((cc : Int) == 0) = false := by simp; omega
                clear hbad
                go_wp2
                go_ret2
                exact .inl ⟨M, first + i + 1, rfl, by omega, by omega, by omega, by rw [show first + i + 1 - first = i + 1 by omega]; exact HM.out.1, by rw [show first + i + 1 - first = i + 1 by omega]; exact HM.out.2.1, HM.out.2.2, by rw [show ((first + i + 1 : Nat) : Int) = (first : Int) + (i : Int) + 1 by omega]; exact K.out.set_ 1 _, Tur.setCell (S := (· = q)) (p := ⟨q, 1, none⟩) (Tur.of_below B.out) (.inl rfl) _⟩
              · have hi1 : i = 0 := by omega
                have HI := Lib.hid hi1
                have hi2 : decide ((0 : Int) < (i : Int)) = false := by simp; omega
                clear hbad hi1
                go_wp2
                go_ret2
                exact .inl ⟨M, first + i + 1, rfl, by omega, by omega, by omega, by rw [show first + i + 1 - first = i + 1 by omega]; exact HM.out.1, by rw [show first + i + 1 - first = i + 1 by omega]; exact HM.out.2.1, HM.out.2.2, by rw [show ((first + i + 1 : Nat) : Int) = (first : Int) + (i : Int) + 1 by omega]; exact K.out.set_ 1 _, Tur.setCell (S := (· = q)) (p := ⟨q, 1, none⟩) (Tur.of_below B.out) (.inl rfl) _⟩
            · obtain ⟨M, hor, hM⟩ := good_next HP.out hltx HCC.out (by omega) hc256 (by omega)
              have HM := Lib.hid hM
              have h7 : decide ((cc : Int) < 128) = false := by simp; omega
              have z0 : ((cc : Int) == 0) = false := by simp; omega
              clear hM he
              go_wp2
              all_goals
                go_round
                case rel => exact ⟨i + 1, M, by omega, rfl, rfl, by go_num, HM⟩
                case measure => simp [intOf]; omega
    · go_wp2_with fail
      go_at_call 73; (with_reducible refine (r_fail_set q _ _ 12 (first : Int) _ (by decide) K.out).mono ?_); rintro e w2 ⟨rfl, g, hk, hg, ht⟩
      have HH := Lib.hid (show Blk w2 q 219 (RdC _ (first : Int) (errV g)) ∧ Blk w2 g 111 #[.int .i64 12, .int .i64 (first : Int)] ∧ Tur (· = q) W w2 from ⟨hk, hg, (Tur.of_below (S := (· = q)) B.out).trans ht (fun _ h => .inl h)⟩)
      clear hk hg ht
      go_wp2
      go_ret2
      exact .inr ⟨g, 12, _, rfl, HH.out⟩
end Go.Proofs.YtglbdbghcdoicaaGreatDoor

namespace Go.Proofs.YtglbdbghcdoicaaGreatDoor
open Go.RowKit

theorem hT_tur {W W' : World} {q : Nat} (h : W.cell? ⟨0, 0, none⟩ = some tyErr) (ht : Tur (· = q) W W') (hq : 0 < q) : W'.cell? ⟨0, 0, none⟩ = some tyErr := by
  have hb := ht.block 0 (World.block_lt_of_cell? W _ h) (by omega)
  rw [← h]
  simp only [World.cell?, hb]

theorem cell_drewN {W : World} {a : Addr} {v : Value} (h : W.cell? a = some v) (n : Nat) : (W.drewN n).cell? a = some v := h

def NumPost (W : World) (q : Nat) (v : Value) (xs : List Int) (first : Nat) (f : Nat → Value) (bd : Nat) (e : Ending) (w' : World) : Prop :=
  (∃ n k : Nat, e = .returned (f n) ∧ first < k ∧ k ≤ xs.length ∧ sev n = (xs.drop first).take (k - first) ∧ n < bd ∧ Blk w' q 219 (RdC v (k : Int) .nilIface) ∧ Tur (· = q) W w') ∨
  (∃ g code pl, e = .returned (.int .i64 0) ∧ Blk w' q 219 (RdC v (first : Int) (errV g)) ∧ Blk w' g 111 #[.int .i64 code, .int .i64 pl] ∧ Tur (· = q) W w')

set_option maxHeartbeats 1000000 in
set_option maxRecDepth 100000 in
theorem r_num_max (q : Nat) (A : Option Addr) (n c : Nat) (xs : List Int) (first : Nat) (W : World) (hT : W.cell? ⟨0, 0, none⟩ = some tyErr) (hq0 : 0 < q) (h : Blk W q 219 (RdC (.slice A n c) (first : Int) .nilIface)) (hl : xs.length = n) (hx : CellsAt W A (bvs xs)) (hq : ∀ ad, A = some ad → ad.block ≠ q)
    (hw : ∀ x ∈ xs, (Lit.int .u8 x).wf = true) (hf : first ≤ n) (hn : n ≤ 211106232532992) :
    Calls Tryz.prog 109 #[.pointer (some ⟨q, 0, none⟩), .int .i64 9223372036854775807] W (NumPost W q (.slice A n c) xs first (fun m => .int .i64 (m : Int)) 9223372036854775808) := by
  have C := Lib.hid (show Calls Tryz.prog 142 #[.pointer (some ⟨q, 0, none⟩), .int .i64 9, .int .u8 127] W _ from r_sevens q A n c xs first 9 127 W h hl hx hq hw hf hn ⟨by omega, by omega⟩ (by omega) (by omega))
  have HT := Lib.hid hT
  clear h hl hx hq hw hf hn hT
  go_enter Tryz.func109, Tryz.ntmps109
  go_wp2_with fail
  go_at_call 142; (with_reducible refine C.out.mono ?_); intro e w1 hp
  rcases hp with ⟨m, k, rfl, h1, h2, h3, h4, h5, h6, h7, h8⟩ | ⟨g, code, pl, rfl, h1, h2, h3⟩
  · have K := Lib.hid h7
    have T := Lib.hid h8
    have hm : m < 9223372036854775808 := by
      have := Nat.pow_le_pow_right (show 0 < 128 by omega) (show k - first ≤ 9 by omega)
      omega
    have HH := Lib.hid (show first < k ∧ k ≤ xs.length ∧ sev m = (xs.drop first).take (k - first) ∧ m < 9223372036854775808 from ⟨h1, h2, h4, hm⟩)
    have hm2 : (m : Int) ≤ 9223372036854775807 := by omega
    have hd : decide ((9223372036854775807 : Int) < (m : Int)) = false := by simp; omega
    clear h1 h2 h3 h4 h5 h6 h7 h8 hm
    go_wp2_with fail
    go_at_call 116; (with_reducible refine (r_broken_no q _ _ _ K.out).mono ?_); rintro e w2 ⟨rfl, hb⟩
    have K2 := Lib.hid (K.out.kept hb)
    have T2 := Lib.hid (T.out.trans (Tur.of_below (S := fun _ => False) hb) (fun _ h => h.elim))
    clear hb
    go_wp2
    go_ret
    exact .inl ⟨m, k, rfl, HH.out.1, HH.out.2.1, HH.out.2.2.1, HH.out.2.2.2, K2.out, T2.out⟩
  · have K := Lib.hid h1
    have G := Lib.hid h2
    have T := Lib.hid h3
    clear h1 h2 h3
    go_wp2_with fail
    go_at_call 116; (with_reducible refine (r_broken_yes q g _ _ _ (hT_tur HT.out T.out hq0) K.out).mono ?_); rintro e w2 ⟨rfl, hb⟩
    have K2 := Lib.hid (K.out.kept hb)
    have G2 := Lib.hid (G.out.kept hb)
    have T2 := Lib.hid (T.out.trans (Tur.of_below (S := fun _ => False) hb) (fun _ h => h.elim))
    clear hb
    go_wp2
    go_ret
    exact .inr ⟨g, code, pl, rfl, K2.out, G2.out, T2.out⟩

/-- What Int tells of a number. -/
def unzz (m : Nat) : Int := if m % 2 = 1 then -1 - (m : Int) / 2 else (m : Int) / 2
theorem zz_unzz (m : Nat) : zz (unzz m) = m := by
  unfold zz unzz
  by_cases h : m % 2 = 1
  · rw [if_pos h, if_pos (by omega)]; omega
  · rw [if_neg h, if_neg (by omega)]; omega
theorem unzz_bd (m : Nat) (h : m < 18446744073709551616) : -9223372036854775808 ≤ unzz m ∧ unzz m ≤ 9223372036854775807 := by
  unfold unzz
  split <;> omega
theorem and1 (m : Nat) (h : m < 18446744073709551616) : bits .and .u64 (m : Int) 1 = ((m % 2 : Nat) : Int) := by
  have := u64_and_nat m 1 h (by omega)
  rw [Nat.and_one_is_mod] at this
  exact this

set_option maxHeartbeats 1000000 in
set_option maxRecDepth 100000 in
theorem r_int (q : Nat) (A : Option Addr) (n c : Nat) (xs : List Int) (first : Nat) (W : World) (hT : W.cell? ⟨0, 0, none⟩ = some tyErr) (hq0 : 0 < q) (h : Blk W q 219 (RdC (.slice A n c) (first : Int) .nilIface)) (hl : xs.length = n) (hx : CellsAt W A (bvs xs)) (hq : ∀ ad, A = some ad → ad.block ≠ q)
    (hw : ∀ x ∈ xs, (Lit.int .u8 x).wf = true) (hf : first ≤ n) (hn : n ≤ 211106232532992) :
    Calls Tryz.prog 151 #[.pointer (some ⟨q, 0, none⟩)] W (NumPost W q (.slice A n c) xs first (fun m => .int .i64 (unzz m)) 18446744073709551616) := by
  have C := Lib.hid (show Calls Tryz.prog 142 #[.pointer (some ⟨q, 0, none⟩), .int .i64 10, .int .u8 1] W _ from r_sevens q A n c xs first 10 1 W h hl hx hq hw hf hn ⟨by omega, by omega⟩ (by omega) (fun _ => rfl))
  have HT := Lib.hid hT
  clear h hl hx hq hw hf hn hT
  go_enter Tryz.func151, Tryz.ntmps151
  go_wp2_with fail
  go_at_call 142; (with_reducible refine C.out.mono ?_); intro e w1 hp
  rcases hp with ⟨m, k, rfl, h1, h2, h3, h4, h5, h6, h7, h8⟩ | ⟨g, code, pl, rfl, h1, h2, h3⟩
  · have HH := Lib.hid (show first < k ∧ k ≤ xs.length ∧ sev m = (xs.drop first).take (k - first) ∧ m < 18446744073709551616 from ⟨h1, h2, h4, h6⟩)
    have K := Lib.hid h7
    have T := Lib.hid h8
    have ha := and1 m h6
    have hx : bits .xor .i64 (-1) ((m : Int) / 2) = -1 - (m : Int) / 2 := by have := i64_not (m / 2) (by omega); simpa using this
    have hm2 : (m : Int) / 2 ≤ 9223372036854775807 := by omega
    clear h1 h2 h3 h4 h5 h6 h7 h8
    go_wp2_with fail
    go_at_call 116; (with_reducible refine (r_broken_no q _ _ _ K.out).mono ?_); rintro e w2 ⟨rfl, hb⟩
    have K2 := Lib.hid (K.out.kept hb)
    have T2 := Lib.hid (T.out.trans (Tur.of_below (S := fun _ => False) hb) (fun _ h => h.elim))
    clear hb
    rcases Nat.mod_two_eq_zero_or_one m with hp | hp
    · rw [hp] at ha
      have HU := Lib.hid (show unzz m = (m : Int) / 2 by unfold unzz; rw [if_neg (by omega)])
      clear hp
      go_wp2
      go_ret
      exact .inl ⟨m, k, by show _ = Ending.returned (Value.int .i64 (unzz m)); rw [HU.out]; rfl, HH.out.1, HH.out.2.1, HH.out.2.2.1, HH.out.2.2.2, K2.out, T2.out⟩
    · rw [hp] at ha
      have HU := Lib.hid (show unzz m = -1 - (m : Int) / 2 by unfold unzz; rw [if_pos hp])
      clear hp
      go_wp2
      go_ret
      exact .inl ⟨m, k, by show _ = Ending.returned (Value.int .i64 (unzz m)); rw [HU.out]; rfl, HH.out.1, HH.out.2.1, HH.out.2.2.1, HH.out.2.2.2, K2.out, T2.out⟩
  · have K := Lib.hid h1
    have G := Lib.hid h2
    have T := Lib.hid h3
    clear h1 h2 h3
    go_wp2_with fail
    go_at_call 116; (with_reducible refine (r_broken_yes q g _ _ _ (hT_tur HT.out T.out hq0) K.out).mono ?_); rintro e w2 ⟨rfl, hb⟩
    have K2 := Lib.hid (K.out.kept hb)
    have G2 := Lib.hid (G.out.kept hb)
    have T2 := Lib.hid (T.out.trans (Tur.of_below (S := fun _ => False) hb) (fun _ h => h.elim))
    clear hb
    go_wp2
    go_ret
    exact .inr ⟨g, code, pl, rfl, K2.out, G2.out, T2.out⟩

set_option maxRecDepth 100000 in
theorem r_end_eq (q : Nat) (A : Option Addr) (n c : Nat) (W : World) (h : Blk W q 219 (RdC (.slice A n c) (n : Int) .nilIface)) :
    Calls Tryz.prog 75 #[.pointer (some ⟨q, 0, none⟩)] W fun e w' => e = .returned (.tuple #[]) ∧ Below W.heap.size W w' := by
  have p0 : W.cell? ⟨q, 0, none⟩ = some (.slice A n c) := h.cell 0
  have p1 : W.cell? ⟨q, 1, none⟩ = some (.int .i64 (n : Int)) := h.cell 1
  clear h
  go_enter Tryz.func75, Tryz.ntmps75
  go_wp2
  go_quiet (fail)
  go_wp2
  go_end0
  exact ⟨rfl, below_drewN (Below.refl _ _) _⟩
set_option maxRecDepth 100000 in
theorem r_end_lt (q : Nat) (A : Option Addr) (n c k : Nat) (hk : k < n) (W : World) (h : Blk W q 219 (RdC (.slice A n c) (k : Int) .nilIface)) :
    Calls Tryz.prog 75 #[.pointer (some ⟨q, 0, none⟩)] W fun e w' => e = .returned (.tuple #[]) ∧ ∃ g, Blk w' q 219 (RdC (.slice A n c) (k : Int) (errV g)) ∧ Blk w' g 111 #[.int .i64 13, .int .i64 (k : Int)] ∧ Tur (· = q) W w' := by
  have p0 : W.cell? ⟨q, 0, none⟩ = some (.slice A n c) := h.cell 0
  have p1 : W.cell? ⟨q, 1, none⟩ = some (.int .i64 (k : Int)) := h.cell 1
  have H := Lib.hid h
  have hd : decide (k < n) = true := by simpa using hk
  clear h
  go_enter Tryz.func75, Tryz.ntmps75
  go_wp2
  go_quiet (fail)
  go_wp2_with fail
  go_at_call 73; (with_reducible refine (r_fail_set q _ _ 13 (k : Int) _ (by decide) (H.out.drewN _)).mono ?_); rintro e w2 ⟨rfl, g, hk, hg, ht⟩
  go_wp2
  go_end0
  exact ⟨rfl, g, hk, hg, (Tur.of_below (S := (· = q)) (below_drewN (Below.refl _ _) _)).trans ht (fun _ h => .inl h)⟩
set_option maxRecDepth 100000 in
theorem r_end_fault (q g : Nat) (A : Option Addr) (n c k : Nat) (W : World) (hT : W.cell? ⟨0, 0, none⟩ = some tyErr) (h : Blk W q 219 (RdC (.slice A n c) (k : Int) (errV g))) :
    Calls Tryz.prog 75 #[.pointer (some ⟨q, 0, none⟩)] W fun e w' => e = .returned (.tuple #[]) ∧ Below W.heap.size W w' := by
  have p0 : W.cell? ⟨q, 0, none⟩ = some (.slice A n c) := h.cell 0
  have p1 : W.cell? ⟨q, 1, none⟩ = some (.int .i64 (k : Int)) := h.cell 1
  have H := Lib.hid h
  have HT := Lib.hid hT
  clear h hT
  by_cases hk : k < n
  · have hd : decide (k < n) = true := by simpa using hk
    go_enter Tryz.func75, Tryz.ntmps75
    go_wp2
    go_quiet (fail)
    go_wp2_with fail
    go_at_call 73; (with_reducible refine (r_fail_keep q g _ _ 13 (k : Int) _ (cell_drewN HT.out _) (H.out.drewN _)).mono ?_); rintro e w2 ⟨rfl, hb⟩
    go_wp2
    go_end0
    exact ⟨rfl, (below_drewN (Below.refl _ _) _).trans (hb.mono (by simp))⟩
  · have hd : decide (k < n) = false := by simpa using hk
    go_enter Tryz.func75, Tryz.ntmps75
    go_wp2
    go_quiet (fail)
    go_wp2
    go_end0
    exact ⟨rfl, below_drewN (Below.refl _ _) _⟩
end Go.Proofs.YtglbdbghcdoicaaGreatDoor
