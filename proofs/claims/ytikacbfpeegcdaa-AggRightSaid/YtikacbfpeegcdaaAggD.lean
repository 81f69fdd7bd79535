/- The reference's numbers of 128 bits with a sign: walks. -/
import Derived.Test.YtikacbfpeegcdaaAggC
namespace Go.Proofs.Ytikacbfpeegcdaa
open Go.RowKit Go.Shelf

/-- A size, and its two halves. -/
def sz (x : Int) : Int := (x.natAbs : Int)
def hiR (x : Int) : Int := hiW (sz x)
def loR (x : Int) : Int := loW (sz x)
def neR (x : Int) : Bool := decide (x < 0)
abbrev wideR (x : Int) : Value := .agg #[.bool (neR x), .int .u64 (hiR x), .int .u64 (loR x)]

theorem size_any (a : Int) (ha : I64 a) (w : World) :
    Calls Try.prog 52 #[.int .i64 a] w fun e w' => e = .returned (.int .u64 (sz a)) ∧ w = w' := by
  by_cases hc : a < 0
  · have e1 : IntKind.u64.wrap (- IntKind.u64.wrap a) = sz a := by rw [IntKind.wrap_u64, IntKind.wrap_u64]; obtain ⟨_, _⟩ := ha; unfold sz; omega
    have E1 := Lib.hid e1; clear e1
    go_enter Try.func52, Try.ntmps52
    go_wp2
    rw [E1.out]
    go_ret
    exact ⟨rfl, rfl⟩
  · have e1 : sz a = a := by unfold sz; omega
    rw [e1]
    obtain ⟨_, _⟩ := ha
    clear e1
    go_enter Try.func52, Try.ntmps52
    go_wp2
    go_ret
    exact ⟨rfl, rfl⟩

theorem mask32 (x : Int) (h : U64 x) : bits .and .u64 x 4294967295 = x % 4294967296 := by
  obtain ⟨n, rfl⟩ := Int.eq_ofNat_of_zero_le h.1
  have h2 := h.2
  have h1 := u64_and_nat n 4294967295 (by omega) (by omega)
  have h3 : n &&& 4294967295 = n % 4294967296 := Nat.and_two_pow_sub_one_eq_mod n 32
  rw [h3] at h1
  rw [show ((4294967295 : Int)) = ((4294967295 : Nat) : Int) from rfl, h1]
  omega

/-- A product of two words, by halves. -/
theorem times_math (X Y : Int) (x0 : 0 ≤ X) (x1 : X ≤ 9223372036854775808) (y0 : 0 ≤ Y) (y1 : Y ≤ 9223372036854775808) :
    ∃ X1 X0 Y1 Y0 L P10 L1 P01 R M1 P11 R1 LO : Int,
      X / 4294967296 = X1 ∧ bits .and .u64 X 4294967295 = X0 ∧ Y / 4294967296 = Y1 ∧ bits .and .u64 Y 4294967295 = Y0 ∧
      IntKind.u64.wrap (X0 * Y0) = L ∧ IntKind.u64.wrap (X1 * Y0) = P10 ∧ L / 4294967296 = L1 ∧ IntKind.u64.wrap (X0 * Y1) = P01 ∧
      bits .and .u64 (P10 + L1) 4294967295 = R ∧ (P10 + L1) / 4294967296 = M1 ∧ IntKind.u64.wrap (X1 * Y1) = P11 ∧ (P01 + R) / 4294967296 = R1 ∧ IntKind.u64.wrap (X * Y) = LO ∧
      (0 ≤ P10 ∧ P10 ≤ 9223372036854775808) ∧ (0 ≤ L1 ∧ L1 ≤ 4294967295) ∧ (0 ≤ P01 ∧ P01 ≤ 9223372036854775808) ∧ (0 ≤ R ∧ R ≤ 4294967295) ∧ (0 ≤ M1 ∧ M1 ≤ 4294967295) ∧ (0 ≤ P11 ∧ P11 ≤ 4611686018427387904) ∧ (0 ≤ R1 ∧ R1 ≤ 4294967295) ∧
      P11 + M1 + R1 = hiW (X * Y) ∧ LO = loW (X * Y) := by
  obtain ⟨X1, X0, hX, a1, a2, a3, a4⟩ : ∃ X1 X0 : Int, X = X1 * 4294967296 + X0 ∧ 0 ≤ X1 ∧ X1 ≤ 2147483648 ∧ 0 ≤ X0 ∧ X0 ≤ 4294967295 := ⟨X / 4294967296, X % 4294967296, by omega, by omega, by omega, by omega, by omega⟩
  obtain ⟨Y1, Y0, hY, b1, b2, b3, b4⟩ : ∃ Y1 Y0 : Int, Y = Y1 * 4294967296 + Y0 ∧ 0 ≤ Y1 ∧ Y1 ≤ 2147483648 ∧ 0 ≤ Y0 ∧ Y0 ≤ 4294967295 := ⟨Y / 4294967296, Y % 4294967296, by omega, by omega, by omega, by omega, by omega⟩
  have hXY : X * Y = X1 * Y1 * 18446744073709551616 + (X1 * Y0 + X0 * Y1) * 4294967296 + X0 * Y0 := by
    rw [hX, hY]
    simp only [Int.add_mul, Int.mul_add]
    have e1 : X1 * 4294967296 * (Y1 * 4294967296) = X1 * Y1 * 18446744073709551616 := by rw [Int.mul_assoc, ← Int.mul_assoc 4294967296, Int.mul_comm 4294967296 Y1, Int.mul_assoc Y1, ← Int.mul_assoc X1]; rfl
    have e2 : X1 * 4294967296 * Y0 = X1 * Y0 * 4294967296 := by rw [Int.mul_assoc, Int.mul_comm 4294967296, ← Int.mul_assoc]
    have e3 : X0 * (Y1 * 4294967296) = X0 * Y1 * 4294967296 := by rw [← Int.mul_assoc]
    rw [e1, e2, e3]
    omega
  have p00 : 0 ≤ X0 * Y0 := Int.mul_nonneg a3 b3
  have q00 : X0 * Y0 ≤ 4294967295 * 4294967295 := Int.mul_le_mul a4 b4 b3 (by omega)
  have p10 : 0 ≤ X1 * Y0 := Int.mul_nonneg a1 b3
  have q10 : X1 * Y0 ≤ 2147483648 * 4294967295 := Int.mul_le_mul a2 b4 b3 (by omega)
  have p01 : 0 ≤ X0 * Y1 := Int.mul_nonneg a3 b1
  have q01 : X0 * Y1 ≤ 4294967295 * 2147483648 := Int.mul_le_mul a4 b2 b1 (by omega)
  have p11 : 0 ≤ X1 * Y1 := Int.mul_nonneg a1 b1
  have q11 : X1 * Y1 ≤ 2147483648 * 2147483648 := Int.mul_le_mul a2 b2 b1 (by omega)
  refine ⟨X1, X0, Y1, Y0, X0 * Y0, X1 * Y0, X0 * Y0 / 4294967296, X0 * Y1, (X1 * Y0 + X0 * Y0 / 4294967296) % 4294967296, (X1 * Y0 + X0 * Y0 / 4294967296) / 4294967296, X1 * Y1,
    (X0 * Y1 + (X1 * Y0 + X0 * Y0 / 4294967296) % 4294967296) / 4294967296, loW (X * Y), by omega, ?_, by omega, ?_, ?_, ?_, rfl, ?_, ?_, rfl, ?_, rfl, ?_, ⟨by omega, by omega⟩, ⟨by omega, by omega⟩, ⟨by omega, by omega⟩, ⟨by omega, by omega⟩, ⟨by omega, by omega⟩, ⟨by omega, by omega⟩, ⟨by omega, by omega⟩, ?_, rfl⟩
  · rw [mask32 X ⟨x0, by omega⟩]; omega
  · rw [mask32 Y ⟨y0, by omega⟩]; omega
  · rw [IntKind.wrap_u64]; omega
  · rw [IntKind.wrap_u64]; omega
  · rw [IntKind.wrap_u64]; omega
  · exact mask32 _ ⟨by omega, by omega⟩
  · rw [IntKind.wrap_u64]; omega
  · rw [IntKind.wrap_u64]; unfold loW; omega
  · rw [hXY]; unfold hiW; omega

theorem sz_mul (a b : Int) : sz (a * b) = sz a * sz b := by unfold sz; rw [Int.natAbs_mul, Int.natCast_mul]
theorem neR_mul (a b : Int) : neR (a * b) = ((neR a != neR b) && !(decide (sz (a * b) = 0))) := by
  unfold neR sz
  rcases Int.lt_trichotomy a 0 with h | h | h <;> rcases Int.lt_trichotomy b 0 with h' | h' | h'
  · have := Int.mul_pos_of_neg_of_neg h h'
    simp [h, h', Int.not_lt.2 (Int.le_of_lt this)]
  · subst h'; simp
  · have := Int.mul_neg_of_neg_of_pos h h'
    simp [h, this, Int.not_lt.2 (Int.le_of_lt h')]; omega
  · subst h; simp
  · subst h; simp
  · subst h; simp
  · have := Int.mul_neg_of_pos_of_neg h h'
    simp [h', this, Int.not_lt.2 (Int.le_of_lt h)]; omega
  · subst h'; simp
  · have := Int.mul_pos h h'
    simp [Int.not_lt.2 (Int.le_of_lt h), Int.not_lt.2 (Int.le_of_lt h'), Int.not_lt.2 (Int.le_of_lt this)]

set_option maxHeartbeats 2000000 in
theorem times_any (a b : Int) (ha : I64 a) (hb : I64 b) (w : World) :
    Calls Try.prog 36 #[.int .i64 a, .int .i64 b] w fun e w' => e = .returned (wideR (a * b)) ∧ Below w.heap.size w w' := by
  obtain ⟨X, hX⟩ : ∃ X, X = sz a := ⟨_, rfl⟩
  obtain ⟨Y, hY⟩ : ∃ Y, Y = sz b := ⟨_, rfl⟩
  have x0 : 0 ≤ X := by unfold sz at hX; omega
  have x1 : X ≤ 9223372036854775808 := by obtain ⟨_, _⟩ := ha; unfold sz at hX; omega
  have y0 : 0 ≤ Y := by unfold sz at hY; omega
  have y1 : Y ≤ 9223372036854775808 := by obtain ⟨_, _⟩ := hb; unfold sz at hY; omega
  have C1 := Lib.hid (fun W => hX ▸ size_any a ha W)
  have C2 := Lib.hid (fun W => hY ▸ size_any b hb W)
  obtain ⟨X1, X0, Y1, Y0, L, P10, L1, P01, R, M1, P11, R1, LO, e1, e2, e3, e4, e5, e6, e7, e8, e9, e10, e11, e12, e13, ⟨f1, f2⟩, ⟨f3, f4⟩, ⟨f5, f6⟩, ⟨f7, f8⟩, ⟨f9, f10⟩, ⟨f11, f12⟩, ⟨f13, f14⟩, hHi, hLo⟩ := times_math X Y x0 x1 y0 y1
  have kH : hiR (a * b) = P11 + M1 + R1 := by unfold hiR; rw [sz_mul, ← hX, ← hY, hHi]
  have kL : loR (a * b) = LO := by unfold loR; rw [sz_mul, ← hX, ← hY, hLo]
  have kN : neR (a * b) = ((neR a != neR b) && !(decide (sz (a * b) = 0))) := neR_mul a b
  have kS : sz (a * b) = hiW (X * Y) * 18446744073709551616 + loW (X * Y) := by rw [sz_mul, ← hX, ← hY, hi_lo]
  rw [← hHi, ← hLo] at kS
  have hLO : 0 ≤ LO := by rw [hLo]; exact (loW_bd _).1
  have KH := Lib.hid kH; have KL := Lib.hid kL; have KN := Lib.hid kN; have KS := Lib.hid kS
  clear kH kL kN kS hHi hLo hX hY
  have NA : neR a = decide (a < 0) := rfl
  have NB : neR b = decide (b < 0) := rfl
  have HA := Lib.hid NA; have HBB := Lib.hid NB; clear NA NB
  go_enter Try.func36, Try.ntmps36
  go_wp2_with fail
  go_at_call 52; refine (C1.out _).mono ?_; rintro e w' ⟨rfl, rfl⟩
  go_wp2_with fail
  go_at_call 52; refine (C2.out _).mono ?_; rintro e w' ⟨rfl, rfl⟩
  go_wp2
  · have h1 : P11 + M1 + R1 = 0 := by assumption
    have h2 : LO = 0 := by simpa using (by assumption : (LO == 0) = true)
    have hs : sz (a * b) = 0 := by rw [KS.out]; omega
    have hN : neR (a * b) = false := by rw [KN.out, hs]; simp
    have hv : wideR (a * b) = .agg #[.bool false, .int .u64 0, .int .u64 LO] := by
      show Value.agg #[.bool (neR (a * b)), .int .u64 (hiR (a * b)), .int .u64 (loR (a * b))] = _
      rw [hN, KH.out, KL.out, h1]
    rw [hv]
    exact bodyPost_ret (v := .agg #[.bool false, .int .u64 0, .int .u64 LO]) (by simp [results, Try.results36, go_sem]) rfl ⟨rfl, ((Below.refl _ _).alloc (Nat.le_refl _) _).alloc (by simp) _⟩
  · have h1 : P11 + M1 + R1 = 0 := by assumption
    have h2 : LO ≠ 0 := by simpa using (by assumption : (LO == 0) = false)
    have hs : sz (a * b) ≠ 0 := by rw [KS.out]; omega
    have hN : neR (a * b) = !(decide (a < 0) == decide (b < 0)) := by rw [KN.out, HA.out, HBB.out]; simp [hs, bne]
    have hv : wideR (a * b) = .agg #[.bool (!(decide (a < 0) == decide (b < 0))), .int .u64 0, .int .u64 LO] := by
      show Value.agg #[.bool (neR (a * b)), .int .u64 (hiR (a * b)), .int .u64 (loR (a * b))] = _
      rw [hN, KH.out, KL.out, h1]
    rw [hv]
    exact bodyPost_ret (v := .agg #[.bool (!(decide (a < 0) == decide (b < 0))), .int .u64 0, .int .u64 LO]) (by simp [results, Try.results36, go_sem]) rfl ⟨rfl, ((Below.refl _ _).alloc (Nat.le_refl _) _).alloc (by simp) _⟩
  · have h1 : ¬ P11 + M1 + R1 = 0 := by assumption
    have hs : sz (a * b) ≠ 0 := by rw [KS.out]; omega
    have hN : neR (a * b) = !(decide (a < 0) == decide (b < 0)) := by rw [KN.out, HA.out, HBB.out]; simp [hs, bne]
    have hv : wideR (a * b) = .agg #[.bool (!(decide (a < 0) == decide (b < 0))), .int .u64 (P11 + M1 + R1), .int .u64 LO] := by
      show Value.agg #[.bool (neR (a * b)), .int .u64 (hiR (a * b)), .int .u64 (loR (a * b))] = _
      rw [hN, KH.out, KL.out]
    rw [hv]
    exact bodyPost_ret (v := .agg #[.bool (!(decide (a < 0) == decide (b < 0))), .int .u64 (P11 + M1 + R1), .int .u64 LO]) (by simp [results, Try.results36, go_sem]) rfl ⟨rfl, ((Below.refl _ _).alloc (Nat.le_refl _) _).alloc (by simp) _⟩

theorem one_any (a : Int) (ha : I64 a) (w : World) :
    Calls Try.prog 35 #[.int .i64 a] w fun e w' => e = .returned (wideR a) ∧ Below w.heap.size w w' := by
  have h := fun W => times_any a 1 ha ⟨by omega, by omega⟩ W
  simp only [Int.mul_one] at h
  have H := Lib.hid h
  clear h
  go_enter Try.func35, Try.ntmps35
  go_wp2_with fail
  go_at_call 36; (with_reducible refine (H.out _).mono ?_); rintro e w' ⟨rfl, hb⟩
  have kb := Blk.made hb
  have c0 : w'.cell? ⟨w.heap.size, 0, none⟩ = some (.bool false) := kb.cell 0
  have c1 : w'.cell? ⟨w.heap.size, 1, none⟩ = some (.int .u64 0) := kb.cell 1
  have c2 : w'.cell? ⟨w.heap.size, 2, none⟩ = some (.int .u64 0) := kb.cell 2
  have fz := fun i => kb.frozen i
  have HB := Lib.hid (((((Below.refl w.heap.size w).alloc (Nat.le_refl _) _).trans (hb.mono (by simp))).setCell (p := ⟨w.heap.size, 0, none⟩) (Nat.le_refl _) (.bool (neR a))).setCell (p := ⟨w.heap.size, 1, none⟩) (Nat.le_refl _) (.int .u64 (hiR a)) |>.setCell (p := ⟨w.heap.size, 2, none⟩) (Nat.le_refl _) (.int .u64 (loR a)))
  clear hb
  go_wp2
  exact bodyPost_ret (v := wideR a) (by simp [results, Try.results35, go_sem, c0, c1, c2]) rfl ⟨rfl, HB.out⟩

theorem above_any (x y : Int) (p q : Bool) (w : World) :
    Calls Try.prog 51 #[.agg #[.bool p, .int .u64 (hiR x), .int .u64 (loR x)], .agg #[.bool q, .int .u64 (hiR y), .int .u64 (loR y)]] w fun e w' =>
      e = .returned (.bool (decide (sz y < sz x))) ∧ Below w.heap.size w w' := by
  have hx : hiR x * 18446744073709551616 + loR x = sz x := hi_lo _
  have hy : hiR y * 18446744073709551616 + loR y = sz y := hi_lo _
  have hlx : 0 ≤ loR x ∧ loR x < 18446744073709551616 := loW_bd _
  have hly : 0 ≤ loR y ∧ loR y < 18446744073709551616 := loW_bd _
  by_cases h1 : hiR y < hiR x
  · have hr : decide (sz y < sz x) = true := by simp; omega
    rw [hr]; clear hr hx hy
    go_enter Try.func51, Try.ntmps51
    go_wp2
    go_ret
    exact ⟨rfl, ((Below.refl _ _).alloc (Nat.le_refl _) _).alloc (by simp) _⟩
  · by_cases h2 : hiR x = hiR y
    · have hr : decide (sz y < sz x) = decide (loR y < loR x) := by simp; omega
      rw [hr]; clear hr hx hy
      rw [h2]
      clear h1 h2
      go_enter Try.func51, Try.ntmps51
      go_wp2
      go_ret
      exact ⟨rfl, ((Below.refl _ _).alloc (Nat.le_refl _) _).alloc (by simp) _⟩
    · have hr : decide (sz y < sz x) = false := by simp; omega
      rw [hr]; clear hr hx hy
      have h3 : (hiR x == hiR y) = false := by simpa using h2
      have h4 : decide (hiR y < hiR x) = false := by simpa using h1
      clear h1 h2
      go_enter Try.func51, Try.ntmps51
      go_wp2
      go_ret
      exact ⟨rfl, ((Below.refl _ _).alloc (Nat.le_refl _) _).alloc (by simp) _⟩
end Go.Proofs.Ytikacbfpeegcdaa
