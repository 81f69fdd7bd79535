/- agg's numbers of 128 bits: walks of product, plus, upto. -/
import Derived.Test.YtikacbfpeegcdaaDoorAggA
namespace Go.Proofs.YtikacbfpeegcdaaDoor
open Go.RowKit Go.Shelf

def mul64_ren : Go.Shelf.Ren := ⟨fun | 264 => 52 | n => n, fun | 53 => 70 | 46 => 101 | n => n, fun | n => n⟩
theorem mul64_lays : Go.Proofs.Lays.n264 Tryd.prog mul64_ren := {
  mixed := by kernel_rfl
  f264 := Tryd.func52.trans (congrArg some (by kernel_rfl))
  t46 := Tryd.underlying101
  a46 := Tryd.isAgg101
  z46 := Tryd.sizeOf101
  v46 := Tryd.zeroValue101
  t53 := Tryd.underlying70
  a53 := Tryd.isAgg70
  z53 := Tryd.sizeOf70
  v53 := Tryd.zeroValue70 }

/-- The two halves of a whole number. -/
def hiW (x : Int) : Int := x / 18446744073709551616
def loW (x : Int) : Int := x % 18446744073709551616
theorem loW_bd (x : Int) : 0 ≤ loW x ∧ loW x < 18446744073709551616 := by unfold loW; omega
theorem hi_lo (x : Int) : hiW x * 18446744073709551616 + loW x = x := by unfold hiW loW; omega

theorem mul64_any (x y : Int) (hx : U64 x) (hy : U64 y) (w : World) :
    Calls Tryd.prog 52 #[.int .u64 x, .int .u64 y] w fun e w' => e = .returned (.tuple #[.int .u64 (hiW (x * y)), .int .u64 (loW (x * y))]) ∧ w = w' := by
  obtain ⟨x, rfl⟩ := Int.eq_ofNat_of_zero_le hx.1
  obtain ⟨y, rfl⟩ := Int.eq_ofNat_of_zero_le hy.1
  have hx2 := hx.2; have hy2 := hy.2
  refine (Any.bits_Mul64 mul64_lays x y (by omega) (by omega) w).mono ?_
  rintro e w' ⟨rfl, rfl⟩
  refine ⟨?_, rfl⟩
  have e1 : ((x * y / 18446744073709551616 : Nat) : Int) = hiW ((x : Int) * (y : Int)) := by unfold hiW; rw [Int.natCast_ediv, Int.natCast_mul]; rfl
  have e2 : ((x * y % 18446744073709551616 : Nat) : Int) = loW ((x : Int) * (y : Int)) := by unfold loW; rw [Int.natCast_emod, Int.natCast_mul]; rfl
  rw [e1, e2]

theorem add64_any (x y c : Int) (hx : U64 x) (hy : U64 y) (hc : 0 ≤ c ∧ c ≤ 1) (w : World) : (callFunc 53 #[.int .u64 x, .int .u64 y, .int .u64 c]).run Tryd.prog w =
    .ok (.value (.tuple #[.int .u64 (loW (x + y + c)), .int .u64 (hiW (x + y + c))])) w := by
  obtain ⟨x, rfl⟩ := Int.eq_ofNat_of_zero_le hx.1
  obtain ⟨y, rfl⟩ := Int.eq_ofNat_of_zero_le hy.1
  obtain ⟨c, rfl⟩ := Int.eq_ofNat_of_zero_le hc.1
  have hc1 : c = 0 ∨ c = 1 := by omega
  rw [run_callFunc_extern Tryd.func53 (by kernel_rfl) (by kernel_rfl) (by kernel_rfl) (e := fun args => do
    let (x, y, c) ← Extern.MathBitsCarry.three "Add64" args
    pure (Extern.MathBitsCarry.pair ((x + y + c) % Extern.MathBitsCarry.m64) ((x + y + c) / Extern.MathBitsCarry.m64))) (by kernel_rfl)]
  have e1 : (((x + y + c) % 18446744073709551616 : Nat) : Int) = loW ((x : Int) + (y : Int) + (c : Int)) := by unfold loW; omega
  have e2 : (((x + y + c) / 18446744073709551616 : Nat) : Int) = hiW ((x : Int) + (y : Int) + (c : Int)) := by unfold hiW; omega
  rw [← e1, ← e2]
  rcases hc1 with rfl | rfl <;> rfl

theorem U64_wrap (v : Int) : U64 (IntKind.u64.wrap v) := by rw [IntKind.wrap_u64]; unfold U64; omega

theorem prod_neg (n v : Int) (hn : I64 n) (hv : I64 v) (h0 : 0 ≤ n) (hc : v < 0) :
    wrap64 (IntKind.u64.wrap (hiW (n * IntKind.u64.wrap v) - n)) = hiW (n * v) ∧ loW (n * IntKind.u64.wrap v) = loW (n * v) := by
  obtain ⟨n1, n2⟩ := hn; obtain ⟨v1, v2⟩ := hv
  have e : IntKind.u64.wrap v = v + 18446744073709551616 := by rw [IntKind.wrap_u64]; omega
  have b1 : n * (-9223372036854775808) ≤ n * v := Int.mul_le_mul_of_nonneg_left v1 h0
  have b2 : n * v ≤ n * 0 := Int.mul_le_mul_of_nonneg_left (by omega) h0
  rw [e, Int.mul_add]
  generalize n * v = p at *
  rw [IntKind.wrap_u64]
  unfold wrap64 hiW loW
  omega

theorem prod_pos (n v : Int) (hn : I64 n) (hv : I64 v) (h0 : 0 ≤ n) (hc : 0 ≤ v) : wrap64 (hiW (n * v)) = hiW (n * v) := by
  obtain ⟨n1, n2⟩ := hn; obtain ⟨v1, v2⟩ := hv
  have b1 : n * v ≤ n * 9223372036854775807 := Int.mul_le_mul_of_nonneg_left v2 h0
  have b2 : n * 0 ≤ n * v := Int.mul_le_mul_of_nonneg_left hc h0
  generalize n * v = p at *
  unfold wrap64 hiW
  omega

theorem product_any (n v : Int) (hn : I64 n) (hv : I64 v) (h0 : 0 ≤ n) (w : World) :
    Calls Tryd.prog 42 #[.int .i64 n, .int .i64 v] w fun e w' => e = .returned (.agg #[.int .i64 (hiW (n * v)), .int .u64 (loW (n * v))]) ∧ Below w.heap.size w w' := by
  by_cases hc : v < 0
  · obtain ⟨e1, e2⟩ := prod_neg n v hn hv h0 hc
    obtain ⟨n1, n2⟩ := hn; obtain ⟨v1, v2⟩ := hv
    have hun : U64 n := ⟨h0, by omega⟩
    have E1 := Lib.hid e1; clear e1
    have E2 := Lib.hid e2; clear e2
    go_enter Tryd.func42, Tryd.ntmps42
    go_wp2_with (go_at_call 52; refine (mul64_any n (IntKind.u64.wrap v) hun (U64_wrap v) _).mono ?_; rintro e w' ⟨rfl, rfl⟩)
    rw [E1.out, E2.out]
    exact bodyPost_ret (v := .agg #[.int .i64 (hiW (n * v)), .int .u64 (loW (n * v))]) (by simp [results, Tryd.results42, go_sem]) rfl ⟨rfl, (Below.refl _ _).alloc (Nat.le_refl _) _⟩
  · have hvn : 0 ≤ v := by omega
    have E1 := Lib.hid (prod_pos n v hn hv h0 hvn)
    obtain ⟨n1, n2⟩ := hn; obtain ⟨v1, v2⟩ := hv
    have hun : U64 n := ⟨h0, by omega⟩
    go_enter Tryd.func42, Tryd.ntmps42
    go_wp2_with (go_at_call 52; refine (mul64_any n v hun ⟨hvn, by omega⟩ _).mono ?_; rintro e w' ⟨rfl, rfl⟩)
    rw [E1.out]
    exact bodyPost_ret (v := .agg #[.int .i64 (hiW (n * v)), .int .u64 (loW (n * v))]) (by simp [results, Tryd.results42, go_sem]) rfl ⟨rfl, (Below.refl _ _).alloc (Nat.le_refl _) _⟩

theorem plus_any (x y : Int) (hb : -170141183460469231731687303715884105728 ≤ x + y ∧ x + y < 170141183460469231731687303715884105728) (w : World) :
    Calls Tryd.prog 43 #[.agg #[.int .i64 (hiW x), .int .u64 (loW x)], .agg #[.int .i64 (hiW y), .int .u64 (loW y)]] w fun e w' =>
      e = .returned (.agg #[.int .i64 (hiW (x + y)), .int .u64 (loW (x + y))]) ∧ Below w.heap.size w w' := by
  have hlx : U64 (loW x) := loW_bd x
  have hly : U64 (loW y) := loW_bd y
  have ha := add64_any (loW x) (loW y) 0 hlx hly ⟨by omega, by omega⟩
  simp only [Int.add_zero] at ha
  have e1 : wrap64 (wrap64 (hiW x + hiW y) + wrap64 (hiW (loW x + loW y))) = hiW (x + y) := by unfold wrap64 hiW loW; omega
  have e2 : loW (loW x + loW y) = loW (x + y) := by unfold loW; omega
  have E1 := Lib.hid e1; clear e1
  have E2 := Lib.hid e2; clear e2
  clear hb
  go_enter Tryd.func43, Tryd.ntmps43
  go_wp2_with (simp only [ha])
  rw [E1.out, E2.out]
  exact bodyPost_ret (v := .agg #[.int .i64 (hiW (x + y)), .int .u64 (loW (x + y))]) (by simp [results, Tryd.results43, go_sem]) rfl
    ⟨rfl, (((Below.refl _ _).alloc (Nat.le_refl _) _).alloc (by simp) _).alloc (by simp; omega) _⟩

theorem upto_any (x y : Int) (w : World) :
    Calls Tryd.prog 44 #[.agg #[.int .i64 (hiW x), .int .u64 (loW x)], .agg #[.int .i64 (hiW y), .int .u64 (loW y)]] w fun e w' =>
      e = .returned (.bool (decide (x ≤ y))) ∧ Below w.heap.size w w' := by
  have hx := hi_lo x
  have hy := hi_lo y
  have hlx := loW_bd x
  have hly := loW_bd y
  by_cases h1 : hiW x < hiW y
  · have hr : decide (x ≤ y) = true := by simp; omega
    rw [hr]; clear hr hx hy
    go_enter Tryd.func44, Tryd.ntmps44
    go_wp2
    go_ret
    exact ⟨rfl, ((Below.refl _ _).alloc (Nat.le_refl _) _).alloc (by simp) _⟩
  · by_cases h2 : hiW x = hiW y
    · have hr : decide (x ≤ y) = decide (loW x ≤ loW y) := by simp; omega
      rw [hr]; clear hr hx hy
      have h3 : (hiW x == hiW y) = true := by simpa using h2
      rw [h2]
      clear h1 h3
      go_enter Tryd.func44, Tryd.ntmps44
      go_wp2
      go_ret
      exact ⟨rfl, ((Below.refl _ _).alloc (Nat.le_refl _) _).alloc (by simp) _⟩
    · have hr : decide (x ≤ y) = false := by simp; omega
      rw [hr]; clear hr hx hy
      have h3 : (hiW x == hiW y) = false := by simpa using h2
      have h4 : decide (hiW x < hiW y) = false := by simpa using h1
      clear h1 h2
      go_enter Tryd.func44, Tryd.ntmps44
      go_wp2
      go_ret
      exact ⟨rfl, ((Below.refl _ _).alloc (Nat.le_refl _) _).alloc (by simp) _⟩
end Go.Proofs.YtikacbfpeegcdaaDoor
