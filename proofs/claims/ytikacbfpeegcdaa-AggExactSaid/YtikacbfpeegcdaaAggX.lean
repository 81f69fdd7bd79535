/- The law AggExact: the walk. -/
import Derived.Test.YtikacbfpeegcdaaAggK
namespace Go.Proofs.Ytikacbfpeegcdaa
open Go.RowKit Go.Shelf

def I32 (x : Int) : Prop := -2147483648 ≤ x ∧ x ≤ 2147483647

theorem mul_bd (a b : Int) (ha : I32 a) (hb : I32 b) : -4611686018427387904 ≤ a * b ∧ a * b ≤ 4611686018427387904 := by
  obtain ⟨a1, a2⟩ := ha; obtain ⟨b1, b2⟩ := hb
  have h : (a * b).natAbs ≤ 2147483648 * 2147483648 := by
    rw [Int.natAbs_mul]
    exact Nat.mul_le_mul (by omega) (by omega)
  omega

set_option maxHeartbeats 2000000 in
set_option maxRecDepth 100000 in
theorem law_exact (a b x y : Int) (ha : I32 a) (hb : I32 b) (hx : I64 x) (hy : I64 y) (w : World) :
    Calls Try.prog 6 #[.int .i32 a, .int .i32 b, .int .i64 x, .int .i64 y] w fun e w' => e = .returned (.bool true) ∧ Below w.heap.size w w' := by
  obtain ⟨m1, m2⟩ := mul_bd a b ha hb
  obtain ⟨a1, a2⟩ := ha; obtain ⟨b1, b2⟩ := hb
  have C1 := Lib.hid (fun W => add_ok a b ⟨by omega, by omega⟩ ⟨by omega, by omega⟩ ⟨by omega, by omega⟩ W)
  have C2 := Lib.hid (fun W => sub_ok a b ⟨by omega, by omega⟩ ⟨by omega, by omega⟩ ⟨by omega, by omega⟩ W)
  have C3 := Lib.hid (fun W => mul_ok a b ⟨by omega, by omega⟩ ⟨by omega, by omega⟩ ⟨by omega, by omega⟩ W)
  by_cases hs : I64 (x + y)
  · have C4 := Lib.hid (fun W => add_ok x y hx hy hs W)
    have C5 := Lib.hid (fun W => sub_ok (x + y) y hs hy (by rw [Int.add_sub_cancel]; exact hx) W)
    simp only [Int.add_sub_cancel] at C5
    clear hs hx hy
    go_enter Try.func6, Try.ntmps6
    go_wp2_with fail
    go_at_call 11; (with_reducible refine (known_any _).mono ?_); rintro e w1 ⟨rfl, hb1⟩
    have HB := Lib.hid hb1
    clear hb1
    go_wp2_with fail
    go_at_call 15; (with_reducible refine (C1.out _).mono ?_); rintro e w' ⟨rfl, rfl⟩
    go_wp2_with fail
    go_at_call 16; (with_reducible refine (C2.out _).mono ?_); rintro e w' ⟨rfl, rfl⟩
    go_wp2_with fail
    go_at_call 17; (with_reducible refine (C3.out _).mono ?_); rintro e w' ⟨rfl, rfl⟩
    go_wp2_with fail
    go_at_call 15; (with_reducible refine (C4.out _).mono ?_); rintro e w' ⟨rfl, rfl⟩
    go_wp2_with fail
    go_at_call 16; (with_reducible refine (C5.out _).mono ?_); rintro e w' ⟨rfl, rfl⟩
    go_wp2
    go_ret
    exact ⟨rfl, HB.out⟩
  · have C4 := Lib.hid (fun W => add_no x y hx hy hs W)
    have hsg : (0 < x ∧ 0 < y) ∨ (x < 0 ∧ y < 0) := by unfold I64 at hs hx hy; omega
    clear hs hx hy
    rcases hsg with ⟨h1, h2⟩ | ⟨h1, h2⟩
    all_goals
      have n1 : (x != 0) = true := by simp; omega
      have n2 : (y != 0) = true := by simp; omega
      go_enter Try.func6, Try.ntmps6
      go_wp2_with fail
      go_at_call 11; (with_reducible refine (known_any _).mono ?_); rintro e w1 ⟨rfl, hb1⟩
      have HB := Lib.hid hb1
      clear hb1
      go_wp2_with fail
      go_at_call 15; (with_reducible refine (C1.out _).mono ?_); rintro e w' ⟨rfl, rfl⟩
      go_wp2_with fail
      go_at_call 16; (with_reducible refine (C2.out _).mono ?_); rintro e w' ⟨rfl, rfl⟩
      go_wp2_with fail
      go_at_call 17; (with_reducible refine (C3.out _).mono ?_); rintro e w' ⟨rfl, rfl⟩
      go_wp2_with fail
      go_at_call 15; (with_reducible refine (C4.out _).mono ?_); rintro e w' ⟨rfl, rfl⟩
      go_wp2
      go_ret
      exact ⟨rfl, HB.out.alloc HB.out.size _⟩
end Go.Proofs.Ytikacbfpeegcdaa
