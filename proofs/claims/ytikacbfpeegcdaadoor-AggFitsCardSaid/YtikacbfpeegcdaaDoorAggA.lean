/- What agg's checked numbers do: walks. -/
import Derived.Test.YtikacbfpeegcdaaDoorProg
import Derived.Test.YtikacbfpeegcdaaDoorBase
import Derived.Shelf.Bits.Mul64
namespace Go.Proofs.YtikacbfpeegcdaaDoor
open Go.RowKit

def I64 (x : Int) : Prop := -9223372036854775808 ≤ x ∧ x ≤ 9223372036854775807
def U64 (x : Int) : Prop := 0 ≤ x ∧ x < 18446744073709551616

theorem add_ok (a b : Int) (ha : I64 a) (hb : I64 b) (h : I64 (a + b)) (w : World) :
    Calls Tryd.prog 9 #[.int .i64 a, .int .i64 b] w fun e w' => e = .returned (.tuple #[.int .i64 (a + b), .nilIface]) ∧ w = w' := by
  obtain ⟨a1, a2⟩ := ha; obtain ⟨b1, b2⟩ := hb; obtain ⟨c1, c2⟩ := h
  by_cases hc : 0 < b
  · have t1 : decide (a < a + b) = true := by simp; omega
    go_enter Tryd.func9, Tryd.ntmps9
    go_wp2
    go_ret2
    exact ⟨rfl, rfl⟩
  · have t1 : decide (a < a + b) = false := by simp; omega
    go_enter Tryd.func9, Tryd.ntmps9
    go_wp2
    go_ret2
    exact ⟨rfl, rfl⟩

/-- The error of what does not fit: an *Overflow in the block that the call makes. -/
abbrev ovf (g : Nat) : Value := .iface 32 (.pointer (some ⟨g, 0, none⟩))
abbrev ovfObj (op a b : Int) : Obj := .cells #[.int .u8 op, .int .i64 a, .int .i64 b] 36

theorem add_no (a b : Int) (ha : I64 a) (hb : I64 b) (h : ¬ I64 (a + b)) (w : World) :
    Calls Tryd.prog 9 #[.int .i64 a, .int .i64 b] w fun e w' => e = .returned (.tuple #[.int .i64 0, ovf w.heap.size]) ∧ w' = w.alloc (ovfObj 43 a b) := by
  obtain ⟨a1, a2⟩ := ha; obtain ⟨b1, b2⟩ := hb
  by_cases hc : 0 < b
  · have h1 : 9223372036854775807 < a + b := by unfold I64 at h; omega
    have t1 : decide (a < wrap64 (a + b)) = false := by unfold wrap64; simp; omega
    clear h
    go_enter Tryd.func9, Tryd.ntmps9
    go_wp2
    go_ret2
    exact ⟨rfl, rfl⟩
  · have h1 : a + b < -9223372036854775808 := by unfold I64 at h; omega
    have t1 : decide (a < wrap64 (a + b)) = true := by unfold wrap64; simp; omega
    clear h
    go_enter Tryd.func9, Tryd.ntmps9
    go_wp2
    go_ret2
    exact ⟨rfl, rfl⟩

theorem sub_ok (a b : Int) (ha : I64 a) (hb : I64 b) (h : I64 (a - b)) (w : World) :
    Calls Tryd.prog 20 #[.int .i64 a, .int .i64 b] w fun e w' => e = .returned (.tuple #[.int .i64 (a - b), .nilIface]) ∧ w = w' := by
  obtain ⟨a1, a2⟩ := ha; obtain ⟨b1, b2⟩ := hb; obtain ⟨c1, c2⟩ := h
  by_cases hc : 0 < b
  · have t1 : decide (a - b < a) = true := by simp; omega
    go_enter Tryd.func20, Tryd.ntmps20
    go_wp2
    go_ret2
    exact ⟨rfl, rfl⟩
  · have t1 : decide (a - b < a) = false := by simp; omega
    go_enter Tryd.func20, Tryd.ntmps20
    go_wp2
    go_ret2
    exact ⟨rfl, rfl⟩

theorem sub_no (a b : Int) (ha : I64 a) (hb : I64 b) (h : ¬ I64 (a - b)) (w : World) :
    Calls Tryd.prog 20 #[.int .i64 a, .int .i64 b] w fun e w' => e = .returned (.tuple #[.int .i64 0, ovf w.heap.size]) ∧ w' = w.alloc (ovfObj 45 a b) := by
  obtain ⟨a1, a2⟩ := ha; obtain ⟨b1, b2⟩ := hb
  by_cases hc : 0 < b
  · have h1 : a - b < -9223372036854775808 := by unfold I64 at h; omega
    have t1 : decide (wrap64 (a - b) < a) = false := by unfold wrap64; simp; omega
    clear h
    go_enter Tryd.func20, Tryd.ntmps20
    go_wp2
    go_ret2
    exact ⟨rfl, rfl⟩
  · have h1 : 9223372036854775807 < a - b := by unfold I64 at h; omega
    have t1 : decide (wrap64 (a - b) < a) = true := by unfold wrap64; simp; omega
    clear h
    go_enter Tryd.func20, Tryd.ntmps20
    go_wp2
    go_ret2
    exact ⟨rfl, rfl⟩

/-- Where the product fits: it divided by a is b. -/
theorem mul_ok (a b : Int) (ha : I64 a) (hb : I64 b) (h : I64 (a * b)) (w : World) :
    Calls Tryd.prog 14 #[.int .i64 a, .int .i64 b] w fun e w' => e = .returned (.tuple #[.int .i64 (a * b), .nilIface]) ∧ w = w' := by
  obtain ⟨a1, a2⟩ := ha; obtain ⟨b1, b2⟩ := hb; obtain ⟨c1, c2⟩ := h
  by_cases hz : a = 0
  · subst hz
    simp only [Int.zero_mul]
    clear c1 c2
    go_enter Tryd.func14, Tryd.ntmps14
    go_wp2
    go_ret2
    exact ⟨rfl, rfl⟩
  · have z1 : (a == 0) = false := by simpa using hz
    have q1 : (a * b).tdiv a = b := Int.mul_tdiv_cancel_left b hz
    by_cases hm : a = -1
    · subst hm
      have hb2 : (b == -9223372036854775808) = false := by simp; omega
      have e1 : (-1 : Int) * b = -b := by omega
      rw [e1] at c1 c2 q1 ⊢
      go_enter Tryd.func14, Tryd.ntmps14
      go_wp2
      go_ret2
      exact ⟨rfl, rfl⟩
    · have m1 : (a == -1) = false := by simpa using hm
      clear hm
      go_enter Tryd.func14, Tryd.ntmps14
      go_wp2
      go_ret2
      exact ⟨rfl, rfl⟩

/-- A product that does not fit: its low 64 bits, divided by a, are not b. -/
theorem mul_lost (a b : Int) (ha : I64 a) (_hb : I64 b) (h : ¬ I64 (a * b)) (hz : a ≠ 0) (hm : ¬ (a = -1 ∧ b = -9223372036854775808)) : (wrap64 (a * b)).tdiv a ≠ b := by
  intro hq
  obtain ⟨a1, a2⟩ := ha
  have hd := Int.mul_tdiv_add_tmod (wrap64 (a * b)) a
  rw [hq] at hd
  have hr : ((wrap64 (a * b)).tmod a).natAbs < a.natAbs := by rw [Int.natAbs_tmod]; exact Nat.mod_lt _ (by omega)
  have hw : ∃ k : Int, wrap64 (a * b) = a * b - k * 18446744073709551616 := ⟨(a * b + 9223372036854775808) / 18446744073709551616, by unfold wrap64; omega⟩
  obtain ⟨k, hk⟩ := hw
  have hb64 : -9223372036854775808 ≤ wrap64 (a * b) ∧ wrap64 (a * b) ≤ 9223372036854775807 := by unfold wrap64; omega
  have h0 : k = 0 := by omega
  subst h0
  simp at hk
  rw [hk] at hb64
  exact h hb64

theorem quot_fits (p a : Int) (hp : I64 p) (h : a ≠ -1) : wrap64 (p.tdiv a) = p.tdiv a := by
  have h1 : (p.tdiv a).natAbs ≤ p.natAbs := by rw [Int.natAbs_tdiv]; exact Nat.div_le_self _ _
  have h2 : p.tdiv a ≠ 9223372036854775808 := by
    intro e
    have e3 : (p.tdiv a).natAbs = p.natAbs / a.natAbs := Int.natAbs_tdiv p a
    rw [e] at e3 h1
    obtain ⟨p1, p2⟩ := hp
    have hpm : p = -9223372036854775808 := by omega
    subst hpm
    have ha : a.natAbs = 1 := by
      rcases Nat.lt_or_ge a.natAbs 2 with h4 | h4
      · rcases Nat.eq_zero_or_pos a.natAbs with h5 | h5
        · rw [h5] at e3; simp at e3
        · omega
      · exfalso
        have : (-9223372036854775808 : Int).natAbs / a.natAbs ≤ (-9223372036854775808 : Int).natAbs / 2 := Nat.div_le_div_left h4 (by omega)
        omega
    have ha1 : a = 1 := by omega
    subst ha1
    simp at e
  obtain ⟨p1, p2⟩ := hp
  unfold wrap64
  omega

theorem mul_no (a b : Int) (ha : I64 a) (hb : I64 b) (h : ¬ I64 (a * b)) (w : World) :
    Calls Tryd.prog 14 #[.int .i64 a, .int .i64 b] w fun e w' => e = .returned (.tuple #[.int .i64 0, ovf w.heap.size]) ∧ w' = w.alloc (ovfObj 42 a b) := by
  have hz : a ≠ 0 := by rintro rfl; exact h (by simp [I64])
  have z1 : (a == 0) = false := by simpa using hz
  by_cases hm : a = -1
  · have hb2 : b = -9223372036854775808 := by
      subst hm
      unfold I64 at h hb
      omega
    subst hm hb2
    have l0 : (wrap64 (-wrap64 9223372036854775808) == -9223372036854775808) = true := by kernel_rfl
    have l2 : wrap64 (-wrap64 9223372036854775808) = -9223372036854775808 := by unfold wrap64; omega
    clear ha hb h hz
    go_enter Tryd.func14, Tryd.ntmps14
    go_wp2
    go_ret2
    exact ⟨rfl, rfl⟩
  · have hl := mul_lost a b ha hb h hz (fun h => hm h.1)
    rw [← quot_fits (wrap64 (a * b)) a (by unfold I64 wrap64; omega) hm] at hl
    have l1 : (wrap64 ((wrap64 (a * b)).tdiv a) == b) = false := by simpa using hl
    obtain ⟨a1, a2⟩ := ha; obtain ⟨b1, b2⟩ := hb
    clear h hm
    go_enter Tryd.func14, Tryd.ntmps14
    go_wp2
    go_ret2
    exact ⟨rfl, rfl⟩

end Go.Proofs.YtikacbfpeegcdaaDoor
