/- The order of floats, and the best of a list: plain. -/
import Derived.Test.YtikacbfpeegcdaaAggBest
namespace Go.Proofs.Ytikacbfpeegcdaa
open Ieee Ieee.Datum

theorem signed_shift (s : Bool) (m a d : Nat) : signed s m (a + d) = signed s m a * 2 ^ d := by
  unfold signed
  cases s <;> simp [Nat.shiftLeft_eq, Nat.pow_add, Int.natCast_mul, Int.natCast_pow, Int.mul_assoc, Int.neg_mul]
theorem compare_scale (a b : Int) (d : Nat) : compare (a * 2 ^ d) (b * 2 ^ d) = compare a b := by
  have hp : (0 : Int) < 2 ^ d := Int.pow_pos (by decide)
  rcases Int.lt_trichotomy a b with h | h | h
  · have h2 : a * 2 ^ d < b * 2 ^ d := Int.mul_lt_mul_of_pos_right h hp
    rw [Int.compare_eq_lt.2 h, Int.compare_eq_lt.2 h2]
  · rw [h, Int.compare_eq_eq.2 rfl, Int.compare_eq_eq.2 rfl]
  · have h2 : b * 2 ^ d < a * 2 ^ d := Int.mul_lt_mul_of_pos_right h hp
    rw [Int.compare_eq_gt.2 h, Int.compare_eq_gt.2 h2]
theorem order_at (s : Bool) (m : Nat) (i : Int) (t : Bool) (n : Nat) (j B : Int) (hi : B ≤ i) (hj : B ≤ j) :
    Datum.order (number s m i) (number t n j) = some (compare (signed s m (i - B).toNat) (signed t n (j - B).toNat)) := by
  show some (compare (signed s m (i - min i j).toNat) (signed t n (j - min i j).toNat)) = _
  have e1 : (i - B).toNat = (i - min i j).toNat + (min i j - B).toNat := by omega
  have e2 : (j - B).toNat = (j - min i j).toNat + (min i j - B).toNat := by omega
  rw [e1, e2, signed_shift, signed_shift, compare_scale]
theorem order_trans (o : Ordering) (ho : o ≠ .eq) (x y z : Datum) (h1 : Datum.order x y = some o) (h2 : Datum.order y z = some o) : Datum.order x z = some o := by
  cases x with
  | nan => simp [Datum.order] at h1
  | infinity s =>
    cases y with
    | nan => simp [Datum.order] at h1
    | infinity t =>
      cases z with
      | nan => simp [Datum.order] at h2
      | infinity u => cases o <;> cases s <;> cases t <;> cases u <;> first | rfl | (exfalso; revert h1 h2 ho; decide)
      | number u a i => cases o <;> cases s <;> cases t <;> first | rfl | (exfalso; revert h1 h2 ho; simp [Datum.order]; done) | (exfalso; revert h1; decide)
    | number t a i =>
      cases z with
      | nan => simp [Datum.order] at h2
      | infinity u => cases o <;> cases s <;> cases u <;> first | rfl | (exfalso; revert h1 h2 ho; simp [Datum.order]; done)
      | number u b j => cases o <;> cases s <;> first | rfl | (exfalso; revert h1 h2 ho; simp [Datum.order]; done)
  | number s a i =>
    cases y with
    | nan => simp [Datum.order] at h1
    | infinity t =>
      cases z with
      | nan => simp [Datum.order] at h2
      | infinity u => cases o <;> cases t <;> cases u <;> first | rfl | (exfalso; revert h1 h2 ho; simp [Datum.order]; done) | (exfalso; revert h2; decide)
      | number u b j => cases o <;> cases t <;> first | (exfalso; revert h1 h2 ho; simp [Datum.order]; done)
    | number t b j =>
      cases z with
      | nan => simp [Datum.order] at h2
      | infinity u => cases o <;> cases u <;> first | rfl | (exfalso; revert h1 h2 ho; simp [Datum.order]; done)
      | number u c k =>
        have b1 : min i (min j k) ≤ i := by omega
        have b2 : min i (min j k) ≤ j := by omega
        have b3 : min i (min j k) ≤ k := by omega
        rw [order_at s a i t b j _ b1 b2] at h1
        rw [order_at t b j u c k _ b2 b3] at h2
        rw [order_at s a i u c k _ b1 b3]
        simp only [Option.some.injEq] at h1 h2 ⊢
        cases o with
        | eq => exact absurd rfl ho
        | lt => exact Int.compare_eq_lt.2 (Int.lt_trans (Int.compare_eq_lt.1 h1) (Int.compare_eq_lt.1 h2))
        | gt => exact Int.compare_eq_gt.2 (Int.lt_trans (Int.compare_eq_gt.1 h2) (Int.compare_eq_gt.1 h1))
theorem fltB_trans (a b c : Nat) (h1 : fltB a b = true) (h2 : fltB b c = true) : fltB a c = true := by
  simp only [fltB, beq_iff_eq] at *
  exact order_trans .lt (by decide) _ _ _ h1 h2
theorem fgtB_trans (a b c : Nat) (h1 : fgtB a b = true) (h2 : fgtB b c = true) : fgtB a c = true := by
  simp only [fgtB, beq_iff_eq] at *
  exact order_trans .gt (by decide) _ _ _ h1 h2
theorem iltB_trans (a b c : Int) (h1 : iltB a b = true) (h2 : iltB b c = true) : iltB a c = true := by
  simp only [iltB, decide_eq_true_eq] at *; omega
theorem igtB_trans (a b c : Int) (h1 : igtB a b = true) (h2 : igtB b c = true) : igtB a c = true := by
  simp only [igtB, decide_eq_true_eq] at *; omega

theorem best_fold {α : Type} (lt : α → α → Bool) (ht : ∀ a b c, lt a b = true → lt b c = true → lt a c = true) (hi : ∀ x, lt x x = false) :
    ∀ (l : List α) (z r : α), r = l.foldl (fun x y => if lt y x then y else x) z → (∀ x ∈ z :: l, lt x r = false) ∧ (r = z ∨ lt r z = true) ∧ r ∈ z :: l
  | [], z, r, h => by
    obtain rfl : r = z := h
    refine ⟨fun x hx => ?_, .inl rfl, by simp⟩
    rw [List.mem_singleton.1 hx]; exact hi r
  | y :: l, z, r, h => by
    rw [List.foldl_cons] at h
    by_cases hc : lt y z = true
    · rw [if_pos hc] at h
      obtain ⟨i1, i2, i3⟩ := best_fold lt ht hi l y r h
      refine ⟨fun x hx => ?_, .inr ?_, List.mem_cons_of_mem _ i3⟩
      · rcases List.mem_cons.1 hx with rfl | hx
        · cases hq : lt x r with
          | false => rfl
          | true =>
            have := ht _ _ _ hc hq
            rw [i1 y (by simp)] at this; cases this
        · exact i1 x hx
      · rcases i2 with e | e
        · rw [e]; exact hc
        · exact ht _ _ _ e hc
    · rw [if_neg hc] at h
      obtain ⟨i1, i2, i3⟩ := best_fold lt ht hi l z r h
      refine ⟨fun x hx => ?_, i2, ?_⟩
      · rcases List.mem_cons.1 hx with rfl | hx
        · exact i1 x (by simp)
        · rcases List.mem_cons.1 hx with rfl | hx
          · cases hq : lt x r with
            | false => rfl
            | true =>
              rcases i2 with e | e
              · rw [e] at hq; exact absurd hq hc
              · exact absurd (ht _ _ _ hq e) hc
          · exact i1 x (List.mem_cons_of_mem _ hx)
      · rcases List.mem_cons.1 i3 with e | e
        · exact List.mem_cons.2 (.inl e)
        · exact List.mem_cons_of_mem _ (List.mem_cons_of_mem _ e)
theorem best_facts {α : Type} (lt : α → α → Bool) (ht : ∀ a b c, lt a b = true → lt b c = true → lt a c = true) (hi : ∀ x, lt x x = false) (d : α) (l : List α) :
    (∀ x ∈ l, lt x (bestL lt d l) = false) ∧ (0 < l.length → bestL lt d l ∈ l) ∧ (l.length = 0 → bestL lt d l = d) := by
  cases l with
  | nil => exact ⟨fun x hx => (by cases hx), fun h => absurd h (by simp), fun _ => rfl⟩
  | cons z t =>
    obtain ⟨a, _, b⟩ := best_fold lt ht hi t z _ rfl
    exact ⟨a, fun _ => b, fun h => absurd h (by simp)⟩

theorem order_refl (x : Datum) : Datum.order x x = none ∨ Datum.order x x = some .eq := by
  cases x with
  | nan => exact .inl rfl
  | infinity s => right; cases s <;> rfl
  | number s m i => right; rw [order_at s m i s m i i (Int.le_refl _) (Int.le_refl _), Int.compare_eq_eq.2 rfl]
theorem fltB_irrefl (x : Nat) : fltB x x = false := by
  unfold fltB Format.order
  rcases order_refl (FloatKind.f64.format.read x) with h | h <;> rw [h] <;> rfl
theorem fgtB_irrefl (x : Nat) : fgtB x x = false := by
  unfold fgtB Format.order
  rcases order_refl (FloatKind.f64.format.read x) with h | h <;> rw [h] <;> rfl
theorem least_int (l : List Int) : (∀ x ∈ l, iltB x (bestL iltB 0 l) = false) ∧ (0 < l.length → bestL iltB 0 l ∈ l) ∧ (l.length = 0 → bestL iltB 0 l = 0) :=
  best_facts iltB iltB_trans (fun x => by simp [iltB]) 0 l
theorem most_int (l : List Int) : (∀ x ∈ l, igtB x (bestL igtB 0 l) = false) ∧ (0 < l.length → bestL igtB 0 l ∈ l) ∧ (l.length = 0 → bestL igtB 0 l = 0) :=
  best_facts igtB igtB_trans (fun x => by simp [igtB]) 0 l
theorem least_f64 (l : List Nat) : (∀ x ∈ l, fltB x (bestL fltB 0 l) = false) ∧ (0 < l.length → bestL fltB 0 l ∈ l) ∧ (l.length = 0 → bestL fltB 0 l = 0) :=
  best_facts fltB fltB_trans fltB_irrefl 0 l
theorem most_f64 (l : List Nat) : (∀ x ∈ l, fgtB x (bestL fgtB 0 l) = false) ∧ (0 < l.length → bestL fgtB 0 l ∈ l) ∧ (l.length = 0 → bestL fgtB 0 l = 0) :=
  best_facts fgtB fgtB_trans fgtB_irrefl 0 l
end Go.Proofs.Ytikacbfpeegcdaa
