/- What a fold comes to is right: plain numbers. -/
import Derived.Test.YtikacbfpeegcdaaAggC
import Derived.Test.YtikacbfpeegcdaaAggH
namespace Go.Proofs.Ytikacbfpeegcdaa

theorem right_put (c s mi ma v : Int) (h : RightP c s mi ma) (hc : c ≠ 0) : RightP (c + 1) (s + v) (min mi v) (max ma v) := by
  rcases h with ⟨h, _⟩ | ⟨rfl, rfl, rfl⟩ | ⟨h2, h3, h4, h5⟩
  · exact absurd h hc
  · refine .inr (.inr ⟨by omega, by omega, ?_, ?_⟩) <;> simp <;> omega
  · refine .inr (.inr ⟨by omega, by omega, ?_, ?_⟩)
    · have e1 : (c + 1 - 2) * min mi v = (c - 2) * min mi v + min mi v := by rw [show c + 1 - 2 = (c - 2) + 1 by omega, Int.add_mul]; omega
      have e2 : (c - 2) * min mi v ≤ (c - 2) * mi := Int.mul_le_mul_of_nonneg_left (by omega) (by omega)
      rw [e1]
      rcases Int.le_total mi v with hv | hv
      · rw [Int.min_eq_left hv] at *
        rcases Int.le_total ma v with hw | hw
        · rw [Int.max_eq_right hw]; omega
        · rw [Int.max_eq_left hw]; omega
      · rw [Int.min_eq_right hv] at *
        rw [Int.max_eq_left (by omega)]
        omega
    · have e1 : (c + 1 - 2) * max ma v = (c - 2) * max ma v + max ma v := by rw [show c + 1 - 2 = (c - 2) + 1 by omega, Int.add_mul]; omega
      have e2 : (c - 2) * ma ≤ (c - 2) * max ma v := Int.mul_le_mul_of_nonneg_left (by omega) (by omega)
      rw [e1]
      rcases Int.le_total v ma with hv | hv
      · rw [Int.max_eq_left hv] at *
        rcases Int.le_total v mi with hw | hw
        · rw [Int.min_eq_right hw]; omega
        · rw [Int.min_eq_left hw]; omega
      · rw [Int.max_eq_right hv] at *
        rw [Int.min_eq_left (by omega)]
        omega

theorem foldI_right : ∀ (l : List Int) (c s mi ma : Int), 0 ≤ c → RightP c s mi ma → I64 s → I64 mi → I64 ma → (∀ x ∈ l, I64 x) → ∀ c' s' mi' ma', foldI c s mi ma l = .inr (c', s', mi', ma') →
    RightP c' s' mi' ma' ∧ c' = c + l.length ∧ I64 s' ∧ I64 mi' ∧ I64 ma'
  | [], c, s, mi, ma, _, hr, h1, h2, h3, _, c', s', mi', ma', h => by
    simp only [foldI, Sum.inr.injEq, Prod.mk.injEq] at h
    obtain ⟨rfl, rfl, rfl, rfl⟩ := h
    exact ⟨hr, by simp, h1, h2, h3⟩
  | v :: l, c, s, mi, ma, hc, hr, h1, h2, h3, hl, c', s', mi', ma', h => by
    have hv : I64 v := hl v (by simp)
    have hl' : ∀ x ∈ l, I64 x := fun x hx => hl x (by simp [hx])
    unfold foldI at h
    split at h
    · rename_i h0
      obtain ⟨a, b, d⟩ := foldI_right l 1 v v v (by omega) (.inr (.inl ⟨rfl, rfl, rfl⟩)) hv hv hv hl' c' s' mi' ma' h
      exact ⟨a, by simp; omega, d⟩
    · rename_i h0
      split at h
      · rename_i hs
        obtain ⟨a, b, d⟩ := foldI_right l (c + 1) (s + v) (min mi v) (max ma v) (by omega) (right_put c s mi ma v hr h0) hs (by obtain ⟨_, _⟩ := h2; obtain ⟨_, _⟩ := hv; exact ⟨by omega, by omega⟩)
          (by obtain ⟨_, _⟩ := h3; obtain ⟨_, _⟩ := hv; exact ⟨by omega, by omega⟩) hl' c' s' mi' ma' h
        exact ⟨a, by simp; omega, d⟩
      · cases h
theorem fold_right (l : List Int) (hl : ∀ x ∈ l, I64 x) (c s mi ma : Int) (h : foldI 0 0 0 0 l = .inr (c, s, mi, ma)) : RightP c s mi ma ∧ c = l.length ∧ I64 s ∧ I64 mi ∧ I64 ma := by
  obtain ⟨a, b, d⟩ := foldI_right l 0 0 0 0 (by omega) (.inl ⟨rfl, rfl, rfl, rfl⟩) ⟨by omega, by omega⟩ ⟨by omega, by omega⟩ ⟨by omega, by omega⟩ hl c s mi ma h
  exact ⟨a, by omega, d⟩
end Go.Proofs.Ytikacbfpeegcdaa
