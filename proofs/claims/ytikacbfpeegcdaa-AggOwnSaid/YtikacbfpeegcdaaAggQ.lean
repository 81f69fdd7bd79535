/- Merge by whole numbers, at every two aggregates of few values; errors.Is of nil. -/
import Derived.Test.YtikacbfpeegcdaaAggI
import Derived.Test.YtikacbfpeegcdaaAggO
import Derived.Test.YtikacbfpeegcdaaAggK
namespace Go.Proofs.Ytikacbfpeegcdaa
open Go.RowKit Go.Shelf Go.Extern.Stop Go.Stop

/-- errors.Is(nil, api.ErrOverflow). -/
theorem is_nil (W : World) :
    Calls Try.prog 26 #[.nilIface, .iface 22 (.int .i64 25)] W fun e w' => e = .returned (.bool false) ∧ W = w' := by
  have hn := fun w => run_eql_iface_nil_left (P := Try.prog) w 22 (.int .i64 25) Try.underlying30
  go_enter Try.func26, Try.ntmps26
  go_wp2
  go_ret
  exact ⟨rfl, rfl⟩

def mergeI (x y : Q4) : Sum (Int × Int) Q4 := if x.1 = 0 then .inr y else if y.1 = 0 then .inr x else if I64 (x.2.1 + y.2.1) then .inr (mergeZ x y) else .inl (x.2.1, y.2.1)

theorem mergeI_ok {x y z : Q4} (h : mergeI x y = .inr z) : z = mergeZ x y := by
  unfold mergeI at h
  unfold mergeZ
  split at h
  · rename_i h0; simp only [Sum.inr.injEq] at h; rw [if_pos h0, h]
  · rename_i h0
    split at h
    · rename_i h1; simp only [Sum.inr.injEq] at h; rw [if_neg h0, if_pos h1, h]
    · rename_i h1
      split at h
      · simp only [Sum.inr.injEq] at h; rw [← h]; unfold mergeZ; rw [if_neg h0, if_neg h1]
      · cases h
theorem mergeI_swap_ok {x y z : Q4} (hx : x.1 = 0 → x = (0, 0, 0, 0)) (hy : y.1 = 0 → y = (0, 0, 0, 0)) (h : mergeI x y = .inr z) : mergeI y x = .inr z := by
  have hz := mergeI_ok h
  have hc := mergeZ_comm x y hx hy
  unfold mergeI at h ⊢
  by_cases h0 : x.1 = 0
  · by_cases h1 : y.1 = 0
    · have := hy h1; simp [hx h0, hz, mergeZ, this]
    · simp [h0, h1, hz, mergeZ]
  · by_cases h1 : y.1 = 0
    · simp [h0, h1, hz, mergeZ]
    · by_cases h2 : I64 (x.2.1 + y.2.1)
      · have h2' : I64 (y.2.1 + x.2.1) := by rw [Int.add_comm]; exact h2
        simp only [h0, h1, h2', if_false, if_true]
        rw [hz, hc]
      · simp [h0, h1, h2] at h
theorem mergeI_swap_no {x y : Q4} {a b : Int} (h : mergeI x y = .inl (a, b)) : mergeI y x = .inl (b, a) := by
  unfold mergeI at h ⊢
  split at h
  · cases h
  · rename_i h0
    split at h
    · cases h
    · rename_i h1
      split at h
      · cases h
      · rename_i h2
        simp only [Sum.inl.injEq, Prod.mk.injEq] at h
        obtain ⟨rfl, rfl⟩ := h
        rw [if_neg h1, if_neg h0, if_neg (by rw [Int.add_comm]; exact h2)]

theorem merge_any (x y : Q4) (x1 : 0 ≤ x.1 ∧ x.1 ≤ 1099511627776) (y1 : 0 ≤ y.1 ∧ y.1 ≤ 1099511627776) (xs : I64 x.2.1) (ys : I64 y.2.1) (w : World) :
    Calls Try.prog 27 #[AGv x.1 x.2.1 x.2.2.1 x.2.2.2, AGv y.1 y.2.1 y.2.2.1 y.2.2.2] w (FoldPost w (mergeI x y)) := by
  obtain ⟨c, s, mi, ma⟩ := x
  obtain ⟨c', s', mi', ma'⟩ := y
  simp only at x1 y1 xs ys
  unfold mergeI
  by_cases h0 : c = 0
  · subst h0
    exact merge_a0 s mi ma c' s' mi' ma' w
  · by_cases h1 : c' = 0
    · subst h1
      simp only [h0, if_false, if_true]
      exact merge_b0 c s mi ma s' mi' ma' h0 w
    · by_cases h2 : I64 (s + s')
      · simp only [h0, h1, h2, if_false, if_true, mergeZ]
        exact merge_ok c s mi ma c' s' mi' ma' h0 h1 ⟨by omega, by omega⟩ ⟨by omega, by omega⟩ ⟨by omega, by omega⟩ xs ys h2 w
      · simp only [h0, h1, h2, if_false]
        exact merge_s c s mi ma c' s' mi' ma' h0 h1 ⟨by omega, by omega⟩ ⟨by omega, by omega⟩ ⟨by omega, by omega⟩ xs ys h2 w
end Go.Proofs.Ytikacbfpeegcdaa
