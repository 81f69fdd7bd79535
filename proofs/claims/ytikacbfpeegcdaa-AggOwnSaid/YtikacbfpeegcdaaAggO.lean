/- Folds of a row in two: plain numbers. The merge of two folds is the whole row's fold. -/
import Derived.Test.YtikacbfpeegcdaaAggM
namespace Go.Proofs.Ytikacbfpeegcdaa

/-- An aggregate's four numbers. -/
abbrev Q4 := Int × Int × Int × Int
def stepZ (y : Q4) (v : Int) : Q4 := if y.1 = 0 then (1, v, v, v) else (y.1 + 1, y.2.1 + v, min y.2.2.1 v, max y.2.2.2 v)
def foldZ (y : Q4) (l : List Int) : Q4 := l.foldl stepZ y
def mergeZ (x y : Q4) : Q4 := if x.1 = 0 then y else if y.1 = 0 then x else (x.1 + y.1, x.2.1 + y.2.1, min x.2.2.1 y.2.2.1, max x.2.2.2 y.2.2.2)

theorem foldI_foldZ : ∀ (l : List Int) (c s mi ma : Int) (y : Q4), foldI c s mi ma l = .inr y → foldZ (c, s, mi, ma) l = y
  | [], c, s, mi, ma, y, h => by simpa [foldI, foldZ] using h
  | v :: l, c, s, mi, ma, y, h => by
    unfold foldI at h
    split at h
    · rename_i h0
      have := foldI_foldZ l 1 v v v y h
      simpa [foldZ, stepZ, h0] using this
    · rename_i h0
      split at h
      · have := foldI_foldZ l _ _ _ _ y h
        simpa [foldZ, stepZ, h0] using this
      · cases h

theorem stepZ_nonneg (y : Q4) (v : Int) (h : 0 ≤ y.1) : 0 < (stepZ y v).1 := by
  unfold stepZ; split <;> simp <;> omega
theorem foldZ_nonneg : ∀ (l : List Int) (y : Q4), 0 ≤ y.1 → 0 ≤ (foldZ y l).1
  | [], y, h => h
  | v :: l, y, h => foldZ_nonneg l (stepZ y v) (by have := stepZ_nonneg y v h; omega)

theorem mergeZ_step (x y : Q4) (v : Int) (hx : 0 ≤ x.1) (hy : 0 ≤ y.1) : mergeZ x (stepZ y v) = stepZ (mergeZ x y) v := by
  obtain ⟨c, s, mi, ma⟩ := x
  obtain ⟨c', s', mi', ma'⟩ := y
  simp only at hx hy
  by_cases h : c = 0
  · subst h; simp [mergeZ]
  · by_cases h' : c' = 0
    · subst h'; simp [mergeZ, stepZ, h]
    · have h1 : ¬ c' + 1 = 0 := by omega
      have h2 : ¬ c + c' = 0 := by omega
      simp [mergeZ, stepZ, h, h', h1, h2]
      omega

theorem mergeZ_fold : ∀ (l : List Int) (x y : Q4), 0 ≤ x.1 → 0 ≤ y.1 → mergeZ x (foldZ y l) = foldZ (mergeZ x y) l
  | [], _, _, _, _ => rfl
  | v :: l, x, y, hx, hy => by
    show mergeZ x (foldZ (stepZ y v) l) = foldZ (stepZ (mergeZ x y) v) l
    rw [mergeZ_fold l x (stepZ y v) hx (by have := stepZ_nonneg y v hy; omega), mergeZ_step x y v hx hy]

theorem mergeZ_zero (x : Q4) (h : x.1 = 0 → x = (0, 0, 0, 0)) : mergeZ x (0, 0, 0, 0) = x := by
  unfold mergeZ; split
  · rename_i h0; exact (h h0).symm
  · rfl

theorem foldZ_zero (l : List Int) : (foldZ (0, 0, 0, 0) l).1 = 0 → foldZ (0, 0, 0, 0) l = (0, 0, 0, 0) := by
  cases l with
  | nil => intro _; rfl
  | cons v l =>
    intro h
    exfalso
    have h1 : ∀ (l : List Int) (y : Q4), 0 < y.1 → 0 < (foldZ y l).1 := by
      intro l
      induction l with
      | nil => intro y h; exact h
      | cons v l ih => intro y h; exact ih (stepZ y v) (stepZ_nonneg y v (by omega))
    have := h1 l (stepZ (0, 0, 0, 0) v) (stepZ_nonneg _ v (by simp))
    have h' : (foldZ (stepZ (0, 0, 0, 0) v) l).1 = 0 := h
    omega

theorem foldZ_append (a b : List Int) : foldZ (0, 0, 0, 0) (a ++ b) = mergeZ (foldZ (0, 0, 0, 0) a) (foldZ (0, 0, 0, 0) b) := by
  rw [mergeZ_fold b _ _ (foldZ_nonneg a _ (by simp)) (by simp), mergeZ_zero _ (foldZ_zero a)]
  simp [foldZ]

theorem mergeZ_comm (x y : Q4) (hx : x.1 = 0 → x = (0, 0, 0, 0)) (hy : y.1 = 0 → y = (0, 0, 0, 0)) : mergeZ x y = mergeZ y x := by
  unfold mergeZ
  by_cases h : x.1 = 0
  · by_cases h' : y.1 = 0
    · simp [hx h, hy h']
    · simp [h, h']
  · by_cases h' : y.1 = 0
    · simp [h, h']
    · simp [h, h', Int.add_comm, Int.min_comm, Int.max_comm]

def RightQ (y : Q4) : Prop := RightP y.1 y.2.1 y.2.2.1 y.2.2.2
theorem stepZ_right (y : Q4) (v : Int) (h : RightQ y) : RightQ (stepZ y v) := by
  unfold stepZ; split
  · exact .inr (.inl ⟨rfl, rfl, rfl⟩)
  · rename_i h0; exact right_put _ _ _ _ v h h0
theorem foldZ_right : ∀ (l : List Int) (y : Q4), RightQ y → RightQ (foldZ y l)
  | [], _, h => h
  | v :: l, y, h => foldZ_right l (stepZ y v) (stepZ_right y v h)
theorem foldZ0_right (l : List Int) : RightQ (foldZ (0, 0, 0, 0) l) := foldZ_right l _ (.inl ⟨rfl, rfl, rfl, rfl⟩)
theorem stepZ_count (y : Q4) (v : Int) : (stepZ y v).1 = y.1 + 1 := by
  unfold stepZ; split <;> simp; omega
theorem foldZ_count : ∀ (l : List Int) (y : Q4), (foldZ y l).1 = y.1 + l.length
  | [], y => by simp [foldZ]
  | v :: l, y => by
    have := foldZ_count l (stepZ y v)
    rw [stepZ_count] at this
    show (foldZ (stepZ y v) l).1 = _
    simp; omega

/-- What Merge answers: the merge, or that the sum of the sums does not fit (the counts' sum fits). -/
theorem orders_facts (a b : List Int) (x y : Q4) (hx : foldI 0 0 0 0 a = .inr x) (hy : foldI 0 0 0 0 b = .inr y) :
    mergeZ x y = mergeZ y x ∧ RightQ (mergeZ x y) ∧ (∀ z, foldI 0 0 0 0 (a ++ b) = .inr z → z = mergeZ x y) ∧ (x.1 = 0 → x = (0, 0, 0, 0)) ∧ (y.1 = 0 → y = (0, 0, 0, 0)) ∧ x.1 = a.length ∧ y.1 = b.length := by
  have ex := foldI_foldZ a _ _ _ _ _ hx
  have ey := foldI_foldZ b _ _ _ _ _ hy
  have e := foldZ_append a b
  rw [ex, ey] at e
  have zx := foldZ_zero a
  have zy := foldZ_zero b
  rw [ex] at zx
  rw [ey] at zy
  have cx := foldZ_count a (0, 0, 0, 0)
  have cy := foldZ_count b (0, 0, 0, 0)
  rw [ex] at cx
  rw [ey] at cy
  refine ⟨mergeZ_comm x y zx zy, e ▸ foldZ0_right (a ++ b), fun z hz => ?_, zx, zy, by simpa using cx, by simpa using cy⟩
  have := foldI_foldZ (a ++ b) _ _ _ _ _ hz
  rw [← this, e]
end Go.Proofs.Ytikacbfpeegcdaa
