/- Plain: sorted and made compact, or put in one by one: the same row of shards. -/
import Derived.Lib.RowBridge
namespace Go.Proofs.YtglbdbghcdoicaaGreatDoor

/-- One more, where it belongs, unless it is there. -/
def insP (x : Int) : List Int → List Int
  | [] => [x]
  | y :: ys => if y < x then y :: insP x ys else if y = x then y :: ys else x :: y :: ys
theorem insP_mem (x z : Int) : ∀ l, z ∈ insP x l ↔ z = x ∨ z ∈ l
  | [] => by simp [insP]
  | y :: ys => by
    unfold insP
    by_cases h1 : y < x
    · rw [if_pos h1, List.mem_cons, insP_mem x z ys, List.mem_cons]
      constructor
      · rintro (h | h | h)
        · exact .inr (.inl h)
        · exact .inl h
        · exact .inr (.inr h)
      · rintro (h | h | h)
        · exact .inr (.inl h)
        · exact .inl h
        · exact .inr (.inr h)
    · rw [if_neg h1]
      by_cases h2 : y = x
      · rw [if_pos h2]
        subst h2
        simp
      · rw [if_neg h2, List.mem_cons]
theorem insP_sorted (x : Int) : ∀ l, l.Pairwise (· < ·) → (insP x l).Pairwise (· < ·)
  | [], _ => by simp [insP]
  | y :: ys, h => by
    have h' := List.pairwise_cons.1 h
    unfold insP
    by_cases h1 : y < x
    · rw [if_pos h1]
      refine List.pairwise_cons.2 ⟨fun z hz => ?_, insP_sorted x ys h'.2⟩
      rcases (insP_mem x z ys).1 hz with e | e
      · omega
      · exact h'.1 z e
    · rw [if_neg h1]
      by_cases h2 : y = x
      · rw [if_pos h2]; exact h
      · rw [if_neg h2]
        refine List.pairwise_cons.2 ⟨fun z hz => ?_, h⟩
        rcases List.mem_cons.1 hz with e | e
        · omega
        · have := h'.1 z e; omega
theorem sorted_ext : ∀ a b : List Int, a.Pairwise (· < ·) → b.Pairwise (· < ·) → (∀ z, z ∈ a ↔ z ∈ b) → a = b
  | [], [], _, _, _ => rfl
  | [], y :: ys, _, _, h => absurd ((h y).2 (by simp)) (by simp)
  | x :: xs, [], _, _, h => absurd ((h x).1 (by simp)) (by simp)
  | x :: xs, y :: ys, ha, hb, h => by
    have ha' := List.pairwise_cons.1 ha
    have hb' := List.pairwise_cons.1 hb
    have e : x = y := by
      have h1 := List.mem_cons.1 ((h x).1 (by simp))
      have h2 := List.mem_cons.1 ((h y).2 (by simp))
      rcases h1 with h1 | h1
      · exact h1
      · rcases h2 with h2 | h2
        · exact h2.symm
        · have := hb'.1 x h1; have := ha'.1 y h2; omega
    subst e
    rw [sorted_ext xs ys ha'.2 hb'.2 (fun z => ?_)]
    constructor
    · intro hz
      rcases List.mem_cons.1 ((h z).1 (List.mem_cons.2 (.inr hz))) with e | e
      · have := ha'.1 z hz; omega
      · exact e
    · intro hz
      rcases List.mem_cons.1 ((h z).2 (List.mem_cons.2 (.inr hz))) with e | e
      · have := hb'.1 z hz; omega
      · exact e
section
open Go.Lib
variable (d : Array Int) (hd : ∀ i j, i ≤ j → j < d.size → d[i]! ≤ d[j]!)
include hd
theorem compact_inv : ∀ m, m ≤ d.size → (compactUpTo d m).Pairwise (· < ·) ∧ (∀ z, z ∈ compactUpTo d m ↔ ∃ j, j < m ∧ d[j]! = z)
  | 0, _ => by simp [compactUpTo]
  | m + 1, hm => by
    obtain ⟨h1, h2⟩ := compact_inv m (by omega)
    rw [compactUpTo_succ]
    by_cases hk : keeps d m = true
    · rw [if_pos hk]
      refine ⟨List.pairwise_append.2 ⟨h1, by simp, fun x hx y hy => ?_⟩, fun z => ?_⟩
      · obtain rfl := List.mem_singleton.1 hy
        obtain ⟨j, hj, rfl⟩ := (h2 x).1 hx
        have hne : d[m]! ≠ d[m - 1]! := by
          have : m ≠ 0 := by omega
          simpa [keeps, this] using hk
        have h3 := hd j (m - 1) (by omega) (by omega)
        have h4 := hd (m - 1) m (by omega) (by omega)
        omega
      · rw [List.mem_append, h2 z, List.mem_singleton]
        constructor
        · rintro (⟨j, hj, e⟩ | e)
          · exact ⟨j, by omega, e⟩
          · exact ⟨m, by omega, e.symm⟩
        · rintro ⟨j, hj, e⟩
          by_cases hjm : j = m
          · subst hjm; exact .inr e.symm
          · exact .inl ⟨j, by omega, e⟩
    · rw [if_neg hk, List.append_nil]
      refine ⟨h1, fun z => ?_⟩
      rw [h2 z]
      constructor
      · rintro ⟨j, hj, e⟩
        exact ⟨j, by omega, e⟩
      · rintro ⟨j, hj, e⟩
        by_cases hjm : j = m
        · subst hjm
          have hne : j ≠ 0 ∧ d[j]! = d[j - 1]! := by
            by_cases h0 : j = 0
            · subst h0; simp [keeps] at hk
            · exact ⟨h0, by simpa [keeps, h0] using hk⟩
          exact ⟨j - 1, by omega, by rw [← e]; exact hne.2.symm⟩
        · exact ⟨j, by omega, e⟩
end
theorem sorted_get {l : List Int} (h : l.Pairwise (· ≤ ·)) : ∀ i j, i ≤ j → j < l.toArray.size → l.toArray[i]! ≤ l.toArray[j]! := by
  intro i j hij hj
  have hj' : j < l.length := by simpa using hj
  have hi' : i < l.length := by omega
  rcases Nat.lt_or_ge i j with h1 | h1
  · have := List.pairwise_iff_getElem.1 h i j hi' hj' h1
    simpa [hi', hj'] using this
  · have : i = j := by omega
    subst this; exact Int.le_refl _
theorem mem_bang (l : List Int) (z : Int) : (∃ j, j < l.length ∧ l.toArray[j]! = z) ↔ z ∈ l := by
  rw [List.mem_iff_getElem]
  constructor
  · rintro ⟨j, hj, e⟩
    exact ⟨j, hj, by simpa [hj] using e⟩
  · rintro ⟨j, hj, e⟩
    exact ⟨j, hj, by simpa [hj] using e⟩
/-- Sorted and made compact: rising, each once. -/
def shardsP (zs : List Int) : List Int := Go.Lib.compact (zs.mergeSort fun x y => decide (x ≤ y))
theorem mergeSort_le (zs : List Int) : (zs.mergeSort fun x y => decide (x ≤ y)).Pairwise (· ≤ ·) := by
  have := List.pairwise_mergeSort (le := fun x y : Int => decide (x ≤ y)) (fun a b c h1 h2 => by simp at *; omega) (fun a b => by simp; omega) zs
  exact this.imp (fun h => by simpa using h)
theorem shardsP_sorted (zs : List Int) : (shardsP zs).Pairwise (· < ·) := by
  have h := compact_inv _ (sorted_get (mergeSort_le zs)) (zs.mergeSort fun x y => decide (x ≤ y)).length (by simp)
  exact h.1
theorem shardsP_mem (zs : List Int) (z : Int) : z ∈ shardsP zs ↔ z ∈ zs := by
  have h := compact_inv _ (sorted_get (mergeSort_le zs)) (zs.mergeSort fun x y => decide (x ≤ y)).length (by simp)
  have h2 := h.2 z
  refine Iff.trans (b := z ∈ zs.mergeSort fun x y => decide (x ≤ y)) ?_ List.mem_mergeSort
  exact Iff.trans h2 (mem_bang _ z)
theorem shardsP_len (zs : List Int) : (shardsP zs).length ≤ zs.length := by
  have := Go.Lib.compact_length_le (zs.mergeSort fun x y => decide (x ≤ y))
  simpa [shardsP] using this
/-- The document's: one by one. -/
def insAll (zs : List Int) : List Int := zs.foldl (fun l x => insP x l) []
theorem insAll_any (zs : List Int) : ∀ l, l.Pairwise (· < ·) → (zs.foldl (fun l x => insP x l) l).Pairwise (· < ·) ∧ ∀ z, z ∈ zs.foldl (fun l x => insP x l) l ↔ z ∈ l ∨ z ∈ zs := by
  induction zs with
  | nil => intro l h; simp [h]
  | cons x xs ih =>
    intro l h
    obtain ⟨h1, h2⟩ := ih (insP x l) (insP_sorted x l h)
    refine ⟨h1, fun z => ?_⟩
    rw [List.foldl_cons, h2 z, insP_mem, List.mem_cons]
    constructor
    · rintro ((h | h) | h)
      · exact .inr (.inl h)
      · exact .inl h
      · exact .inr (.inr h)
    · rintro (h | h | h)
      · exact .inl (.inr h)
      · exact .inl (.inl h)
      · exact .inr h
theorem insAll_eq (zs : List Int) : insAll zs = shardsP zs :=
  sorted_ext _ _ (insAll_any zs [] (by simp)).1 (shardsP_sorted zs) (fun z => by rw [shardsP_mem, insAll, (insAll_any zs [] (by simp)).2 z]; simp)
end Go.Proofs.YtglbdbghcdoicaaGreatDoor
