/- Rows of bytes with their bulk. -/
import Derived.Test.YtdgokebablhoiaaDoorWRows
import Derived.Test.YtdgokebablhoiaaDoorWCall
namespace Go.Proofs.YtdgokebablhoiaaDoor
open Go.ChangeShapes Go.WideShapes Go.ChangeAt Go.RowKit Go.Deep

theorem bulk_len {H : Type} (l : List (DataW H)) : l.length ≤ Rows.uptoBulkAll l := by
  induction l with
  | nil => simp
  | cons x r ih => have := bulk_one x; simp only [Rows.uptoBulkAll, List.length_cons]; omega
section
variable {H : Type} {enc : TypeId × Value → H} {P : Program} {W : World}
theorem row_at_b {t e : TypeId} {fuel : Nat} {v : Value} {x : DataW H × List MemPlace} (ht : P.underlying t = some (.slice e)) (he : P.underlying e = some (.int .u8)) (hc : P.cellsOf e = 1)
    (h : DataW.trod enc P W 0 (fun _ => true) true fuel t [v] = some x) : ∃ b : Bw, v = b.v ∧ b.Ok W ∧ b.n ≤ Rows.uptoBulk x.1 ∧ (P.bytesOf e = 1 → ∀ B, (∀ n ∈ x.1.weights P t, n ≤ B) → b.n ≤ B) := by
  rcases open_ints ht he hc h with ⟨hcs, _⟩ | ⟨a, len, cap, zs, hcs, _, hl, hm, hz, hx, hcell, hwf⟩
  · simp at hcs
    subst hcs
    exact ⟨⟨none, 0, 0, []⟩, rfl, ⟨rfl, fun k hk => absurd hk (by simp [bvs]), fun _ => rfl, (fun x hx => by cases hx), Nat.le_refl _, Nat.zero_le _⟩, Nat.zero_le _, fun _ _ _ => Nat.zero_le _⟩
  · simp at hcs
    subst hcs
    have hzc : zs.length = cap := by simpa using hz
    refine ⟨⟨some a, len, cap, zs.take len⟩, rfl, ⟨by simp; omega, fun k hk => ?_, (fun h => by cases h), fun x hx => hwf x (List.mem_of_mem_take hx), hl, Nat.le_trans hl hm⟩, ?_, fun hb B hB => ?_⟩
    rotate_left
    · rw [hx]
      have := bulk_len (lits (H := H) .u8 (zs.take len))
      have h2 : (lits (H := H) .u8 (zs.take len)).length = len := by simp [lits]; omega
      simp only [Rows.uptoBulk]
      omega
    · rw [hx] at hB
      simp only [DataW.weights, ht] at hB
      have := hB _ (List.mem_cons_self ..)
      rw [hb, Nat.mul_one] at this
      simp [lits] at this
      show len ≤ B
      omega
    have hk' : k < len := by rw [bvs_len] at hk; simp at hk; omega
    have h1 := hcell k (by omega)
    have h2 : zs.getD k 0 = (zs.take len)[k]'(by simp; omega) := by
      rw [List.getElem_take, List.getD_eq_getElem?_getD, List.getElem?_eq_getElem (by omega)]; rfl
    rw [h2] at h1
    exact ⟨a, rfl, by have := World.block_lt_of_cell? W _ h1; rwa [block_add] at this, by rw [h1]; simp [bvs]⟩
theorem rows_at_bulk {t t1 e : TypeId} {A : Option Addr} {n c : Nat} {d : DataW H} {p : List MemPlace} (ht : P.underlying t = some (.slice t1)) (h1 : P.cellsOf t1 = 1) (ht1 : P.underlying t1 = some (.slice e)) (he : P.underlying e = some (.int .u8)) (hc : P.cellsOf e = 1)
    (h : DataW.Trod enc P W 0 (fun _ => true) true t (.slice A n c) d p) : ∃ bs : List Bw, bs.length = n ∧ RowsAt W A bs ∧ (∀ b ∈ bs, b.Ok W) ∧ (∀ b ∈ bs, b.n ≤ Rows.uptoBulk d) ∧ n ≤ Rows.uptoBulk d ∧ (P.bytesOf e = 1 → ∀ B, (∀ n ∈ d.weights P t, n ≤ B) → ∀ b ∈ bs, b.n ≤ B) := by
  obtain ⟨fuel, hf⟩ := h
  rcases open_slice1 ht h1 hf with ⟨hcs, _⟩ | ⟨a, len, cap, m, k, V, D, Pl, hcs, _, hl, hm, hmm, hx1, hi⟩
  · simp [Value.cells] at hcs
    obtain ⟨rfl, rfl, rfl⟩ := hcs
    exact ⟨[], rfl, fun k hk => absurd hk (by simp), (fun x hx => by cases hx), (fun x hx => by cases hx), Nat.zero_le _, fun _ _ _ x hx => by cases hx⟩
  · simp [Value.cells] at hcs
    obtain ⟨rfl, rfl, rfl⟩ := hcs
    have hD : ∀ i, i < n → ∃ b : Bw, W.cell? (a.add i) = some b.v ∧ b.Ok W ∧ b.n ≤ Rows.uptoBulk (D i) ∧ (P.bytesOf e = 1 → ∀ B, (∀ n ∈ (D i).weights P t1, n ≤ B) → b.n ≤ B) := fun i hin => by
      obtain ⟨hc1, ht2⟩ := hi i (by rw [hmm]; simp only [if_true]; omega)
      obtain ⟨b, hv, hb, hbk⟩ := row_at_b ht1 he hc ht2
      exact ⟨b, by rw [hc1, hv], hb, hbk⟩
    obtain ⟨F, hF⟩ := choose_lt hD
    refine ⟨(List.range n).map F, by simp, fun k hk => ?_, fun x hx => ?_, fun x hx => ?_, ?_, fun hb B hB x hx => ?_⟩
    · have hk' : k < n := by simpa using hk
      have h0 := (hF k hk').1
      refine ⟨a, rfl, ?_, by simpa using h0⟩
      have := World.block_lt_of_cell? W _ h0
      rwa [block_add] at this
    · obtain ⟨i, hi, rfl⟩ := List.mem_map.1 hx
      exact (hF i (List.mem_range.1 hi)).2.1
    · obtain ⟨i, hi, rfl⟩ := List.mem_map.1 hx
      refine Nat.le_trans (hF i (List.mem_range.1 hi)).2.2.1 ?_
      injection hx1 with hx1 _
      rw [hx1]
      have := bulk_part (List.mem_map_of_mem (f := D) hi)
      simp only [Rows.uptoBulk]
      omega
    · injection hx1 with hx1 _
      rw [hx1]
      have := bulk_len ((List.range n).map D)
      rw [List.length_map, List.length_range] at this
      simp only [Rows.uptoBulk]
      omega
    · obtain ⟨i, hi, rfl⟩ := List.mem_map.1 hx
      injection hx1 with hx1 _
      refine (hF i (List.mem_range.1 hi)).2.2.2 hb B (fun m hm => hB m ?_)
      rw [hx1]
      simp only [DataW.weights, ht]
      exact List.mem_cons_of_mem _ (List.mem_append_left _ (weightsAll_at (List.mem_map_of_mem (f := D) hi) m hm))
end
end Go.Proofs.YtdgokebablhoiaaDoor
