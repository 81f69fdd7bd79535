/- A slice of slices of bytes that came in, as a list of rows. -/
import Derived.Test.YtglbdbghcdoicaaGreatDoorWRows
import Derived.Deep.Slices
namespace Go.Proofs.YtglbdbghcdoicaaGreatDoor
open Go.ChangeShapes Go.WideShapes Go.ChangeAt Go.RowKit Go.Deep

/-- A row: its slice, its bytes. -/
structure Bw where
  A : Option Addr
  n : Nat
  c : Nat
  xs : List Int
instance : Inhabited Bw := ⟨⟨none, 0, 0, []⟩⟩
abbrev Bw.v (b : Bw) : Value := .slice b.A b.n b.c
structure Bw.Ok (W : World) (b : Bw) : Prop where
  len : b.xs.length = b.n
  cells : CellsAt W b.A (bvs b.xs)
  none_ : b.A = none → b.c = 0
  wf : ∀ x ∈ b.xs, (Lit.int .u8 x).wf = true
  cap : b.n ≤ b.c
  big : b.n ≤ maxLen
def RowsAt (W : World) (A : Option Addr) (bs : List Bw) : Prop :=
  ∀ k (h : k < bs.length), ∃ ad, A = some ad ∧ ad.block < W.heap.size ∧ W.cell? (ad.add k) = some bs[k].v
theorem RowsAt.at {W W' : World} {A : Option Addr} {bs : List Bw} (h : RowsAt W A bs) (hb : Below W.heap.size W W') (k : Nat) (hk : k < bs.length) : ∃ ad, A = some ad ∧ W'.cell? (ad.add k) = some bs[k].v := by
  obtain ⟨ad, e, hl, hc⟩ := h k hk
  exact ⟨ad, e, (hb.cell (by rw [block_add]; exact hl)).trans hc⟩
theorem Bw.Ok.kept {W W' : World} {b : Bw} (h : b.Ok W) (hb : Below W.heap.size W W') : b.Ok W' := ⟨h.len, h.cells.below hb, h.none_, h.wf, h.cap, h.big⟩

section
variable {H : Type} {enc : TypeId × Value → H} {P : Program} {W : World}
theorem row_at {t e : TypeId} {fuel : Nat} {v : Value} {x : DataW H × List MemPlace} (ht : P.underlying t = some (.slice e)) (he : P.underlying e = some (.int .u8)) (hc : P.cellsOf e = 1)
    (h : DataW.trod enc P W 0 (fun _ => true) true fuel t [v] = some x) : ∃ b : Bw, v = b.v ∧ b.Ok W := by
  rcases open_ints ht he hc h with ⟨hcs, _⟩ | ⟨a, len, cap, zs, hcs, _, hl, hm, hz, hx, hcell, hwf⟩
  · simp at hcs
    subst hcs
    exact ⟨⟨none, 0, 0, []⟩, rfl, rfl, fun k hk => absurd hk (by simp [bvs]), fun _ => rfl, (fun x hx => by cases hx), Nat.le_refl _, Nat.zero_le _⟩
  · simp at hcs
    subst hcs
    have hzc : zs.length = cap := by simpa using hz
    refine ⟨⟨some a, len, cap, zs.take len⟩, rfl, by simp; omega, fun k hk => ?_, (fun h => by cases h), fun x hx => hwf x (List.mem_of_mem_take hx), hl, Nat.le_trans hl hm⟩
    have hk' : k < len := by rw [bvs_len] at hk; simp at hk; omega
    have h1 := hcell k (by omega)
    have h2 : zs.getD k 0 = (zs.take len)[k]'(by simp; omega) := by
      rw [List.getElem_take, List.getD_eq_getElem?_getD, List.getElem?_eq_getElem (by omega)]; rfl
    rw [h2] at h1
    exact ⟨a, rfl, by have := World.block_lt_of_cell? W _ h1; rwa [block_add] at this, by rw [h1]; simp [bvs]⟩
theorem rows_at_arg {t t1 e : TypeId} {A : Option Addr} {n c : Nat} {d : DataW H} {p : List MemPlace} (ht : P.underlying t = some (.slice t1)) (h1 : P.cellsOf t1 = 1) (ht1 : P.underlying t1 = some (.slice e)) (he : P.underlying e = some (.int .u8)) (hc : P.cellsOf e = 1)
    (h : DataW.Trod enc P W 0 (fun _ => true) true t (.slice A n c) d p) : ∃ bs : List Bw, bs.length = n ∧ RowsAt W A bs ∧ (∀ b ∈ bs, b.Ok W) := by
  obtain ⟨fuel, hf⟩ := h
  rcases open_slice1 ht h1 hf with ⟨hcs, _⟩ | ⟨a, len, cap, m, k, V, D, Pl, hcs, _, hl, hm, hmm, hx, hi⟩
  · simp [Value.cells] at hcs
    obtain ⟨rfl, rfl, rfl⟩ := hcs
    exact ⟨[], rfl, fun k hk => absurd hk (by simp), (fun x hx => by cases hx)⟩
  · simp [Value.cells] at hcs
    obtain ⟨rfl, rfl, rfl⟩ := hcs
    have hD : ∀ i, i < n → ∃ b : Bw, W.cell? (a.add i) = some b.v ∧ b.Ok W := fun i hin => by
      obtain ⟨hc1, ht2⟩ := hi i (by rw [hmm]; simp only [if_true]; omega)
      obtain ⟨b, hv, hb⟩ := row_at ht1 he hc ht2
      exact ⟨b, by rw [hc1, hv], hb⟩
    obtain ⟨F, hF⟩ := choose_lt hD
    refine ⟨(List.range n).map F, by simp, fun k hk => ?_, fun x hx => ?_⟩
    · have hk' : k < n := by simpa using hk
      have h0 := (hF k hk').1
      refine ⟨a, rfl, ?_, by simpa using h0⟩
      have := World.block_lt_of_cell? W _ h0
      rwa [block_add] at this
    · obtain ⟨i, hi, rfl⟩ := List.mem_map.1 hx
      exact (hF i (List.mem_range.1 hi)).2
theorem sints_at {t e : TypeId} {A : Option Addr} {n c : Nat} {d : DataW H} {p : List MemPlace} (ht : P.underlying t = some (.slice e)) (he : P.underlying e = some (.int .i64)) (hc : P.cellsOf e = 1)
    (h : DataW.Trod enc P W 0 (fun _ => true) true t (.slice A n c) d p) : ∃ zs : List Int, zs.length = n ∧ CellsAt W A (zs.map (Value.int .i64 ·)) ∧ n ≤ maxLen := by
  obtain ⟨fuel, hf⟩ := h
  rcases open_ints ht he hc hf with ⟨hcs, _⟩ | ⟨a, len, cap, zs, hcs, _, hl, hm, hz, hx, hcell, hwf⟩
  · simp [Value.cells] at hcs
    obtain ⟨rfl, rfl, rfl⟩ := hcs
    exact ⟨[], rfl, fun k hk => absurd hk (by simp), Nat.zero_le _⟩
  · simp [Value.cells] at hcs
    obtain ⟨rfl, rfl, rfl⟩ := hcs
    have hzc : zs.length = c := by simpa using hz
    refine ⟨zs.take n, by simp; omega, fun k hk => ?_, Nat.le_trans hl hm⟩
    have hk' : k < n := by simp at hk; omega
    have h1 := hcell k (by omega)
    have h2 : zs.getD k 0 = (zs.take n)[k]'(by simp; omega) := by
      rw [List.getElem_take, List.getD_eq_getElem?_getD, List.getElem?_eq_getElem (by omega)]; rfl
    rw [h2] at h1
    exact ⟨a, rfl, by have := World.block_lt_of_cell? W _ h1; rwa [block_add] at this, by rw [h1]; simp⟩
end
end Go.Proofs.YtglbdbghcdoicaaGreatDoor
