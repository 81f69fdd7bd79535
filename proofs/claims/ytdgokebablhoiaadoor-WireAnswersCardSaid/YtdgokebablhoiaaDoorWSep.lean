/- Things that own memory, side by side: what one of them does leaves the others as they were. -/
import Derived.Test.YtdgokebablhoiaaDoorWOwO
import Derived.Test.YtdgokebablhoiaaDoorWNext
namespace Go.Proofs.YtdgokebablhoiaaDoor
open Go.RowKit

/-- A thing: the blocks it owns, what holds of it; that stays where none of its blocks is turned. -/
structure Rsc where
  own : List Nat
  ok : World → Prop
  st : ∀ (S : Nat → Prop) (W W' : World), Tur S W W' → (∀ k ∈ own, ¬ S k) → ok W → ok W'
def Sep (lo : Nat) (W : World) (L : List Rsc) : Prop :=
  (∀ R ∈ L, R.ok W) ∧ (∀ R ∈ L, ∀ k ∈ R.own, lo ≤ k ∧ k < W.heap.size) ∧ L.Pairwise (fun R R' => ∀ k ∈ R.own, k ∉ R'.own)
section
variable {lo : Nat} {W W' : World} {L L' L1 L2 M N : List Rsc} {S : Nat → Prop}
theorem Sep.perm (h : Sep lo W L) (hp : L.Perm L') : Sep lo W L' :=
  ⟨fun R hR => h.1 R (hp.mem_iff.2 hR), fun R hR => h.2.1 R (hp.mem_iff.2 hR), (hp.pairwise_iff (fun hab k hk hk' => hab k hk' hk)).1 h.2.2⟩
theorem Sep.ok {R : Rsc} (h : Sep lo W L) (hR : R ∈ L) : R.ok W := h.1 R hR
/-- What turns only M's blocks puts N in M's place. -/
theorem Sep.swap (h : Sep lo W (M ++ L)) (ht : Tur S W W') (hS : ∀ k, k < W.heap.size → S k → ∃ R ∈ M, k ∈ R.own) (hlo : lo ≤ W.heap.size)
    (hN : ∀ R ∈ N, R.ok W') (hown : ∀ R ∈ N, ∀ k ∈ R.own, ((∃ R' ∈ M, k ∈ R'.own) ∨ W.heap.size ≤ k) ∧ k < W'.heap.size) (hp : N.Pairwise (fun R R' => ∀ k ∈ R.own, k ∉ R'.own)) : Sep lo W' (N ++ L) := by
  obtain ⟨h1, h2, h3⟩ := h
  rw [List.pairwise_append] at h3
  obtain ⟨h3, h4, h5⟩ := h3
  have hL : ∀ R ∈ L, ∀ k ∈ R.own, k < W.heap.size := fun R hR k hk => (h2 R (List.mem_append_right _ hR) k hk).2
  refine ⟨fun R hR => ?_, fun R hR k hk => ?_, ?_⟩
  · rcases List.mem_append.1 hR with e | e
    · exact hN R e
    · refine R.st S W W' ht (fun k hk hs => ?_) (h1 R (List.mem_append_right _ e))
      obtain ⟨R', hR', hk'⟩ := hS k (hL R e k hk) hs
      exact h5 R' hR' R e k hk' hk
  · rcases List.mem_append.1 hR with e | e
    · obtain ⟨h6, h7⟩ := hown R e k hk
      refine ⟨?_, h7⟩
      rcases h6 with ⟨R', hR', hk'⟩ | h6
      · exact (h2 R' (List.mem_append_left _ hR') k hk').1
      · omega
    · have := h2 R (List.mem_append_right _ e) k hk
      exact ⟨this.1, Nat.lt_of_lt_of_le this.2 ht.size⟩
  · rw [List.pairwise_append]
    refine ⟨hp, h4, fun R hR R2 hR2 k hk hk2 => ?_⟩
    rcases (hown R hR k hk).1 with ⟨R', hR', hk'⟩ | h6
    · exact h5 R' hR' R2 hR2 k hk' hk2
    · have := hL R2 hR2 k hk2
      omega
theorem Sep.kept (h : Sep lo W L) (hb : Below W.heap.size W W') (hlo : lo ≤ W.heap.size) : Sep lo W' L :=
  Sep.swap (M := []) (N := []) (S := fun _ => False) h (Tur.of_below hb) (fun _ _ hs => hs.elim) hlo (fun R hR => by cases hR) (fun R hR => by cases hR) List.Pairwise.nil
/-- One thing turns. -/
theorem Sep.one {R R' : Rsc} (h : Sep lo W (R :: L)) (ht : Tur S W W') (hS : ∀ k, k < W.heap.size → S k → k ∈ R.own) (hlo : lo ≤ W.heap.size) (hok : R'.ok W') (hown : ∀ k ∈ R'.own, (k ∈ R.own ∨ W.heap.size ≤ k) ∧ k < W'.heap.size) : Sep lo W' (R' :: L) :=
  Sep.swap (M := [R]) (N := [R']) h ht (fun k hk hs => ⟨R, List.mem_singleton.2 rfl, hS k hk hs⟩) hlo (fun R2 hR2 => by rw [List.mem_singleton] at hR2; subst hR2; exact hok)
    (fun R2 hR2 k hk => by rw [List.mem_singleton] at hR2; subst hR2; exact ⟨(hown k hk).1.elim (fun e => .inl ⟨R, List.mem_singleton.2 rfl, e⟩) .inr, (hown k hk).2⟩) (List.pairwise_singleton _ _)
theorem Sep.add {R' : Rsc} (h : Sep lo W L) (ht : Below W.heap.size W W') (hlo : lo ≤ W.heap.size) (hok : R'.ok W') (hown : ∀ k ∈ R'.own, W.heap.size ≤ k ∧ k < W'.heap.size) : Sep lo W' (R' :: L) :=
  Sep.swap (M := []) (N := [R']) (S := fun _ => False) h (Tur.of_below ht) (fun k hk hs => hs.elim) hlo (fun R2 hR2 => by rw [List.mem_singleton] at hR2; subst hR2; exact hok)
    (fun R2 hR2 k hk => by rw [List.mem_singleton] at hR2; subst hR2; exact ⟨.inr (hown k hk).1, (hown k hk).2⟩) (List.pairwise_singleton _ _)
theorem Sep.below {R : Rsc} (h : Sep lo W (R :: L)) (ht : Tur S W W') (hS : ∀ k, k < W.heap.size → S k → k ∈ R.own) (hlo : lo ≤ W.heap.size) : Below lo W W' :=
  ⟨ht.os, ht.tape, ht.output, ht.size, fun k hk => ht.block k (by omega) (fun hs => by have := (h.2.1 R (List.mem_cons_self ..) k (hS k (by omega) hs)).1; omega)⟩
/-- The thing at place n comes to the front. -/
theorem perm_front {α : Type} (l : List α) (n : Nat) (h : n < l.length) : l.Perm (l[n] :: (l.take n ++ l.drop (n + 1))) := by
  have e : l = l.take n ++ l[n] :: l.drop (n + 1) := by
    conv => lhs; rw [← List.take_append_drop n l, List.drop_eq_getElem_cons h]
  conv => lhs; rw [e]
  exact List.perm_middle
theorem perm_set {α : Type} (l : List α) (n : Nat) (h : n < l.length) (x : α) : (l.set n x).Perm (x :: (l.take n ++ l.drop (n + 1))) := by
  have h' : n < (l.set n x).length := by rw [List.length_set]; exact h
  have := perm_front (l.set n x) n h'
  rw [List.getElem_set_self, List.take_set_of_le (Nat.le_refl _), List.drop_set_of_lt (Nat.lt_succ_self n)] at this
  exact this
end
/-- A Frames. -/
def rFm (base q : Nat) (most : Int) (v : Value) (bs : List Int) : Rsc where
  own := q :: v.ownBlock.toList
  ok W := Fm W base q most v bs
  st _ _ _ ht hS h := ⟨h.blk.tur ht (hS q (List.mem_cons_self ..)), ownsRow_tur h.own ht (fun k hk => hS k (by simp [hk])), h.ne, h.base⟩
/-- A row of bytes. -/
def rRow (base : Nat) (v : Value) (xs : List Int) : Rsc where
  own := v.ownBlock.toList
  ok W := OwO W base v xs
  st _ _ _ ht hS h := h.kept ht (fun k hk => hS k (by simp [hk]))
/-- A row of rows. -/
def rRows (base : Nat) (v : Value) (n : Nat) (vs : List Value) : Rsc where
  own := v.ownBlock.toList
  ok W := W.ownsRow base 24 1 v n vs
  st _ _ _ ht hS h := ownsRow_tur h ht (fun k hk => hS k (by simp [hk]))
/-- A block of bytes. -/
def rBlk (g : Nat) (cur : Array Value) : Rsc where
  own := [g]
  ok W := Blk W g 5 cur
  st _ _ _ ht hS h := h.tur ht (hS g (List.mem_singleton.2 rfl))
end Go.Proofs.YtdgokebablhoiaaDoor
