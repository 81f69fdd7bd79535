/- The Writer: a struct in memory with a row of bytes of its own; what its methods do to it. -/
import Derived.Test.YtglbdbghcdoicaaGreatDoorProg
import Derived.Test.YtglbdbghcdoicaaGreatDoorRows2
import Derived.OneCell
import Derived.Laws.BytesArg
namespace Go.Proofs.YtglbdbghcdoicaaGreatDoor
open Go.RowKit

theorem info_u8 : (Tryz.prog.info? 5).map (fun i => (i.zero, i.size, i.bytes)) = some (some (.int .u8 0), 1, 1) := by kernel_rfl

/-- Bytes as cells. -/
def bvs (xs : List Int) : List Value := xs.map (Value.int .u8 ·)
theorem bvs_len (xs : List Int) : (bvs xs).length = xs.length := by simp [bvs]
theorem bvs_one (xs : List Int) : ∀ u ∈ bvs xs, u.oneCell' = true := fun u hu => by
  simp [bvs] at hu
  obtain ⟨a, _, rfl⟩ := hu
  rfl
theorem bvs_append (a b : List Int) : bvs (a ++ b) = bvs a ++ bvs b := by simp [bvs]

/-- The world is as it was but for the blocks that S names, and for new ones. -/
structure Tur (S : Nat → Prop) (w w' : World) : Prop where
  os : w'.os = w.os
  tape : w'.tape = w.tape
  output : w'.output = w.output
  size : w.heap.size ≤ w'.heap.size
  block : ∀ k, k < w.heap.size → ¬ S k → w'.heap[k]? = w.heap[k]?
section
variable {S S' : Nat → Prop} {w w1 w2 : World}
theorem Tur.refl (S : Nat → Prop) (w : World) : Tur S w w := ⟨rfl, rfl, rfl, Nat.le_refl _, fun _ _ _ => rfl⟩
theorem Tur.trans (h : Tur S w w1) (h' : Tur S' w1 w2) (hS : ∀ k, S' k → S k ∨ w.heap.size ≤ k) : Tur S w w2 :=
  ⟨h'.os.trans h.os, h'.tape.trans h.tape, h'.output.trans h.output, Nat.le_trans h.size h'.size, fun k hk hn => (h'.block k (Nat.lt_of_lt_of_le hk h.size) (fun hs => (hS k hs).elim hn (fun hle => absurd hk (by omega)))).trans (h.block k hk hn)⟩
theorem Tur.of_below (h : Below w.heap.size w w1) : Tur S w w1 := ⟨h.os, h.tape, h.output, h.size, fun k hk _ => h.block k hk⟩
theorem Tur.of_grown {row : Option Nat} (h : w.grownBy w1 row) (hr : ∀ k, row = some k → S k) : Tur S w w1 := ⟨h.os, h.tape, h.output, h.size, fun k hk hn => h.block k hk (fun e => hn (hr k e.symm))⟩
theorem Tur.below {B : Nat} (h : Tur S w w1) (hB : B ≤ w.heap.size) (hS : ∀ k, S k → B ≤ k) : Below B w w1 := ⟨h.os, h.tape, h.output, h.size, fun k hk => h.block k (by omega) (fun hs => by have := hS k hs; omega)⟩
theorem Tur.setCell (h : Tur S w w1) {p : Addr} (hp : S p.block ∨ w.heap.size ≤ p.block) (v : Value) : Tur S w (w1.setCell p v) :=
  ⟨h.os, h.tape, h.output, by have := h.size; simpa [World.setCell] using this, fun k hk hn => by
    rw [Below.heap_setCell w1 p v k (fun e => by subst e; exact hp.elim hn (fun hle => by omega))]
    exact h.block k hk hn⟩
theorem Tur.alloc (h : Tur S w w1) (o : Obj) : Tur S w (w1.alloc o) :=
  ⟨h.os, h.tape, h.output, by have := h.size; simp; omega, fun k hk hn => (Below.heap_alloc w1 o k (by have := h.size; omega)).trans (h.block k hk hn)⟩
theorem Blk.tur {t : TypeId} {g : Nat} {cs : Array Value} (h : Blk w g t cs) (ht : Tur S w w1) (hg : ¬ S g) : Blk w1 g t cs := (ht.block g h.lt hg).trans h
theorem ownsRow_tur {base : Nat} {e : TypeId} {size : Nat} {v : Value} {n : Nat} {xs : List Value} (h : w.ownsRow base e size v n xs) (ht : Tur S w w1) (hg : ∀ k, v.ownBlock = some k → ¬ S k) : w1.ownsRow base e size v n xs := by
  refine ⟨h.1, ?_⟩
  rcases h.2 with h0 | ⟨g, cap, cur, rfl, hb, hg', r⟩
  · exact .inl h0
  · refine .inr ⟨g, cap, cur, rfl, hb, ?_, r⟩
    have hlt : g < w.heap.size := by
      rcases Nat.lt_or_ge g w.heap.size with hlt | hge
      · exact hlt
      · rw [Array.getElem?_eq_none hge] at hg'; cases hg'
    rw [ht.block g hlt (hg g rfl)]
    exact hg'
end

/-- A Writer at block p: its slice v is a row of its own that holds these bytes. -/
structure Wr (W : World) (base p : Nat) (v : Value) (bs : List Int) : Prop where
  blk : Blk W p 167 #[v]
  own : W.ownsRow base 5 1 v bs.length (bvs bs)
  ne : v.ownBlock ≠ some p
  base : base ≤ p
/-- What a method of it turns. -/
def WrS (p : Nat) (v : Value) : Nat → Prop := fun k => k = p ∨ v.ownBlock = some k
def WrFr (W : World) (p : Nat) (v : Value) (W' : World) (v' : Value) : Prop := Tur (WrS p v) W W' ∧ (v'.ownBlock = v.ownBlock ∨ ∃ k, v'.ownBlock = some k ∧ W.heap.size ≤ k)
section
variable {W W1 W2 : World} {base p : Nat} {v v1 v2 : Value}
theorem WrFr.refl (W : World) (p : Nat) (v : Value) : WrFr W p v W v := ⟨Tur.refl _ _, .inl rfl⟩
theorem WrFr.trans (h : WrFr W p v W1 v1) (h' : WrFr W1 p v1 W2 v2) : WrFr W p v W2 v2 := by
  obtain ⟨t, e⟩ := h
  obtain ⟨t', e'⟩ := h'
  refine ⟨t.trans t' (fun k hk => ?_), ?_⟩
  · rcases hk with rfl | hk
    · exact .inl (.inl rfl)
    · rcases e with e | ⟨g, e, hg⟩
      · exact .inl (.inr (by rw [← e]; exact hk))
      · rw [e] at hk; cases hk; exact .inr hg
  · rcases e' with e' | ⟨g, e', hg⟩
    · rcases e with e | ⟨g, e, hg⟩
      · exact .inl (e'.trans e)
      · exact .inr ⟨g, e'.trans e, hg⟩
    · exact .inr ⟨g, e', Nat.le_trans t.size hg⟩
theorem Wr.fr_below {bs : List Int} (h : Wr W base p v bs) (f : WrFr W p v W1 v1) : Below base W W1 :=
  f.1.below (Nat.le_trans h.base (Nat.le_of_lt h.blk.lt)) (fun k hk => by
    rcases hk with rfl | hk
    · exact h.base
    · exact (h.own.lt k hk).1)
theorem Wr.kept {bs : List Int} (h : Wr W base p v bs) (hb : Below W.heap.size W W1) : Wr W1 base p v bs :=
  ⟨h.blk.kept hb, ownsRow_tur h.own (Tur.of_below (S := fun _ => False) hb) (fun _ _ h => h), h.ne, h.base⟩
/-- An append onto its slice, stored. -/
theorem Wr.put {bs more : List Int} (h : Wr W base p v bs) (hown : W1.ownsRow base 5 1 v1 (bs.length + more.length) (bvs bs ++ bvs more)) (hg : W.grownBy W1 v.ownBlock) (hv : v1.ownBlock = v.ownBlock ∨ v1.ownBlock = some W.heap.size) :
    Wr (W1.setCell ⟨p, 0, none⟩ v1) base p v1 (bs ++ more) ∧ WrFr W p v (W1.setCell ⟨p, 0, none⟩ v1) v1 := by
  have hp : Blk W1 p 167 #[v] := h.blk.grown hg (fun e => h.ne e.symm)
  have hne : v1.ownBlock ≠ some p := by
    rcases hv with e | e
    · rw [e]; exact h.ne
    · rw [e]; intro h'; cases h'; exact absurd h.blk.lt (by omega)
  refine ⟨⟨hp.set_ 0 v1, ?_, hne, h.base⟩, (Tur.of_grown hg (fun k e => .inr e)).setCell (.inl (.inl rfl)) v1, ?_⟩
  · rw [List.length_append, bvs_append]
    exact ownsRow_setCell_other hown hne v1
  · rcases hv with e | e
    · exact .inl e
    · exact .inr ⟨_, e, Nat.le_refl _⟩
end
end Go.Proofs.YtglbdbghcdoicaaGreatDoor
