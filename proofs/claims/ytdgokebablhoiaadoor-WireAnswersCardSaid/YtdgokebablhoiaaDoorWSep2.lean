/- What the calls and the appends do to things side by side. -/
import Derived.Test.YtdgokebablhoiaaDoorWOwK
import Derived.Test.YtdgokebablhoiaaDoorWNextF
import Derived.Test.YtdgokebablhoiaaDoorWCuts
import Derived.Test.YtdgokebablhoiaaDoorWTold
namespace Go.Proofs.YtdgokebablhoiaaDoor
open Go.RowKit

/-- A Writer. -/
def rWr (base p : Nat) (v : Value) (bs : List Int) : Rsc where
  own := p :: v.ownBlock.toList
  ok W := Wr W base p v bs
  st _ _ _ ht hS h := h.tur ht (hS p (List.mem_cons_self ..)) (fun k hk => hS k (by simp [hk]))
section
variable {lo : Nat} {W W' : World} {L : List Rsc} {S : Nat → Prop}
theorem Sep.at (h : Sep lo W L) (n : Nat) (hn : n < L.length) : L[n].ok W := h.1 _ (List.getElem_mem hn)
theorem Sep.ltAt (h : Sep lo W L) (n : Nat) (hn : n < L.length) : ∀ k ∈ L[n].own, lo ≤ k ∧ k < W.heap.size := h.2.1 _ (List.getElem_mem hn)
/-- The thing at place n turns. -/
theorem Sep.turn (h : Sep lo W L) (n : Nat) (hn : n < L.length) {R' : Rsc} (ht : Tur S W W') (hS : ∀ k, k < W.heap.size → S k → k ∈ L[n].own) (hlo : lo ≤ W.heap.size) (hok : R'.ok W') (hown : ∀ k ∈ R'.own, (k ∈ L[n].own ∨ W.heap.size ≤ k) ∧ k < W'.heap.size) : Sep lo W' (L.set n R') :=
  (Sep.one (h.perm (perm_front L n hn)) ht hS hlo hok hown).perm (perm_set L n hn R').symm
theorem Sep.belowAt (h : Sep lo W L) (n : Nat) (hn : n < L.length) (ht : Tur S W W') (hS : ∀ k, k < W.heap.size → S k → k ∈ L[n].own) (hlo : lo ≤ W.heap.size) : Below lo W W' :=
  (h.perm (perm_front L n hn)).below ht hS hlo
theorem Sep.tail {R : Rsc} (h : Sep lo W (R :: L)) : Sep lo W L :=
  ⟨fun R' h' => h.1 R' (List.mem_cons_of_mem _ h'), fun R' h' => h.2.1 R' (List.mem_cons_of_mem _ h'), (List.pairwise_cons.1 h.2.2).2⟩
theorem Sep.last {R : Rsc} (h : Sep lo W (R :: L)) : Sep lo W (L ++ [R]) := h.perm (List.perm_append_comm (l₁ := [R]) (l₂ := L))
theorem own_list {v : Value} {k : Nat} : k ∈ v.ownBlock.toList ↔ v.ownBlock = some k := by simp
theorem fr_own {p : Nat} {v v' : Value} (hw : WrFr W p v W' v') (hp : p < W.heap.size) (hlt : ∀ k, v'.ownBlock = some k → k < W'.heap.size) : ∀ k ∈ p :: v'.ownBlock.toList, (k ∈ p :: v.ownBlock.toList ∨ W.heap.size ≤ k) ∧ k < W'.heap.size := by
  intro k hk
  rcases List.mem_cons.1 hk with rfl | hk
  · exact ⟨.inl (List.mem_cons_self ..), Nat.lt_of_lt_of_le hp hw.1.size⟩
  · rw [own_list] at hk
    refine ⟨?_, hlt k hk⟩
    rcases hw.2 with e | ⟨k', e, h'⟩
    · exact .inl (List.mem_cons_of_mem _ (own_list.2 (e ▸ hk)))
    · rw [e] at hk; cases hk; exact .inr h'
theorem fr_sub {p : Nat} {v : Value} : ∀ k, k < W.heap.size → WrS p v k → k ∈ p :: v.ownBlock.toList := fun k _ hs => by
  rcases hs with rfl | hs
  · exact List.mem_cons_self ..
  · exact List.mem_cons_of_mem _ (own_list.2 hs)
/-- Feed, Num, Text: one thing turns, its row with it. -/
theorem Sep.feed {base q : Nat} {most : Int} {v v' : Value} {F F' : List Int} (h : Sep lo W L) (n : Nat) (hn : n < L.length) (e : L[n] = rFm base q most v F) (hf : Fm W' base q most v' F') (hw : WrFr W q v W' v') (hlo : lo ≤ W.heap.size) : Sep lo W' (L.set n (rFm base q most v' F')) ∧ Below lo W W' :=
  have hf0 : Fm W base q most v F := by have := h.at n hn; rw [e] at this; exact this
  ⟨h.turn n hn hw.1 (by rw [e]; exact fr_sub) hlo hf (by rw [e]; exact fr_own hw hf0.blk.lt (fun k hk => (hf.own.lt k hk).2)), h.belowAt n hn hw.1 (by rw [e]; exact fr_sub) hlo⟩
theorem Sep.wr {base p : Nat} {v v' : Value} {F F' : List Int} (h : Sep lo W L) (n : Nat) (hn : n < L.length) (e : L[n] = rWr base p v F) (hf : Wr W' base p v' F') (hw : WrFr W p v W' v') (hlo : lo ≤ W.heap.size) : Sep lo W' (L.set n (rWr base p v' F')) ∧ Below lo W W' :=
  have hf0 : Wr W base p v F := by have := h.at n hn; rw [e] at this; exact this
  ⟨h.turn n hn hw.1 (by rw [e]; exact fr_sub) hlo hf (by rw [e]; exact fr_own hw hf0.blk.lt (fun k hk => (hf.own.lt k hk).2)), h.belowAt n hn hw.1 (by rw [e]; exact fr_sub) hlo⟩
theorem grown_own {v v' : Value} (hv : v'.ownBlock = v.ownBlock ∨ v'.ownBlock = some W.heap.size) (hlt : ∀ k, v'.ownBlock = some k → k < W'.heap.size) : ∀ k ∈ v'.ownBlock.toList, (k ∈ v.ownBlock.toList ∨ W.heap.size ≤ k) ∧ k < W'.heap.size := by
  intro k hk
  rw [own_list] at hk
  refine ⟨?_, hlt k hk⟩
  rcases hv with e | e
  · exact .inl (own_list.2 (e ▸ hk))
  · rw [e] at hk; cases hk; exact .inr (Nat.le_refl _)
theorem grown_sub {v : Value} : ∀ k, k < W.heap.size → v.ownBlock = some k → k ∈ v.ownBlock.toList := fun _ _ h => own_list.2 h
/-- append onto a row of rows. -/
theorem Sep.rows {base n0 m0 : Nat} {v v' : Value} {vs vs' : List Value} (h : Sep lo W L) (n : Nat) (hn : n < L.length) (e : L[n] = rRows base v n0 vs) (hown : W'.ownsRow base 24 1 v' m0 vs') (hg : W.grownBy W' v.ownBlock) (hv : v'.ownBlock = v.ownBlock ∨ v'.ownBlock = some W.heap.size) (hlo : lo ≤ W.heap.size) : Sep lo W' (L.set n (rRows base v' m0 vs')) ∧ Below lo W W' :=
  have ht : Tur (fun k => v.ownBlock = some k) W W' := Tur.of_grown hg (fun _ h => h)
  ⟨h.turn n hn ht (by rw [e]; exact grown_sub) hlo hown (by rw [e]; exact grown_own hv (fun k hk => (hown.lt k hk).2)), h.belowAt n hn ht (by rw [e]; exact grown_sub) hlo⟩
/-- Next tells a body: a row of its own. -/
theorem Sep.next {base q : Nat} {most : Int} {v v' : Value} {F F' body : List Int} {A : Option Addr} {n c : Nat} (h : Sep lo W (rFm base q most v F :: L)) (hf : Fm W' base q most v' F') (ht : Tur (· = q) W W') (hfr : ∀ k, v'.ownBlock = some k → W.heap.size ≤ k) (hdj : ∀ k, v'.ownBlock = some k → A ≠ some ⟨k, 0, none⟩) (hown : W'.ownsRow W.heap.size 5 1 (.slice A n c) n (bvs body)) (hlo : lo ≤ W.heap.size) :
    Sep lo W' (rFm base q most v' F' :: (L ++ [rRow lo (.slice A n c) body])) ∧ Below lo W W' := by
  have hsub : ∀ k, k < W.heap.size → k = q → k ∈ q :: v.ownBlock.toList := fun k _ e => e ▸ List.mem_cons_self ..
  have hl : n = body.length := by have := hown.1; rw [bvs_len, Nat.mul_one] at this; exact this.symm
  have hoo : OwO W' lo (.slice A n c) body := OwO.of (by rw [← hl]; exact hown.mono hlo)
  have hq : q < W.heap.size := (h.1 _ (List.mem_cons_self ..) : Fm W base q most v F).blk.lt
  refine ⟨?_, h.below ht hsub hlo⟩
  have h1 : Sep lo W' ([rFm base q most v' F', rRow lo (.slice A n c) body] ++ L) := by
    refine Sep.swap (M := [rFm base q most v F]) h ht (fun k hk e => ⟨_, List.mem_singleton.2 rfl, hsub k hk e⟩) hlo ?_ ?_ ?_
    · intro R hR
      rcases List.mem_cons.1 hR with rfl | hR
      · exact hf
      · rw [List.mem_singleton] at hR; subst hR; exact hoo
    · intro R hR k hk
      rcases List.mem_cons.1 hR with rfl | hR
      · rcases List.mem_cons.1 hk with rfl | hk
        · exact ⟨.inl ⟨_, List.mem_singleton.2 rfl, List.mem_cons_self ..⟩, Nat.lt_of_lt_of_le hq ht.size⟩
        · have hk := own_list.1 hk
          exact ⟨.inr (hfr k hk), (hf.own.lt k hk).2⟩
      · rw [List.mem_singleton] at hR
        subst hR
        have hk := own_list.1 hk
        exact ⟨.inr (hown.lt k hk).1, (hown.lt k hk).2⟩
    · refine List.Pairwise.cons (fun R hR k hk hk2 => ?_) (List.pairwise_singleton _ _)
      rw [List.mem_singleton] at hR
      subst hR
      have hk2 := own_list.1 hk2
      rcases List.mem_cons.1 hk with rfl | hk
      · have := (hown.lt k hk2).1; omega
      · have hk := own_list.1 hk
        rcases hown.2 with ⟨e, _⟩ | ⟨g, cap, cur, e, _⟩
        · rw [e] at hk2; cases hk2
        · rw [e] at hk2
          injection e with e
          cases hk2
          exact hdj _ hk e
  exact h1.perm (List.Perm.cons _ (List.perm_append_comm (l₁ := [_]) (l₂ := L)))
/-- A byte is stored. -/
theorem Sep.store {g : Nat} {cur : Array Value} (h : Sep lo W (rBlk g cur :: L)) (k : Nat) (u : Value) (hlo : lo ≤ W.heap.size) : Sep lo (W.setCell ⟨g, k, none⟩ u) (rBlk g (cur.setIfInBounds k u) :: L) ∧ Below lo W (W.setCell ⟨g, k, none⟩ u) := by
  have hb : Blk W g 5 cur := h.1 _ (List.mem_cons_self ..)
  have ht : Tur (· = g) W (W.setCell ⟨g, k, none⟩ u) := Tur.setCell (S := (· = g)) (p := ⟨g, k, none⟩) (Tur.refl _ _) (.inl rfl) _
  have hsub : ∀ j, j < W.heap.size → j = g → j ∈ [g] := fun j _ e => List.mem_singleton.2 e
  refine ⟨Sep.one h ht hsub hlo (hb.set_ k u) (fun j hj => ?_), h.below ht hsub hlo⟩
  obtain rfl : j = g := List.mem_singleton.1 hj
  exact ⟨.inl hj, (hb.set_ k u).lt⟩
theorem Sep.free {R : Rsc} (h : Sep lo W L) (hok : R.ok W) (he : R.own = []) : Sep lo W (R :: L) := by
  refine ⟨fun R' hR' => ?_, fun R' hR' k hk => ?_, List.Pairwise.cons (fun R' _ k hk => ?_) h.2.2⟩
  · rcases List.mem_cons.1 hR' with rfl | e
    · exact hok
    · exact h.1 R' e
  · rcases List.mem_cons.1 hR' with rfl | e
    · rw [he] at hk; cases hk
    · exact h.2.1 R' e k hk
  · rw [he] at hk; cases hk
theorem Sep.nil (lo : Nat) (W : World) : Sep lo W [] := ⟨(fun _ h => by cases h), (fun _ h => by cases h), List.Pairwise.nil⟩
end
end Go.Proofs.YtdgokebablhoiaaDoor
