/- Things that own memory, side by side; one's own memory of any element, that grows. -/
import Derived.Test.YtglbdbghcdoicaaGreatDoorWRef
import Derived.ArgAppend
import Derived.Deep.Upon
import Derived.Maps.AppendAt
namespace Go.Proofs.YtglbdbghcdoicaaGreatDoor
open Go.RowKit

/-- A thing: the blocks it owns, what holds of it; that stays where none of its blocks is turned. -/
structure Rsc where
  own : List Nat
  ok : World → Prop
  st : ∀ (S : Nat → Prop) (W W' : World), Tur S W W' → (∀ k ∈ own, ¬ S k) → ok W → ok W'
def Sep (lo : Nat) (W : World) (L : List Rsc) : Prop :=
  (∀ R ∈ L, R.ok W) ∧ (∀ R ∈ L, ∀ k ∈ R.own, lo ≤ k ∧ k < W.heap.size) ∧ L.Pairwise (fun R R' => ∀ k ∈ R.own, k ∉ R'.own)
section
variable {lo : Nat} {W W' : World} {L L' L1 L2 M N : List Rsc} {S : Nat → Prop}
theorem Sep.perm (h : Sep lo W L) (hp : L.Perm L') : Sep lo W L' :=
  ⟨fun R hR => h.1 R (hp.mem_iff.2 hR), fun R hR => h.2.1 R (hp.mem_iff.2 hR), (hp.pairwise_iff (fun hab k hk hk' => hab k hk' hk)).1 h.2.2⟩
theorem Sep.ok {R : Rsc} (h : Sep lo W L) (hR : R ∈ L) : R.ok W := h.1 R hR
/-- What turns only M's blocks puts N in M's place. -/
theorem Sep.swap (h : Sep lo W (M ++ L)) (ht : Tur S W W') (hS : ∀ k, k < W.heap.size → S k → ∃ R ∈ M, k ∈ R.own) (hlo : lo ≤ W.heap.size)
    (hN : ∀ R ∈ N, R.ok W') (hown : ∀ R ∈ N, ∀ k ∈ R.own, ((∃ R' ∈ M, k ∈ R'.own) ∨ W.heap.size ≤ k) ∧ k < W'.heap.size) (hp : N.Pairwise (fun R R' => ∀ k ∈ R.own, k ∉ R'.own)) : Sep lo W' (N ++ L) := by
  obtain ⟨h1, h2, h3⟩ := h
  rw [List.pairwise_append] at h3
  obtain ⟨h3, h4, h5⟩ := h3
  have hL : ∀ R ∈ L, ∀ k ∈ R.own, k < W.heap.size := fun R hR k hk => (h2 R (List.mem_append_right _ hR) k hk).2
  refine ⟨fun R hR => ?_, fun R hR k hk => ?_, ?_⟩
  · rcases List.mem_append.1 hR with e | e
    · exact hN R e
    · refine R.st S W W' ht (fun k hk hs => ?_) (h1 R (List.mem_append_right _ e))
      obtain ⟨R', hR', hk'⟩ := hS k (hL R e k hk) hs
      exact h5 R' hR' R e k hk' hk
  · rcases List.mem_append.1 hR with e | e
    · obtain ⟨h6, h7⟩ := hown R e k hk
      refine ⟨?_, h7⟩
      rcases h6 with ⟨R', hR', hk'⟩ | h6
      · exact (h2 R' (List.mem_append_left _ hR') k hk').1
      · omega
    · have := h2 R (List.mem_append_right _ e) k hk
      exact ⟨this.1, Nat.lt_of_lt_of_le this.2 ht.size⟩
  · rw [List.pairwise_append]
    refine ⟨hp, h4, fun R hR R2 hR2 k hk hk2 => ?_⟩
    rcases (hown R hR k hk).1 with ⟨R', hR', hk'⟩ | h6
    · exact h5 R' hR' R2 hR2 k hk' hk2
    · have := hL R2 hR2 k hk2
      omega
theorem Sep.kept (h : Sep lo W L) (hb : Below W.heap.size W W') (hlo : lo ≤ W.heap.size) : Sep lo W' L :=
  Sep.swap (M := []) (N := []) (S := fun _ => False) h (Tur.of_below hb) (fun _ _ hs => hs.elim) hlo (fun R hR => by cases hR) (fun R hR => by cases hR) List.Pairwise.nil
/-- One thing turns. -/
theorem Sep.one {R R' : Rsc} (h : Sep lo W (R :: L)) (ht : Tur S W W') (hS : ∀ k, k < W.heap.size → S k → k ∈ R.own) (hlo : lo ≤ W.heap.size) (hok : R'.ok W') (hown : ∀ k ∈ R'.own, (k ∈ R.own ∨ W.heap.size ≤ k) ∧ k < W'.heap.size) : Sep lo W' (R' :: L) :=
  Sep.swap (M := [R]) (N := [R']) h ht (fun k hk hs => ⟨R, List.mem_singleton.2 rfl, hS k hk hs⟩) hlo (fun R2 hR2 => by rw [List.mem_singleton] at hR2; subst hR2; exact hok)
    (fun R2 hR2 k hk => by rw [List.mem_singleton] at hR2; subst hR2; exact ⟨(hown k hk).1.elim (fun e => .inl ⟨R, List.mem_singleton.2 rfl, e⟩) .inr, (hown k hk).2⟩) (List.pairwise_singleton _ _)
theorem Sep.add {R' : Rsc} (h : Sep lo W L) (ht : Below W.heap.size W W') (hlo : lo ≤ W.heap.size) (hok : R'.ok W') (hown : ∀ k ∈ R'.own, W.heap.size ≤ k ∧ k < W'.heap.size) : Sep lo W' (R' :: L) :=
  Sep.swap (M := []) (N := [R']) (S := fun _ => False) h (Tur.of_below ht) (fun k hk hs => hs.elim) hlo (fun R2 hR2 => by rw [List.mem_singleton] at hR2; subst hR2; exact hok)
    (fun R2 hR2 k hk => by rw [List.mem_singleton] at hR2; subst hR2; exact ⟨.inr (hown k hk).1, (hown k hk).2⟩) (List.pairwise_singleton _ _)
theorem Sep.below {R : Rsc} (h : Sep lo W (R :: L)) (ht : Tur S W W') (hS : ∀ k, k < W.heap.size → S k → k ∈ R.own) (hlo : lo ≤ W.heap.size) : Below lo W W' :=
  ⟨ht.os, ht.tape, ht.output, ht.size, fun k hk => ht.block k (by omega) (fun hs => by have := (h.2.1 R (List.mem_cons_self ..) k (hS k (by omega) hs)).1; omega)⟩
/-- The thing at place n comes to the front. -/
theorem perm_front {α : Type} (l : List α) (n : Nat) (h : n < l.length) : l.Perm (l[n] :: (l.take n ++ l.drop (n + 1))) := by
  have e : l = l.take n ++ l[n] :: l.drop (n + 1) := by
    conv => lhs; rw [← List.take_append_drop n l, List.drop_eq_getElem_cons h]
  conv => lhs; rw [e]
  exact List.perm_middle
theorem perm_set {α : Type} (l : List α) (n : Nat) (h : n < l.length) (x : α) : (l.set n x).Perm (x :: (l.take n ++ l.drop (n + 1))) := by
  have h' : n < (l.set n x).length := by rw [List.length_set]; exact h
  have := perm_front (l.set n x) n h'
  rw [List.getElem_set_self, List.take_set_of_le (Nat.le_refl _), List.drop_set_of_lt (Nat.lt_succ_self n)] at this
  exact this
end
section
variable {lo : Nat} {W W' : World} {L : List Rsc} {S : Nat → Prop}
theorem Sep.at (h : Sep lo W L) (n : Nat) (hn : n < L.length) : L[n].ok W := h.1 _ (List.getElem_mem hn)
theorem Sep.ltAt (h : Sep lo W L) (n : Nat) (hn : n < L.length) : ∀ k ∈ L[n].own, lo ≤ k ∧ k < W.heap.size := h.2.1 _ (List.getElem_mem hn)
/-- The thing at place n turns. -/
theorem Sep.turn (h : Sep lo W L) (n : Nat) (hn : n < L.length) {R' : Rsc} (ht : Tur S W W') (hS : ∀ k, k < W.heap.size → S k → k ∈ L[n].own) (hlo : lo ≤ W.heap.size) (hok : R'.ok W') (hown : ∀ k ∈ R'.own, (k ∈ L[n].own ∨ W.heap.size ≤ k) ∧ k < W'.heap.size) : Sep lo W' (L.set n R') :=
  (Sep.one (h.perm (perm_front L n hn)) ht hS hlo hok hown).perm (perm_set L n hn R').symm
theorem Sep.belowAt (h : Sep lo W L) (n : Nat) (hn : n < L.length) (ht : Tur S W W') (hS : ∀ k, k < W.heap.size → S k → k ∈ L[n].own) (hlo : lo ≤ W.heap.size) : Below lo W W' :=
  (h.perm (perm_front L n hn)).below ht hS hlo
theorem Sep.tail {R : Rsc} (h : Sep lo W (R :: L)) : Sep lo W L :=
  ⟨fun R' h' => h.1 R' (List.mem_cons_of_mem _ h'), fun R' h' => h.2.1 R' (List.mem_cons_of_mem _ h'), (List.pairwise_cons.1 h.2.2).2⟩
theorem Sep.last {R : Rsc} (h : Sep lo W (R :: L)) : Sep lo W (L ++ [R]) := h.perm (List.perm_append_comm (l₁ := [R]) (l₂ := L))
theorem own_list {v : Value} {k : Nat} : k ∈ v.ownBlock.toList ↔ v.ownBlock = some k := by simp
theorem grown_own {v v' : Value} (hv : v'.ownBlock = v.ownBlock ∨ v'.ownBlock = some W.heap.size) (hlt : ∀ k, v'.ownBlock = some k → k < W'.heap.size) : ∀ k ∈ v'.ownBlock.toList, (k ∈ v.ownBlock.toList ∨ W.heap.size ≤ k) ∧ k < W'.heap.size := by
  intro k hk
  rw [own_list] at hk
  refine ⟨?_, hlt k hk⟩
  rcases hv with e | e
  · exact .inl (own_list.2 (e ▸ hk))
  · rw [e] at hk; cases hk; exact .inr (Nat.le_refl _)
theorem grown_sub {v : Value} : ∀ k, k < W.heap.size → v.ownBlock = some k → k ∈ v.ownBlock.toList := fun _ _ h => own_list.2 h
theorem Sep.free {R : Rsc} (h : Sep lo W L) (hok : R.ok W) (he : R.own = []) : Sep lo W (R :: L) := by
  refine ⟨fun R' hR' => ?_, fun R' hR' k hk => ?_, List.Pairwise.cons (fun R' _ k hk => ?_) h.2.2⟩
  · rcases List.mem_cons.1 hR' with rfl | e
    · exact hok
    · exact h.1 R' e
  · rcases List.mem_cons.1 hR' with rfl | e
    · rw [he] at hk; cases hk
    · exact h.2.1 R' e k hk
  · rw [he] at hk; cases hk
theorem Sep.nil (lo : Nat) (W : World) : Sep lo W [] := ⟨(fun _ h => by cases h), (fun _ h => by cases h), List.Pairwise.nil⟩
end
/-- What holds of each, with the same blocks. -/
theorem Sep.conv {lo : Nat} {W : World} {L L' : List Rsc} (h : Sep lo W L) (ho : L'.map Rsc.own = L.map Rsc.own) (hok : ∀ R ∈ L', R.ok W) : Sep lo W L' := by
  refine ⟨hok, fun R hR k hk => ?_, ?_⟩
  · have h1 : R.own ∈ L.map Rsc.own := ho ▸ List.mem_map_of_mem hR
    obtain ⟨R2, h2, h3⟩ := List.mem_map.1 h1
    exact h.2.1 R2 h2 k (h3 ▸ hk)
  · have h1 := (List.pairwise_map (f := Rsc.own) (R := fun a b => ∀ k ∈ a, k ∉ b)).2 h.2.2
    rw [← ho] at h1
    exact (List.pairwise_map (f := Rsc.own) (R := fun a b => ∀ k ∈ a, k ∉ b)).1 h1
/-- Fewer things. -/
theorem Sep.sub {lo : Nat} {W : World} {L L' : List Rsc} (h : Sep lo W L) (hs : L'.Sublist L) : Sep lo W L' :=
  ⟨fun R hR => h.1 R (hs.subset hR), fun R hR => h.2.1 R (hs.subset hR), h.2.2.sublist hs⟩
/-- What turns none of their blocks leaves them. -/
theorem Sep.off {lo : Nat} {W W' : World} {L : List Rsc} {S : Nat → Prop} (h : Sep lo W L) (ht : Tur S W W') (hS : ∀ R ∈ L, ∀ k ∈ R.own, ¬ S k) : Sep lo W' L :=
  ⟨fun R hR => R.st S W W' ht (hS R hR) (h.1 R hR), fun R hR k hk => ⟨(h.2.1 R hR k hk).1, Nat.lt_of_lt_of_le (h.2.1 R hR k hk).2 ht.size⟩, h.2.2⟩
theorem setCells_grown (b : Nat) : ∀ (vs : List Value) (o : Nat) (w : World), w.grownBy (w.setCells b o vs) (some b)
  | [], _, _ => ⟨rfl, rfl, rfl, Nat.le_refl _, fun _ _ _ => rfl⟩
  | v :: vs, o, w => by
    have h := setCells_grown b vs (o + 1) (w.setCell ⟨b, o, none⟩ v)
    have h1 : w.grownBy (w.setCell ⟨b, o, none⟩ v) (some b) := ⟨rfl, rfl, rfl, by simp [World.setCell], fun k _ hne => Below.heap_setCell w ⟨b, o, none⟩ v k (fun e => hne (by rw [e]))⟩
    exact ⟨h.os.trans h1.os, h.tape.trans h1.tape, h.output.trans h1.output, Nat.le_trans h1.size h.size, fun k hk hne => (h.block k (Nat.lt_of_lt_of_le hk h1.size) hne).trans (h1.block k hk hne)⟩

/-- One's own memory: n elements of sz cells each at a block's begin, room behind. -/
structure OwGForm (W : World) (base g cap sz : Nat) (v : Value) (n : Nat) (ys : List Value) : Prop where
  val : v = .slice (some ⟨g, 0, none⟩) n cap
  low : base ≤ g
  lt : g < W.heap.size
  fits : n ≤ cap
  len : ys.length = n * sz
  cells : ∀ j (h : j < ys.length), W.cell? ⟨g, j, none⟩ = some ys[j]
  room : ∀ j, j < cap * sz → (W.cell? ⟨g, j, none⟩).isSome = true ∧ W.frozen? ⟨g, j, none⟩ = false
def OwG (W : World) (base sz : Nat) (v : Value) (n : Nat) (ys : List Value) : Prop := (v = .slice none 0 0 ∧ n = 0 ∧ ys = []) ∨ ∃ g cap, OwGForm W base g cap sz v n ys
section
variable {W W1 : World} {base sz n : Nat} {v : Value} {ys : List Value}
theorem OwG.nil (W : World) (base sz : Nat) : OwG W base sz (.slice none 0 0) 0 [] := .inl ⟨rfl, rfl, rfl⟩
theorem OwG.of {E : TypeId} (h : W.ownsRow base E sz v n ys) : OwG W base sz v n ys := by
  obtain ⟨hl, h⟩ := h
  rcases h with ⟨rfl, rfl⟩ | ⟨g, cap, cur, rfl, hb, hg, hn, _, hs, ht⟩
  · exact .inl ⟨rfl, rfl, List.eq_nil_of_length_eq_zero (by rw [hl]; simp)⟩
  · have hgb : Blk W g E cur := hg
    refine .inr ⟨g, cap, rfl, hb, hgb.lt, hn, hl, fun j hj => ?_, fun j hj => ?_⟩
    · rw [hgb.cell j, ← Array.getElem?_toList]
      have h1 : (cur.toList.take (n * sz))[j]? = some ys[j] := by rw [ht]; exact List.getElem?_eq_getElem hj
      rw [List.getElem?_take] at h1
      split at h1
      · exact h1
      · cases h1
    · rw [hgb.cell j, hgb.frozen j, Array.getElem?_eq_getElem (by omega)]
      exact ⟨rfl, rfl⟩
theorem OwG.kept {S : Nat → Prop} (h : OwG W base sz v n ys) (ht : Tur S W W1) (hS : ∀ k, v.ownBlock = some k → ¬ S k) : OwG W1 base sz v n ys := by
  rcases h with h | ⟨g, cap, h⟩
  · exact .inl h
  · have hb := ht.block g h.lt (hS g (by rw [h.val]; rfl))
    refine .inr ⟨g, cap, h.val, h.low, Nat.lt_of_lt_of_le h.lt ht.size, h.fits, h.len, fun j hj => ?_, fun j hj => ?_⟩
    · rw [← h.cells j hj]; simp only [World.cell?, hb]
    · have := h.room j hj
      simp only [World.cell?, World.frozen?, hb] at this ⊢
      exact this
theorem OwG.below (h : OwG W base sz v n ys) (hb : Below W.heap.size W W1) : OwG W1 base sz v n ys := h.kept (Tur.of_below (S := fun _ => False) hb) (fun _ _ h => h)
theorem OwG.mono {base' : Nat} (h : OwG W base sz v n ys) (hb : base' ≤ base) : OwG W base' sz v n ys := by
  rcases h with h | ⟨g, c, h⟩
  · exact .inl h
  · exact .inr ⟨g, c, h.val, Nat.le_trans hb h.low, h.lt, h.fits, h.len, h.cells, h.room⟩
theorem OwG.lt (h : OwG W base sz v n ys) : ∀ k, v.ownBlock = some k → base ≤ k ∧ k < W.heap.size := by
  rcases h with ⟨rfl, _⟩ | ⟨g, cap, h⟩
  · intro k hk; cases hk
  · intro k hk
    rw [h.val] at hk
    cases hk
    exact ⟨h.low, h.lt⟩
theorem OwG.len (h : OwG W base sz v n ys) : ys.length = n * sz := by
  rcases h with ⟨_, rfl, rfl⟩ | ⟨g, cap, h⟩
  · simp
  · exact h.len
theorem OwG.form (h : OwG W base sz v n ys) : ∃ A c, v = .slice A n c ∧ n ≤ c ∧ (A = none → c = 0) := by
  rcases h with ⟨rfl, rfl, _⟩ | ⟨g, cap, h⟩
  · exact ⟨_, _, rfl, Nat.le_refl _, fun _ => rfl⟩
  · exact ⟨_, _, h.val, h.fits, fun h => by cases h⟩
theorem OwG.at (h : OwG W base sz v n ys) {A : Option Addr} {m c : Nat} (hv : v = .slice A m c) : CellsAt W A ys := fun k hk => by
  rcases h with ⟨_, _, rfl⟩ | ⟨g, cap, h⟩
  · exact absurd hk (Nat.not_lt_zero _)
  · have := h.val
    rw [hv] at this
    injection this with e1 e2 e3
    refine ⟨_, e1, h.lt, ?_⟩
    have e : Addr.add ⟨g, 0, none⟩ k = ⟨g, k, none⟩ := by cases k <;> simp [Addr.add]
    rw [e]
    exact h.cells k hk
/-- A cell of it is written. -/
theorem OwGForm.set {g cap : Nat} (h : OwGForm W base g cap sz v n ys) (k : Nat) (hk : k < n * sz) (u : Value) : OwGForm (W.setCell ⟨g, k, none⟩ u) base g cap sz v n (ys.set k u) := by
  have hkc : k < cap * sz := Nat.lt_of_lt_of_le hk (Nat.mul_le_mul_right _ h.fits)
  obtain ⟨u0, hs⟩ := Option.isSome_iff_exists.1 (h.room k hkc).1
  refine ⟨h.val, h.low, by rw [show (W.setCell ⟨g, k, none⟩ u).heap.size = W.heap.size by simp [World.setCell]]; exact h.lt, h.fits, by rw [List.length_set]; exact h.len, fun j hj => ?_, fun j hj => ?_⟩
  · rw [List.length_set] at hj
    by_cases e : j = k
    · subst e
      rw [World.cell?_setCell_same _ _ _ hs, List.getElem_set_self]
    · rw [World.cell?_setCell_other _ _ _ _ (by intro h; injection h with _ h; omega), h.cells j hj, List.getElem_set_ne (fun h => e h.symm)]
  · have h1 := h.room j hj
    refine ⟨?_, ?_⟩
    · by_cases e : j = k
      · subst e
        rw [World.cell?_setCell_same _ _ _ hs]; rfl
      · rw [World.cell?_setCell_other _ _ _ _ (by intro h; injection h with _ h; omega)]; exact h1.1
    · rw [World.frozen?_setCell]; exact h1.2
end
/-- append of one's own: the elder slice stays as it was. -/
theorem wpList_append_keepG {w : World} {ops : Array Oper} {rest : List Oper} {o : Oper} {a : Act} {Q : Exit → Act → World → Prop} (hgd : o.guard = none) (s x : Operand) (t : TypeId)
    (ho : o.op = .call { callee := .builtin .append, args := #[s, x], argTypes := #[t, t] })
    (e : TypeId) (i : TypeInfo) (z : Value) (size bytes : Nat) (h1 : Tryz.prog.underlying t = some (.slice e)) (h2 : Tryz.prog.info? e = some i) (h3 : i.zero = some z) (h4 : i.size = size) (h5 : i.bytes = bytes) (h6 : z.cells.size = size) (h7 : 0 < size)
    (base : Nat) (v : Value) (n : Nat) (xs : List Value) (hs : a.eval s = v) (hown : OwG w base size v n xs)
    (ad : Addr) (m c : Nat) (news : List Value) (hx : a.eval x = .slice (some ad) m c) (hl : news.length = m * size) (hnews : CellsAt w (some ad) news) (h1c : ∀ u ∈ news, u.oneCell' = true)
    (h63 : n + m ≤ maxLen) (hby : (n + m) * bytes ≤ 140737488355328) (hbase : base ≤ w.heap.size)
    (h : ∀ v' w', OwG w' base size v n xs → OwG w' base size v' (n + m) (xs ++ news) → w.grownBy w' v.ownBlock → ((v'.ownBlock = v.ownBlock ∧ ∃ A c', v = .slice A n c' ∧ v' = .slice A (n + m) c') ∨ (∃ k, v'.ownBlock = some k ∧ w.heap.size ≤ k) ∨ (v' = .slice none 0 0 ∧ v = .slice none 0 0 ∧ m = 0)) → wpList Tryz.prog ops Q rest (a.put o.dst v') w') :
    wpList Tryz.prog ops Q (o :: rest) a w := by
  have hn1 : ∀ j u, news[j]? = some u → w.cell? (ad.add j) = some u := fun j u hj => by
    obtain ⟨hlt, rfl⟩ := List.getElem?_eq_some_iff.1 hj
    obtain ⟨ad', e, _, hc⟩ := hnews j hlt
    cases e
    exact hc
  rcases hown with ⟨rfl, rfl, rfl⟩ | ⟨g, cap, hf⟩
  · refine wpList_append_own_at w hgd s x t ho base e i z size bytes h1 h2 h3 h4 h5 h6 h7 (.slice none 0 0) 0 [] hs (World.ownsRow_nil _ _ _ _) ad m c news hx hl hn1 h1c h63 hby hbase ?_
    intro v' w' hown hg hz hv
    refine h v' w' (OwG.nil _ _ _) (OwG.of hown) hg ?_
    rcases hv with e | e
    · refine .inr (.inr ?_)
      have h0 := hown.2
      rcases h0 with ⟨r, h0⟩ | ⟨g, cap, cur, r, _⟩
      · exact ⟨r, rfl, by omega⟩
      · rw [r] at e; cases e
    · exact .inr (.inl ⟨_, e, Nat.le_refl _⟩)
  · have hv := hf.val
    subst hv
    refine wpList_append_arg w hgd s x t ho e i z size bytes h1 h2 h3 h4 h5 h6 h7 g 0 n cap xs hs hf.len (fun j u hj => ?_) ad m c news hx hl hn1 h1c (fun hr j hj => ?_) h63 hby (fun hr => ?_) (fun hr v' w' hown hg => ?_)
    · obtain ⟨hlt, rfl⟩ := List.getElem?_eq_some_iff.1 hj
      rw [Nat.zero_add]
      exact hf.cells j hlt
    · rw [Nat.zero_add]
      refine hf.room (n * size + j) ?_
      have := Nat.mul_le_mul_right size hr
      rw [Nat.add_mul] at this
      omega
    · have hg := setCells_grown g news (0 + n * size) w
      have hroomlt : ∀ j, j < news.length → n * size + j < cap * size := fun j hj => by
        have := Nat.mul_le_mul_right size hr
        rw [Nat.add_mul] at this
        omega
      have hsm : ∀ j, j < news.length → (w.cell? ⟨g, 0 + n * size + j, none⟩).isSome = true := fun j hj => by
        rw [Nat.zero_add]
        exact (hf.room _ (hroomlt j hj)).1
      have hroom : ∀ j, j < cap * size → ((w.setCells g (0 + n * size) news).cell? ⟨g, j, none⟩).isSome = true ∧ (w.setCells g (0 + n * size) news).frozen? ⟨g, j, none⟩ = false := fun j hj => by
        have h1 := hf.room j hj
        exact ⟨World.isSome_setCells g _ _ _ _ h1.1, (World.frozen?_setCells g _ _ _ _).trans h1.2⟩
      have hlen := hf.len
      have hcell : ∀ j (hj : j < xs.length), (w.setCells g (0 + n * size) news).cell? ⟨g, j, none⟩ = some xs[j] := fun j hj => by
        rw [World.cell?_setCells_out g _ _ _ _ (fun _ _ => .inl (by show j < 0 + n * size; omega)), hf.cells j hj]
      refine h _ _ (.inr ⟨g, cap, rfl, hf.low, Nat.lt_of_lt_of_le hf.lt hg.size, hf.fits, hf.len, hcell, hroom⟩) (.inr ⟨g, cap, rfl, hf.low, Nat.lt_of_lt_of_le hf.lt hg.size, hr, by rw [List.length_append, hf.len, hl, Nat.add_mul], fun j hj => ?_, hroom⟩) hg (.inl ⟨rfl, _, _, rfl, rfl⟩)
      by_cases hjl : j < xs.length
      · rw [hcell j hjl, List.getElem_append_left hjl]
      · rw [List.length_append] at hj
        have h1 := World.cell?_setCells_in g news (0 + n * size) w hsm (j - xs.length) (by omega)
        rw [show 0 + n * size + (j - xs.length) = j by omega] at h1
        rw [h1, List.getElem_append_right (by omega)]
    · have hg' : w.grownBy w' (some g) := ⟨hg.os, hg.tape, hg.output, hg.size, fun k hk _ => hg.block k hk (by simp)⟩
      refine h v' w' ?_ ((OwG.of hown).mono hbase) hg' ?_
      · exact (show OwG w base size (.slice (some ⟨g, 0, none⟩) n cap) n xs from .inr ⟨g, cap, hf⟩).kept (S := fun _ => False) (Tur.of_grown hg (fun k e => by cases e)) (fun _ _ h => h)
      · rcases hown.2 with ⟨rfl, h0⟩ | ⟨g', cap', cur', rfl, hb, _⟩
        · have := hf.fits; omega
        · exact .inr (.inl ⟨g', rfl, hb⟩)
end Go.Proofs.YtglbdbghcdoicaaGreatDoor
