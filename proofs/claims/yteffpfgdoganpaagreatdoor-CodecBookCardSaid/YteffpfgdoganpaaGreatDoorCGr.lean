/- Things that own memory, side by side; one's own memory of any element, that grows. Slices of one's own, and what grew out of each: what the laws' Grown keep. The laws' Grown: facts at hand for the walks. -/
import Derived.Test.YteffpfgdoganpaaGreatDoorWRef
import Derived.ArgAppend
import Derived.Deep.Upon
import Derived.Maps.AppendAt
import Derived.Test.YteffpfgdoganpaaGreatDoorWWs
namespace Go.Proofs.YteffpfgdoganpaaGreatDoor
open Go.RowKit

/-- A thing: the blocks it owns, what holds of it; that stays where none of its blocks is turned. -/
structure Rsc where
  own : List Nat
  ok : World → Prop
  st : ∀ (S : Nat → Prop) (W W' : World), Tur S W W' → (∀ k ∈ own, ¬ S k) → ok W → ok W'
def Sep (lo : Nat) (W : World) (L : List Rsc) : Prop :=
  (∀ R ∈ L, R.ok W) ∧ (∀ R ∈ L, ∀ k ∈ R.own, lo ≤ k ∧ k < W.heap.size) ∧ L.Pairwise (fun R R' => ∀ k ∈ R.own, k ∉ R'.own)
section
variable {lo : Nat} {W W' : World} {L L' L1 L2 M N : List Rsc} {S : Nat → Prop}
theorem Sep.perm (h : Sep lo W L) (hp : L.Perm L') : Sep lo W L' :=
  ⟨fun R hR => h.1 R (hp.mem_iff.2 hR), fun R hR => h.2.1 R (hp.mem_iff.2 hR), (hp.pairwise_iff (fun hab k hk hk' => hab k hk' hk)).1 h.2.2⟩
theorem Sep.ok {R : Rsc} (h : Sep lo W L) (hR : R ∈ L) : R.ok W := h.1 R hR
/-- What turns only M's blocks puts N in M's place. -/
theorem Sep.swap (h : Sep lo W (M ++ L)) (ht : Tur S W W') (hS : ∀ k, k < W.heap.size → S k → ∃ R ∈ M, k ∈ R.own) (hlo : lo ≤ W.heap.size)
    (hN : ∀ R ∈ N, R.ok W') (hown : ∀ R ∈ N, ∀ k ∈ R.own, ((∃ R' ∈ M, k ∈ R'.own) ∨ W.heap.size ≤ k) ∧ k < W'.heap.size) (hp : N.Pairwise (fun R R' => ∀ k ∈ R.own, k ∉ R'.own)) : Sep lo W' (N ++ L) := by
  obtain ⟨h1, h2, h3⟩ := h
  rw [List.pairwise_append] at h3
  obtain ⟨h3, h4, h5⟩ := h3
  have hL : ∀ R ∈ L, ∀ k ∈ R.own, k < W.heap.size := fun R hR k hk => (h2 R (List.mem_append_right _ hR) k hk).2
  refine ⟨fun R hR => ?_, fun R hR k hk => ?_, ?_⟩
  · rcases List.mem_append.1 hR with e | e
    · exact hN R e
    · refine R.st S W W' ht (fun k hk hs => ?_) (h1 R (List.mem_append_right _ e))
      obtain ⟨R', hR', hk'⟩ := hS k (hL R e k hk) hs
      exact h5 R' hR' R e k hk' hk
  · rcases List.mem_append.1 hR with e | e
    · obtain ⟨h6, h7⟩ := hown R e k hk
      refine ⟨?_, h7⟩
      rcases h6 with ⟨R', hR', hk'⟩ | h6
      · exact (h2 R' (List.mem_append_left _ hR') k hk').1
      · omega
    · have := h2 R (List.mem_append_right _ e) k hk
      exact ⟨this.1, Nat.lt_of_lt_of_le this.2 ht.size⟩
  · rw [List.pairwise_append]
    refine ⟨hp, h4, fun R hR R2 hR2 k hk hk2 => ?_⟩
    rcases (hown R hR k hk).1 with ⟨R', hR', hk'⟩ | h6
    · exact h5 R' hR' R2 hR2 k hk' hk2
    · have := hL R2 hR2 k hk2
      omega
theorem Sep.kept (h : Sep lo W L) (hb : Below W.heap.size W W') (hlo : lo ≤ W.heap.size) : Sep lo W' L :=
  Sep.swap (M := []) (N := []) (S := fun _ => False) h (Tur.of_below hb) (fun _ _ hs => hs.elim) hlo (fun R hR => by cases hR) (fun R hR => by cases hR) List.Pairwise.nil
/-- One thing turns. -/
theorem Sep.one {R R' : Rsc} (h : Sep lo W (R :: L)) (ht : Tur S W W') (hS : ∀ k, k < W.heap.size → S k → k ∈ R.own) (hlo : lo ≤ W.heap.size) (hok : R'.ok W') (hown : ∀ k ∈ R'.own, (k ∈ R.own ∨ W.heap.size ≤ k) ∧ k < W'.heap.size) : Sep lo W' (R' :: L) :=
  Sep.swap (M := [R]) (N := [R']) h ht (fun k hk hs => ⟨R, List.mem_singleton.2 rfl, hS k hk hs⟩) hlo (fun R2 hR2 => by rw [List.mem_singleton] at hR2; subst hR2; exact hok)
    (fun R2 hR2 k hk => by rw [List.mem_singleton] at hR2; subst hR2; exact ⟨(hown k hk).1.elim (fun e => .inl ⟨R, List.mem_singleton.2 rfl, e⟩) .inr, (hown k hk).2⟩) (List.pairwise_singleton _ _)
theorem Sep.add {R' : Rsc} (h : Sep lo W L) (ht : Below W.heap.size W W') (hlo : lo ≤ W.heap.size) (hok : R'.ok W') (hown : ∀ k ∈ R'.own, W.heap.size ≤ k ∧ k < W'.heap.size) : Sep lo W' (R' :: L) :=
  Sep.swap (M := []) (N := [R']) (S := fun _ => False) h (Tur.of_below ht) (fun k hk hs => hs.elim) hlo (fun R2 hR2 => by rw [List.mem_singleton] at hR2; subst hR2; exact hok)
    (fun R2 hR2 k hk => by rw [List.mem_singleton] at hR2; subst hR2; exact ⟨.inr (hown k hk).1, (hown k hk).2⟩) (List.pairwise_singleton _ _)
theorem Sep.below {R : Rsc} (h : Sep lo W (R :: L)) (ht : Tur S W W') (hS : ∀ k, k < W.heap.size → S k → k ∈ R.own) (hlo : lo ≤ W.heap.size) : Below lo W W' :=
  ⟨ht.os, ht.tape, ht.output, ht.size, fun k hk => ht.block k (by omega) (fun hs => by have := (h.2.1 R (List.mem_cons_self ..) k (hS k (by omega) hs)).1; omega)⟩
/-- The thing at place n comes to the front. -/
theorem perm_front {α : Type} (l : List α) (n : Nat) (h : n < l.length) : l.Perm (l[n] :: (l.take n ++ l.drop (n + 1))) := by
  have e : l = l.take n ++ l[n] :: l.drop (n + 1) := by
    conv => lhs; rw [← List.take_append_drop n l, List.drop_eq_getElem_cons h]
  conv => lhs; rw [e]
  exact List.perm_middle
theorem perm_set {α : Type} (l : List α) (n : Nat) (h : n < l.length) (x : α) : (l.set n x).Perm (x :: (l.take n ++ l.drop (n + 1))) := by
  have h' : n < (l.set n x).length := by rw [List.length_set]; exact h
  have := perm_front (l.set n x) n h'
  rw [List.getElem_set_self, List.take_set_of_le (Nat.le_refl _), List.drop_set_of_lt (Nat.lt_succ_self n)] at this
  exact this
end
section
variable {lo : Nat} {W W' : World} {L : List Rsc} {S : Nat → Prop}
theorem Sep.at (h : Sep lo W L) (n : Nat) (hn : n < L.length) : L[n].ok W := h.1 _ (List.getElem_mem hn)
theorem Sep.ltAt (h : Sep lo W L) (n : Nat) (hn : n < L.length) : ∀ k ∈ L[n].own, lo ≤ k ∧ k < W.heap.size := h.2.1 _ (List.getElem_mem hn)
/-- The thing at place n turns. -/
theorem Sep.turn (h : Sep lo W L) (n : Nat) (hn : n < L.length) {R' : Rsc} (ht : Tur S W W') (hS : ∀ k, k < W.heap.size → S k → k ∈ L[n].own) (hlo : lo ≤ W.heap.size) (hok : R'.ok W') (hown : ∀ k ∈ R'.own, (k ∈ L[n].own ∨ W.heap.size ≤ k) ∧ k < W'.heap.size) : Sep lo W' (L.set n R') :=
  (Sep.one (h.perm (perm_front L n hn)) ht hS hlo hok hown).perm (perm_set L n hn R').symm
theorem Sep.belowAt (h : Sep lo W L) (n : Nat) (hn : n < L.length) (ht : Tur S W W') (hS : ∀ k, k < W.heap.size → S k → k ∈ L[n].own) (hlo : lo ≤ W.heap.size) : Below lo W W' :=
  (h.perm (perm_front L n hn)).below ht hS hlo
theorem Sep.tail {R : Rsc} (h : Sep lo W (R :: L)) : Sep lo W L :=
  ⟨fun R' h' => h.1 R' (List.mem_cons_of_mem _ h'), fun R' h' => h.2.1 R' (List.mem_cons_of_mem _ h'), (List.pairwise_cons.1 h.2.2).2⟩
theorem Sep.last {R : Rsc} (h : Sep lo W (R :: L)) : Sep lo W (L ++ [R]) := h.perm (List.perm_append_comm (l₁ := [R]) (l₂ := L))
theorem own_list {v : Value} {k : Nat} : k ∈ v.ownBlock.toList ↔ v.ownBlock = some k := by simp
theorem grown_own {v v' : Value} (hv : v'.ownBlock = v.ownBlock ∨ v'.ownBlock = some W.heap.size) (hlt : ∀ k, v'.ownBlock = some k → k < W'.heap.size) : ∀ k ∈ v'.ownBlock.toList, (k ∈ v.ownBlock.toList ∨ W.heap.size ≤ k) ∧ k < W'.heap.size := by
  intro k hk
  rw [own_list] at hk
  refine ⟨?_, hlt k hk⟩
  rcases hv with e | e
  · exact .inl (own_list.2 (e ▸ hk))
  · rw [e] at hk; cases hk; exact .inr (Nat.le_refl _)
theorem grown_sub {v : Value} : ∀ k, k < W.heap.size → v.ownBlock = some k → k ∈ v.ownBlock.toList := fun _ _ h => own_list.2 h
theorem Sep.free {R : Rsc} (h : Sep lo W L) (hok : R.ok W) (he : R.own = []) : Sep lo W (R :: L) := by
  refine ⟨fun R' hR' => ?_, fun R' hR' k hk => ?_, List.Pairwise.cons (fun R' _ k hk => ?_) h.2.2⟩
  · rcases List.mem_cons.1 hR' with rfl | e
    · exact hok
    · exact h.1 R' e
  · rcases List.mem_cons.1 hR' with rfl | e
    · rw [he] at hk; cases hk
    · exact h.2.1 R' e k hk
  · rw [he] at hk; cases hk
theorem Sep.nil (lo : Nat) (W : World) : Sep lo W [] := ⟨(fun _ h => by cases h), (fun _ h => by cases h), List.Pairwise.nil⟩
end
/-- What holds of each, with the same blocks. -/
theorem Sep.conv {lo : Nat} {W : World} {L L' : List Rsc} (h : Sep lo W L) (ho : L'.map Rsc.own = L.map Rsc.own) (hok : ∀ R ∈ L', R.ok W) : Sep lo W L' := by
  refine ⟨hok, fun R hR k hk => ?_, ?_⟩
  · have h1 : R.own ∈ L.map Rsc.own := ho ▸ List.mem_map_of_mem hR
    obtain ⟨R2, h2, h3⟩ := List.mem_map.1 h1
    exact h.2.1 R2 h2 k (h3 ▸ hk)
  · have h1 := (List.pairwise_map (f := Rsc.own) (R := fun a b => ∀ k ∈ a, k ∉ b)).2 h.2.2
    rw [← ho] at h1
    exact (List.pairwise_map (f := Rsc.own) (R := fun a b => ∀ k ∈ a, k ∉ b)).1 h1
/-- Fewer things. -/
theorem Sep.sub {lo : Nat} {W : World} {L L' : List Rsc} (h : Sep lo W L) (hs : L'.Sublist L) : Sep lo W L' :=
  ⟨fun R hR => h.1 R (hs.subset hR), fun R hR => h.2.1 R (hs.subset hR), h.2.2.sublist hs⟩
/-- What turns none of their blocks leaves them. -/
theorem Sep.off {lo : Nat} {W W' : World} {L : List Rsc} {S : Nat → Prop} (h : Sep lo W L) (ht : Tur S W W') (hS : ∀ R ∈ L, ∀ k ∈ R.own, ¬ S k) : Sep lo W' L :=
  ⟨fun R hR => R.st S W W' ht (hS R hR) (h.1 R hR), fun R hR k hk => ⟨(h.2.1 R hR k hk).1, Nat.lt_of_lt_of_le (h.2.1 R hR k hk).2 ht.size⟩, h.2.2⟩
theorem setCells_grown (b : Nat) : ∀ (vs : List Value) (o : Nat) (w : World), w.grownBy (w.setCells b o vs) (some b)
  | [], _, _ => ⟨rfl, rfl, rfl, Nat.le_refl _, fun _ _ _ => rfl⟩
  | v :: vs, o, w => by
    have h := setCells_grown b vs (o + 1) (w.setCell ⟨b, o, none⟩ v)
    have h1 : w.grownBy (w.setCell ⟨b, o, none⟩ v) (some b) := ⟨rfl, rfl, rfl, by simp [World.setCell], fun k _ hne => Below.heap_setCell w ⟨b, o, none⟩ v k (fun e => hne (by rw [e]))⟩
    exact ⟨h.os.trans h1.os, h.tape.trans h1.tape, h.output.trans h1.output, Nat.le_trans h1.size h.size, fun k hk hne => (h.block k (Nat.lt_of_lt_of_le hk h1.size) hne).trans (h1.block k hk hne)⟩

/-- One's own memory: n elements of sz cells each at a block's begin, room behind. -/
structure OwGForm (W : World) (base g cap sz : Nat) (v : Value) (n : Nat) (ys : List Value) : Prop where
  val : v = .slice (some ⟨g, 0, none⟩) n cap
  low : base ≤ g
  lt : g < W.heap.size
  fits : n ≤ cap
  len : ys.length = n * sz
  cells : ∀ j (h : j < ys.length), W.cell? ⟨g, j, none⟩ = some ys[j]
  room : ∀ j, j < cap * sz → (W.cell? ⟨g, j, none⟩).isSome = true ∧ W.frozen? ⟨g, j, none⟩ = false
def OwG (W : World) (base sz : Nat) (v : Value) (n : Nat) (ys : List Value) : Prop := (v = .slice none 0 0 ∧ n = 0 ∧ ys = []) ∨ ∃ g cap, OwGForm W base g cap sz v n ys
section
variable {W W1 : World} {base sz n : Nat} {v : Value} {ys : List Value}
theorem OwG.nil (W : World) (base sz : Nat) : OwG W base sz (.slice none 0 0) 0 [] := .inl ⟨rfl, rfl, rfl⟩
theorem OwG.of {E : TypeId} (h : W.ownsRow base E sz v n ys) : OwG W base sz v n ys := by
  obtain ⟨hl, h⟩ := h
  rcases h with ⟨rfl, rfl⟩ | ⟨g, cap, cur, rfl, hb, hg, hn, _, hs, ht⟩
  · exact .inl ⟨rfl, rfl, List.eq_nil_of_length_eq_zero (by rw [hl]; simp)⟩
  · have hgb : Blk W g E cur := hg
    refine .inr ⟨g, cap, rfl, hb, hgb.lt, hn, hl, fun j hj => ?_, fun j hj => ?_⟩
    · rw [hgb.cell j, ← Array.getElem?_toList]
      have h1 : (cur.toList.take (n * sz))[j]? = some ys[j] := by rw [ht]; exact List.getElem?_eq_getElem hj
      rw [List.getElem?_take] at h1
      split at h1
      · exact h1
      · cases h1
    · rw [hgb.cell j, hgb.frozen j, Array.getElem?_eq_getElem (by omega)]
      exact ⟨rfl, rfl⟩
theorem OwG.kept {S : Nat → Prop} (h : OwG W base sz v n ys) (ht : Tur S W W1) (hS : ∀ k, v.ownBlock = some k → ¬ S k) : OwG W1 base sz v n ys := by
  rcases h with h | ⟨g, cap, h⟩
  · exact .inl h
  · have hb := ht.block g h.lt (hS g (by rw [h.val]; rfl))
    refine .inr ⟨g, cap, h.val, h.low, Nat.lt_of_lt_of_le h.lt ht.size, h.fits, h.len, fun j hj => ?_, fun j hj => ?_⟩
    · rw [← h.cells j hj]; simp only [World.cell?, hb]
    · have := h.room j hj
      simp only [World.cell?, World.frozen?, hb] at this ⊢
      exact this
theorem OwG.below (h : OwG W base sz v n ys) (hb : Below W.heap.size W W1) : OwG W1 base sz v n ys := h.kept (Tur.of_below (S := fun _ => False) hb) (fun _ _ h => h)
theorem OwG.mono {base' : Nat} (h : OwG W base sz v n ys) (hb : base' ≤ base) : OwG W base' sz v n ys := by
  rcases h with h | ⟨g, c, h⟩
  · exact .inl h
  · exact .inr ⟨g, c, h.val, Nat.le_trans hb h.low, h.lt, h.fits, h.len, h.cells, h.room⟩
theorem OwG.lt (h : OwG W base sz v n ys) : ∀ k, v.ownBlock = some k → base ≤ k ∧ k < W.heap.size := by
  rcases h with ⟨rfl, _⟩ | ⟨g, cap, h⟩
  · intro k hk; cases hk
  · intro k hk
    rw [h.val] at hk
    cases hk
    exact ⟨h.low, h.lt⟩
theorem OwG.len (h : OwG W base sz v n ys) : ys.length = n * sz := by
  rcases h with ⟨_, rfl, rfl⟩ | ⟨g, cap, h⟩
  · simp
  · exact h.len
theorem OwG.form (h : OwG W base sz v n ys) : ∃ A c, v = .slice A n c ∧ n ≤ c ∧ (A = none → c = 0) := by
  rcases h with ⟨rfl, rfl, _⟩ | ⟨g, cap, h⟩
  · exact ⟨_, _, rfl, Nat.le_refl _, fun _ => rfl⟩
  · exact ⟨_, _, h.val, h.fits, fun h => by cases h⟩
theorem OwG.at (h : OwG W base sz v n ys) {A : Option Addr} {m c : Nat} (hv : v = .slice A m c) : CellsAt W A ys := fun k hk => by
  rcases h with ⟨_, _, rfl⟩ | ⟨g, cap, h⟩
  · exact absurd hk (Nat.not_lt_zero _)
  · have := h.val
    rw [hv] at this
    injection this with e1 e2 e3
    refine ⟨_, e1, h.lt, ?_⟩
    have e : Addr.add ⟨g, 0, none⟩ k = ⟨g, k, none⟩ := by cases k <;> simp [Addr.add]
    rw [e]
    exact h.cells k hk
/-- A cell of it is written. -/
theorem OwGForm.set {g cap : Nat} (h : OwGForm W base g cap sz v n ys) (k : Nat) (hk : k < n * sz) (u : Value) : OwGForm (W.setCell ⟨g, k, none⟩ u) base g cap sz v n (ys.set k u) := by
  have hkc : k < cap * sz := Nat.lt_of_lt_of_le hk (Nat.mul_le_mul_right _ h.fits)
  obtain ⟨u0, hs⟩ := Option.isSome_iff_exists.1 (h.room k hkc).1
  refine ⟨h.val, h.low, by rw [show (W.setCell ⟨g, k, none⟩ u).heap.size = W.heap.size by simp [World.setCell]]; exact h.lt, h.fits, by rw [List.length_set]; exact h.len, fun j hj => ?_, fun j hj => ?_⟩
  · rw [List.length_set] at hj
    by_cases e : j = k
    · subst e
      rw [World.cell?_setCell_same _ _ _ hs, List.getElem_set_self]
    · rw [World.cell?_setCell_other _ _ _ _ (by intro h; injection h with _ h; omega), h.cells j hj, List.getElem_set_ne (fun h => e h.symm)]
  · have h1 := h.room j hj
    refine ⟨?_, ?_⟩
    · by_cases e : j = k
      · subst e
        rw [World.cell?_setCell_same _ _ _ hs]; rfl
      · rw [World.cell?_setCell_other _ _ _ _ (by intro h; injection h with _ h; omega)]; exact h1.1
    · rw [World.frozen?_setCell]; exact h1.2
end
/-- append of one's own: the elder slice stays as it was. -/
theorem wpList_append_keepG {w : World} {ops : Array Oper} {rest : List Oper} {o : Oper} {a : Act} {Q : Exit → Act → World → Prop} (hgd : o.guard = none) (s x : Operand) (t : TypeId)
    (ho : o.op = .call { callee := .builtin .append, args := #[s, x], argTypes := #[t, t] })
    (e : TypeId) (i : TypeInfo) (z : Value) (size bytes : Nat) (h1 : Tryz.prog.underlying t = some (.slice e)) (h2 : Tryz.prog.info? e = some i) (h3 : i.zero = some z) (h4 : i.size = size) (h5 : i.bytes = bytes) (h6 : z.cells.size = size) (h7 : 0 < size)
    (base : Nat) (v : Value) (n : Nat) (xs : List Value) (hs : a.eval s = v) (hown : OwG w base size v n xs)
    (ad : Addr) (m c : Nat) (news : List Value) (hx : a.eval x = .slice (some ad) m c) (hl : news.length = m * size) (hnews : CellsAt w (some ad) news) (h1c : ∀ u ∈ news, u.oneCell' = true)
    (h63 : n + m ≤ maxLen) (hby : (n + m) * bytes ≤ 140737488355328) (hbase : base ≤ w.heap.size)
    (h : ∀ v' w', OwG w' base size v n xs → OwG w' base size v' (n + m) (xs ++ news) → w.grownBy w' v.ownBlock → ((v'.ownBlock = v.ownBlock ∧ ∃ A c', v = .slice A n c' ∧ v' = .slice A (n + m) c') ∨ (∃ k, v'.ownBlock = some k ∧ w.heap.size ≤ k) ∨ (v' = .slice none 0 0 ∧ v = .slice none 0 0 ∧ m = 0)) → wpList Tryz.prog ops Q rest (a.put o.dst v') w') :
    wpList Tryz.prog ops Q (o :: rest) a w := by
  have hn1 : ∀ j u, news[j]? = some u → w.cell? (ad.add j) = some u := fun j u hj => by
    obtain ⟨hlt, rfl⟩ := List.getElem?_eq_some_iff.1 hj
    obtain ⟨ad', e, _, hc⟩ := hnews j hlt
    cases e
    exact hc
  rcases hown with ⟨rfl, rfl, rfl⟩ | ⟨g, cap, hf⟩
  · refine wpList_append_own_at w hgd s x t ho base e i z size bytes h1 h2 h3 h4 h5 h6 h7 (.slice none 0 0) 0 [] hs (World.ownsRow_nil _ _ _ _) ad m c news hx hl hn1 h1c h63 hby hbase ?_
    intro v' w' hown hg hz hv
    refine h v' w' (OwG.nil _ _ _) (OwG.of hown) hg ?_
    rcases hv with e | e
    · refine .inr (.inr ?_)
      have h0 := hown.2
      rcases h0 with ⟨r, h0⟩ | ⟨g, cap, cur, r, _⟩
      · exact ⟨r, rfl, by omega⟩
      · rw [r] at e; cases e
    · exact .inr (.inl ⟨_, e, Nat.le_refl _⟩)
  · have hv := hf.val
    subst hv
    refine wpList_append_arg w hgd s x t ho e i z size bytes h1 h2 h3 h4 h5 h6 h7 g 0 n cap xs hs hf.len (fun j u hj => ?_) ad m c news hx hl hn1 h1c (fun hr j hj => ?_) h63 hby (fun hr => ?_) (fun hr v' w' hown hg => ?_)
    · obtain ⟨hlt, rfl⟩ := List.getElem?_eq_some_iff.1 hj
      rw [Nat.zero_add]
      exact hf.cells j hlt
    · rw [Nat.zero_add]
      refine hf.room (n * size + j) ?_
      have := Nat.mul_le_mul_right size hr
      rw [Nat.add_mul] at this
      omega
    · have hg := setCells_grown g news (0 + n * size) w
      have hroomlt : ∀ j, j < news.length → n * size + j < cap * size := fun j hj => by
        have := Nat.mul_le_mul_right size hr
        rw [Nat.add_mul] at this
        omega
      have hsm : ∀ j, j < news.length → (w.cell? ⟨g, 0 + n * size + j, none⟩).isSome = true := fun j hj => by
        rw [Nat.zero_add]
        exact (hf.room _ (hroomlt j hj)).1
      have hroom : ∀ j, j < cap * size → ((w.setCells g (0 + n * size) news).cell? ⟨g, j, none⟩).isSome = true ∧ (w.setCells g (0 + n * size) news).frozen? ⟨g, j, none⟩ = false := fun j hj => by
        have h1 := hf.room j hj
        exact ⟨World.isSome_setCells g _ _ _ _ h1.1, (World.frozen?_setCells g _ _ _ _).trans h1.2⟩
      have hlen := hf.len
      have hcell : ∀ j (hj : j < xs.length), (w.setCells g (0 + n * size) news).cell? ⟨g, j, none⟩ = some xs[j] := fun j hj => by
        rw [World.cell?_setCells_out g _ _ _ _ (fun _ _ => .inl (by show j < 0 + n * size; omega)), hf.cells j hj]
      refine h _ _ (.inr ⟨g, cap, rfl, hf.low, Nat.lt_of_lt_of_le hf.lt hg.size, hf.fits, hf.len, hcell, hroom⟩) (.inr ⟨g, cap, rfl, hf.low, Nat.lt_of_lt_of_le hf.lt hg.size, hr, by rw [List.length_append, hf.len, hl, Nat.add_mul], fun j hj => ?_, hroom⟩) hg (.inl ⟨rfl, _, _, rfl, rfl⟩)
      by_cases hjl : j < xs.length
      · rw [hcell j hjl, List.getElem_append_left hjl]
      · rw [List.length_append] at hj
        have h1 := World.cell?_setCells_in g news (0 + n * size) w hsm (j - xs.length) (by omega)
        rw [show 0 + n * size + (j - xs.length) = j by omega] at h1
        rw [h1, List.getElem_append_right (by omega)]
    · have hg' : w.grownBy w' (some g) := ⟨hg.os, hg.tape, hg.output, hg.size, fun k hk _ => hg.block k hk (by simp)⟩
      refine h v' w' ?_ ((OwG.of hown).mono hbase) hg' ?_
      · exact (show OwG w base size (.slice (some ⟨g, 0, none⟩) n cap) n xs from .inr ⟨g, cap, hf⟩).kept (S := fun _ => False) (Tur.of_grown hg (fun k e => by cases e)) (fun _ _ h => h)
      · rcases hown.2 with ⟨rfl, h0⟩ | ⟨g', cap', cur', rfl, hb, _⟩
        · have := hf.fits; omega
        · exact .inr (.inl ⟨g', rfl, hb⟩)
end Go.Proofs.YteffpfgdoganpaaGreatDoor

namespace Go.Proofs.YteffpfgdoganpaaGreatDoor
open Go.RowKit

def rG (base sz : Nat) (v : Value) (n : Nat) (ys : List Value) : Rsc where
  own := v.ownBlock.toList
  ok W := OwG W base sz v n ys
  st _ _ _ ht hS h := h.kept ht (fun k hk => hS k (own_list.2 hk))
/-- A slice, what grew out of it, what both hold. -/
structure Pg where
  v : Value
  w : Value
  n : Nat
  m : Nat
  ys : List Value
  zs : List Value
def rPg (base sz : Nat) (p : Pg) : Rsc where
  own := p.v.ownBlock.toList ++ p.w.ownBlock.toList
  ok W := OwG W base sz p.v p.n p.ys ∧ OwG W base sz p.w p.m p.zs ∧ p.n ≤ p.m ∧ (p.v.ownBlock = p.w.ownBlock → ∃ A c, p.v = .slice A p.n c ∧ p.w = .slice A p.m c)
  st _ _ _ ht hS h := ⟨h.1.kept ht (fun k hk => hS k (List.mem_append_left _ (own_list.2 hk))), h.2.1.kept ht (fun k hk => hS k (List.mem_append_right _ (own_list.2 hk))), h.2.2⟩
def putL : List Value → Nat → List Value → List Value
  | ys, _, [] => ys
  | ys, o, u :: us => putL (ys.set o u) (o + 1) us
theorem putL_len : ∀ (us ys : List Value) (o : Nat), (putL ys o us).length = ys.length
  | [], _, _ => rfl
  | u :: us, ys, o => by rw [putL, putL_len us]; simp
theorem putL_out : ∀ (us ys : List Value) (o j : Nat), (j < o ∨ o + us.length ≤ j) → (putL ys o us)[j]? = ys[j]?
  | [], _, _, _, _ => rfl
  | u :: us, ys, o, j, h => by
    rw [putL, putL_out us _ _ _ (by simp only [List.length_cons] at h; omega), List.getElem?_set_ne (by simp only [List.length_cons] at h; omega)]
theorem putL_in : ∀ (us ys : List Value) (o c : Nat), c < us.length → o + us.length ≤ ys.length → (putL ys o us)[o + c]? = us[c]?
  | [], _, _, _, h, _ => absurd h (Nat.not_lt_zero _)
  | u :: us, ys, o, c, h, hl => by
    simp only [List.length_cons] at h hl
    cases c with
    | zero =>
      rw [putL, putL_out us _ _ _ (.inl (by omega)), Nat.add_zero, List.getElem?_set_self (by omega)]
      rfl
    | succ c =>
      rw [putL, show o + (c + 1) = o + 1 + c by omega, putL_in us _ _ c (by omega) (by rw [List.length_set]; omega)]
      rfl
theorem OwGForm.setL {base g cap sz n : Nat} {v : Value} : ∀ (us : List Value) (o : Nat) (ys : List Value) (W : World), OwGForm W base g cap sz v n ys → o + us.length ≤ n * sz → OwGForm (W.setCells g o us) base g cap sz v n (putL ys o us)
  | [], _, _, _, h, _ => h
  | u :: us, o, ys, W, h, hl => by
    simp only [List.length_cons] at hl
    exact OwGForm.setL us (o + 1) (ys.set o u) _ (h.set o (by omega) u) (by omega)
def vB (vs : List Value) (k : Nat) : Prop := ∃ v ∈ vs, v.ownBlock = some k
/-- What the loops keep. -/
structure GrI (lo sz nk : Nat) (K M : Value) (mk : Nat) (ms vs : List Value) (ps : List Pg) (W wr : World) (Φ : Nat → Pg → Prop) : Prop where
  sep : Sep lo wr (rG lo 1 K nk vs :: rG lo 1 M mk ms :: ps.map (rPg lo sz))
  plen : ps.length = nk
  vs_ : ps.map Pg.v = vs
  phi : ∀ j (h : j < ps.length), Φ j ps[j]
  tur : Tur (vB vs) W wr
  lo_ : lo ≤ wr.heap.size
section
variable {lo sz nk mk : Nat} {K M M' : Value} {ms vs ms' : List Value} {ps : List Pg} {W wr w1 : World} {Φ Φ' : Nat → Pg → Prop}
theorem GrI.weak (h : GrI lo sz nk K M mk ms vs ps W wr Φ) (hΦ : ∀ j (hj : j < ps.length), Φ j ps[j] → Φ' j ps[j]) : GrI lo sz nk K M mk ms vs ps W wr Φ' :=
  ⟨h.sep, h.plen, h.vs_, fun j hj => hΦ j hj (h.phi j hj), h.tur, h.lo_⟩
theorem GrI.kept (h : GrI lo sz nk K M mk ms vs ps W wr Φ) (hb : Below wr.heap.size wr w1) : GrI lo sz nk K M mk ms vs ps W w1 Φ :=
  ⟨h.sep.kept hb h.lo_, h.plen, h.vs_, h.phi, h.tur.trans (Tur.of_below (S := vB vs) hb) (fun _ h => .inl h), Nat.le_trans h.lo_ hb.size⟩
theorem GrI.all (h : GrI lo sz nk K M mk ms vs ps W wr Φ) : OwG wr lo 1 K nk vs := h.sep.at 0 (by simp)
theorem GrI.more (h : GrI lo sz nk K M mk ms vs ps W wr Φ) : OwG wr lo 1 M mk ms := h.sep.at 1 (by simp)
theorem GrI.pair (h : GrI lo sz nk K M mk ms vs ps W wr Φ) (i : Nat) (hi : i < ps.length) : (rPg lo sz ps[i]).ok wr :=
  h.sep.ok (by simp only [List.mem_cons, List.mem_map]; exact .inr (.inr ⟨_, List.getElem_mem hi, rfl⟩))
theorem GrI.v_at (h : GrI lo sz nk K M mk ms vs ps W wr Φ) (i : Nat) (hi : i < ps.length) : vs[i]? = some ps[i].v := by
  rw [← h.vs_, List.getElem?_map, List.getElem?_eq_getElem hi]; rfl
/-- The pair at i turns in its own blocks. -/
theorem GrI.upd {S : Nat → Prop} (h : GrI lo sz nk K M mk ms vs ps W wr Φ) (i : Nat) (hi : i < ps.length) (p' : Pg) (hv : p'.v = ps[i].v) (hΦ : Φ' i p') (hΦ2 : ∀ j (hj : j < ps.length), j ≠ i → Φ j ps[j] → Φ' j ps[j])
    (ht : Tur S wr w1) (hS : ∀ k, k < wr.heap.size → S k → k ∈ (rPg lo sz ps[i]).own) (hS2 : ∀ k, S k → vB vs k ∨ W.heap.size ≤ k)
    (hok : (rPg lo sz p').ok w1) (hown : ∀ k ∈ (rPg lo sz p').own, (k ∈ (rPg lo sz ps[i]).own ∨ wr.heap.size ≤ k) ∧ k < w1.heap.size) : GrI lo sz nk K M mk ms vs (ps.set i p') W w1 Φ' := by
  have hlen : (rG lo 1 K nk vs :: rG lo 1 M mk ms :: ps.map (rPg lo sz)).length = ps.length + 2 := by simp
  have hget : (rG lo 1 K nk vs :: rG lo 1 M mk ms :: ps.map (rPg lo sz))[i + 2]'(by rw [hlen]; omega) = rPg lo sz ps[i] := by simp
  have h2 := h.sep.turn (R' := rPg lo sz p') (i + 2) (by rw [hlen]; omega) ht (by rw [hget]; exact hS) h.lo_ hok (by rw [hget]; exact hown)
  have e : (rG lo 1 K nk vs :: rG lo 1 M mk ms :: ps.map (rPg lo sz)).set (i + 2) (rPg lo sz p') = rG lo 1 K nk vs :: rG lo 1 M mk ms :: (ps.set i p').map (rPg lo sz) := by
    show _ :: _ :: (ps.map (rPg lo sz)).set i (rPg lo sz p') = _
    rw [← List.map_set]
  refine ⟨e ▸ h2, by rw [List.length_set]; exact h.plen, ?_, fun j hj => ?_, h.tur.trans ht hS2, Nat.le_trans h.lo_ ht.size⟩
  · rw [List.map_set, hv]
    have : (ps.map Pg.v)[i]'(by simpa using hi) = ps[i].v := by rw [List.getElem_map]
    rw [← this, List.set_getElem_self]
    exact h.vs_
  · rw [List.length_set] at hj
    by_cases e : i = j
    · subst e; rw [List.getElem_set_self]; exact hΦ
    · rw [List.getElem_set_ne e]; exact hΦ2 j hj (fun h => e h.symm) (h.phi j hj)
theorem GrI.own_lt (h : GrI lo sz nk K M mk ms vs ps W wr Φ) (i : Nat) (hi : i < ps.length) : ∀ k ∈ (rPg lo sz ps[i]).own, lo ≤ k ∧ k < wr.heap.size :=
  h.sep.2.1 _ (by simp only [List.mem_cons, List.mem_map]; exact .inr (.inr ⟨_, List.getElem_mem hi, rfl⟩))
/-- An element of the slice at i is written (nothing grew out of it so far). -/
theorem GrI.store (h : GrI lo sz nk K M mk ms vs ps W wr Φ) (i : Nat) (hi : i < ps.length) (k : Nat) (hk : k < ps[i].n) (us : List Value) (hu : us.length = sz) :
    ∃ g c, ps[i].v = .slice (some ⟨g, 0, none⟩) ps[i].n c ∧ (∀ j, j < ps[i].n * sz → (wr.cell? ⟨g, j, none⟩).isSome = true ∧ wr.frozen? ⟨g, j, none⟩ = false) ∧
      ∀ wb, Below wr.heap.size wr wb → (Φ' i ⟨ps[i].v, ps[i].v, ps[i].n, ps[i].n, putL ps[i].ys (k * sz) us, putL ps[i].ys (k * sz) us⟩) → (∀ j (hj : j < ps.length), j ≠ i → Φ j ps[j] → Φ' j ps[j]) →
        GrI lo sz nk K M mk ms vs (ps.set i ⟨ps[i].v, ps[i].v, ps[i].n, ps[i].n, putL ps[i].ys (k * sz) us, putL ps[i].ys (k * sz) us⟩) W (wb.setCells g (k * sz) us) Φ' := by
  obtain ⟨h1, _, _, _⟩ := h.pair i hi
  rcases h1 with ⟨_, h0, _⟩ | ⟨g, c, hf⟩
  · omega
  · have hks : k * sz + us.length ≤ ps[i].n * sz := by
      have := Nat.mul_le_mul_right sz (show k + 1 ≤ ps[i].n by omega)
      rw [Nat.add_mul] at this
      omega
    refine ⟨g, c, hf.val, fun j hj => hf.room j (Nat.lt_of_lt_of_le hj (Nat.mul_le_mul_right _ hf.fits)), fun wb hb hΦ hΦ2 => ?_⟩
    have hc := h.kept hb
    have hf1 : OwGForm wb lo g c sz ps[i].v ps[i].n ps[i].ys := by
      obtain ⟨h1, _, _, _⟩ := hc.pair i hi
      rcases h1 with ⟨h0, _, _⟩ | ⟨g', c', hf'⟩
      · rw [hf.val] at h0; cases h0
      · have := hf'.val
        rw [hf.val] at this
        injection this with e1 e2 e3
        injection e1 with e1
        injection e1 with e1
        subst e1; subst e3
        exact hf'
    have ht : Tur (· = g) wb (wb.setCells g (k * sz) us) := Tur.of_grown (setCells_grown g us (k * sz) wb) (fun k e => by cases e; rfl)
    have hgo : g ∈ (rPg lo sz ps[i]).own := List.mem_append_left _ (own_list.2 (by rw [hf.val]; rfl))
    have hok := (OwGForm.setL us (k * sz) ps[i].ys wb hf1 hks)
    refine hc.upd (S := (· = g)) i hi _ rfl hΦ hΦ2 ht (fun j _ e => by subst e; exact hgo) (fun j e => .inl ⟨ps[i].v, ?_, by subst e; rw [hf.val]; rfl⟩) ⟨.inr ⟨g, c, hok⟩, .inr ⟨g, c, hok⟩, Nat.le_refl _, fun _ => ⟨_, _, hf.val, hf.val⟩⟩ (fun j hj => ?_)
    · exact List.mem_of_getElem? (h.v_at i hi)
    · have hj2 : j ∈ (rPg lo sz ps[i]).own := by
        rcases List.mem_append.1 hj with e | e
        · exact List.mem_append_left _ e
        · exact List.mem_append_left _ e
      exact ⟨.inl hj2, Nat.lt_of_lt_of_le (hc.own_lt i hi j hj2).2 ht.size⟩
/-- What grew out of the slice at i grows by an element. -/
theorem GrI.app {w2 : World} (h : GrI lo sz nk K M mk ms vs ps W wr Φ) (i : Nat) (hi : i < ps.length) (hb : Below wr.heap.size wr w1) {v' : Value} {m : Nat} {news : List Value} (hWl : W.heap.size ≤ lo ∨ ∀ k, ps[i].w.ownBlock = some k → vB vs k ∨ W.heap.size ≤ k)
    (h1 : OwG w2 lo sz ps[i].w ps[i].m ps[i].zs) (h2 : OwG w2 lo sz v' (ps[i].m + m) (ps[i].zs ++ news)) (hg : w1.grownBy w2 ps[i].w.ownBlock)
    (hv : (v'.ownBlock = ps[i].w.ownBlock ∧ ∃ A c', ps[i].w = .slice A ps[i].m c' ∧ v' = .slice A (ps[i].m + m) c') ∨ (∃ k, v'.ownBlock = some k ∧ w1.heap.size ≤ k) ∨ (v' = .slice none 0 0 ∧ ps[i].w = .slice none 0 0 ∧ m = 0)) (hm : 0 < m)
    (hΦ : Φ' i ⟨ps[i].v, v', ps[i].n, ps[i].m + m, ps[i].ys, ps[i].zs ++ news⟩) (hΦ2 : ∀ j (hj : j < ps.length), j ≠ i → Φ j ps[j] → Φ' j ps[j]) :
    GrI lo sz nk K M mk ms vs (ps.set i ⟨ps[i].v, v', ps[i].n, ps[i].m + m, ps[i].ys, ps[i].zs ++ news⟩) W w2 Φ' := by
  have hc := h.kept hb
  obtain ⟨o1, o2, o3, o4⟩ := hc.pair i hi
  have ht : Tur (fun k => ps[i].w.ownBlock = some k) w1 w2 := Tur.of_grown hg (fun k e => e)
  have hlt := hc.own_lt i hi
  have o1' : OwG w2 lo sz ps[i].v ps[i].n ps[i].ys := by
    by_cases e : ps[i].v.ownBlock = ps[i].w.ownBlock
    · obtain ⟨A, c, e1, e2⟩ := o4 e
      rcases o1 with ⟨a1, a2, a3⟩ | ⟨g, c1, f1⟩
      · exact .inl ⟨a1, a2, a3⟩
      · have hb1 := f1.val
        rw [e1] at hb1
        injection hb1 with b1 _ b3
        subst b1; subst b3
        rcases h1 with ⟨a1, _, _⟩ | ⟨g', c2, f2⟩
        · rw [e2] at a1; cases a1
        · have hb2 := f2.val
          rw [e2] at hb2
          injection hb2 with b1 _ b3
          injection b1 with b1
          injection b1 with b1
          subst b1; subst b3
          rcases o2 with ⟨a1, _, _⟩ | ⟨g', c2, f3⟩
          · rw [e2] at a1; cases a1
          · have hb3 := f3.val
            rw [e2] at hb3
            injection hb3 with b1 _ b3
            injection b1 with b1
            injection b1 with b1
            subst b1
            refine .inr ⟨_, _, f1.val, f1.low, f2.lt, f1.fits, f1.len, fun j hj => ?_, f2.room⟩
            have hl1 := f1.len
            have hl2 := f2.len
            have hjz : j < ps[i].zs.length := by
              have := Nat.mul_le_mul_right sz o3
              omega
            rw [f2.cells j hjz, ← f3.cells j hjz, f1.cells j hj]
    · exact o1.kept ht (fun k e1 e2 => e (e1.trans e2.symm))
  refine hc.upd (S := fun k => ps[i].w.ownBlock = some k) i hi _ rfl hΦ hΦ2 ht (fun k _ e => List.mem_append_right _ (own_list.2 e)) (fun k e => ?_) ⟨o1', h2, by show ps[i].n ≤ ps[i].m + m; omega, fun e => ?_⟩ (fun k hk => ?_)
  · rcases hWl with hWl | hWl
    · exact .inr (by have := (o2.lt k e).1; omega)
    · exact hWl k e
  · dsimp only at e ⊢
    rcases hv with ⟨e1, A, c', e2, e3⟩ | ⟨k, e1, e2⟩ | ⟨e1, e2, e3⟩
    · obtain ⟨A2, c2, e4, e5⟩ := o4 (e.trans e1)
      rw [e2] at e5
      injection e5 with b1 _ b3
      subst b1; subst b3
      exact ⟨_, _, e4, e3⟩
    · have := hlt k (List.mem_append_left _ (own_list.2 (e.trans e1)))
      omega
    · omega
  · have hk : k ∈ ps[i].v.ownBlock.toList ++ v'.ownBlock.toList := hk
    rcases List.mem_append.1 hk with e | e
    · exact ⟨.inl (List.mem_append_left _ e), Nat.lt_of_lt_of_le (hlt k (List.mem_append_left _ e)).2 ht.size⟩
    · refine ⟨?_, (h2.lt k (own_list.1 e)).2⟩
      rcases hv with ⟨e1, _⟩ | ⟨k', e1, e2⟩ | ⟨e1, _⟩
      · exact .inl (List.mem_append_right _ (own_list.2 (e1 ▸ own_list.1 e)))
      · rw [own_list.1 e] at e1; cases e1; exact .inr e2
      · rw [e1] at e; cases own_list.1 e
theorem grown_kind {v v' : Value} {P Q : Prop} {B : Nat} (hv : (v'.ownBlock = v.ownBlock ∧ Q) ∨ (∃ k, v'.ownBlock = some k ∧ B ≤ k) ∨ (v' = .slice none 0 0 ∧ P)) : ∀ b, v'.ownBlock = some b → v.ownBlock = some b ∨ B ≤ b := fun b e => by
  rcases hv with ⟨e1, _⟩ | ⟨k, e1, e2⟩ | ⟨e1, _⟩
  · exact .inl (e1 ▸ e)
  · rw [e] at e1; cases e1; exact .inr e2
  · rw [e1] at e; cases e
/-- The row of what grew is written. -/
theorem GrI.put {g : Nat} (h : GrI lo sz nk K M mk ms vs ps W wr Φ) (i : Nat) (hi : i < mk) (hM : M.ownBlock = some g) (u : Value) (hW : W.heap.size ≤ g) : GrI lo sz nk K M mk (ms.set i u) vs ps W (wr.setCell ⟨g, i, none⟩ u) Φ := by
  have ht : Tur (· = g) wr (wr.setCell ⟨g, i, none⟩ u) := Tur.setCell (S := (· = g)) (p := ⟨g, i, none⟩) (Tur.refl _ _) (.inl rfl) _
  have hgm : g ∈ M.ownBlock.toList := own_list.2 hM
  have hlt := (h.more.lt g hM)
  have h2 := h.sep.turn (R' := rG lo 1 M mk (ms.set i u)) 1 (by simp) ht (fun k _ e => by subst e; exact hgm) h.lo_ (by
    rcases h.more with ⟨_, h0, _⟩ | ⟨g', c, hf⟩
    · omega
    · have := hf.val
      rw [this] at hM
      cases hM
      exact .inr ⟨g', c, hf.set i (by omega) u⟩) (fun k hk => ⟨.inl hk, by have := (h.more.lt k (own_list.1 hk)).2; exact Nat.lt_of_lt_of_le this ht.size⟩)
  exact ⟨h2, h.plen, h.vs_, h.phi, h.tur.trans ht (fun k e => .inr (by omega)), Nat.le_trans h.lo_ ht.size⟩
/-- The row of what grew is made. -/
theorem GrI.mk_ (h : GrI lo sz nk K M mk ms vs ps W wr Φ) (hb : wr.grownBy w1 none) (ho : OwG w1 wr.heap.size 1 M' nk ms') : GrI lo sz nk K M' nk ms' vs ps W w1 Φ := by
  have hb : Below wr.heap.size wr w1 := ⟨hb.os, hb.tape, hb.output, hb.size, fun k hk => hb.block k hk (by simp)⟩
  have h1 : Sep lo wr (rG lo 1 K nk vs :: ps.map (rPg lo sz)) := h.sep.sub (List.Sublist.cons_cons _ (List.sublist_cons_self _ _))
  have h2 := h1.add (R' := rG lo 1 M' nk ms') hb h.lo_ (ho.mono h.lo_) (fun k hk => ho.lt k (own_list.1 hk))
  exact ⟨h2.perm (List.Perm.swap _ _ _), h.plen, h.vs_, h.phi, h.tur.trans (Tur.of_below (S := vB vs) hb) (fun _ h => .inl h), Nat.le_trans h.lo_ hb.size⟩
end
/-- Slices of one's own at hand, ahead of all; a row of something beside them. -/
theorem GrI.start2 {lo sz nk mk : Nat} {K M : Value} {vs ms : List Value} {ps : List Pg} {W : World} {Φ : Nat → Pg → Prop} (hs : Sep lo W (rG lo 1 K nk vs :: rG lo 1 M mk ms :: ps.map fun p => rG lo sz p.v p.n p.ys)) (hp : ∀ p ∈ ps, p.w = p.v ∧ p.m = p.n ∧ p.zs = p.ys) (hl : ps.length = nk) (hv : ps.map Pg.v = vs) (hlo : lo ≤ W.heap.size) (hΦ : ∀ j (h : j < ps.length), Φ j ps[j]) :
    GrI lo sz nk K M mk ms vs ps W W Φ := by
  refine ⟨?_, hl, hv, hΦ, Tur.refl _ _, hlo⟩
  have hown : ∀ p ∈ ps, ∀ k ∈ (rPg lo sz p).own, k ∈ (rG lo sz p.v p.n p.ys).own := fun p hp1 k hk => by
    obtain ⟨e1, _, _⟩ := hp p hp1
    rcases List.mem_append.1 hk with e | e
    · exact e
    · rw [e1] at e; exact e
  refine ⟨fun R hR => ?_, fun R hR k hk => ?_, ?_⟩
  · rcases List.mem_cons.1 hR with rfl | hR
    · exact hs.1 _ (List.mem_cons_self ..)
    · rcases List.mem_cons.1 hR with rfl | hR
      · exact hs.1 _ (List.mem_cons_of_mem _ (List.mem_cons_self ..))
      · obtain ⟨p, hp1, rfl⟩ := List.mem_map.1 hR
        have h2 : OwG W lo sz p.v p.n p.ys := hs.1 _ (List.mem_cons_of_mem _ (List.mem_cons_of_mem _ (List.mem_map.2 ⟨p, hp1, rfl⟩)))
        obtain ⟨e1, e2, e3⟩ := hp p hp1
        obtain ⟨A, c, e4, _⟩ := h2.form
        exact ⟨h2, by rw [e1, e2, e3]; exact h2, by omega, fun _ => ⟨A, c, e4, by rw [e1, e2]; exact e4⟩⟩
  · rcases List.mem_cons.1 hR with rfl | hR
    · exact hs.2.1 _ (List.mem_cons_self ..) k hk
    · rcases List.mem_cons.1 hR with rfl | hR
      · exact hs.2.1 _ (List.mem_cons_of_mem _ (List.mem_cons_self ..)) k hk
      · obtain ⟨p, hp1, rfl⟩ := List.mem_map.1 hR
        exact hs.2.1 (rG lo sz p.v p.n p.ys) (List.mem_cons_of_mem _ (List.mem_cons_of_mem _ (List.mem_map.2 ⟨p, hp1, rfl⟩))) k (hown p hp1 k hk)
  · have h3 := hs.2.2
    rw [List.pairwise_cons, List.pairwise_cons] at h3 ⊢
    obtain ⟨h4, h5, h6⟩ := h3
    refine ⟨fun R hR k hk hk2 => ?_, fun R hR k hk hk2 => ?_, ?_⟩
    · rcases List.mem_cons.1 hR with rfl | hR
      · exact h4 _ (List.mem_cons_self ..) k hk hk2
      · obtain ⟨p, hp1, rfl⟩ := List.mem_map.1 hR
        exact h4 (rG lo sz p.v p.n p.ys) (List.mem_cons_of_mem _ (List.mem_map.2 ⟨p, hp1, rfl⟩)) k hk (hown p hp1 k hk2)
    · obtain ⟨p, hp1, rfl⟩ := List.mem_map.1 hR
      exact h5 (rG lo sz p.v p.n p.ys) (List.mem_map.2 ⟨p, hp1, rfl⟩) k hk (hown p hp1 k hk2)
    · rw [List.pairwise_map]
      refine (List.Pairwise.and_mem.1 (List.pairwise_map.1 h6)).imp ?_
      rintro p p' ⟨hp1, hp2, h⟩ k hk hk2
      exact h k (hown p hp1 k hk) (hown p' hp2 k hk2)
theorem GrI.start {lo sz nk : Nat} {K : Value} {vs : List Value} {ps : List Pg} {W : World} {Φ : Nat → Pg → Prop} (hs : Sep lo W (rG lo 1 K nk vs :: ps.map fun p => rG lo sz p.v p.n p.ys)) (hp : ∀ p ∈ ps, p.w = p.v ∧ p.m = p.n ∧ p.zs = p.ys) (hl : ps.length = nk) (hv : ps.map Pg.v = vs) (hlo : lo ≤ W.heap.size) (hΦ : ∀ j (h : j < ps.length), Φ j ps[j]) :
    GrI lo sz nk K (.slice none 0 0) 0 [] vs ps W W Φ :=
  GrI.start2 ((hs.free (R := rG lo 1 (.slice none 0 0) 0 []) (OwG.nil _ _ _) rfl).perm (List.Perm.swap _ _ _)) hp hl hv hlo hΦ
/-- Fewer blocks. -/
theorem Sep.less {lo : Nat} {W : World} {R R' : Rsc} {L : List Rsc} (h : Sep lo W (R :: L)) (hok : R'.ok W) (ho : ∀ k ∈ R'.own, k ∈ R.own) : Sep lo W (R' :: L) := by
  refine ⟨fun X hX => ?_, fun X hX k hk => ?_, ?_⟩
  · rcases List.mem_cons.1 hX with rfl | e
    · exact hok
    · exact h.1 X (List.mem_cons_of_mem _ e)
  · rcases List.mem_cons.1 hX with rfl | e
    · exact h.2.1 R (List.mem_cons_self ..) k (ho k hk)
    · exact h.2.1 X (List.mem_cons_of_mem _ e) k hk
  · have h3 := List.pairwise_cons.1 h.2.2
    exact List.pairwise_cons.2 ⟨fun X hX k hk => h3.1 X hX k (ho k hk), h3.2⟩
/-- A row of one's own grows. -/
theorem Sep.growG {lo sz n m : Nat} {w w1 w2 : World} {K v' : Value} {vs vs' : List Value} {L : List Rsc} (h : Sep lo w (rG lo sz K n vs :: L)) (hb : Below w.heap.size w w1) (hlo : lo ≤ w.heap.size) (ho : OwG w2 lo sz v' m vs') (hg : w1.grownBy w2 K.ownBlock) (hv : ∀ b, v'.ownBlock = some b → K.ownBlock = some b ∨ w1.heap.size ≤ b) :
    Sep lo w2 (rG lo sz v' m vs' :: L) ∧ Below lo w w2 := by
  have h1 := h.kept hb hlo
  have ht : Tur (fun k => K.ownBlock = some k) w1 w2 := Tur.of_grown hg (fun k e => e)
  have hl1 := Nat.le_trans hlo hb.size
  exact ⟨h1.one ht (fun k _ e => own_list.2 e) hl1 ho (fun k hk => ⟨(hv k (own_list.1 hk)).imp (fun e => own_list.2 e) id, (ho.lt k (own_list.1 hk)).2⟩),
    (hb.mono hlo).trans (h1.below ht (fun k _ e => own_list.2 e) hl1)⟩
/-- Bytes of one's own, whatever they are. -/
def AnyB (W : World) (lo : Nat) (v : Value) (n : Nat) : Prop := ∃ xs : List Int, OwG W lo 1 v n (bvs xs)
theorem AnyB.set {W : World} {lo n g k : Nat} {v : Value} (h : AnyB W lo v n) (u : Int) : AnyB (W.setCell ⟨g, k, none⟩ (.int .u8 u)) lo v n := by
  obtain ⟨xs, h⟩ := h
  rcases h with h | ⟨g', c, hf⟩
  · exact ⟨xs, .inl h⟩
  · by_cases e : g = g'
    · subst e
      by_cases hk : k < n * 1
      · refine ⟨xs.set k u, .inr ⟨g, c, ?_⟩⟩
        have := hf.set k hk (.int .u8 u)
        rwa [show (bvs xs).set k (.int .u8 u) = bvs (xs.set k u) by unfold bvs; rw [List.map_set]] at this
      · have hlen := hf.len
        refine ⟨xs, .inr ⟨g, c, hf.val, hf.low, by rw [show (W.setCell ⟨g, k, none⟩ (.int .u8 u)).heap.size = W.heap.size by simp [World.setCell]]; exact hf.lt, hf.fits, hf.len, fun j hj => ?_, fun j hj => ?_⟩⟩
        · rw [World.cell?_setCell_other _ _ _ _ (by intro h; injection h with _ h; omega)]
          exact hf.cells j hj
        · have h1 := hf.room j hj
          refine ⟨?_, by rw [World.frozen?_setCell]; exact h1.2⟩
          by_cases e : j = k
          · subst e
            obtain ⟨u0, hs⟩ := Option.isSome_iff_exists.1 h1.1
            rw [World.cell?_setCell_same _ _ _ hs]; rfl
          · rw [World.cell?_setCell_other _ _ _ _ (by intro h; injection h with _ h; omega)]; exact h1.1
    · have ht : Tur (· = g) W (W.setCell ⟨g, k, none⟩ (.int .u8 u)) := Tur.setCell (S := (· = g)) (p := ⟨g, k, none⟩) (Tur.refl _ _) (.inl rfl) _
      exact ⟨xs, (show OwG W lo 1 v n (bvs xs) from .inr ⟨g', c, hf⟩).kept ht (fun j hj e2 => by rw [hf.val] at hj; cases hj; exact e e2.symm)⟩
/-- Bytes, and what grew out of them. -/
def rAny2 (lo : Nat) (v v' : Value) (n m : Nat) : Rsc where
  own := v.ownBlock.toList ++ v'.ownBlock.toList
  ok W := AnyB W lo v n ∧ AnyB W lo v' m
  st _ _ _ ht hS h := ⟨h.1.imp fun _ h => h.kept ht (fun k hk => hS k (List.mem_append_left _ (own_list.2 hk))), h.2.imp fun _ h => h.kept ht (fun k hk => hS k (List.mem_append_right _ (own_list.2 hk)))⟩
theorem AnyB.room {W : World} {lo n : Nat} {v : Value} (h : AnyB W lo v n) (hn : 0 < n) : ∃ g c, v = .slice (some ⟨g, 0, none⟩) n c ∧ n ≤ c ∧ ∀ k, k < n → (∃ u, W.cell? ⟨g, k, none⟩ = some u) ∧ W.frozen? ⟨g, k, none⟩ = false := by
  obtain ⟨xs, h⟩ := h
  rcases h with ⟨_, h, _⟩ | ⟨g, c, hf⟩
  · omega
  · exact ⟨g, c, hf.val, hf.fits, fun k hk => by
      have := hf.room k (by have := hf.fits; omega)
      exact ⟨Option.isSome_iff_exists.1 this.1, this.2⟩⟩
theorem RowAt.owg {W : World} {A : Option Addr} {n lo : Nat} {xs : List Int} (h : RowAt W A n lo xs) : OwG W lo 1 (.slice A n n) n (bvs xs) := by
  rcases h with ⟨rfl, rfl, rfl⟩ | ⟨g, cur, rfl, h1, hg, hl, hn, ht⟩
  · exact .inl ⟨rfl, rfl, rfl⟩
  · refine .inr ⟨g, n, rfl, h1, hg.lt, Nat.le_refl _, by rw [bvs_len, hl, Nat.mul_one], fun j hj => ?_, fun j hj => ?_⟩
    · obtain ⟨ad, e, _, hc⟩ := (RowAt.cells (.inr ⟨g, cur, rfl, h1, hg, hl, hn, ht⟩) : CellsAt W (some ⟨g, 0, none⟩) (bvs xs)) j hj
      cases e
      have e : Addr.add ⟨g, 0, none⟩ j = ⟨g, j, none⟩ := by cases j <;> simp [Addr.add]
      rw [e] at hc
      exact hc
    · rw [hg.cell j, Array.getElem?_eq_getElem (by omega)]
      exact ⟨rfl, hg.frozen j⟩
end Go.Proofs.YteffpfgdoganpaaGreatDoor

namespace Go.Proofs.YteffpfgdoganpaaGreatDoor
open Go.RowKit

section
variable {lo sz nk mk : Nat} {K M M' : Value} {ms vs ms' : List Value} {ps : List Pg} {W wr w1 w2 : World} {Φ Φ' : Nat → Pg → Prop}
theorem GrI.cellK (h : GrI lo sz nk K M mk ms vs ps W wr Φ) (i : Nat) (hi : i < nk) : ∃ gk ck, K = .slice (some ⟨gk, 0, none⟩) nk ck ∧ gk < wr.heap.size ∧ wr.cell? ⟨gk, i, none⟩ = some (ps[i]'(by rw [h.plen]; exact hi)).v := by
  have hip : i < ps.length := by rw [h.plen]; exact hi
  rcases h.all with ⟨_, h0, _⟩ | ⟨g, c, hf⟩
  · omega
  · have hv := h.v_at i hip
    obtain ⟨hlt, e⟩ := List.getElem?_eq_some_iff.1 hv
    exact ⟨g, c, hf.val, hf.lt, by rw [hf.cells i hlt, e]⟩
theorem GrI.cellM (h : GrI lo sz nk K M nk (ps.map Pg.w) vs ps W wr Φ) (i : Nat) (hi : i < nk) : ∃ gm cm, M = .slice (some ⟨gm, 0, none⟩) nk cm ∧ gm < wr.heap.size ∧ wr.cell? ⟨gm, i, none⟩ = some (ps[i]'(by rw [h.plen]; exact hi)).w ∧ wr.frozen? ⟨gm, i, none⟩ = false := by
  have hip : i < ps.length := by rw [h.plen]; exact hi
  rcases h.more with ⟨_, h0, _⟩ | ⟨g, c, hf⟩
  · omega
  · have hlt : i < (ps.map Pg.w).length := by rw [List.length_map]; exact hip
    exact ⟨g, c, hf.val, hf.lt, by rw [hf.cells i hlt, List.getElem_map], (hf.room i (by have := hf.fits; omega)).2⟩
theorem GrI.neM (h : GrI lo sz nk K M mk ms vs ps W wr Φ) (i : Nat) (hi : i < ps.length) : ∀ k, M.ownBlock = some k → k ∉ (rPg lo sz ps[i]).own := by
  intro k hk
  have h3 := (List.pairwise_cons.1 (List.pairwise_cons.1 h.sep.2.2).2).1
  exact h3 _ (List.mem_map.2 ⟨_, List.getElem_mem hi, rfl⟩) k (own_list.2 hk)
theorem GrI.form (h : GrI lo sz nk K M mk ms vs ps W wr Φ) (i : Nat) (hi : i < ps.length) : (∃ A c, ps[i].v = .slice A ps[i].n c) ∧ ∃ A c, ps[i].w = .slice A ps[i].m c := by
  obtain ⟨o1, o2, _⟩ := h.pair i hi
  obtain ⟨A, c, e, _⟩ := o1.form
  obtain ⟨A2, c2, e2, _⟩ := o2.form
  exact ⟨⟨A, c, e⟩, ⟨A2, c2, e2⟩⟩
end
theorem grownCell {w1 w2 : World} {row : Option Nat} {m i : Nat} {v : Value} (hg : w1.grownBy w2 row) (hm : m < w1.heap.size) (hr : some m ≠ row) (hc : w1.cell? ⟨m, i, none⟩ = some v) (hf : w1.frozen? ⟨m, i, none⟩ = false) : w2.cell? ⟨m, i, none⟩ = some v ∧ w2.frozen? ⟨m, i, none⟩ = false := by
  have hb := hg.block m hm hr
  exact ⟨by rw [← hc]; simp only [World.cell?, hb], by rw [← hf]; simp only [World.frozen?, hb]⟩
theorem alloc_cells (w : World) (t : TypeId) (l : List Value) : CellsAt (w.alloc (.cells l.toArray t)) (some ⟨w.heap.size, 0, none⟩) l := fun k hk => by
  have h := (Blk.new w t l.toArray).cell k
  refine ⟨_, rfl, (Blk.new w t l.toArray).lt, ?_⟩
  have e : Addr.add ⟨w.heap.size, 0, none⟩ k = ⟨w.heap.size, k, none⟩ := by cases k <;> simp [Addr.add]
  rw [e, h]
  simp [hk]
/-- The element at t is e. -/
def ElA (ys : List Value) (sz t : Nat) (e : List Value) : Prop := ∀ c, c < sz → ys[t * sz + c]? = e[c]?
theorem ElA.put {ys : List Value} {sz t k : Nat} {e us : List Value} (hu : us.length = sz) (h : t ≠ k → ElA ys sz t e) (he : t = k → e = us) (hk : (k + 1) * sz ≤ ys.length) : ElA (putL ys (k * sz) us) sz t e := fun c hc => by
  rw [Nat.add_mul] at hk
  by_cases h1 : t = k
  · rw [he h1, h1]
    exact putL_in us ys (k * sz) c (by omega) (by omega)
  · rw [putL_out _ _ _ _ ?_]
    · exact h h1 c hc
    · rcases Nat.lt_or_gt_of_ne h1 with h2 | h2
      · have := Nat.mul_le_mul_right sz (show t + 1 ≤ k from h2)
        rw [Nat.add_mul] at this
        exact .inl (by omega)
      · have := Nat.mul_le_mul_right sz (show k + 1 ≤ t from h2)
        rw [Nat.add_mul] at this
        exact .inr (by omega)
theorem ElA.app {ys news : List Value} {sz t : Nat} {e : List Value} (h : ElA ys sz t e) (ht : (t + 1) * sz ≤ ys.length) : ElA (ys ++ news) sz t e := fun c hc => by
  rw [Nat.add_mul] at ht
  rw [List.getElem?_append_left (by omega)]
  exact h c hc
theorem ElA.new {ys us : List Value} {sz m : Nat} (hm : ys.length = m * sz) : ElA (ys ++ us) sz m us := fun c _ => by
  rw [List.getElem?_append_right (by omega), hm, Nat.add_sub_cancel_left]
theorem OwG.el {W : World} {base sz n g c t j : Nat} {v : Value} {ys e : List Value} {u : Value} (h : OwG W base sz v n ys) (hv : v = .slice (some ⟨g, 0, none⟩) n c) (ht : ElA ys sz t e) (hj : j < sz) (he : e[j]? = some u) : W.cell? ⟨g, t * sz + j, none⟩ = some u := by
  rcases h with ⟨h0, _, _⟩ | ⟨g', c', hf⟩
  · rw [hv] at h0; cases h0
  · have := hf.val
    rw [hv] at this
    injection this with e1
    injection e1 with e1
    injection e1 with e1
    subst e1
    have h1 := ht j hj
    rw [he] at h1
    obtain ⟨hlt, h2⟩ := List.getElem?_eq_some_iff.1 h1
    rw [hf.cells _ hlt, h2]
theorem OwG.some_ {W : World} {base sz n : Nat} {v : Value} {ys : List Value} (h : OwG W base sz v n ys) (hn : 0 < n) : ∃ g c, v = .slice (some ⟨g, 0, none⟩) n c ∧ n ≤ c := by
  rcases h with ⟨_, h0, _⟩ | ⟨g, c, hf⟩
  · omega
  · exact ⟨g, c, hf.val, hf.fits⟩
/-- Marks being written. -/
def PhA (sz : Nat) (mk : Nat → Nat → List Value) (i k j : Nat) (p : Pg) : Prop :=
  p.n ≤ 1000000 ∧ p.ys.length = p.n * sz ∧ p.w = p.v ∧ p.m = p.n ∧ p.zs = p.ys ∧ ∀ t, t < p.n → (j < i ∨ (j = i ∧ t < k)) → ElA p.ys sz t (mk j t)
/-- Growing: k elements each, the first i one more. -/
def PhB (sz B : Nat) (mk gr : Nat → Nat → List Value) (k i j : Nat) (p : Pg) : Prop :=
  (∀ b, p.w.ownBlock = some b → p.v.ownBlock = some b ∨ B ≤ b) ∧ p.n ≤ 1000000 ∧ p.ys.length = p.n * sz ∧ p.zs.length = p.m * sz ∧ (j < i → p.m = p.n + k + 1) ∧ (i ≤ j → p.m = p.n + k) ∧ (∀ t, t < p.n → ElA p.ys sz t (mk j t) ∧ ElA p.zs sz t (mk j t)) ∧ ∀ t, p.n + t < p.m → ElA p.zs sz (p.n + t) (gr j t)
section
variable {sz B : Nat} {mk gr : Nat → Nat → List Value} {p : Pg} {i j k : Nat}
theorem PhA.put (h : PhA sz mk i k i p) {us : List Value} (hu : us.length = sz) (hm : us = mk i k) (hk : k < p.n) : PhA sz mk i (k + 1) i ⟨p.v, p.v, p.n, p.n, putL p.ys (k * sz) us, putL p.ys (k * sz) us⟩ := by
  obtain ⟨h1, h2, h3, h4, h5, h6⟩ := h
  refine ⟨h1, by rw [putL_len]; exact h2, rfl, rfl, rfl, fun t ht ho => ElA.put hu (fun hne => h6 t ht (ho.imp_right (fun o => ⟨o.1, by have := o.2; omega⟩))) (fun e => by rw [hm, e]) (by rw [h2]; exact Nat.mul_le_mul_right _ hk)⟩
theorem PhA.other (h : PhA sz mk i k j p) (hj : j ≠ i) (k' : Nat) : PhA sz mk i k' j p := by
  obtain ⟨h1, h2, h3, h4, h5, h6⟩ := h
  exact ⟨h1, h2, h3, h4, h5, fun t ht ho => h6 t ht (.inl (by rcases ho with o | o; exact o; exact absurd o.1 hj))⟩
theorem PhA.next (h : PhA sz mk i k j p) (hk : j = i → p.n ≤ k) : PhA sz mk (i + 1) 0 j p := by
  obtain ⟨h1, h2, h3, h4, h5, h6⟩ := h
  refine ⟨h1, h2, h3, h4, h5, fun t ht ho => h6 t ht ?_⟩
  rcases ho with o | o
  · by_cases e : j = i
    · exact .inr ⟨e, by have := hk e; omega⟩
    · exact .inl (by omega)
  · omega
theorem PhA.done (h : PhA sz mk i k j p) (hi : j < i) : PhB sz B mk gr 0 0 j p := by
  obtain ⟨h1, h2, h3, h4, h5, h6⟩ := h
  refine ⟨fun b e => .inl (by rw [← h3]; exact e), h1, h2, by rw [h5, h4]; exact h2, fun h => by omega, fun _ => h4, fun t ht => ?_, fun t ht => by omega⟩
  rw [h5]
  exact ⟨h6 t ht (.inl hi), h6 t ht (.inl hi)⟩
theorem PhB.app (h : PhB sz B mk gr k i i p) {us : List Value} {v' : Value} (hu : us.length = sz) (hm : us = gr i k) (hb : ∀ b, v'.ownBlock = some b → p.w.ownBlock = some b ∨ B ≤ b) : PhB sz B mk gr k (i + 1) i ⟨p.v, v', p.n, p.m + 1, p.ys, p.zs ++ us⟩ := by
  obtain ⟨h0, h1, h2, h3, h4, h5, h6, h7⟩ := h
  have hmk := h5 (Nat.le_refl _)
  refine ⟨fun b e => (hb b e).elim (fun e2 => h0 b e2) .inr, h1, h2, by rw [List.length_append, h3, hu, Nat.add_mul, Nat.one_mul], fun _ => by show p.m + 1 = p.n + k + 1; omega, fun h => by omega, fun t ht => ⟨(h6 t ht).1, (h6 t ht).2.app (by rw [h3]; have ht : t < p.n := ht; exact Nat.mul_le_mul_right _ (by omega))⟩, fun t ht => ?_⟩
  have ht : p.n + t < p.m + 1 := ht
  by_cases e : p.n + t < p.m
  · exact (h7 t e).app (by rw [h3]; exact Nat.mul_le_mul_right _ (by omega))
  · have e1 : p.n + t = p.m := by omega
    have e2 : t = k := by omega
    show ElA (p.zs ++ us) sz (p.n + t) (gr i t)
    rw [e1, e2, ← hm]
    exact ElA.new h3
theorem PhB.other (h : PhB sz B mk gr k i j p) (hj : j ≠ i) : PhB sz B mk gr k (i + 1) j p := by
  obtain ⟨h0, h1, h2, h3, h4, h5, h6, h7⟩ := h
  exact ⟨h0, h1, h2, h3, fun h => h4 (by omega), fun h => h5 (by omega), h6, h7⟩
theorem PhB.next (h : PhB sz B mk gr k i j p) (hj : j < i) : PhB sz B mk gr (k + 1) 0 j p := by
  obtain ⟨h0, h1, h2, h3, h4, h5, h6, h7⟩ := h
  exact ⟨h0, h1, h2, h3, fun h => by omega, fun _ => by have := h4 hj; omega, h6, h7⟩
end
end Go.Proofs.YteffpfgdoganpaaGreatDoor
