/- Slices of one's own, and what grew out of each: what the laws' Grown keep. -/
import Derived.Test.YtglbdbghcdoicaaGreatDoorCOwG
import Derived.Test.YtglbdbghcdoicaaGreatDoorWWs
namespace Go.Proofs.YtglbdbghcdoicaaGreatDoor
open Go.RowKit

def rG (base sz : Nat) (v : Value) (n : Nat) (ys : List Value) : Rsc where
  own := v.ownBlock.toList
  ok W := OwG W base sz v n ys
  st _ _ _ ht hS h := h.kept ht (fun k hk => hS k (own_list.2 hk))
/-- A slice, what grew out of it, what both hold. -/
structure Pg where
  v : Value
  w : Value
  n : Nat
  m : Nat
  ys : List Value
  zs : List Value
def rPg (base sz : Nat) (p : Pg) : Rsc where
  own := p.v.ownBlock.toList ++ p.w.ownBlock.toList
  ok W := OwG W base sz p.v p.n p.ys ∧ OwG W base sz p.w p.m p.zs ∧ p.n ≤ p.m ∧ (p.v.ownBlock = p.w.ownBlock → ∃ A c, p.v = .slice A p.n c ∧ p.w = .slice A p.m c)
  st _ _ _ ht hS h := ⟨h.1.kept ht (fun k hk => hS k (List.mem_append_left _ (own_list.2 hk))), h.2.1.kept ht (fun k hk => hS k (List.mem_append_right _ (own_list.2 hk))), h.2.2⟩
def putL : List Value → Nat → List Value → List Value
  | ys, _, [] => ys
  | ys, o, u :: us => putL (ys.set o u) (o + 1) us
theorem putL_len : ∀ (us ys : List Value) (o : Nat), (putL ys o us).length = ys.length
  | [], _, _ => rfl
  | u :: us, ys, o => by rw [putL, putL_len us]; simp
theorem putL_out : ∀ (us ys : List Value) (o j : Nat), (j < o ∨ o + us.length ≤ j) → (putL ys o us)[j]? = ys[j]?
  | [], _, _, _, _ => rfl
  | u :: us, ys, o, j, h => by
    rw [putL, putL_out us _ _ _ (by simp only [List.length_cons] at h; omega), List.getElem?_set_ne (by simp only [List.length_cons] at h; omega)]
theorem putL_in : ∀ (us ys : List Value) (o c : Nat), c < us.length → o + us.length ≤ ys.length → (putL ys o us)[o + c]? = us[c]?
  | [], _, _, _, h, _ => absurd h (Nat.not_lt_zero _)
  | u :: us, ys, o, c, h, hl => by
    simp only [List.length_cons] at h hl
    cases c with
    | zero =>
      rw [putL, putL_out us _ _ _ (.inl (by omega)), Nat.add_zero, List.getElem?_set_self (by omega)]
      rfl
    | succ c =>
      rw [putL, show o + (c + 1) = o + 1 + c by omega, putL_in us _ _ c (by omega) (by rw [List.length_set]; omega)]
      rfl
theorem OwGForm.setL {base g cap sz n : Nat} {v : Value} : ∀ (us : List Value) (o : Nat) (ys : List Value) (W : World), OwGForm W base g cap sz v n ys → o + us.length ≤ n * sz → OwGForm (W.setCells g o us) base g cap sz v n (putL ys o us)
  | [], _, _, _, h, _ => h
  | u :: us, o, ys, W, h, hl => by
    simp only [List.length_cons] at hl
    exact OwGForm.setL us (o + 1) (ys.set o u) _ (h.set o (by omega) u) (by omega)
def vB (vs : List Value) (k : Nat) : Prop := ∃ v ∈ vs, v.ownBlock = some k
/-- What the loops keep. -/
structure GrI (lo sz nk : Nat) (K M : Value) (mk : Nat) (ms vs : List Value) (ps : List Pg) (W wr : World) (Φ : Nat → Pg → Prop) : Prop where
  sep : Sep lo wr (rG lo 1 K nk vs :: rG lo 1 M mk ms :: ps.map (rPg lo sz))
  plen : ps.length = nk
  vs_ : ps.map Pg.v = vs
  phi : ∀ j (h : j < ps.length), Φ j ps[j]
  tur : Tur (vB vs) W wr
  lo_ : lo ≤ wr.heap.size
section
variable {lo sz nk mk : Nat} {K M M' : Value} {ms vs ms' : List Value} {ps : List Pg} {W wr w1 : World} {Φ Φ' : Nat → Pg → Prop}
theorem GrI.weak (h : GrI lo sz nk K M mk ms vs ps W wr Φ) (hΦ : ∀ j (hj : j < ps.length), Φ j ps[j] → Φ' j ps[j]) : GrI lo sz nk K M mk ms vs ps W wr Φ' :=
  ⟨h.sep, h.plen, h.vs_, fun j hj => hΦ j hj (h.phi j hj), h.tur, h.lo_⟩
theorem GrI.kept (h : GrI lo sz nk K M mk ms vs ps W wr Φ) (hb : Below wr.heap.size wr w1) : GrI lo sz nk K M mk ms vs ps W w1 Φ :=
  ⟨h.sep.kept hb h.lo_, h.plen, h.vs_, h.phi, h.tur.trans (Tur.of_below (S := vB vs) hb) (fun _ h => .inl h), Nat.le_trans h.lo_ hb.size⟩
theorem GrI.all (h : GrI lo sz nk K M mk ms vs ps W wr Φ) : OwG wr lo 1 K nk vs := h.sep.at 0 (by simp)
theorem GrI.more (h : GrI lo sz nk K M mk ms vs ps W wr Φ) : OwG wr lo 1 M mk ms := h.sep.at 1 (by simp)
theorem GrI.pair (h : GrI lo sz nk K M mk ms vs ps W wr Φ) (i : Nat) (hi : i < ps.length) : (rPg lo sz ps[i]).ok wr :=
  h.sep.ok (by simp only [List.mem_cons, List.mem_map]; exact .inr (.inr ⟨_, List.getElem_mem hi, rfl⟩))
theorem GrI.v_at (h : GrI lo sz nk K M mk ms vs ps W wr Φ) (i : Nat) (hi : i < ps.length) : vs[i]? = some ps[i].v := by
  rw [← h.vs_, List.getElem?_map, List.getElem?_eq_getElem hi]; rfl
/-- The pair at i turns in its own blocks. -/
theorem GrI.upd {S : Nat → Prop} (h : GrI lo sz nk K M mk ms vs ps W wr Φ) (i : Nat) (hi : i < ps.length) (p' : Pg) (hv : p'.v = ps[i].v) (hΦ : Φ' i p') (hΦ2 : ∀ j (hj : j < ps.length), j ≠ i → Φ j ps[j] → Φ' j ps[j])
    (ht : Tur S wr w1) (hS : ∀ k, k < wr.heap.size → S k → k ∈ (rPg lo sz ps[i]).own) (hS2 : ∀ k, S k → vB vs k ∨ W.heap.size ≤ k)
    (hok : (rPg lo sz p').ok w1) (hown : ∀ k ∈ (rPg lo sz p').own, (k ∈ (rPg lo sz ps[i]).own ∨ wr.heap.size ≤ k) ∧ k < w1.heap.size) : GrI lo sz nk K M mk ms vs (ps.set i p') W w1 Φ' := by
  have hlen : (rG lo 1 K nk vs :: rG lo 1 M mk ms :: ps.map (rPg lo sz)).length = ps.length + 2 := by simp
  have hget : (rG lo 1 K nk vs :: rG lo 1 M mk ms :: ps.map (rPg lo sz))[i + 2]'(by rw [hlen]; omega) = rPg lo sz ps[i] := by simp
  have h2 := h.sep.turn (R' := rPg lo sz p') (i + 2) (by rw [hlen]; omega) ht (by rw [hget]; exact hS) h.lo_ hok (by rw [hget]; exact hown)
  have e : (rG lo 1 K nk vs :: rG lo 1 M mk ms :: ps.map (rPg lo sz)).set (i + 2) (rPg lo sz p') = rG lo 1 K nk vs :: rG lo 1 M mk ms :: (ps.set i p').map (rPg lo sz) := by
    show _ :: _ :: (ps.map (rPg lo sz)).set i (rPg lo sz p') = _
    rw [← List.map_set]
  refine ⟨e ▸ h2, by rw [List.length_set]; exact h.plen, ?_, fun j hj => ?_, h.tur.trans ht hS2, Nat.le_trans h.lo_ ht.size⟩
  · rw [List.map_set, hv]
    have : (ps.map Pg.v)[i]'(by simpa using hi) = ps[i].v := by rw [List.getElem_map]
    rw [← this, List.set_getElem_self]
    exact h.vs_
  · rw [List.length_set] at hj
    by_cases e : i = j
    · subst e; rw [List.getElem_set_self]; exact hΦ
    · rw [List.getElem_set_ne e]; exact hΦ2 j hj (fun h => e h.symm) (h.phi j hj)
theorem GrI.own_lt (h : GrI lo sz nk K M mk ms vs ps W wr Φ) (i : Nat) (hi : i < ps.length) : ∀ k ∈ (rPg lo sz ps[i]).own, lo ≤ k ∧ k < wr.heap.size :=
  h.sep.2.1 _ (by simp only [List.mem_cons, List.mem_map]; exact .inr (.inr ⟨_, List.getElem_mem hi, rfl⟩))
/-- An element of the slice at i is written (nothing grew out of it so far). -/
theorem GrI.store (h : GrI lo sz nk K M mk ms vs ps W wr Φ) (i : Nat) (hi : i < ps.length) (k : Nat) (hk : k < ps[i].n) (us : List Value) (hu : us.length = sz) :
    ∃ g c, ps[i].v = .slice (some ⟨g, 0, none⟩) ps[i].n c ∧ (∀ j, j < ps[i].n * sz → (wr.cell? ⟨g, j, none⟩).isSome = true ∧ wr.frozen? ⟨g, j, none⟩ = false) ∧
      ∀ wb, Below wr.heap.size wr wb → (Φ' i ⟨ps[i].v, ps[i].v, ps[i].n, ps[i].n, putL ps[i].ys (k * sz) us, putL ps[i].ys (k * sz) us⟩) → (∀ j (hj : j < ps.length), j ≠ i → Φ j ps[j] → Φ' j ps[j]) →
        GrI lo sz nk K M mk ms vs (ps.set i ⟨ps[i].v, ps[i].v, ps[i].n, ps[i].n, putL ps[i].ys (k * sz) us, putL ps[i].ys (k * sz) us⟩) W (wb.setCells g (k * sz) us) Φ' := by
  obtain ⟨h1, _, _, _⟩ := h.pair i hi
  rcases h1 with ⟨_, h0, _⟩ | ⟨g, c, hf⟩
  · omega
  · have hks : k * sz + us.length ≤ ps[i].n * sz := by
      have := Nat.mul_le_mul_right sz (show k + 1 ≤ ps[i].n by omega)
      rw [Nat.add_mul] at this
      omega
    refine ⟨g, c, hf.val, fun j hj => hf.room j (Nat.lt_of_lt_of_le hj (Nat.mul_le_mul_right _ hf.fits)), fun wb hb hΦ hΦ2 => ?_⟩
    have hc := h.kept hb
    have hf1 : OwGForm wb lo g c sz ps[i].v ps[i].n ps[i].ys := by
      obtain ⟨h1, _, _, _⟩ := hc.pair i hi
      rcases h1 with ⟨h0, _, _⟩ | ⟨g', c', hf'⟩
      · rw [hf.val] at h0; cases h0
      · have := hf'.val
        rw [hf.val] at this
        injection this with e1 e2 e3
        injection e1 with e1
        injection e1 with e1
        subst e1; subst e3
        exact hf'
    have ht : Tur (· = g) wb (wb.setCells g (k * sz) us) := Tur.of_grown (setCells_grown g us (k * sz) wb) (fun k e => by cases e; rfl)
    have hgo : g ∈ (rPg lo sz ps[i]).own := List.mem_append_left _ (own_list.2 (by rw [hf.val]; rfl))
    have hok := (OwGForm.setL us (k * sz) ps[i].ys wb hf1 hks)
    refine hc.upd (S := (· = g)) i hi _ rfl hΦ hΦ2 ht (fun j _ e => by subst e; exact hgo) (fun j e => .inl ⟨ps[i].v, ?_, by subst e; rw [hf.val]; rfl⟩) ⟨.inr ⟨g, c, hok⟩, .inr ⟨g, c, hok⟩, Nat.le_refl _, fun _ => ⟨_, _, hf.val, hf.val⟩⟩ (fun j hj => ?_)
    · exact List.mem_of_getElem? (h.v_at i hi)
    · have hj2 : j ∈ (rPg lo sz ps[i]).own := by
        rcases List.mem_append.1 hj with e | e
        · exact List.mem_append_left _ e
        · exact List.mem_append_left _ e
      exact ⟨.inl hj2, Nat.lt_of_lt_of_le (hc.own_lt i hi j hj2).2 ht.size⟩
/-- What grew out of the slice at i grows by an element. -/
theorem GrI.app {w2 : World} (h : GrI lo sz nk K M mk ms vs ps W wr Φ) (i : Nat) (hi : i < ps.length) (hb : Below wr.heap.size wr w1) {v' : Value} {m : Nat} {news : List Value} (hWl : W.heap.size ≤ lo ∨ ∀ k, ps[i].w.ownBlock = some k → vB vs k ∨ W.heap.size ≤ k)
    (h1 : OwG w2 lo sz ps[i].w ps[i].m ps[i].zs) (h2 : OwG w2 lo sz v' (ps[i].m + m) (ps[i].zs ++ news)) (hg : w1.grownBy w2 ps[i].w.ownBlock)
    (hv : (v'.ownBlock = ps[i].w.ownBlock ∧ ∃ A c', ps[i].w = .slice A ps[i].m c' ∧ v' = .slice A (ps[i].m + m) c') ∨ (∃ k, v'.ownBlock = some k ∧ w1.heap.size ≤ k) ∨ (v' = .slice none 0 0 ∧ ps[i].w = .slice none 0 0 ∧ m = 0)) (hm : 0 < m)
    (hΦ : Φ' i ⟨ps[i].v, v', ps[i].n, ps[i].m + m, ps[i].ys, ps[i].zs ++ news⟩) (hΦ2 : ∀ j (hj : j < ps.length), j ≠ i → Φ j ps[j] → Φ' j ps[j]) :
    GrI lo sz nk K M mk ms vs (ps.set i ⟨ps[i].v, v', ps[i].n, ps[i].m + m, ps[i].ys, ps[i].zs ++ news⟩) W w2 Φ' := by
  have hc := h.kept hb
  obtain ⟨o1, o2, o3, o4⟩ := hc.pair i hi
  have ht : Tur (fun k => ps[i].w.ownBlock = some k) w1 w2 := Tur.of_grown hg (fun k e => e)
  have hlt := hc.own_lt i hi
  have o1' : OwG w2 lo sz ps[i].v ps[i].n ps[i].ys := by
    by_cases e : ps[i].v.ownBlock = ps[i].w.ownBlock
    · obtain ⟨A, c, e1, e2⟩ := o4 e
      rcases o1 with ⟨a1, a2, a3⟩ | ⟨g, c1, f1⟩
      · exact .inl ⟨a1, a2, a3⟩
      · have hb1 := f1.val
        rw [e1] at hb1
        injection hb1 with b1 _ b3
        subst b1; subst b3
        rcases h1 with ⟨a1, _, _⟩ | ⟨g', c2, f2⟩
        · rw [e2] at a1; cases a1
        · have hb2 := f2.val
          rw [e2] at hb2
          injection hb2 with b1 _ b3
          injection b1 with b1
          injection b1 with b1
          subst b1; subst b3
          rcases o2 with ⟨a1, _, _⟩ | ⟨g', c2, f3⟩
          · rw [e2] at a1; cases a1
          · have hb3 := f3.val
            rw [e2] at hb3
            injection hb3 with b1 _ b3
            injection b1 with b1
            injection b1 with b1
            subst b1
            refine .inr ⟨_, _, f1.val, f1.low, f2.lt, f1.fits, f1.len, fun j hj => ?_, f2.room⟩
            have hl1 := f1.len
            have hl2 := f2.len
            have hjz : j < ps[i].zs.length := by
              have := Nat.mul_le_mul_right sz o3
              omega
            rw [f2.cells j hjz, ← f3.cells j hjz, f1.cells j hj]
    · exact o1.kept ht (fun k e1 e2 => e (e1.trans e2.symm))
  refine hc.upd (S := fun k => ps[i].w.ownBlock = some k) i hi _ rfl hΦ hΦ2 ht (fun k _ e => List.mem_append_right _ (own_list.2 e)) (fun k e => ?_) ⟨o1', h2, by show ps[i].n ≤ ps[i].m + m; omega, fun e => ?_⟩ (fun k hk => ?_)
  · rcases hWl with hWl | hWl
    · exact .inr (by have := (o2.lt k e).1; omega)
    · exact hWl k e
  · dsimp only at e ⊢
    rcases hv with ⟨e1, A, c', e2, e3⟩ | ⟨k, e1, e2⟩ | ⟨e1, e2, e3⟩
    · obtain ⟨A2, c2, e4, e5⟩ := o4 (e.trans e1)
      rw [e2] at e5
      injection e5 with b1 _ b3
      subst b1; subst b3
      exact ⟨_, _, e4, e3⟩
    · have := hlt k (List.mem_append_left _ (own_list.2 (e.trans e1)))
      omega
    · omega
  · have hk : k ∈ ps[i].v.ownBlock.toList ++ v'.ownBlock.toList := hk
    rcases List.mem_append.1 hk with e | e
    · exact ⟨.inl (List.mem_append_left _ e), Nat.lt_of_lt_of_le (hlt k (List.mem_append_left _ e)).2 ht.size⟩
    · refine ⟨?_, (h2.lt k (own_list.1 e)).2⟩
      rcases hv with ⟨e1, _⟩ | ⟨k', e1, e2⟩ | ⟨e1, _⟩
      · exact .inl (List.mem_append_right _ (own_list.2 (e1 ▸ own_list.1 e)))
      · rw [own_list.1 e] at e1; cases e1; exact .inr e2
      · rw [e1] at e; cases own_list.1 e
theorem grown_kind {v v' : Value} {P Q : Prop} {B : Nat} (hv : (v'.ownBlock = v.ownBlock ∧ Q) ∨ (∃ k, v'.ownBlock = some k ∧ B ≤ k) ∨ (v' = .slice none 0 0 ∧ P)) : ∀ b, v'.ownBlock = some b → v.ownBlock = some b ∨ B ≤ b := fun b e => by
  rcases hv with ⟨e1, _⟩ | ⟨k, e1, e2⟩ | ⟨e1, _⟩
  · exact .inl (e1 ▸ e)
  · rw [e] at e1; cases e1; exact .inr e2
  · rw [e1] at e; cases e
/-- The row of what grew is written. -/
theorem GrI.put {g : Nat} (h : GrI lo sz nk K M mk ms vs ps W wr Φ) (i : Nat) (hi : i < mk) (hM : M.ownBlock = some g) (u : Value) (hW : W.heap.size ≤ g) : GrI lo sz nk K M mk (ms.set i u) vs ps W (wr.setCell ⟨g, i, none⟩ u) Φ := by
  have ht : Tur (· = g) wr (wr.setCell ⟨g, i, none⟩ u) := Tur.setCell (S := (· = g)) (p := ⟨g, i, none⟩) (Tur.refl _ _) (.inl rfl) _
  have hgm : g ∈ M.ownBlock.toList := own_list.2 hM
  have hlt := (h.more.lt g hM)
  have h2 := h.sep.turn (R' := rG lo 1 M mk (ms.set i u)) 1 (by simp) ht (fun k _ e => by subst e; exact hgm) h.lo_ (by
    rcases h.more with ⟨_, h0, _⟩ | ⟨g', c, hf⟩
    · omega
    · have := hf.val
      rw [this] at hM
      cases hM
      exact .inr ⟨g', c, hf.set i (by omega) u⟩) (fun k hk => ⟨.inl hk, by have := (h.more.lt k (own_list.1 hk)).2; exact Nat.lt_of_lt_of_le this ht.size⟩)
  exact ⟨h2, h.plen, h.vs_, h.phi, h.tur.trans ht (fun k e => .inr (by omega)), Nat.le_trans h.lo_ ht.size⟩
/-- The row of what grew is made. -/
theorem GrI.mk_ (h : GrI lo sz nk K M mk ms vs ps W wr Φ) (hb : wr.grownBy w1 none) (ho : OwG w1 wr.heap.size 1 M' nk ms') : GrI lo sz nk K M' nk ms' vs ps W w1 Φ := by
  have hb : Below wr.heap.size wr w1 := ⟨hb.os, hb.tape, hb.output, hb.size, fun k hk => hb.block k hk (by simp)⟩
  have h1 : Sep lo wr (rG lo 1 K nk vs :: ps.map (rPg lo sz)) := h.sep.sub (List.Sublist.cons_cons _ (List.sublist_cons_self _ _))
  have h2 := h1.add (R' := rG lo 1 M' nk ms') hb h.lo_ (ho.mono h.lo_) (fun k hk => ho.lt k (own_list.1 hk))
  exact ⟨h2.perm (List.Perm.swap _ _ _), h.plen, h.vs_, h.phi, h.tur.trans (Tur.of_below (S := vB vs) hb) (fun _ h => .inl h), Nat.le_trans h.lo_ hb.size⟩
end
/-- Slices of one's own at hand, ahead of all; a row of something beside them. -/
theorem GrI.start2 {lo sz nk mk : Nat} {K M : Value} {vs ms : List Value} {ps : List Pg} {W : World} {Φ : Nat → Pg → Prop} (hs : Sep lo W (rG lo 1 K nk vs :: rG lo 1 M mk ms :: ps.map fun p => rG lo sz p.v p.n p.ys)) (hp : ∀ p ∈ ps, p.w = p.v ∧ p.m = p.n ∧ p.zs = p.ys) (hl : ps.length = nk) (hv : ps.map Pg.v = vs) (hlo : lo ≤ W.heap.size) (hΦ : ∀ j (h : j < ps.length), Φ j ps[j]) :
    GrI lo sz nk K M mk ms vs ps W W Φ := by
  refine ⟨?_, hl, hv, hΦ, Tur.refl _ _, hlo⟩
  have hown : ∀ p ∈ ps, ∀ k ∈ (rPg lo sz p).own, k ∈ (rG lo sz p.v p.n p.ys).own := fun p hp1 k hk => by
    obtain ⟨e1, _, _⟩ := hp p hp1
    rcases List.mem_append.1 hk with e | e
    · exact e
    · rw [e1] at e; exact e
  refine ⟨fun R hR => ?_, fun R hR k hk => ?_, ?_⟩
  · rcases List.mem_cons.1 hR with rfl | hR
    · exact hs.1 _ (List.mem_cons_self ..)
    · rcases List.mem_cons.1 hR with rfl | hR
      · exact hs.1 _ (List.mem_cons_of_mem _ (List.mem_cons_self ..))
      · obtain ⟨p, hp1, rfl⟩ := List.mem_map.1 hR
        have h2 : OwG W lo sz p.v p.n p.ys := hs.1 _ (List.mem_cons_of_mem _ (List.mem_cons_of_mem _ (List.mem_map.2 ⟨p, hp1, rfl⟩)))
        obtain ⟨e1, e2, e3⟩ := hp p hp1
        obtain ⟨A, c, e4, _⟩ := h2.form
        exact ⟨h2, by rw [e1, e2, e3]; exact h2, by omega, fun _ => ⟨A, c, e4, by rw [e1, e2]; exact e4⟩⟩
  · rcases List.mem_cons.1 hR with rfl | hR
    · exact hs.2.1 _ (List.mem_cons_self ..) k hk
    · rcases List.mem_cons.1 hR with rfl | hR
      · exact hs.2.1 _ (List.mem_cons_of_mem _ (List.mem_cons_self ..)) k hk
      · obtain ⟨p, hp1, rfl⟩ := List.mem_map.1 hR
        exact hs.2.1 (rG lo sz p.v p.n p.ys) (List.mem_cons_of_mem _ (List.mem_cons_of_mem _ (List.mem_map.2 ⟨p, hp1, rfl⟩))) k (hown p hp1 k hk)
  · have h3 := hs.2.2
    rw [List.pairwise_cons, List.pairwise_cons] at h3 ⊢
    obtain ⟨h4, h5, h6⟩ := h3
    refine ⟨fun R hR k hk hk2 => ?_, fun R hR k hk hk2 => ?_, ?_⟩
    · rcases List.mem_cons.1 hR with rfl | hR
      · exact h4 _ (List.mem_cons_self ..) k hk hk2
      · obtain ⟨p, hp1, rfl⟩ := List.mem_map.1 hR
        exact h4 (rG lo sz p.v p.n p.ys) (List.mem_cons_of_mem _ (List.mem_map.2 ⟨p, hp1, rfl⟩)) k hk (hown p hp1 k hk2)
    · obtain ⟨p, hp1, rfl⟩ := List.mem_map.1 hR
      exact h5 (rG lo sz p.v p.n p.ys) (List.mem_map.2 ⟨p, hp1, rfl⟩) k hk (hown p hp1 k hk2)
    · rw [List.pairwise_map]
      refine (List.Pairwise.and_mem.1 (List.pairwise_map.1 h6)).imp ?_
      rintro p p' ⟨hp1, hp2, h⟩ k hk hk2
      exact h k (hown p hp1 k hk) (hown p' hp2 k hk2)
theorem GrI.start {lo sz nk : Nat} {K : Value} {vs : List Value} {ps : List Pg} {W : World} {Φ : Nat → Pg → Prop} (hs : Sep lo W (rG lo 1 K nk vs :: ps.map fun p => rG lo sz p.v p.n p.ys)) (hp : ∀ p ∈ ps, p.w = p.v ∧ p.m = p.n ∧ p.zs = p.ys) (hl : ps.length = nk) (hv : ps.map Pg.v = vs) (hlo : lo ≤ W.heap.size) (hΦ : ∀ j (h : j < ps.length), Φ j ps[j]) :
    GrI lo sz nk K (.slice none 0 0) 0 [] vs ps W W Φ :=
  GrI.start2 ((hs.free (R := rG lo 1 (.slice none 0 0) 0 []) (OwG.nil _ _ _) rfl).perm (List.Perm.swap _ _ _)) hp hl hv hlo hΦ
/-- Fewer blocks. -/
theorem Sep.less {lo : Nat} {W : World} {R R' : Rsc} {L : List Rsc} (h : Sep lo W (R :: L)) (hok : R'.ok W) (ho : ∀ k ∈ R'.own, k ∈ R.own) : Sep lo W (R' :: L) := by
  refine ⟨fun X hX => ?_, fun X hX k hk => ?_, ?_⟩
  · rcases List.mem_cons.1 hX with rfl | e
    · exact hok
    · exact h.1 X (List.mem_cons_of_mem _ e)
  · rcases List.mem_cons.1 hX with rfl | e
    · exact h.2.1 R (List.mem_cons_self ..) k (ho k hk)
    · exact h.2.1 X (List.mem_cons_of_mem _ e) k hk
  · have h3 := List.pairwise_cons.1 h.2.2
    exact List.pairwise_cons.2 ⟨fun X hX k hk => h3.1 X hX k (ho k hk), h3.2⟩
/-- A row of one's own grows. -/
theorem Sep.growG {lo sz n m : Nat} {w w1 w2 : World} {K v' : Value} {vs vs' : List Value} {L : List Rsc} (h : Sep lo w (rG lo sz K n vs :: L)) (hb : Below w.heap.size w w1) (hlo : lo ≤ w.heap.size) (ho : OwG w2 lo sz v' m vs') (hg : w1.grownBy w2 K.ownBlock) (hv : ∀ b, v'.ownBlock = some b → K.ownBlock = some b ∨ w1.heap.size ≤ b) :
    Sep lo w2 (rG lo sz v' m vs' :: L) ∧ Below lo w w2 := by
  have h1 := h.kept hb hlo
  have ht : Tur (fun k => K.ownBlock = some k) w1 w2 := Tur.of_grown hg (fun k e => e)
  have hl1 := Nat.le_trans hlo hb.size
  exact ⟨h1.one ht (fun k _ e => own_list.2 e) hl1 ho (fun k hk => ⟨(hv k (own_list.1 hk)).imp (fun e => own_list.2 e) id, (ho.lt k (own_list.1 hk)).2⟩),
    (hb.mono hlo).trans (h1.below ht (fun k _ e => own_list.2 e) hl1)⟩
/-- Bytes of one's own, whatever they are. -/
def AnyB (W : World) (lo : Nat) (v : Value) (n : Nat) : Prop := ∃ xs : List Int, OwG W lo 1 v n (bvs xs)
theorem AnyB.set {W : World} {lo n g k : Nat} {v : Value} (h : AnyB W lo v n) (u : Int) : AnyB (W.setCell ⟨g, k, none⟩ (.int .u8 u)) lo v n := by
  obtain ⟨xs, h⟩ := h
  rcases h with h | ⟨g', c, hf⟩
  · exact ⟨xs, .inl h⟩
  · by_cases e : g = g'
    · subst e
      by_cases hk : k < n * 1
      · refine ⟨xs.set k u, .inr ⟨g, c, ?_⟩⟩
        have := hf.set k hk (.int .u8 u)
        rwa [show (bvs xs).set k (.int .u8 u) = bvs (xs.set k u) by unfold bvs; rw [List.map_set]] at this
      · have hlen := hf.len
        refine ⟨xs, .inr ⟨g, c, hf.val, hf.low, by rw [show (W.setCell ⟨g, k, none⟩ (.int .u8 u)).heap.size = W.heap.size by simp [World.setCell]]; exact hf.lt, hf.fits, hf.len, fun j hj => ?_, fun j hj => ?_⟩⟩
        · rw [World.cell?_setCell_other _ _ _ _ (by intro h; injection h with _ h; omega)]
          exact hf.cells j hj
        · have h1 := hf.room j hj
          refine ⟨?_, by rw [World.frozen?_setCell]; exact h1.2⟩
          by_cases e : j = k
          · subst e
            obtain ⟨u0, hs⟩ := Option.isSome_iff_exists.1 h1.1
            rw [World.cell?_setCell_same _ _ _ hs]; rfl
          · rw [World.cell?_setCell_other _ _ _ _ (by intro h; injection h with _ h; omega)]; exact h1.1
    · have ht : Tur (· = g) W (W.setCell ⟨g, k, none⟩ (.int .u8 u)) := Tur.setCell (S := (· = g)) (p := ⟨g, k, none⟩) (Tur.refl _ _) (.inl rfl) _
      exact ⟨xs, (show OwG W lo 1 v n (bvs xs) from .inr ⟨g', c, hf⟩).kept ht (fun j hj e2 => by rw [hf.val] at hj; cases hj; exact e e2.symm)⟩
/-- Bytes, and what grew out of them. -/
def rAny2 (lo : Nat) (v v' : Value) (n m : Nat) : Rsc where
  own := v.ownBlock.toList ++ v'.ownBlock.toList
  ok W := AnyB W lo v n ∧ AnyB W lo v' m
  st _ _ _ ht hS h := ⟨h.1.imp fun _ h => h.kept ht (fun k hk => hS k (List.mem_append_left _ (own_list.2 hk))), h.2.imp fun _ h => h.kept ht (fun k hk => hS k (List.mem_append_right _ (own_list.2 hk)))⟩
theorem AnyB.room {W : World} {lo n : Nat} {v : Value} (h : AnyB W lo v n) (hn : 0 < n) : ∃ g c, v = .slice (some ⟨g, 0, none⟩) n c ∧ n ≤ c ∧ ∀ k, k < n → (∃ u, W.cell? ⟨g, k, none⟩ = some u) ∧ W.frozen? ⟨g, k, none⟩ = false := by
  obtain ⟨xs, h⟩ := h
  rcases h with ⟨_, h, _⟩ | ⟨g, c, hf⟩
  · omega
  · exact ⟨g, c, hf.val, hf.fits, fun k hk => by
      have := hf.room k (by have := hf.fits; omega)
      exact ⟨Option.isSome_iff_exists.1 this.1, this.2⟩⟩
theorem RowAt.owg {W : World} {A : Option Addr} {n lo : Nat} {xs : List Int} (h : RowAt W A n lo xs) : OwG W lo 1 (.slice A n n) n (bvs xs) := by
  rcases h with ⟨rfl, rfl, rfl⟩ | ⟨g, cur, rfl, h1, hg, hl, hn, ht⟩
  · exact .inl ⟨rfl, rfl, rfl⟩
  · refine .inr ⟨g, n, rfl, h1, hg.lt, Nat.le_refl _, by rw [bvs_len, hl, Nat.mul_one], fun j hj => ?_, fun j hj => ?_⟩
    · obtain ⟨ad, e, _, hc⟩ := (RowAt.cells (.inr ⟨g, cur, rfl, h1, hg, hl, hn, ht⟩) : CellsAt W (some ⟨g, 0, none⟩) (bvs xs)) j hj
      cases e
      have e : Addr.add ⟨g, 0, none⟩ j = ⟨g, j, none⟩ := by cases j <;> simp [Addr.add]
      rw [e] at hc
      exact hc
    · rw [hg.cell j, Array.getElem?_eq_getElem (by omega)]
      exact ⟨rfl, hg.frozen j⟩
end Go.Proofs.YtglbdbghcdoicaaGreatDoor
