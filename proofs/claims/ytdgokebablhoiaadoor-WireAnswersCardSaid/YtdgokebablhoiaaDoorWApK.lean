/- append that leaves the elder row as it was, and where the new one lies; a row and what was appended to it, as one thing. -/
import Derived.Test.YtdgokebablhoiaaDoorWOwn
namespace Go.Proofs.YtdgokebablhoiaaDoor
open Go.RowKit
section
variable {w : World}
/-- append of bytes onto a row that begins anywhere, up to growslice's own bound. -/
theorem wpList_append_arg_wide {ops : Array Oper} {rest : List Oper} {o : Oper} {a : Act} {Q : Exit → Act → World → Prop} (hg : o.guard = none) (s x : Operand)
    (hop : o.op = Op.call { callee := Callee.builtin Builtin.append, args := #[s, x], argTypes := #[24, 24] }) (i0 : TypeInfo) (hi : Tryd.prog.info? 5 = some i0) (hz0 : i0.zero = some (.int .u8 0)) (hz1 : i0.size = 1) (hz2 : i0.bytes = 1)
    (b off n cap : Nat) (olds : List Value) (hs : a.eval s = .slice (some ⟨b, off, none⟩) n cap) (hlo : olds.length = n) (holds : ∀ j u, olds[j]? = some u → w.cell? ⟨b, off + j, none⟩ = some u)
    (ad : Addr) (m c : Nat) (news : List Value) (hx : a.eval x = .slice (some ad) m c) (hn : news.length = m) (hc : ∀ j u, news[j]? = some u → w.cell? (ad.add j) = some u) (h1c : ∀ u ∈ news, u.oneCell' = true)
    (hspare : n + m ≤ cap → ∀ j, j < news.length → (w.cell? ⟨b, off + n + j, none⟩).isSome = true ∧ w.frozen? ⟨b, off + n + j, none⟩ = false)
    (b1 : n + m ≤ 211106232532992)
    (hroom : n + m ≤ cap → wpList Tryd.prog ops Q rest (a.put o.dst (.slice (some ⟨b, off, none⟩) (n + m) cap)) (w.setCells b (off + n) news))
    (hgrow : cap < n + m → ∀ v' w', w'.ownsRow w.heap.size 5 1 v' (n + m) (olds ++ news) → w.grownBy w' none → wpList Tryd.prog ops Q rest (a.put o.dst v') w') :
    wpList Tryd.prog ops Q (o :: rest) a w := by
  refine wpList_plain hg fun K hK' => ?_
  by_cases hr : n + m ≤ cap
  · have hrun := run_append_room_cells (P := Tryd.prog) w 24 o.type 5 i0 Tryd.underlying24 hi b off n cap ad m c news (by rw [hz1, Nat.mul_one]; exact hn) hc h1c hr (fun j hj => by rw [hz1, Nat.mul_one]; exact (hspare hr j hj).1) (fun j hj => by rw [hz1, Nat.mul_one]; exact (hspare hr j hj).2)
    rw [hz1, Nat.mul_one] at hrun
    unfold Oper.wp
    simp [execOp, hop, resolve, invoke, builtin, hs, hx, hrun, Result.andThen]
    exact hK' _ _ (hroom hr)
  · have hrun := run_append_grow (P := Tryd.prog) w 24 o.type 5 i0 (.int .u8 0) Tryd.underlying24 hi hz0 ⟨b, off, none⟩ n cap olds (by rw [hz1, Nat.mul_one]; exact hlo) (fun j u hj => by rw [Addr.add_lit]; exact holds j u hj) ad m c news (by rw [hz1, Nat.mul_one]; exact hn) hc (by omega) (by omega) (by rw [hz2]; exact growslice_fits_wide (by omega) (by omega))
    have hge := grownCap_ge w (n + m) cap 5
    have hcm := grownCap_le_maxLen w (n + m) cap 5 (by unfold maxLen; omega)
    have hz1' : (Value.int IntKind.u8 0).cells.size = 1 := rfl
    unfold Oper.wp
    simp [execOp, hop, resolve, invoke, builtin, hs, hx, hrun, Result.andThen]
    refine hK' _ _ (hgrow (by omega) _ _ ⟨by rw [List.length_append, hlo, hn, Nat.mul_one], .inr ⟨w.heap.size, _, _, rfl, Nat.le_refl _, heap_alloc_new w.drew _, hge, hcm, ?_, ?_⟩⟩ ⟨rfl, rfl, rfl, by simp, fun k hk _ => heap_alloc_old w.drew _ hk⟩)
    · have hln : (olds ++ news).length = n + m := by rw [List.length_append, hlo, hn]
      simp only [Array.size_append, List.size_toArray, size_zeroCells, hz1', hln]
      omega
    · have e : (n + m) * 1 = (olds ++ news).length := by rw [List.length_append, hlo, hn, Nat.mul_one]
      simp only [Array.toList_append]
      rw [e]
      exact List.take_left
theorem wpList_append_keep2 {ops : Array Oper} {rest : List Oper} {o : Oper} {a : Act} {Q : Exit → Act → World → Prop} (hgd : o.guard = none) (s x : Operand)
    (ho : o.op = .call { callee := .builtin .append, args := #[s, x], argTypes := #[24, 24] })
    (base : Nat) (v : Value) (xs : List Int) (hs : a.eval s = v) (hown : OwO w base v xs)
    (ad : Addr) (m c : Nat) (news : List Int) (hx : a.eval x = .slice (some ad) m c) (hl : news.length = m) (hnews : CellsAt w (some ad) (bvs news))
    (hm0 : 0 < m) (h63 : xs.length + m ≤ 211106232532992) (hbase : base ≤ w.heap.size)
    (h : ∀ v' w', OwO w' base v xs → OwO w' base v' (xs ++ news) → w.grownBy w' v.ownBlock → ((∃ g off cap, v = .slice (some ⟨g, off, none⟩) xs.length cap ∧ v' = .slice (some ⟨g, off, none⟩) (xs.length + m) cap) ∨ ∃ k, v'.ownBlock = some k ∧ w.heap.size ≤ k) → wpList Tryd.prog ops Q rest (a.put o.dst v') w') :
    wpList Tryd.prog ops Q (o :: rest) a w := by
  rcases hown with ⟨rfl, rfl⟩ | ⟨g, off, cap, hf⟩
  · refine wpList_append_bytes hgd s x ho base (.slice none 0 0) 0 [] hs (World.ownsRow_nil _ _ _ _) (some ad) m c (fun h => by cases h) news hx hl hnews (by simpa using h63) hbase ?_
    intro v' w' hown hg hv
    refine h v' w' (OwO.nil _ _) (OwO.of ?_) hg ?_
    · rw [List.nil_append, hl]
      simpa [bvs] using hown
    · rcases hv with e | e
      · exfalso
        rcases hown.2 with ⟨_, h0⟩ | ⟨g', cap', cur', e', _⟩
        · omega
        · rw [e'] at e; cases e
      · exact .inr ⟨_, e, Nat.le_refl _⟩
  · have hv := hf.val
    subst hv
    obtain ⟨i0, hi, hz0, hz1, hz2⟩ := info_parts info_u8
    refine wpList_append_arg_wide hgd s x ho i0 hi hz0 hz1 hz2 g off xs.length cap (bvs xs) hs (bvs_len _) (fun j u hj => ?_) ad m c (bvs news) hx (by rw [bvs_len]; exact hl) (fun j u hj => ?_) (bvs_one _) (fun hr j hj => ?_) h63 (fun hr => ?_) (fun hr v' w' hown hg => ?_)
    · obtain ⟨hlt, rfl⟩ := List.getElem?_eq_some_iff.1 hj
      rw [bvs_len] at hlt
      rw [hf.cells j hlt]
      simp [bvs]
    · obtain ⟨hlt, rfl⟩ := List.getElem?_eq_some_iff.1 hj
      obtain ⟨ad', e, _, hc⟩ := hnews j hlt
      cases e
      exact hc
    · rw [bvs_len] at hj
      have := hf.room (xs.length + j) (by omega)
      rw [Nat.add_assoc]
      exact this
    · have hg := setCells_grown g (bvs news) (off + xs.length) w
      have hsm : ∀ j, j < (bvs news).length → (w.cell? ⟨g, off + xs.length + j, none⟩).isSome = true := fun j hj => by
        rw [bvs_len] at hj
        rw [Nat.add_assoc]
        exact (hf.room (xs.length + j) (by omega)).1
      have hroom : ∀ j, j < cap → ((w.setCells g (off + xs.length) (bvs news)).cell? ⟨g, off + j, none⟩).isSome = true ∧ (w.setCells g (off + xs.length) (bvs news)).frozen? ⟨g, off + j, none⟩ = false := fun j hj => by
        have h1 := hf.room j hj
        exact ⟨World.isSome_setCells g _ _ _ _ h1.1, (World.frozen?_setCells g _ _ _ _).trans h1.2⟩
      have hcell : ∀ j (hj : j < xs.length), (w.setCells g (off + xs.length) (bvs news)).cell? ⟨g, off + j, none⟩ = some (.int .u8 xs[j]) := fun j hj => by
        rw [World.cell?_setCells_out g _ _ _ _ (fun _ _ => .inl (by show off + j < off + xs.length; omega)), hf.cells j hj]
      refine h _ _ (.inr ⟨g, off, cap, rfl, hf.low, Nat.lt_of_lt_of_le hf.lt hg.size, hf.fits, hcell, hroom⟩) (.inr ⟨g, off, cap, ?_, hf.low, Nat.lt_of_lt_of_le hf.lt hg.size, by rw [List.length_append]; omega, fun j hj => ?_, hroom⟩) hg (.inl ⟨_, _, _, rfl, rfl⟩)
      · rw [List.length_append, hl]
      · by_cases hjl : j < xs.length
        · rw [hcell j hjl, List.getElem_append_left hjl]
        · rw [List.length_append] at hj
          have h1 := World.cell?_setCells_in g (bvs news) (off + xs.length) w hsm (j - xs.length) (by rw [bvs_len]; omega)
          rw [show off + xs.length + (j - xs.length) = off + j by omega] at h1
          rw [h1, List.getElem_append_right (by omega)]
          simp [bvs]
    · have hg' : w.grownBy w' (some g) := ⟨hg.os, hg.tape, hg.output, hg.size, fun k hk _ => hg.block k hk (by simp)⟩
      refine h v' w' ?_ (OwO.of ?_) hg' ?_
      · exact (show OwO w base (.slice (some ⟨g, off, none⟩) xs.length cap) xs from .inr ⟨g, off, cap, hf⟩).kept (S := fun _ => False) (Tur.of_grown hg (fun k e => by cases e)) (fun _ _ h => h)
      · rw [List.length_append, hl, bvs_append]
        exact hown.mono hbase
      · rcases hown.2 with ⟨rfl, h0⟩ | ⟨g', cap', cur', rfl, hb, _⟩
        · omega
        · exact .inr ⟨g', rfl, hb⟩
end

/-- What was appended to a row of n bytes: two bytes behind it; it lies where the row lies, or apart from it. -/
def MoreOk (W : World) (base : Nat) (v v' : Value) (n : Nat) (m1 m2 : Int) : Prop :=
  ∃ g off c, v' = .slice (some ⟨g, off, none⟩) (n + 2) c ∧ base ≤ g ∧ g < W.heap.size ∧ n + 2 ≤ c ∧ W.cell? ⟨g, off + n, none⟩ = some (.int .u8 m1) ∧ W.cell? ⟨g, off + n + 1, none⟩ = some (.int .u8 m2) ∧ (v.ownBlock = some g → ∃ c', v = .slice (some ⟨g, off, none⟩) n c')
section
variable {W W' : World} {base n : Nat} {v v' : Value} {m1 m2 : Int} {xs : List Int}
theorem MoreOk.kept {S : Nat → Prop} (h : MoreOk W base v v' n m1 m2) (ht : Tur S W W') (hS : ∀ k, v'.ownBlock = some k → ¬ S k) : MoreOk W' base v v' n m1 m2 := by
  obtain ⟨g, off, c, rfl, h1, h2, h3, h4, h5, h6⟩ := h
  have hb := ht.block g h2 (hS g rfl)
  exact ⟨g, off, c, rfl, h1, Nat.lt_of_lt_of_le h2 ht.size, h3, by rw [← h4]; simp only [World.cell?, hb], by rw [← h5]; simp only [World.cell?, hb], h6⟩
theorem MoreOk.own (h : MoreOk W base v v' n m1 m2) : ∀ k, v'.ownBlock = some k → base ≤ k ∧ k < W.heap.size := by
  obtain ⟨g, off, c, rfl, h1, h2, _⟩ := h
  intro k hk; cases hk; exact ⟨h1, h2⟩
/-- The row is written, at a place of its own. -/
theorem MoreOk.poke {g0 o0 c0 : Nat} (h : MoreOk W base (.slice (some ⟨g0, o0, none⟩) n c0) v' n m1 m2) (k : Nat) (hk : k < n) (u : Value) : MoreOk (W.setCell ⟨g0, o0 + k, none⟩ u) base (.slice (some ⟨g0, o0, none⟩) n c0) v' n m1 m2 := by
  obtain ⟨g, off, c, rfl, h1, h2, h3, h4, h5, h6⟩ := h
  have far : ∀ j, n ≤ j → (⟨g0, o0 + k, none⟩ : Addr) ≠ ⟨g, off + j, none⟩ := fun j hj e => by
    injection e with e1 e2
    obtain ⟨c', e3⟩ := h6 (by rw [e1]; rfl)
    injection e3 with e3
    injection e3 with e3
    injection e3 with _ e4
    omega
  refine ⟨g, off, c, rfl, h1, by simpa [World.setCell] using h2, h3, ?_, ?_, h6⟩
  · rw [World.cell?_setCell_other _ _ _ _ (far n (Nat.le_refl _))]; exact h4
  · rw [World.cell?_setCell_other _ _ _ _ (by rw [Nat.add_assoc]; exact far (n + 1) (by omega))]; exact h5
theorem MoreOk.made {W0 : World} (hnew : OwO W base v' (xs ++ [m1, m2])) (hold : OwO W0 base v xs) (hw : (∃ g off cap, v = .slice (some ⟨g, off, none⟩) xs.length cap ∧ v' = .slice (some ⟨g, off, none⟩) (xs.length + 2) cap) ∨ ∃ k, v'.ownBlock = some k ∧ W0.heap.size ≤ k) :
    MoreOk W base v v' xs.length m1 m2 := by
  rcases hnew with ⟨_, h⟩ | ⟨g, off, cap, h⟩
  · simp at h
  · have hv := h.val
    rw [List.length_append] at hv
    have c1 := h.cells xs.length (by rw [List.length_append]; simp)
    have c2 := h.cells (xs.length + 1) (by rw [List.length_append]; simp)
    rw [List.getElem_append_right (Nat.le_refl _)] at c1
    rw [List.getElem_append_right (by omega)] at c2
    simp only [Nat.sub_self, Nat.add_sub_cancel_left, List.getElem_cons_zero, List.getElem_cons_succ] at c1 c2
    have hf := h.fits
    rw [List.length_append] at hf
    refine ⟨g, off, cap, hv, h.low, h.lt, hf, c1, c2, fun e => ?_⟩
    rcases hw with ⟨g1, o1, c1', e1, e2⟩ | ⟨k, e1, e2⟩
    · rw [hv] at e2
      injection e2 with e2
      injection e2 with e2
      injection e2 with e2 e3
      subst e2; subst e3
      exact ⟨_, e1⟩
    · rw [hv] at e1
      cases e1
      have h8 : W0.heap.size ≤ g := e2
      have h9 : g < W0.heap.size := (hold.lt g e).2
      omega
end
/-- A row, and what was appended to it. -/
structure Pr where
  g : Bw
  more : Value
  m1 : Int
  m2 : Int
def rPr (base : Nat) (p : Pr) : Rsc where
  own := p.g.v.ownBlock.toList ++ p.more.ownBlock.toList
  ok W := OwO W base p.g.v p.g.xs ∧ (p.more = .slice none 0 0 ∨ MoreOk W base p.g.v p.more p.g.n p.m1 p.m2)
  st _ _ _ ht hS h := ⟨h.1.kept ht (fun k hk => hS k (by simp [hk])), h.2.elim .inl (fun h => .inr (h.kept ht (fun k hk => hS k (by simp [hk]))))⟩
/-- A block of rows. -/
def rBlkR (g : Nat) (cur : Array Value) : Rsc where
  own := [g]
  ok W := Blk W g 24 cur
  st _ _ _ ht hS h := h.tur ht (hS g (List.mem_singleton.2 rfl))
end Go.Proofs.YtdgokebablhoiaaDoor
