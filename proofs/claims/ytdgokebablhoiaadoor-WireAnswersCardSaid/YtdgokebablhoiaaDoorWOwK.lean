/- append that leaves the elder row as it was; a byte written into a row. -/
import Derived.Test.YtdgokebablhoiaaDoorWSep
namespace Go.Proofs.YtdgokebablhoiaaDoor
open Go.RowKit
section
variable {w : World}
theorem wpList_append_keep {ops : Array Oper} {rest : List Oper} {o : Oper} {a : Act} {Q : Exit → Act → World → Prop} (hgd : o.guard = none) (s x : Operand)
    (ho : o.op = .call { callee := .builtin .append, args := #[s, x], argTypes := #[24, 24] })
    (base : Nat) (v : Value) (xs : List Int) (hs : a.eval s = v) (hown : OwO w base v xs)
    (ad : Addr) (m c : Nat) (news : List Int) (hx : a.eval x = .slice (some ad) m c) (hl : news.length = m) (hnews : CellsAt w (some ad) (bvs news))
    (h63 : xs.length + m ≤ 140737488355328) (hbase : base ≤ w.heap.size)
    (h : ∀ v' w', OwO w' base v xs → OwO w' base v' (xs ++ news) → w.grownBy w' v.ownBlock → (v'.ownBlock = v.ownBlock ∨ ∃ k, v'.ownBlock = some k ∧ w.heap.size ≤ k) → wpList Tryd.prog ops Q rest (a.put o.dst v') w') :
    wpList Tryd.prog ops Q (o :: rest) a w := by
  rcases hown with ⟨rfl, rfl⟩ | ⟨g, off, cap, hf⟩
  · refine wpList_append_bytes hgd s x ho base (.slice none 0 0) 0 [] hs (World.ownsRow_nil _ _ _ _) (some ad) m c (fun h => by cases h) news hx hl hnews (by simp only [List.length_nil] at h63; omega) hbase ?_
    intro v' w' hown hg hv
    refine h v' w' (OwO.nil _ _) (OwO.of ?_) hg ?_
    · rw [List.nil_append, hl]
      simpa [bvs] using hown
    · rcases hv with e | e
      · exact .inl e
      · exact .inr ⟨_, e, Nat.le_refl _⟩
  · have hv := hf.val
    subst hv
    obtain ⟨i0, hi, hz0, hz1, hz2⟩ := info_parts info_u8
    refine wpList_append_arg w hgd s x 24 ho 5 i0 (.int .u8 0) 1 1 Tryd.underlying24 hi hz0 hz1 hz2 rfl (by omega) g off xs.length cap (bvs xs) hs (by rw [bvs_len, Nat.mul_one]) (fun j u hj => ?_) ad m c (bvs news) hx (by rw [bvs_len, Nat.mul_one]; exact hl) (fun j u hj => ?_) (bvs_one _) (fun hr j hj => ?_) (by unfold maxLen; omega) (by omega) (fun hr => ?_) (fun hr v' w' hown hg => ?_)
    · obtain ⟨hlt, rfl⟩ := List.getElem?_eq_some_iff.1 hj
      rw [bvs_len] at hlt
      rw [hf.cells j hlt]
      simp [bvs]
    · obtain ⟨hlt, rfl⟩ := List.getElem?_eq_some_iff.1 hj
      obtain ⟨ad', e, _, hc⟩ := hnews j hlt
      cases e
      exact hc
    · rw [bvs_len] at hj
      have := hf.room (xs.length + j) (by omega)
      rw [Nat.mul_one, Nat.add_assoc]
      exact this
    · have hg := setCells_grown g (bvs news) (off + xs.length * 1) w
      have hsm : ∀ j, j < (bvs news).length → (w.cell? ⟨g, off + xs.length * 1 + j, none⟩).isSome = true := fun j hj => by
        rw [bvs_len] at hj
        rw [Nat.mul_one, Nat.add_assoc]
        exact (hf.room (xs.length + j) (by omega)).1
      have hroom : ∀ j, j < cap → ((w.setCells g (off + xs.length * 1) (bvs news)).cell? ⟨g, off + j, none⟩).isSome = true ∧ (w.setCells g (off + xs.length * 1) (bvs news)).frozen? ⟨g, off + j, none⟩ = false := fun j hj => by
        have h1 := hf.room j hj
        exact ⟨World.isSome_setCells g _ _ _ _ h1.1, (World.frozen?_setCells g _ _ _ _).trans h1.2⟩
      have hcell : ∀ j (hj : j < xs.length), (w.setCells g (off + xs.length * 1) (bvs news)).cell? ⟨g, off + j, none⟩ = some (.int .u8 xs[j]) := fun j hj => by
        rw [World.cell?_setCells_out g _ _ _ _ (fun _ _ => .inl (by show off + j < off + xs.length * 1; omega)), hf.cells j hj]
      refine h _ _ (.inr ⟨g, off, cap, rfl, hf.low, Nat.lt_of_lt_of_le hf.lt hg.size, hf.fits, hcell, hroom⟩) (.inr ⟨g, off, cap, ?_, hf.low, Nat.lt_of_lt_of_le hf.lt hg.size, by rw [List.length_append]; omega, fun j hj => ?_, hroom⟩) hg (.inl rfl)
      · rw [List.length_append, hl]
      · by_cases hjl : j < xs.length
        · rw [hcell j hjl, List.getElem_append_left hjl]
        · rw [List.length_append] at hj
          have h1 := World.cell?_setCells_in g (bvs news) (off + xs.length * 1) w hsm (j - xs.length) (by rw [bvs_len]; omega)
          rw [show off + xs.length * 1 + (j - xs.length) = off + j by omega] at h1
          rw [h1, List.getElem_append_right (by omega)]
          simp [bvs]
    · have hg' : w.grownBy w' (some g) := ⟨hg.os, hg.tape, hg.output, hg.size, fun k hk _ => hg.block k hk (by simp)⟩
      refine h v' w' ?_ (OwO.of ?_) hg' ?_
      · exact (show OwO w base (.slice (some ⟨g, off, none⟩) xs.length cap) xs from .inr ⟨g, off, cap, hf⟩).kept (S := fun _ => False) (Tur.of_grown hg (fun k e => by cases e)) (fun _ _ h => h)
      · rw [List.length_append, hl, bvs_append]
        exact hown.mono hbase
      · rcases hown.2 with ⟨rfl, h0⟩ | ⟨g', cap', cur', rfl, hb, _⟩
        · omega
        · exact .inr ⟨g', rfl, hb⟩
end
theorem OwOForm.set {W : World} {base g off cap : Nat} {v : Value} {xs : List Int} (h : OwOForm W base g off cap v xs) (k : Nat) (hk : k < xs.length) (u : Int) : OwOForm (W.setCell ⟨g, off + k, none⟩ (.int .u8 u)) base g off cap v (xs.set k u) := by
  obtain ⟨u0, hs⟩ := Option.isSome_iff_exists.1 (h.room k (Nat.lt_of_lt_of_le hk h.fits)).1
  refine ⟨by rw [List.length_set]; exact h.val, h.low, by rw [show (W.setCell ⟨g, off + k, none⟩ (.int .u8 u)).heap.size = W.heap.size by simp [World.setCell]]; exact h.lt, by rw [List.length_set]; exact h.fits, fun j hj => ?_, fun j hj => ?_⟩
  · rw [List.length_set] at hj
    by_cases e : j = k
    · subst e
      rw [World.cell?_setCell_same _ _ _ hs, List.getElem_set_self]
    · rw [World.cell?_setCell_other _ _ _ _ (by intro h; injection h with _ h; omega), h.cells j hj, List.getElem_set_ne (fun h => e h.symm)]
  · have h1 := h.room j hj
    refine ⟨?_, ?_⟩
    · by_cases e : j = k
      · subst e
        rw [World.cell?_setCell_same _ _ _ hs]; rfl
      · rw [World.cell?_setCell_other _ _ _ _ (by intro h; injection h with _ h; omega)]; exact h1.1
    · rw [World.frozen?_setCell]; exact h1.2
end Go.Proofs.YtdgokebablhoiaaDoor
