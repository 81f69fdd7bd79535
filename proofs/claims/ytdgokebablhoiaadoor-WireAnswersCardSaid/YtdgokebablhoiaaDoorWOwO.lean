/- A row of bytes that the call owns, wherever in its block it begins; append onto it. -/
import Derived.Test.YtdgokebablhoiaaDoorWRef
import Derived.ArgAppend
import Derived.Deep.Upon
namespace Go.Proofs.YtdgokebablhoiaaDoor
open Go.RowKit

structure OwOForm (W : World) (base g off cap : Nat) (v : Value) (xs : List Int) : Prop where
  val : v = .slice (some ⟨g, off, none⟩) xs.length cap
  low : base ≤ g
  lt : g < W.heap.size
  fits : xs.length ≤ cap
  cells : ∀ j (h : j < xs.length), W.cell? ⟨g, off + j, none⟩ = some (.int .u8 xs[j])
  room : ∀ j, j < cap → (W.cell? ⟨g, off + j, none⟩).isSome = true ∧ W.frozen? ⟨g, off + j, none⟩ = false
def OwO (W : World) (base : Nat) (v : Value) (xs : List Int) : Prop := (v = .slice none 0 0 ∧ xs = []) ∨ ∃ g off cap, OwOForm W base g off cap v xs
theorem OwO.nil (W : World) (base : Nat) : OwO W base (.slice none 0 0) [] := .inl ⟨rfl, rfl⟩
theorem OwO.of {W : World} {base : Nat} {v : Value} {xs : List Int} (h : W.ownsRow base 5 1 v xs.length (bvs xs)) : OwO W base v xs := by
  rcases h.2 with ⟨rfl, hn⟩ | ⟨g, cap, cur, rfl, hb, hg, hn, _, hs, ht⟩
  · exact .inl ⟨rfl, List.eq_nil_of_length_eq_zero hn⟩
  · have hgb : Blk W g 5 cur := hg
    have hlt := hgb.lt
    refine .inr ⟨g, 0, cap, rfl, hb, hlt, hn, fun j hj => ?_, fun j hj => ?_⟩
    · rw [Nat.zero_add, hgb.cell j, ← Array.getElem?_toList]
      have h1 : (bvs xs)[j]? = some (.int .u8 xs[j]) := by unfold bvs; rw [List.getElem?_map, List.getElem?_eq_getElem hj]; rfl
      rw [← ht, List.getElem?_take] at h1
      split at h1
      · exact h1
      · cases h1
    · rw [Nat.zero_add, hgb.cell j, hgb.frozen j]
      refine ⟨?_, rfl⟩
      rw [Array.getElem?_eq_getElem (by omega)]
      rfl
theorem setCells_grown (b : Nat) : ∀ (vs : List Value) (o : Nat) (w : World), w.grownBy (w.setCells b o vs) (some b)
  | [], _, _ => ⟨rfl, rfl, rfl, Nat.le_refl _, fun _ _ _ => rfl⟩
  | v :: vs, o, w => by
    have h := setCells_grown b vs (o + 1) (w.setCell ⟨b, o, none⟩ v)
    have h1 : w.grownBy (w.setCell ⟨b, o, none⟩ v) (some b) := ⟨rfl, rfl, rfl, by simp [World.setCell], fun k _ hne => Below.heap_setCell w ⟨b, o, none⟩ v k (fun e => hne (by rw [e]))⟩
    exact ⟨h.os.trans h1.os, h.tape.trans h1.tape, h.output.trans h1.output, Nat.le_trans h1.size h.size, fun k hk hne => (h.block k (Nat.lt_of_lt_of_le hk h1.size) hne).trans (h1.block k hk hne)⟩
theorem OwO.kept {W W1 : World} {base : Nat} {v : Value} {xs : List Int} {S : Nat → Prop} (h : OwO W base v xs) (ht : Tur S W W1) (hS : ∀ k, v.ownBlock = some k → ¬ S k) : OwO W1 base v xs := by
  rcases h with h | ⟨g, off, cap, h⟩
  · exact .inl h
  · have hb := ht.block g h.lt (hS g (by rw [h.val]; rfl))
    refine .inr ⟨g, off, cap, h.val, h.low, Nat.lt_of_lt_of_le h.lt ht.size, h.fits, fun j hj => ?_, fun j hj => ?_⟩
    · rw [← h.cells j hj]; simp only [World.cell?, hb]
    · have := h.room j hj
      simp only [World.cell?, World.frozen?, hb] at this ⊢
      exact this
theorem OwO.lt {W : World} {base : Nat} {v : Value} {xs : List Int} (h : OwO W base v xs) : ∀ k, v.ownBlock = some k → base ≤ k ∧ k < W.heap.size := by
  rcases h with ⟨rfl, _⟩ | ⟨g, off, cap, h⟩
  · intro k hk; cases hk
  · intro k hk
    rw [h.val] at hk
    cases hk
    exact ⟨h.low, h.lt⟩
theorem OwO.cellsAt {W : World} {base : Nat} {v : Value} {xs : List Int} (h : OwO W base v xs) : ∃ A c, v = .slice A xs.length c ∧ CellsAt W A (bvs xs) ∧ (A = none → c = 0) ∧ xs.length ≤ c := by
  rcases h with ⟨rfl, rfl⟩ | ⟨g, off, cap, h⟩
  · exact ⟨none, 0, rfl, fun k hk => absurd hk (by simp [bvs]), fun _ => rfl, Nat.le_refl _⟩
  · refine ⟨_, _, h.val, fun k hk => ?_, (fun e => by cases e), h.fits⟩
    rw [bvs_len] at hk
    refine ⟨_, rfl, h.lt, ?_⟩
    rw [show (⟨g, off, none⟩ : Addr).add k = ⟨g, off + k, none⟩ by unfold Addr.add; split <;> simp_all, h.cells k hk]
    simp [bvs]
/-- A front is cut off. -/
theorem OwO.cut {W : World} {base g off cap : Nat} {v : Value} {xs : List Int} (h : OwOForm W base g off cap v xs) (k : Nat) (hk : k ≤ xs.length) : OwOForm W base g (off + k) (cap - k) (.slice (some ⟨g, off + k, none⟩) (xs.length - k) (cap - k)) (xs.drop k) := by
  have hl : (xs.drop k).length = xs.length - k := List.length_drop
  refine ⟨by rw [hl], h.low, h.lt, by rw [hl]; have := h.fits; omega, fun j hj => ?_, fun j hj => ?_⟩
  · rw [hl] at hj
    rw [Nat.add_assoc, h.cells (k + j) (by omega), List.getElem_drop]
  · rw [Nat.add_assoc]
    exact h.room (k + j) (by omega)
section
variable {w : World}
theorem wpList_append_oo {ops : Array Oper} {rest : List Oper} {o : Oper} {a : Act} {Q : Exit → Act → World → Prop} (hgd : o.guard = none) (s x : Operand)
    (ho : o.op = .call { callee := .builtin .append, args := #[s, x], argTypes := #[24, 24] })
    (base : Nat) (v : Value) (xs : List Int) (hs : a.eval s = v) (hown : OwO w base v xs)
    (A : Option Addr) (m c : Nat) (hA : A = none → c = 0) (news : List Int) (hx : a.eval x = .slice A m c) (hl : news.length = m) (hnews : CellsAt w A (bvs news))
    (h63 : xs.length + m ≤ 140737488355328) (hbase : base ≤ w.heap.size)
    (h : ∀ v' w', OwO w' base v' (xs ++ news) → w.grownBy w' v.ownBlock → (v'.ownBlock = v.ownBlock ∨ ∃ k, v'.ownBlock = some k ∧ w.heap.size ≤ k) → wpList Tryd.prog ops Q rest (a.put o.dst v') w') :
    wpList Tryd.prog ops Q (o :: rest) a w := by
  rcases hown with ⟨rfl, rfl⟩ | ⟨g, off, cap, hf⟩
  · refine wpList_append_bytes hgd s x ho base (.slice none 0 0) 0 [] hs (World.ownsRow_nil _ _ _ _) A m c hA news hx hl hnews (by simp only [List.length_nil] at h63; omega) hbase ?_
    intro v' w' hown hg hv
    refine h v' w' (OwO.of ?_) hg ?_
    · rw [List.nil_append, hl]
      simpa [bvs] using hown
    · rcases hv with e | e
      · exact .inl e
      · exact .inr ⟨_, e, Nat.le_refl _⟩
  · have hv := hf.val
    subst hv
    cases A with
    | none =>
      obtain rfl := hA rfl
      have hn : news = [] := by
        cases news with
        | nil => rfl
        | cons u us => obtain ⟨ad, e, _⟩ := hnews 0 (by simp [bvs]); cases e
      subst hn
      obtain rfl : m = 0 := hl.symm
      obtain ⟨i0, hi, hz0, hz1, hz2⟩ := info_parts info_u8
      have hr := run_append_nothing (P := Tryd.prog) w 24 24 o.type 5 i0 Tryd.underlying24 hi (some ⟨g, off, none⟩) xs.length cap hf.fits (.slice none 0 0) (Src.ofNil w Tryd.underlying24 0)
      refine wpList_plain hgd fun K hK => ?_
      unfold Oper.wp execOp
      simp only [ho, resolve, invoke, builtin, Sem.run_bind, Sem.run_pure, Result.andThen_ok, List.map_toArray, List.map_cons, List.map_nil, hs, hx, hr]
      exact hK _ _ (h _ _ (.inr ⟨g, off, cap, by rw [List.append_nil]; exact hf⟩) ⟨rfl, rfl, rfl, Nat.le_refl _, fun _ _ _ => rfl⟩ (.inl rfl))
    | some ad =>
      obtain ⟨i0, hi, hz0, hz1, hz2⟩ := info_parts info_u8
      refine wpList_append_arg w hgd s x 24 ho 5 i0 (.int .u8 0) 1 1 Tryd.underlying24 hi hz0 hz1 hz2 rfl (by omega) g off xs.length cap (bvs xs) hs (by rw [bvs_len, Nat.mul_one]) (fun j u hj => ?_) ad m c (bvs news) hx (by rw [bvs_len, Nat.mul_one]; exact hl) (fun j u hj => ?_) (bvs_one _) (fun hr j hj => ?_) (by unfold maxLen; omega) (by omega) (fun hr => ?_) (fun hr v' w' hown hg => ?_)
      · obtain ⟨hlt, rfl⟩ := List.getElem?_eq_some_iff.1 hj
        rw [bvs_len] at hlt
        rw [hf.cells j hlt]
        simp [bvs]
      · obtain ⟨hlt, rfl⟩ := List.getElem?_eq_some_iff.1 hj
        obtain ⟨ad', e, _, hc⟩ := hnews j hlt
        cases e
        exact hc
      · rw [bvs_len] at hj
        have := hf.room (xs.length + j) (by omega)
        rw [Nat.mul_one, Nat.add_assoc]
        exact this
      · have hg := setCells_grown g (bvs news) (off + xs.length * 1) w
        have hsm : ∀ j, j < (bvs news).length → (w.cell? ⟨g, off + xs.length * 1 + j, none⟩).isSome = true := fun j hj => by
          rw [bvs_len] at hj
          rw [Nat.mul_one, Nat.add_assoc]
          exact (hf.room (xs.length + j) (by omega)).1
        refine h _ _ (.inr ⟨g, off, cap, ?_, hf.low, Nat.lt_of_lt_of_le hf.lt hg.size, by rw [List.length_append]; omega, fun j hj => ?_, fun j hj => ?_⟩) hg (.inl rfl)
        · rw [List.length_append, hl]
        · by_cases hjl : j < xs.length
          · rw [World.cell?_setCells_out g _ _ _ _ (fun _ _ => .inl (by show off + j < off + xs.length * 1; omega)), hf.cells j hjl, List.getElem_append_left hjl]
          · rw [List.length_append] at hj
            have h1 := World.cell?_setCells_in g (bvs news) (off + xs.length * 1) w hsm (j - xs.length) (by rw [bvs_len]; omega)
            rw [show off + xs.length * 1 + (j - xs.length) = off + j by omega] at h1
            rw [h1, List.getElem_append_right (by omega)]
            simp [bvs]
        · have h1 := hf.room j hj
          exact ⟨World.isSome_setCells g _ _ _ _ h1.1, (World.frozen?_setCells g _ _ _ _).trans h1.2⟩
      · have hg' : w.grownBy w' (some g) := ⟨hg.os, hg.tape, hg.output, hg.size, fun k hk _ => hg.block k hk (by simp)⟩
        refine h v' w' (OwO.of ?_) hg' ?_
        · rw [List.length_append, hl, bvs_append]
          exact hown.mono hbase
        · rcases hown.2 with ⟨rfl, h0⟩ | ⟨g', cap', cur', rfl, hb, _⟩
          · omega
          · exact .inr ⟨g', rfl, hb⟩
end
end Go.Proofs.YtdgokebablhoiaaDoor
