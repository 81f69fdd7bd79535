/- The two Frames in lock step: the program's and the document's. -/
import Derived.Test.YtdgokebablhoiaaDoorWDfm
import Derived.Test.YtdgokebablhoiaaDoorWNextF
import Derived.Test.YtdgokebablhoiaaDoorWMany
namespace Go.Proofs.YtdgokebablhoiaaDoor
open Go.RowKit

/-- What the document's Next leaves, by the pure outcome. -/
def DNextQ (W : World) (base r : Nat) (most : Int) (v : Value) (o : NextO) (e : Ending) (w' : World) : Prop :=
  match o with
  | .wait => e = .returned (.tuple #[.slice none 0 0, .bool false, .int .i64 0]) ∧ Below W.heap.size W w'
  | .bad => e = .returned (.tuple #[.slice none 0 0, .bool false, .int .i64 14]) ∧ Blk w' r 69 #[.int .i64 most, v, .bool true] ∧ Tur (· = r) W w'
  | .yes body tail => ∃ A' c', e = .returned (.tuple #[.slice A' body.length c', .bool true, .int .i64 0]) ∧ RowAt w' A' body.length W.heap.size body ∧ ∃ v', Df w' base r most v' tail ∧ Tur (· = r) W w' ∧ v'.ownBlock = v.ownBlock
theorem d_next (base r : Nat) (most : Int) (v : Value) (bs : List Int) (W : World) (h : Df W base r most v bs) (hw : ∀ x ∈ bs, (Lit.int .u8 x).wf = true) (hbig : bs.length ≤ 140737488355328) :
    Calls Tryd.prog 41 #[.pointer (some ⟨r, 0, none⟩)] W (DNextQ W base r most v (nextP most bs)) := by
  have hs : ∀ A n c, v = .slice A n c → n < 4 → bs.length = n → nextP most bs = .wait → Calls Tryd.prog 41 #[.pointer (some ⟨r, 0, none⟩)] W (DNextQ W base r most v (nextP most bs)) := by
    intro A n c e hn _ hq
    subst e
    rw [hq]
    refine (d_next_short base r most A n c bs W h hn).mono ?_
    rintro e w' ⟨rfl, rfl⟩
    exact ⟨rfl, Below.refl _ _⟩
  obtain ⟨A0, c0, hv0, _, _, _⟩ := h.own.cellsAt
  match bs, h, hw, hbig with
  | [], h, _, _ => exact hs _ _ _ hv0 (by simp) rfl rfl
  | [_], h, _, _ => exact hs _ _ _ hv0 (by simp) rfl rfl
  | [_, _], h, _, _ => exact hs _ _ _ hv0 (by simp) rfl rfl
  | [_, _, _], h, _, _ => exact hs _ _ _ hv0 (by simp) rfl rfl
  | b0 :: b1 :: b2 :: b3 :: rest, h, hw, hbig =>
    obtain ⟨b0, rfl, k0⟩ := byte_nat (hw b0 (by simp))
    obtain ⟨b1, rfl, k1⟩ := byte_nat (hw b1 (by simp))
    obtain ⟨b2, rfl, k2⟩ := byte_nat (hw b2 (by simp))
    obtain ⟨b3, rfl, k3⟩ := byte_nat (hw b3 (by simp))
    clear hs hv0
    rcases h.own with ⟨_, e⟩ | ⟨g, off, cap, hf⟩
    · cases e
    unfold nextP
    simp only [Int.toNat_natCast]
    by_cases hb : be4 b0 b1 b2 b3 < 1 ∨ most < (be4 b0 b1 b2 b3 : Int)
    · rw [if_pos hb]
      exact d_next_bad base r most g off cap b0 b1 b2 b3 k0 k1 k2 k3 rest W v h hf hb
    · rw [if_neg hb]
      have hbig2 : rest.length ≤ 140737488355328 := by simp at hbig; omega
      by_cases hs : rest.length < be4 b0 b1 b2 b3
      · rw [if_pos hs]
        exact d_next_wait base r most g off cap b0 b1 b2 b3 k0 k1 k2 k3 rest W v h hf hb hs hbig2
      · rw [if_neg hs]
        have hl : (rest.take (be4 b0 b1 b2 b3)).length = be4 b0 b1 b2 b3 := by rw [List.length_take]; omega
        refine (d_next_yes base r most g off cap b0 b1 b2 b3 k0 k1 k2 k3 rest W v h hf hb hs hbig2).mono ?_
        rintro e w' ⟨A', c', rfl, hr, v', hf, ht, hv⟩
        show ∃ A' c', _
        rw [hl]
        exact ⟨A', c', rfl, hr, v', hf, ht, hv⟩

theorem Fm.turn {W W1 : World} {base q : Nat} {most : Int} {v : Value} {bs : List Int} {S : Nat → Prop} (h : Fm W base q most v bs) (ht : Tur S W W1) (hq : ¬ S q) (hv : ∀ k, v.ownBlock = some k → ¬ S k) : Fm W1 base q most v bs :=
  ⟨h.blk.tur ht hq, ownsRow_tur h.own ht hv, h.ne, h.base⟩
theorem Df.turn {W W1 : World} {base r : Nat} {most : Int} {v : Value} {bs : List Int} {S : Nat → Prop} (h : Df W base r most v bs) (ht : Tur S W W1) (hr : ¬ S r) (hv : ∀ k, v.ownBlock = some k → ¬ S k) : Df W1 base r most v bs :=
  ⟨h.blk.tur ht hr, h.own.kept ht hv, h.ne, h.base⟩
theorem Fm.lt {W : World} {base q : Nat} {most : Int} {v : Value} {bs : List Int} (h : Fm W base q most v bs) : ∀ k, v.ownBlock = some k → base ≤ k ∧ k < W.heap.size := fun k hk => h.own.lt k hk

theorem nextP_mem (most : Int) (F : List Int) : ∀ body tail, nextP most F = .yes body tail → (∀ x ∈ tail, x ∈ F) ∧ tail.length ≤ F.length := by
  intro body tail h
  match F, h with
  | b0 :: b1 :: b2 :: b3 :: rest, h =>
    have h : (if be4 b0.toNat b1.toNat b2.toNat b3.toNat < 1 ∨ most < (be4 b0.toNat b1.toNat b2.toNat b3.toNat : Int) then NextO.bad else (if rest.length < be4 b0.toNat b1.toNat b2.toNat b3.toNat then .wait else .yes (rest.take (be4 b0.toNat b1.toNat b2.toNat b3.toNat)) (rest.drop (be4 b0.toNat b1.toNat b2.toNat b3.toNat)))) = .yes body tail := h
    split at h
    · cases h
    · split at h
      · cases h
      · injection h with _ h
        subst h
        refine ⟨fun x hx => ?_, ?_⟩
        · have := List.mem_of_mem_drop hx
          simp [this]
        · rw [List.length_drop]; simp only [List.length_cons]; omega
/-- Both without a fault. -/
structure PcL (q r : Nat) (most : Int) (K B : Nat) (F : List Int) (v u : Value) (W : World) : Prop where
  fm : Fm W q q most v F
  df : Df W r r most u F
  vr : v.ownBlock ≠ some r
  vu : ∀ k, v.ownBlock = some k → u.ownBlock ≠ some k
  vB : ∀ k, v.ownBlock = some k → k < B
  uB : ∀ k, u.ownBlock = some k → k < B
  wf : ∀ x ∈ F, (Lit.int .u8 x).wf = true
  len : F.length ≤ K
/-- Both with a fault. -/
structure PcF (q r g : Nat) (most : Int) (n : Nat) (A A' : Option Addr) (c c' : Nat) (W : World) : Prop where
  fm : Blk W q 108 #[.int .i64 most, .slice A n c, errV g]
  er : Blk W g 102 #[.int .i64 14, .int .i64 0]
  df : Blk W r 69 #[.int .i64 most, .slice A' n c', .bool true]
  gr : r < g
def PcS (q r : Nat) (most : Int) (K B : Nat) (W : World) : Prop :=
  q < r ∧ r < B ∧ B ≤ W.heap.size ∧ ((∃ F v u, PcL q r most K B F v u W) ∨ ∃ g n A A' c c', g < B ∧ PcF q r g most n A A' c c' W)
section
variable {q r K B : Nat} {most : Int} {W W1 : World}
theorem PcS.turn {S : Nat → Prop} (h : PcS q r most K B W) (ht : Tur S W W1) (hS : ∀ k, k < B → ¬ S k) : PcS q r most K B W1 := by
  obtain ⟨h1, h2, h3, h⟩ := h
  refine ⟨h1, h2, Nat.le_trans h3 ht.size, ?_⟩
  rcases h with ⟨F, v, u, h⟩ | ⟨g, n, A, A', c, c', hg, h⟩
  · exact .inl ⟨F, v, u, h.fm.turn ht (hS q (by omega)) (fun k hk => hS k (h.vB k hk)), h.df.turn ht (hS r h2) (fun k hk => hS k (h.uB k hk)), h.vr, h.vu, h.vB, h.uB, h.wf, h.len⟩
  · exact .inr ⟨g, n, A, A', c, c', hg, h.fm.tur ht (hS q (by omega)), h.er.tur ht (hS g hg), h.df.tur ht (hS r h2), h.gr⟩
theorem PcS.kept (h : PcS q r most K B W) (hb : Below W.heap.size W W1) : PcS q r most K B W1 := h.turn (Tur.of_below (S := fun _ => False) hb) (fun _ _ h => h)
theorem PcS.base (h : PcS q r most K B W) : PcS q r most K W.heap.size W := by
  obtain ⟨h1, h2, h3, h⟩ := h
  refine ⟨h1, by omega, Nat.le_refl _, ?_⟩
  rcases h with ⟨F, v, u, h⟩ | ⟨g, n, A, A', c, c', hg, h⟩
  · exact .inl ⟨F, v, u, h.fm, h.df, h.vr, h.vu, fun k hk => by have := h.vB k hk; omega, fun k hk => by have := h.uB k hk; omega, h.wf, h.len⟩
  · exact .inr ⟨g, n, A, A', c, c', by omega, h⟩
theorem PcS.more {K' : Nat} (h : PcS q r most K B W) (hK : K ≤ K') : PcS q r most K' B W := by
  obtain ⟨h1, h2, h3, h⟩ := h
  refine ⟨h1, h2, h3, ?_⟩
  rcases h with ⟨F, v, u, h⟩ | h
  · exact .inl ⟨F, v, u, h.fm, h.df, h.vr, h.vu, h.vB, h.uB, h.wf, Nat.le_trans h.len hK⟩
  · exact .inr h
/-- What both hold is as long. -/
theorem PcS.held (h : PcS q r most K B W) : ∃ A n c A' c' m f m' f', Blk W q 108 #[m, .slice A n c, f] ∧ Blk W r 69 #[m', .slice A' n c', f'] := by
  obtain ⟨h1, h2, h3, h⟩ := h
  rcases h with ⟨F, v, u, h⟩ | ⟨g, n, A, A', c, c', hg, h⟩
  · obtain ⟨A, c, rfl, _, _, _⟩ := owned_form h.fm.own
    obtain ⟨A', c', rfl, _, _, _⟩ := h.df.own.cellsAt
    exact ⟨_, _, _, _, _, _, _, _, _, h.fm.blk, h.df.blk⟩
  · exact ⟨_, _, _, _, _, _, _, _, _, h.fm, h.df⟩
/-- The blocks that a Feed, a Next may turn. -/
def PcT (q B : Nat) : Nat → Prop := fun k => q ≤ k ∧ k < B
theorem pc_feed (A : Option Addr) (n c : Nat) (A0 : Option Addr) (c0 : Nat) (xs : List Int) (h : PcS q r most K B W) (hl : xs.length = n) (hx : CellsAt W A (bvs xs)) (hA : A = none → c = 0) (hA0 : A0 = none → c0 = 0)
    (hwf : ∀ x ∈ xs, (Lit.int .u8 x).wf = true) (hn : K + n ≤ 140737488355328) :
    Calls Tryd.prog 37 #[.pointer (some ⟨q, 0, none⟩), .slice A n c] W fun e w' => e = .returned (.tuple #[]) ∧ Tur (PcT q B) W w' ∧
      ((CellsAt w' A0 (bvs xs)) → Calls Tryd.prog 38 #[.pointer (some ⟨r, 0, none⟩), .slice A0 n c0] w' fun e w'' => e = .returned (.tuple #[]) ∧ Tur (PcT q B) w' w'' ∧ ∀ W2, Tur (fun k => B ≤ k ∧ k < W.heap.size) w'' W2 → PcS q r most (K + n) W2.heap.size W2) := by
  obtain ⟨h1, h2, h3, h⟩ := h
  rcases h with ⟨F, v, u, h⟩ | ⟨g, m, A1, A1', c1, c1', hg, h⟩
  · have hlen := h.len
    refine (f_feed A n c xs q q most v F W h.fm hl hx hA (by omega)).mono ?_
    rintro e w' ⟨rfl, v', hf, hw⟩
    have ht : Tur (PcT q B) W w' := ⟨hw.1.os, hw.1.tape, hw.1.output, hw.1.size, fun k hk hn => hw.1.block k hk (fun hs => hn (by
      rcases hs with rfl | hs
      · exact ⟨Nat.le_refl _, by omega⟩
      · exact ⟨(h.fm.lt k hs).1, h.vB k hs⟩))⟩
    refine ⟨rfl, ht, fun hx' => ?_⟩
    have hd : Df w' r r most u F := h.df.turn hw.1 (fun hs => by
      rcases hs with e | e
      · omega
      · exact h.vr e) (fun k hk hs => by
      rcases hs with e | e
      · have := (h.df.own.lt k hk).1; omega
      · exact h.vu k e hk)
    have hvr : v'.ownBlock ≠ some r := by
      rcases hw.2 with e | ⟨k, e, hk⟩
      · rw [e]; exact h.vr
      · rw [e]; intro e2; cases e2; omega
    have hvu : ∀ k, v'.ownBlock = some k → u.ownBlock ≠ some k := by
      intro k hk e2
      rcases hw.2 with e | ⟨k', e, hk'⟩
      · exact h.vu k (e ▸ hk) e2
      · rw [e] at hk; cases hk; have := h.uB k e2; omega
    refine (d_feed A0 n c0 xs r r most u F w' hd hl hx' hA0 (by omega)).mono ?_
    rintro e w'' ⟨rfl, u', hd', hw'⟩
    have ht' : Tur (PcT q B) w' w'' := ⟨hw'.1.os, hw'.1.tape, hw'.1.output, hw'.1.size, fun k hk hn => hw'.1.block k hk (fun hs => hn (by
      rcases hs with rfl | hs
      · exact ⟨by omega, h2⟩
      · exact ⟨by have := (hd.own.lt k hs).1; omega, h.uB k hs⟩))⟩
    refine ⟨rfl, ht', fun W2 htw => PcS.base (B := w''.heap.size) ?_⟩
    have hvb : ∀ k, v'.ownBlock = some k → k < B ∨ W.heap.size ≤ k := by
      intro k hk
      rcases hw.2 with e | ⟨k', e, hk'⟩
      · exact .inl (h.vB k (e ▸ hk))
      · rw [e] at hk; cases hk; exact .inr hk'
    have hub : ∀ k, u'.ownBlock = some k → k < B ∨ W.heap.size ≤ k := by
      intro k hk
      rcases hw'.2 with e | ⟨k', e, hk'⟩
      · exact .inl (h.uB k (e ▸ hk))
      · rw [e] at hk; cases hk; exact .inr (Nat.le_trans ht.size hk')
    have hfx : ∀ f : Fm w'' q q most v' (F ++ xs), Fm W2 q q most v' (F ++ xs) := fun f => f.turn htw (fun hs => by have := hs.1; omega) (fun k hk hs => by rcases hvb k hk with e | e <;> omega)
    have hdx : Df W2 r r most u' (F ++ xs) := hd'.turn htw (fun hs => by have := hs.1; omega) (fun k hk hs => by rcases hub k hk with e | e <;> omega)
    refine ⟨h1, Nat.lt_of_lt_of_le h2 (Nat.le_trans h3 (Nat.le_trans ht.size ht'.size)), htw.size, .inl ⟨F ++ xs, v', u', hfx ?_, hdx, hvr, ?_, ?_, fun k hk => (hd'.own.lt k hk).2, ?_, ?_⟩⟩
    · refine hf.turn hw'.1 (fun hs => ?_) (fun k hk hs => ?_)
      · rcases hs with e | e
        · omega
        · have := (hd.own.lt q e).1; omega
      · rcases hs with e | e
        · exact hvr (e ▸ hk)
        · exact hvu k hk e
    · intro k hk e2
      rcases hw'.2 with e | ⟨k', e, hk'⟩
      · exact hvu k hk (e ▸ e2)
      · rw [e] at e2; cases e2; have := (hf.lt k hk).2; omega
    · intro k hk
      exact Nat.lt_of_lt_of_le (hf.lt k hk).2 ht'.size
    · intro x hx
      rcases List.mem_append.1 hx with e | e
      · exact h.wf x e
      · exact hwf x e
    · rw [List.length_append, hl]; have := h.len; omega
  · refine (ff_feed q g (.int .i64 most) (.slice A1 m c1) A n c W h.fm h.er).mono ?_
    rintro e w' ⟨rfl, rfl⟩
    refine ⟨rfl, Tur.refl _ _, fun _ => ?_⟩
    refine (d_feed_fault r (.int .i64 most) (.slice A1' m c1') A0 n c0 W h.df).mono ?_
    rintro e w'' ⟨rfl, rfl⟩
    exact ⟨rfl, Tur.refl _ _, fun W2 htw => ⟨h1, Nat.lt_of_lt_of_le h2 (Nat.le_trans h3 htw.size), Nat.le_refl _, .inr ⟨g, m, A1, A1', c1, c1', Nat.lt_of_lt_of_le hg (Nat.le_trans h3 htw.size), h.fm.tur htw (fun hs => by have := hs.1; omega), h.er.tur htw (fun hs => by have := hs.1; omega), h.df.tur htw (fun hs => by have := hs.1; omega), h.gr⟩⟩⟩
/-- Next, asked of both. -/
theorem pc_next (h : PcS q r most K B W) (hn : K ≤ 140737488355328) :
    Calls Tryd.prog 40 #[.pointer (some ⟨q, 0, none⟩)] W fun e w' => ∃ A n c b g xs, e = .returned (.tuple #[.slice A n c, .bool b, .int .i64 g]) ∧ RowAt w' A n W.heap.size xs ∧ Tur (PcT q B) W w' ∧
      Calls Tryd.prog 41 #[.pointer (some ⟨r, 0, none⟩)] w' fun e w'' => ∃ A' c', e = .returned (.tuple #[.slice A' n c', .bool b, .int .i64 g]) ∧ RowAt w'' A' n w'.heap.size xs ∧ RowAt w'' A n W.heap.size xs ∧ Tur (PcT q B) w' w'' ∧ PcS q r most K w''.heap.size w'' := by
  obtain ⟨h1, h2, h3, h⟩ := h
  have hqr : ∀ {X Y : World}, Tur (· = q) X Y → Tur (PcT q B) X Y := fun ht => ⟨ht.os, ht.tape, ht.output, ht.size, fun k hk hn => ht.block k hk (fun e => hn ⟨Nat.le_of_eq e.symm, by omega⟩)⟩
  have hrr : ∀ {X Y : World}, Tur (· = r) X Y → Tur (PcT q B) X Y := fun ht => ⟨ht.os, ht.tape, ht.output, ht.size, fun k hk hn => ht.block k hk (fun e => hn ⟨by omega, by omega⟩)⟩
  rcases h with ⟨F, v, u, h⟩ | ⟨g, m, A1, A1', c1, c1', hg, h⟩
  · obtain ⟨A, c, rfl, _, _, _⟩ := owned_form h.fm.own
    have hlen := h.len
    have C1 := f_next2 q q most A _ c F W h.fm rfl h.wf (by omega)
    have C2 := fun (w' : World) (hd : Df w' r r most u F) => d_next r r most u F w' hd h.wf (by omega)
    have hun : ∀ k, u.ownBlock = some k → ¬ k = q := fun k hk e => by have := (h.df.own.lt k hk).1; omega
    cases ho : nextP most F with
    | wait =>
      rw [ho] at C1 C2
      refine C1.mono ?_
      rintro e w' ⟨rfl, rfl⟩
      refine ⟨none, 0, 0, false, 0, [], rfl, .inl ⟨rfl, rfl, rfl⟩, Tur.refl _ _, ?_⟩
      refine (C2 W h.df).mono ?_
      rintro e w'' ⟨rfl, hb⟩
      exact ⟨none, 0, rfl, .inl ⟨rfl, rfl, rfl⟩, .inl ⟨rfl, rfl, rfl⟩, Tur.of_below hb, ((show PcS q r most K B W from ⟨h1, h2, h3, .inl ⟨F, _, u, h⟩⟩).kept hb).base⟩
    | bad =>
      rw [ho] at C1 C2
      refine C1.mono ?_
      rintro e w' ⟨rfl, ⟨g, hf, hg, hgl⟩, ht⟩
      refine ⟨none, 0, 0, false, 14, [], rfl, .inl ⟨rfl, rfl, rfl⟩, hqr ht, ?_⟩
      have hd := h.df.turn ht (show ¬ r = q by omega) hun
      refine (C2 w' hd).mono ?_
      rintro e w'' ⟨rfl, hd', ht'⟩
      obtain ⟨A', c', hv', _, _, _⟩ := h.df.own.cellsAt
      rw [hv'] at hd'
      refine ⟨none, 0, rfl, .inl ⟨rfl, rfl, rfl⟩, .inl ⟨rfl, rfl, rfl⟩, hrr ht', h1, by have := ht.size; have := ht'.size; omega, Nat.le_refl _, .inr ⟨g, F.length, A, A', c, c', Nat.lt_of_lt_of_le hg.lt ht'.size, hf.tur ht' (show ¬ q = r by omega), hg.tur ht' (show ¬ g = r by omega), hd', by omega⟩⟩
    | yes body tail =>
      rw [ho] at C1 C2
      have hmem := nextP_mem most F body tail ho
      refine C1.mono ?_
      rintro e w' ⟨A2, c2, rfl, hr, v2, hf, ht, hfr⟩
      refine ⟨A2, _, c2, true, 0, body, rfl, hr, hqr ht, ?_⟩
      have hd := h.df.turn ht (show ¬ r = q by omega) hun
      refine (C2 w' hd).mono ?_
      rintro e w'' ⟨A3, c3, rfl, hr3, u', hd', ht', hu'⟩
      have hvr : ∀ k, v2.ownBlock = some k → ¬ k = r := fun k hk e => by have := hfr k hk; omega
      refine ⟨A3, c3, rfl, hr3, hr.turn2 ht' (fun g hA e => by have := (hr.lt2 hA).1; omega), hrr ht', h1, by have := ht.size; have := ht'.size; omega, Nat.le_refl _, .inl ⟨tail, v2, u', hf.turn ht' (show ¬ q = r by omega) hvr, hd', fun e => hvr r e rfl, ?_, ?_, fun k hk => (hd'.own.lt k hk).2, ?_, ?_⟩⟩
      · intro k hk e
        rw [hu'] at e
        have := hfr k hk
        have := h.uB k e
        omega
      · intro k hk
        exact Nat.lt_of_lt_of_le (hf.lt k hk).2 ht'.size
      · exact fun x hx => h.wf x (hmem.1 x hx)
      · exact Nat.le_trans hmem.2 h.len
  · refine (ff_next q g (.int .i64 most) (.slice A1 m c1) W h.fm h.er).mono ?_
    rintro e w' ⟨rfl, rfl⟩
    refine ⟨none, 0, 0, false, 14, [], rfl, .inl ⟨rfl, rfl, rfl⟩, Tur.refl _ _, ?_⟩
    refine (d_next_fault r (.int .i64 most) (.slice A1' m c1') W h.df).mono ?_
    rintro e w'' ⟨rfl, rfl⟩
    exact ⟨none, 0, rfl, .inl ⟨rfl, rfl, rfl⟩, .inl ⟨rfl, rfl, rfl⟩, Tur.refl _ _, h1, Nat.lt_of_lt_of_le h2 h3, Nat.le_refl _, .inr ⟨g, m, A1, A1', c1, c1', Nat.lt_of_lt_of_le hg h3, h⟩⟩
end
end Go.Proofs.YtdgokebablhoiaaDoor
