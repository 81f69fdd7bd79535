/- What the law WireAnswers keeps: a Frames, a Writer, the document's bytes, the two rows of rows, the rows. -/
import Derived.Test.YtdgokebablhoiaaDoorWApart
namespace Go.Proofs.YtdgokebablhoiaaDoor
open Go.RowKit

set_option maxRecDepth 100000 in
theorem f_feed_wide (A : Option Addr) (n c : Nat) (xs : List Int) (base q : Nat) (most : Int) (v : Value) (bs : List Int) (W : World) (h : Fm W base q most v bs) (hl : xs.length = n) (hx : CellsAt W A (bvs xs)) (hA : A = none → c = 0) (hn : bs.length + n ≤ 211106232532992) :
    Calls Tryd.prog 37 #[.pointer (some ⟨q, 0, none⟩), .slice A n c] W fun e w' => e = .returned (.tuple #[]) ∧ ∃ v', Fm w' base q most v' (bs ++ xs) ∧ WrFr W q v w' v' := by
  obtain ⟨A1, c1, rfl, _, _, _⟩ := owned_form h.own
  have H := Lib.hid h
  have HX := Lib.hid hx
  have HL := Lib.hid hl
  have HA := Lib.hid hA
  have HN := Lib.hid hn
  have p1 : W.cell? ⟨q, 1, none⟩ = some (.slice A1 bs.length c1) := h.blk.cell 1
  have p2 : W.cell? ⟨q, 2, none⟩ = some .nilIface := h.blk.cell 2
  generalize hm : bs.length = m at *
  have HM := Lib.hid hm
  have S1 := Lib.hid (show base ≤ W.heap.size from Nat.le_trans h.base (Nat.le_of_lt h.blk.lt))
  clear h hl hx hA hn hm
  go_enter Tryd.func37, Tryd.ntmps37
  go_wp2_with (first
    | (go_at_call 34; (with_reducible refine (is_nil _ _).mono ?_); rintro e w1 ⟨rfl, rfl⟩)
    | (at_builtin; refine wpList_append_bytes rfl _ _ rfl base _ m bs rfl (by rw [← HM.out]; rw [HM.out]; exact HM.out ▸ H.out.own) A n c HA.out xs rfl HL.out HX.out HN.out S1.out ?_
       intro v' w2 hown hg hv
       obtain ⟨A', c', rfl, _, _, _⟩ := owned_form hown
       have q0 : w2.cell? ⟨q, 1, none⟩ = some (.slice A1 m c1) := (H.out.blk.grown hg (fun e => H.out.ne e.symm)).cell 1
       have q1 : w2.frozen? ⟨q, 1, none⟩ = false := (H.out.blk.grown hg (fun e => H.out.ne e.symm)).frozen 1
       have HW := Lib.hid (H.out.put (more := xs) (by rw [HM.out, HL.out]; exact hown) hg hv)
       clear hown hg hv))
  go_end0
  exact ⟨rfl, _, HW.out.1, HW.out.2⟩
set_option maxRecDepth 100000 in
theorem copied_any (A : Option Addr) (n c : Nat) (xs : List Int) (W : World) (hl : xs.length = n) (h : CellsAt W A (bvs xs)) (hA : A = none → c = 0) (hn : n ≤ 211106232532992) :
    Calls Tryd.prog 42 #[.slice A n c] W fun e w' => ∃ A' c', e = .returned (.slice A' n c') ∧ w'.ownsRow W.heap.size 5 1 (.slice A' n c') n (bvs xs) ∧ Below W.heap.size W w' := by
  have H := Lib.hid h
  have HL := Lib.hid hl
  have HA := Lib.hid hA
  have HN := Lib.hid hn
  clear h hl hA hn
  go_enter Tryd.func42, Tryd.ntmps42
  go_wp2_with (at_builtin; refine wpList_append_bytes rfl _ _ rfl W.heap.size (.slice none 0 0) 0 [] rfl (World.ownsRow_nil _ _ _ _) A n c HA.out xs rfl HL.out H.out (by have := HN.out; omega) (Nat.le_refl _) ?_
               intro v' w2 hown hg hv
               have B2 := Lib.hid (below_grown (Below.refl W.heap.size W) hg (by intro g hg; cases hg) (Nat.le_refl _))
               have hown2 : w2.ownsRow W.heap.size 5 1 v' n (bvs xs) := by simpa [bvs] using hown
               obtain ⟨A', c', rfl, _, _⟩ := row_of_own hown2
               have HO := Lib.hid hown2
               clear hown hg hv hown2)
  go_ret
  exact ⟨A', c', rfl, HO.out, B2.out⟩
set_option maxRecDepth 100000 in
theorem frame_yes2 (A : Option Addr) (n c : Nat) (xs : List Int) (W : World) (hl : xs.length = n) (h : CellsAt W A (bvs xs)) (hA : A = none → c = 0) (h1 : 1 ≤ n) (h2 : n ≤ 65536) :
    Calls Tryd.prog 21 #[.slice A n c] W fun e w' => ∃ A' c', e = .returned (.tuple #[.slice A' (4 + n) c', .int .i64 0]) ∧ w'.ownsRow W.heap.size 5 1 (.slice A' (4 + n) c') (4 + n) (bvs (len4 n ++ xs)) ∧ Below W.heap.size W w' := by
  have H := Lib.hid h
  have HL := Lib.hid hl
  have HA := Lib.hid hA
  clear h hl hA
  go_enter Tryd.func21, Tryd.ntmps21
  go_wp2_with (at_builtin; refine wpList_append_bytes rfl _ _ rfl W.heap.size _ 4 (len4 n) rfl (own_cells4 W _ _ _ _) A n c HA.out xs rfl HL.out (H.out.below ((Below.refl _ _).alloc (Nat.le_refl _) _)) (by omega) (by simp) ?_
               intro v' w2 hown hg hv
               have B2 := Lib.hid (below_grown ((Below.refl W.heap.size W).alloc (Nat.le_refl _) (.cells #[.int .u8 ((n : Int) / 16777216), .int .u8 ((n : Int) / 65536), .int .u8 ((n : Int) / 256 % 256), .int .u8 ((n : Int) % 256)] 5)) hg (by intro g hg; cases hg; exact Nat.le_refl _) (by simp))
               rw [← bvs_append] at hown
               have HO := Lib.hid hown
               clear hown hg hv)
  go_ret2
  obtain ⟨A', c', rfl, hr, _⟩ := row_of_own HO.out
  exact ⟨A', c', rfl, HO.out, B2.out⟩
theorem RowAt.owo {W : World} {A : Option Addr} {n lo : Nat} {xs : List Int} (h : RowAt W A n lo xs) : OwO W lo (.slice A n n) xs := by
  rcases h with ⟨rfl, rfl, rfl⟩ | ⟨g, cur, rfl, h1, hg, hl, hn, ht⟩
  · exact .inl ⟨rfl, rfl⟩
  · refine .inr ⟨g, 0, n, by rw [hl], h1, hg.lt, by omega, fun j hj => ?_, fun j hj => ?_⟩
    · obtain ⟨ad, e, _, hc⟩ := (RowAt.cells (.inr ⟨g, cur, rfl, h1, hg, hl, hn, ht⟩) : CellsAt W (some ⟨g, 0, none⟩) (bvs xs)) j (by rw [bvs_len]; exact hj)
      cases e
      rw [add_zero_] at hc
      rw [Nat.zero_add, hc]
      simp [bvs]
    · rw [Nat.zero_add, hg.cell j, Array.getElem?_eq_getElem (by omega)]
      exact ⟨rfl, hg.frozen j⟩
theorem OwO.ofOwn {W : World} {base n c : Nat} {A : Option Addr} {xs : List Int} (h : W.ownsRow base 5 1 (.slice A n c) n (bvs xs)) : OwO W base (.slice A n c) xs := by
  have hl : xs.length = n := by have := h.1; rw [bvs_len, Nat.mul_one] at this; exact this
  exact OwO.of (by rw [hl]; exact h)
theorem OwO.mono {W : World} {base base' : Nat} {v : Value} {xs : List Int} (h : OwO W base v xs) (hb : base' ≤ base) : OwO W base' v xs := by
  rcases h with h | ⟨g, o, c, h⟩
  · exact .inl h
  · exact .inr ⟨g, o, c, h.val, Nat.le_trans hb h.low, h.lt, h.fits, h.cells, h.room⟩
/-- Fewer things. -/
theorem Sep.sub {lo : Nat} {W : World} {L L' : List Rsc} (h : Sep lo W L) (hs : L'.Sublist L) : Sep lo W L' :=
  ⟨fun R hR => h.1 R (hs.subset hR), fun R hR => h.2.1 R (hs.subset hR), h.2.2.sublist hs⟩
/-- What turns none of their blocks leaves them. -/
theorem Sep.off {lo : Nat} {W W' : World} {L : List Rsc} {S : Nat → Prop} (h : Sep lo W L) (ht : Tur S W W') (hS : ∀ R ∈ L, ∀ k ∈ R.own, ¬ S k) : Sep lo W' L :=
  ⟨fun R hR => R.st S W W' ht (hS R hR) (h.1 R hR), fun R hR k hk => ⟨(h.2.1 R hR k hk).1, Nat.lt_of_lt_of_le (h.2.1 R hR k hk).2 ht.size⟩, h.2.2⟩
abbrev bRow (q : Nat) (b : Bw) : Rsc := rRow q b.v b.xs
abbrev AnL (q f p : Nat) (vf : Value) (F : List Int) (vw : Value) (bs : List Int) (vb K : Value) (n1 : Nat) (ks : List Value) (Wt : Value) (n2 : Nat) (ws : List Value) (rows : List Bw) : List Rsc :=
  rFm f f 65536 vf F :: rWr q p vw bs :: rRow q vb bs :: rRows q K n1 ks :: rRows q Wt n2 ws :: rows.map (bRow q)
structure AnI (q f p n1 n2 c1 c2 : Nat) (A1 A2 : Option Addr) (vf vw vb : Value) (F bs : List Int) (gs ws ex : List Bw) (w wr : World) : Prop where
  sep : Sep q wr (AnL q f p vf F vw bs vb (.slice A1 n1 c1) n1 (gs.map Bw.v) (.slice A2 n2 c2) n2 (ws.map Bw.v) (gs ++ ws ++ ex))
  glen : gs.length = n1
  wlen : ws.length = n2
  ok : ∀ b ∈ gs ++ ws ++ ex, b.xs.length = b.n ∧ b.n ≤ 150000000000000
  below : Below q w wr
  lo : q ≤ wr.heap.size
section
variable {q f p n1 n2 c1 c2 : Nat} {A1 A2 : Option Addr} {vf vw vb : Value} {F F' bs : List Int} {gs ws ex ex' : List Bw} {w wr w1 w2 : World} {b b1 b2 : Bw} {S : Nat → Prop}
theorem AnI.kept (h : AnI q f p n1 n2 c1 c2 A1 A2 vf vw vb F bs gs ws ex w wr) (hb : Below wr.heap.size wr w1) : AnI q f p n1 n2 c1 c2 A1 A2 vf vw vb F bs gs ws ex w w1 :=
  ⟨h.sep.kept hb h.lo, h.glen, h.wlen, h.ok, h.below.trans (hb.mono h.lo), Nat.le_trans h.lo hb.size⟩
theorem AnI.permEx (h : AnI q f p n1 n2 c1 c2 A1 A2 vf vw vb F bs gs ws ex w wr) (hp : ex.Perm ex') : AnI q f p n1 n2 c1 c2 A1 A2 vf vw vb F bs gs ws ex' w wr :=
  ⟨h.sep.perm (((((((hp.append_left (gs ++ ws)).map (bRow q)).cons _).cons _).cons _).cons _).cons _), h.glen, h.wlen, fun b hb => h.ok b ((hp.append_left (gs ++ ws)).mem_iff.2 hb), h.below, h.lo⟩
theorem AnI.row (h : AnI q f p n1 n2 c1 c2 A1 A2 vf vw vb F bs gs ws ex w wr) (hb : b ∈ gs ++ ws ++ ex) : OwO wr q b.v b.xs :=
  h.sep.ok (R := bRow q b) (by simp only [List.mem_cons, List.mem_map]; exact .inr (.inr (.inr (.inr (.inr ⟨b, hb, rfl⟩)))))
theorem AnI.fm (h : AnI q f p n1 n2 c1 c2 A1 A2 vf vw vb F bs gs ws ex w wr) : Fm wr f f 65536 vf F := h.sep.at 0 (by simp)
theorem AnI.wr_ (h : AnI q f p n1 n2 c1 c2 A1 A2 vf vw vb F bs gs ws ex w wr) : Wr wr q p vw bs := h.sep.at 1 (by simp)
theorem AnI.vb_ (h : AnI q f p n1 n2 c1 c2 A1 A2 vf vw vb F bs gs ws ex w wr) : OwO wr q vb bs := h.sep.at 2 (by simp)
theorem AnI.all (h : AnI q f p n1 n2 c1 c2 A1 A2 vf vw vb F bs gs ws ex w wr) : wr.ownsRow q 24 1 (.slice A1 n1 c1) n1 (gs.map Bw.v) := h.sep.at 3 (by simp)
theorem AnI.want (h : AnI q f p n1 n2 c1 c2 A1 A2 vf vw vb F bs gs ws ex w wr) : wr.ownsRow q 24 1 (.slice A2 n2 c2) n2 (ws.map Bw.v) := h.sep.at 4 (by simp)
theorem AnL.front {x : Rsc} {a b c d e : Rsc} (rows : List Rsc) : (x :: a :: b :: c :: d :: e :: rows).Perm (a :: b :: c :: d :: e :: x :: rows) := by
  refine (List.Perm.swap _ _ _).trans (List.Perm.cons _ ?_)
  refine (List.Perm.swap _ _ _).trans (List.Perm.cons _ ?_)
  refine (List.Perm.swap _ _ _).trans (List.Perm.cons _ ?_)
  refine (List.Perm.swap _ _ _).trans (List.Perm.cons _ ?_)
  exact List.Perm.swap _ _ _
/-- A new row. -/
theorem AnI.add (h : AnI q f p n1 n2 c1 c2 A1 A2 vf vw vb F bs gs ws ex w wr) (b : Bw) (hb : Below wr.heap.size wr w1) (ho : OwO w1 wr.heap.size b.v b.xs) (hx : b.xs.length = b.n ∧ b.n ≤ 150000000000000) :
    AnI q f p n1 n2 c1 c2 A1 A2 vf vw vb F bs gs ws (b :: ex) w w1 := by
  have h1 := h.sep.add (R' := bRow q b) hb h.lo (ho.mono h.lo) (fun k hk => ho.lt k (own_list.1 hk))
  have h2 := h1.perm (AnL.front _)
  have hp : (b :: (gs ++ ws ++ ex)).Perm (gs ++ ws ++ b :: ex) := List.perm_middle.symm
  refine ⟨h2.perm (((((hp.map (bRow q)).cons _).cons _).cons _).cons _ |>.cons _), h.glen, h.wlen, fun x hx' => ?_, h.below.trans (hb.mono h.lo), Nat.le_trans h.lo hb.size⟩
  rcases List.mem_cons.1 (hp.mem_iff.2 hx') with rfl | e
  · exact hx
  · exact h.ok x e
/-- A row turns, and is let go. -/
theorem AnI.drop (h : AnI q f p n1 n2 c1 c2 A1 A2 vf vw vb F bs gs ws (b :: ex) w wr) (ht : Tur S wr w1) (hS : ∀ k, S k → b.v.ownBlock = some k) : AnI q f p n1 n2 c1 c2 A1 A2 vf vw vb F bs gs ws ex w w1 := by
  have hp : (b :: (gs ++ ws ++ ex)).Perm (gs ++ ws ++ b :: ex) := List.perm_middle.symm
  have h1 : Sep q wr (bRow q b :: AnL q f p vf F vw bs vb (.slice A1 n1 c1) n1 (gs.map Bw.v) (.slice A2 n2 c2) n2 (ws.map Bw.v) (gs ++ ws ++ ex)) :=
    (h.sep.perm (((((hp.symm.map (bRow q)).cons _).cons _).cons _).cons _ |>.cons _)).perm (AnL.front _).symm
  refine ⟨Sep.swap (M := [bRow q b]) (N := []) h1 ht (fun k _ hs => ⟨_, List.mem_singleton.2 rfl, own_list.2 (hS k hs)⟩) h.lo (fun R hR => by cases hR) (fun R hR => by cases hR) List.Pairwise.nil, h.glen, h.wlen, fun x hx => h.ok x ?_, h.below.trans ?_, Nat.le_trans h.lo ht.size⟩
  · exact hp.mem_iff.1 (List.mem_cons_of_mem _ hx)
  · exact h1.below ht (fun k _ hs => own_list.2 (hS k hs)) h.lo
theorem mid_all (gs ws ex l : List Bw) : (gs ++ ws ++ (l ++ ex)).Perm ((gs ++ l) ++ ws ++ ex) := by
  simp only [List.append_assoc]
  refine List.Perm.append_left gs ?_
  rw [← List.append_assoc, ← List.append_assoc]
  exact List.perm_append_comm.append_right ex
theorem mid_want (gs ws ex l : List Bw) : gs ++ ws ++ (l ++ ex) = gs ++ (ws ++ l) ++ ex := by simp only [List.append_assoc]
/-- append onto the one row of rows. -/
theorem AnI.toAll {l : List Bw} {m1 c3 : Nat} {A3 : Option Addr} (h : AnI q f p n1 n2 c1 c2 A1 A2 vf vw vb F bs gs ws (l ++ ex) w wr) (hb : Below wr.heap.size wr w1) (hm : n1 + l.length = m1) (hown : w2.ownsRow q 24 1 (.slice A3 m1 c3) m1 (gs.map Bw.v ++ l.map Bw.v)) (hg : w1.grownBy w2 (Value.slice A1 n1 c1).ownBlock)
    (hv : (Value.slice A3 m1 c3).ownBlock = (Value.slice A1 n1 c1).ownBlock ∨ (Value.slice A3 m1 c3).ownBlock = some w1.heap.size) : AnI q f p m1 n2 c3 c2 A3 A2 vf vw vb F bs (gs ++ l) ws ex w w2 := by
  have h0 := h.kept hb
  have h1 := h0.sep.rows 3 (by simp) rfl hown hg hv h0.lo
  have hp := mid_all gs ws ex l
  refine ⟨?_, by rw [List.length_append, h.glen]; exact hm, h.wlen, fun x hx => h.ok x (hp.mem_iff.2 hx), h0.below.trans h1.2, Nat.le_trans h0.lo h1.2.size⟩
  rw [List.map_append]
  exact h1.1.perm (((((hp.map (bRow q)).cons _).cons _).cons _).cons _ |>.cons _)
theorem AnI.toWant {l : List Bw} {m2 c3 : Nat} {A3 : Option Addr} (h : AnI q f p n1 n2 c1 c2 A1 A2 vf vw vb F bs gs ws (l ++ ex) w wr) (hb : Below wr.heap.size wr w1) (hm : n2 + l.length = m2) (hown : w2.ownsRow q 24 1 (.slice A3 m2 c3) m2 (ws.map Bw.v ++ l.map Bw.v)) (hg : w1.grownBy w2 (Value.slice A2 n2 c2).ownBlock)
    (hv : (Value.slice A3 m2 c3).ownBlock = (Value.slice A2 n2 c2).ownBlock ∨ (Value.slice A3 m2 c3).ownBlock = some w1.heap.size) : AnI q f p n1 m2 c1 c3 A1 A3 vf vw vb F bs gs (ws ++ l) ex w w2 := by
  have h0 := h.kept hb
  have h1 := h0.sep.rows 4 (by simp) rfl hown hg hv h0.lo
  have hp := mid_want gs ws ex l
  refine ⟨?_, h.glen, by rw [List.length_append, h.wlen]; exact hm, fun x hx => h.ok x (by rw [hp]; exact hx), h0.below.trans h1.2, Nat.le_trans h0.lo h1.2.size⟩
  rw [List.map_append]
  have h2 := h1.1
  rw [hp] at h2
  exact h2
theorem AnI.feed {v' : Value} (h : AnI q f p n1 n2 c1 c2 A1 A2 vf vw vb F bs gs ws ex w wr) (hf : Fm w1 f f 65536 v' F') (hw : WrFr wr f vf w1 v') : AnI q f p n1 n2 c1 c2 A1 A2 v' vw vb F' bs gs ws ex w w1 := by
  have h1 := h.sep.feed 0 (by simp) rfl hf hw h.lo
  exact ⟨h1.1, h.glen, h.wlen, h.ok, h.below.trans h1.2, Nat.le_trans h.lo h1.2.size⟩
theorem AnI.next {v' : Value} {A : Option Addr} {n c : Nat} {body : List Int} (h : AnI q f p n1 n2 c1 c2 A1 A2 vf vw vb F bs gs ws ex w wr) (hf : Fm w1 f f 65536 v' F') (ht : Tur (· = f) wr w1) (hfr : ∀ k, v'.ownBlock = some k → wr.heap.size ≤ k) (hdj : ∀ k, v'.ownBlock = some k → A ≠ some ⟨k, 0, none⟩) (hown : w1.ownsRow wr.heap.size 5 1 (.slice A n c) n (bvs body)) (hn : n ≤ 150000000000000) :
    AnI q f p n1 n2 c1 c2 A1 A2 v' vw vb F' bs gs ws (⟨A, n, c, body⟩ :: ex) w w1 := by
  have h1 := h.sep.next hf ht hfr hdj hown h.lo
  have hl : body.length = n := by have := hown.1; rw [bvs_len, Nat.mul_one] at this; exact this
  have hp : ((gs ++ ws ++ ex) ++ [(⟨A, n, c, body⟩ : Bw)]).Perm (gs ++ ws ++ (⟨A, n, c, body⟩ : Bw) :: ex) := by
    rw [List.append_assoc]
    exact List.Perm.append_left _ (List.perm_append_comm (l₁ := ex) (l₂ := [_]))
  refine ⟨?_, h.glen, h.wlen, fun x hx => ?_, h.below.trans h1.2, Nat.le_trans h.lo h1.2.size⟩
  · refine Sep.perm (L := AnL q f p v' F' vw bs vb (.slice A1 n1 c1) n1 (gs.map Bw.v) (.slice A2 n2 c2) n2 (ws.map Bw.v) ((gs ++ ws ++ ex) ++ [⟨A, n, c, body⟩])) ?_ (((((hp.map (bRow q)).cons _).cons _).cons _).cons _ |>.cons _)
    have h2 := h1.1
    unfold AnL
    rw [List.map_append]
    exact h2
  · rcases List.mem_append.1 (hp.mem_iff.2 hx) with e | e
    · exact h.ok x e
    · rw [List.mem_singleton] at e; subst e; exact ⟨hl, hn⟩
end
theorem cells_two {W : World} {t : TypeId} {x y : Value} : CellsAt (W.alloc (.cells #[x, y] t)) (some ⟨W.heap.size, 0, none⟩) [x, y] := fun k hk => by
  simp at hk
  match k, hk with
  | 0, _ => exact ⟨_, rfl, by simp, by simp [Addr.add]⟩
  | 1, _ => exact ⟨_, rfl, by simp, by simp [Addr.add]⟩
theorem wpList_append_rows {w : World} {ops : Array Oper} {rest : List Oper} {o : Oper} {a : Act} {Q : Exit → Act → World → Prop} (hgd : o.guard = none) (s x : Operand)
    (ho : o.op = .call { callee := .builtin .append, args := #[s, x], argTypes := #[58, 58] })
    (base : Nat) (v : Value) (n : Nat) (xs : List Value) (hs : a.eval s = v) (hown : w.ownsRow base 24 1 v n xs)
    (ad : Addr) (m : Nat) (l : List Bw) (hx : a.eval x = .slice (some ad) m m) (hm : l.length = m) (hnews : CellsAt w (some ad) (l.map Bw.v))
    (h63 : n + m ≤ 1000) (hbase : base ≤ w.heap.size)
    (h : ∀ A c w', w'.ownsRow base 24 1 (.slice A (n + m) c) (n + m) (xs ++ l.map Bw.v) → w.grownBy w' v.ownBlock → ((Value.slice A (n + m) c).ownBlock = v.ownBlock ∨ (Value.slice A (n + m) c).ownBlock = some w.heap.size) → wpList Tryd.prog ops Q rest (a.put o.dst (.slice A (n + m) c)) w') :
    wpList Tryd.prog ops Q (o :: rest) a w := by
  obtain ⟨i0, hi, hz0, hz1, hz2⟩ := info_parts info_row
  refine wpList_append_cells w hgd s x _ ho base _ i0 _ 24 Tryd.underlying58 hi hz0 hz1 hz2 rfl v n xs hs hown (some ad) m m (fun h => by cases h) (l.map Bw.v) hx (by rw [List.length_map]; exact hm) hnews (fun u hu => by
    obtain ⟨b, _, rfl⟩ := List.mem_map.1 hu
    rfl) (by unfold maxLen; omega) (by omega) hbase (fun v' w' h1 h2 h3 => ?_)
  obtain ⟨A, c, rfl, _, _, _⟩ := owned_form h1
  exact h A c w' h1 h2 h3
end Go.Proofs.YtdgokebablhoiaaDoor
