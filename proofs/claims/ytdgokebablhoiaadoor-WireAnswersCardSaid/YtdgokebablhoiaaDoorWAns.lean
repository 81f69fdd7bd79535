/- The law WireAnswers: the walk. -/
import Derived.Test.YtdgokebablhoiaaDoorWAns0
import Derived.Test.YtdgokebablhoiaaDoorWWrites
namespace Go.Proofs.YtdgokebablhoiaaDoor
open Go.RowKit

theorem AnI.start {q f p : Nat} {v vb : Value} {bs : List Int} {w w1 w2 : World} (ht : Two w1 q p v vb bs bs) (hb1 : Below q w w1) (hf : f = w1.heap.size) (hfm : Fm w2 f f 65536 (.slice none 0 0) []) (hb2 : Below f w1 w2) :
    AnI q f p 0 0 0 0 none none (.slice none 0 0) v vb [] bs [] [] [] w w2 := by
  have hlo1 : q ≤ w1.heap.size := ht.le
  have s0 : Sep q w1 [rWr q p v bs, rRow q vb bs] := by
    refine ⟨fun R hR => ?_, fun R hR k hk => ?_, List.Pairwise.cons (fun R hR k hk hk2 => ?_) (List.pairwise_singleton _ _)⟩
    · rcases List.mem_cons.1 hR with rfl | hR
      · exact ht.wr
      · rw [List.mem_singleton] at hR; subst hR; exact OwO.of ht.ow
    · rcases List.mem_cons.1 hR with rfl | hR
      · rcases List.mem_cons.1 hk with rfl | hk
        · exact ⟨ht.wr.base, ht.wr.blk.lt⟩
        · exact ht.wr.own.lt k (own_list.1 hk)
      · rw [List.mem_singleton] at hR; subst hR; exact ht.ow.lt k (own_list.1 hk)
    · rw [List.mem_singleton] at hR
      subst hR
      have hk2 := own_list.1 hk2
      rcases List.mem_cons.1 hk with rfl | hk
      · exact ht.np hk2
      · exact ht.ne k (own_list.1 hk) hk2
  have s1 := (s0.free (R := rRows q (.slice none 0 0) 0 []) (World.ownsRow_nil _ _ _ _) rfl).free (R := rRows q (.slice none 0 0) 0 []) (World.ownsRow_nil _ _ _ _) rfl
  have s2 : Sep q w1 [rWr q p v bs, rRow q vb bs, rRows q (.slice none 0 0) 0 [], rRows q (.slice none 0 0) 0 []] :=
    s1.perm (List.perm_append_comm (l₁ := [_, _]) (l₂ := [_, _]))
  have s3 := s2.add (R' := rFm f f 65536 (.slice none 0 0) []) (hf ▸ hb2) hlo1 hfm (fun k hk => by
    obtain rfl : k = f := by simpa [rFm, Value.ownBlock] using hk
    exact ⟨Nat.le_of_eq hf.symm, hfm.blk.lt⟩)
  have hb2' : Below w1.heap.size w1 w2 := hf ▸ hb2
  exact ⟨s3, rfl, rfl, (fun b hb => by cases hb), hb1.trans (hb2'.mono hlo1), Nat.le_trans hlo1 hb2'.size⟩
/-- What is left in the Frames at the k-th Next. -/
def fk (bx : List Int) (k : Nat) : List Int := if k = 0 then frE bx ++ frE bx else if k = 1 then frE bx else []
theorem fk_next (bx : List Int) (k : Nat) (hk : k < 2) (h1 : 1 ≤ bx.length) (h2 : bx.length ≤ 65536) : nextP 65536 (fk bx k) = .yes bx (fk bx (k + 1)) := by
  obtain rfl | rfl : k = 0 ∨ k = 1 := by omega
  · exact nextP_yes 65536 bx (frE bx) h1 h2 (by omega)
  · have h := nextP_yes 65536 bx [] h1 h2 (by omega)
    rw [List.append_nil] at h
    exact h
theorem fk_wf (bx : List Int) (hx : ∀ x ∈ bx, (Lit.int .u8 x).wf = true) (h2 : bx.length ≤ 65536) (k : Nat) : ∀ x ∈ fk bx k, (Lit.int .u8 x).wf = true := by
  have h : ∀ x ∈ frE bx, (Lit.int .u8 x).wf = true := fun x hx' => by
    rcases List.mem_append.1 hx' with e | e
    · exact len4_wf _ h2 x e
    · exact hx x e
  intro x hx'
  unfold fk at hx'
  split at hx'
  · exact (List.mem_append.1 hx').elim (h x) (h x)
  · split at hx'
    · exact h x hx'
    · cases hx'
theorem fk_len (bx : List Int) (h2 : bx.length ≤ 65536) (k : Nat) : (fk bx k).length ≤ 131080 := by
  have h := frE_len bx
  unfold fk
  split
  · rw [List.length_append]; omega
  · split
    · omega
    · simp
theorem OwO.ofBlk {W : World} {lo g n : Nat} {cur : Array Value} {xs : List Int} (hg : Blk W g 5 cur) (hc : cur.toList = bvs (xs ++ List.replicate 67 169)) (hl : xs.length = n) (hlo : lo ≤ g) : OwO W lo (.slice (some ⟨g, 0, none⟩) n (n + 67)) xs := by
  have hsz : cur.size = n + 67 := by rw [← Array.length_toList, hc, bvs_len, List.length_append, List.length_replicate, hl]
  refine .inr ⟨g, 0, n + 67, by rw [hl], hlo, hg.lt, by omega, fun j hj => ?_, fun j hj => ?_⟩
  · obtain ⟨ad, e, _, h⟩ := cells_of_blk hg hc j (by rw [bvs_len]; exact hj)
    cases e
    rw [add_zero_] at h
    rw [Nat.zero_add, h]
    simp [bvs]
  · rw [Nat.zero_add, hg.cell j, Array.getElem?_eq_getElem (by omega)]
    exact ⟨rfl, hg.frozen j⟩
section
variable {q f p n1 n2 c1 c2 : Nat} {A1 A2 : Option Addr} {vf vw vb : Value} {F bs bx : List Int} {gs ws ex : List Bw} {w wr : World} {b : Bw}
theorem AnI.copied (h : AnI q f p n1 n2 c1 c2 A1 A2 vf vw vb F bs gs ws ex w wr) (hb : b ∈ gs ++ ws ++ ex) :
    Calls Tryd.prog 42 #[b.v] wr fun e w' => ∃ A' c', e = .returned (.slice A' b.n c') ∧ AnI q f p n1 n2 c1 c2 A1 A2 vf vw vb F bs gs ws (⟨A', b.n, c', b.xs⟩ :: ex) w w' := by
  have hx := h.ok b hb
  obtain ⟨A', c', e, h1, h2, _⟩ := (h.row hb).cellsAt
  have e' := e
  injection e' with e1 e2 e3
  rw [e, hx.1]
  refine (copied_any _ _ _ b.xs wr hx.1 h1 h2 (by omega)).mono ?_
  rintro e w' ⟨A2, c2, rfl, ho, hb'⟩
  exact ⟨A2, c2, rfl, h.add _ hb' (OwO.ofOwn ho) hx⟩
theorem AnI.feedC (h : AnI q f p n1 n2 c1 c2 A1 A2 vf vw vb F bs gs ws ex w wr) (hb : b ∈ gs ++ ws ++ ex) (hF : F.length ≤ 1000000000) :
    Calls Tryd.prog 37 #[.pointer (some ⟨f, 0, none⟩), b.v] wr fun e w' => e = .returned (.tuple #[]) ∧ ∃ v', AnI q f p n1 n2 c1 c2 A1 A2 v' vw vb (F ++ b.xs) bs gs ws ex w w' := by
  have hx := h.ok b hb
  obtain ⟨A', c', e, h1, h2, _⟩ := (h.row hb).cellsAt
  rw [e]
  refine (f_feed_wide A' b.xs.length c' b.xs f f 65536 vf F wr h.fm rfl h1 h2 (by omega)).mono ?_
  rintro e w' ⟨rfl, v', hf, hw⟩
  exact ⟨rfl, v', h.feed hf hw⟩
theorem AnI.nextC {k : Nat} (h : AnI q f p n1 n2 c1 c2 A1 A2 vf vw vb (fk bx k) bs gs ws ex w wr) (hk : k < 2) (h1 : 1 ≤ bx.length) (h2 : bx.length ≤ 65536) (hw : ∀ x ∈ bx, (Lit.int .u8 x).wf = true) {n : Nat} (hn : bx.length = n) :
    Calls Tryd.prog 40 #[.pointer (some ⟨f, 0, none⟩)] wr fun e w' => ∃ A' c' v', e = .returned (.tuple #[.slice A' n c', .bool true, .int .i64 0]) ∧ AnI q f p n1 n2 c1 c2 A1 A2 v' vw vb (fk bx (k + 1)) bs gs ws (⟨A', n, c', bx⟩ :: ex) w w' := by
  subst hn
  obtain ⟨A5, c5, hv5, _, _, _⟩ := owned_form h.fm.own
  have hfm := h.fm
  have h9 := h
  subst hv5
  have C := f_next2 f f 65536 A5 _ c5 (fk bx k) wr hfm rfl (fk_wf bx hw h2 k) (by have := fk_len bx h2 k; omega)
  rw [fk_next bx k hk h1 h2] at C
  refine C.mono ?_
  rintro e w' ⟨A6, c6, rfl, _, v6, hf6, ht6, hfr6, hdj6, hown6⟩
  exact ⟨A6, c6, v6, rfl, h9.next hf6 ht6 hfr6 hdj6 hown6 (by omega)⟩
theorem frame_yes3 (A : Option Addr) (n c : Nat) (xs : List Int) (W : World) (hl : xs.length = n) (h : CellsAt W A (bvs xs)) (hA : A = none → c = 0) (h1 : 1 ≤ n) (h2 : n ≤ 65536) :
    Calls Tryd.prog 21 #[.slice A n c] W fun e w' => ∃ A' c', e = .returned (.tuple #[.slice A' (4 + n) c', .int .i64 0]) ∧ OwO w' W.heap.size (.slice A' (4 + n) c') (frE xs) ∧ Below W.heap.size W w' := by
  subst hl
  refine (frame_yes2 A _ c xs W rfl h hA h1 h2).mono ?_
  rintro e w' ⟨A', c', rfl, ho, hb⟩
  exact ⟨A', c', rfl, OwO.ofOwn ho, hb⟩
end
structure AnE (q f p : Nat) (vf v vb : Value) (bs : List Int) (w wr : World) : Prop where
  sep : Sep q wr [rFm f f 65536 vf [], rWr q p v bs, rRow q vb bs]
  below : Below q w wr
  lo : q ≤ wr.heap.size
section
variable {q f p n1 n2 c1 c2 : Nat} {A1 A2 : Option Addr} {vf v vw vb : Value} {F bs bx : List Int} {gs ws ex : List Bw} {w wr w1 : World} {b : Bw}
theorem AnI.drew (h : AnI q f p n1 n2 c1 c2 A1 A2 vf vw vb F bs gs ws ex w wr) : AnI q f p n1 n2 c1 c2 A1 A2 vf vw vb F bs gs ws ex w wr.drew := h.kept (Below.refl _ _).drew
theorem AnE.kept (h : AnE q f p vf v vb bs w wr) (hb : Below wr.heap.size wr w1) : AnE q f p vf v vb bs w w1 := ⟨h.sep.kept hb h.lo, h.below.trans (hb.mono h.lo), Nat.le_trans h.lo hb.size⟩
theorem AnE.fm (h : AnE q f p vf v vb bs w wr) : Fm wr f f 65536 vf [] := h.sep.at 0 (by simp)
theorem AnE.wr_ (h : AnE q f p vf v vb bs w wr) : Wr wr q p v bs := h.sep.at 1 (by simp)
theorem AnE.vb_ (h : AnE q f p vf v vb bs w wr) : OwO wr q vb bs := h.sep.at 2 (by simp)
theorem vb_cells {A : Option Addr} {m c : Nat} (h : OwO wr q (.slice A m c) bs) : CellsAt wr A (bvs bs) := by
  obtain ⟨A', c', e, h1, _, _⟩ := h.cellsAt
  injection e with e1 e2 e3
  subst e1
  exact h1
theorem AnI.apartC (h : AnI q f p n1 n1 c1 c2 A1 A2 vf v vb [] bs gs ws [] w wr) (hsm : gs.map Bw.xs = ws.map Bw.xs) (hn : n1 ≤ 1000) :
    Calls Tryd.prog 43 #[.slice A1 n1 c1, .slice A2 n1 c2] wr fun e w' => e = .returned (.bool true) ∧ AnE q f p vf v vb bs w w' := by
  have hs := h.sep
  rw [List.append_nil] at hs
  unfold AnL at hs
  rw [List.map_append] at hs
  have h1 : Sep q wr (rRows q (.slice A1 n1 c1) n1 (gs.map Bw.v) :: rRows q (.slice A2 n1 c2) n1 (ws.map Bw.v) :: ((gs.map fun b => rRow q b.v b.xs) ++ ws.map fun b => rRow q b.v b.xs)) :=
    hs.sub ((((List.Sublist.refl _).cons _).cons _).cons _)
  refine (apart_any q n1 c1 c2 A1 A2 gs ws wr h1 h.glen h.wlen hsm (fun b hb => h.ok b (by simp [hb])) (fun b hb => (h.ok b (by simp [hb])).1) h.lo hn).mono ?_
  rintro e w' ⟨rfl, ht⟩
  have h3 : Sep q wr [rFm f f 65536 vf [], rWr q p v bs, rRow q vb bs] := hs.sub (((((List.nil_sublist _).cons_cons _).cons_cons _).cons_cons _))
  have hlow : ∀ k, SG gs k → q ≤ k := fun k ⟨b, hb, hk⟩ => ((h.row (b := b) (by simp [hb])).lt k hk).1
  refine ⟨rfl, h3.off ht (fun R hR k hk ⟨b, hb, hk2⟩ => ?_), h.below.trans (ht.below h.lo hlow), Nat.le_trans h.lo ht.size⟩
  have hp := hs.2.2
  have hm : ∀ b ∈ gs, bRow q b ∈ rRows q (.slice A1 n1 c1) n1 (gs.map Bw.v) :: rRows q (.slice A2 n1 c2) n1 (ws.map Bw.v) :: (gs.map (bRow q) ++ ws.map (bRow q)) := fun b hb => by
    simp only [List.mem_cons, List.mem_append, List.mem_map]
    exact .inr (.inr (.inl ⟨b, hb, rfl⟩))
  obtain ⟨p1, hp⟩ := List.pairwise_cons.1 hp
  obtain ⟨p2, hp⟩ := List.pairwise_cons.1 hp
  obtain ⟨p3, _⟩ := List.pairwise_cons.1 hp
  simp only [List.mem_cons, List.not_mem_nil, or_false] at hR
  rcases hR with rfl | rfl | rfl
  · exact p1 _ (List.mem_cons_of_mem _ (List.mem_cons_of_mem _ (hm b hb))) k hk (own_list.2 hk2)
  · exact p2 _ (List.mem_cons_of_mem _ (hm b hb)) k hk (own_list.2 hk2)
  · exact p3 _ (hm b hb) k hk (own_list.2 hk2)
theorem AnE.feedC {A : Option Addr} {n c : Nat} {xs : List Int} (h : AnE q f p vf v vb bs w wr) (hl : xs.length = n) (hx : CellsAt wr A (bvs xs)) (hA : A = none → c = 0) (hn : n ≤ 211106232532992) :
    Calls Tryd.prog 37 #[.pointer (some ⟨f, 0, none⟩), .slice A n c] wr fun e w' => e = .returned (.tuple #[]) ∧ ∃ v', Sep q w' [rFm f f 65536 v' xs, rWr q p v bs, rRow q vb bs] ∧ Below q w w' ∧ q ≤ w'.heap.size := by
  refine (f_feed_wide A n c xs f f 65536 vf [] wr h.fm hl hx hA (by simpa using hn)).mono ?_
  rintro e w' ⟨rfl, v', hf, hw⟩
  have h1 := h.sep.feed 0 (by simp) rfl hf hw h.lo
  exact ⟨rfl, v', h1.1, h.below.trans h1.2, Nat.le_trans h.lo h1.2.size⟩
end
theorem own_tail4 {W : World} {base n c : Nat} {A : Option Addr} {xs : List Int} (h : W.ownsRow base 5 1 (.slice A (4 + n) c) (4 + n) (bvs (len4 n ++ xs))) (hl : xs.length = n) : ∃ g, A = some ⟨g, 0, none⟩ ∧ 4 + n ≤ c ∧ CellsAt W (some ⟨g, 0, none⟩) (bvs (len4 n ++ xs)) ∧ CellsAt W (some ⟨g, 4, none⟩) (bvs xs) := by
  obtain ⟨A', c', e, hr, hc⟩ := row_of_own h
  injection e with e1 _ e3
  subst e1; subst e3
  have hcells := hr.cells
  rcases hr with ⟨_, h0, _⟩ | ⟨g, cur, rfl, _⟩
  · omega
  · refine ⟨g, rfl, hc, hcells, fun k hk => ?_⟩
    obtain ⟨ad, e, h1, h2⟩ := hcells (4 + k) (by rw [bvs_append, List.length_append]; have : (bvs (len4 n)).length = 4 := rfl; omega)
    cases e
    rw [add_zero_] at h2
    refine ⟨_, rfl, h1, ?_⟩
    have e4 : (⟨g, 4, none⟩ : Addr).add k = ⟨g, 4 + k, none⟩ := by cases k <;> rfl
    rw [e4, h2]
    have e5 : ∀ (l : List Value) (h : 4 + k < (bvs (len4 n) ++ l).length) (h' : k < l.length), (bvs (len4 n) ++ l)[4 + k] = l[k] := fun l h h' => by
      rw [List.getElem_append_right (by show 4 ≤ 4 + k; omega)]
      congr 1
      show 4 + k - 4 = k
      omega
    have e6 := bvs_append (len4 n) xs
    simp only [e6]
    rw [e5 _ _ hk]
section
variable {q f p : Nat} {v' v vb : Value} {bs bx xs : List Int} {w wr : World}
theorem next_end (h : Sep q wr [rFm f f 65536 v' (len4 bx.length ++ bx), rWr q p v bs, rRow q vb bs]) (hb : Below q w wr) (hlo : q ≤ wr.heap.size) (h1 : 1 ≤ bx.length) (h2 : bx.length ≤ 65536) (hw : ∀ x ∈ bx, (Lit.int .u8 x).wf = true) {n : Nat} (hn : bx.length = n) :
    Calls Tryd.prog 40 #[.pointer (some ⟨f, 0, none⟩)] wr fun e w' => ∃ A' c' v'', e = .returned (.tuple #[.slice A' n c', .bool true, .int .i64 0]) ∧ RowAt w' A' n wr.heap.size bx ∧ AnE q f p v'' v vb bs w w' := by
  subst hn
  have hfm : Fm wr f f 65536 v' (frE bx) := h.at 0 (by simp)
  obtain ⟨A5, c5, hv5, _, _, _⟩ := owned_form hfm.own
  subst hv5
  have C := f_next2 f f 65536 A5 _ c5 (frE bx) wr hfm rfl (fk_wf bx hw h2 1) (by have := frE_len bx; omega)
  have hnx := nextP_yes 65536 bx [] h1 h2 (by omega)
  rw [List.append_nil] at hnx
  rw [hnx] at C
  refine C.mono ?_
  rintro e w' ⟨A6, c6, rfl, hr, v6, hf6, ht6, hfr6, hdj6, hown6⟩
  have h3 := h.next hf6 ht6 hfr6 hdj6 hown6 hlo
  refine ⟨A6, c6, v6, rfl, hr, h3.1.sub (((List.sublist_append_left _ _)).cons_cons _), hb.trans h3.2, Nat.le_trans hlo h3.2.size⟩
end
set_option maxHeartbeats 8000000 in
set_option maxRecDepth 100000 in
theorem law_answers (A B : Option Addr) (n c nb cb : Nat) (cs : List Cl) (bs0 : List Bw) (w : World) (hl : cs.length = n) (hc : CallsAt w A cs) (hok : ∀ x ∈ cs, x.Ok) (hs : ∀ x ∈ cs, x.s.size ≤ 140737488351232) (hn : n ≤ 9223372036854775807)
    (hbl : bs0.length = nb) (hbr : RowsAt w B bs0) (hbo : ∀ b ∈ bs0, b.Ok w) (hbs : ∀ b ∈ bs0, b.n ≤ 140737488351232) :
    Calls Tryd.prog 12 #[.slice A n c, .slice B nb cb] w fun e w' => e = .returned (.bool true) ∧ Below w.heap.size w w' := by
  obtain ⟨q, hq⟩ : ∃ q, q = w.heap.size := ⟨_, rfl⟩
  rw [← hq]
  have CT := Lib.hid (told_any A n c cs w hl hc hok hs hn)
  have HBL := Lib.hid hbl
  have HBR := Lib.hid hbr
  have HBO := Lib.hid hbo
  have HBS := Lib.hid hbs
  have HQ := Lib.hid hq
  rw [← HQ.out] at CT
  clear hl hc hok hs hn hbl hbr hbo hbs hq
  go_enter Tryd.func12, Tryd.ntmps12
  go_wp2_with fail
  go_at_call 15; (with_reducible refine CT.out.mono ?_); rintro e w1 ⟨p, v, vb, bs, rfl, ht, hlen, hb1⟩
  obtain ⟨f, hf⟩ : ∃ f, f = w1.heap.size := ⟨_, rfl⟩
  have CF := Lib.hid (show Calls Tryd.prog 35 #[.int .i64 65536] w1 fun e w' => e = .returned (.tuple #[.pointer (some ⟨f, 0, none⟩), .int .i64 0]) ∧ Fm w' f f 65536 (.slice none 0 0) [] ∧ Below f w1 w' by
    rw [hf]
    exact f_new_yes 65536 w1 (by omega) (by omega))
  obtain ⟨Ab, cvb, hvb, hcb, hnb⟩ := ht.ow.form
  subst hvb
  obtain ⟨m, hm⟩ : ∃ m, m = bs.length := ⟨_, rfl⟩
  have HM := Lib.hid hm
  have hm9 : (m : Int) ≤ 140737489399818 := by omega
  have HF := Lib.hid hf
  rw [← hm] at ht ⊢
  have HT := Lib.hid ht
  have B1 := Lib.hid hb1
  have HNB := Lib.hid hnb
  clear ht hlen hb1 hf hm hcb hnb
  go_wp2_with fail
  go_at_call 35; (with_reducible refine CF.out.mono ?_); rintro e w2 ⟨rfl, hfm, hb2⟩
  have H2 := Lib.hid (AnI.start HT.out B1.out HF.out hfm hb2)
  clear hfm hb2
  go_wp2_with fail
  go_loopw [9, 10, 11] (fun t9 t10 t11 wr => ∃ (i c1 c2 : Nat) (A1 A2 : Option Addr), t11 = .int .i64 (i : Int) ∧ i ≤ 3 ∧ t9 = .slice A1 i c1 ∧ t10 = .slice A2 i c2 ∧ Hid (∃ gs ws, gs.map Bw.xs = ws.map Bw.xs ∧ AnI q f p i i c1 c2 A1 A2 (.slice none 0 0) v (.slice Ab m cvb) [] bs gs ws [] w wr)) (fun _ _ t11 _ => 3 - (intOf t11).toNat)
  case atStart => exact ⟨0, 0, 0, none, none, rfl, by omega, rfl, rfl, Lib.hid ⟨[], [], rfl, H2.out⟩⟩
  case round =>
    obtain ⟨i, c1, c2, A1, A2, rfl, hi, rfl, rfl, HP0⟩ := hrel
    obtain ⟨gs, ws, hsm, hP⟩ := HP0.out
    have HP := Lib.hid hP
    have HSM := Lib.hid hsm
    rename World => wr
    by_cases hi3 : i < 3
    · have CB := Lib.hid (w_bytes_wide q p v bs wr hP.wr_ (by have := HM.out; omega))
      rw [← HM.out] at CB
      clear hP HP0 hsm
      go_wp2_with fail
      go_at_call 16; (with_reducible refine CB.out.mono ?_); rintro e w3 ⟨A3, rfl, hr, hb⟩
      have H3 := Lib.hid (HP.out.add ⟨A3, m, m, bs⟩ hb hr.owo ⟨HM.out.symm, by show m ≤ 150000000000000; omega⟩)
      clear hr hb CB
      go_wp2_with (first
        | (at_builtin; refine wpList_append_rows rfl _ _ rfl q _ i (gs.map Bw.v) rfl (H3.out.all.alloc _) ⟨w3.heap.size, 0, none⟩ 1 [⟨A3, m, m, bs⟩] rfl rfl (cells_one w3 _ _) (by omega) (Nat.le_trans H3.out.lo (by simp)) ?_
           intro A4 c4 w4 hown hg hv
           have H4 := Lib.hid (H3.out.toAll (l := [⟨A3, m, m, bs⟩]) ((Below.refl w3.heap.size w3).alloc (Nat.le_refl _) _) rfl hown hg hv)
           clear hown hg hv)
        | fail)
      have CC := Lib.hid (show Calls Tryd.prog 42 #[.slice Ab m cvb] w4 fun e w' => ∃ A' c', e = .returned (.slice A' m c') ∧ w'.ownsRow w4.heap.size 5 1 (.slice A' m c') m (bvs bs) ∧ Below w4.heap.size w4 w' from by
        obtain ⟨A', c', e, h1, h2, _⟩ := H4.out.vb_.cellsAt
        injection e with e1 e2 e3
        subst e1; subst e3
        exact copied_any _ _ _ bs w4 HM.out.symm h1 h2 (by omega))
      go_at_call 42; (with_reducible refine CC.out.mono ?_); rintro e w5 ⟨A5, c5, rfl, hr, hb⟩
      have H5 := Lib.hid (H4.out.add ⟨A5, m, c5, bs⟩ hb (OwO.ofOwn hr) ⟨HM.out.symm, by show m ≤ 150000000000000; omega⟩)
      clear hr hb CC
      go_wp2_with (first
        | (at_builtin; refine wpList_append_rows rfl _ _ rfl q _ i (ws.map Bw.v) rfl (H5.out.want.alloc _) ⟨w5.heap.size, 0, none⟩ 1 [⟨A5, m, c5, bs⟩] rfl rfl (cells_one w5 _ _) (by omega) (Nat.le_trans H5.out.lo (by simp)) ?_
           intro A6 c6 w6 hown hg hv
           have H6 := Lib.hid (H5.out.toWant (l := [⟨A5, m, c5, bs⟩]) ((Below.refl w5.heap.size w5).alloc (Nat.le_refl _) _) rfl hown hg hv)
           clear hown hg hv)
        | fail)
      go_roundw
      case rel => exact ⟨i + 1, c4, c6, A4, A6, by go_num, by omega, rfl, rfl, Lib.hid ⟨_, _, by rw [List.map_append, List.map_append, HSM.out]; rfl, H6.out⟩⟩
      case measure => simp [intOf]; omega
    · obtain rfl : i = 3 := by omega
      clear hP HP0 hsm hi3
      go_wp2
      go_loopw [9, 10, 12] (fun t9 t10 t12 wr => ∃ (i n c1 c2 : Nat) (A1 A2 : Option Addr), t12 = .int .i64 (i : Int) ∧ i ≤ nb ∧ i ≤ 15 ∧ n ≤ 3 + 4 * i ∧ t9 = .slice A1 n c1 ∧ t10 = .slice A2 n c2 ∧ Hid (∃ vf gs ws, gs.map Bw.xs = ws.map Bw.xs ∧ AnI q f p n n c1 c2 A1 A2 vf v (.slice Ab m cvb) [] bs gs ws [] w wr)) (fun _ _ t12 _ => 15 - (intOf t12).toNat)
      case atStart => exact ⟨0, 3, c1, c2, A1, A2, rfl, by omega, by omega, by omega, rfl, rfl, Lib.hid ⟨_, gs, ws, HSM.out, HP.out⟩⟩
      case round =>
        clear HP HSM
        obtain ⟨i, n0, c1, c2, A1, A2, rfl, hi, hi15, hn0, rfl, rfl, HP0⟩ := hrel
        obtain ⟨vf, gs, ws, hsm, hP⟩ := HP0.out
        have HP := Lib.hid hP
        have HSM := Lib.hid hsm
        rename World => wx
        clear HP0 hP hsm
        by_cases hgo : i < nb ∧ i < 15
        · obtain ⟨hib, hi30⟩ := hgo
          have hkl : i < bs0.length := by rw [HBL.out]; exact hib
          obtain ⟨ad, rfl, c0⟩ := HBR.out.at (HQ.out ▸ HP.out.below) i hkl
          have HB := Lib.hid (HBO.out bs0[i] (List.getElem_mem _))
          have hbig := HBS.out bs0[i] (List.getElem_mem _)
          have HRI := Lib.hid (fun (W' : World) (hb : Below w.heap.size w W') => HBR.out.at hb i hkl)
          generalize bs0[i] = b at *
          obtain ⟨bA, bn, bc, bx⟩ := b
          replace hbig : bn ≤ 140737488351232 := hbig
          have c0 : wx.cell? (ad.add i) = some (.slice bA bn bc) := c0
          have HRI := Lib.hid (show ∀ (W' : World), Below q w W' → W'.cell? (ad.add i) = some (.slice bA bn bc) from fun W' hb => by
            obtain ⟨ad', e, h⟩ := HRI.out W' (HQ.out ▸ hb)
            cases e; exact h)
          have HCB := Lib.hid (show ∀ (W' : World), Below q w W' → CellsAt W' bA (bvs bx) from fun W' hb => HB.out.cells.below (HQ.out ▸ hb))
          have CL := Lib.hid (lend_any bA bn bc bx wx HB.out.len (HCB.out _ HP.out.below) (by omega))
          go_wp2_with fail
          go_at_call 20; (with_reducible refine CL.out.mono ?_); rintro e w3 ⟨g, cur, rfl, hgl, hg, hcur, hb⟩
          have H3 := Lib.hid (HP.out.add ⟨some ⟨g, 0, none⟩, bn, bn + 67, bx⟩ hb (OwO.ofBlk hg hcur HB.out.len hgl) ⟨HB.out.len, by show bn ≤ 150000000000000; omega⟩)
          have HGB := Lib.hid hg
          have HCU := Lib.hid hcur
          have c3 := HRI.out w3 H3.out.below
          clear hb hg hcur hgl CL c0
          by_cases hbody : 1 ≤ bn ∧ bn ≤ 65536
          · obtain ⟨hb1, hb2⟩ := hbody
            have CX := Lib.hid (fun (W' : World) (hB : Blk W' g 5 cur) => frame_yes3 (some ⟨g, 0, none⟩) bn (bn + 67) bx W' HB.out.len (cells_of_blk hB HCU.out) (fun h => by cases h) hb1 hb2)
            have hfl : (frE bx).length = 4 + bn ∧ 4 + bn ≤ 150000000000000 := ⟨by rw [frE_len, HB.out.len], by omega⟩
            have HFL := Lib.hid hfl
            clear hfl
            go_wp2_with fail
            go_at_call 21; (with_reducible refine (CX.out w3 HGB.out).mono ?_); rintro e w4 ⟨A4, c4, rfl, ho4, hb4⟩
            have H4 := Lib.hid (H3.out.add ⟨A4, 4 + bn, c4, frE bx⟩ hb4 ho4 HFL.out)
            have HG4 := Lib.hid (HGB.out.kept hb4)
            clear ho4 hb4
            go_wp2_with fail
            go_at_call 21; (with_reducible refine (CX.out w4 HG4.out).mono ?_); rintro e w5 ⟨A5, c5, rfl, ho5, hb5⟩
            have H5 := Lib.hid (H4.out.add ⟨A5, 4 + bn, c5, frE bx⟩ hb5 ho5 HFL.out)
            have HG5 := Lib.hid (HG4.out.kept hb5)
            have c5' := HRI.out w5 H5.out.below
            clear ho5 hb5 c3 CX
            have CK := Lib.hid (back_any g cur bA bn bc bx w5 HB.out.len (HCB.out _ H5.out.below) HG5.out HCU.out (by omega))
            go_wp2_with fail
            go_at_call 23; (with_reducible refine CK.out.mono ?_); rintro e w6 ⟨rfl, ht6⟩
            have H6 := Lib.hid ((H5.out.permEx (show List.Perm [(⟨A5, 4 + bn, c5, frE bx⟩ : Bw), ⟨A4, 4 + bn, c4, frE bx⟩, ⟨some ⟨g, 0, none⟩, bn, bn + 67, bx⟩] [(⟨some ⟨g, 0, none⟩, bn, bn + 67, bx⟩ : Bw), ⟨A4, 4 + bn, c4, frE bx⟩, ⟨A5, 4 + bn, c5, frE bx⟩] from (List.reverse_perm _).symm)).drop ht6 (fun k e => by subst e; rfl))
            clear ht6 c5' CK
            go_wp2_with (first
              | (at_builtin; refine wpList_append_rows rfl _ _ rfl q _ n0 (gs.map Bw.v) rfl (H6.out.all.alloc _) ⟨w6.heap.size, 0, none⟩ 2 [⟨A4, 4 + bn, c4, frE bx⟩, ⟨A5, 4 + bn, c5, frE bx⟩] rfl rfl cells_two (by omega) (Nat.le_trans H6.out.lo (by simp)) ?_
                 intro A7 c7 w7 hown hg hv
                 have H7 := Lib.hid (H6.out.toAll (l := [⟨A4, 4 + bn, c4, frE bx⟩, ⟨A5, 4 + bn, c5, frE bx⟩]) (ex := []) ((Below.refl w6.heap.size w6).alloc (Nat.le_refl _) _) rfl hown hg hv)
                 clear hown hg hv)
              | fail)
            go_at_call 42; (with_reducible refine (H7.out.copied (b := ⟨A4, 4 + bn, c4, frE bx⟩) (by simp)).mono ?_); rintro e w8 ⟨A8, c8, rfl, h8⟩
            have H8 := Lib.hid h8
            clear h8
            go_wp2_with fail
            go_at_call 42; (with_reducible refine (H8.out.copied (b := ⟨A5, 4 + bn, c5, frE bx⟩) (by simp)).mono ?_); rintro e w9 ⟨A9, c9, rfl, h9⟩
            have H9 := Lib.hid (h9.permEx (List.Perm.swap _ _ _))
            clear h9
            go_wp2_with (first
              | (at_builtin; refine wpList_append_rows rfl _ _ rfl q _ n0 (ws.map Bw.v) rfl (H9.out.want.alloc _) ⟨w9.heap.size, 0, none⟩ 2 [⟨A8, 4 + bn, c8, frE bx⟩, ⟨A9, 4 + bn, c9, frE bx⟩] rfl rfl cells_two (by omega) (Nat.le_trans H9.out.lo (by simp)) ?_
                 intro AA cA wA hown hg hv
                 have HA := Lib.hid (H9.out.toWant (l := [⟨A8, 4 + bn, c8, frE bx⟩, ⟨A9, 4 + bn, c9, frE bx⟩]) (ex := []) ((Below.refl w9.heap.size w9).alloc (Nat.le_refl _) _) rfl hown hg hv)
                 clear hown hg hv)
              | fail)
            go_at_call 37; (with_reducible refine (HA.out.feedC (b := ⟨A4, 4 + bn, c4, frE bx⟩) (by simp) (by simp)).mono ?_); rintro e wB ⟨rfl, vB, hB⟩
            have HB1 := Lib.hid hB
            clear hB
            go_wp2_with fail
            go_at_call 37; (with_reducible refine (HB1.out.feedC (b := ⟨A5, 4 + bn, c5, frE bx⟩) (by simp) (by show ([] ++ frE bx).length ≤ _; have := HFL.out; rw [List.nil_append]; omega)).mono ?_); rintro e wC ⟨rfl, vC, hC⟩
            have HC := Lib.hid (show AnI q f p (n0 + 2) (n0 + 2) c7 cA A7 AA vC v (.slice Ab m cvb) (fk bx 0) bs (gs ++ [⟨A4, 4 + bn, c4, frE bx⟩, ⟨A5, 4 + bn, c5, frE bx⟩]) (ws ++ [⟨A8, 4 + bn, c8, frE bx⟩, ⟨A9, 4 + bn, c9, frE bx⟩]) [] w wC from hC)
            have HSM2 := Lib.hid (show (gs ++ [(⟨A4, 4 + bn, c4, frE bx⟩ : Bw), ⟨A5, 4 + bn, c5, frE bx⟩]).map Bw.xs = (ws ++ [(⟨A8, 4 + bn, c8, frE bx⟩ : Bw), ⟨A9, 4 + bn, c9, frE bx⟩]).map Bw.xs by rw [List.map_append, List.map_append, HSM.out]; rfl)
            clear hC
            go_wp2
            go_loopw [9, 10, 18] (fun t9 t10 t18 wr => ∃ (k n1 c1 c2 : Nat) (A1 A2 : Option Addr), t18 = .int .i64 (k : Int) ∧ k ≤ 2 ∧ n1 ≤ 5 + 4 * i + k ∧ t9 = .slice A1 n1 c1 ∧ t10 = .slice A2 n1 c2 ∧ Hid (∃ vf gs ws, gs.map Bw.xs = ws.map Bw.xs ∧ AnI q f p n1 n1 c1 c2 A1 A2 vf v (.slice Ab m cvb) (fk bx k) bs gs ws [] w wr)) (fun _ _ t18 _ => 2 - (intOf t18).toNat)
            case atStart => exact ⟨0, n0 + 2, c7, cA, A7, AA, rfl, by omega, by omega, rfl, rfl, Lib.hid ⟨_, _, _, HSM2.out, HC.out⟩⟩
            case round =>
              clear HC HSM2 HP HSM H3 H4 H5 H6 H7 H8 H9 HA HB1
              obtain ⟨k, n1, d1, d2, D1, D2, rfl, hk, hn1, rfl, rfl, HK0⟩ := hrel
              obtain ⟨vk, gk, wk, hsk, hK⟩ := HK0.out
              have HK := Lib.hid hK
              have HSK := Lib.hid hsk
              rename World => wy
              clear HK0 hK hsk
              by_cases hk2 : k < 2
              · have CN := Lib.hid (HK.out.nextC hk2 (by rw [HB.out.len]; exact hb1) (by rw [HB.out.len]; exact hb2) HB.out.wf HB.out.len)
                go_wp2_with fail
                go_at_call 40; (with_reducible refine CN.out.mono ?_); rintro e wD ⟨AD, cD, vD, rfl, hD⟩
                have HD := Lib.hid hD
                clear hD CN
                have cD1 := HRI.out wD HD.out.below
                go_wp2_with (first
                  | (at_builtin; refine wpList_append_rows rfl _ _ rfl q _ n1 (gk.map Bw.v) rfl (HD.out.all.alloc _) ⟨wD.heap.size, 0, none⟩ 1 [⟨AD, bn, cD, bx⟩] rfl rfl (cells_one wD _ _) (by omega) (Nat.le_trans HD.out.lo (by simp)) ?_
                     intro AE cE wE hown hg hv
                     have HE := Lib.hid (HD.out.toAll (l := [⟨AD, bn, cD, bx⟩]) ((Below.refl wD.heap.size wD).alloc (Nat.le_refl _) _) rfl hown hg hv)
                     have cE1 := HRI.out wE HE.out.below
                     clear hown hg hv cD1)
                  | fail)
                have CC := Lib.hid (copied_any bA bn bc bx wE HB.out.len (HCB.out _ HE.out.below) HB.out.none_ (by omega))
                go_at_call 42; (with_reducible refine CC.out.mono ?_); rintro e wF ⟨AF, cF, rfl, hr, hb⟩
                have HF2 := Lib.hid (HE.out.add ⟨AF, bn, cF, bx⟩ hb (OwO.ofOwn hr) ⟨HB.out.len, by show bn ≤ 150000000000000; omega⟩)
                clear hr hb CC cE1
                go_wp2_with (first
                  | (at_builtin; refine wpList_append_rows rfl _ _ rfl q _ n1 (wk.map Bw.v) rfl (HF2.out.want.alloc _) ⟨wF.heap.size, 0, none⟩ 1 [⟨AF, bn, cF, bx⟩] rfl rfl (cells_one wF _ _) (by omega) (Nat.le_trans HF2.out.lo (by simp)) ?_
                     intro AG cG wG hown hg hv
                     have HG := Lib.hid (HF2.out.toWant (l := [⟨AF, bn, cF, bx⟩]) ((Below.refl wF.heap.size wF).alloc (Nat.le_refl _) _) rfl hown hg hv)
                     clear hown hg hv)
                  | fail)
                go_roundw
                case rel => exact ⟨k + 1, n1 + 1, cE, cG, AE, AG, by go_num, by omega, by omega, rfl, rfl, Lib.hid ⟨_, _, _, by rw [List.map_append, List.map_append, HSK.out]; rfl, HG.out⟩⟩
                case measure => simp [intOf]; omega
              · obtain rfl : k = 2 := by omega
                clear hk2
                go_wp2
                go_roundw
                case rel => ((repeat apply Exists.intro); exact ⟨⟨i + 1, n1, d1, d2, D1, D2, by go_num, by omega, by omega, by omega, rfl, rfl, Lib.hid ⟨vk, gk, wk, HSK.out, HK.out⟩⟩, rfl⟩)
                case measure => simp [intOf]; omega
          · have HBD := Lib.hid (show bn < 1 ∨ 65536 < bn by omega)
            clear hbody
            go_wp2_with fail
            go_at_call 21; (with_reducible refine (frame_no (some ⟨g, 0, none⟩) bn (bn + 67) w3 HBD.out (by omega)).mono ?_); rintro e w4 ⟨rfl, rfl⟩
            go_wp2_with fail
            go_at_call 21; (with_reducible refine (frame_no (some ⟨g, 0, none⟩) bn (bn + 67) w3 HBD.out (by omega)).mono ?_); rintro e w4 ⟨rfl, rfl⟩
            have CK := Lib.hid (back_any g cur bA bn bc bx w3 HB.out.len (HCB.out _ H3.out.below) HGB.out HCU.out (by omega))
            go_wp2_with fail
            go_at_call 23; (with_reducible refine CK.out.mono ?_); rintro e w6 ⟨rfl, ht6⟩
            have H6 := Lib.hid (H3.out.drop ht6 (fun k e => by subst e; rfl))
            clear ht6 c3 CK
            go_wp2
            go_roundw
            case rel => ((repeat apply Exists.intro); exact ⟨⟨i + 1, n0, c1, c2, A1, A2, by go_num, by omega, by omega, by omega, rfl, rfl, Lib.hid ⟨vf, gs, ws, HSM.out, H6.out⟩⟩, rfl⟩)
            case measure => simp [intOf]; omega
        · have hor : ¬ i < nb ∨ (i < nb ∧ ¬ i < 15) := by omega
          clear hgo
          rcases hor with hkn | ⟨hkn, hk5⟩
          · go_wp2
            have CA := Lib.hid (HP.out.drew.apartC HSM.out (by omega))
            obtain ⟨Sx, hSx⟩ : ∃ Sx, Sx = strOfNums bs := ⟨_, rfl⟩
            have HSX := Lib.hid hSx
            have HCV := Lib.hid (show CellsAt wx.drew Ab (bvs bs) from vb_cells HP.out.drew.vb_)
            clear hSx
            (refine wp_region_held_drew (S := fun W9 => CellsAt W9 Ab (bvs bs)) (by kernel_rfl) HCV.out (fun hHeld => ?_))
            (refine take_q (i := 0) (d := 142) (v := ?v101) rfl rfl (by kernel_rfl) (by kernel_rfl) (by kernel_rfl) (fun _ _ _ h => h) (by kernel_rfl) ?hy101 (by assumption) ?rest101)
            case hy101 => (intro w9 hSw; first | (go_simp; done) | (go_simp; with_reducible rfl))
            (try simp only [Act.put, List.setIfInBounds_toArray, List.set_cons_zero, List.set_cons_succ])
            (refine take_q (i := 1) (d := 143) (v := ?v102) rfl rfl (by kernel_rfl) (by kernel_rfl) (by kernel_rfl) (fun _ _ _ h => h) (by kernel_rfl) ?hy102 (by assumption) ?rest102)
            case hy102 => (intro w9 hSw; first | (go_simp; done) | (go_simp; with_reducible rfl))
            (try simp only [Act.put, List.setIfInBounds_toArray, List.set_cons_zero, List.set_cons_succ])
            (refine wpAnyH_ready (rs := [2]) (by kernel_rfl) (by simp) ?_)
            (refine AllReadyH.cons (o := _) rfl (fun K hK => ?_) AllReadyH.nil)
            go_simp
            (with_reducible refine CA.out.mono ?_)
            rintro e w3 ⟨rfl, hE⟩
            have HE := Lib.hid hE
            clear hE
            go_wp2_with fail
            (refine hK.out _ _ (vb_cells HE.out.vb_) (fun hHeld => ?_))
            clear hK K
            (try simp only [Act.put, List.setIfInBounds_toArray, List.set_cons_zero, List.set_cons_succ])
            (refine take_q (i := 3) (d := 145) (v := ?v103) rfl rfl (by kernel_rfl) (by kernel_rfl) (by kernel_rfl) (fun _ _ _ h => h) (by kernel_rfl) ?hy103 (by assumption) ?rest103)
            case hy103 => (intro w9 hSw; first | (go_simp; done) | (go_simp; with_reducible rfl))
            (try simp only [Act.put, List.setIfInBounds_toArray, List.set_cons_zero, List.set_cons_succ])
            (refine take_q (i := 4) (d := 146) (v := ?v104) rfl rfl (by kernel_rfl) (by kernel_rfl) (by kernel_rfl) (fun _ _ _ h => h) (by kernel_rfl) ?hy104 (by assumption) ?rest104)
            case hy104 => (intro w9 hSw; first | (go_simp; done) | (go_simp; with_reducible rfl))
            (try simp only [Act.put, List.setIfInBounds_toArray, List.set_cons_zero, List.set_cons_succ])
            (refine take_q (i := 5) (d := 147) (v := ?v105) rfl rfl (by kernel_rfl) (by kernel_rfl) (by kernel_rfl) (fun _ _ _ h => h) (by kernel_rfl) ?hy105 (by assumption) ?rest105)
            case hy105 => (intro w9 hSw; first | (go_simp; done) | (go_simp; with_reducible rfl))
            (try simp only [Act.put, List.setIfInBounds_toArray, List.set_cons_zero, List.set_cons_succ])
            (refine take_q (i := 8) (d := 150) (v := ?v106) rfl rfl (by kernel_rfl) (by kernel_rfl) (by kernel_rfl) (fun _ _ _ h => h) (by kernel_rfl) ?hy106 (by assumption) ?rest106)
            case hy106 => (intro w9 hSw; first | (go_simp; done) | (go_simp; with_reducible rfl))
            (try simp only [Act.put, List.setIfInBounds_toArray, List.set_cons_zero, List.set_cons_succ])
            (refine take_q (i := 9) (d := 151) (v := ?v107) rfl rfl (by kernel_rfl) (by kernel_rfl) (by kernel_rfl) (fun _ _ _ h => h) (by kernel_rfl) ?hy107 (by assumption) ?rest107)
            case hy107 => (intro w9 hSw; have c9 := conv_cells (show CellsAt w9 Ab (bvs bs) from hSw) HM.out.symm cvb; rw [← HSX.out] at c9; clear hSw; first | (go_simp; done) | (go_simp; with_reducible rfl))
            (try simp only [Act.put, List.setIfInBounds_toArray, List.set_cons_zero, List.set_cons_succ])
            (refine wpAnyH_ready (rs := [6]) (by kernel_rfl) (by simp) ?_)
            (refine AllReadyH.cons (o := _) rfl (fun K hK => ?_) AllReadyH.nil)
            go_simp
            have CB := Lib.hid (w_bytes_wide q p v bs w3 HE.out.wr_ (by have := HM.out; omega))
            rw [← HM.out] at CB
            (with_reducible refine CB.out.mono ?_)
            rintro e w4 ⟨A4, rfl, hr, hb⟩
            have HE4 := Lib.hid (HE.out.kept hb)
            have hz1 := hr.conv_all HSX.out m w4 rfl
            clear hr hb CB
            go_wp2_with fail
            (refine hK.out _ _ (vb_cells HE4.out.vb_) (fun hHeld => ?_))
            clear hK K
            (try simp only [Act.put, List.setIfInBounds_toArray, List.set_cons_zero, List.set_cons_succ])
            (refine wpAnyH_ready (rs := [7]) (by kernel_rfl) (by simp) ?_)
            (refine AllReadyH.cons (o := _) rfl (fun K hK => ?_) AllReadyH.nil)
            go_simp
            (refine hK.out _ _ hHeld (fun _ => ?_))
            clear hz1 hK K
            (try simp only [Act.put, List.setIfInBounds_toArray, List.set_cons_zero, List.set_cons_succ])
            (refine take_q (i := 10) (d := 152) (v := ?v108) rfl rfl (by kernel_rfl) (by kernel_rfl) (by kernel_rfl) (fun _ _ _ h => h) (by kernel_rfl) ?hy108 (by assumption) ?rest108)
            case hy108 => (intro w9 hSw; first | (go_simp; done) | (go_simp; with_reducible rfl))
            (try simp only [Act.put, List.setIfInBounds_toArray, List.set_cons_zero, List.set_cons_succ])
            (refine take_q (i := 11) (d := 153) (v := ?v109) rfl rfl (by kernel_rfl) (by kernel_rfl) (by kernel_rfl) (fun _ _ _ h => h) (by kernel_rfl) ?hy109 (by assumption) ?rest109)
            case hy109 => (intro w9 hSw; first | (go_simp; done) | (go_simp; with_reducible rfl))
            (try simp only [Act.put, List.setIfInBounds_toArray, List.set_cons_zero, List.set_cons_succ])
            (refine take_q (i := 12) (d := 154) (v := ?v110) rfl rfl (by kernel_rfl) (by kernel_rfl) (by kernel_rfl) (fun _ _ _ h => h) (by kernel_rfl) ?hy110 (by assumption) ?rest110)
            case hy110 => (intro w9 hSw; first | (go_simp; done) | (go_simp; with_reducible rfl))
            (try simp only [Act.put, List.setIfInBounds_toArray, List.set_cons_zero, List.set_cons_succ])
            (refine take_q (i := 13) (d := 155) (v := ?v111) rfl rfl (by kernel_rfl) (by kernel_rfl) (by kernel_rfl) (fun _ _ _ h => h) (by kernel_rfl) ?hy111 (by assumption) ?rest111)
            case hy111 => (intro w9 hSw; first | (go_simp; done) | (go_simp; with_reducible rfl))
            (try simp only [Act.put, List.setIfInBounds_toArray, List.set_cons_zero, List.set_cons_succ])
            (refine wpAnyH_ready (rs := [14]) (by kernel_rfl) (by simp) ?_)
            (refine AllReadyH.cons (o := _) rfl (fun K hK => ?_) AllReadyH.nil)
            go_simp
            obtain ⟨A5, c5, hv5, _, _, _⟩ := owned_form HE4.out.fm.own
            have hv5 : vf = .slice A5 0 c5 := hv5
            subst hv5
            (with_reducible refine (f_held f _ _ A5 0 c5 _ HE4.out.fm.blk).mono ?_)
            rintro e w5 ⟨rfl, rfl⟩
            go_wp2_with fail
            (refine hK.out _ _ hHeld (fun hHeld => ?_))
            clear hK K
            (try simp only [Act.put, List.setIfInBounds_toArray, List.set_cons_zero, List.set_cons_succ])
            (refine take_q (i := 15) (d := 157) (v := ?v112) rfl rfl (by kernel_rfl) (by kernel_rfl) (by kernel_rfl) (fun _ _ _ h => h) (by kernel_rfl) ?hy112 (by assumption) ?rest112)
            case hy112 => (intro w9 hSw; first | (go_simp; done) | (go_simp; with_reducible rfl))
            (try simp only [Act.put, List.setIfInBounds_toArray, List.set_cons_zero, List.set_cons_succ])
            (refine take_q (i := 16) (d := 158) (v := ?v113) rfl rfl (by kernel_rfl) (by kernel_rfl) (by kernel_rfl) (fun _ _ _ h => h) (by kernel_rfl) ?hy113 (by assumption) ?rest113)
            case hy113 => (intro w9 hSw; first | (go_simp; done) | (go_simp; with_reducible rfl))
            (try simp only [Act.put, List.setIfInBounds_toArray, List.set_cons_zero, List.set_cons_succ])
            (refine wpAnyH_done (by kernel_rfl) ?_ _)
            clear hHeld CA HCV HP HSM HE
            go_wp2
            go_loopw [22] (fun t22 wz => ∃ j : Nat, t22 = .int .i64 (j : Int) ∧ j ≤ nb ∧ j ≤ 15 ∧ Hid (∃ vf, AnE q f p vf v (.slice Ab m cvb) bs w wz)) (fun t22 _ => 15 - (intOf t22).toNat)
            case atStart => exact ⟨0, rfl, Nat.zero_le _, by omega, Lib.hid ⟨_, HE4.out⟩⟩
            case round =>
              obtain ⟨j, rfl, hj, hj15, HE0⟩ := hrel
              obtain ⟨vz, hE⟩ := HE0.out
              have HEz := Lib.hid hE
              rename World => wz
              clear HE0 hE HE4
              by_cases hgo : j < nb ∧ j < 15
              · obtain ⟨hib, hi30⟩ := hgo
                have hkl : j < bs0.length := by rw [HBL.out]; exact hib
                obtain ⟨ad, rfl, c0⟩ := HBR.out.at (HQ.out ▸ HEz.out.below) j hkl
                have HB := Lib.hid (HBO.out bs0[j] (List.getElem_mem _))
                have HRI := Lib.hid (fun (W' : World) (hb : Below w.heap.size w W') => HBR.out.at hb j hkl)
                generalize bs0[j] = b at *
                obtain ⟨bA, bn, bc, bx⟩ := b
                have c0 : wz.cell? (ad.add j) = some (.slice bA bn bc) := c0
                have HRI := Lib.hid (show ∀ (W' : World), Below q w W' → W'.cell? (ad.add j) = some (.slice bA bn bc) from fun W' hb => by
                  obtain ⟨ad', e, h⟩ := HRI.out W' (HQ.out ▸ hb)
                  cases e; exact h)
                have hbg : bn ≤ 9223372036854775807 := by have : bn ≤ maxLen := HB.out.big; unfold maxLen at this; omega
                by_cases hbody : 1 ≤ bn ∧ bn ≤ 65536
                · obtain ⟨hb1, hb2⟩ := hbody
                  have CX := Lib.hid (frame_yes2 bA bn bc bx wz HB.out.len (HB.out.cells.below (HQ.out ▸ HEz.out.below)) HB.out.none_ hb1 hb2)
                  go_wp2_with fail
                  go_at_call 21; (with_reducible refine CX.out.mono ?_); rintro e w5 ⟨A6, c6, rfl, ho, hb⟩
                  obtain ⟨g6, rfl, hc6, hx6, ht6⟩ := own_tail4 ho HB.out.len
                  have HE5 := Lib.hid (HEz.out.kept hb)
                  have c5 := HRI.out w5 HE5.out.below
                  have HX6 := Lib.hid hx6
                  have hcv1 : ∀ k c', (convert 24 9 (.slice (some ⟨g6, 4, none⟩) bn c')).run Tryd.prog (w5.drewN k) = .ok (.string (strOfNums bx)) (w5.drewN k) := fun k c' => conv_cells (ht6.below (below_drewN (Below.refl _ _) k)) HB.out.len c'
                  have hcv2 : ∀ k, (convert 24 9 (.slice bA bn bc)).run Tryd.prog (w5.drewN k) = .ok (.string (strOfNums bx)) (w5.drewN k) := bw_convN HB.out (HQ.out ▸ HE5.out.below)
                  obtain ⟨Sx, hSx⟩ : ∃ Sx, Sx = strOfNums bx := ⟨_, rfl⟩
                  rw [← hSx] at hcv1 hcv2
                  have HSB := Lib.hid hSx
                  clear hb ho hx6 ht6 c0 CX hSx
                  go_wp2
                  go_quiet (fail)
                  have hb6 : Below w5.heap.size w5 (w5.drewN nq) := below_drewN (Below.refl _ _) _
                  have HE6 := Lib.hid (HE5.out.kept hb6)
                  have HX7 := Lib.hid (HX6.out.below hb6)
                  generalize w5.drewN nq = w6 at HE6 HX7 ⊢
                  clear hcv1 hcv2 c5 hb6 HE5 HX6
                  have CF2 := Lib.hid (HE6.out.feedC (A := some ⟨g6, 0, none⟩) (n := 4 + bn) (c := c6) (xs := len4 bn ++ bx) (by rw [List.length_append, HB.out.len]; rfl) HX7.out (fun h => by cases h) (by omega))
                  go_wp2_with fail
                  go_at_call 37; (with_reducible refine CF2.out.mono ?_); rintro e w7 ⟨rfl, v7, hs7, hb7, hl7⟩
                  have CN2 := Lib.hid (next_end (bx := bx) (n := bn) (by rw [HB.out.len]; exact hs7) hb7 hl7 (by rw [HB.out.len]; exact hb1) (by rw [HB.out.len]; exact hb2) HB.out.wf HB.out.len)
                  clear hs7 hb7 hl7 CF2
                  go_wp2_with fail
                  go_at_call 40; (with_reducible refine CN2.out.mono ?_); rintro e w8 ⟨A8, c8, v8, rfl, hr8, hE8⟩
                  have HE8 := Lib.hid hE8
                  have c9 := HRI.out w8 HE8.out.below
                  have hcv1 := row_convN hr8 c8
                  have hcv2 : ∀ k, (convert 24 9 (.slice bA bn bc)).run Tryd.prog (w8.drewN k) = .ok (.string (strOfNums bx)) (w8.drewN k) := bw_convN HB.out (HQ.out ▸ HE8.out.below)
                  rw [← HSB.out] at hcv1 hcv2
                  clear hr8 hE8 CN2
                  go_wp2
                  go_quiet (fail)
                  have HE9 := Lib.hid (HE8.out.kept (below_drewN (Below.refl w8.heap.size w8) nq))
                  generalize w8.drewN nq = w9 at HE9 ⊢
                  clear hcv1 hcv2 c9
                  go_wp2
                  go_roundw
                  case rel => exact ⟨j + 1, by go_num, by omega, by omega, Lib.hid ⟨v8, HE9.out⟩⟩
                  case measure => simp [intOf]; omega
                · have HBD := Lib.hid (show bn < 1 ∨ 65536 < bn by omega)
                  clear hbody
                  go_wp2_with fail
                  go_at_call 21; (with_reducible refine (frame_no bA bn bc wz HBD.out hbg).mono ?_); rintro e w5 ⟨rfl, rfl⟩
                  go_wp2
                  go_quiet (fail)
                  have HE6 := Lib.hid (HEz.out.kept (below_drewN (Below.refl wz.heap.size wz) nq))
                  generalize wz.drewN nq = w6 at HE6 ⊢
                  have CF2 := Lib.hid (HE6.out.feedC (A := none) (n := 0) (c := 0) (xs := []) rfl (fun k hk => absurd hk (Nat.not_lt_zero _)) (fun _ => rfl) (by omega))
                  go_wp2_with fail
                  go_at_call 37; (with_reducible refine CF2.out.mono ?_); rintro e w7 ⟨rfl, v7, hs7, hb7, hl7⟩
                  have HE7 := Lib.hid (show AnE q f p v7 v (.slice Ab m cvb) bs w w7 from ⟨hs7, hb7, hl7⟩)
                  clear hs7 hb7 hl7 CF2
                  obtain ⟨A7, c7, hv7, _, _, _⟩ := owned_form HE7.out.fm.own
                  have hv7 : v7 = .slice A7 0 c7 := hv7
                  subst hv7
                  have c9 := HRI.out w7 HE7.out.below
                  go_wp2_with fail
                  go_at_call 40; (with_reducible refine (f_next_short f f 65536 A7 0 c7 [] w7 HE7.out.fm (by omega)).mono ?_); rintro e w8 ⟨rfl, rfl⟩
                  go_wp2
                  go_quiet (fail)
                  have HE9 := Lib.hid (HE7.out.kept (below_drewN (Below.refl w7.heap.size w7) nq))
                  generalize w7.drewN nq = w9 at HE9 ⊢
                  clear c9 c0
                  go_wp2
                  go_roundw
                  case rel => exact ⟨j + 1, by go_num, by omega, by omega, Lib.hid ⟨_, HE9.out⟩⟩
                  case measure => simp [intOf]; omega
              · have hor : ¬ j < nb ∨ (j < nb ∧ ¬ j < 15) := by omega
                clear hgo
                rcases hor with hkn | ⟨hkn, hk5⟩
                all_goals (go_wp2_with fail)
                all_goals
                  go_at_call 19; (with_reducible refine (head_any _).mono ?_); rintro e wd ⟨rfl, hb⟩
                  have HFB := Lib.hid (show Below q w wd from HEz.out.below.trans (hb.mono HEz.out.lo))
                  clear hb
                  go_wp2
                  go_ret
                  exact ⟨rfl, HFB.out⟩
            
          · go_wp2
            have CA := Lib.hid (HP.out.drew.apartC HSM.out (by omega))
            obtain ⟨Sx, hSx⟩ : ∃ Sx, Sx = strOfNums bs := ⟨_, rfl⟩
            have HSX := Lib.hid hSx
            have HCV := Lib.hid (show CellsAt wx.drew Ab (bvs bs) from vb_cells HP.out.drew.vb_)
            clear hSx
            (refine wp_region_held_drew (S := fun W9 => CellsAt W9 Ab (bvs bs)) (by kernel_rfl) HCV.out (fun hHeld => ?_))
            (refine take_q (i := 0) (d := 142) (v := ?v114) rfl rfl (by kernel_rfl) (by kernel_rfl) (by kernel_rfl) (fun _ _ _ h => h) (by kernel_rfl) ?hy114 (by assumption) ?rest114)
            case hy114 => (intro w9 hSw; first | (go_simp; done) | (go_simp; with_reducible rfl))
            (try simp only [Act.put, List.setIfInBounds_toArray, List.set_cons_zero, List.set_cons_succ])
            (refine take_q (i := 1) (d := 143) (v := ?v115) rfl rfl (by kernel_rfl) (by kernel_rfl) (by kernel_rfl) (fun _ _ _ h => h) (by kernel_rfl) ?hy115 (by assumption) ?rest115)
            case hy115 => (intro w9 hSw; first | (go_simp; done) | (go_simp; with_reducible rfl))
            (try simp only [Act.put, List.setIfInBounds_toArray, List.set_cons_zero, List.set_cons_succ])
            (refine wpAnyH_ready (rs := [2]) (by kernel_rfl) (by simp) ?_)
            (refine AllReadyH.cons (o := _) rfl (fun K hK => ?_) AllReadyH.nil)
            go_simp
            (with_reducible refine CA.out.mono ?_)
            rintro e w3 ⟨rfl, hE⟩
            have HE := Lib.hid hE
            clear hE
            go_wp2_with fail
            (refine hK.out _ _ (vb_cells HE.out.vb_) (fun hHeld => ?_))
            clear hK K
            (try simp only [Act.put, List.setIfInBounds_toArray, List.set_cons_zero, List.set_cons_succ])
            (refine take_q (i := 3) (d := 145) (v := ?v116) rfl rfl (by kernel_rfl) (by kernel_rfl) (by kernel_rfl) (fun _ _ _ h => h) (by kernel_rfl) ?hy116 (by assumption) ?rest116)
            case hy116 => (intro w9 hSw; first | (go_simp; done) | (go_simp; with_reducible rfl))
            (try simp only [Act.put, List.setIfInBounds_toArray, List.set_cons_zero, List.set_cons_succ])
            (refine take_q (i := 4) (d := 146) (v := ?v117) rfl rfl (by kernel_rfl) (by kernel_rfl) (by kernel_rfl) (fun _ _ _ h => h) (by kernel_rfl) ?hy117 (by assumption) ?rest117)
            case hy117 => (intro w9 hSw; first | (go_simp; done) | (go_simp; with_reducible rfl))
            (try simp only [Act.put, List.setIfInBounds_toArray, List.set_cons_zero, List.set_cons_succ])
            (refine take_q (i := 5) (d := 147) (v := ?v118) rfl rfl (by kernel_rfl) (by kernel_rfl) (by kernel_rfl) (fun _ _ _ h => h) (by kernel_rfl) ?hy118 (by assumption) ?rest118)
            case hy118 => (intro w9 hSw; first | (go_simp; done) | (go_simp; with_reducible rfl))
            (try simp only [Act.put, List.setIfInBounds_toArray, List.set_cons_zero, List.set_cons_succ])
            (refine take_q (i := 8) (d := 150) (v := ?v119) rfl rfl (by kernel_rfl) (by kernel_rfl) (by kernel_rfl) (fun _ _ _ h => h) (by kernel_rfl) ?hy119 (by assumption) ?rest119)
            case hy119 => (intro w9 hSw; first | (go_simp; done) | (go_simp; with_reducible rfl))
            (try simp only [Act.put, List.setIfInBounds_toArray, List.set_cons_zero, List.set_cons_succ])
            (refine take_q (i := 9) (d := 151) (v := ?v120) rfl rfl (by kernel_rfl) (by kernel_rfl) (by kernel_rfl) (fun _ _ _ h => h) (by kernel_rfl) ?hy120 (by assumption) ?rest120)
            case hy120 => (intro w9 hSw; have c9 := conv_cells (show CellsAt w9 Ab (bvs bs) from hSw) HM.out.symm cvb; rw [← HSX.out] at c9; clear hSw; first | (go_simp; done) | (go_simp; with_reducible rfl))
            (try simp only [Act.put, List.setIfInBounds_toArray, List.set_cons_zero, List.set_cons_succ])
            (refine wpAnyH_ready (rs := [6]) (by kernel_rfl) (by simp) ?_)
            (refine AllReadyH.cons (o := _) rfl (fun K hK => ?_) AllReadyH.nil)
            go_simp
            have CB := Lib.hid (w_bytes_wide q p v bs w3 HE.out.wr_ (by have := HM.out; omega))
            rw [← HM.out] at CB
            (with_reducible refine CB.out.mono ?_)
            rintro e w4 ⟨A4, rfl, hr, hb⟩
            have HE4 := Lib.hid (HE.out.kept hb)
            have hz1 := hr.conv_all HSX.out m w4 rfl
            clear hr hb CB
            go_wp2_with fail
            (refine hK.out _ _ (vb_cells HE4.out.vb_) (fun hHeld => ?_))
            clear hK K
            (try simp only [Act.put, List.setIfInBounds_toArray, List.set_cons_zero, List.set_cons_succ])
            (refine wpAnyH_ready (rs := [7]) (by kernel_rfl) (by simp) ?_)
            (refine AllReadyH.cons (o := _) rfl (fun K hK => ?_) AllReadyH.nil)
            go_simp
            (refine hK.out _ _ hHeld (fun _ => ?_))
            clear hz1 hK K
            (try simp only [Act.put, List.setIfInBounds_toArray, List.set_cons_zero, List.set_cons_succ])
            (refine take_q (i := 10) (d := 152) (v := ?v121) rfl rfl (by kernel_rfl) (by kernel_rfl) (by kernel_rfl) (fun _ _ _ h => h) (by kernel_rfl) ?hy121 (by assumption) ?rest121)
            case hy121 => (intro w9 hSw; first | (go_simp; done) | (go_simp; with_reducible rfl))
            (try simp only [Act.put, List.setIfInBounds_toArray, List.set_cons_zero, List.set_cons_succ])
            (refine take_q (i := 11) (d := 153) (v := ?v122) rfl rfl (by kernel_rfl) (by kernel_rfl) (by kernel_rfl) (fun _ _ _ h => h) (by kernel_rfl) ?hy122 (by assumption) ?rest122)
            case hy122 => (intro w9 hSw; first | (go_simp; done) | (go_simp; with_reducible rfl))
            (try simp only [Act.put, List.setIfInBounds_toArray, List.set_cons_zero, List.set_cons_succ])
            (refine take_q (i := 12) (d := 154) (v := ?v123) rfl rfl (by kernel_rfl) (by kernel_rfl) (by kernel_rfl) (fun _ _ _ h => h) (by kernel_rfl) ?hy123 (by assumption) ?rest123)
            case hy123 => (intro w9 hSw; first | (go_simp; done) | (go_simp; with_reducible rfl))
            (try simp only [Act.put, List.setIfInBounds_toArray, List.set_cons_zero, List.set_cons_succ])
            (refine take_q (i := 13) (d := 155) (v := ?v124) rfl rfl (by kernel_rfl) (by kernel_rfl) (by kernel_rfl) (fun _ _ _ h => h) (by kernel_rfl) ?hy124 (by assumption) ?rest124)
            case hy124 => (intro w9 hSw; first | (go_simp; done) | (go_simp; with_reducible rfl))
            (try simp only [Act.put, List.setIfInBounds_toArray, List.set_cons_zero, List.set_cons_succ])
            (refine wpAnyH_ready (rs := [14]) (by kernel_rfl) (by simp) ?_)
            (refine AllReadyH.cons (o := _) rfl (fun K hK => ?_) AllReadyH.nil)
            go_simp
            obtain ⟨A5, c5, hv5, _, _, _⟩ := owned_form HE4.out.fm.own
            have hv5 : vf = .slice A5 0 c5 := hv5
            subst hv5
            (with_reducible refine (f_held f _ _ A5 0 c5 _ HE4.out.fm.blk).mono ?_)
            rintro e w5 ⟨rfl, rfl⟩
            go_wp2_with fail
            (refine hK.out _ _ hHeld (fun hHeld => ?_))
            clear hK K
            (try simp only [Act.put, List.setIfInBounds_toArray, List.set_cons_zero, List.set_cons_succ])
            (refine take_q (i := 15) (d := 157) (v := ?v125) rfl rfl (by kernel_rfl) (by kernel_rfl) (by kernel_rfl) (fun _ _ _ h => h) (by kernel_rfl) ?hy125 (by assumption) ?rest125)
            case hy125 => (intro w9 hSw; first | (go_simp; done) | (go_simp; with_reducible rfl))
            (try simp only [Act.put, List.setIfInBounds_toArray, List.set_cons_zero, List.set_cons_succ])
            (refine take_q (i := 16) (d := 158) (v := ?v126) rfl rfl (by kernel_rfl) (by kernel_rfl) (by kernel_rfl) (fun _ _ _ h => h) (by kernel_rfl) ?hy126 (by assumption) ?rest126)
            case hy126 => (intro w9 hSw; first | (go_simp; done) | (go_simp; with_reducible rfl))
            (try simp only [Act.put, List.setIfInBounds_toArray, List.set_cons_zero, List.set_cons_succ])
            (refine wpAnyH_done (by kernel_rfl) ?_ _)
            clear hHeld CA HCV HP HSM HE
            go_wp2
            go_loopw [22] (fun t22 wz => ∃ j : Nat, t22 = .int .i64 (j : Int) ∧ j ≤ nb ∧ j ≤ 15 ∧ Hid (∃ vf, AnE q f p vf v (.slice Ab m cvb) bs w wz)) (fun t22 _ => 15 - (intOf t22).toNat)
            case atStart => exact ⟨0, rfl, Nat.zero_le _, by omega, Lib.hid ⟨_, HE4.out⟩⟩
            case round =>
              obtain ⟨j, rfl, hj, hj15, HE0⟩ := hrel
              obtain ⟨vz, hE⟩ := HE0.out
              have HEz := Lib.hid hE
              rename World => wz
              clear HE0 hE HE4
              by_cases hgo : j < nb ∧ j < 15
              · obtain ⟨hib, hi30⟩ := hgo
                have hkl : j < bs0.length := by rw [HBL.out]; exact hib
                obtain ⟨ad, rfl, c0⟩ := HBR.out.at (HQ.out ▸ HEz.out.below) j hkl
                have HB := Lib.hid (HBO.out bs0[j] (List.getElem_mem _))
                have HRI := Lib.hid (fun (W' : World) (hb : Below w.heap.size w W') => HBR.out.at hb j hkl)
                generalize bs0[j] = b at *
                obtain ⟨bA, bn, bc, bx⟩ := b
                have c0 : wz.cell? (ad.add j) = some (.slice bA bn bc) := c0
                have HRI := Lib.hid (show ∀ (W' : World), Below q w W' → W'.cell? (ad.add j) = some (.slice bA bn bc) from fun W' hb => by
                  obtain ⟨ad', e, h⟩ := HRI.out W' (HQ.out ▸ hb)
                  cases e; exact h)
                have hbg : bn ≤ 9223372036854775807 := by have : bn ≤ maxLen := HB.out.big; unfold maxLen at this; omega
                by_cases hbody : 1 ≤ bn ∧ bn ≤ 65536
                · obtain ⟨hb1, hb2⟩ := hbody
                  have CX := Lib.hid (frame_yes2 bA bn bc bx wz HB.out.len (HB.out.cells.below (HQ.out ▸ HEz.out.below)) HB.out.none_ hb1 hb2)
                  go_wp2_with fail
                  go_at_call 21; (with_reducible refine CX.out.mono ?_); rintro e w5 ⟨A6, c6, rfl, ho, hb⟩
                  obtain ⟨g6, rfl, hc6, hx6, ht6⟩ := own_tail4 ho HB.out.len
                  have HE5 := Lib.hid (HEz.out.kept hb)
                  have c5 := HRI.out w5 HE5.out.below
                  have HX6 := Lib.hid hx6
                  have hcv1 : ∀ k c', (convert 24 9 (.slice (some ⟨g6, 4, none⟩) bn c')).run Tryd.prog (w5.drewN k) = .ok (.string (strOfNums bx)) (w5.drewN k) := fun k c' => conv_cells (ht6.below (below_drewN (Below.refl _ _) k)) HB.out.len c'
                  have hcv2 : ∀ k, (convert 24 9 (.slice bA bn bc)).run Tryd.prog (w5.drewN k) = .ok (.string (strOfNums bx)) (w5.drewN k) := bw_convN HB.out (HQ.out ▸ HE5.out.below)
                  obtain ⟨Sx, hSx⟩ : ∃ Sx, Sx = strOfNums bx := ⟨_, rfl⟩
                  rw [← hSx] at hcv1 hcv2
                  have HSB := Lib.hid hSx
                  clear hb ho hx6 ht6 c0 CX hSx
                  go_wp2
                  go_quiet (fail)
                  have hb6 : Below w5.heap.size w5 (w5.drewN nq) := below_drewN (Below.refl _ _) _
                  have HE6 := Lib.hid (HE5.out.kept hb6)
                  have HX7 := Lib.hid (HX6.out.below hb6)
                  generalize w5.drewN nq = w6 at HE6 HX7 ⊢
                  clear hcv1 hcv2 c5 hb6 HE5 HX6
                  have CF2 := Lib.hid (HE6.out.feedC (A := some ⟨g6, 0, none⟩) (n := 4 + bn) (c := c6) (xs := len4 bn ++ bx) (by rw [List.length_append, HB.out.len]; rfl) HX7.out (fun h => by cases h) (by omega))
                  go_wp2_with fail
                  go_at_call 37; (with_reducible refine CF2.out.mono ?_); rintro e w7 ⟨rfl, v7, hs7, hb7, hl7⟩
                  have CN2 := Lib.hid (next_end (bx := bx) (n := bn) (by rw [HB.out.len]; exact hs7) hb7 hl7 (by rw [HB.out.len]; exact hb1) (by rw [HB.out.len]; exact hb2) HB.out.wf HB.out.len)
                  clear hs7 hb7 hl7 CF2
                  go_wp2_with fail
                  go_at_call 40; (with_reducible refine CN2.out.mono ?_); rintro e w8 ⟨A8, c8, v8, rfl, hr8, hE8⟩
                  have HE8 := Lib.hid hE8
                  have c9 := HRI.out w8 HE8.out.below
                  have hcv1 := row_convN hr8 c8
                  have hcv2 : ∀ k, (convert 24 9 (.slice bA bn bc)).run Tryd.prog (w8.drewN k) = .ok (.string (strOfNums bx)) (w8.drewN k) := bw_convN HB.out (HQ.out ▸ HE8.out.below)
                  rw [← HSB.out] at hcv1 hcv2
                  clear hr8 hE8 CN2
                  go_wp2
                  go_quiet (fail)
                  have HE9 := Lib.hid (HE8.out.kept (below_drewN (Below.refl w8.heap.size w8) nq))
                  generalize w8.drewN nq = w9 at HE9 ⊢
                  clear hcv1 hcv2 c9
                  go_wp2
                  go_roundw
                  case rel => exact ⟨j + 1, by go_num, by omega, by omega, Lib.hid ⟨v8, HE9.out⟩⟩
                  case measure => simp [intOf]; omega
                · have HBD := Lib.hid (show bn < 1 ∨ 65536 < bn by omega)
                  clear hbody
                  go_wp2_with fail
                  go_at_call 21; (with_reducible refine (frame_no bA bn bc wz HBD.out hbg).mono ?_); rintro e w5 ⟨rfl, rfl⟩
                  go_wp2
                  go_quiet (fail)
                  have HE6 := Lib.hid (HEz.out.kept (below_drewN (Below.refl wz.heap.size wz) nq))
                  generalize wz.drewN nq = w6 at HE6 ⊢
                  have CF2 := Lib.hid (HE6.out.feedC (A := none) (n := 0) (c := 0) (xs := []) rfl (fun k hk => absurd hk (Nat.not_lt_zero _)) (fun _ => rfl) (by omega))
                  go_wp2_with fail
                  go_at_call 37; (with_reducible refine CF2.out.mono ?_); rintro e w7 ⟨rfl, v7, hs7, hb7, hl7⟩
                  have HE7 := Lib.hid (show AnE q f p v7 v (.slice Ab m cvb) bs w w7 from ⟨hs7, hb7, hl7⟩)
                  clear hs7 hb7 hl7 CF2
                  obtain ⟨A7, c7, hv7, _, _, _⟩ := owned_form HE7.out.fm.own
                  have hv7 : v7 = .slice A7 0 c7 := hv7
                  subst hv7
                  have c9 := HRI.out w7 HE7.out.below
                  go_wp2_with fail
                  go_at_call 40; (with_reducible refine (f_next_short f f 65536 A7 0 c7 [] w7 HE7.out.fm (by omega)).mono ?_); rintro e w8 ⟨rfl, rfl⟩
                  go_wp2
                  go_quiet (fail)
                  have HE9 := Lib.hid (HE7.out.kept (below_drewN (Below.refl w7.heap.size w7) nq))
                  generalize w7.drewN nq = w9 at HE9 ⊢
                  clear c9 c0
                  go_wp2
                  go_roundw
                  case rel => exact ⟨j + 1, by go_num, by omega, by omega, Lib.hid ⟨_, HE9.out⟩⟩
                  case measure => simp [intOf]; omega
              · have hor : ¬ j < nb ∨ (j < nb ∧ ¬ j < 15) := by omega
                clear hgo
                rcases hor with hkn | ⟨hkn, hk5⟩
                all_goals (go_wp2_with fail)
                all_goals
                  go_at_call 19; (with_reducible refine (head_any _).mono ?_); rintro e wd ⟨rfl, hb⟩
                  have HFB := Lib.hid (show Below q w wd from HEz.out.below.trans (hb.mono HEz.out.lo))
                  clear hb
                  go_wp2
                  go_ret
                  exact ⟨rfl, HFB.out⟩
            
end Go.Proofs.YtdgokebablhoiaaDoor
