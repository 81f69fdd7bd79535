/- The law's own apart: rows that were told are grown, looked at, written full, looked at again. -/
import Derived.Test.YtdgokebablhoiaaDoorWApK
namespace Go.Proofs.YtdgokebablhoiaaDoor
open Go.RowKit

def mk1 (i : Nat) : Int := IntKind.u8.wrap (7 * (i : Int) + -3 + 1)
def mk2 (i : Nat) : Int := IntKind.u8.wrap (7 * (i : Int) + -6 + 1)
def mkk (i k : Nat) : Int := IntKind.u8.wrap (7 * (i : Int) + 3 * (k : Int) + 1)

abbrev ApL (q : Nat) (K : Value) (nk : Nat) (Wt : Value) (m : Nat) (cur : Array Value) (ps : List Pr) (ws : List Bw) : List Rsc :=
  rRows q K nk ((ps.map Pr.g).map Bw.v) :: rRows q Wt nk (ws.map Bw.v) :: rBlkR m cur :: (ps.map (rPr q) ++ ws.map fun b => rRow q b.v b.xs)
section
variable {q nk m : Nat} {K Wt : Value} {cur : Array Value} {ps : List Pr} {ws : List Bw} {W W' : World}
theorem ApL.len : (ApL q K nk Wt m cur ps ws).length = ps.length + ws.length + 3 := by simp [ApL]
theorem ApL.get (i : Nat) (h : i + 3 < (ApL q K nk Wt m cur ps ws).length) (h' : i < ps.length) : (ApL q K nk Wt m cur ps ws)[i + 3] = rPr q ps[i] := by
  show (ps.map (rPr q) ++ ws.map fun b => rRow q b.v b.xs)[i]'(by simp; omega) = _
  rw [List.getElem_append_left (by simpa using h'), List.getElem_map]
theorem ApL.pair (h : Sep q W (ApL q K nk Wt m cur ps ws)) (i : Nat) (hi : i < ps.length) : (rPr q ps[i]).ok W :=
  h.ok (by simp only [ApL, List.mem_cons, List.mem_append, List.mem_map]; exact .inr (.inr (.inr (.inl ⟨_, List.getElem_mem hi, rfl⟩))))
theorem ApL.want (h : Sep q W (ApL q K nk Wt m cur ps ws)) (i : Nat) (hi : i < ws.length) : OwO W q ws[i].v ws[i].xs :=
  h.ok (R := rRow q ws[i].v ws[i].xs) (by simp only [ApL, List.mem_cons, List.mem_append, List.mem_map]; exact .inr (.inr (.inr (.inr ⟨_, List.getElem_mem hi, rfl⟩))))
theorem map_g_set {i : Nat} (hi : i < ps.length) {p' : Pr} (hv : p'.g.v = ps[i].g.v) : ((ps.set i p').map Pr.g).map Bw.v = (ps.map Pr.g).map Bw.v := by
  rw [List.map_map, List.map_map, List.map_set]
  have : (ps.map (Bw.v ∘ Pr.g))[i]'(by simpa using hi) = (Bw.v ∘ Pr.g) p' := by rw [List.getElem_map]; exact hv.symm
  rw [← this, List.set_getElem_self]
theorem ApL.put {S : Nat → Prop} (h : Sep q W (ApL q K nk Wt m cur ps ws)) (i : Nat) (hi : i < ps.length) (p' : Pr) (hv : p'.g.v = ps[i].g.v) (ht : Tur S W W') (hS : ∀ k, k < W.heap.size → S k → k ∈ (rPr q ps[i]).own)
    (hok : (rPr q p').ok W') (hown : ∀ k ∈ (rPr q p').own, (k ∈ (rPr q ps[i]).own ∨ W.heap.size ≤ k) ∧ k < W'.heap.size) (hlo : q ≤ W.heap.size) : Sep q W' (ApL q K nk Wt m cur (ps.set i p') ws) := by
  have hn : i + 3 < (ApL q K nk Wt m cur ps ws).length := by rw [ApL.len]; omega
  have h2 := h.turn (R' := rPr q p') (i + 3) hn ht (by rw [ApL.get i hn hi]; exact hS) hlo hok (by rw [ApL.get i hn hi]; exact hown)
  have e : (ApL q K nk Wt m cur ps ws).set (i + 3) (rPr q p') = ApL q K nk Wt m cur (ps.set i p') ws := by
    show rRows q K nk ((ps.map Pr.g).map Bw.v) :: rRows q Wt nk (ws.map Bw.v) :: rBlkR m cur :: (ps.map (rPr q) ++ ws.map fun b => rRow q b.v b.xs).set i (rPr q p') = _
    rw [List.set_append_left _ _ (by simpa using hi)]
    unfold ApL
    rw [map_g_set hi hv, ← List.map_set]
  exact e ▸ h2
theorem ApL.putM (h : Sep q W (ApL q K nk Wt m cur ps ws)) (i : Nat) (u : Value) (hlo : q ≤ W.heap.size) : Sep q (W.setCell ⟨m, i, none⟩ u) (ApL q K nk Wt m (cur.setIfInBounds i u) ps ws) := by
  have hb : Blk W m 24 cur := h.at 2 (by simp)
  have ht : Tur (· = m) W (W.setCell ⟨m, i, none⟩ u) := Tur.setCell (S := (· = m)) (p := ⟨m, i, none⟩) (Tur.refl _ _) (.inl rfl) _
  exact h.turn (R' := rBlkR m (cur.setIfInBounds i u)) 2 (by simp) ht (fun k _ e => by subst e; exact List.mem_singleton.2 rfl) hlo (hb.set_ i u) (fun k hk => by
    obtain rfl : k = m := List.mem_singleton.1 hk
    exact ⟨.inl (List.mem_singleton.2 rfl), (hb.set_ i u).lt⟩)
end
theorem ApL.ne_m {q nk m : Nat} {K Wt : Value} {cur : Array Value} {ps : List Pr} {ws : List Bw} {W : World} (h : Sep q W (ApL q K nk Wt m cur ps ws)) (i : Nat) (hi : i < ps.length) : ∀ k ∈ (rPr q ps[i]).own, k ≠ m := by
  intro k hk e
  subst e
  have h3 := (List.pairwise_cons.1 (List.pairwise_cons.1 (List.pairwise_cons.1 h.2.2).2).2).1
  exact h3 _ (List.mem_append_left _ (List.mem_map.2 ⟨_, List.getElem_mem hi, rfl⟩)) k (List.mem_singleton.2 rfl) hk
theorem grown_cell {w1 w2 : World} {row : Option Nat} {m i : Nat} {v : Value} (hg : w1.grownBy w2 row) (hm : m < w1.heap.size) (hr : some m ≠ row) (hc : w1.cell? ⟨m, i, none⟩ = some v) (hf : w1.frozen? ⟨m, i, none⟩ = false) : w2.cell? ⟨m, i, none⟩ = some v ∧ w2.frozen? ⟨m, i, none⟩ = false := by
  have hb := hg.block m hm hr
  exact ⟨by rw [← hc]; simp only [World.cell?, hb], by rw [← hf]; simp only [World.frozen?, hb]⟩
def SG (gs : List Bw) (k : Nat) : Prop := ∃ b ∈ gs, b.v.ownBlock = some k
/-- What the loops of apart keep. -/
structure ApI (q ng ck cw m : Nat) (Ak Aw : Option Addr) (gs ws : List Bw) (W wr : World) (cur : Array Value) (ps : List Pr) (Φ : Nat → Pr → Prop) : Prop where
  sep : Sep q wr (ApL q (.slice Ak ng ck) ng (.slice Aw ng cw) m cur ps ws)
  plen : ps.length = ng
  gv : ∀ j (h : j < ps.length) (h' : j < gs.length), ps[j].g.v = gs[j].v
  gx : ∀ j (h : j < ps.length), ps[j].g.xs.length = ps[j].g.n ∧ ps[j].g.n ≤ 150000000000000
  phi : ∀ j (h : j < ps.length), Φ j ps[j]
  cs : cur.size = ng
  cu : ∀ j (h : j < ps.length), cur[j]? = some ps[j].more
  tur : Tur (SG gs) W wr
  lo : q ≤ wr.heap.size
  ml : W.heap.size ≤ m
def P1 (gs : List Bw) (i j : Nat) (p : Pr) : Prop := (∀ h : j < gs.length, p.g.xs = gs[j].xs) ∧ (j < i → p.m1 = mk1 j ∧ p.m2 = mk2 j ∧ p.more ≠ .slice none 0 0) ∧ (i ≤ j → p.more = .slice none 0 0)
def P3 (i : Nat) (k : Nat) (j : Nat) (p : Pr) : Prop := (p.m1 = mk1 j ∧ p.m2 = mk2 j ∧ p.more ≠ .slice none 0 0) ∧ ∀ t (h : t < p.g.xs.length), (j < i ∨ (j = i ∧ t < k)) → p.g.xs[t] = mkk j t
section
variable {q ng ck cw m : Nat} {Ak Aw : Option Addr} {gs ws : List Bw} {W wr w1 : World} {cur : Array Value} {ps : List Pr} {Φ Φ' : Nat → Pr → Prop}
theorem ApI.weak (h : ApI q ng ck cw m Ak Aw gs ws W wr cur ps Φ) (hΦ : ∀ j (hj : j < ps.length), Φ j ps[j] → Φ' j ps[j]) : ApI q ng ck cw m Ak Aw gs ws W wr cur ps Φ' :=
  ⟨h.sep, h.plen, h.gv, h.gx, fun j hj => hΦ j hj (h.phi j hj), h.cs, h.cu, h.tur, h.lo, h.ml⟩
theorem ApI.kept (h : ApI q ng ck cw m Ak Aw gs ws W wr cur ps Φ) (hb : Below wr.heap.size wr w1) : ApI q ng ck cw m Ak Aw gs ws W w1 cur ps Φ :=
  ⟨h.sep.kept hb h.lo, h.plen, h.gv, h.gx, h.phi, h.cs, h.cu, h.tur.trans (Tur.of_below (S := SG gs) hb) (fun _ h => .inl h), Nat.le_trans h.lo hb.size, h.ml⟩
/-- The pair at i turns; where it lies stays. -/
theorem ApI.upd {S : Nat → Prop} (h : ApI q ng ck cw m Ak Aw gs ws W wr cur ps Φ) (i : Nat) (hi : i < ps.length) (p' : Pr) (hv : p'.g.v = ps[i].g.v) (hx : p'.g.xs.length = p'.g.n) (hm : p'.more = ps[i].more) (hΦ : Φ' i p') (hΦ2 : ∀ j p, j ≠ i → Φ j p → Φ' j p)
    (ht : Tur S wr w1) (hS : ∀ k, S k → p'.g.v.ownBlock = some k) (hlen : gs.length = ng) (hok : (rPr q p').ok w1) : ApI q ng ck cw m Ak Aw gs ws W w1 cur (ps.set i p') Φ' := by
  have hown : (rPr q p').own = (rPr q ps[i]).own := by simp only [rPr, hv, hm]
  have hlt : ∀ k ∈ (rPr q ps[i]).own, k < wr.heap.size := fun k hk => by
    have hn : i + 3 < (ApL q (.slice Ak ng ck) ng (.slice Aw ng cw) m cur ps ws).length := by rw [ApL.len]; omega
    exact (h.sep.ltAt (i + 3) hn k (by rw [ApL.get i hn hi]; exact hk)).2
  refine ⟨ApL.put h.sep i hi p' hv ht (fun k _ hs => ?_) hok (fun k hk => ?_) h.lo, by rw [List.length_set]; exact h.plen, fun j hj hj' => ?_, fun j hj => ?_, fun j hj => ?_, h.cs, fun j hj => ?_, h.tur.trans ht (fun k hs => ?_), Nat.le_trans h.lo ht.size, h.ml⟩
  · simp only [rPr, List.mem_append]; exact .inl (own_list.2 (hv ▸ hS k hs))
  · rw [hown] at hk; exact ⟨.inl hk, Nat.lt_of_lt_of_le (hlt k hk) ht.size⟩
  · rw [List.length_set] at hj
    by_cases e : i = j
    · subst e; rw [List.getElem_set_self, hv]; exact h.gv i hj hj'
    · rw [List.getElem_set_ne e]; exact h.gv j hj hj'
  · rw [List.length_set] at hj
    by_cases e : i = j
    · subst e; rw [List.getElem_set_self]
      have hn : p'.g.n = ps[i].g.n := by
        have e2 := hv
        injection e2
      exact ⟨hx, by rw [hn]; exact (h.gx i hj).2⟩
    · rw [List.getElem_set_ne e]; exact h.gx j hj
  · rw [List.length_set] at hj
    by_cases e : i = j
    · subst e; rw [List.getElem_set_self]; exact hΦ
    · rw [List.getElem_set_ne e]; exact hΦ2 j _ (fun h => e h.symm) (h.phi j hj)
  · rw [List.length_set] at hj
    by_cases e : i = j
    · subst e; rw [List.getElem_set_self, hm]; exact h.cu i hj
    · rw [List.getElem_set_ne e]; exact h.cu j hj
  · have hig : i < gs.length := by rw [hlen, ← h.plen]; exact hi
    exact .inl ⟨gs[i], List.getElem_mem hig, by rw [← h.gv i hi hig, ← hv]; exact hS k hs⟩
end
theorem info_sl : (Tryd.prog.info? 24).map (fun i => (i.zero, i.size, i.bytes)) = some (some (.slice none 0 0), 1, 24) := by kernel_rfl
theorem wpList_make_rows {w : World} {ops : Array Oper} {rest : List Oper} {o : Oper} {a : Act} {Q : Exit → Act → World → Prop} (hgd : o.guard = none) (l c : Operand) (hop : o.op = Op.makeSlice 58 l c)
    (n : Nat) (hl : a.eval l = .int .i64 (n : Int)) (hc : a.eval c = .int .i64 (n : Int)) (hn : n ≤ 1000)
    (hK : ∀ cs : Array Value, cs.size = n → (∀ j, j < n → cs[j]? = some (.slice none 0 0)) → wpList Tryd.prog ops Q rest (a.put o.dst (.slice (some ⟨w.heap.size, 0, none⟩) n n)) (w.alloc (.cells cs 24))) :
    wpList Tryd.prog ops Q (o :: rest) a w := by
  obtain ⟨i, hi, hz0, hz1, hz2⟩ := info_parts info_sl
  refine wpList_make_cells hgd l c _ hop _ i _ 24 Tryd.underlying58 hi hz0 hz1 hz2 n n hl hc (Nat.le_refl _) (by omega) (by omega) ?_
  refine hK _ (size_madeCells _ _) (fun j hj => ?_)
  unfold madeCells
  simp [Value.cells, hj, Nat.mod_one]
/-- What holds of each, with the same blocks. -/
theorem Sep.conv {lo : Nat} {W : World} {L L' : List Rsc} (h : Sep lo W L) (ho : L'.map Rsc.own = L.map Rsc.own) (hok : ∀ R ∈ L', R.ok W) : Sep lo W L' := by
  refine ⟨hok, fun R hR k hk => ?_, ?_⟩
  · have h1 : R.own ∈ L.map Rsc.own := ho ▸ List.mem_map_of_mem hR
    obtain ⟨R2, h2, h3⟩ := List.mem_map.1 h1
    exact h.2.1 R2 h2 k (h3 ▸ hk)
  · have h1 := (List.pairwise_map (f := Rsc.own) (R := fun a b => ∀ k ∈ a, k ∉ b)).2 h.2.2
    rw [← ho] at h1
    exact (List.pairwise_map (f := Rsc.own) (R := fun a b => ∀ k ∈ a, k ∉ b)).1 h1
def pr0 (b : Bw) : Pr := ⟨b, .slice none 0 0, 0, 0⟩
theorem ApI.start {q ng ck cw : Nat} {Ak Aw : Option Addr} {gs ws : List Bw} {W : World} {cur : Array Value} (hs : Sep q W (rRows q (.slice Ak ng ck) ng (gs.map Bw.v) :: rRows q (.slice Aw ng cw) ng (ws.map Bw.v) :: ((gs.map fun b => rRow q b.v b.xs) ++ ws.map fun b => rRow q b.v b.xs)))
    (hg : gs.length = ng) (hgn : ∀ b ∈ gs, b.xs.length = b.n ∧ b.n ≤ 150000000000000) (hlo : q ≤ W.heap.size) (hc1 : cur.size = ng) (hc2 : ∀ j, j < ng → cur[j]? = some (.slice none 0 0)) :
    ApI q ng ck cw W.heap.size Ak Aw gs ws W (W.alloc (.cells cur 24)) cur (gs.map pr0) (P1 gs 0) := by
  have hb : Below W.heap.size W (W.alloc (.cells cur 24)) := (Below.refl _ _).alloc (Nat.le_refl _) _
  have h1 := hs.add (R' := rBlkR W.heap.size cur) hb hlo (Blk.new _ _ _) (fun k hk => by
    obtain rfl : k = W.heap.size := List.mem_singleton.1 hk
    exact ⟨Nat.le_refl _, by simp⟩)
  have h2 : Sep q (W.alloc (.cells cur 24)) (rRows q (.slice Ak ng ck) ng (gs.map Bw.v) :: rRows q (.slice Aw ng cw) ng (ws.map Bw.v) :: rBlkR W.heap.size cur :: ((gs.map fun b => rRow q b.v b.xs) ++ ws.map fun b => rRow q b.v b.xs)) :=
    h1.perm ((List.Perm.swap _ _ _).trans (List.Perm.cons _ (List.Perm.swap _ _ _)))
  have e0 : ((gs.map pr0).map Pr.g).map Bw.v = gs.map Bw.v := by rw [List.map_map, List.map_map]; rfl
  refine ⟨h2.conv ?_ ?_, by rw [List.length_map]; exact hg, fun j hj hj' => ?_, fun j hj => ?_, fun j hj => ?_, hc1, fun j hj => ?_, Tur.of_below hb, Nat.le_trans hlo hb.size, Nat.le_refl _⟩
  · simp only [ApL, List.map_cons, List.map_append, List.map_map]
    simp only [List.cons.injEq, List.append_cancel_right_eq]
    refine ⟨?_, ?_, ?_, ?_⟩
    all_goals first
      | rfl
      | trivial
      | (apply List.map_congr_left; intro b _; simp [rPr, pr0, rRow, Value.ownBlock])
  · intro R hR
    simp only [ApL, List.mem_cons, List.mem_append, List.mem_map] at hR
    rcases hR with rfl | rfl | rfl | ⟨p, ⟨b, hb', rfl⟩, rfl⟩ | ⟨b, hb', rfl⟩
    · rw [e0]; exact h2.at 0 (by simp)
    · exact h2.at 1 (by simp)
    · exact h2.at 2 (by simp)
    · exact ⟨h2.ok (R := rRow q b.v b.xs) (by simp only [List.mem_cons, List.mem_append, List.mem_map]; exact .inr (.inr (.inr (.inl ⟨b, hb', rfl⟩)))), .inl rfl⟩
    · exact h2.ok (by simp only [List.mem_cons, List.mem_append, List.mem_map]; exact .inr (.inr (.inr (.inr ⟨b, hb', rfl⟩))))
  · rw [List.getElem_map]; rfl
  · rw [List.length_map] at hj; rw [List.getElem_map]; exact hgn _ (List.getElem_mem hj)
  · rw [List.length_map] at hj; rw [List.getElem_map]; exact ⟨fun _ => rfl, fun h => absurd h (Nat.not_lt_zero _), fun _ => rfl⟩
  · rw [List.length_map] at hj; rw [List.getElem_map, hc2 j (by omega)]; rfl
section
variable {q ng ck cw m i k : Nat} {Ak Aw : Option Addr} {gs ws : List Bw} {W wr w1 w2 : World} {cur : Array Value} {ps : List Pr}
/-- Loop 1, one round: the row at i is appended to, what comes of it is stored. -/
theorem ApI.grow (h : ApI q ng ck cw m Ak Aw gs ws W wr cur ps (P1 gs i)) (i_ : i < ps.length) (hlen : gs.length = ng) (hb : Below wr.heap.size wr w1) (v' : Value) (hold : OwO w2 q ps[i].g.v ps[i].g.xs) (hnew : OwO w2 q v' (ps[i].g.xs ++ [mk1 i, mk2 i])) (hg : w1.grownBy w2 ps[i].g.v.ownBlock)
    (hw : (∃ g off cap, ps[i].g.v = .slice (some ⟨g, off, none⟩) ps[i].g.xs.length cap ∧ v' = .slice (some ⟨g, off, none⟩) (ps[i].g.xs.length + 2) cap) ∨ ∃ k, v'.ownBlock = some k ∧ w1.heap.size ≤ k) :
    ApI q ng ck cw m Ak Aw gs ws W (w2.setCell ⟨m, i, none⟩ v') (cur.setIfInBounds i v') (ps.set i ⟨ps[i].g, v', mk1 i, mk2 i⟩) (P1 gs (i + 1)) := by
  have h1 := h.kept hb
  have hpair := ApL.pair h1.sep i i_
  have ht : Tur (fun k => ps[i].g.v.ownBlock = some k) w1 w2 := Tur.of_grown hg (fun _ h => h)
  have hx := (h.gx i i_).1
  have hmo : MoreOk w2 q ps[i].g.v v' ps[i].g.xs.length (mk1 i) (mk2 i) := MoreOk.made hnew hpair.1 hw
  have hvne : v' ≠ .slice none 0 0 := by
    rintro rfl
    obtain ⟨g, off, c, e, _⟩ := hmo
    cases e
  have hpn : ps[i].more = .slice none 0 0 := (h.phi i i_).2.2 (Nat.le_refl _)
  have hs2 := ApL.put h1.sep i i_ ⟨ps[i].g, v', mk1 i, mk2 i⟩ rfl ht (fun k _ hk => by simp only [rPr, List.mem_append]; exact .inl (own_list.2 hk)) ⟨hold, .inr (by rw [← hx]; exact hmo)⟩ (fun k hk => by
    simp only [rPr, List.mem_append, own_list] at hk ⊢
    rcases hk with hk | hk
    · exact ⟨.inl (.inl hk), (hold.lt k hk).2⟩
    · refine ⟨?_, (hmo.own k hk).2⟩
      rcases hw with ⟨g1, o1, c1, e1, e2⟩ | ⟨k', e1, e2⟩
      · rw [e2] at hk; rw [e1]; exact .inl (.inl hk)
      · rw [e1] at hk; cases hk; exact .inr e2) h1.lo
  have hlo2 : q ≤ w2.heap.size := Nat.le_trans h1.lo hg.size
  have hs3 := ApL.putM hs2 i v' hlo2
  have hsz : (w2.setCell ⟨m, i, none⟩ v').heap.size = w2.heap.size := by simp [World.setCell]
  refine ⟨hs3, by rw [List.length_set]; exact h.plen, fun j hj hj' => ?_, fun j hj => ?_, fun j hj => ?_, by simp [h.cs], fun j hj => ?_, ?_, by rw [hsz]; exact hlo2, h.ml⟩
  · rw [List.length_set] at hj
    by_cases e : i = j
    · subst e; rw [List.getElem_set_self]; exact h.gv i hj hj'
    · rw [List.getElem_set_ne e]; exact h.gv j hj hj'
  · rw [List.length_set] at hj
    by_cases e : i = j
    · subst e; rw [List.getElem_set_self]; exact h.gx i hj
    · rw [List.getElem_set_ne e]; exact h.gx j hj
  · rw [List.length_set] at hj
    by_cases e : i = j
    · subst e; rw [List.getElem_set_self]
      exact ⟨(h.phi i hj).1, fun _ => ⟨rfl, rfl, hvne⟩, fun h => absurd h (by omega)⟩
    · rw [List.getElem_set_ne e]
      have h0 := h.phi j hj
      exact ⟨h0.1, fun hj2 => h0.2.1 (by omega), fun hj2 => h0.2.2 (by omega)⟩
  · rw [List.length_set] at hj
    by_cases e : i = j
    · subst e; rw [List.getElem_set_self, Array.getElem?_setIfInBounds_self, if_pos (by rw [h.cs, ← h.plen]; exact hj)]
    · rw [List.getElem_set_ne e, Array.getElem?_setIfInBounds_ne e]; exact h.cu j hj
  · have hig : i < gs.length := by rw [hlen, ← h.plen]; exact i_
    refine Tur.setCell (h1.tur.trans ht (fun k hk => .inl ⟨gs[i], List.getElem_mem hig, by rw [← h.gv i i_ hig]; exact hk⟩)) (.inr h.ml) _
/-- A byte of the row at i is written. -/
theorem ApI.write (h : ApI q ng ck cw m Ak Aw gs ws W wr cur ps (P3 i k)) (i_ : i < ps.length) (hlen : gs.length = ng) {g0 o0 c0 n0 : Nat} (hv : ps[i].g.v = .slice (some ⟨g0, o0, none⟩) n0 c0) (hk : k < n0) :
    ∃ ps', ApI q ng ck cw m Ak Aw gs ws W (wr.setCell ⟨g0, o0 + k, none⟩ (.int .u8 (mkk i k))) cur ps' (P3 i (k + 1)) := by
  have hpair := ApL.pair h.sep i i_
  have hx := (h.gx i i_).1
  have hphi := h.phi i i_
  obtain ⟨⟨⟨aA, an, ac, ax⟩, pm, pm1, pm2⟩, hp⟩ : ∃ p, p = ps[i] := ⟨_, rfl⟩
  have hv' : (⟨aA, an, ac, ax⟩ : Bw).v = .slice (some ⟨g0, o0, none⟩) n0 c0 := by rw [← hv, ← hp]
  rw [← hp] at hpair hx hphi
  injection hv' with e1 e2 e3
  subst e1; subst e2; subst e3
  replace hx : ax.length = an := hx
  have hf : OwOForm wr q g0 o0 ac (.slice (some ⟨g0, o0, none⟩) an ac) ax := OwO.form hpair.1
  have hmore : MoreOk wr q (.slice (some ⟨g0, o0, none⟩) an ac) pm an pm1 pm2 := hpair.2.resolve_left hphi.1.2.2
  refine ⟨ps.set i ⟨⟨some ⟨g0, o0, none⟩, an, ac, ax.set k (mkk i k)⟩, pm, pm1, pm2⟩, h.upd (S := fun j => j = g0) i i_ _ (by rw [← hp]) (by rw [List.length_set]; exact hx) (by rw [← hp]) ⟨hphi.1, fun t ht htk => ?_⟩ (fun j p hj hp => ⟨hp.1, fun t ht htk => hp.2 t ht (htk.elim .inl (fun e => absurd e.1 hj))⟩) (Tur.setCell (S := fun j => j = g0) (p := ⟨g0, o0 + k, none⟩) (Tur.refl _ _) (.inl rfl) _) (fun j hj => by subst hj; rfl) hlen ⟨?_, .inr ?_⟩⟩
  · replace ht : t < (ax.set k (mkk i k)).length := ht
    rw [List.length_set] at ht
    show (ax.set k (mkk i k))[t]'_ = _
    by_cases e : k = t
    · subst e; rw [List.getElem_set_self]
    · rw [List.getElem_set_ne e]
      exact hphi.2 t ht (htk.elim .inl (fun e => .inr ⟨e.1, by omega⟩))
  · exact .inr ⟨g0, o0, ac, hf.set k (by rw [hx]; exact hk) _⟩
  · exact hmore.poke k hk _
end
section
variable {q ng ck cw m : Nat} {Ak Aw : Option Addr} {gs ws : List Bw} {W wr w1 w2 : World} {cur : Array Value} {ps : List Pr} {Φ : Nat → Pr → Prop}
/-- The parts of the row at i, as the walk wants them. -/
theorem ApI.at (h : ApI q ng ck cw m Ak Aw gs ws W wr cur ps Φ) (i : Nat) (hi : i < ng) : ∃ (g : Nat) (A : Option Addr) (n c : Nat) (xs : List Int) (hi' : i < ps.length), Ak = some ⟨g, 0, none⟩ ∧ g < wr.heap.size ∧ wr.cell? ⟨g, i, none⟩ = some (.slice A n c) ∧ ps[i].g = ⟨A, n, c, xs⟩ ∧ xs.length = n ∧ n ≤ 150000000000000 ∧ OwO wr q (.slice A n c) xs := by
  have hi' : i < ps.length := by rw [h.plen]; exact hi
  obtain ⟨gk, hAk, hgk, ck0⟩ := good_cell (gs := ps.map Pr.g) (show wr.ownsRow q 24 1 (.slice Ak ng ck) ng ((ps.map Pr.g).map Bw.v) from h.sep.at 0 (by simp)) i (by simpa using hi')
  rw [List.getElem_map] at ck0
  have hrow := (ApL.pair h.sep i hi').1
  have hgx := h.gx i hi'
  obtain ⟨⟨A, n, c, xs⟩, hp⟩ : ∃ p, p = ps[i].g := ⟨_, rfl⟩
  rw [← hp] at ck0 hrow hgx
  exact ⟨gk, A, n, c, xs, hi', hAk, hgk, ck0, hp.symm, hgx.1, hgx.2, hrow⟩
theorem ApI.wat (h : ApI q ng ck cw m Ak Aw gs ws W wr cur ps Φ) (hw : ws.length = ng) (i : Nat) (hi : i < ng) : ∃ (g : Nat) (A : Option Addr) (n c : Nat) (xs : List Int) (hi' : i < ws.length), Aw = some ⟨g, 0, none⟩ ∧ wr.cell? ⟨g, i, none⟩ = some (.slice A n c) ∧ ws[i] = ⟨A, n, c, xs⟩ ∧ OwO wr q (.slice A n c) xs := by
  have hi' : i < ws.length := by rw [hw]; exact hi
  obtain ⟨gk, hAk, hgk, ck0⟩ := good_cell (show wr.ownsRow q 24 1 (.slice Aw ng cw) ng (ws.map Bw.v) from h.sep.at 1 (by simp)) i hi'
  have hrow := ApL.want h.sep i hi'
  obtain ⟨⟨A, n, c, xs⟩, hp⟩ : ∃ p, p = ws[i] := ⟨_, rfl⟩
  rw [← hp] at ck0 hrow
  exact ⟨gk, A, n, c, xs, hi', hAk, ck0, hp.symm, hrow⟩
theorem ApI.mat (h : ApI q ng ck cw m Ak Aw gs ws W wr cur ps Φ) (i : Nat) (hi : i < ng) : ∃ hi' : i < ps.length, wr.cell? ⟨m, i, none⟩ = some ps[i].more ∧ wr.frozen? ⟨m, i, none⟩ = false := by
  have hi' : i < ps.length := by rw [h.plen]; exact hi
  have hb : Blk wr m 24 cur := h.sep.at 2 (by simp)
  exact ⟨hi', by rw [hb.cell i]; exact h.cu i hi', hb.frozen i⟩
end
section
variable {q ng ck cw m : Nat} {Ak Aw : Option Addr} {gs ws : List Bw} {W wr : World} {cur : Array Value} {ps : List Pr} {Φ : Nat → Pr → Prop}
theorem ApI.cell (h : ApI q ng ck cw m Ak Aw gs ws W wr cur ps Φ) (i : Nat) (hi : i < ps.length) {g n c : Nat} {A : Option Addr} {xs : List Int} (hp : ps[i].g = ⟨A, n, c, xs⟩) (hA : Ak = some ⟨g, 0, none⟩) : wr.cell? ⟨g, i, none⟩ = some (.slice A n c) ∧ OwO wr q (.slice A n c) xs := by
  obtain ⟨g', A', n', c', xs', hi', e1, _, hc, e2, _, _, ho⟩ := h.at i (by rw [← h.plen]; exact hi)
  rw [hA] at e1
  cases e1
  rw [hp] at e2
  cases e2
  exact ⟨hc, ho⟩
theorem ApI.wcell (h : ApI q ng ck cw m Ak Aw gs ws W wr cur ps Φ) (i : Nat) (hi : i < ws.length) {g n c : Nat} {A : Option Addr} {xs : List Int} (hp : ws[i] = ⟨A, n, c, xs⟩) (hA : Aw = some ⟨g, 0, none⟩) : wr.cell? ⟨g, i, none⟩ = some (.slice A n c) ∧ OwO wr q (.slice A n c) xs := by
  obtain ⟨gk, hAk, hgk, ck0⟩ := good_cell (show wr.ownsRow q 24 1 (.slice Aw ng cw) ng (ws.map Bw.v) from h.sep.at 1 (by simp)) i hi
  have hrow := ApL.want h.sep i hi
  rw [hp] at ck0 hrow
  rw [hA] at hAk
  cases hAk
  exact ⟨ck0, hrow⟩
end
theorem OwO.atPos {W : World} {base n c : Nat} {A : Option Addr} {xs : List Int} (h : OwO W base (.slice A n c) xs) (hx : xs.length = n) (hn : 0 < n) : ∃ g o, A = some ⟨g, o, none⟩ ∧ ∀ k, k < n → ∃ hk : k < xs.length, W.cell? ⟨g, o + k, none⟩ = some (.int .u8 xs[k]) ∧ W.frozen? ⟨g, o + k, none⟩ = false := by
  rcases h with ⟨_, e⟩ | ⟨g, o, c', h⟩
  · rw [e] at hx; simp at hx; omega
  · have e := h.val
    injection e with e1 e2 e3
    exact ⟨g, o, e1, fun k hk => ⟨by omega, h.cells k (by omega), (h.room k (by have := h.fits; omega)).2⟩⟩
set_option maxHeartbeats 8000000 in
set_option maxRecDepth 100000 in
theorem apart_any (q ng ck cw : Nat) (Ak Aw : Option Addr) (gs ws : List Bw) (W : World)
    (hs : Sep q W (rRows q (.slice Ak ng ck) ng (gs.map Bw.v) :: rRows q (.slice Aw ng cw) ng (ws.map Bw.v) :: ((gs.map fun b => rRow q b.v b.xs) ++ ws.map fun b => rRow q b.v b.xs)))
    (hg : gs.length = ng) (hw : ws.length = ng) (hsame : gs.map Bw.xs = ws.map Bw.xs) (hgn : ∀ b ∈ gs, b.xs.length = b.n ∧ b.n ≤ 150000000000000) (hwn : ∀ b ∈ ws, b.xs.length = b.n) (hlo : q ≤ W.heap.size) (hng : ng ≤ 1000) :
    Calls Tryd.prog 43 #[.slice Ak ng ck, .slice Aw ng cw] W fun e w' => e = .returned (.bool true) ∧ Tur (SG gs) W w' := by
  have HG := Lib.hid hg
  have HW := Lib.hid hw
  have HSM := Lib.hid hsame
  have HWN := Lib.hid hwn
  have H0 := Lib.hid (fun (cs : Array Value) (h1 : cs.size = ng) (h2 : ∀ j, j < ng → cs[j]? = some (.slice none 0 0)) => ApI.start (Ak := Ak) (Aw := Aw) hs hg hgn hlo h1 h2)
  clear hs hg hw hsame hwn hgn
  go_enter Tryd.func43, Tryd.ntmps43
  go_wp2_with (with_reducible refine wpList_make_rows rfl (.tmp 20) (.tmp 20) rfl ng rfl rfl hng ?_; intro cs hcs1 hcs2)
  have H1 := Lib.hid (H0.out cs hcs1 hcs2)
  clear hcs1 hcs2 H0
  generalize W.alloc (.cells cs 24) = w0 at H1 ⊢
  go_loopw [6] (fun t6 wr => ∃ i : Nat, t6 = .int .i64 (i : Int) ∧ i ≤ ng ∧ Hid (∃ cur ps, ApI q ng ck cw W.heap.size Ak Aw gs ws W wr cur ps (P1 gs i))) (fun t6 _ => ng - (intOf t6).toNat)
  case atStart => exact ⟨0, rfl, Nat.zero_le _, Lib.hid ⟨_, _, H1.out⟩⟩
  case round =>
    obtain ⟨i, rfl, hi, HP0⟩ := hrel
    obtain ⟨cur, ps, hP⟩ := HP0.out
    have HP := Lib.hid hP
    rename World => wr
    by_cases hin : i < ng
    · obtain ⟨gk, aA, an, ac, ax, hip, hAk, hgk, ck0, hpi, hax, han, hrow⟩ := hP.at i hin
      obtain ⟨_, cm0, fm0⟩ := hP.mat i hin
      have hmo := (hP.phi i hip).2.2 (Nat.le_refl _)
      rw [hmo] at cm0
      subst hAk
      have hlo2 := hP.lo
      have hlm : W.heap.size < wr.heap.size := (show Blk wr W.heap.size 24 cur from hP.sep.at 2 (by simp)).lt
      have HPI := Lib.hid hpi
      have HAX := Lib.hid hax
      have HAC := Lib.hid (show OwO (wr.alloc (.cells #[.int .u8 (mk1 i), .int .u8 (mk2 i)] 5)) q (.slice aA an ac) ax from hrow.kept (S := fun _ => False) (Tur.of_below ((Below.refl wr.heap.size wr).alloc (Nat.le_refl _) _)) (fun _ _ h => h))
      have HC2 := Lib.hid (show CellsAt (wr.alloc (.cells #[.int .u8 (mk1 i), .int .u8 (mk2 i)] 5)) (some ⟨wr.heap.size, 0, none⟩) (bvs [mk1 i, mk2 i]) from cells_of_blk (more := []) (Blk.new wr 5 #[.int .u8 (mk1 i), .int .u8 (mk2 i)]) rfl)
      have HNE := Lib.hid (show some W.heap.size ≠ (Value.slice aA an ac).ownBlock from fun e => ApL.ne_m hP.sep i hip W.heap.size (by simp only [rPr, List.mem_append, own_list]; exact .inl (by rw [hpi]; exact e.symm)) rfl)
      have CM := Lib.hid (show (wr.alloc (.cells #[.int .u8 (mk1 i), .int .u8 (mk2 i)] 5)).cell? ⟨W.heap.size, i, none⟩ = some (.slice none 0 0) ∧ (wr.alloc (.cells #[.int .u8 (mk1 i), .int .u8 (mk2 i)] 5)).frozen? ⟨W.heap.size, i, none⟩ = false from by
        have hb : Below wr.heap.size wr (wr.alloc (.cells #[.int .u8 (mk1 i), .int .u8 (mk2 i)] 5)) := (Below.refl _ _).alloc (Nat.le_refl _) _
        exact ⟨(hb.cell (p := ⟨W.heap.size, i, none⟩) hlm).trans cm0, (hb.frozen (p := ⟨W.heap.size, i, none⟩) hlm).trans fm0⟩)
      clear hP HP0 hpi hax hrow hmo cm0 fm0
      have e1 : IntKind.u8.wrap (7 * (i : Int) + -3 + 1) = mk1 i := rfl
      have e2 : IntKind.u8.wrap (7 * (i : Int) + -6 + 1) = mk2 i := rfl
      go_wp2_with (first
        | (at_builtin; refine wpList_append_keep2 rfl _ _ rfl q (.slice aA an ac) ax rfl HAC.out ⟨wr.heap.size, 0, none⟩ 2 2 [mk1 i, mk2 i] rfl rfl HC2.out (by omega) (by have := HAX.out; omega) (Nat.le_trans hlo2 (by simp)) ?_
           intro v0 w6 hold hnew hg hv
           obtain ⟨v', hv'⟩ : ∃ v', v' = v0 := ⟨_, rfl⟩
           obtain ⟨A6, n6, c6, hv6⟩ : ∃ A6 n6 c6, v' = Value.slice A6 n6 c6 := by
             rw [hv']
             rcases hnew with ⟨e, _⟩ | ⟨g6, o6, c6, hf6⟩
             · exact ⟨_, _, _, e⟩
             · exact ⟨_, _, _, hf6.val⟩
           subst hv'
           subst hv6
           obtain ⟨cm6, fm6⟩ := grown_cell hg (by simp; omega) HNE.out CM.out.1 CM.out.2
           have HJ := Lib.hid (show ApI q ng ck cw W.heap.size (some ⟨gk, 0, none⟩) Aw gs ws W (w6.setCell ⟨W.heap.size, i, none⟩ (.slice A6 n6 c6)) (cur.setIfInBounds i (.slice A6 n6 c6)) (ps.set i ⟨ps[i].g, .slice A6 n6 c6, mk1 i, mk2 i⟩) (P1 gs (i + 1)) from
             HP.out.grow hip HG.out ((Below.refl wr.heap.size wr).alloc (Nat.le_refl _) _) (.slice A6 n6 c6) (by rw [HPI.out]; exact hold) (by rw [HPI.out]; exact hnew) (by rw [HPI.out]; exact hg) (by rw [HPI.out]; exact hv))
           clear hold hnew hg hv)
        | fail)
      go_roundw
      case rel => exact ⟨i + 1, by go_num, by omega, Lib.hid ⟨_, _, HJ.out⟩⟩
      case measure => simp [intOf]; omega
    · obtain rfl : i = ng := by omega
      clear hin hP HP0
      go_wp2
      go_loopw [7] (fun t7 wz => ∃ j : Nat, t7 = .int .i64 (j : Int) ∧ j ≤ i ∧ Hid (ApI q i ck cw W.heap.size Ak Aw gs ws W wz cur ps (P1 gs i))) (fun t7 _ => i - (intOf t7).toNat)
      case atStart => exact ⟨0, rfl, Nat.zero_le _, HP⟩
      case round =>
        obtain ⟨j, rfl, hj, HPz⟩ := hrel
        have hP := HPz.out
        rename World => wz
        by_cases hjn : j < i
        · obtain ⟨gk, aA, an, ac, ax, hip, hAk, hgk, ck0, hpi, hax, han, hrow⟩ := hP.at j hjn
          obtain ⟨gw, dA, dn, dc, dx, hiw, hAw, cw0, hwi, hwrow⟩ := hP.wat HW.out j hjn
          have hjg : j < gs.length := by rw [HG.out]; exact hjn
          have hdx : dx = ax := by
            have h1 := (hP.phi j hip).1 hjg
            rw [hpi] at h1
            have h2 := congrArg (fun l => l[j]?) HSM.out
            simp only [List.getElem?_map, List.getElem?_eq_getElem hjg, List.getElem?_eq_getElem hiw, Option.map_some, Option.some.injEq] at h2
            rw [hwi] at h2
            exact (h1.trans h2).symm
          subst hdx
          have hdn : dn = an := by
            have h1 := HWN.out _ (List.getElem_mem hiw)
            rw [hwi] at h1
            exact h1.symm.trans hax
          subst hdn
          subst hAk
          subst hAw
          have HPI := Lib.hid hpi
          have HWI := Lib.hid hwi
          have HAX := Lib.hid hax
          clear hpi hwi hax hrow hwrow hP
          go_wp2
          go_quiet (fail)
          have HP5 := Lib.hid (HPz.out.kept (below_drewN (Below.refl wz.heap.size wz) nq))
          generalize wz.drewN nq = w5 at HP5 ⊢
          clear ck0 cw0
          go_wp2
          go_loopw [8] (fun t8 wy => ∃ k : Nat, t8 = .int .i64 (k : Int) ∧ k ≤ dn ∧ Hid (ApI q i ck cw W.heap.size (some ⟨gk, 0, none⟩) (some ⟨gw, 0, none⟩) gs ws W wy cur ps (P1 gs i))) (fun t8 _ => dn - (intOf t8).toNat)
          case atStart => exact ⟨0, rfl, Nat.zero_le _, HP5⟩
          case round =>
            obtain ⟨k, rfl, hk, HPy⟩ := hrel
            rename World => wy
            obtain ⟨ck1, hrow⟩ := HPy.out.cell j hip HPI.out rfl
            obtain ⟨cw1, hwrow⟩ := HPy.out.wcell j hiw HWI.out rfl
            by_cases hkn : k < dn
            · obtain ⟨ga, oa, rfl, hca⟩ := hrow.atPos HAX.out (by omega)
              obtain ⟨gd, od, rfl, hcd⟩ := hwrow.atPos HAX.out (by omega)
              obtain ⟨hkx, ca, _⟩ := hca k hkn
              obtain ⟨_, cd, _⟩ := hcd k hkn
              generalize dx[k] = xk at ca cd
              clear hca hcd hrow hwrow
              go_wp2
              go_quiet (fail)
              have HPx := Lib.hid (HPy.out.kept (below_drewN (Below.refl wy.heap.size wy) nq))
              generalize wy.drewN nq = w4 at HPx ⊢
              clear ck1 cw1 ca cd
              go_wp2
              go_roundw
              case rel => exact ⟨k + 1, by go_num, by omega, HPx⟩
              case measure => simp [intOf]; omega
            · clear hrow hwrow
              go_wp2
              go_roundw
              case rel => exact ⟨j + 1, by go_num, by omega, HPy⟩
              case measure => simp [intOf]; omega
        · obtain rfl : j = i := by omega
          clear hjn hP
          have HP3 := Lib.hid (show ApI q j ck cw W.heap.size Ak Aw gs ws W wz cur ps (P3 0 0) from HPz.out.weak (fun t ht h => ⟨h.2.1 (by have := HPz.out.plen; omega), fun t' _ h' => by omega⟩))
          go_wp2
          go_loopw [9] (fun t9 wy => ∃ t : Nat, t9 = .int .i64 (t : Int) ∧ t ≤ j ∧ Hid (∃ ps, ApI q j ck cw W.heap.size Ak Aw gs ws W wy cur ps (P3 t 0))) (fun t9 _ => j - (intOf t9).toNat)
          case atStart => exact ⟨0, rfl, Nat.zero_le _, Lib.hid ⟨_, HP3.out⟩⟩
          case round =>
            obtain ⟨t, rfl, ht, HPy0⟩ := hrel
            obtain ⟨ps2, hPy⟩ := HPy0.out
            have HPy := Lib.hid hPy
            rename World => wy
            clear HPy0
            by_cases htn : t < j
            · obtain ⟨gk, aA, an, ac, ax, hip, hAk, hgk, ck0, hpi, hax, han, hrow⟩ := hPy.at t htn
              subst hAk
              have HPI := Lib.hid (show ps2[t].g.v = .slice aA an ac by rw [hpi])
              clear hpi hax hrow hPy
              go_wp2
              go_loopw [10] (fun t10 wx => ∃ k : Nat, t10 = .int .i64 (k : Int) ∧ k ≤ an ∧ Hid (∃ ps, (∃ h : t < ps.length, ps[t].g.v = .slice aA an ac) ∧ ApI q j ck cw W.heap.size (some ⟨gk, 0, none⟩) Aw gs ws W wx cur ps (P3 t k))) (fun t10 _ => an - (intOf t10).toNat)
              case atStart => exact ⟨0, rfl, Nat.zero_le _, Lib.hid ⟨_, ⟨hip, HPI.out⟩, HPy.out⟩⟩
              case round =>
                obtain ⟨k, rfl, hk, HPx0⟩ := hrel
                obtain ⟨ps3, ⟨hi3, hv3⟩, hPx⟩ := HPx0.out
                rename World => wx
                have HPx := Lib.hid hPx
                obtain ⟨gk2, bA, bn, bc, bx, _, hk2, _, ck1, hpi3, hbx, _, hrow⟩ := hPx.at t htn
                cases hk2
                rw [hpi3] at hv3
                injection hv3 with ev1 ev2 ev3
                subst ev1; subst ev2; subst ev3
                have HP3I := Lib.hid (show ps3[t].g.v = .slice bA bn bc by rw [hpi3])
                clear HPx0 hPx hpi3
                by_cases hkn : k < bn
                · obtain ⟨ga, oa, rfl, hca⟩ := hrow.atPos hbx (by omega)
                  obtain ⟨hkx, ca, fa⟩ := hca k hkn
                  generalize bx[k] = xk at ca
                  have HJ := Lib.hid (HPx.out.write hi3 HG.out HP3I.out hkn)
                  have e3 : IntKind.u8.wrap (7 * (t : Int) + 3 * (k : Int) + 1) = mkk t k := rfl
                  clear hca hrow hbx
                  go_wp2
                  go_roundw
                  case rel =>
                    obtain ⟨ps4, h4⟩ := HJ.out
                    have hi4 : t < ps4.length := by rw [h4.plen]; exact htn
                    have hg4 : t < gs.length := by rw [HG.out]; exact htn
                    exact ⟨k + 1, by go_num, by omega, Lib.hid ⟨ps4, ⟨hi4, (h4.gv t hi4 hg4).trans ((HPx.out.gv t hi3 hg4).symm.trans HP3I.out)⟩, h4⟩⟩
                  case measure => simp [intOf]; omega
                · have HJ := Lib.hid (show ApI q j ck cw W.heap.size (some ⟨gk, 0, none⟩) Aw gs ws W wx cur ps3 (P3 (t + 1) 0) from HPx.out.weak (fun s hs h => ⟨h.1, fun u hu hh => h.2 u hu (by
                    by_cases e : s = t
                    · subst e
                      refine .inr ⟨rfl, ?_⟩
                      have h1 := (HPx.out.gx s hs).1
                      have h2 := HP3I.out
                      have h3 : ps3[s].g.n = bn := by
                        generalize ps3[s].g = gg at h2
                        injection h2
                      omega
                    · exact .inl (by omega))⟩))
                  clear hrow hbx
                  go_wp2
                  go_roundw
                  case rel => exact ⟨t + 1, by go_num, by omega, Lib.hid ⟨_, HJ.out⟩⟩
                  case measure => simp [intOf]; omega
            · obtain rfl : t = j := by omega
              clear htn hPy
              go_wp2
              go_loopw [11] (fun t11 wx => ∃ s : Nat, t11 = .int .i64 (s : Int) ∧ s ≤ t ∧ Hid (ApI q t ck cw W.heap.size Ak Aw gs ws W wx cur ps2 (P3 t 0))) (fun t11 _ => t - (intOf t11).toNat)
              case atStart => exact ⟨0, rfl, Nat.zero_le _, HPy⟩
              case round =>
                obtain ⟨s, rfl, hs, HPx⟩ := hrel
                rename World => wx
                have hP := HPx.out
                by_cases hsn : s < t
                · obtain ⟨gk, aA, an, ac, ax, hip, hAk, hgk, ck0, hpi, hax, han, hrow⟩ := hP.at s hsn
                  obtain ⟨_, cm0, fm0⟩ := hP.mat s hsn
                  have hphi := hP.phi s hip
                  have hmore := (ApL.pair hP.sep s hip).2.resolve_left hphi.1.2.2
                  rw [hphi.1.1, hphi.1.2.1, hpi] at hmore
                  obtain ⟨gm, om, cm, hm1, _, _, hm3, hm4, hm5, _⟩ := hmore
                  rw [hm1] at cm0
                  have hm6 : wx.cell? ⟨gm, om + (an + 1), none⟩ = some (.int .u8 (mk2 s)) := hm5
                  have hm4 : wx.cell? ⟨gm, om + an, none⟩ = some (.int .u8 (mk1 s)) := hm4
                  have hm5 : wx.cell? ⟨gm, om + an + 1, none⟩ = some (.int .u8 (mk2 s)) := hm5
                  have cm0 : wx.cell? ⟨W.heap.size, s, none⟩ = some (.slice (some ⟨gm, om, none⟩) (an + 2) cm) := cm0
                  subst hAk
                  have HPI := Lib.hid hpi
                  have HAX := Lib.hid hax
                  have HMK := Lib.hid (show ∀ u (h : u < ax.length), ax[u] = mkk s u from fun u hu => by
                    have := hphi.2 u (by rw [hpi]; exact hu) (.inl hsn)
                    simp only [hpi] at this
                    exact this)
                  have e1 : IntKind.u8.wrap (7 * (s : Int) + -3 + 1) = mk1 s := rfl
                  have e2 : IntKind.u8.wrap (7 * (s : Int) + -6 + 1) = mk2 s := rfl
                  clear hpi hax hrow hP hphi hm1 hm3 fm0
                  go_wp2
                  go_loop [13] (fun t13 => ∃ k : Nat, t13 = .int .i64 (k : Int) ∧ k ≤ an) (fun t13 => an - (intOf t13).toNat)
                  case atStart => exact ⟨0, rfl, Nat.zero_le _⟩
                  case round =>
                    obtain ⟨k, rfl, hk⟩ := hrel
                    obtain ⟨ck1, hrow⟩ := HPx.out.cell s hip HPI.out rfl
                    by_cases hkn : k < an
                    · obtain ⟨ga, oa, rfl, hca⟩ := hrow.atPos HAX.out (by omega)
                      obtain ⟨hkx, ca, _⟩ := hca k hkn
                      rw [HMK.out k hkx] at ca
                      have e3 : IntKind.u8.wrap (7 * (s : Int) + 3 * (k : Int) + 1) = mkk s k := rfl
                      clear hca hrow
                      go_wp2
                      go_round
                      case rel => exact ⟨k + 1, by go_num, by omega⟩
                      case measure => simp [intOf]; omega
                    · clear hrow
                      go_wp2
                      go_roundw
                      case rel => exact ⟨s + 1, by go_num, by omega, HPx⟩
                      case measure => simp [intOf]; omega
                · have HT := Lib.hid hP.tur
                  clear hP
                  go_wp2
                  go_ret
                  exact ⟨rfl, HT.out⟩
end Go.Proofs.YtdgokebablhoiaaDoor
