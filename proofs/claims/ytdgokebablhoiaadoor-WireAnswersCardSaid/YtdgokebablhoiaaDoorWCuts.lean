/- The law WireCuts: the walk. -/
import Derived.Test.YtdgokebablhoiaaDoorWRows
import Derived.Test.YtdgokebablhoiaaDoorWMany
namespace Go.Proofs.YtdgokebablhoiaaDoor
open Go.RowKit

theorem info_row : (Tryd.prog.info? 24).map (fun i => (i.zero, i.size, i.bytes)) = some (some (.slice none 0 0), 1, 24) := by kernel_rfl
/-- The frames of rows. -/
def grow (gs : List Bw) : List Int := gs.flatMap fun b => frE b.xs
theorem grow_snoc (gs : List Bw) (b : Bw) : grow (gs ++ [b]) = grow gs ++ frE b.xs := by unfold grow; rw [List.flatMap_append]; simp
theorem grow_cons (b : Bw) (gs : List Bw) : grow (b :: gs) = frE b.xs ++ grow gs := rfl
/-- Rows that were taken: each one a body that may be. -/
structure CutR (w wr : World) (l c ng cg : Nat) (A Ag : Option Addr) (gs : List Bw) : Prop where
  len : (grow gs).length = l
  ow : Ow wr w.heap.size (.slice A l c) (grow gs)
  glen : gs.length = ng
  good : wr.ownsRow w.heap.size 24 1 (.slice Ag ng cg) ng (gs.map Bw.v)
  ok : ∀ b ∈ gs, b.Ok w ∧ 1 ≤ b.n ∧ b.n ≤ 65536
  below : Below w.heap.size w wr
theorem own_types {w : World} {b1 b2 : Nat} {e1 e2 : TypeId} {v1 v2 : Value} {n1 n2 : Nat} {x1 x2 : List Value} (h1 : w.ownsRow b1 e1 1 v1 n1 x1) (h2 : w.ownsRow b2 e2 1 v2 n2 x2) (he : e1 ≠ e2) : v2.ownBlock = none ∨ v2.ownBlock ≠ v1.ownBlock := by
  rcases h2.2 with ⟨rfl, _⟩ | ⟨g2, cap2, cur2, rfl, _, hg2, _⟩
  · exact .inl rfl
  · right
    intro e
    rcases h1.2 with ⟨rfl, _⟩ | ⟨g1, cap1, cur1, rfl, _, hg1, _⟩
    · simp [Value.ownBlock] at e
    · simp [Value.ownBlock] at e
      subst e
      rw [hg1] at hg2
      injection hg2 with h
      injection h with _ h
      exact he h
section
variable {w wr w2 : World} {l c ng cg : Nat} {A Ag : Option Addr} {gs : List Bw}
theorem CutR.kept (h : CutR w wr l c ng cg A Ag gs) (hb : Below wr.heap.size wr w2) : CutR w w2 l c ng cg A Ag gs :=
  ⟨h.len, ownsRow_tur h.ow (Tur.of_below (S := fun _ => False) hb) (fun _ _ h => h), h.glen, ownsRow_tur h.good (Tur.of_below (S := fun _ => False) hb) (fun _ _ h => h), h.ok, h.below.trans (hb.mono h.below.size)⟩
end
/-- The bad end. -/
def badX (b : Bool) : List Int := if b then [0, 1, 0, 1, 7] else []
theorem cuts_next {F R : List Int} {gs : List Bw} {bad : Bool} (h : F ++ R = grow gs ++ badX bad) (hok : ∀ b ∈ gs, b.xs.length = b.n ∧ 1 ≤ b.n ∧ b.n ≤ 65536) :
    (∃ b gs' F', gs = b :: gs' ∧ nextP 65536 F = .yes b.xs F' ∧ F' ++ R = grow gs' ++ badX bad) ∨ (nextP 65536 F = .wait ∧ (R = [] → gs = [] ∧ bad = false ∧ F = [])) ∨ (nextP 65536 F = .bad ∧ gs = [] ∧ bad = true) := by
  match gs, hok, h with
  | b :: gs', hok, h =>
    obtain ⟨h1, h2, h3⟩ := hok b (List.mem_cons_self ..)
    rw [grow_cons, List.append_assoc] at h
    rcases nextP_step 65536 b.xs F R _ h (by omega) (by omega) (by omega) with ⟨F', e1, e2, _⟩ | ⟨e1, e2⟩
    · exact .inl ⟨b, gs', F', rfl, e1, e2⟩
    · refine .inr (.inl ⟨e1, fun hR => ?_⟩)
      have := congrArg List.length h
      rw [hR, List.append_nil, List.length_append, frE_len] at this
      omega
  | [], _, h =>
    have h : F ++ R = badX bad := h
    cases bad with
    | false =>
      obtain ⟨rfl, rfl⟩ := List.append_eq_nil_iff.1 h
      exact .inr (.inl ⟨rfl, fun _ => ⟨rfl, rfl, rfl⟩⟩)
    | true =>
      have h : F ++ R = [0, 1, 0, 1, 7] := h
      match F, h with
      | [], h => exact .inr (.inl ⟨rfl, fun hR => by rw [hR] at h; cases h⟩)
      | [_], h => exact .inr (.inl ⟨rfl, fun hR => by rw [hR] at h; cases h⟩)
      | [_, _], h => exact .inr (.inl ⟨rfl, fun hR => by rw [hR] at h; cases h⟩)
      | [_, _, _], h => exact .inr (.inl ⟨rfl, fun hR => by rw [hR] at h; cases h⟩)
      | a :: b :: c :: d :: r, h =>
        injection h with h1 h
        injection h with h2 h
        injection h with h3 h
        injection h with h4 h
        subst h1; subst h2; subst h3; subst h4
        exact .inr (.inr ⟨by
          show (if be4 0 1 0 1 < 1 ∨ (65536 : Int) < (be4 0 1 0 1 : Int) then NextO.bad else (if r.length < be4 0 1 0 1 then .wait else .yes (r.take (be4 0 1 0 1)) (r.drop (be4 0 1 0 1)))) = NextO.bad
          rw [if_pos (.inr (by decide))], rfl, rfl⟩)

theorem slice_one (A : Option Addr) (n c : Nat) : ∀ u ∈ [Value.slice A n c], u.oneCell' = true := fun u hu => by
  rw [List.mem_singleton] at hu
  subst hu
  rfl
/-- append of one row onto rows. -/
theorem wpList_append_row {w : World} {ops : Array Oper} {rest : List Oper} {o : Oper} {a : Act} {Q : Exit → Act → World → Prop} (hgd : o.guard = none) (s x : Operand)
    (ho : o.op = .call { callee := .builtin .append, args := #[s, x], argTypes := #[58, 58] })
    (base : Nat) (v : Value) (n : Nat) (xs : List Value) (hs : a.eval s = v) (hown : w.ownsRow base 24 1 v n xs)
    (ad : Addr) (A : Option Addr) (m c : Nat) (hx : a.eval x = .slice (some ad) 1 1) (hnews : CellsAt w (some ad) [.slice A m c])
    (h63 : n ≤ 1000) (hbase : base ≤ w.heap.size)
    (h : ∀ v' w', w'.ownsRow base 24 1 v' (n + 1) (xs ++ [.slice A m c]) → w.grownBy w' v.ownBlock → (v'.ownBlock = v.ownBlock ∨ v'.ownBlock = some w.heap.size) → wpList Tryd.prog ops Q rest (a.put o.dst v') w') :
    wpList Tryd.prog ops Q (o :: rest) a w := by
  obtain ⟨i0, hi, hz0, hz1, hz2⟩ := info_parts info_row
  exact wpList_append_cells w hgd s x _ ho base _ i0 _ 24 Tryd.underlying58 hi hz0 hz1 hz2 rfl v n xs hs hown (some ad) 1 1 (fun h => by cases h) [.slice A m c] hx rfl hnews (slice_one _ _ _) (by unfold maxLen; omega) (by omega) hbase h
/-- What stands when the rows are laid: the bytes to feed, the rows. -/
structure CutE (w w1 : World) (gs : List Bw) (bad : Bool) (L c ng cg : Nat) (A Ag : Option Addr) : Prop where
  len : (grow gs ++ badX bad).length = L
  cells : CellsAt w1 A (bvs (grow gs ++ badX bad))
  cap : L ≤ c
  glen : gs.length = ng
  good : w1.ownsRow w.heap.size 24 1 (.slice Ag ng cg) ng (gs.map Bw.v)
  ok : ∀ b ∈ gs, b.Ok w ∧ 1 ≤ b.n ∧ b.n ≤ 65536
  below : Below w.heap.size w w1
theorem grow_zero (gs : List Bw) (bad : Bool) (h : (grow gs ++ badX bad).length = 0) : gs.length = 0 ∧ bad = false := by
  rw [List.length_append] at h
  refine ⟨?_, ?_⟩
  · cases gs with
    | nil => rfl
    | cons b gs => rw [grow_cons, List.length_append, frE_len] at h; omega
  · cases bad with
    | false => rfl
    | true => simp [badX] at h
/-- What loops 2 and 3 keep: the bytes at and behind 'at' are still to be fed. -/
structure CutQ (w w1 wr : World) (E : List Int) (gs : List Bw) (bad : Bool) (t at_ : Nat) (F : List Int) : Prop where
  row : F ++ E.drop at_ = grow (gs.drop t) ++ badX bad
  fm : ∃ v, Fm wr w1.heap.size w1.heap.size 65536 v F
  below1 : Below w1.heap.size w1 wr
  below : Below w.heap.size w w1
theorem grow_le (gs : List Bw) (n : Nat) : (grow (gs.drop n)).length ≤ (grow gs).length := by
  have h : (grow (gs.take n ++ gs.drop n)).length = (grow gs).length := by rw [List.take_append_drop]
  unfold grow at h ⊢
  rw [List.flatMap_append, List.length_append] at h
  omega
theorem grow_wf (gs : List Bw) (W : World) (h : ∀ b ∈ gs, b.Ok W ∧ 1 ≤ b.n ∧ b.n ≤ 65536) : ∀ x ∈ grow gs, (Lit.int .u8 x).wf = true := fun x hx => by
  unfold grow at hx
  obtain ⟨b, hb, hx⟩ := List.mem_flatMap.1 hx
  obtain ⟨h1, h2, h3⟩ := h b hb
  unfold frE at hx
  rcases List.mem_append.1 hx with e | e
  · exact len4_wf _ (by rw [h1.len]; omega) x e
  · exact h1.wf x e
theorem badX_wf (b : Bool) : ∀ x ∈ badX b, (Lit.int .u8 x).wf = true := fun x hx => by
  unfold badX at hx
  split at hx
  · simp only [List.mem_cons, List.mem_nil_iff, or_false] at hx
    rcases hx with rfl | rfl | rfl | rfl | rfl <;> rfl
  · cases hx
section
variable {w w1 wr w2 : World} {E F : List Int} {gs : List Bw} {bad : Bool} {t at_ k : Nat}
theorem CutQ.feed (h : CutQ w w1 wr E gs bad t at_ F) {v v' : Value} (hv : Fm wr w1.heap.size w1.heap.size 65536 v F) (hf : Fm w2 w1.heap.size w1.heap.size 65536 v' (F ++ (E.drop at_).take k)) (hw : WrFr wr w1.heap.size v w2 v') : CutQ w w1 w2 E gs bad t (at_ + k) (F ++ (E.drop at_).take k) :=
  ⟨by rw [List.append_assoc, ← List.drop_drop, List.take_append_drop]; exact h.row, ⟨_, hf⟩, h.below1.trans (hv.fr_below hw), h.below⟩
theorem CutQ.told {F' : List Int} (h : CutQ w w1 wr E gs bad t at_ F) (hr : F' ++ E.drop at_ = grow (gs.drop (t + 1)) ++ badX bad) {v : Value} (hf : Fm w2 w1.heap.size w1.heap.size 65536 v F') (ht : Tur (· = w1.heap.size) wr w2) : CutQ w w1 w2 E gs bad (t + 1) at_ F' :=
  ⟨hr, ⟨_, hf⟩, h.below1.trans (ht.below h.below1.size (fun _ hk => Nat.le_of_eq hk.symm)), h.below⟩
theorem CutQ.wfF {W : World} (h : CutQ w w1 wr E gs bad t at_ F) (hok : ∀ b ∈ gs, b.Ok W ∧ 1 ≤ b.n ∧ b.n ≤ 65536) : ∀ x ∈ F, (Lit.int .u8 x).wf = true := fun x hx => by
  have := h.row ▸ List.mem_append_left (E.drop at_) hx
  rcases List.mem_append.1 this with e | e
  · exact grow_wf _ W (fun b hb => hok b (List.mem_of_mem_drop hb)) x e
  · exact badX_wf bad x e
theorem CutQ.lenF (h : CutQ w w1 wr E gs bad t at_ F) : F.length + (E.length - at_) ≤ (grow gs).length + 5 := by
  have h1 := congrArg List.length h.row
  rw [List.length_append, List.length_append, List.length_drop] at h1
  have h2 := grow_le gs t
  have h3 : (badX bad).length ≤ 5 := by cases bad <;> simp [badX]
  omega
/-- Next, where t of the rows were told. -/
theorem CutQ.next {W : World} (h : CutQ w w1 wr E gs bad t at_ F) (hok : ∀ b ∈ gs, b.Ok W ∧ 1 ≤ b.n ∧ b.n ≤ 65536) (ht : t ≤ gs.length) :
    (∃ (hlt : t < gs.length) (F' : List Int), nextP 65536 F = .yes gs[t].xs F' ∧ F' ++ E.drop at_ = grow (gs.drop (t + 1)) ++ badX bad) ∨ (nextP 65536 F = .wait ∧ (E.length ≤ at_ → t = gs.length ∧ bad = false ∧ F = [])) ∨ (nextP 65536 F = .bad ∧ t = gs.length ∧ bad = true) := by
  rcases cuts_next h.row (fun b hb => by have := hok b (List.mem_of_mem_drop hb); exact ⟨this.1.len, this.2⟩) with ⟨b, gs', F', e1, e2, e3⟩ | ⟨e1, e2⟩ | ⟨e1, e2, e3⟩
  · have hlt : t < gs.length := by
      rcases Nat.lt_or_ge t gs.length with h1 | h1
      · exact h1
      · rw [List.drop_eq_nil_of_le h1] at e1; cases e1
    rw [List.drop_eq_getElem_cons hlt] at e1
    injection e1 with e4 e5
    subst e4; subst e5
    exact .inl ⟨hlt, F', e2, e3⟩
  · refine .inr (.inl ⟨e1, fun hle => ?_⟩)
    obtain ⟨h1, h2, h3⟩ := e2 (List.drop_eq_nil_of_le hle)
    exact ⟨by have := List.drop_eq_nil_iff.1 h1; omega, h2, h3⟩
  · exact .inr (.inr ⟨e1, by have := List.drop_eq_nil_iff.1 e2; omega, e3⟩)
end
theorem good_cell {W : World} {base n c : Nat} {A : Option Addr} {gs : List Bw} (h : W.ownsRow base 24 1 (.slice A n c) n (gs.map Bw.v)) (k : Nat) (hk : k < gs.length) : ∃ g, A = some ⟨g, 0, none⟩ ∧ g < W.heap.size ∧ W.cell? ⟨g, k, none⟩ = some gs[k].v := by
  rcases h.2 with ⟨e, hn⟩ | ⟨g, cap, cur, e, _, hg, _, _, _, ht⟩
  · have := h.1
    rw [List.length_map] at this
    omega
  · injection e with e1
    refine ⟨g, e1, Blk.lt (w := W) (g := g) (cs := cur) hg, ?_⟩
    have h1 : (gs.map Bw.v)[k]? = some gs[k].v := by rw [List.getElem?_map, List.getElem?_eq_getElem hk]; rfl
    have hgb : Blk W g 24 cur := hg
    rw [hgb.cell k, ← Array.getElem?_toList]
    rw [← ht, List.getElem?_take] at h1
    split at h1
    · exact h1
    · cases h1
theorem row_convN {W : World} {A : Option Addr} {n lo : Nat} {xs : List Int} (h : RowAt W A n lo xs) (c : Nat) (k : Nat) : (convert 24 9 (.slice A n c)).run Tryd.prog (W.drewN k) = .ok (.string (strOfNums xs)) (W.drewN k) :=
  (h.kept (below_drewN (Below.refl _ _) k)).conv c
theorem bw_convN {W W' : World} {b : Bw} (h : b.Ok W) (hb : Below W.heap.size W W') (k : Nat) : (convert 24 9 b.v).run Tryd.prog (W'.drewN k) = .ok (.string (strOfNums b.xs)) (W'.drewN k) :=
  conv_cells (h.cells.below (below_drewN hb k)) h.len b.c

set_option maxHeartbeats 8000000 in
set_option maxRecDepth 100000 in
theorem law_cuts (Ab Az : Option Addr) (nb cb nz cz : Nat) (bs : List Bw) (zs : List Int) (bad : Bool) (w : World) (hl : bs.length = nb) (hr : RowsAt w Ab bs) (hok : ∀ b ∈ bs, b.Ok w) (hzl : zs.length = nz) (hz : CellsAt w Az (zs.map (Value.int .i64 ·))) (hnz : nz ≤ maxLen) :
    Calls Tryd.prog 9 #[.slice Ab nb cb, .slice Az nz cz, .bool bad] w fun e w' => e = .returned (.bool true) ∧ Below w.heap.size w w' := by
  have HL := Lib.hid hl
  have HR := Lib.hid hr
  have HK := Lib.hid hok
  have HZL := Lib.hid hzl
  have HZ := Lib.hid hz
  have HNZ := Lib.hid hnz
  clear hl hr hok hzl hz hnz
  go_enter Tryd.func9, Tryd.ntmps9
  go_upto_block 0 with fail
  go_cut [7, 8] (fun t7 t8 wr => ∃ (l c ng cg : Nat) (A Ag : Option Addr), t7 = .slice A l c ∧ t8 = .slice Ag ng cg ∧ (l : Int) ≤ 196612 ∧ ng ≤ 30 ∧ Hid (∃ gs, CutR w wr l c ng cg A Ag gs))
  case first =>
   go_wp2_with fail
   go_loopw [7, 8, 9] (fun t7 t8 t9 wr => ∃ (i l c ng cg : Nat) (A Ag : Option Addr), t9 = .int .i64 (i : Int) ∧ i ≤ nb ∧ i ≤ 30 ∧ ng ≤ i ∧ t7 = .slice A l c ∧ t8 = .slice Ag ng cg ∧ (l : Int) ≤ 196612 ∧ Hid (∃ gs, CutR w wr l c ng cg A Ag gs)) (fun _ _ t9 _ => 30 - (intOf t9).toNat)
   case atStart => exact ⟨0, 0, 0, 0, 0, none, none, rfl, Nat.zero_le _, by omega, Nat.le_refl _, rfl, rfl, by omega, Lib.hid ⟨[], rfl, Ow.nil _ _, rfl, World.ownsRow_nil _ _ _ _, (fun b hb => by cases hb), Below.refl _ _⟩⟩
   case round =>
     obtain ⟨i, l, c, ng, cg, A, Ag, rfl, hi, hi3, hng, rfl, rfl, hl9, HP0⟩ := hrel
     obtain ⟨gs, hP⟩ := HP0.out
     have HP := Lib.hid hP
     clear HP0 hP
     by_cases hgo : i < nb ∧ i < 30
     · obtain ⟨hib, hi30⟩ := hgo
       by_cases hl17 : (l : Int) ≤ 131071
       · have hd17 : ∀ m : Nat, m = l → decide ((m : Int) < 131072) = true := fun m hm => by subst hm; simp; omega
         have HL17 := Lib.hid hl17
         clear hl17
         have hkl : i < bs.length := by rw [HL.out]; exact hib
         obtain ⟨ad, rfl, c0⟩ := HR.out.at HP.out.below i hkl
         have HB := Lib.hid (HK.out bs[i] (List.getElem_mem _))
         have HRI := Lib.hid (fun (W' : World) (hb : Below w.heap.size w W') => HR.out.at hb i hkl)
         generalize bs[i] = b at *
         obtain ⟨bA, bn, bc, bx⟩ := b
         have c0 : wr.cell? (ad.add i) = some (.slice bA bn bc) := c0
         by_cases hbody : 1 ≤ bn ∧ bn ≤ 65536
         · have HBD := Lib.hid hbody
           have d1 : decide ((1 : Int) ≤ (bn : Int)) = true := by simp; omega
           have d2 : decide ((bn : Int) ≤ 65536) = true := by simp; omega
           have d3 : (1 : Int) ≤ (bn : Int) := by omega
           have d4 : (bn : Int) ≤ 65536 := by omega
           clear hbody
           go_wp2_with fail
           go_at_call 21; (with_reducible refine (frame_yes bA bn bc bx wr HB.out.len (HB.out.cells.below HP.out.below) HB.out.none_ HBD.out.1 HBD.out.2).mono ?_); rintro e w2 ⟨A2, c2, rfl, hr, hb⟩
           have HX := Lib.hid hr.cells
           have HXA := Lib.hid (show A2 = none → c2 = 0 from fun h => by
             rcases hr with ⟨_, h2, _⟩ | ⟨g, cur, h2, _⟩
             · omega
             · rw [h] at h2; cases h2)
           have HXL := Lib.hid (show (len4 bn ++ bx).length = 4 + bn by rw [List.length_append, HB.out.len]; rfl)
           have HR2 := Lib.hid (HP.out.kept hb)
           have c0 : w2.cell? (ad.add i) = some (.slice bA bn bc) := by
             obtain ⟨ad', e, h⟩ := HRI.out w2 HR2.out.below
             cases e; exact h
           clear hr hb
           go_wp2_with (first
             | (at_builtin; refine wpList_append_bytes rfl _ _ rfl w.heap.size _ l (grow gs) rfl (HR2.out.len ▸ HR2.out.ow) A2 (4 + bn) c2 HXA.out (len4 bn ++ bx) rfl HXL.out HX.out (by omega) HR2.out.below.size ?_
                intro v' w3 hown hg hv
                obtain ⟨A3, c3, rfl, _, _, _⟩ := owned_form hown
                have HO3 := Lib.hid hown
                have B3 := Lib.hid (below_grown HR2.out.below hg (by intro k hk; exact (HR2.out.ow.lt k hk).1) HR2.out.below.size)
                have HG3 := Lib.hid (HR2.out.good.kept hg (own_types HR2.out.ow HR2.out.good (by decide)))
                have c0 : w3.cell? (ad.add i) = some (.slice bA bn bc) := by
                  obtain ⟨ad', e, h⟩ := HRI.out w3 B3.out
                  cases e; exact h
                clear hown hg hv)
             | (at_builtin
                refine wpList_append_row rfl _ _ rfl w.heap.size _ ng (gs.map Bw.v) rfl (HG3.out.alloc _) ⟨w3.heap.size, 0, none⟩ bA bn bc rfl (cells_one w3 _ _) (by omega) (Nat.le_trans B3.out.size (by simp)) ?_
                intro v' w4 hown hg hv
                obtain ⟨A4, c4, rfl, _, _, _⟩ := owned_form hown
                have HG4 := Lib.hid hown
                have HO4 := Lib.hid (((HO3.out.alloc (.cells #[.slice bA bn bc] 24)).kept hg (own_types (HG3.out.alloc (.cells #[.slice bA bn bc] 24)) (HO3.out.alloc (.cells #[.slice bA bn bc] 24)) (by decide))))
                have B4 := Lib.hid (below_grown (B3.out.alloc B3.out.size (.cells #[.slice bA bn bc] 24)) hg (by intro k hk; exact (HG3.out.lt k hk).1) (Nat.le_trans B3.out.size (by simp)))
                clear hown hg hv)
             | fail)
           go_roundw
           case rel =>
             refine ⟨i + 1, l + (4 + bn), c3, ng + 1, c4, A3, A4, by go_num, by omega, by omega, by omega, rfl, rfl, ?_, Lib.hid ⟨gs ++ [⟨bA, bn, bc, bx⟩], ?_, ?_, ?_, ?_, ?_, B4.out⟩⟩
             · have := HL17.out; omega
             · rw [grow_snoc, List.length_append, HP.out.len, frE_len, HB.out.len]
             · have h := HO4.out
               unfold Ow
               rw [grow_snoc, bvs_append, List.length_append, HP.out.len, frE_len, HB.out.len]
               unfold frE
               rw [HB.out.len]
               exact h
             · rw [List.length_append, HP.out.glen]; rfl
             · have h := HG4.out
               rw [List.map_append]
               exact h
             · intro b hb
               rcases List.mem_append.1 hb with h | h
               · exact HP.out.ok b h
               · rw [List.mem_singleton] at h
                 subst h
                 exact ⟨HB.out, HBD.out⟩
           case measure => simp [intOf]; omega
         · have HBD := Lib.hid (show bn < 1 ∨ 65536 < bn by omega)
           have HBG := Lib.hid (show bn ≤ 9223372036854775807 by have : bn ≤ maxLen := HB.out.big; unfold maxLen at this; omega)
           go_wp2_with fail
           go_at_call 21; (with_reducible refine (frame_no bA bn bc wr HBD.out HBG.out).mono ?_); rintro e w2 ⟨rfl, rfl⟩
           by_cases h1 : 1 ≤ bn
           · have d1 : decide ((1 : Int) ≤ (bn : Int)) = true := by simp; omega
             have d3 : (1 : Int) ≤ (bn : Int) := by omega
             have d2 : decide ((bn : Int) ≤ 65536) = false := by simp; omega
             clear hbody h1
             go_wp2_with fail
             go_roundw
             case rel => exact ⟨i + 1, l, c, ng, cg, A, Ag, by go_num, by omega, by omega, by omega, rfl, rfl, hl9, Lib.hid ⟨gs, HP.out⟩⟩
             case measure => simp [intOf]; omega
           · have d1 : decide ((1 : Int) ≤ (bn : Int)) = false := by simp; omega
             clear hbody h1
             go_wp2_with fail
             go_roundw
             case rel => exact ⟨i + 1, l, c, ng, cg, A, Ag, by go_num, by omega, by omega, by omega, rfl, rfl, hl9, Lib.hid ⟨gs, HP.out⟩⟩
             case measure => simp [intOf]; omega
       · have hd17 : ∀ m : Nat, m = l → decide ((m : Int) < 131072) = false := fun m hm => by subst hm; simp; omega
         clear hl17
         go_wp2
         go_meet
         exact ⟨l, c, ng, cg, A, Ag, rfl, rfl, hl9, by omega, Lib.hid ⟨gs, HP.out⟩⟩
     · have hor : ¬ i < nb ∨ (i < nb ∧ ¬ i < 30) := by omega
       clear hgo
       rcases hor with hkn | ⟨hkn, hk5⟩
       all_goals
         go_wp2
         go_meet
         exact ⟨l, c, ng, cg, A, Ag, rfl, rfl, hl9, by omega, Lib.hid ⟨gs, HP.out⟩⟩
  case rest =>
    obtain ⟨l, c, ng, cg, A, Ag, rfl, rfl, hl9, hng, HP0⟩ := hcut
    obtain ⟨gs, hP⟩ := HP0.out
    have HP := Lib.hid hP
    clear HP0 hP
    rename World => w0
    go_upto_if 73 with fail
    go_cut [7] (fun t7 w' => ∃ (L c : Nat) (A : Option Addr), t7 = .slice A L c ∧ (L : Int) ≤ 196617 ∧ Hid (CutE w w' gs bad L c ng cg A Ag))
    case first =>
      cases bad
      · go_wp2
        go_meet
        exact ⟨l, c, A, rfl, by omega, Lib.hid ⟨by show (grow gs ++ []).length = l; rw [List.append_nil]; exact HP.out.len, by show CellsAt w0 A (bvs (grow gs ++ [])); rw [List.append_nil]; exact (ow_cells HP.out.ow).1, (ow_cells HP.out.ow).2.2, HP.out.glen, HP.out.good, HP.out.ok, HP.out.below⟩⟩
      · have HOA := Lib.hid (show (w0.alloc (.cells #[.int .u8 0, .int .u8 1, .int .u8 0, .int .u8 1, .int .u8 7] 5)).ownsRow w.heap.size 5 1 (.slice A l c) l (bvs (grow gs)) from by
          have h : w0.ownsRow w.heap.size 5 1 (.slice A l c) (grow gs).length (bvs (grow gs)) := HP.out.ow
          rw [HP.out.len] at h
          exact h.alloc _)
        have HCA := Lib.hid (show CellsAt (w0.alloc (.cells #[.int .u8 0, .int .u8 1, .int .u8 0, .int .u8 1, .int .u8 7] 5)) (some ⟨w0.heap.size, 0, none⟩) (bvs [0, 1, 0, 1, 7]) from cells_of_blk (more := []) (Blk.new w0 5 #[.int .u8 0, .int .u8 1, .int .u8 0, .int .u8 1, .int .u8 7]) rfl)
        have HSA := Lib.hid (show w.heap.size ≤ (w0.alloc (.cells #[.int .u8 0, .int .u8 1, .int .u8 0, .int .u8 1, .int .u8 7] 5)).heap.size from Nat.le_trans HP.out.below.size (by simp))
        go_wp2_with (first
          | (at_builtin; refine wpList_append_bytes rfl _ _ rfl w.heap.size _ l (grow gs) rfl HOA.out (some ⟨w0.heap.size, 0, none⟩) 5 5 (fun h => by cases h) [0, 1, 0, 1, 7] rfl rfl HCA.out (by omega) HSA.out ?_
             intro v' w4 hown hg hv
             obtain ⟨A4, c4, rfl, _, _, _⟩ := owned_form hown
             have HO4 := Lib.hid hown
             have HG4 := Lib.hid ((HP.out.good.alloc (.cells #[.int .u8 0, .int .u8 1, .int .u8 0, .int .u8 1, .int .u8 7] 5)).kept hg (own_types HP.out.ow HP.out.good (by decide)))
             have B4 := Lib.hid (below_grown (HP.out.below.alloc HP.out.below.size (.cells #[.int .u8 0, .int .u8 1, .int .u8 0, .int .u8 1, .int .u8 7] 5)) hg (by intro k hk; exact (HP.out.ow.lt k hk).1) (Nat.le_trans HP.out.below.size (by simp)))
             clear hown hg hv)
          | fail)
        go_meet
        have HO5 := Lib.hid (show Ow w4 w.heap.size (.slice A4 (l + 5) c4) (grow gs ++ badX true) by
          have h := HO4.out
          unfold Ow
          rw [bvs_append, List.length_append, HP.out.len]
          exact h)
        exact ⟨l + 5, c4, A4, rfl, by omega, Lib.hid ⟨by rw [List.length_append, HP.out.len]; rfl, (ow_cells HO5.out).1, (ow_cells HO5.out).2.2, HP.out.glen, HG4.out, HP.out.ok, B4.out⟩⟩
    case rest =>
      obtain ⟨L, c1, A1, rfl, hL9, HE⟩ := hcut
      rename World => w1
      go_wp2_with fail
      go_at_call 35; (with_reducible refine (f_new_yes 65536 w1 (by omega) (by omega)).mono ?_); rintro e w3 ⟨rfl, hf, hb⟩
      have HQ0 := Lib.hid (show CutQ w w1 w3 (grow gs ++ badX bad) gs bad 0 0 [] from ⟨rfl, ⟨_, hf⟩, hb, HE.out.below⟩)
      clear hf hb
      go_wp2
      go_loopw [14, 15, 16] (fun t14 t15 t16 wy => ∃ (at_ t i : Nat), t14 = .int .i64 (at_ : Int) ∧ t15 = .int .i64 (t : Int) ∧ t16 = .int .i64 (i : Int) ∧ at_ ≤ L ∧ t ≤ ng ∧ i ≤ 300 + at_ ∧ Hid (∃ F, CutQ w w1 wy (grow gs ++ badX bad) gs bad t at_ F ∧ (L ≤ at_ → t = ng ∧ bad = false ∧ F = []))) (fun t14 _ t16 _ => (L - (intOf t14).toNat) + (300 - (intOf t16).toNat))
      case atStart => exact ⟨0, 0, 0, rfl, rfl, rfl, Nat.zero_le _, Nat.zero_le _, by omega, Lib.hid ⟨[], HQ0.out, fun h => by
        have := grow_zero gs bad (by rw [HE.out.len]; omega)
        exact ⟨by rw [← HE.out.glen]; omega, this.2, rfl⟩⟩⟩
      case round =>
        obtain ⟨at_, t, i, rfl, rfl, rfl, hat, htn, hi, HQ1⟩ := hrel
        obtain ⟨F, hQ, hend⟩ := HQ1.out
        have HQ := Lib.hid hQ
        have HEND := Lib.hid hend
        clear HQ1 hQ hend
        by_cases hal : at_ < L
        · have hcap := HE.out.cap
          obtain ⟨rest, hrest⟩ : ∃ rest : Nat, (L : Int) - (at_ : Int) = (rest : Int) := ⟨L - at_, by omega⟩
          obtain ⟨ad1, hA1, _, _⟩ := HE.out.cells at_ (by rw [bvs_len, HE.out.len]; exact hal)
          subst hA1
          obtain ⟨v, hfm⟩ := HQ.out.fm
          have HFM := Lib.hid hfm
          have HEL := Lib.hid (HE.out.len)
          have HFL := Lib.hid (show F.length + rest ≤ 196622 by
            have h1 := HQ.out.lenF
            have h2 := HE.out.len
            rw [List.length_append] at h2
            have h3 := HE.out.len
            rw [h3] at h1
            omega)
          have CF := Lib.hid (fun k (hk : k ≤ rest) => f_feed (some (ad1.add at_)) k (c1 - at_) (((grow gs ++ badX bad).drop at_).take k) w1.heap.size w1.heap.size 65536 v F _ HFM.out (by rw [List.length_take, List.length_drop, HEL.out]; omega) (cellsTake ((cellsDrop HE.out.cells at_).below HQ.out.below1) k) (fun h => by cases h) (by have := HFL.out; omega))
          clear hfm
          have hck : ¬ c1 = at_ := by omega
          have hrest0 : 0 < rest := by omega
          have HRSL := Lib.hid (show at_ + rest = L by omega)
          by_cases hz0 : 0 < nz
          · have hz1 : decide ((0 : Int) < (nz : Int)) = true := by simp; omega
            by_cases hi3 : i < 300
            · have hi4 : decide ((i : Int) < 300) = true := by simp; omega
              obtain ⟨ri, hri⟩ : ∃ ri, ri = i % nz := ⟨_, rfl⟩
              have hrl : ri < nz := by rw [hri]; exact Nat.mod_lt _ hz0
              have hr1 : (i : Int) % (nz : Int) = (ri : Int) := by rw [hri]; simp
              have hr2 : (i : Int).tmod (nz : Int) = (ri : Int) := by rw [Int.tmod_eq_emod_of_nonneg (by omega)]; exact hr1
              have hnz0 : ((nz : Int) == 0) = false := by simp; omega
              obtain ⟨adz, hAz, hzb, hzc⟩ := HZ.out ri (by rw [List.length_map, HZL.out]; exact hrl)
              subst hAz
              have hzc2 : wr.cell? (adz.add ri) = some (.int .i64 (zs[ri]'(by rw [HZL.out]; exact hrl))) := ((HE.out.below.trans (HQ.out.below1.mono HE.out.below.size)).cell (by rw [block_add]; exact hzb)).trans (by rw [hzc]; simp)
              generalize zs[ri]'(by rw [HZL.out]; exact hrl) = z at hzc2
              clear hzc hzb hri
              obtain ⟨R, hR, CRD⟩ := round_any z 40 (by omega) (by omega)
              have HCR := Lib.hid CRD
              clear CRD
              go_wp2_with fail
              go_at_call 33; (with_reducible refine (HCR.out _).mono ?_); rintro e w9 ⟨rfl, rfl⟩
              clear hr1 hr2 hzc2
              by_cases hRr : R < rest
              · have hm1 : decide ((R : Int) < (rest : Int)) = true := by simp; omega
                have hm2 : min (rest : Int) (R : Int) = (R : Int) := by omega
                go_wp2_with fail
                go_at_call 37; (with_reducible refine (CF.out R (by omega)).mono ?_); rintro e w4 ⟨rfl, v4, hf4, hw4⟩
                have HQ4 := Lib.hid (HQ.out.feed HFM.out hf4 hw4)
                clear hf4 hw4 CF
                obtain ⟨a2, ha2⟩ : ∃ a2 : Nat, (at_ : Int) + (R : Int) = (a2 : Int) := ⟨at_ + R, by omega⟩
                have ha3 : at_ + R = a2 := by omega
                rw [ha3] at HQ4
                have HA := Lib.hid (show a2 ≤ L ∧ i + 1 ≤ 300 + a2 ∧ (L - a2) + (300 - (i + 1)) < (L - at_) + (300 - i) by have := HRSL.out; omega)
                clear ha3
                go_wp2
                go_loopw [15] (fun t15 wz => ∃ t' : Nat, t15 = .int .i64 (t' : Int) ∧ t' ≤ ng ∧ Hid (∃ F', CutQ w w1 wz (grow gs ++ badX bad) gs bad t' a2 F')) (fun t15 _ => ng - (intOf t15).toNat)
                case atStart => exact ⟨t, rfl, htn, Lib.hid ⟨_, HQ4.out⟩⟩
                case round =>
                  obtain ⟨t', rfl, ht', HQ5⟩ := hrel
                  obtain ⟨F', hQ5⟩ := HQ5.out
                  have HQ5 := Lib.hid hQ5
                  obtain ⟨v5, hf5⟩ := hQ5.fm
                  obtain ⟨A5, c5, rfl, _, _, _⟩ := owned_form hf5.own
                  have HF5 := Lib.hid hf5
                  have HL5 := Lib.hid (show F'.length ≤ 140737488355328 by have h1 := hQ5.lenF; have h2 := HE.out.len; rw [List.length_append] at h2; omega)
                  have CX := Lib.hid (f_next w1.heap.size w1.heap.size 65536 A5 _ c5 F' _ HF5.out rfl (hQ5.wfF HE.out.ok) HL5.out)
                  have HMN := Lib.hid (hQ5.next HE.out.ok (by rw [HE.out.glen]; exact ht'))
                  clear hQ5 hf5
                  rcases HMN.out with ⟨hlt, F2, h1, h2⟩ | ⟨h1, h2⟩ | ⟨h1, h2, h3⟩
                  · have HH := Lib.hid (And.intro h1 h2)
                    have HOK := Lib.hid (HE.out.ok _ (List.getElem_mem hlt)).1
                    obtain ⟨gg, hAg, hgl, hgc⟩ := good_cell HE.out.good t' hlt
                    subst hAg
                    have htl : decide ((ng : Int) ≤ (t' : Int)) = false := by have := HE.out.glen; simp; omega
                    have htl2 : t' < ng := by have := HE.out.glen; omega
                    clear h1 h2
                    go_wp2_with fail
                    go_at_call 40; (with_reducible refine (HH.out.1 ▸ CX.out).mono ?_); rintro e w6 ⟨A6, c6, rfl, hr6, v6, hf6, ht6⟩
                    have HQ6 := Lib.hid (HQ5.out.told HH.out.2 hf6 ht6)
                    have hgc6 : w6.cell? ⟨gg, t', none⟩ = some gs[t'].v := (HQ6.out.below1.cell (p := ⟨gg, t', none⟩) hgl).trans hgc
                    have hcv1 := row_convN hr6 c6
                    have hcv2 := bw_convN HOK.out (HQ6.out.below.trans (HQ6.out.below1.mono HQ6.out.below.size))
                    generalize gs[t'] = b at hgc6 hcv1 hcv2 ⊢
                    obtain ⟨bA, bn, bc, bx⟩ := b
                    replace hgc6 : w6.cell? ⟨gg, t', none⟩ = some (.slice bA bn bc) := hgc6
                    replace hcv2 : ∀ k, (convert 24 9 (.slice bA bn bc)).run Tryd.prog (w6.drewN k) = .ok (.string (strOfNums bx)) (w6.drewN k) := hcv2
                    generalize strOfNums bx = S at hcv1 hcv2
                    clear hr6 hf6 ht6 hgc
                    go_wp2
                    go_quiet (fail)
                    go_wp2
                    go_roundw
                    case rel => exact ⟨t' + 1, by go_num, by omega, Lib.hid ⟨_, ⟨HQ6.out.row, by obtain ⟨v, h⟩ := HQ6.out.fm; exact ⟨v, h.kept (below_drewN (Below.refl _ _) _)⟩, below_drewN HQ6.out.below1 _, HQ6.out.below⟩⟩⟩
                    case measure => simp [intOf]; omega
                  · have HH := Lib.hid (And.intro h1 h2)
                    clear h1 h2
                    go_wp2_with fail
                    go_at_call 40; (with_reducible refine (HH.out.1 ▸ CX.out).mono ?_); rintro e w6 ⟨rfl, rfl⟩
                    go_wp2
                    go_roundw
                    case rel => exact ⟨a2, t', i + 1, by first | rfl | go_num, by first | rfl | go_num, by go_num, HA.out.1, ht', HA.out.2.1, Lib.hid ⟨F', HQ5.out, fun hle => by have h := HH.out.2 (by rw [HEL.out]; exact hle); exact ⟨by rw [← HE.out.glen]; exact h.1, h.2⟩⟩⟩
                    case measure => have := HA.out.2.2; simp [intOf]; omega
                  · have HH := Lib.hid h1
                    subst h3
                    have htg : t' = ng := by rw [← HE.out.glen]; exact h2
                    subst htg
                    clear h1 h2
                    go_wp2_with fail
                    go_at_call 40; (with_reducible refine (HH.out ▸ CX.out).mono ?_); rintro e w6 ⟨rfl, _, ht6⟩
                    have BW := Lib.hid (HQ5.out.below.trans ((HQ5.out.below1.trans (ht6.below HQ5.out.below1.size (fun _ hk => Nat.le_of_eq hk.symm))).mono HQ5.out.below.size))
                    clear ht6
                    go_wp2_with fail
                    go_at_call 19; (with_reducible refine (head_any _).mono ?_); rintro e w7 ⟨rfl, hb⟩
                    go_wp2
                    go_ret
                    exact ⟨rfl, BW.out.trans (hb.mono BW.out.size)⟩
              · have hm1 : decide ((R : Int) < (rest : Int)) = false := by simp; omega
                have hm2 : min (rest : Int) (R : Int) = (rest : Int) := by omega
                go_wp2_with fail
                go_at_call 37; (with_reducible refine (CF.out rest (by omega)).mono ?_); rintro e w4 ⟨rfl, v4, hf4, hw4⟩
                have HQ4 := Lib.hid (HQ.out.feed HFM.out hf4 hw4)
                clear hf4 hw4 CF
                obtain ⟨a2, ha2⟩ : ∃ a2 : Nat, (at_ : Int) + (rest : Int) = (a2 : Int) := ⟨at_ + rest, by omega⟩
                have ha3 : at_ + rest = a2 := by omega
                rw [ha3] at HQ4
                have HA := Lib.hid (show a2 ≤ L ∧ i + 1 ≤ 300 + a2 ∧ (L - a2) + (300 - (i + 1)) < (L - at_) + (300 - i) by have := HRSL.out; omega)
                clear ha3
                go_wp2
                go_loopw [15] (fun t15 wz => ∃ t' : Nat, t15 = .int .i64 (t' : Int) ∧ t' ≤ ng ∧ Hid (∃ F', CutQ w w1 wz (grow gs ++ badX bad) gs bad t' a2 F')) (fun t15 _ => ng - (intOf t15).toNat)
                case atStart => exact ⟨t, rfl, htn, Lib.hid ⟨_, HQ4.out⟩⟩
                case round =>
                  obtain ⟨t', rfl, ht', HQ5⟩ := hrel
                  obtain ⟨F', hQ5⟩ := HQ5.out
                  have HQ5 := Lib.hid hQ5
                  obtain ⟨v5, hf5⟩ := hQ5.fm
                  obtain ⟨A5, c5, rfl, _, _, _⟩ := owned_form hf5.own
                  have HF5 := Lib.hid hf5
                  have HL5 := Lib.hid (show F'.length ≤ 140737488355328 by have h1 := hQ5.lenF; have h2 := HE.out.len; rw [List.length_append] at h2; omega)
                  have CX := Lib.hid (f_next w1.heap.size w1.heap.size 65536 A5 _ c5 F' _ HF5.out rfl (hQ5.wfF HE.out.ok) HL5.out)
                  have HMN := Lib.hid (hQ5.next HE.out.ok (by rw [HE.out.glen]; exact ht'))
                  clear hQ5 hf5
                  rcases HMN.out with ⟨hlt, F2, h1, h2⟩ | ⟨h1, h2⟩ | ⟨h1, h2, h3⟩
                  · have HH := Lib.hid (And.intro h1 h2)
                    have HOK := Lib.hid (HE.out.ok _ (List.getElem_mem hlt)).1
                    obtain ⟨gg, hAg, hgl, hgc⟩ := good_cell HE.out.good t' hlt
                    subst hAg
                    have htl : decide ((ng : Int) ≤ (t' : Int)) = false := by have := HE.out.glen; simp; omega
                    have htl2 : t' < ng := by have := HE.out.glen; omega
                    clear h1 h2
                    go_wp2_with fail
                    go_at_call 40; (with_reducible refine (HH.out.1 ▸ CX.out).mono ?_); rintro e w6 ⟨A6, c6, rfl, hr6, v6, hf6, ht6⟩
                    have HQ6 := Lib.hid (HQ5.out.told HH.out.2 hf6 ht6)
                    have hgc6 : w6.cell? ⟨gg, t', none⟩ = some gs[t'].v := (HQ6.out.below1.cell (p := ⟨gg, t', none⟩) hgl).trans hgc
                    have hcv1 := row_convN hr6 c6
                    have hcv2 := bw_convN HOK.out (HQ6.out.below.trans (HQ6.out.below1.mono HQ6.out.below.size))
                    generalize gs[t'] = b at hgc6 hcv1 hcv2 ⊢
                    obtain ⟨bA, bn, bc, bx⟩ := b
                    replace hgc6 : w6.cell? ⟨gg, t', none⟩ = some (.slice bA bn bc) := hgc6
                    replace hcv2 : ∀ k, (convert 24 9 (.slice bA bn bc)).run Tryd.prog (w6.drewN k) = .ok (.string (strOfNums bx)) (w6.drewN k) := hcv2
                    generalize strOfNums bx = S at hcv1 hcv2
                    clear hr6 hf6 ht6 hgc
                    go_wp2
                    go_quiet (fail)
                    go_wp2
                    go_roundw
                    case rel => exact ⟨t' + 1, by go_num, by omega, Lib.hid ⟨_, ⟨HQ6.out.row, by obtain ⟨v, h⟩ := HQ6.out.fm; exact ⟨v, h.kept (below_drewN (Below.refl _ _) _)⟩, below_drewN HQ6.out.below1 _, HQ6.out.below⟩⟩⟩
                    case measure => simp [intOf]; omega
                  · have HH := Lib.hid (And.intro h1 h2)
                    clear h1 h2
                    go_wp2_with fail
                    go_at_call 40; (with_reducible refine (HH.out.1 ▸ CX.out).mono ?_); rintro e w6 ⟨rfl, rfl⟩
                    go_wp2
                    go_roundw
                    case rel => exact ⟨a2, t', i + 1, by first | rfl | go_num, by first | rfl | go_num, by go_num, HA.out.1, ht', HA.out.2.1, Lib.hid ⟨F', HQ5.out, fun hle => by have h := HH.out.2 (by rw [HEL.out]; exact hle); exact ⟨by rw [← HE.out.glen]; exact h.1, h.2⟩⟩⟩
                    case measure => have := HA.out.2.2; simp [intOf]; omega
                  · have HH := Lib.hid h1
                    subst h3
                    have htg : t' = ng := by rw [← HE.out.glen]; exact h2
                    subst htg
                    clear h1 h2
                    go_wp2_with fail
                    go_at_call 40; (with_reducible refine (HH.out ▸ CX.out).mono ?_); rintro e w6 ⟨rfl, _, ht6⟩
                    have BW := Lib.hid (HQ5.out.below.trans ((HQ5.out.below1.trans (ht6.below HQ5.out.below1.size (fun _ hk => Nat.le_of_eq hk.symm))).mono HQ5.out.below.size))
                    clear ht6
                    go_wp2_with fail
                    go_at_call 19; (with_reducible refine (head_any _).mono ?_); rintro e w7 ⟨rfl, hb⟩
                    go_wp2
                    go_ret
                    exact ⟨rfl, BW.out.trans (hb.mono BW.out.size)⟩
            · have hi4 : decide ((i : Int) < 300) = false := by simp; omega
              go_wp2_with fail
              go_at_call 37; (with_reducible refine (CF.out rest (by omega)).mono ?_); rintro e w4 ⟨rfl, v4, hf4, hw4⟩
              have HQ4 := Lib.hid (HQ.out.feed HFM.out hf4 hw4)
              clear hf4 hw4 CF
              obtain ⟨a2, ha2⟩ : ∃ a2 : Nat, (at_ : Int) + (rest : Int) = (a2 : Int) := ⟨at_ + rest, by omega⟩
              have ha3 : at_ + rest = a2 := by omega
              rw [ha3] at HQ4
              have HA := Lib.hid (show a2 ≤ L ∧ i + 1 ≤ 300 + a2 ∧ (L - a2) + (300 - (i + 1)) < (L - at_) + (300 - i) by have := HRSL.out; omega)
              clear ha3
              go_wp2
              go_loopw [15] (fun t15 wz => ∃ t' : Nat, t15 = .int .i64 (t' : Int) ∧ t' ≤ ng ∧ Hid (∃ F', CutQ w w1 wz (grow gs ++ badX bad) gs bad t' a2 F')) (fun t15 _ => ng - (intOf t15).toNat)
              case atStart => exact ⟨t, rfl, htn, Lib.hid ⟨_, HQ4.out⟩⟩
              case round =>
                obtain ⟨t', rfl, ht', HQ5⟩ := hrel
                obtain ⟨F', hQ5⟩ := HQ5.out
                have HQ5 := Lib.hid hQ5
                obtain ⟨v5, hf5⟩ := hQ5.fm
                obtain ⟨A5, c5, rfl, _, _, _⟩ := owned_form hf5.own
                have HF5 := Lib.hid hf5
                have HL5 := Lib.hid (show F'.length ≤ 140737488355328 by have h1 := hQ5.lenF; have h2 := HE.out.len; rw [List.length_append] at h2; omega)
                have CX := Lib.hid (f_next w1.heap.size w1.heap.size 65536 A5 _ c5 F' _ HF5.out rfl (hQ5.wfF HE.out.ok) HL5.out)
                have HMN := Lib.hid (hQ5.next HE.out.ok (by rw [HE.out.glen]; exact ht'))
                clear hQ5 hf5
                rcases HMN.out with ⟨hlt, F2, h1, h2⟩ | ⟨h1, h2⟩ | ⟨h1, h2, h3⟩
                · have HH := Lib.hid (And.intro h1 h2)
                  have HOK := Lib.hid (HE.out.ok _ (List.getElem_mem hlt)).1
                  obtain ⟨gg, hAg, hgl, hgc⟩ := good_cell HE.out.good t' hlt
                  subst hAg
                  have htl : decide ((ng : Int) ≤ (t' : Int)) = false := by have := HE.out.glen; simp; omega
                  have htl2 : t' < ng := by have := HE.out.glen; omega
                  clear h1 h2
                  go_wp2_with fail
                  go_at_call 40; (with_reducible refine (HH.out.1 ▸ CX.out).mono ?_); rintro e w6 ⟨A6, c6, rfl, hr6, v6, hf6, ht6⟩
                  have HQ6 := Lib.hid (HQ5.out.told HH.out.2 hf6 ht6)
                  have hgc6 : w6.cell? ⟨gg, t', none⟩ = some gs[t'].v := (HQ6.out.below1.cell (p := ⟨gg, t', none⟩) hgl).trans hgc
                  have hcv1 := row_convN hr6 c6
                  have hcv2 := bw_convN HOK.out (HQ6.out.below.trans (HQ6.out.below1.mono HQ6.out.below.size))
                  generalize gs[t'] = b at hgc6 hcv1 hcv2 ⊢
                  obtain ⟨bA, bn, bc, bx⟩ := b
                  replace hgc6 : w6.cell? ⟨gg, t', none⟩ = some (.slice bA bn bc) := hgc6
                  replace hcv2 : ∀ k, (convert 24 9 (.slice bA bn bc)).run Tryd.prog (w6.drewN k) = .ok (.string (strOfNums bx)) (w6.drewN k) := hcv2
                  generalize strOfNums bx = S at hcv1 hcv2
                  clear hr6 hf6 ht6 hgc
                  go_wp2
                  go_quiet (fail)
                  go_wp2
                  go_roundw
                  case rel => exact ⟨t' + 1, by go_num, by omega, Lib.hid ⟨_, ⟨HQ6.out.row, by obtain ⟨v, h⟩ := HQ6.out.fm; exact ⟨v, h.kept (below_drewN (Below.refl _ _) _)⟩, below_drewN HQ6.out.below1 _, HQ6.out.below⟩⟩⟩
                  case measure => simp [intOf]; omega
                · have HH := Lib.hid (And.intro h1 h2)
                  clear h1 h2
                  go_wp2_with fail
                  go_at_call 40; (with_reducible refine (HH.out.1 ▸ CX.out).mono ?_); rintro e w6 ⟨rfl, rfl⟩
                  go_wp2
                  go_roundw
                  case rel => exact ⟨a2, t', i + 1, by first | rfl | go_num, by first | rfl | go_num, by go_num, HA.out.1, ht', HA.out.2.1, Lib.hid ⟨F', HQ5.out, fun hle => by have h := HH.out.2 (by rw [HEL.out]; exact hle); exact ⟨by rw [← HE.out.glen]; exact h.1, h.2⟩⟩⟩
                  case measure => have := HA.out.2.2; simp [intOf]; omega
                · have HH := Lib.hid h1
                  subst h3
                  have htg : t' = ng := by rw [← HE.out.glen]; exact h2
                  subst htg
                  clear h1 h2
                  go_wp2_with fail
                  go_at_call 40; (with_reducible refine (HH.out ▸ CX.out).mono ?_); rintro e w6 ⟨rfl, _, ht6⟩
                  have BW := Lib.hid (HQ5.out.below.trans ((HQ5.out.below1.trans (ht6.below HQ5.out.below1.size (fun _ hk => Nat.le_of_eq hk.symm))).mono HQ5.out.below.size))
                  clear ht6
                  go_wp2_with fail
                  go_at_call 19; (with_reducible refine (head_any _).mono ?_); rintro e w7 ⟨rfl, hb⟩
                  go_wp2
                  go_ret
                  exact ⟨rfl, BW.out.trans (hb.mono BW.out.size)⟩
          · have hz1 : decide ((0 : Int) < (nz : Int)) = false := by simp; omega
            go_wp2_with fail
            go_at_call 37; (with_reducible refine (CF.out rest (by omega)).mono ?_); rintro e w4 ⟨rfl, v4, hf4, hw4⟩
            have HQ4 := Lib.hid (HQ.out.feed HFM.out hf4 hw4)
            clear hf4 hw4 CF
            obtain ⟨a2, ha2⟩ : ∃ a2 : Nat, (at_ : Int) + (rest : Int) = (a2 : Int) := ⟨at_ + rest, by omega⟩
            have ha3 : at_ + rest = a2 := by omega
            rw [ha3] at HQ4
            have HA := Lib.hid (show a2 ≤ L ∧ i + 1 ≤ 300 + a2 ∧ (L - a2) + (300 - (i + 1)) < (L - at_) + (300 - i) by have := HRSL.out; omega)
            clear ha3
            go_wp2
            go_loopw [15] (fun t15 wz => ∃ t' : Nat, t15 = .int .i64 (t' : Int) ∧ t' ≤ ng ∧ Hid (∃ F', CutQ w w1 wz (grow gs ++ badX bad) gs bad t' a2 F')) (fun t15 _ => ng - (intOf t15).toNat)
            case atStart => exact ⟨t, rfl, htn, Lib.hid ⟨_, HQ4.out⟩⟩
            case round =>
              obtain ⟨t', rfl, ht', HQ5⟩ := hrel
              obtain ⟨F', hQ5⟩ := HQ5.out
              have HQ5 := Lib.hid hQ5
              obtain ⟨v5, hf5⟩ := hQ5.fm
              obtain ⟨A5, c5, rfl, _, _, _⟩ := owned_form hf5.own
              have HF5 := Lib.hid hf5
              have HL5 := Lib.hid (show F'.length ≤ 140737488355328 by have h1 := hQ5.lenF; have h2 := HE.out.len; rw [List.length_append] at h2; omega)
              have CX := Lib.hid (f_next w1.heap.size w1.heap.size 65536 A5 _ c5 F' _ HF5.out rfl (hQ5.wfF HE.out.ok) HL5.out)
              have HMN := Lib.hid (hQ5.next HE.out.ok (by rw [HE.out.glen]; exact ht'))
              clear hQ5 hf5
              rcases HMN.out with ⟨hlt, F2, h1, h2⟩ | ⟨h1, h2⟩ | ⟨h1, h2, h3⟩
              · have HH := Lib.hid (And.intro h1 h2)
                have HOK := Lib.hid (HE.out.ok _ (List.getElem_mem hlt)).1
                obtain ⟨gg, hAg, hgl, hgc⟩ := good_cell HE.out.good t' hlt
                subst hAg
                have htl : decide ((ng : Int) ≤ (t' : Int)) = false := by have := HE.out.glen; simp; omega
                have htl2 : t' < ng := by have := HE.out.glen; omega
                clear h1 h2
                go_wp2_with fail
                go_at_call 40; (with_reducible refine (HH.out.1 ▸ CX.out).mono ?_); rintro e w6 ⟨A6, c6, rfl, hr6, v6, hf6, ht6⟩
                have HQ6 := Lib.hid (HQ5.out.told HH.out.2 hf6 ht6)
                have hgc6 : w6.cell? ⟨gg, t', none⟩ = some gs[t'].v := (HQ6.out.below1.cell (p := ⟨gg, t', none⟩) hgl).trans hgc
                have hcv1 := row_convN hr6 c6
                have hcv2 := bw_convN HOK.out (HQ6.out.below.trans (HQ6.out.below1.mono HQ6.out.below.size))
                generalize gs[t'] = b at hgc6 hcv1 hcv2 ⊢
                obtain ⟨bA, bn, bc, bx⟩ := b
                replace hgc6 : w6.cell? ⟨gg, t', none⟩ = some (.slice bA bn bc) := hgc6
                replace hcv2 : ∀ k, (convert 24 9 (.slice bA bn bc)).run Tryd.prog (w6.drewN k) = .ok (.string (strOfNums bx)) (w6.drewN k) := hcv2
                generalize strOfNums bx = S at hcv1 hcv2
                clear hr6 hf6 ht6 hgc
                go_wp2
                go_quiet (fail)
                go_wp2
                go_roundw
                case rel => exact ⟨t' + 1, by go_num, by omega, Lib.hid ⟨_, ⟨HQ6.out.row, by obtain ⟨v, h⟩ := HQ6.out.fm; exact ⟨v, h.kept (below_drewN (Below.refl _ _) _)⟩, below_drewN HQ6.out.below1 _, HQ6.out.below⟩⟩⟩
                case measure => simp [intOf]; omega
              · have HH := Lib.hid (And.intro h1 h2)
                clear h1 h2
                go_wp2_with fail
                go_at_call 40; (with_reducible refine (HH.out.1 ▸ CX.out).mono ?_); rintro e w6 ⟨rfl, rfl⟩
                go_wp2
                go_roundw
                case rel => exact ⟨a2, t', i + 1, by first | rfl | go_num, by first | rfl | go_num, by go_num, HA.out.1, ht', HA.out.2.1, Lib.hid ⟨F', HQ5.out, fun hle => by have h := HH.out.2 (by rw [HEL.out]; exact hle); exact ⟨by rw [← HE.out.glen]; exact h.1, h.2⟩⟩⟩
                case measure => have := HA.out.2.2; simp [intOf]; omega
              · have HH := Lib.hid h1
                subst h3
                have htg : t' = ng := by rw [← HE.out.glen]; exact h2
                subst htg
                clear h1 h2
                go_wp2_with fail
                go_at_call 40; (with_reducible refine (HH.out ▸ CX.out).mono ?_); rintro e w6 ⟨rfl, _, ht6⟩
                have BW := Lib.hid (HQ5.out.below.trans ((HQ5.out.below1.trans (ht6.below HQ5.out.below1.size (fun _ hk => Nat.le_of_eq hk.symm))).mono HQ5.out.below.size))
                clear ht6
                go_wp2_with fail
                go_at_call 19; (with_reducible refine (head_any _).mono ?_); rintro e w7 ⟨rfl, hb⟩
                go_wp2
                go_ret
                exact ⟨rfl, BW.out.trans (hb.mono BW.out.size)⟩
        · obtain ⟨h1, h2, h3⟩ := HEND.out (by omega)
          subst h2
          subst h1
          obtain ⟨v5, hf5⟩ := HQ.out.fm
          rw [h3] at hf5
          obtain ⟨A5, c5, rfl, _, _, _⟩ := owned_form hf5.own
          have HF5 := Lib.hid hf5
          have BW := Lib.hid (HQ.out.below.trans (HQ.out.below1.mono HQ.out.below.size))
          clear hf5 h3
          go_wp2_with fail
          go_at_call 39; (with_reducible refine (f_held w1.heap.size _ _ A5 0 c5 _ HF5.out.blk).mono ?_); rintro e w5 ⟨rfl, rfl⟩
          go_wp2_with fail
          go_at_call 19; (with_reducible refine (head_any _).mono ?_); rintro e w6 ⟨rfl, hb⟩
          go_wp2
          go_ret
          exact ⟨rfl, BW.out.trans (hb.mono BW.out.size)⟩
end Go.Proofs.YtdgokebablhoiaaDoor
