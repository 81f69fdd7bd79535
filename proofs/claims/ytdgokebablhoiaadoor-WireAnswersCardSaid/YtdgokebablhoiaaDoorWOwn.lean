/- The law WireOwn: the walk. -/
import Derived.Test.YtdgokebablhoiaaDoorWSep2
namespace Go.Proofs.YtdgokebablhoiaaDoor
open Go.RowKit

/-- The things of the law: two Frames, the two rows of rows, the bodies that were told. -/
abbrev OwL (q p : Nat) (vx vy : Value) (F : List Int) (c : Nat) (K : Value) (nk : Nat) (ks : List Value) (Wt : Value) (nw : Nat) (ws : List Value) (gs : List Bw) : List Rsc :=
  rFm q q 65536 vx F :: rFm p p 65536 vy (List.replicate c 9) :: rRows q K nk ks :: rRows q Wt nw ws :: gs.map fun b => rRow q b.v b.xs
theorem wr_new2 (W : World) : Wr (W.alloc (.cells #[.slice none 0 0] 49)) W.heap.size W.heap.size (.slice none 0 0) [] :=
  ⟨Blk.new _ _ _, World.ownsRow_nil _ _ _ _, by simp [Value.ownBlock], Nat.le_refl _⟩
structure OwI (q p : Nat) (w wr : World) (ng ck cw c : Nat) (Ak Aw : Option Addr) (vx vy : Value) (gs bs : List Bw) : Prop where
  sep : Sep q wr (OwL q p vx vy [] c (.slice Ak ng ck) ng (gs.map Bw.v) (.slice Aw ng cw) ng (bs.map Bw.v) gs)
  glen : gs.length = ng
  blen : bs.length = ng
  same : gs.map Bw.xs = bs.map Bw.xs
  ok : ∀ b ∈ bs, b.Ok w
  gok : ∀ b ∈ gs, b.xs.length = b.n ∧ 1 ≤ b.n ∧ b.n ≤ 65536
  below : Below q w wr
  lo : q ≤ wr.heap.size
theorem OwO.form {W : World} {base g o n c : Nat} {xs : List Int} (h : OwO W base (.slice (some ⟨g, o, none⟩) n c) xs) : OwOForm W base g o c (.slice (some ⟨g, o, none⟩) n c) xs := by
  rcases h with ⟨e, _⟩ | ⟨g', o', c', h⟩
  · cases e
  · have e := h.val
    injection e with e1 e2 e3
    injection e1 with e1
    injection e1 with e1 e4
    subst e1; subst e3; subst e4
    exact h
/-- A byte is stored anywhere. -/
theorem OwO.poke {W : World} {base : Nat} {v : Value} {xs : List Int} (h : OwO W base v xs) (g' o' : Nat) (u : Int) : ∃ ys : List Int, ys.length = xs.length ∧ OwO (W.setCell ⟨g', o', none⟩ (.int .u8 u)) base v ys := by
  rcases h with ⟨rfl, rfl⟩ | ⟨g, off, cap, h⟩
  · exact ⟨[], rfl, .inl ⟨rfl, rfl⟩⟩
  by_cases hin : g' = g ∧ off ≤ o' ∧ o' < off + xs.length
  · obtain ⟨rfl, h1, h2⟩ := hin
    refine ⟨xs.set (o' - off) u, List.length_set, .inr ⟨g', off, cap, ?_⟩⟩
    have := h.set (o' - off) (by omega) u
    rwa [show off + (o' - off) = o' by omega] at this
  · refine ⟨xs, rfl, .inr ⟨g, off, cap, h.val, h.low, by simpa [World.setCell] using h.lt, h.fits, fun j hj => ?_, fun j hj => ?_⟩⟩
    · rw [World.cell?_setCell_other _ _ _ _ (by intro e; injection e with e1 e2; omega), h.cells j hj]
    · rw [World.frozen?_setCell]
      refine ⟨?_, (h.room j hj).2⟩
      by_cases e : (⟨g', o', none⟩ : Addr) = ⟨g, off + j, none⟩
      · obtain ⟨u0, hs⟩ := Option.isSome_iff_exists.1 (h.room j hj).1
        rw [e, World.cell?_setCell_same _ _ _ hs]; rfl
      · rw [World.cell?_setCell_other _ _ _ _ e]; exact (h.room j hj).1
section
variable {q p c nk nw : Nat} {vx vy K Wt : Value} {F : List Int} {ks ws : List Value} {gs : List Bw} {W W' : World}
theorem OwL.len : (OwL q p vx vy F c K nk ks Wt nw ws gs).length = gs.length + 4 := by simp [OwL]
theorem OwL.get (i : Nat) (h : i + 4 < (OwL q p vx vy F c K nk ks Wt nw ws gs).length) (h' : i < gs.length) : (OwL q p vx vy F c K nk ks Wt nw ws gs)[i + 4] = rRow q gs[i].v gs[i].xs := by
  show (gs.map fun b => rRow q b.v b.xs)[i]'(by simpa using h') = _
  rw [List.getElem_map]
theorem OwL.row (h : Sep q W (OwL q p vx vy F c K nk ks Wt nw ws gs)) (i : Nat) (hi : i < gs.length) : OwO W q gs[i].v gs[i].xs := by
  have := h.at (i + 4) (by rw [OwL.len]; omega)
  rw [OwL.get i _ hi] at this
  exact this
/-- A row is written. -/
theorem OwL.put (h : Sep q W (OwL q p vx vy F c K nk ks Wt nw ws gs)) (i : Nat) (hi : i < gs.length) (b : Bw) (hv : b.v = gs[i].v) (ht : Tur (fun k => b.v.ownBlock = some k) W W') (hok : OwO W' q b.v b.xs) (hlo : q ≤ W.heap.size) :
    Sep q W' (OwL q p vx vy F c K nk ks Wt nw ws (gs.set i b)) ∧ Below q W W' := by
  have hn : i + 4 < (OwL q p vx vy F c K nk ks Wt nw ws gs).length := by rw [OwL.len]; omega
  have hsub : ∀ k, k < W.heap.size → b.v.ownBlock = some k → k ∈ (OwL q p vx vy F c K nk ks Wt nw ws gs)[i + 4].own := fun k _ e => by
    rw [OwL.get i _ hi]
    exact own_list.2 (hv ▸ e)
  refine ⟨?_, h.belowAt (i + 4) hn ht hsub hlo⟩
  have h2 := h.turn (R' := rRow q b.v b.xs) (i + 4) hn ht hsub hlo hok (fun k hk => ⟨.inl (hsub k (by
    have := h.ltAt (i + 4) hn k (by rw [OwL.get i _ hi]; rw [← hv]; exact hk)
    exact this.2) (own_list.1 hk)), (hok.lt k (own_list.1 hk)).2⟩)
  have e : (OwL q p vx vy F c K nk ks Wt nw ws gs).set (i + 4) (rRow q b.v b.xs) = OwL q p vx vy F c K nk ks Wt nw ws (gs.set i b) := by
    show rFm q q 65536 vx F :: rFm p p 65536 vy (List.replicate c 9) :: rRows q K nk ks :: rRows q Wt nw ws :: (gs.map fun b => rRow q b.v b.xs).set i (rRow q b.v b.xs) = _
    rw [← List.map_set (f := fun b : Bw => rRow q b.v b.xs)]
  exact e ▸ h2
end
/-- What loop 3 keeps: the first i rows are written full. -/
structure OwJ (q p : Nat) (w wr : World) (ng ck cw c : Nat) (Ak Aw : Option Addr) (vx vy : Value) (gs bs : List Bw) (i : Nat) : Prop where
  sep : Sep q wr (OwL q p vx vy [] c (.slice Ak ng ck) ng (gs.map Bw.v) (.slice Aw ng cw) ng (bs.map Bw.v) gs)
  glen : gs.length = ng
  blen : bs.length = ng
  done : ∀ j (h : j < gs.length), j < i → gs[j].xs = List.replicate gs[j].n (j : Int)
  todo : ∀ j (h : j < gs.length) (h' : j < bs.length), i ≤ j → gs[j].xs = bs[j].xs
  ok : ∀ b ∈ bs, b.Ok w
  gok : ∀ b ∈ gs, b.xs.length = b.n ∧ 1 ≤ b.n ∧ b.n ≤ 65536
  below : Below q w wr
  lo : q ≤ wr.heap.size
theorem map_v_set {gs : List Bw} {i : Nat} (hi : i < gs.length) {b : Bw} (hv : b.v = gs[i].v) : (gs.set i b).map Bw.v = gs.map Bw.v := by
  rw [List.map_set, hv]
  have : (gs.map Bw.v)[i]'(by simpa using hi) = gs[i].v := List.getElem_map ..
  rw [← this, List.set_getElem_self]
theorem eq_repl {ys : List Int} {n : Nat} {u : Int} (hl : ys.length = n) (h : ∀ j (hj : j < ys.length), ys[j] = u) : ys = List.replicate n u := by
  apply List.ext_getElem
  · rw [hl, List.length_replicate]
  · intro j h1 h2
    rw [h j h1, List.getElem_replicate]
theorem OwJ.next {q p ng ck cw c i : Nat} {w wr W : World} {Ak Aw : Option Addr} {vx vy : Value} {gs bs : List Bw} {b : Bw} (h : OwJ q p w wr ng ck cw c Ak Aw vx vy gs bs i) (hi : i < gs.length) (hv : b.v = gs[i].v) (hn : b.n = gs[i].n) (hx : b.xs = List.replicate b.n (i : Int))
    (hs : Sep q W (OwL q p vx vy [] c (.slice Ak ng ck) ng (gs.map Bw.v) (.slice Aw ng cw) ng (bs.map Bw.v) (gs.set i b))) (hb : Below q w W) (hlo : q ≤ W.heap.size) : OwJ q p w W ng ck cw c Ak Aw vx vy (gs.set i b) bs (i + 1) := by
  refine ⟨by rw [map_v_set hi hv]; exact hs, by rw [List.length_set]; exact h.glen, h.blen, fun j hj hji => ?_, fun j hj hj' hji => ?_, h.ok, fun x hx' => ?_, hb, hlo⟩
  · rw [List.length_set] at hj
    by_cases e : i = j
    · subst e
      rw [List.getElem_set_self]
      exact hx
    · rw [List.getElem_set_ne e]
      exact h.done j hj (by omega)
  · rw [List.length_set] at hj
    rw [List.getElem_set_ne (by omega)]
    exact h.todo j hj hj' (by omega)
  · rcases List.mem_or_eq_of_mem_set hx' with e | e
    · exact h.gok x e
    · subst e
      rw [hx, List.length_replicate, hn]
      exact ⟨rfl, (h.gok _ (List.getElem_mem hi)).2⟩
set_option maxHeartbeats 8000000 in
set_option maxRecDepth 100000 in
theorem law_own (Ab Al : Option Addr) (nb cb nl cl : Nat) (bs0 : List Bw) (w : World) (hl : bs0.length = nb) (hr : RowsAt w Ab bs0) (hok : ∀ b ∈ bs0, b.Ok w) :
    Calls Tryd.prog 10 #[.slice Ab nb cb, .slice Al nl cl] w fun e w' => e = .returned (.bool true) ∧ Below w.heap.size w w' := by
  obtain ⟨q, hq⟩ : ∃ q, q = w.heap.size := ⟨_, rfl⟩
  rw [← hq]
  have HL := Lib.hid hl
  have HR := Lib.hid hr
  have HK := Lib.hid hok
  clear hl hr hok
  have C0 := Lib.hid (show Calls Tryd.prog 35 #[.int .i64 65536] w fun e w' => e = .returned (.tuple #[.pointer (some ⟨q, 0, none⟩), .int .i64 0]) ∧ Fm w' q q 65536 (.slice none 0 0) [] ∧ Below q w w' by
    rw [hq]
    exact f_new_yes 65536 w (by omega) (by omega))
  have HQ := Lib.hid hq
  clear hq
  go_enter Tryd.func10, Tryd.ntmps10
  go_wp2_with fail
  go_at_call 35; (with_reducible refine C0.out.mono ?_); rintro e w1 ⟨rfl, hf1, hb1⟩
  go_wp2_with fail
  go_at_call 35; (with_reducible refine (f_new_yes 65536 w1 (by omega) (by omega)).mono ?_); rintro e w2 ⟨rfl, hf2, hb2⟩
  obtain ⟨p, hp⟩ : ∃ p, p = w1.heap.size := ⟨_, rfl⟩
  rw [← hp] at hf2 ⊢
  have HS2 := Lib.hid (show OwI q p w w2 0 0 0 0 none none (.slice none 0 0) (.slice none 0 0) [] [] by
    have hq := HQ.out
    have hlo : q ≤ w.heap.size := Nat.le_of_eq hq
    have hl1 : w.heap.size ≤ w1.heap.size := hq ▸ hb1.size
    have hl2 := hb2.size
    have hb1' : Below w.heap.size w w1 := hq ▸ hb1
    have s0 : Sep q w [rRows q (.slice none 0 0) 0 [], rRows q (.slice none 0 0) 0 []] := ((Sep.nil q w).free (R := rRows q (.slice none 0 0) 0 []) (World.ownsRow_nil _ _ _ _) rfl).free (R := rRows q (.slice none 0 0) 0 []) (World.ownsRow_nil _ _ _ _) rfl
    have s1 : Sep q w1 (rFm q q 65536 (.slice none 0 0) [] :: [rRows q (.slice none 0 0) 0 [], rRows q (.slice none 0 0) 0 []]) :=
      s0.add hb1' hlo hf1 (fun k hk => by
        obtain rfl : k = q := by simpa [rFm, Value.ownBlock] using hk
        exact ⟨Nat.le_of_eq hq.symm, hf1.blk.lt⟩)
    have s2 : Sep q w2 (rFm p p 65536 (.slice none 0 0) [] :: rFm q q 65536 (.slice none 0 0) [] :: [rRows q (.slice none 0 0) 0 [], rRows q (.slice none 0 0) 0 []]) :=
      s1.add hb2 (by omega) hf2 (fun k hk => by
        obtain rfl : k = p := by simpa [rFm, Value.ownBlock] using hk
        exact ⟨by omega, hf2.blk.lt⟩)
    exact ⟨s2.perm (List.Perm.swap _ _ _), rfl, rfl, rfl, (fun b hb => by cases hb), (fun b hb => by cases hb), hb1.trans (hb2.mono (by omega)), by omega⟩)
  clear hf1 hb1 hf2 hb2 hp
  go_upto_block 0 with fail
  go_cut [9, 10] (fun t9 t10 wr => ∃ (ng ck cw : Nat) (Ak Aw : Option Addr), t9 = .slice Ak ng ck ∧ t10 = .slice Aw ng cw ∧ ng ≤ 20 ∧ Hid (∃ c vx vy gs bs, OwI q p w wr ng ck cw c Ak Aw vx vy gs bs))
  case first =>
    go_wp2_with fail
    go_loopw [9, 10, 11] (fun t9 t10 t11 wr => ∃ (i ng ck cw : Nat) (Ak Aw : Option Addr), t11 = .int .i64 (i : Int) ∧ i ≤ nb ∧ i ≤ 20 ∧ ng ≤ i ∧ t9 = .slice Ak ng ck ∧ t10 = .slice Aw ng cw ∧ Hid (∃ c vx vy gs bs, c ≤ i ∧ OwI q p w wr ng ck cw c Ak Aw vx vy gs bs)) (fun _ _ t11 _ => 20 - (intOf t11).toNat)
    case atStart => exact ⟨0, 0, 0, 0, none, none, rfl, Nat.zero_le _, by omega, Nat.le_refl _, rfl, rfl, Lib.hid ⟨_, _, _, _, _, Nat.le_refl _, HS2.out⟩⟩
    case round =>
      obtain ⟨i, ng, ck, cw, Ak, Aw, rfl, hi, hi20, hng, rfl, rfl, HP0⟩ := hrel
      obtain ⟨c, vx, vy, gs, bs, hc, hP⟩ := HP0.out
      have HP := Lib.hid hP
      have HC := Lib.hid hc
      clear HP0 hP hc
      by_cases hgo : i < nb ∧ i < 20
      · obtain ⟨hib, hi30⟩ := hgo
        have hkl : i < bs0.length := by rw [HL.out]; exact hib
        obtain ⟨ad, rfl, c0⟩ := HR.out.at (HQ.out ▸ HP.out.below) i hkl
        have HB := Lib.hid (HK.out bs0[i] (List.getElem_mem _))
        have HRI := Lib.hid (fun (W' : World) (hb : Below w.heap.size w W') => HR.out.at hb i hkl)
        generalize bs0[i] = b at *
        obtain ⟨bA, bn, bc, bx⟩ := b
        have c0 : wr.cell? (ad.add i) = some (.slice bA bn bc) := c0
        have HRI := Lib.hid (show ∀ (W' : World), Below q w W' → W'.cell? (ad.add i) = some (.slice bA bn bc) from fun W' hb => by
          obtain ⟨ad', e, h⟩ := HRI.out W' (HQ.out ▸ hb)
          cases e; exact h)
        by_cases hbody : 1 ≤ bn ∧ bn ≤ 65536
        · have HBD := Lib.hid hbody
          have hbn := hbody.2
          clear hbody
          go_wp2_with fail
          go_at_call 21; (with_reducible refine (frame_yes bA bn bc bx wr HB.out.len (HB.out.cells.below (HQ.out ▸ HP.out.below)) HB.out.none_ HBD.out.1 HBD.out.2).mono ?_); rintro e w2 ⟨A2, c2, rfl, hr, hb⟩
          have HX := Lib.hid hr.cells
          rcases hr with ⟨_, h, _⟩ | ⟨g, cur, hA2, hgl, hg, hlen, hsz, _⟩
          · exfalso; omega
          subst hA2
          have HSZ := Lib.hid hsz
          have HLEN := Lib.hid hlen
          have HS1 := Lib.hid (HP.out.sep.add hb HP.out.lo (R' := rBlk g cur) hg (fun k hk => by obtain rfl : k = g := List.mem_singleton.1 hk; exact ⟨hgl, hg.lt⟩))
          have B2 := Lib.hid (HP.out.below.trans (hb.mono HP.out.lo))
          have HLO2 := Lib.hid (Nat.le_trans HP.out.lo hb.size)
          have HF1 := Lib.hid (show Fm w2 q q 65536 vx [] from HS1.out.at 1 (by simp))
          clear hb hgl hg hsz hlen c0
          go_wp2_with fail
          go_at_call 37; (with_reducible refine (f_feed (some ⟨g, 0, none⟩) (4 + bn) c2 (len4 bn ++ bx) q q 65536 vx [] w2 HF1.out HLEN.out HX.out (fun h => by cases h) (by simp; omega)).mono ?_); rintro e w3 ⟨rfl, vx3, hf3, hw3⟩
          have HS2 := Lib.hid (HS1.out.feed 1 (by simp) rfl hf3 hw3 HLO2.out)
          have B3 := Lib.hid (B2.out.trans HS2.out.2)
          have HLO3 := Lib.hid (Nat.le_trans HLO2.out HS2.out.2.size)
          clear hf3 hw3
          have B3a := Lib.hid (show Below w3.heap.size w3 (w3.alloc (.cells #[.int .u8 9] 5)) from (Below.refl _ _).alloc (Nat.le_refl _) _)
          have HS2a := Lib.hid (HS2.out.1.kept B3a.out HLO3.out)
          have HF2 := Lib.hid (show Fm (w3.alloc (.cells #[.int .u8 9] 5)) p p 65536 vy (List.replicate c 9) from HS2a.out.at 2 (by simp))
          have HCL := Lib.hid (show (List.replicate c (9 : Int)).length + 1 ≤ 140737488355328 by have := HC.out; simp; omega)
          go_wp2_with fail
          go_at_call 37; (with_reducible refine (f_feed (some ⟨w3.heap.size, 0, none⟩) 1 1 [9] p p 65536 vy (List.replicate c 9) _ HF2.out rfl (cells_one w3 _ _) (fun h => by cases h) HCL.out).mono ?_); rintro e w4 ⟨rfl, vy4, hf4, hw4⟩
          have HLO3a := Lib.hid (Nat.le_trans HLO3.out B3a.out.size)
          have HS3 := Lib.hid (HS2a.out.feed 2 (by simp) rfl (show Fm w4 p p 65536 vy4 (List.replicate (c + 1) 9) by rw [List.replicate_succ']; exact hf4) hw4 HLO3a.out)
          have B4 := Lib.hid ((B3.out.trans (B3a.out.mono HLO3.out)).trans HS3.out.2)
          have HLO4 := Lib.hid (Nat.le_trans HLO3a.out HS3.out.2.size)
          have HT3 := Lib.hid (show Sep q w4 (rBlk g cur :: OwL q p vx3 vy4 ([] ++ (len4 bn ++ bx)) (c + 1) (.slice Ak ng ck) ng (gs.map Bw.v) (.slice Aw ng cw) ng (bs.map Bw.v) gs) from HS3.out.1)
          clear hf4 hw4 HF2 HF1 HCL
          go_wp2
          go_loopw [14] (fun t14 wz => ∃ k : Nat, t14 = .int .i64 (k : Int) ∧ k ≤ 4 + bn ∧ Hid (∃ cur', cur'.size = cur.size ∧ Sep q wz (rBlk g cur' :: OwL q p vx3 vy4 ([] ++ (len4 bn ++ bx)) (c + 1) (.slice Ak ng ck) ng (gs.map Bw.v) (.slice Aw ng cw) ng (bs.map Bw.v) gs) ∧ Below q w wz ∧ q ≤ wz.heap.size)) (fun t14 _ => 4 + bn - (intOf t14).toNat)
          case atStart => exact ⟨0, rfl, Nat.zero_le _, Lib.hid ⟨cur, rfl, HT3.out, B4.out, HLO4.out⟩⟩
          case round =>
            obtain ⟨k, rfl, hk, HE0⟩ := hrel
            obtain ⟨cur', hsz', hsep', hbl', hlo'⟩ := HE0.out
            rename World => w5
            have HE := Lib.hid hsep'
            have B5 := Lib.hid hbl'
            have HLO5 := Lib.hid hlo'
            have HSZ5 := Lib.hid hsz'
            clear HE0 hsz' hsep' hbl' hlo'
            by_cases hkn : k < 4 + bn
            · have hkc : k < cur'.size := by have := HSZ.out; have := HSZ5.out; omega
              have HBK := Lib.hid (show Blk w5 g 5 cur' from HE.out.at 0 (by simp))
              have hcr : w5.cell? ⟨g, k, none⟩ = some (cur'[k]'hkc) := by rw [HBK.out.cell k, Array.getElem?_eq_getElem hkc]
              have hfr : w5.frozen? ⟨g, k, none⟩ = false := HBK.out.frozen k
              go_wp2
              go_roundw
              case rel => exact ⟨k + 1, by go_num, by omega, Lib.hid ⟨cur'.setIfInBounds k (.int .u8 238), by simpa using HSZ5.out, (HE.out.store k _ HLO5.out).1, B5.out.trans (HE.out.store k _ HLO5.out).2, Nat.le_trans HLO5.out (HE.out.store k _ HLO5.out).2.size⟩⟩
              case measure => simp [intOf]; omega
            · have HT5 := Lib.hid HE.out.tail
              have HF5 := Lib.hid (show Fm w5 q q 65536 vx3 ([] ++ (len4 bn ++ bx)) from HT5.out.at 0 (by simp))
              obtain ⟨A5, c5, hv5, _, _, _⟩ := owned_form HF5.out.own
              have HFL := Lib.hid (show ([] ++ (len4 bn ++ bx)).length = 4 + bn from HLEN.out)
              rw [HFL.out] at hv5
              subst hv5
              have CX := Lib.hid (f_next2 q q 65536 A5 (4 + bn) c5 _ _ HF5.out HFL.out (fun x hx => by
                rcases List.mem_append.1 (show x ∈ len4 bn ++ bx from hx) with e | e
                · exact len4_wf _ HBD.out.2 x e
                · exact HB.out.wf x e) (by omega))
              have HNX := Lib.hid (show nextP 65536 ([] ++ (len4 bn ++ bx)) = .yes bx [] by
                have h := nextP_yes 65536 bx [] (by rw [HB.out.len]; exact HBD.out.1) (by rw [HB.out.len]; exact HBD.out.2) (by have h1 := HBD.out.2; have h2 : bx.length = bn := HB.out.len; omega)
                unfold frE at h
                rw [HB.out.len, List.append_nil] at h
                exact h)
              have HBL := Lib.hid HB.out.len
              go_wp2_with fail
              go_at_call 40; (with_reducible refine (HNX.out ▸ CX.out).mono ?_); rintro e w6 ⟨A6, c6, rfl, hr6, v6, hf6, ht6, hfr6, hdj6, hown6⟩
              rw [HBL.out] at hr6 hown6 ⊢
              have HS6 := Lib.hid (HT5.out.next hf6 ht6 hfr6 hdj6 hown6 HLO5.out)
              have B6 := Lib.hid (B5.out.trans HS6.out.2)
              have HLO6 := Lib.hid (Nat.le_trans HLO5.out HS6.out.2.size)
              have HT6 := Lib.hid (show Sep q w6 (OwL q p v6 vy4 [] (c + 1) (.slice Ak ng ck) ng (gs.map Bw.v) (.slice Aw ng cw) ng (bs.map Bw.v) (gs ++ [⟨A6, bn, c6, bx⟩])) by
                have h := HS6.out.1
                unfold OwL
                rw [List.map_append]
                exact h)
              have c0 := HRI.out w6 B6.out
              have hcv1 := row_convN hr6 c6
              have hcv2 : ∀ k, (convert 24 9 (.slice bA bn bc)).run Tryd.prog (w6.drewN k) = .ok (.string (strOfNums bx)) (w6.drewN k) := bw_convN HB.out (HQ.out ▸ B6.out)
              generalize strOfNums bx = Sx at hcv1 hcv2
              clear hr6 hf6 ht6 hfr6 hdj6 hown6 HS6 CX HF5
              go_wp2
              go_quiet (fail)
              obtain ⟨w7, hw7⟩ : ∃ w7, w7 = w6.drewN nq := ⟨_, rfl⟩
              rw [← hw7]
              have b67 : Below w6.heap.size w6 w7 := hw7 ▸ below_drewN (Below.refl _ _) _
              have HT7 := Lib.hid (HT6.out.kept b67 HLO6.out)
              have B7 := Lib.hid (B6.out.trans (b67.mono HLO6.out))
              have HLO7 := Lib.hid (Nat.le_trans HLO6.out b67.size)
              clear b67 hw7 c0 hcv1 hcv2
              have HR7 := Lib.hid (show w7.ownsRow q 24 1 (.slice Ak ng ck) ng (gs.map Bw.v) from HT7.out.at 2 (by simp))
              go_wp2_with (first
                | (at_builtin; refine wpList_append_row rfl _ _ rfl q _ ng (gs.map Bw.v) rfl (HR7.out.alloc _) ⟨w7.heap.size, 0, none⟩ A6 bn c6 rfl (cells_one w7 _ _) (by omega) (Nat.le_trans HLO7.out (by simp)) ?_
                   intro v' w8 hown hg hv
                   obtain ⟨A8, c8, rfl, _, _, _⟩ := owned_form hown
                   have ba : Below w7.heap.size w7 (w7.alloc (.cells #[.slice A6 bn c6] 24)) := (Below.refl _ _).alloc (Nat.le_refl _) _
                   have h8 := (HT7.out.kept ba HLO7.out).rows 2 (by simp) rfl hown hg hv (Nat.le_trans HLO7.out ba.size)
                   have HT8 := Lib.hid (show Sep q w8 (OwL q p v6 vy4 [] (c + 1) (.slice A8 (ng + 1) c8) (ng + 1) (gs.map Bw.v ++ [.slice A6 bn c6]) (.slice Aw ng cw) ng (bs.map Bw.v) (gs ++ [⟨A6, bn, c6, bx⟩])) from h8.1)
                   have B8 := Lib.hid ((B7.out.trans (ba.mono HLO7.out)).trans h8.2)
                   have HLO8 := Lib.hid (Nat.le_trans (Nat.le_trans HLO7.out ba.size) h8.2.size)
                   have HR8 := Lib.hid (show w8.ownsRow q 24 1 (.slice Aw ng cw) ng (bs.map Bw.v) from HT8.out.at 3 (by simp))
                   have c0 := HRI.out w8 B8.out
                   clear hown hg hv h8 ba)
                | (at_builtin; refine wpList_append_row rfl _ _ rfl q _ ng (bs.map Bw.v) rfl (HR8.out.alloc _) ⟨w8.heap.size, 0, none⟩ bA bn bc rfl (cells_one w8 _ _) (by omega) (Nat.le_trans HLO8.out (by simp)) ?_
                   intro v' w9 hown hg hv
                   obtain ⟨A9, c9, rfl, _, _, _⟩ := owned_form hown
                   have ba : Below w8.heap.size w8 (w8.alloc (.cells #[.slice bA bn bc] 24)) := (Below.refl _ _).alloc (Nat.le_refl _) _
                   have h9 := (HT8.out.kept ba HLO8.out).rows 3 (by simp) rfl hown hg hv (Nat.le_trans HLO8.out ba.size)
                   have HT9 := Lib.hid (show Sep q w9 (OwL q p v6 vy4 [] (c + 1) (.slice A8 (ng + 1) c8) (ng + 1) (gs.map Bw.v ++ [.slice A6 bn c6]) (.slice A9 (ng + 1) c9) (ng + 1) (bs.map Bw.v ++ [.slice bA bn bc]) (gs ++ [⟨A6, bn, c6, bx⟩])) from h9.1)
                   have B9 := Lib.hid ((B8.out.trans (ba.mono HLO8.out)).trans h9.2)
                   have HLO9 := Lib.hid (Nat.le_trans (Nat.le_trans HLO8.out ba.size) h9.2.size)
                   clear hown hg hv h9 ba)
                | fail)
              go_roundw
              case rel =>
                refine ⟨i + 1, ng + 1, c8, c9, A8, A9, by go_num, by omega, by omega, by omega, rfl, rfl, Lib.hid ⟨c + 1, v6, vy4, gs ++ [⟨A6, bn, c6, bx⟩], bs ++ [⟨bA, bn, bc, bx⟩], by have := HC.out; omega, ?_⟩⟩
                refine ⟨?_, by rw [List.length_append, HP.out.glen]; rfl, by rw [List.length_append, HP.out.blen]; rfl, by rw [List.map_append, List.map_append, HP.out.same]; rfl, fun b hb => ?_, fun b hb => ?_, B9.out, HLO9.out⟩
                · have h := HT9.out
                  rw [List.map_append, List.map_append]
                  exact h
                · rcases List.mem_append.1 hb with h | h
                  · exact HP.out.ok b h
                  · rw [List.mem_singleton] at h; subst h; exact HB.out
                · rcases List.mem_append.1 hb with h | h
                  · exact HP.out.gok b h
                  · rw [List.mem_singleton] at h; subst h; exact ⟨HBL.out, HBD.out⟩
              case measure => simp [intOf]; omega
        · have HBD := Lib.hid (show bn < 1 ∨ 65536 < bn by omega)
          have HBG := Lib.hid (show bn ≤ 9223372036854775807 by have : bn ≤ maxLen := HB.out.big; unfold maxLen at this; omega)
          clear hbody
          go_wp2_with fail
          go_at_call 21; (with_reducible refine (frame_no bA bn bc wr HBD.out HBG.out).mono ?_); rintro e w2 ⟨rfl, rfl⟩
          go_wp2_with fail
          go_roundw
          case rel => exact ⟨i + 1, ng, ck, cw, Ak, Aw, by go_num, by omega, by omega, by omega, rfl, rfl, Lib.hid ⟨c, vx, vy, gs, bs, by have := HC.out; omega, HP.out⟩⟩
          case measure => simp [intOf]; omega
      · have hor : ¬ i < nb ∨ (i < nb ∧ ¬ i < 20) := by omega
        clear hgo
        rcases hor with hkn | ⟨hkn, hk5⟩
        all_goals
          go_wp2
          go_meet
          exact ⟨ng, ck, cw, Ak, Aw, rfl, rfl, by omega, Lib.hid ⟨c, vx, vy, gs, bs, HP.out⟩⟩
  case rest =>
    obtain ⟨ng, ck, cw, Ak, Aw, rfl, rfl, hng, HP0⟩ := hcut
    obtain ⟨c, vx, vy, gs0, bs, hP⟩ := HP0.out
    rename World => w0
    have HJ0 := Lib.hid (show OwJ q p w w0 ng ck cw c Ak Aw vx vy gs0 bs 0 from ⟨hP.sep, hP.glen, hP.blen, fun j _ h => by omega, fun j h h' _ => by
      have e := congrArg (fun l => l[j]?) hP.same
      simp only [List.getElem?_map, List.getElem?_eq_getElem h, List.getElem?_eq_getElem h', Option.map_some, Option.some.injEq] at e
      exact e, hP.ok, hP.gok, hP.below, hP.lo⟩)
    clear HP0 hP
    go_wp2
    go_loopw [18] (fun t18 wr => ∃ i : Nat, t18 = .int .i64 (i : Int) ∧ i ≤ ng ∧ Hid (∃ gs, OwJ q p w wr ng ck cw c Ak Aw vx vy gs bs i)) (fun t18 _ => ng - (intOf t18).toNat)
    case atStart => exact ⟨0, rfl, Nat.zero_le _, Lib.hid ⟨_, HJ0.out⟩⟩
    case round =>
      obtain ⟨i, rfl, hi, HJ⟩ := hrel
      obtain ⟨gs, hJ⟩ := HJ.out
      have HJ := Lib.hid hJ
      rename World => wr
      by_cases hin : i < ng
      · have hig : i < gs.length := by rw [hJ.glen]; exact hin
        have hib : i < bs.length := by rw [hJ.blen]; exact hin
        have HT := Lib.hid hJ.sep
        have HLO := Lib.hid hJ.lo
        obtain ⟨gk, hAk, hgk, ck0⟩ := good_cell (show wr.ownsRow q 24 1 (.slice Ak ng ck) ng (gs.map Bw.v) from hJ.sep.at 2 (by simp)) i hig
        obtain ⟨gw, hAw, hgw, cw0⟩ := good_cell (show wr.ownsRow q 24 1 (.slice Aw ng cw) ng (bs.map Bw.v) from hJ.sep.at 3 (by simp)) i hib
        subst hAk
        subst hAw
        have hrow := OwL.row hJ.sep i hig
        have hgok := hJ.gok _ (List.getElem_mem hig)
        have hsame := hJ.todo i hig hib (Nat.le_refl _)
        have hcv2 := bw_convN (hJ.ok _ (List.getElem_mem hib)) (HQ.out ▸ hJ.below)
        obtain ⟨a, ha⟩ : ∃ a, a = gs[i] := ⟨_, rfl⟩
        rw [← ha] at ck0 hrow hgok hsame
        obtain ⟨a2, ha2⟩ : ∃ a2, a2 = bs[i] := ⟨_, rfl⟩
        rw [← ha2] at cw0 hsame hcv2
        rw [← hsame] at hcv2
        have HA := Lib.hid ha
        clear ha ha2 hsame hJ
        obtain ⟨aA, an, ac, ax⟩ := a
        obtain ⟨dA, dn, dc, dx⟩ := a2
        obtain ⟨hax, ha1, ha9⟩ := hgok
        replace hax : ax.length = an := hax
        replace ha1 : 1 ≤ an := ha1
        replace ha9 : an ≤ 65536 := ha9
        replace ck0 : wr.cell? ⟨gk, i, none⟩ = some (.slice aA an ac) := ck0
        replace cw0 : wr.cell? ⟨gw, i, none⟩ = some (.slice dA dn dc) := cw0
        replace hcv2 : ∀ k, (convert 24 9 (.slice dA dn dc)).run Tryd.prog (wr.drewN k) = .ok (.string (strOfNums ax)) (wr.drewN k) := hcv2
        replace hrow : OwO wr q (.slice aA an ac) ax := hrow
        obtain ⟨ga, oa, rfl⟩ : ∃ ga oa, aA = some ⟨ga, oa, none⟩ := by
          rcases hrow with ⟨_, e⟩ | ⟨g', o', c', h⟩
          · rw [e] at hax; simp at hax; omega
          · have e := h.val
            injection e with e1 e2 e3
            exact ⟨_, _, e1⟩
        have HROW := Lib.hid hrow
        have hcv1 : ∀ k, (convert 24 9 (.slice (some ⟨ga, oa, none⟩) an ac)).run Tryd.prog (wr.drewN k) = .ok (.string (strOfNums ax)) (wr.drewN k) := fun k => by
          obtain ⟨A', c', e, hc, _, _⟩ := hrow.cellsAt
          injection e with e1 e2 e3
          subst e1
          exact conv_cells (hc.below (below_drewN (Below.refl _ _) k)) hax ac
        have HAX := Lib.hid hax
        generalize strOfNums ax = Sx at hcv1 hcv2
        clear hrow hax
        go_wp2
        go_quiet (fail)
        obtain ⟨w5, hw5⟩ : ∃ w5, w5 = wr.drewN nq := ⟨_, rfl⟩
        rw [← hw5]
        have b5 : Below wr.heap.size wr w5 := hw5 ▸ below_drewN (Below.refl _ _) _
        have HT5 := Lib.hid (HT.out.kept b5 HLO.out)
        have B5 := Lib.hid (HJ.out.below.trans (b5.mono HLO.out))
        have HLO5 := Lib.hid (Nat.le_trans HLO.out b5.size)
        have HROW5 := Lib.hid (HROW.out.kept (S := fun _ => False) (Tur.of_below b5) (fun _ _ h => h))
        have ck5 : w5.cell? ⟨gk, i, none⟩ = some (.slice (some ⟨ga, oa, none⟩) an ac) := (b5.cell (p := ⟨gk, i, none⟩) hgk).trans ck0
        clear b5 hw5 ck0 cw0 hcv1 hcv2
        have HAC := Lib.hid (show OwO (w5.alloc (.cells #[.int .u8 1, .int .u8 2, .int .u8 3] 5)) q (.slice (some ⟨ga, oa, none⟩) an ac) ax from HROW5.out.kept (S := fun _ => False) (Tur.of_below ((Below.refl w5.heap.size w5).alloc (Nat.le_refl _) _)) (fun _ _ h => h))
        have HC3 := Lib.hid (show CellsAt (w5.alloc (.cells #[.int .u8 1, .int .u8 2, .int .u8 3] 5)) (some ⟨w5.heap.size, 0, none⟩) (bvs [1, 2, 3]) from cells_of_blk (more := []) (Blk.new w5 5 #[.int .u8 1, .int .u8 2, .int .u8 3]) rfl)
        go_wp2_with (first
          | (at_builtin; refine wpList_append_keep rfl _ _ rfl q (.slice (some ⟨ga, oa, none⟩) an ac) ax rfl HAC.out ⟨w5.heap.size, 0, none⟩ 3 3 [1, 2, 3] rfl rfl HC3.out (by have := HAX.out; omega) (Nat.le_trans HLO5.out (by simp)) ?_
             intro v' w6 hold hnew hg hv
             rcases hnew with ⟨_, hx⟩ | ⟨g6, o6, c6, hf6⟩
             · simp at hx
             obtain ⟨l6, hl6⟩ : ∃ l6, l6 = (ax ++ [1, 2, 3]).length := ⟨_, rfl⟩
             have hv6 := hf6.val
             rw [← hl6] at hv6
             subst hv6
             have hl7 : 3 ≤ l6 := by rw [hl6, List.length_append]; exact Nat.le_add_left _ _
             obtain ⟨u6, e6⟩ : ∃ u6, w6.cell? ⟨g6, o6, none⟩ = some (.int .u8 u6) := ⟨_, hf6.cells 0 (by rw [← hl6]; omega)⟩
             have x6 : w6.frozen? ⟨g6, o6, none⟩ = false := (hf6.room 0 (by have := hf6.fits; rw [← hl6] at this; omega)).2
             have HOLD := Lib.hid hold
             have HG := Lib.hid hg
             have HV := Lib.hid hv
             clear hold hg hv hf6 hl6)
          | fail)
        have HPOKE := Lib.hid (HOLD.out.poke g6 o6 (i : Int))
        have HTUR := Lib.hid (show Tur (fun k => (Value.slice (some ⟨ga, oa, none⟩) an ac).ownBlock = some k) (w5.alloc (.cells #[.int .u8 1, .int .u8 2, .int .u8 3] 5)) (w6.setCell ⟨g6, o6, none⟩ (.int .u8 (i : Int))) from
          Tur.setCell (p := ⟨g6, o6, none⟩) (Tur.of_grown HG.out (fun _ h => h)) (by
            rcases HV.out with e | ⟨k, e, hk⟩
            · exact .inl e.symm
            · cases e; exact .inr hk) _)
        have HS7 := Lib.hid (show ∃ ys : List Int, ys.length = an ∧ Sep q (w6.setCell ⟨g6, o6, none⟩ (.int .u8 (i : Int))) (OwL q p vx vy [] c (.slice (some ⟨gk, 0, none⟩) ng ck) ng (gs.map Bw.v) (.slice (some ⟨gw, 0, none⟩) ng cw) ng (bs.map Bw.v) (gs.set i ⟨some ⟨ga, oa, none⟩, an, ac, ys⟩)) ∧ Below q w (w6.setCell ⟨g6, o6, none⟩ (.int .u8 (i : Int))) ∧ q ≤ (w6.setCell ⟨g6, o6, none⟩ (.int .u8 (i : Int))).heap.size from by
          obtain ⟨ys, h1, h2⟩ := HPOKE.out
          have ba : Below w5.heap.size w5 (w5.alloc (.cells #[.int .u8 1, .int .u8 2, .int .u8 3] 5)) := (Below.refl _ _).alloc (Nat.le_refl _) _
          have h := OwL.put (HT5.out.kept ba HLO5.out) i hig ⟨some ⟨ga, oa, none⟩, an, ac, ys⟩ (by rw [← HA.out]) HTUR.out h2 (Nat.le_trans HLO5.out ba.size)
          exact ⟨ys, by rw [h1]; exact HAX.out, h.1, (B5.out.trans (ba.mono HLO5.out)).trans h.2, Nat.le_trans (Nat.le_trans HLO5.out ba.size) h.2.size⟩)
        generalize w6.setCell ⟨g6, o6, none⟩ (.int .u8 (i : Int)) = w7 at HS7 ⊢
        clear HPOKE HTUR HOLD HG HV e6 x6 ck5 HAC HC3
        go_loopw [20] (fun t20 wz => ∃ k : Nat, t20 = .int .i64 (k : Int) ∧ k ≤ an ∧ Hid (∃ ys : List Int, ys.length = an ∧ (∀ j (h : j < ys.length), j < k → ys[j] = (i : Int)) ∧ Sep q wz (OwL q p vx vy [] c (.slice (some ⟨gk, 0, none⟩) ng ck) ng (gs.map Bw.v) (.slice (some ⟨gw, 0, none⟩) ng cw) ng (bs.map Bw.v) (gs.set i ⟨some ⟨ga, oa, none⟩, an, ac, ys⟩)) ∧ Below q w wz ∧ q ≤ wz.heap.size)) (fun t20 _ => an - (intOf t20).toNat)
        case atStart =>
          obtain ⟨ys, h1, h2, h3, h4⟩ := HS7.out
          exact ⟨0, rfl, Nat.zero_le _, Lib.hid ⟨ys, h1, fun j _ h => by omega, h2, h3, h4⟩⟩
        case round =>
          obtain ⟨k, rfl, hk, HE0⟩ := hrel
          rename World => wz
          obtain ⟨ys, hy1, hy2, hy3, hy4, hy5⟩ := HE0.out
          have hgl : (gs.set i ⟨some ⟨ga, oa, none⟩, an, ac, ys⟩).length = gs.length := List.length_set
          obtain ⟨gk2, hk2, _, ckz⟩ := good_cell (W := wz) (base := q) (n := ng) (c := ck) (A := some ⟨gk, 0, none⟩) (gs := gs.set i ⟨some ⟨ga, oa, none⟩, an, ac, ys⟩) (by rw [map_v_set hig (by rw [← HA.out])]; exact hy3.at 2 (by simp)) i (by rw [hgl]; exact hig)
          cases hk2
          rw [List.getElem_set_self] at ckz
          replace ckz : wz.cell? ⟨gk, i, none⟩ = some (.slice (some ⟨ga, oa, none⟩) an ac) := ckz
          have hrz := OwL.row hy3 i (by rw [hgl]; exact hig)
          rw [List.getElem_set_self] at hrz
          have HRZ := Lib.hid (OwO.form (show OwO wz q (.slice (some ⟨ga, oa, none⟩) an ac) ys from hrz))
          have HY := Lib.hid (And.intro hy1 (And.intro hy2 (And.intro hy3 (And.intro hy4 hy5))))
          clear HE0 hy1 hy2 hy3 hy4 hy5 hrz hgl
          by_cases hkn : k < an
          · obtain ⟨uk, euk⟩ : ∃ uk, wz.cell? ⟨ga, oa + k, none⟩ = some (.int .u8 uk) := ⟨_, HRZ.out.cells k (by rw [HY.out.1]; exact hkn)⟩
            have xuk : wz.frozen? ⟨ga, oa + k, none⟩ = false := (HRZ.out.room k (by have := HRZ.out.fits; have := HY.out.1; omega)).2
            go_wp2
            go_roundw
            case rel =>
              refine ⟨k + 1, by go_num, by omega, Lib.hid ⟨ys.set k (i : Int), by rw [List.length_set]; exact HY.out.1, fun j hj hjk => ?_, ?_⟩⟩
              · rw [List.length_set] at hj
                by_cases e : k = j
                · subst e; rw [List.getElem_set_self]
                · rw [List.getElem_set_ne e]; exact HY.out.2.1 j hj (by omega)
              · have h := OwL.put HY.out.2.2.1 i (by rw [List.length_set]; exact hig) ⟨some ⟨ga, oa, none⟩, an, ac, ys.set k (i : Int)⟩ (by rw [List.getElem_set_self]) (Tur.setCell (S := fun j => (Value.slice (some ⟨ga, oa, none⟩) an ac).ownBlock = some j) (p := ⟨ga, oa + k, none⟩) (Tur.refl _ _) (.inl rfl) (.int .u8 (i : Int))) (.inr ⟨ga, oa, ac, HRZ.out.set k (by rw [HY.out.1]; exact hkn) (i : Int)⟩) HY.out.2.2.2.2
                rw [List.set_set] at h
                exact ⟨h.1, HY.out.2.2.2.1.trans h.2, Nat.le_trans HY.out.2.2.2.2 h.2.size⟩
            case measure => simp [intOf]; omega
          · have HEQ := Lib.hid (show ys = List.replicate an (i : Int) from eq_repl HY.out.1 (fun j hj => HY.out.2.1 j hj (by have := HY.out.1; omega)))
            go_wp2
            go_roundw
            case rel => exact ⟨i + 1, by go_num, by omega, Lib.hid ⟨_, HJ.out.next hig (by rw [← HA.out]) (by rw [← HA.out]) HEQ.out HY.out.2.2.1 HY.out.2.2.2.1 HY.out.2.2.2.2⟩⟩
            case measure => simp [intOf]; omega
      · obtain rfl : i = ng := by omega
        clear hin
        have HJ3 := HJ
        go_wp2
        go_loopw [21] (fun t21 wz => ∃ j : Nat, t21 = .int .i64 (j : Int) ∧ j ≤ i ∧ Hid (OwJ q p w wz i ck cw c Ak Aw vx vy gs bs i)) (fun t21 _ => i - (intOf t21).toNat)
        case atStart => exact ⟨0, rfl, Nat.zero_le _, HJ⟩
        case round =>
          obtain ⟨j, rfl, hj, HJz⟩ := hrel
          rename World => wz
          by_cases hjn : j < i
          · have hjg : j < gs.length := by rw [HJz.out.glen]; exact hjn
            go_wp2
            go_loopw [22] (fun t22 wy => ∃ k : Nat, t22 = .int .i64 (k : Int) ∧ k ≤ 65536 ∧ Hid (OwJ q p w wy i ck cw c Ak Aw vx vy gs bs i)) (fun t22 _ => 65536 - (intOf t22).toNat)
            case atStart => exact ⟨0, rfl, Nat.zero_le _, HJz⟩
            case round =>
              obtain ⟨k, rfl, hk, HJy⟩ := hrel
              rename World => wy
              obtain ⟨gk, hAk, hgk, ckz⟩ := good_cell (show wy.ownsRow q 24 1 (.slice Ak i ck) i (gs.map Bw.v) from HJy.out.sep.at 2 (by simp)) j hjg
              subst hAk
              have hrow := OwL.row HJy.out.sep j hjg
              have hdone := HJy.out.done j hjg hjn
              have hgok := HJy.out.gok _ (List.getElem_mem hjg)
              obtain ⟨a, ha⟩ : ∃ a, a = gs[j] := ⟨_, rfl⟩
              rw [← ha] at ckz hrow hdone hgok
              clear ha
              obtain ⟨aA, an, ac, ax⟩ := a
              obtain ⟨hax, ha1, ha9⟩ := hgok
              replace hax : ax.length = an := hax
              replace ha1 : 1 ≤ an := ha1
              replace ha9 : an ≤ 65536 := ha9
              replace hdone : ax = List.replicate an (j : Int) := hdone
              replace ckz : wy.cell? ⟨gk, j, none⟩ = some (.slice aA an ac) := ckz
              replace hrow : OwO wy q (.slice aA an ac) ax := hrow
              obtain ⟨ga, oa, rfl⟩ : ∃ ga oa, aA = some ⟨ga, oa, none⟩ := by
                rcases hrow with ⟨_, e⟩ | ⟨g', o', c', h⟩
                · rw [e] at hax; simp at hax; omega
                · have e := h.val
                  injection e with e1 e2 e3
                  exact ⟨_, _, e1⟩
              have HF := Lib.hid hrow.form
              have HAX := Lib.hid hax
              have HDN := Lib.hid hdone
              clear hrow hax hdone
              by_cases hkn : k < an
              · have euk : wy.cell? ⟨ga, oa + k, none⟩ = some (.int .u8 (j : Int)) := by
                  rw [HF.out.cells k (by rw [HAX.out]; exact hkn)]
                  simp only [HDN.out, List.getElem_replicate]
                go_wp2
                go_roundw
                case rel => exact ⟨k + 1, by go_num, by omega, HJy⟩
                case measure => simp [intOf]; omega
              · go_wp2
                go_roundw
                case rel => exact ⟨j + 1, by go_num, by omega, HJy⟩
                case measure => simp [intOf]; omega
          · have HX := Lib.hid (show Fm wz q q 65536 vx [] from HJz.out.sep.at 0 (by simp))
            have BZ := Lib.hid HJz.out.below
            have HLZ := Lib.hid HJz.out.lo
            clear HJ3 HJ HJz
            go_upto_block 12 with fail
            obtain ⟨z, hz⟩ : ∃ z, z = wz.heap.size := ⟨_, rfl⟩
            have HZ := Lib.hid hz
            go_cut [23, 24] (fun t23 t24 w' => ∃ K v1 v2 b1 b2, t23 = .pointer (some ⟨wz.heap.size, 0, none⟩) ∧ t24 = .pointer (some ⟨wz.heap.size + 1, 0, none⟩) ∧ min (30 : Int) (nl : Int) = ((K : Nat) : Int) ∧ (K : Int) ≤ 30 ∧ Hid (b1.length = K ∧ b2.length = 2 * K ∧ Sep z w' [rWr z z v1 b1, rWr (z + 1) (z + 1) v2 b2] ∧ Below z wz w'))
            case first =>
              clear hz
              have HS0 := Lib.hid (show Sep z ((wz.alloc (.cells #[.slice none 0 0] 49)).alloc (.cells #[.slice none 0 0] 49)) [rWr z z (.slice none 0 0) [], rWr (z + 1) (z + 1) (.slice none 0 0) []] ∧ Below z wz ((wz.alloc (.cells #[.slice none 0 0] 49)).alloc (.cells #[.slice none 0 0] 49)) from by
                have hz := HZ.out
                have b1 : Below z wz (wz.alloc (.cells #[.slice none 0 0] 49)) := hz ▸ ((Below.refl wz.heap.size wz).alloc (Nat.le_refl _) _)
                have b2 : Below (z + 1) (wz.alloc (.cells #[.slice none 0 0] 49)) ((wz.alloc (.cells #[.slice none 0 0] 49)).alloc (.cells #[.slice none 0 0] 49)) := (Below.refl _ _).alloc (by rw [hz]; simp) _
                have w1 : Wr (wz.alloc (.cells #[.slice none 0 0] 49)) z z (.slice none 0 0) [] := hz ▸ wr_new2 wz
                have w2 : Wr ((wz.alloc (.cells #[.slice none 0 0] 49)).alloc (.cells #[.slice none 0 0] 49)) (z + 1) (z + 1) (.slice none 0 0) [] := by
                  have h := wr_new2 (wz.alloc (.cells #[.slice none 0 0] 49))
                  rw [show (wz.alloc (.cells #[.slice none 0 0] 49)).heap.size = z + 1 by rw [hz]; simp] at h
                  exact h
                have s1 := (Sep.nil z wz).add (R' := rWr z z (.slice none 0 0) []) (hz ▸ b1) (Nat.le_of_eq hz) w1 (fun k hk => by
                  obtain rfl : k = z := by simpa [rWr, Value.ownBlock] using hk
                  exact ⟨Nat.le_of_eq hz.symm, w1.blk.lt⟩)
                have e1 : (wz.alloc (.cells #[.slice none 0 0] 49)).heap.size = z + 1 := by rw [hz]; simp
                have s2 := s1.add (R' := rWr (z + 1) (z + 1) (.slice none 0 0) []) (e1.symm ▸ b2) (by omega) w2 (fun k hk => by
                  obtain rfl : k = z + 1 := by simpa [rWr, Value.ownBlock] using hk
                  exact ⟨by omega, w2.blk.lt⟩)
                exact ⟨s2.perm (List.Perm.swap _ _ _), b1.trans (b2.mono (by omega))⟩)
              go_wp2
              generalize (wz.alloc (.cells #[.slice none 0 0] 49)).alloc (.cells #[.slice none 0 0] 49) = ws at HS0 ⊢
              go_loopw [25] (fun t25 wy => ∃ k : Nat, t25 = .int .i64 (k : Int) ∧ k ≤ nl ∧ k ≤ 30 ∧ Hid (∃ v1 v2 b1 b2, b1.length = k ∧ b2.length = 2 * k ∧ Sep z wy [rWr z z v1 b1, rWr (z + 1) (z + 1) v2 b2] ∧ Below z wz wy)) (fun t25 _ => 30 - (intOf t25).toNat)
              case atStart => exact ⟨0, rfl, Nat.zero_le _, by omega, Lib.hid ⟨_, _, [], [], rfl, rfl, HS0.out.1, HS0.out.2⟩⟩
              case round =>
                obtain ⟨k, rfl, hkl, hk3, HW0⟩ := hrel
                rename World => wy
                obtain ⟨v1, v2, b1, b2, hb1, hb2, hs, hb⟩ := HW0.out
                have HB1 := Lib.hid hb1
                have HB2 := Lib.hid hb2
                have HS := Lib.hid hs
                have HB := Lib.hid hb
                have HLY := Lib.hid (show z ≤ wy.heap.size from Nat.le_trans (Nat.le_of_eq HZ.out) hb.size)
                clear HW0 hb1 hb2 hs hb
                by_cases hgo : k < nl ∧ k < 30
                · obtain ⟨hk1, hk2⟩ := hgo
                  have HW1 := Lib.hid (show Wr wy z z v1 b1 from HS.out.at 0 (by simp))
                  have CN := Lib.hid (w_num_nat k (by omega) z z v1 b1 wy HW1.out (by have := HB1.out; omega))
                  rw [HZ.out] at CN
                  go_wp2_with fail
                  go_at_call 17; (with_reducible refine CN.out.mono ?_); rintro e wa ⟨rfl, va, hwa, hfa⟩
                  rw [← HZ.out] at hwa hfa
                  have HSA := Lib.hid (show Sep z wa [rWr z z va (b1 ++ sev k), rWr (z + 1) (z + 1) v2 b2] ∧ Below z wy wa from HS.out.wr 0 (by simp) rfl hwa hfa HLY.out)
                  have HLA := Lib.hid (Nat.le_trans HLY.out HSA.out.2.size)
                  have HW2 := Lib.hid (show Wr wa (z + 1) (z + 1) v2 b2 from HSA.out.1.at 1 (by simp))
                  have CT := Lib.hid (w_text { data := #[122] } (z + 1) (z + 1) v2 b2 wa HW2.out (by have := HB2.out; show b2.length + 10 + 1 ≤ _; omega))
                  rw [HZ.out] at CT
                  clear hwa hfa CN
                  go_wp2_with fail
                  go_at_call 30; (with_reducible refine CT.out.mono ?_); rintro e wb ⟨rfl, vb, hwb, hfb⟩
                  rw [← HZ.out] at hwb hfb
                  have HSB := Lib.hid (show Sep z wb [rWr z z va (b1 ++ sev k), rWr (z + 1) (z + 1) vb (b2 ++ sev (ByteArray.size { data := #[122] }) ++ strB { data := #[122] })] ∧ Below z wa wb from HSA.out.1.wr 1 (by simp) rfl hwb hfb HLA.out)
                  clear hwb hfb CT
                  go_wp2
                  go_roundw
                  case rel => exact ⟨k + 1, by go_num, by omega, by omega, Lib.hid ⟨va, vb, _, _, by rw [List.length_append, HB1.out, sev_small k (by omega)]; rfl, by rw [List.length_append, List.length_append, HB2.out]; show 2 * k + (sev 1).length + (strB { data := #[122] }).length = _; rw [sev_small 1 (by omega)]; show 2 * k + 1 + 1 = 2 * (k + 1); omega, HSB.out.1, HB.out.trans (HSA.out.2.trans HSB.out.2)⟩⟩
                  case measure => simp [intOf]; omega
                · have hor : (¬ k < nl ∧ k = nl) ∨ (k < nl ∧ ¬ k < 30 ∧ k = 30) := by omega
                  clear hgo
                  rcases hor with ⟨hkn, hke⟩ | ⟨hkn, hk5, hke⟩
                  all_goals
                    have HKE := Lib.hid hke
                    clear hke
                    go_wp2
                    go_meet
                    exact ⟨k, v1, v2, b1, b2, rfl, rfl, by have := HKE.out; omega, by omega, Lib.hid ⟨HB1.out, HB2.out, HS.out, HB.out⟩⟩
            case rest =>
              obtain ⟨K, v1, v2, b1, b2, rfl, rfl, hmin, hK, HW⟩ := hcut
              rename World => wy
              clear hz
              have HLY := Lib.hid (show z ≤ wy.heap.size from Nat.le_trans (Nat.le_of_eq HZ.out) HW.out.2.2.2.size)
              have HW1 := Lib.hid (show Wr wy z z v1 b1 from HW.out.2.2.1.at 0 (by simp))
              obtain ⟨K2, hk2⟩ : ∃ K2, K2 = 2 * K := ⟨_, rfl⟩
              have HL1 := Lib.hid HW.out.1
              have HL2 := Lib.hid (show b2.length = K2 from HW.out.2.1.trans hk2.symm)
              have HS3 := Lib.hid HW.out.2.2.1
              have HB3 := Lib.hid HW.out.2.2.2
              have CB1 := Lib.hid (w_bytes z z v1 b1 wy HW1.out (by have := HW.out.1; omega))
              rw [HZ.out, HW.out.1] at CB1
              have hor : (30 ≤ nl ∧ K = 30 ∧ K2 = 60) ∨ (nl < 30 ∧ K = nl ∧ K2 = 2 * nl) := by omega
              clear HW hmin hk2
              have fin : ∀ wc : World, Below wy.heap.size wy wc → ∀ wd, Below wc.heap.size wc wd → Below q w wd := fun wc hc wd hd =>
                BZ.out.trans ((((HB3.out.trans (hc.mono HLY.out)).trans (hd.mono (Nat.le_trans HLY.out hc.size)))).mono (Nat.le_trans HLZ.out (Nat.le_of_eq HZ.out.symm)))
              have HFIN := Lib.hid fin
              clear fin
              rcases hor with ⟨hn, rfl, rfl⟩ | ⟨hn, rfl, rfl⟩
              all_goals
                go_wp2_with fail
                go_at_call 16; (with_reducible refine CB1.out.mono ?_); rintro e wa ⟨A1, rfl, _, hba⟩
                have HBA := Lib.hid hba
                have HW2 := Lib.hid (show Wr wa (z + 1) (z + 1) v2 b2 from (HS3.out.kept hba HLY.out).at 1 (by simp))
                have CB2 := Lib.hid (w_bytes (z + 1) (z + 1) v2 b2 wa HW2.out (by have := HL2.out; omega))
                rw [HZ.out, HL2.out] at CB2
                clear hba CB1
                go_wp2_with fail
                go_at_call 16; (with_reducible refine CB2.out.mono ?_); rintro e wb ⟨A2, rfl, _, hbb⟩
                have BB := Lib.hid (show Below wy.heap.size wy wb from HBA.out.trans (hbb.mono HBA.out.size))
                clear hbb CB2
                have HXB := Lib.hid (HX.out.kept (HZ.out ▸ (HB3.out.trans (BB.out.mono HLY.out))))
                obtain ⟨A5, c5, hv5, _, _, _⟩ := owned_form HXB.out.own
                have hv5 : vx = .slice A5 0 c5 := hv5
                subst hv5
                go_wp2_with fail
                go_at_call 39; (with_reducible refine (f_held q _ _ A5 0 c5 _ HXB.out.blk).mono ?_); rintro e wc ⟨rfl, rfl⟩
                go_wp2_with fail
                go_at_call 19; (with_reducible refine (head_any _).mono ?_); rintro e wd ⟨rfl, hb⟩
                have HFB := Lib.hid (HFIN.out _ BB.out _ hb)
                clear hb
                go_wp2
                go_ret
                exact ⟨rfl, HFB.out⟩
end Go.Proofs.YtdgokebablhoiaaDoor
