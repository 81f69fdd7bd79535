/- The law WireWrites: the walk. -/
import Derived.Test.YtdgokebablhoiaaDoorWTold
import Derived.Test.YtdgokebablhoiaaDoorWHead
import Derived.Test.YtdgokebablhoiaaDoorWLend
namespace Go.Proofs.YtdgokebablhoiaaDoor
open Go.RowKit

theorem RowAt.heap {W W' : World} {A : Option Addr} {n lo : Nat} {xs : List Int} (h : RowAt W A n lo xs) (e : W'.heap = W.heap) : RowAt W' A n lo xs := by
  unfold RowAt Blk at *
  rw [e]
  exact h
theorem RowAt.front {W : World} {A : Option Addr} {n m lo : Nat} {xs ys : List Int} (h : RowAt W A n lo (xs ++ ys)) (hm : xs.length = m) : RowAt W A m lo xs := by
  rcases h with ⟨rfl, rfl, h⟩ | ⟨g, cur, rfl, h1, hg, hl, hn, ht⟩
  · have := List.append_eq_nil_iff.1 h
    rw [this.1] at hm
    exact .inl ⟨rfl, by simpa using hm.symm, this.1⟩
  · rw [List.length_append] at hl
    refine .inr ⟨g, cur, rfl, h1, hg, hm, by omega, ?_⟩
    have h2 := congrArg (List.take m) ht
    rw [List.take_take, Nat.min_eq_left (by omega), bvs_append, List.take_left' (by rw [bvs_len]; exact hm)] at h2
    exact h2
theorem RowAt.lt {W : World} {A : Option Addr} {n lo g : Nat} {xs : List Int} (h : RowAt W A n lo xs) (hA : A = some ⟨g, 0, none⟩) : lo ≤ g ∧ g < W.heap.size := by
  rcases h with ⟨rfl, _, _⟩ | ⟨g', cur, rfl, h1, hg, _⟩
  · cases hA
  · cases hA; exact ⟨h1, hg.lt⟩
theorem RowAt.turn {W W' : World} {A : Option Addr} {n lo : Nat} {xs : List Int} {S : Nat → Prop} (h : RowAt W A n lo xs) (ht : Tur S W W') (hS : ∀ g, A = some ⟨g, 0, none⟩ → ¬ S g) : RowAt W' A n lo xs := by
  rcases h with h | ⟨g, cur, rfl, h1, hg, r⟩
  · exact .inl h
  · exact .inr ⟨g, cur, rfl, h1, hg.tur ht (hS g rfl), r⟩
theorem Two.tur {W W1 : World} {base p : Nat} {v vb : Value} {bs bs' : List Int} {S : Nat → Prop} (h : Two W base p v vb bs bs') (ht : Tur S W W1) (hS : ∀ k, S k → W.heap.size ≤ k ∨ (k ≠ p ∧ v.ownBlock ≠ some k ∧ vb.ownBlock ≠ some k)) : Two W1 base p v vb bs bs' := by
  have h0 : ∀ k, k < W.heap.size → (k = p ∨ v.ownBlock = some k ∨ vb.ownBlock = some k) → ¬ S k := fun k hk h1 hs => by
    rcases hS k hs with h2 | ⟨h2, h3, h4⟩
    · omega
    · rcases h1 with h1 | h1 | h1
      · exact h2 h1
      · exact h3 h1
      · exact h4 h1
  exact ⟨h.wr.tur ht (h0 p h.wr.blk.lt (.inl rfl)) (fun k hk => h0 k (h.wr.own.lt k hk).2 (.inr (.inl hk))), h.ow.tur ht (fun k hk => h0 k (h.ow.lt k hk).2 (.inr (.inr hk))), h.ne, h.np⟩
theorem Two.kept {W W1 : World} {base p : Nat} {v vb : Value} {bs bs' : List Int} (h : Two W base p v vb bs bs') (hb : Below W.heap.size W W1) : Two W1 base p v vb bs bs' :=
  h.tur (Tur.of_below (S := fun _ => False) hb) (fun _ h => h.elim)
theorem Two.row {W : World} {base p : Nat} {v vb : Value} {bs bs' : List Int} (h : Two W base p v vb bs bs') : ∃ A c, vb = .slice A bs'.length c ∧ RowAt W A bs'.length base bs' ∧ bs'.length ≤ c := row_of_own h.ow

theorem drew_heap (w : World) : w.drew.heap = w.heap := rfl
theorem Wr.heap {W W' : World} {base p : Nat} {v : Value} {bs : List Int} (h : Wr W base p v bs) (e : W'.heap = W.heap) : Wr W' base p v bs := by
  refine ⟨?_, ?_, h.ne, h.base⟩
  · have := h.blk
    unfold Blk at *
    rw [e]; exact this
  · refine ⟨h.own.1, ?_⟩
    have := h.own.2
    rw [e]; exact this
theorem Wr.drew {W : World} {base p : Nat} {v : Value} {bs : List Int} (h : Wr W base p v bs) : Wr W.drew base p v bs := h.heap rfl
theorem step0 {B : Nat} {a W w' : World} (h : Below B a W) (hb : Below W.heap.size W w') (hB : B ≤ a.heap.size) : Below B a w' := h.trans (hb.mono (Nat.le_trans hB h.size))
theorem step1 {B : Nat} {a W w' : World} (h : Below B a W) (hb : Below W.drew.heap.size W.drew w') (hB : B ≤ a.heap.size) : Below B a w' := step0 h.drew hb hB
theorem step2 {B : Nat} {a W w' : World} (h : Below B a W) (hb : Below W.drew.drew.heap.size W.drew.drew w') (hB : B ≤ a.heap.size) : Below B a w' := step0 h.drew.drew hb hB
theorem row0 {W w' : World} {A : Option Addr} {n lo : Nat} {xs : List Int} (h : RowAt W A n lo xs) (hb : Below W.heap.size W w') : RowAt w' A n lo xs := h.kept hb
theorem row1 {W w' : World} {A : Option Addr} {n lo : Nat} {xs : List Int} (h : RowAt W A n lo xs) (hb : Below W.drew.heap.size W.drew w') : RowAt w' A n lo xs := (h.heap (W' := W.drew) rfl).kept hb
theorem row2 {W w' : World} {A : Option Addr} {n lo : Nat} {xs : List Int} (h : RowAt W A n lo xs) (hb : Below W.drew.drew.heap.size W.drew.drew w') : RowAt w' A n lo xs := (h.heap (W' := W.drew.drew) rfl).kept hb
theorem RowAt.conv_all {W : World} {A : Option Addr} {n lo : Nat} {xs : List Int} {S : ByteArray} (h : RowAt W A n lo xs) (e : S = strOfNums xs) (c : Nat) :
    ∀ w9 : World, w9.heap = W.heap → (convert 24 9 (.slice A n c)).run Tryd.prog w9 = .ok (.string S) w9 := fun _ he => e ▸ (h.heap he).conv c
/-- Number i is taken first (the slot named). -/
theorem take_q {P : Program} {ops : Array Oper} {md : Region.Mode} {Q : Exit → Act → World → Prop} {S : World → Prop} {i : Nat} {oi : Oper} {d : Tmp} {v : Value} {fuel : Nat} {listed : Array Bool} {a : Act} {w : World} (hi : ops[i]? = some oi) (hd : oi.dst = some d)
    (hs : Region.noSelect ops = true) (hf : Region.free md ops listed i = true) (hr : (Region.ready md ops listed).contains i = true)
    (hQ : ∀ c a w, Q (.panic c) (a.put oi.dst v) w → Q (.panic c) a w) (hw : Region.wanted oi (yielded ops a.tmps) = true) (hy : ∀ w, S w → (execOp a.eval oi).run P w = .ok (.value v) w) (hS : S w)
    (h : wpAnyH P md ops Q S fuel (listed.setIfInBounds i true) (a.put (some d) v) w) : wpAnyH P md ops Q S (fuel + 1) listed a w :=
  wpAnyH_take hi hs hf hr hQ (.inl ⟨hw, hy⟩) hS (hd ▸ h)
/-- Loop 1 of the law: what it turns. -/
structure Zer (W : World) (A : Option Addr) (m : Nat) (W' : World) : Prop where
  tur : Tur (fun k => A = some ⟨k, 0, none⟩) W W'
  blk : ∀ g, A = some ⟨g, 0, none⟩ → ∃ cur, Blk W' g 5 cur ∧ m ≤ cur.size
theorem Zer.refl {W : World} {A : Option Addr} {m lo : Nat} {xs : List Int} (h : RowAt W A m lo xs) : Zer W A m W := ⟨Tur.refl _ _, fun g hg => by
  rcases h with ⟨rfl, _, _⟩ | ⟨g', cur, rfl, _, hb, _, hn, _⟩
  · cases hg
  · cases hg; exact ⟨cur, hb, hn⟩⟩
theorem Zer.some_ {W W' : World} {A : Option Addr} {m lo k : Nat} {xs : List Int} (h : RowAt W A m lo xs) (hz : Zer W A m W') (hk : k < m) : ∃ g cur, A = some ⟨g, 0, none⟩ ∧ Blk W' g 5 cur ∧ ∃ x, cur[k]? = some x := by
  rcases h with ⟨_, rfl, _⟩ | ⟨g, cur, rfl, _, hb, _, hn, _⟩
  · omega
  · obtain ⟨cur', h1, h2⟩ := hz.blk g rfl
    exact ⟨g, cur', rfl, h1, cur'[k]'(by omega), Array.getElem?_eq_getElem (by omega)⟩
theorem Zer.set_ {W W' : World} {m g k : Nat} {u : Value} (h : Zer W (some ⟨g, 0, none⟩) m W') : Zer W (some ⟨g, 0, none⟩) m (W'.setCell ⟨g, k, none⟩ u) := by
  refine ⟨h.tur.setCell (.inl rfl) u, fun g' hg => ?_⟩
  cases hg
  obtain ⟨cur, h1, h2⟩ := h.blk g rfl
  exact ⟨_, h1.set_ k u, by simpa using h2⟩

/-- What loop 2 keeps. -/
structure Goes (w1 w wr : World) (p m : Nat) (v vb : Value) (Ay : Option Addr) (lo : Nat) (bs bs' : List Int) : Prop where
  two : Two wr w.heap.size p v vb bs' bs'
  y : RowAt wr Ay m lo bs
  front : ∃ ext, bs' = bs ++ ext
  below : Below w.heap.size w wr
  lo : p < lo
  apart : ∀ g, Ay = some ⟨g, 0, none⟩ → v.ownBlock ≠ some g ∧ vb.ownBlock ≠ some g
section
variable {w1 w wr wr' : World} {p m lo : Nat} {v vb v1 vb1 : Value} {Ay : Option Addr} {bs bs' ext : List Int}
theorem Goes.num (h : Goes w1 w wr p m v vb Ay lo bs bs') (hw : Wr wr' w.heap.size p v1 (bs' ++ ext)) (hf : WrFr wr p v wr' v1) {w2 : World} (ho : Ow w2 w.heap.size vb1 (bs' ++ ext)) (hg : OwFr wr' vb w2 vb1) : Goes w1 w w2 p m v1 vb1 Ay lo bs (bs' ++ ext) := by
  have t1 := h.two.putW hw hf
  have t2 := t1.putB ho hg
  have y1 : RowAt wr' Ay m lo bs := h.y.turn hf.1 (fun g hA hs => by
    rcases hs with rfl | hs
    · have := (h.y.lt hA).1; have := h.lo; omega
    · exact (h.apart g hA).1 hs)
  have y2 : RowAt w2 Ay m lo bs := y1.turn hg.1 (fun g hA hs => (h.apart g hA).2 hs)
  obtain ⟨e0, he⟩ := h.front
  refine ⟨t2, y2, ⟨e0 ++ ext, by rw [he, List.append_assoc]⟩, (h.below.trans (h.two.wr.fr_below hf)).trans (t1.ow.fr_below hg t1.le), h.lo, fun g hA => ?_⟩
  have hlt := (h.y.lt hA).2
  have hlt1 := (y1.lt hA).2
  refine ⟨fun e => ?_, fun e => ?_⟩
  · rcases hf.2 with e1 | ⟨k, e1, hk⟩
    · rw [e1] at e; exact (h.apart g hA).1 e
    · rw [e1] at e; cases e; omega
  · rcases hg.2 with e1 | ⟨k, e1, hk⟩
    · rw [e1] at e; exact (h.apart g hA).2 e
    · rw [e1] at e; cases e; omega
end

set_option maxHeartbeats 4000000 in
set_option maxRecDepth 100000 in
theorem law_writes (A A2 : Option Addr) (n c n2 c2 : Nat) (cs cs2 : List Cl) (w : World) (hl : cs.length = n) (hc : CallsAt w A cs) (hok : ∀ x ∈ cs, x.Ok) (hs : ∀ x ∈ cs, x.s.size ≤ 140737488351232) (hn : n ≤ 9223372036854775807)
    (hl2 : cs2.length = n2) (hc2 : CallsAt w A2 cs2) (hok2 : ∀ x ∈ cs2, x.Ok) :
    Calls Tryd.prog 3 #[.slice A n c, .slice A2 n2 c2] w fun e w' => e = .returned (.bool true) ∧ Below w.heap.size w w' := by
  have CT := Lib.hid (told_any A n c cs w hl hc hok hs hn)
  have HL2 := Lib.hid hl2
  have HC2 := Lib.hid hc2
  have HK2 := Lib.hid hok2
  clear hl hc hok hs hn hl2 hc2 hok2
  go_enter Tryd.func3, Tryd.ntmps3
  go_wp2_with fail
  go_at_call 15; (with_reducible refine CT.out.mono ?_); rintro e w1 ⟨p, v, vb, bs, rfl, ht, hlen, hb⟩
  have HLEN := Lib.hid hlen
  have B1 := Lib.hid hb
  have CB := Lib.hid (fun (W : World) (h : Wr W w.heap.size p v bs) => w_bytes_wide w.heap.size p v bs W h (by omega))
  obtain ⟨Ab, cb, rfl, hr, hcb⟩ := ht.row
  obtain ⟨m, hm⟩ : ∃ m, m = bs.length := ⟨_, rfl⟩
  have HM := Lib.hid hm
  rw [← hm] at CB ht ⊢
  have T1 := Lib.hid ht
  clear ht hlen hb hr hcb hm
  go_wp2_with fail
  go_at_call 16; (with_reducible refine (CB.out w1 T1.out.wr).mono ?_); rintro e w2 ⟨Ax, rfl, hr, hb⟩
  have RX := Lib.hid hr
  have T2 := Lib.hid (T1.out.kept hb)
  have B2 := Lib.hid (B1.out.trans (hb.mono B1.out.size))
  have LX := Lib.hid (show p < w1.heap.size from T1.out.wr.blk.lt)
  have S12 := Lib.hid hb.size
  clear hr hb
  go_wp2_with fail
  go_at_call 16; (with_reducible refine (CB.out w2 T2.out.wr).mono ?_); rintro e w3 ⟨Ay, rfl, hr, hb⟩
  have RY := Lib.hid hr
  have RX3 := Lib.hid (RX.out.kept hb)
  have T3 := Lib.hid (T2.out.kept hb)
  have B3 := Lib.hid (B2.out.trans (hb.mono B2.out.size))
  have S23 := Lib.hid hb.size
  clear hr hb CB
  have hx := RX3.out.conv m
  have hy := RY.out.conv m
  have hbb := (show RowAt w3 Ab m w.heap.size bs by
    obtain ⟨A', c', e, h, _⟩ := T3.out.row
    cases e
    rw [← HM.out] at h
    exact h).conv cb
  obtain ⟨S, hS⟩ : ∃ S, S = strOfNums bs := ⟨_, rfl⟩
  rw [← hS] at hx hy hbb
  have HSE := Lib.hid hS
  clear hS
  have hm9 : (m : Int) ≤ 140737489399818 := by have := HLEN.out; have := HM.out; omega
  go_wp2
  clear hx hy hbb
  go_loopw [9] (fun i wr => ∃ k : Nat, i = .int .i64 (k : Int) ∧ k ≤ m ∧ Hid (Zer w3 Ax m wr)) (fun i _ => m - (intOf i).toNat)
  case atStart => exact ⟨0, rfl, Nat.zero_le _, Lib.hid (Zer.refl RX3.out)⟩
  case round =>
    obtain ⟨k, rfl, hk, HZ⟩ := hrel
    by_cases hkm : k < m
    · obtain ⟨g, cur, rfl, hbk, x, hx⟩ := HZ.out.some_ RX3.out hkm
      have hcr : wr.cell? ⟨g, k, none⟩ = some x := by rw [hbk.cell k, hx]
      have hfr : wr.frozen? ⟨g, k, none⟩ = false := hbk.frozen k
      clear hbk hx
      go_wp2
      go_roundw
      case rel => exact ⟨k + 1, by go_num, by omega, Lib.hid HZ.out.set_⟩
      case measure => simp [intOf]; omega
    · go_wp2
      have G0 := Lib.hid (show Goes w1 w wr p m v (.slice Ab m cb) Ay w2.heap.size bs bs from by
        have ht := HZ.out.tur
        refine ⟨T3.out.tur ht (fun k hk => ?_), RY.out.turn ht (fun g hg hs => ?_), ⟨[], by simp⟩, B3.out.trans (ht.below B3.out.size (fun k hk => ?_)), ?_, fun g hg => ⟨fun e => ?_, fun e => ?_⟩⟩
        · have h1 := (RX3.out.lt hk).1
          refine .inr ⟨?_, fun e => ?_, fun e => ?_⟩
          · have := LX.out; omega
          · have := (T1.out.wr.own.lt k e).2; omega
          · have := (T1.out.ow.lt k e).2; omega
        · have h1 := (RY.out.lt hg).1
          have h2 := (RX.out.lt hs).2
          omega
        · have h1 := (RX3.out.lt hk).1
          have := B1.out.size
          omega
        · have := LX.out; have := S12.out; omega
        · have h1 := (RY.out.lt hg).1
          have h2 := (T2.out.wr.own.lt g e).2
          omega
        · have h1 := (RY.out.lt hg).1
          have h2 := (T2.out.ow.lt g e).2
          omega)
      clear HZ T1 T2 T3 RX RX3
      go_loopw [6, 10] (fun t6 t10 wr => ∃ (k l cb : Nat) (v : Value) (Ab : Option Addr) (bs' : List Int), t10 = .int .i64 (k : Int) ∧ k ≤ 50 ∧ t6 = .slice Ab l cb ∧ l ≤ m + 10 * k ∧ Hid (bs'.length = l ∧ Goes w1 w wr p m v (.slice Ab l cb) Ay w2.heap.size bs bs')) (fun _ t10 _ => 50 - (intOf t10).toNat)
      case atStart => exact ⟨0, m, cb, v, Ab, bs, rfl, by omega, rfl, by omega, Lib.hid ⟨HM.out.symm, G0.out⟩⟩
      case round =>
        obtain ⟨k, l, cb, v, Ab, bs', rfl, hk, rfl, hl, HP⟩ := hrel
        by_cases hgo : k < n2 ∧ k < 50
        · obtain ⟨hkn, hk5⟩ := hgo
          have hkl : k < cs2.length := by rw [HL2.out]; exact hkn
          have HLL := Lib.hid (show bs'.length + 10 ≤ 211106232532992 by have := HP.out.1; omega)
          obtain ⟨ad, rfl, c0, c1, c2, c3, c4⟩ := HC2.out.at HP.out.2.below k hkl
          have HO := Lib.hid (HK2.out cs2[k] (List.getElem_mem _))
          have HAT := Lib.hid (fun (W' : World) (hb : Below w.heap.size w W') => HC2.out.at hb k hkl)
          generalize cs2[k] = x at *
          obtain ⟨kind, nn, ii, s, mo⟩ := x
          clear c2 c3 c4 hkl
          by_cases h1 : kind = 1
          · subst h1
            have HNUM := Lib.hid (sev_len10 nn.toNat (by have : nn ≤ 9223372036854775807 := HO.out.n.hi; omega))
            go_wp2_with fail
            go_at_call 17; (with_reducible refine (w_num nn HO.out.n.hi w.heap.size p v bs' wr HP.out.2.two.wr HLL.out).mono ?_); rintro e wa ⟨rfl, v1, hw, hf⟩
            have TA := Lib.hid (HP.out.2.two.putW hw hf)
            have BA := Lib.hid (HP.out.2.below.trans (HP.out.2.two.wr.fr_below hf))
            have HW := Lib.hid hw
            have HF := Lib.hid hf
            obtain ⟨ad', e', d0, d1, d2, d3, d4⟩ := HAT.out wa BA.out
            cases e'
            clear hw hf c0 c1 d2 d3 d4
            go_wp2_with fail
            go_at_call 18; (with_reducible refine (ref_num nn HO.out.n.hi w.heap.size (.slice Ab l cb) bs' wa TA.out.ow TA.out.le HLL.out).mono ?_); rintro e wb ⟨vb, rfl, ho, hf⟩
            obtain ⟨Ab', cb', rfl, _, _⟩ := ho.form
            have GB := Lib.hid (HP.out.2.num HW.out HF.out ho hf)
            obtain ⟨l', hl'⟩ : ∃ l', l' = (bs' ++ sev nn.toNat).length := ⟨_, rfl⟩
            have HL' := Lib.hid hl'
            rw [← hl'] at GB ⊢
            clear ho hf d0 d1 hl'
            go_wp2_with fail
            go_roundw
            case rel => exact ⟨k + 1, l', cb', v1, Ab', _, by go_num, by omega, rfl, by have := HNUM.out; have := HP.out.1; have e := HL'.out; rw [List.length_append] at e; omega, Lib.hid ⟨HL'.out.symm, GB.out⟩⟩
            case measure => simp [intOf]; omega
          · have g1 : (kind == 1) = false := by simpa using h1
            clear h1
            go_wp2_with fail
            go_roundw
            case rel => exact ⟨k + 1, l, cb, v, Ab, bs', by go_num, by omega, rfl, by omega, HP⟩
            case measure => simp [intOf]; omega
        · have hor : ¬ k < n2 ∨ (k < n2 ∧ ¬ k < 50) := by omega
          clear hgo
          have hml : m ≤ l := by
            obtain ⟨ext, he⟩ := HP.out.2.front
            have := congrArg List.length he
            rw [List.length_append] at this
            have := HM.out
            have := HP.out.1
            omega
          have CB := Lib.hid (show ∀ W, Wr W w.heap.size p v bs' → Calls Tryd.prog 16 #[.pointer (some ⟨p, 0, none⟩)] W fun e w' => ∃ A, e = .returned (.slice A l l) ∧ RowAt w' A l W.heap.size bs' ∧ Below W.heap.size W w' from fun W h => HP.out.1 ▸ w_bytes_wide w.heap.size p v bs' W h (by have := HP.out.1; omega))
          have HRR := Lib.hid (show RowAt wr Ab l w.heap.size bs' ∧ l ≤ cb by
            obtain ⟨A', c', e, h, h2⟩ := HP.out.2.two.row
            cases e
            rw [HP.out.1] at h h2
            exact ⟨h, h2⟩)
          have HRB := Lib.hid HRR.out.1
          have hlc : l ≤ cb := HRR.out.2
          have HRF := Lib.hid (show RowAt wr Ab m w.heap.size bs by
            have h := HRR.out.1
            obtain ⟨ext, he⟩ := HP.out.2.front
            rw [he] at h
            exact h.front HM.out.symm)
          obtain ⟨S2, hS2⟩ : ∃ S2, S2 = strOfNums bs' := ⟨_, rfl⟩
          have HS2 := Lib.hid hS2
          clear hS2 HRR
          have hmc : m ≤ cb := by omega
          have HM0 := Lib.hid (show Ab = none → m = 0 from fun e => by
            rcases HRB.out with ⟨_, h, _⟩ | ⟨g, cur, h, _⟩
            · omega
            · rw [e] at h; cases h)
          rcases hor with hkn | ⟨hkn, hk5⟩
          · go_wp2
            have BQ := Lib.hid HP.out.2.below
            have HYW := Lib.hid HP.out.2.y
            have HWR := Lib.hid HP.out.2.two.wr
            (refine wp_region_held_drew (S := fun W9 => RowAt W9 Ay m w2.heap.size bs ∧ RowAt W9 Ab l w.heap.size bs' ∧ RowAt W9 Ab m w.heap.size bs) (by kernel_rfl) ⟨HYW.out.heap rfl, HRB.out.heap rfl, HRF.out.heap rfl⟩ (fun hHeld => ?_))
            (refine take_q (i := 0) (d := 71) (v := ?v101) rfl rfl (by kernel_rfl) (by kernel_rfl) (by kernel_rfl) (fun _ _ _ h => h) (by kernel_rfl) ?hy101 (by assumption) ?rest101)
            case hy101 => (intro w9 hSw; first | (go_simp; done) | (go_simp; with_reducible rfl))
            (try simp only [Act.put, List.setIfInBounds_toArray, List.set_cons_zero, List.set_cons_succ])
            (refine take_q (i := 3) (d := 74) (v := ?v102) rfl rfl (by kernel_rfl) (by kernel_rfl) (by kernel_rfl) (fun _ _ _ h => h) (by kernel_rfl) ?hy102 (by assumption) ?rest102)
            case hy102 => (intro w9 hSw; first | (go_simp; done) | (go_simp; with_reducible rfl))
            (try simp only [Act.put, List.setIfInBounds_toArray, List.set_cons_zero, List.set_cons_succ])
            (refine take_q (i := 4) (d := 75) (v := ?v103) rfl rfl (by kernel_rfl) (by kernel_rfl) (by kernel_rfl) (fun _ _ _ h => h) (by kernel_rfl) ?hy103 (by assumption) ?rest103)
            case hy103 => (intro w9 hSw; obtain ⟨h1, h2, h3⟩ := hSw; have c1 := h1.conv_all HSE.out m _ rfl; have c2 := h2.conv_all HS2.out cb _ rfl; have c3 := h3.conv_all HSE.out cb _ rfl; clear h1 h2 h3; first | (go_simp; done) | (go_simp; with_reducible rfl))
            (try simp only [Act.put, List.setIfInBounds_toArray, List.set_cons_zero, List.set_cons_succ])
            (refine wpAnyH_ready (rs := [1]) (by kernel_rfl) (by simp) ?_)
            (refine AllReadyH.cons (o := _) rfl (fun K hK => ?_) AllReadyH.nil)
            go_simp
            (with_reducible refine (CB.out _ HWR.out.drew).mono ?_)
            rintro e w' ⟨Az, rfl, hr, hb⟩
            go_wp2_with fail
            (refine hK.out _ _ ⟨row1 HYW.out hb, row1 HRB.out hb, row1 HRF.out hb⟩ (fun hHeld => ?_))
            have BQ := Lib.hid (step1 BQ.out hb (Nat.le_refl _))
            have hz1 := hr.conv_all HS2.out l w' rfl
            clear hK K
            (try simp only [Act.put, List.setIfInBounds_toArray, List.set_cons_zero, List.set_cons_succ])
            (refine wpAnyH_ready (rs := [2]) (by kernel_rfl) (by simp) ?_)
            (refine AllReadyH.cons (o := _) rfl (fun K hK => ?_) AllReadyH.nil)
            go_simp
            (refine hK.out _ _ hHeld (fun _ => ?_))
            clear hz1 hr hb
            clear hK K
            (try simp only [Act.put, List.setIfInBounds_toArray, List.set_cons_zero, List.set_cons_succ])
            (refine take_q (i := 5) (d := 76) (v := ?v104) rfl rfl (by kernel_rfl) (by kernel_rfl) (by kernel_rfl) (fun _ _ _ h => h) (by kernel_rfl) ?hy104 (by assumption) ?rest104)
            case hy104 => (intro w9 hSw; first | (go_simp; done) | (go_simp; with_reducible rfl))
            (try simp only [Act.put, List.setIfInBounds_toArray, List.set_cons_zero, List.set_cons_succ])
            (refine take_q (i := 6) (d := 77) (v := ?v105) rfl rfl (by kernel_rfl) (by kernel_rfl) (by kernel_rfl) (fun _ _ _ h => h) (by kernel_rfl) ?hy105 (by assumption) ?rest105)
            case hy105 => (intro w9 hSw; first | (go_simp; done) | (go_simp; with_reducible rfl))
            (try simp only [Act.put, List.setIfInBounds_toArray, List.set_cons_zero, List.set_cons_succ])
            (refine take_q (i := 7) (d := 78) (v := ?v106) rfl rfl (by kernel_rfl) (by kernel_rfl) (by kernel_rfl) (fun _ _ _ h => h) (by kernel_rfl) ?hy106 (by assumption) ?rest106)
            case hy106 => (intro w9 hSw; first | (go_simp; done) | (go_simp; with_reducible rfl))
            (try simp only [Act.put, List.setIfInBounds_toArray, List.set_cons_zero, List.set_cons_succ])
            (refine take_q (i := 8) (d := 79) (v := ?v107) rfl rfl (by kernel_rfl) (by kernel_rfl) (by kernel_rfl) (fun _ _ _ h => h) (by kernel_rfl) ?hy107 (by assumption) ?rest107)
            case hy107 => (intro w9 hSw; obtain ⟨h1, h2, h3⟩ := hSw; have c1 := h1.conv_all HSE.out m _ rfl; have c2 := h2.conv_all HS2.out cb _ rfl; have c3 := h3.conv_all HSE.out cb _ rfl; clear h1 h2 h3; first | (go_simp; done) | (go_simp; with_reducible rfl))
            (try simp only [Act.put, List.setIfInBounds_toArray, List.set_cons_zero, List.set_cons_succ])
            (refine take_q (i := 9) (d := 80) (v := ?v108) rfl rfl (by kernel_rfl) (by kernel_rfl) (by kernel_rfl) (fun _ _ _ h => h) (by kernel_rfl) ?hy108 (by assumption) ?rest108)
            case hy108 => (intro w9 hSw; first | (go_simp; done) | (go_simp; with_reducible rfl))
            (try simp only [Act.put, List.setIfInBounds_toArray, List.set_cons_zero, List.set_cons_succ])
            (refine take_q (i := 10) (d := 81) (v := ?v109) rfl rfl (by kernel_rfl) (by kernel_rfl) (by kernel_rfl) (fun _ _ _ h => h) (by kernel_rfl) ?hy109 (by assumption) ?rest109)
            case hy109 => (intro w9 hSw; first | (go_simp; done) | (go_simp; with_reducible rfl))
            (try simp only [Act.put, List.setIfInBounds_toArray, List.set_cons_zero, List.set_cons_succ])
            (refine take_q (i := 11) (d := 82) (v := ?v110) rfl rfl (by kernel_rfl) (by kernel_rfl) (by kernel_rfl) (fun _ _ _ h => h) (by kernel_rfl) ?hy110 (by assumption) ?rest110)
            case hy110 => (intro w9 hSw; first | (go_simp; done) | (go_simp; with_reducible rfl))
            (try simp only [Act.put, List.setIfInBounds_toArray, List.set_cons_zero, List.set_cons_succ])
            (refine take_q (i := 12) (d := 83) (v := .slice Ab m cb) rfl rfl (by kernel_rfl) (by kernel_rfl) (by kernel_rfl) (fun _ _ _ h => h) (by kernel_rfl) ?hy111 (by assumption) ?rest111)
            case hy111 => (intro w9 hSw; clear hSw; have hmc9 := hmc; rcases Ab with _ | ad; (have hm0 := HM0.out rfl; subst hm0); all_goals first | (go_simp; done) | (go_simp; with_reducible rfl))
            (try simp only [Act.put, List.setIfInBounds_toArray, List.set_cons_zero, List.set_cons_succ])
            (refine take_q (i := 13) (d := 84) (v := ?v112) rfl rfl (by kernel_rfl) (by kernel_rfl) (by kernel_rfl) (fun _ _ _ h => h) (by kernel_rfl) ?hy112 (by assumption) ?rest112)
            case hy112 => (intro w9 hSw; obtain ⟨h1, h2, h3⟩ := hSw; have c1 := h1.conv_all HSE.out m _ rfl; have c2 := h2.conv_all HS2.out cb _ rfl; have c3 := h3.conv_all HSE.out cb _ rfl; clear h1 h2 h3; first | (go_simp; done) | (go_simp; with_reducible rfl))
            (try simp only [Act.put, List.setIfInBounds_toArray, List.set_cons_zero, List.set_cons_succ])
            (refine take_q (i := 14) (d := 85) (v := ?v113) rfl rfl (by kernel_rfl) (by kernel_rfl) (by kernel_rfl) (fun _ _ _ h => h) (by kernel_rfl) ?hy113 (by assumption) ?rest113)
            case hy113 => (intro w9 hSw; first | (go_simp; done) | (go_simp; with_reducible rfl))
            (try simp only [Act.put, List.setIfInBounds_toArray, List.set_cons_zero, List.set_cons_succ])
            (refine take_q (i := 15) (d := 86) (v := ?v114) rfl rfl (by kernel_rfl) (by kernel_rfl) (by kernel_rfl) (fun _ _ _ h => h) (by kernel_rfl) ?hy114 (by assumption) ?rest114)
            case hy114 => (intro w9 hSw; first | (go_simp; done) | (go_simp; with_reducible rfl))
            (try simp only [Act.put, List.setIfInBounds_toArray, List.set_cons_zero, List.set_cons_succ])
            (refine take_q (i := 16) (d := 87) (v := ?v115) rfl rfl (by kernel_rfl) (by kernel_rfl) (by kernel_rfl) (fun _ _ _ h => h) (by kernel_rfl) ?hy115 (by assumption) ?rest115)
            case hy115 => (intro w9 hSw; first | (go_simp; done) | (go_simp; with_reducible rfl))
            (try simp only [Act.put, List.setIfInBounds_toArray, List.set_cons_zero, List.set_cons_succ])
            (refine wpAnyH_ready (rs := [17]) (by kernel_rfl) (by simp) ?_)
            (refine AllReadyH.cons (o := _) rfl (fun K hK => ?_) AllReadyH.nil)
            go_simp
            (with_reducible refine (head_any _).mono ?_)
            rintro e wh ⟨rfl, hb⟩
            go_wp2_with fail
            (refine hK.out _ _ ⟨row0 hHeld.1 hb, row0 hHeld.2.1 hb, row0 hHeld.2.2 hb⟩ (fun hHeld => ?_))
            have BQ := Lib.hid (step0 BQ.out hb (Nat.le_refl _))
            clear hK K
            (try simp only [Act.put, List.setIfInBounds_toArray, List.set_cons_zero, List.set_cons_succ])
            (refine take_q (i := 18) (d := 89) (v := ?v116) rfl rfl (by kernel_rfl) (by kernel_rfl) (by kernel_rfl) (fun _ _ _ h => h) (by kernel_rfl) ?hy116 (by assumption) ?rest116)
            case hy116 => (intro w9 hSw; first | (go_simp; done) | (go_simp; with_reducible rfl))
            (try simp only [Act.put, List.setIfInBounds_toArray, List.set_cons_zero, List.set_cons_succ])
            (refine take_q (i := 19) (d := 4) (v := ?v117) rfl rfl (by kernel_rfl) (by kernel_rfl) (by kernel_rfl) (fun _ _ _ h => h) (by kernel_rfl) ?hy117 (by assumption) ?rest117)
            case hy117 => (intro w9 hSw; first | (go_simp; done) | (go_simp; with_reducible rfl))
            (try simp only [Act.put, List.setIfInBounds_toArray, List.set_cons_zero, List.set_cons_succ])
            (refine wpAnyH_done (by kernel_rfl) ?_ _)
            go_wp2
            go_ret
            exact ⟨rfl, BQ.out⟩
          · go_wp2
            have BQ := Lib.hid HP.out.2.below
            have HYW := Lib.hid HP.out.2.y
            have HWR := Lib.hid HP.out.2.two.wr
            (refine wp_region_held_drew (S := fun W9 => RowAt W9 Ay m w2.heap.size bs ∧ RowAt W9 Ab l w.heap.size bs' ∧ RowAt W9 Ab m w.heap.size bs) (by kernel_rfl) ⟨HYW.out.heap rfl, HRB.out.heap rfl, HRF.out.heap rfl⟩ (fun hHeld => ?_))
            (refine take_q (i := 0) (d := 71) (v := ?v118) rfl rfl (by kernel_rfl) (by kernel_rfl) (by kernel_rfl) (fun _ _ _ h => h) (by kernel_rfl) ?hy118 (by assumption) ?rest118)
            case hy118 => (intro w9 hSw; first | (go_simp; done) | (go_simp; with_reducible rfl))
            (try simp only [Act.put, List.setIfInBounds_toArray, List.set_cons_zero, List.set_cons_succ])
            (refine take_q (i := 3) (d := 74) (v := ?v119) rfl rfl (by kernel_rfl) (by kernel_rfl) (by kernel_rfl) (fun _ _ _ h => h) (by kernel_rfl) ?hy119 (by assumption) ?rest119)
            case hy119 => (intro w9 hSw; first | (go_simp; done) | (go_simp; with_reducible rfl))
            (try simp only [Act.put, List.setIfInBounds_toArray, List.set_cons_zero, List.set_cons_succ])
            (refine take_q (i := 4) (d := 75) (v := ?v120) rfl rfl (by kernel_rfl) (by kernel_rfl) (by kernel_rfl) (fun _ _ _ h => h) (by kernel_rfl) ?hy120 (by assumption) ?rest120)
            case hy120 => (intro w9 hSw; obtain ⟨h1, h2, h3⟩ := hSw; have c1 := h1.conv_all HSE.out m _ rfl; have c2 := h2.conv_all HS2.out cb _ rfl; have c3 := h3.conv_all HSE.out cb _ rfl; clear h1 h2 h3; first | (go_simp; done) | (go_simp; with_reducible rfl))
            (try simp only [Act.put, List.setIfInBounds_toArray, List.set_cons_zero, List.set_cons_succ])
            (refine wpAnyH_ready (rs := [1]) (by kernel_rfl) (by simp) ?_)
            (refine AllReadyH.cons (o := _) rfl (fun K hK => ?_) AllReadyH.nil)
            go_simp
            (with_reducible refine (CB.out _ HWR.out.drew).mono ?_)
            rintro e w' ⟨Az, rfl, hr, hb⟩
            go_wp2_with fail
            (refine hK.out _ _ ⟨row1 HYW.out hb, row1 HRB.out hb, row1 HRF.out hb⟩ (fun hHeld => ?_))
            have BQ := Lib.hid (step1 BQ.out hb (Nat.le_refl _))
            have hz1 := hr.conv_all HS2.out l w' rfl
            clear hK K
            (try simp only [Act.put, List.setIfInBounds_toArray, List.set_cons_zero, List.set_cons_succ])
            (refine wpAnyH_ready (rs := [2]) (by kernel_rfl) (by simp) ?_)
            (refine AllReadyH.cons (o := _) rfl (fun K hK => ?_) AllReadyH.nil)
            go_simp
            (refine hK.out _ _ hHeld (fun _ => ?_))
            clear hz1 hr hb
            clear hK K
            (try simp only [Act.put, List.setIfInBounds_toArray, List.set_cons_zero, List.set_cons_succ])
            (refine take_q (i := 5) (d := 76) (v := ?v121) rfl rfl (by kernel_rfl) (by kernel_rfl) (by kernel_rfl) (fun _ _ _ h => h) (by kernel_rfl) ?hy121 (by assumption) ?rest121)
            case hy121 => (intro w9 hSw; first | (go_simp; done) | (go_simp; with_reducible rfl))
            (try simp only [Act.put, List.setIfInBounds_toArray, List.set_cons_zero, List.set_cons_succ])
            (refine take_q (i := 6) (d := 77) (v := ?v122) rfl rfl (by kernel_rfl) (by kernel_rfl) (by kernel_rfl) (fun _ _ _ h => h) (by kernel_rfl) ?hy122 (by assumption) ?rest122)
            case hy122 => (intro w9 hSw; first | (go_simp; done) | (go_simp; with_reducible rfl))
            (try simp only [Act.put, List.setIfInBounds_toArray, List.set_cons_zero, List.set_cons_succ])
            (refine take_q (i := 7) (d := 78) (v := ?v123) rfl rfl (by kernel_rfl) (by kernel_rfl) (by kernel_rfl) (fun _ _ _ h => h) (by kernel_rfl) ?hy123 (by assumption) ?rest123)
            case hy123 => (intro w9 hSw; first | (go_simp; done) | (go_simp; with_reducible rfl))
            (try simp only [Act.put, List.setIfInBounds_toArray, List.set_cons_zero, List.set_cons_succ])
            (refine take_q (i := 8) (d := 79) (v := ?v124) rfl rfl (by kernel_rfl) (by kernel_rfl) (by kernel_rfl) (fun _ _ _ h => h) (by kernel_rfl) ?hy124 (by assumption) ?rest124)
            case hy124 => (intro w9 hSw; obtain ⟨h1, h2, h3⟩ := hSw; have c1 := h1.conv_all HSE.out m _ rfl; have c2 := h2.conv_all HS2.out cb _ rfl; have c3 := h3.conv_all HSE.out cb _ rfl; clear h1 h2 h3; first | (go_simp; done) | (go_simp; with_reducible rfl))
            (try simp only [Act.put, List.setIfInBounds_toArray, List.set_cons_zero, List.set_cons_succ])
            (refine take_q (i := 9) (d := 80) (v := ?v125) rfl rfl (by kernel_rfl) (by kernel_rfl) (by kernel_rfl) (fun _ _ _ h => h) (by kernel_rfl) ?hy125 (by assumption) ?rest125)
            case hy125 => (intro w9 hSw; first | (go_simp; done) | (go_simp; with_reducible rfl))
            (try simp only [Act.put, List.setIfInBounds_toArray, List.set_cons_zero, List.set_cons_succ])
            (refine take_q (i := 10) (d := 81) (v := ?v126) rfl rfl (by kernel_rfl) (by kernel_rfl) (by kernel_rfl) (fun _ _ _ h => h) (by kernel_rfl) ?hy126 (by assumption) ?rest126)
            case hy126 => (intro w9 hSw; first | (go_simp; done) | (go_simp; with_reducible rfl))
            (try simp only [Act.put, List.setIfInBounds_toArray, List.set_cons_zero, List.set_cons_succ])
            (refine take_q (i := 11) (d := 82) (v := ?v127) rfl rfl (by kernel_rfl) (by kernel_rfl) (by kernel_rfl) (fun _ _ _ h => h) (by kernel_rfl) ?hy127 (by assumption) ?rest127)
            case hy127 => (intro w9 hSw; first | (go_simp; done) | (go_simp; with_reducible rfl))
            (try simp only [Act.put, List.setIfInBounds_toArray, List.set_cons_zero, List.set_cons_succ])
            (refine take_q (i := 12) (d := 83) (v := .slice Ab m cb) rfl rfl (by kernel_rfl) (by kernel_rfl) (by kernel_rfl) (fun _ _ _ h => h) (by kernel_rfl) ?hy128 (by assumption) ?rest128)
            case hy128 => (intro w9 hSw; clear hSw; have hmc9 := hmc; rcases Ab with _ | ad; (have hm0 := HM0.out rfl; subst hm0); all_goals first | (go_simp; done) | (go_simp; with_reducible rfl))
            (try simp only [Act.put, List.setIfInBounds_toArray, List.set_cons_zero, List.set_cons_succ])
            (refine take_q (i := 13) (d := 84) (v := ?v129) rfl rfl (by kernel_rfl) (by kernel_rfl) (by kernel_rfl) (fun _ _ _ h => h) (by kernel_rfl) ?hy129 (by assumption) ?rest129)
            case hy129 => (intro w9 hSw; obtain ⟨h1, h2, h3⟩ := hSw; have c1 := h1.conv_all HSE.out m _ rfl; have c2 := h2.conv_all HS2.out cb _ rfl; have c3 := h3.conv_all HSE.out cb _ rfl; clear h1 h2 h3; first | (go_simp; done) | (go_simp; with_reducible rfl))
            (try simp only [Act.put, List.setIfInBounds_toArray, List.set_cons_zero, List.set_cons_succ])
            (refine take_q (i := 14) (d := 85) (v := ?v130) rfl rfl (by kernel_rfl) (by kernel_rfl) (by kernel_rfl) (fun _ _ _ h => h) (by kernel_rfl) ?hy130 (by assumption) ?rest130)
            case hy130 => (intro w9 hSw; first | (go_simp; done) | (go_simp; with_reducible rfl))
            (try simp only [Act.put, List.setIfInBounds_toArray, List.set_cons_zero, List.set_cons_succ])
            (refine take_q (i := 15) (d := 86) (v := ?v131) rfl rfl (by kernel_rfl) (by kernel_rfl) (by kernel_rfl) (fun _ _ _ h => h) (by kernel_rfl) ?hy131 (by assumption) ?rest131)
            case hy131 => (intro w9 hSw; first | (go_simp; done) | (go_simp; with_reducible rfl))
            (try simp only [Act.put, List.setIfInBounds_toArray, List.set_cons_zero, List.set_cons_succ])
            (refine take_q (i := 16) (d := 87) (v := ?v132) rfl rfl (by kernel_rfl) (by kernel_rfl) (by kernel_rfl) (fun _ _ _ h => h) (by kernel_rfl) ?hy132 (by assumption) ?rest132)
            case hy132 => (intro w9 hSw; first | (go_simp; done) | (go_simp; with_reducible rfl))
            (try simp only [Act.put, List.setIfInBounds_toArray, List.set_cons_zero, List.set_cons_succ])
            (refine wpAnyH_ready (rs := [17]) (by kernel_rfl) (by simp) ?_)
            (refine AllReadyH.cons (o := _) rfl (fun K hK => ?_) AllReadyH.nil)
            go_simp
            (with_reducible refine (head_any _).mono ?_)
            rintro e wh ⟨rfl, hb⟩
            go_wp2_with fail
            (refine hK.out _ _ ⟨row0 hHeld.1 hb, row0 hHeld.2.1 hb, row0 hHeld.2.2 hb⟩ (fun hHeld => ?_))
            have BQ := Lib.hid (step0 BQ.out hb (Nat.le_refl _))
            clear hK K
            (try simp only [Act.put, List.setIfInBounds_toArray, List.set_cons_zero, List.set_cons_succ])
            (refine take_q (i := 18) (d := 89) (v := ?v133) rfl rfl (by kernel_rfl) (by kernel_rfl) (by kernel_rfl) (fun _ _ _ h => h) (by kernel_rfl) ?hy133 (by assumption) ?rest133)
            case hy133 => (intro w9 hSw; first | (go_simp; done) | (go_simp; with_reducible rfl))
            (try simp only [Act.put, List.setIfInBounds_toArray, List.set_cons_zero, List.set_cons_succ])
            (refine take_q (i := 19) (d := 4) (v := ?v134) rfl rfl (by kernel_rfl) (by kernel_rfl) (by kernel_rfl) (fun _ _ _ h => h) (by kernel_rfl) ?hy134 (by assumption) ?rest134)
            case hy134 => (intro w9 hSw; first | (go_simp; done) | (go_simp; with_reducible rfl))
            (try simp only [Act.put, List.setIfInBounds_toArray, List.set_cons_zero, List.set_cons_succ])
            (refine wpAnyH_done (by kernel_rfl) ?_ _)
            go_wp2
            go_ret
            exact ⟨rfl, BQ.out⟩
end Go.Proofs.YtdgokebablhoiaaDoor
