/- The law's own told: a Writer, and the document's bytes, of a row of calls. -/
import Derived.Test.YtdgokebablhoiaaDoorWCall
import Derived.Test.YtdgokebablhoiaaDoorWRef
namespace Go.Proofs.YtdgokebablhoiaaDoor
open Go.RowKit

theorem Wr.tur {W W1 : World} {base p : Nat} {v : Value} {bs : List Int} {S : Nat → Prop} (h : Wr W base p v bs) (ht : Tur S W W1) (hp : ¬ S p) (hv : ∀ k, v.ownBlock = some k → ¬ S k) : Wr W1 base p v bs :=
  ⟨h.blk.tur ht hp, ownsRow_tur h.own ht hv, h.ne, h.base⟩
theorem Ow.tur {W W1 : World} {base : Nat} {v : Value} {bs : List Int} {S : Nat → Prop} (h : Ow W base v bs) (ht : Tur S W W1) (hv : ∀ k, v.ownBlock = some k → ¬ S k) : Ow W1 base v bs :=
  ownsRow_tur h ht hv

/-- A Writer and a row apart from it. -/
structure Two (W : World) (base p : Nat) (v vb : Value) (bs bs' : List Int) : Prop where
  wr : Wr W base p v bs
  ow : Ow W base vb bs'
  ne : ∀ k, v.ownBlock = some k → vb.ownBlock ≠ some k
  np : vb.ownBlock ≠ some p
section
variable {W W1 : World} {base p : Nat} {v vb v1 vb1 : Value} {bs bs' bs1 : List Int}
theorem Two.putW (h : Two W base p v vb bs bs') (hw : Wr W1 base p v1 bs1) (hf : WrFr W p v W1 v1) : Two W1 base p v1 vb bs1 bs' := by
  refine ⟨hw, h.ow.tur hf.1 (fun k hk hs => ?_), fun k hk he => ?_, h.np⟩
  · rcases hs with rfl | hs
    · exact h.np hk
    · exact h.ne k hs hk
  · rcases hf.2 with e | ⟨g, e, hg⟩
    · rw [e] at hk; exact h.ne k hk he
    · rw [e] at hk; cases hk
      have := (h.ow.lt _ he).2
      omega
theorem Two.putB (h : Two W base p v vb bs bs') (ho : Ow W1 base vb1 bs1) (hf : OwFr W vb W1 vb1) : Two W1 base p v vb1 bs bs1 := by
  refine ⟨h.wr.tur hf.1 h.np (fun k hk hs => h.ne k hk hs), ho, fun k hk he => ?_, fun he => ?_⟩
  · rcases hf.2 with e | ⟨g, e, hg⟩
    · rw [e] at he; exact h.ne k hk he
    · rw [e] at he; cases he
      have := (h.wr.own.lt _ hk).2
      omega
  · rcases hf.2 with e | ⟨g, e, hg⟩
    · rw [e] at he; exact h.np he
    · rw [e] at he; cases he
      have := h.wr.blk.lt
      omega
theorem Two.le (h : Two W base p v vb bs bs') : base ≤ W.heap.size := Nat.le_trans h.wr.base (Nat.le_of_lt h.wr.blk.lt)
end
abbrev fld (ad : Addr) (k j : Nat) : Addr := ⟨(ad.add (k * 5)).block, (ad.add (k * 5)).off + j, none⟩
theorem fld_eq (ad : Addr) (k j : Nat) (hj : 0 < j) : ad.add (k * 5 + j) = fld ad k j := by
  rw [← Go.Deep.add_add]
  obtain ⟨i, rfl⟩ : ∃ i, j = i + 1 := ⟨j - 1, by omega⟩
  rfl
theorem CallsAt.at {W W' : World} {A : Option Addr} {cs : List Cl} (h : CallsAt W A cs) (hb : Below W.heap.size W W') (k : Nat) (hk : k < cs.length) :
    ∃ ad, A = some ad ∧ W'.cell? (ad.add (k * 5)) = some (.int .i64 cs[k].kind) ∧ W'.cell? (fld ad k 1) = some (.int .i64 cs[k].n) ∧ W'.cell? (fld ad k 2) = some (.int .i64 cs[k].i) ∧ W'.cell? (fld ad k 3) = some (.string cs[k].s) ∧ W'.cell? (fld ad k 4) = some (.int .i64 cs[k].most) := by
  obtain ⟨ad, e, hl, hc⟩ := h k hk
  have hc' : ∀ j v, (cs[k].cells)[j]? = some v → W'.cell? (ad.add (k * 5 + j)) = some v := fun j v hj => (hb.cell (by rw [block_add]; exact hl)).trans (hc j v hj)
  exact ⟨ad, e, hc' 0 _ rfl, fld_eq ad k 1 (by omega) ▸ hc' 1 _ rfl, fld_eq ad k 2 (by omega) ▸ hc' 2 _ rfl, fld_eq ad k 3 (by omega) ▸ hc' 3 _ rfl, fld_eq ad k 4 (by omega) ▸ hc' 4 _ rfl⟩

set_option maxHeartbeats 2000000 in
set_option maxRecDepth 100000 in
theorem told_any (A : Option Addr) (n c : Nat) (cs : List Cl) (W : World) (hl : cs.length = n) (hc : CallsAt W A cs) (hok : ∀ x ∈ cs, x.Ok) (hs : ∀ x ∈ cs, x.s.size ≤ 140737488351232) (hn : n ≤ 9223372036854775807) :
    Calls Tryd.prog 15 #[.slice A n c] W fun e w' => ∃ p v vb bs, e = .returned (.tuple #[.pointer (some ⟨p, 0, none⟩), vb]) ∧ Two w' W.heap.size p v vb bs bs ∧ bs.length ≤ 140737489399818 ∧ Below W.heap.size W w' := by
  have HC := Lib.hid hc
  have HL := Lib.hid hl
  have HK := Lib.hid hok
  have HS := Lib.hid hs
  have HW0 := Lib.hid (show Wr (W.alloc (.cells #[.slice none 0 0] 49)) W.heap.size W.heap.size (.slice none 0 0) [] from ⟨Blk.new _ _ _, World.ownsRow_nil _ _ _ _, by simp [Value.ownBlock], Nat.le_refl _⟩)
  have HB0 := Lib.hid ((Below.refl W.heap.size W).alloc (Nat.le_refl _) (.cells #[.slice none 0 0] 49))
  have HNN := Lib.hid hn
  have hn9 : (n : Int) ≤ 9223372036854775807 := by omega
  clear hc hl hok hs hn
  go_enter Tryd.func15, Tryd.ntmps15
  go_wp2
  go_loopw [5, 6] (fun t5 t6 wr => ∃ (k : Nat) (bs : List Int) (v : Value) (Ab : Option Addr) (l cb : Nat), t6 = .int .i64 (k : Int) ∧ k ≤ n ∧ t5 = .slice Ab l cb ∧ (l : Int) ≤ 140737489399818 ∧ Hid (bs.length = l ∧ Two wr W.heap.size W.heap.size v (.slice Ab l cb) bs bs ∧ Below W.heap.size W wr)) (fun _ t6 _ => n - (intOf t6).toNat)
  case atStart => exact ⟨0, [], _, none, 0, 0, rfl, Nat.zero_le _, rfl, by omega, Lib.hid ⟨rfl, ⟨HW0.out, Ow.nil _ _, by simp [Value.ownBlock], by simp [Value.ownBlock]⟩, HB0.out⟩⟩
  case round =>
    obtain ⟨k, bs, v, Ab, l, cb, rfl, hk, rfl, hl, HP⟩ := hrel
    by_cases hkn : k < n
    · by_cases hl2 : (l : Int) < 1048576
      · have hkl : k < cs.length := by rw [HL.out]; exact hkn
        obtain ⟨ad, rfl, c0, c1, c2, c3, c4⟩ := HC.out.at HP.out.2.2 k hkl
        have HO := Lib.hid (HK.out cs[k] (List.getElem_mem _))
        have HZ := Lib.hid (HS.out cs[k] (List.getElem_mem _))
        have HAT := Lib.hid (fun (W' : World) (hb : Below W.heap.size W W') => HC.out.at hb k hkl)
        generalize cs[k] = x at *
        obtain ⟨kind, nn, ii, s, mo⟩ := x
        clear c4
        have hd : ∀ m : Nat, m = l → decide ((m : Int) < 1048576) = true := fun m hm => by subst hm; simpa using hl2
        have HL2 := Lib.hid hl2
        clear hkl hl2
        by_cases h1 : kind = 1
        · subst h1
          have HNUM := Lib.hid (sev_len10 nn.toNat (by have : nn ≤ 9223372036854775807 := HO.out.n.hi; omega))
          go_wp2_with fail
          go_at_call 17; (with_reducible refine (w_num nn HO.out.n.hi W.heap.size W.heap.size v bs wr HP.out.2.1.wr (by have := HP.out.1; have : (l : Int) < 1048576 := HL2.out; have : s.size ≤ 140737488351232 := HZ.out; omega)).mono ?_); rintro e w1 ⟨rfl, v1, hw, hf⟩
          obtain ⟨cur, hcur⟩ : ∃ cur, cur = bs ++ sev nn.toNat := ⟨_, rfl⟩
          rw [← hcur] at hw
          have T1 := Lib.hid (HP.out.2.1.putW hw hf)
          have B1 := Lib.hid (HP.out.2.2.trans (HP.out.2.1.wr.fr_below hf))
          obtain ⟨ad', e', d0, d1, d2, d3, d4⟩ := HAT.out w1 B1.out
          cases e'
          clear hw hf c0 c1 c2 c3 d4
          go_wp2_with fail
          go_at_call 18; (with_reducible refine (ref_num nn HO.out.n.hi W.heap.size (.slice Ab l cb) bs w1 T1.out.ow T1.out.le (by have := HP.out.1; have : (l : Int) < 1048576 := HL2.out; have : s.size ≤ 140737488351232 := HZ.out; omega)).mono ?_); rintro e w2 ⟨vb, rfl, ho, hf⟩
          rw [← hcur] at ho
          obtain ⟨Ab', cb', rfl, _, _⟩ := ho.form
          have T2 := Lib.hid (T1.out.putB ho hf)
          have B2 := Lib.hid (B1.out.trans (T1.out.ow.fr_below hf T1.out.le))
          have HCU := Lib.hid hcur
          clear ho hf d0 d1 d2 d3 hcur
          go_wp2_with fail
          go_roundw
          case rel => exact ⟨k + 1, cur, v1, Ab', cur.length, cb', by go_num, by omega, rfl, by have := HP.out.1; have := HL2.out; have := HNUM.out; rw [HCU.out]; have : s.size ≤ 140737488351232 := HZ.out; simp only [List.length_append]; omega, Lib.hid ⟨rfl, T2.out, B2.out⟩⟩
          case measure => simp [intOf]; omega
        · by_cases h2 : kind = 2
          · subst h2
            have HNUM := Lib.hid (sev_len10 (zz ii) (by have : -9223372036854775808 ≤ ii := HO.out.i.lo; have : ii ≤ 9223372036854775807 := HO.out.i.hi; unfold zz; split <;> omega))
            go_wp2_with fail
            go_at_call 29; (with_reducible refine (w_int ii HO.out.i.lo HO.out.i.hi W.heap.size W.heap.size v bs wr HP.out.2.1.wr (by have := HP.out.1; have : (l : Int) < 1048576 := HL2.out; have : s.size ≤ 140737488351232 := HZ.out; omega)).mono ?_); rintro e w1 ⟨rfl, v1, hw, hf⟩
            obtain ⟨cur, hcur⟩ : ∃ cur, cur = bs ++ sev (zz ii) := ⟨_, rfl⟩
            rw [← hcur] at hw
            have T1 := Lib.hid (HP.out.2.1.putW hw hf)
            have B1 := Lib.hid (HP.out.2.2.trans (HP.out.2.1.wr.fr_below hf))
            obtain ⟨ad', e', d0, d1, d2, d3, d4⟩ := HAT.out w1 B1.out
            cases e'
            clear hw hf c0 c1 c2 c3 d4
            go_wp2_with fail
            go_at_call 56; (with_reducible refine (ref_int ii HO.out.i.lo HO.out.i.hi W.heap.size (.slice Ab l cb) bs w1 T1.out.ow T1.out.le (by have := HP.out.1; have : (l : Int) < 1048576 := HL2.out; have : s.size ≤ 140737488351232 := HZ.out; omega)).mono ?_); rintro e w2 ⟨vb, rfl, ho, hf⟩
            rw [← hcur] at ho
            obtain ⟨Ab', cb', rfl, _, _⟩ := ho.form
            have T2 := Lib.hid (T1.out.putB ho hf)
            have B2 := Lib.hid (B1.out.trans (T1.out.ow.fr_below hf T1.out.le))
            have HCU := Lib.hid hcur
            clear ho hf d0 d1 d2 d3 hcur
            go_wp2_with fail
            go_roundw
            case rel => exact ⟨k + 1, cur, v1, Ab', cur.length, cb', by go_num, by omega, rfl, by have := HP.out.1; have := HL2.out; have := HNUM.out; rw [HCU.out]; have : s.size ≤ 140737488351232 := HZ.out; simp only [List.length_append]; omega, Lib.hid ⟨rfl, T2.out, B2.out⟩⟩
            case measure => simp [intOf]; omega
          · by_cases h3 : kind = 3
            · subst h3
              have HNUM := Lib.hid (sev_len10 s.size (by have : s.size ≤ 140737488351232 := HZ.out; omega))
              go_wp2_with fail
              go_at_call 30; (with_reducible refine (w_text s W.heap.size W.heap.size v bs wr HP.out.2.1.wr (by have := HP.out.1; have : (l : Int) < 1048576 := HL2.out; have : s.size ≤ 140737488351232 := HZ.out; omega)).mono ?_); rintro e w1 ⟨rfl, v1, hw, hf⟩
              obtain ⟨cur, hcur⟩ : ∃ cur, cur = bs ++ sev s.size ++ strB s := ⟨_, rfl⟩
              rw [← hcur] at hw
              have T1 := Lib.hid (HP.out.2.1.putW hw hf)
              have B1 := Lib.hid (HP.out.2.2.trans (HP.out.2.1.wr.fr_below hf))
              obtain ⟨ad', e', d0, d1, d2, d3, d4⟩ := HAT.out w1 B1.out
              cases e'
              clear hw hf c0 c1 c2 c3 d4
              go_wp2_with fail
              go_at_call 57; (with_reducible refine (ref_text s W.heap.size (.slice Ab l cb) bs w1 T1.out.ow T1.out.le (by have := HP.out.1; have : (l : Int) < 1048576 := HL2.out; have : s.size ≤ 140737488351232 := HZ.out; omega)).mono ?_); rintro e w2 ⟨vb, rfl, ho, hf⟩
              rw [← hcur] at ho
              obtain ⟨Ab', cb', rfl, _, _⟩ := ho.form
              have T2 := Lib.hid (T1.out.putB ho hf)
              have B2 := Lib.hid (B1.out.trans (T1.out.ow.fr_below hf T1.out.le))
              have HCU := Lib.hid hcur
              clear ho hf d0 d1 d2 d3 hcur
              go_wp2_with fail
              go_roundw
              case rel => exact ⟨k + 1, cur, v1, Ab', cur.length, cb', by go_num, by omega, rfl, by have := HP.out.1; have := HL2.out; have := HNUM.out; rw [HCU.out]; have : s.size ≤ 140737488351232 := HZ.out; simp only [List.length_append, strB_len]; omega, Lib.hid ⟨rfl, T2.out, B2.out⟩⟩
              case measure => simp [intOf]; omega
            · have g1 : (kind == 1) = false := by simpa using h1
              have g2 : (kind == 2) = false := by simpa using h2
              have g3 : (kind == 3) = false := by simpa using h3
              clear h1 h2 h3
              go_wp2_with fail
              go_roundw
              case rel => exact ⟨k + 1, bs, v, Ab, l, cb, by go_num, by omega, rfl, hl, HP⟩
              case measure => simp [intOf]; omega
      · go_wp2
        go_ret2
        exact ⟨W.heap.size, v, .slice Ab l cb, rfl, bs, HP.out.2.1, by have := HP.out.1; omega, HP.out.2.2⟩
    · go_wp2
      go_ret2
      exact ⟨W.heap.size, v, .slice Ab l cb, bs, rfl, HP.out.2.1, by have := HP.out.1; omega, HP.out.2.2⟩
end Go.Proofs.YtdgokebablhoiaaDoor
