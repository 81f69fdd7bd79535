/- The document's Num, Int, Text: bytes put behind a row of the caller's own. -/
import Derived.Test.YtglbdbghcdoicaaGreatDoorWWs
namespace Go.Proofs.YtglbdbghcdoicaaGreatDoor
open Go.RowKit

/-- A row of the caller's own holds these bytes. -/
def Ow (W : World) (base : Nat) (v : Value) (bs : List Int) : Prop := W.ownsRow base 5 1 v bs.length (bvs bs)
/-- What an append onto it turns. -/
def OwFr (W : World) (v : Value) (W' : World) (v' : Value) : Prop := Tur (fun k => v.ownBlock = some k) W W' ∧ (v'.ownBlock = v.ownBlock ∨ ∃ k, v'.ownBlock = some k ∧ W.heap.size ≤ k)
section
variable {W W1 W2 : World} {base : Nat} {v v1 v2 : Value} {bs more : List Int}
theorem OwFr.refl (W : World) (v : Value) : OwFr W v W v := ⟨Tur.refl _ _, .inl rfl⟩
theorem OwFr.trans (h : OwFr W v W1 v1) (h' : OwFr W1 v1 W2 v2) : OwFr W v W2 v2 := by
  obtain ⟨t, e⟩ := h
  obtain ⟨t', e'⟩ := h'
  refine ⟨t.trans t' (fun k hk => ?_), ?_⟩
  · rcases e with e | ⟨g, e, hg⟩
    · exact .inl (by rw [← e]; exact hk)
    · rw [e] at hk; cases hk; exact .inr hg
  · rcases e' with e' | ⟨g, e', hg⟩
    · rcases e with e | ⟨g, e, hg⟩
      · exact .inl (e'.trans e)
      · exact .inr ⟨g, e'.trans e, hg⟩
    · exact .inr ⟨g, e', Nat.le_trans t.size hg⟩
theorem OwFr.of_below (h : Below W.heap.size W W1) (v : Value) : OwFr W v W1 v := ⟨Tur.of_below h, .inl rfl⟩
theorem OwFr.of_grown (hg : W.grownBy W1 v.ownBlock) (hv : v1.ownBlock = v.ownBlock ∨ v1.ownBlock = some W.heap.size) : OwFr W v W1 v1 :=
  ⟨Tur.of_grown hg (fun _ e => e), hv.imp id (fun e => ⟨_, e, Nat.le_refl _⟩)⟩
theorem Ow.kept (h : Ow W base v bs) (hb : Below W.heap.size W W1) : Ow W1 base v bs := ownsRow_tur h (Tur.of_below (S := fun _ => False) hb) (fun _ _ h => h)
theorem Ow.of (h : W.ownsRow base 5 1 v (bs.length + more.length) (bvs bs ++ bvs more)) : Ow W base v (bs ++ more) := by
  unfold Ow
  rw [List.length_append, bvs_append]
  exact h
theorem Ow.nil (W : World) (base : Nat) : Ow W base (.slice none 0 0) [] := World.ownsRow_nil W _ _ _
theorem Ow.fr_below (h : Ow W base v bs) (f : OwFr W v W1 v1) (hB : base ≤ W.heap.size) : Below base W W1 := f.1.below hB (fun k hk => (h.lt k hk).1)
end

set_option maxHeartbeats 1000000 in
set_option maxRecDepth 100000 in
theorem ref_sevens (n : Nat) (hn : n < 18446744073709551616) (W : World) :
    Calls Tryz.prog 124 #[.int .u64 (n : Int)] W fun e w' => ∃ v', e = .returned v' ∧ Ow w' W.heap.size v' (sev n) ∧ Below W.heap.size W w' := by
  have HN := Lib.hid (sev_len10 n hn)
  have HX := Lib.hid hn
  clear hn
  go_enter Tryz.func124, Tryz.ntmps124
  go_wp2
  go_loopw [0, 3] (fun t0 t3 wr => ∃ (m : Nat) (cur : List Int) (A : Option Addr) (l c : Nat), t0 = .int .u64 (m : Int) ∧ m ≤ n ∧ t3 = .slice A l c ∧ l ≤ 10 ∧ Hid (sev n = cur ++ sev m ∧ cur.length = l ∧ Ow wr W.heap.size (.slice A l c) cur ∧ Below W.heap.size W wr)) (fun t0 _ _ => (intOf t0).toNat)
  case atStart => exact ⟨n, [], none, 0, 0, rfl, Nat.le_refl _, rfl, by omega, Lib.hid ⟨rfl, rfl, Ow.nil _ _, Below.refl _ _⟩⟩
  case round =>
    obtain ⟨m, cur, A, l, c, rfl, hm, rfl, hl, HP⟩ := hrel
    have S1 := Lib.hid HP.out.2.2.2.size
    by_cases h128 : m < 128
    · have HSm := Lib.hid (sev_small m h128)
      have H1 := Lib.hid (HP.out.2.2.1.kept ((Below.refl _ _).alloc (Nat.le_refl _) (.cells #[.int .u8 (m : Int)] 5)))
      have B1 := Lib.hid (HP.out.2.2.2.alloc S1.out (.cells #[.int .u8 (m : Int)] 5))
      go_wp2_with (at_builtin; refine wpList_append_bytes rfl _ _ rfl W.heap.size _ l cur rfl (by rw [← HP.out.2.1]; rw [HP.out.2.1]; exact HP.out.2.1 ▸ H1.out) (some ⟨wr.heap.size, 0, none⟩) 1 1 (fun h => by cases h) [(m : Int)] rfl rfl (cells_one wr _ _) (by omega) (Nat.le_trans S1.out (by simp)) ?_
                   intro v' w2 hown hg hv
                   have HO := Lib.hid (Ow.of (more := [(m : Int)]) (by rw [HP.out.2.1]; exact hown))
                   have HF := Lib.hid (OwFr.of_grown hg hv)
                   clear hown hg hv)
      go_ret
      refine ⟨_, rfl, ?_, B1.out.trans (H1.out.fr_below HF.out (Nat.le_trans S1.out (by simp)))⟩
      rw [HP.out.1, HSm.out]
      exact HO.out
    · have HBg := Lib.hid (show sev m = [(m : Int) % 128 + 128] ++ sev (m / 128) by rw [sev_big m h128]; simp)
      have H1 := Lib.hid (HP.out.2.2.1.kept ((Below.refl _ _).alloc (Nat.le_refl _) (.cells #[.int .u8 ((m : Int) % 128 + 128)] 5)))
      have B1 := Lib.hid (HP.out.2.2.2.alloc S1.out (.cells #[.int .u8 ((m : Int) % 128 + 128)] 5))
      have HL := Lib.hid (show l + 1 ≤ 10 by
        have h1 := congrArg List.length HP.out.1
        rw [HBg.out, List.length_append, List.length_append, HP.out.2.1] at h1
        have h3 : 1 ≤ (sev (m / 128)).length := by rw [sev]; split <;> simp
        have := HN.out
        simp at h1
        omega)
      have hm9 : (m : Int) ≤ 18446744073709551615 := by have := HX.out; omega
      have hq0 : (0 : Int) ≤ (m : Int) / 128 := by omega
      have hq1 : (m : Int) / 128 ≤ 18446744073709551615 := by omega
      go_wp2_with (at_builtin; refine wpList_append_bytes rfl _ _ rfl W.heap.size _ l cur rfl (HP.out.2.1 ▸ H1.out) (some ⟨wr.heap.size, 0, none⟩) 1 1 (fun h => by cases h) [(m : Int) % 128 + 128] rfl rfl (cells_one wr _ _) (by omega) (Nat.le_trans S1.out (by simp)) ?_
                   intro v' w2 hown hg hv
                   have HO := Lib.hid (Ow.of (more := [(m : Int) % 128 + 128]) (by rw [HP.out.2.1]; exact hown))
                   have HF := Lib.hid (OwFr.of_grown hg hv)
                   obtain ⟨A', c', rfl, _, _, _⟩ := owned_form hown
                   clear hown hg hv)
      go_roundw
      case rel =>
        refine ⟨m / 128, cur ++ [(m : Int) % 128 + 128], A', l + 1, c', by go_num, by omega, rfl, HL.out, Lib.hid ⟨?_, ?_, HO.out, B1.out.trans (H1.out.fr_below HF.out (Nat.le_trans S1.out (by simp)))⟩⟩
        · rw [HP.out.1, HBg.out, List.append_assoc]
        · rw [List.length_append, HP.out.2.1]; rfl
      case measure => simp [intOf]; omega

theorem Ow.form {W : World} {base : Nat} {v : Value} {bs : List Int} (h : Ow W base v bs) : ∃ A c, v = .slice A bs.length c ∧ CellsAt W A (bvs bs) ∧ (A = none → c = 0) := by
  obtain ⟨A, c, rfl, _, h1, h2⟩ := owned_form h
  exact ⟨A, c, rfl, h1, h2⟩
set_option maxRecDepth 100000 in
theorem ref_num_nat (n : Nat) (hn : n ≤ 9223372036854775807) (base : Nat) (v : Value) (bs : List Int) (W : World) (h : Ow W base v bs) (hB : base ≤ W.heap.size) (hbs : bs.length + 10 ≤ 211106232532992) :
    Calls Tryz.prog 80 #[v, .int .i64 (n : Int)] W fun e w' => ∃ v', e = .returned v' ∧ Ow w' base v' (bs ++ sev n) ∧ OwFr W v w' v' := by
  have C := Lib.hid (ref_sevens n (by omega) W)
  have H := Lib.hid h
  obtain ⟨Ab, cb, rfl, _, _⟩ := h.form
  have HN := Lib.hid (sev_len10 n (by omega))
  have HL := Lib.hid hbs
  have HB := Lib.hid hB
  clear h hbs hB
  have h0 : decide ((n : Int) < 0) = false := by simp
  go_enter Tryz.func80, Tryz.ntmps80
  go_wp2_with fail
  go_at_call 124; (with_reducible refine C.out.mono ?_); rintro e w1 ⟨vs, rfl, ho, hb⟩
  obtain ⟨As, cs, rfl, hcs, hAs⟩ := ho.form
  have H1 := Lib.hid (H.out.kept hb)
  have F1 := Lib.hid (OwFr.of_below hb (.slice Ab bs.length cb))
  have CS := Lib.hid hcs
  have AS := Lib.hid hAs
  have SZ := Lib.hid (Nat.le_trans HB.out hb.size)
  clear ho hb hcs hAs
  go_wp2_with (at_builtin; refine wpList_append_bytes rfl _ _ rfl base _ _ bs rfl H1.out As _ cs AS.out (sev n) rfl rfl CS.out (by have := HL.out; have := HN.out; omega) SZ.out ?_
               intro v' w2 hown hg hv
               have HO := Lib.hid (Ow.of (more := sev n) hown)
               have HF := Lib.hid (F1.out.trans (OwFr.of_grown hg hv))
               clear hown hg hv)
  go_ret
  exact ⟨_, rfl, HO.out, HF.out⟩
set_option maxRecDepth 100000 in
theorem ref_num_neg (n : Int) (hn : n < 0) (base : Nat) (v : Value) (bs : List Int) (W : World) (h : Ow W base v bs) (hB : base ≤ W.heap.size) (hbs : bs.length + 10 ≤ 211106232532992) :
    Calls Tryz.prog 80 #[v, .int .i64 n] W fun e w' => ∃ v', e = .returned v' ∧ Ow w' base v' (bs ++ sev 0) ∧ OwFr W v w' v' := by
  have C := Lib.hid (show Calls Tryz.prog 124 #[.int .u64 0] W _ from ref_sevens 0 (by omega) W)
  have H := Lib.hid h
  obtain ⟨Ab, cb, rfl, _, _⟩ := h.form
  have HN := Lib.hid (sev_len10 0 (by omega))
  have HL := Lib.hid hbs
  have HB := Lib.hid hB
  clear h hbs hB
  go_enter Tryz.func80, Tryz.ntmps80
  go_wp2_with fail
  go_at_call 124; (with_reducible refine C.out.mono ?_); rintro e w1 ⟨vs, rfl, ho, hb⟩
  obtain ⟨As, cs, rfl, hcs, hAs⟩ := ho.form
  have H1 := Lib.hid (H.out.kept hb)
  have F1 := Lib.hid (OwFr.of_below hb (.slice Ab bs.length cb))
  have CS := Lib.hid hcs
  have AS := Lib.hid hAs
  have SZ := Lib.hid (Nat.le_trans HB.out hb.size)
  clear ho hb hcs hAs
  go_wp2_with (at_builtin; refine wpList_append_bytes rfl _ _ rfl base _ _ bs rfl H1.out As _ cs AS.out (sev 0) rfl rfl CS.out (by have := HL.out; have := HN.out; omega) SZ.out ?_
               intro v' w2 hown hg hv
               have HO := Lib.hid (Ow.of (more := sev 0) hown)
               have HF := Lib.hid (F1.out.trans (OwFr.of_grown hg hv))
               clear hown hg hv)
  go_ret
  exact ⟨_, rfl, HO.out, HF.out⟩
theorem ref_num (n : Int) (hn : n ≤ 9223372036854775807) (base : Nat) (v : Value) (bs : List Int) (W : World) (h : Ow W base v bs) (hB : base ≤ W.heap.size) (hbs : bs.length + 10 ≤ 211106232532992) :
    Calls Tryz.prog 80 #[v, .int .i64 n] W fun e w' => ∃ v', e = .returned v' ∧ Ow w' base v' (bs ++ sev n.toNat) ∧ OwFr W v w' v' := by
  by_cases h0 : n < 0
  · have e : n.toNat = 0 := by omega
    rw [e]
    exact ref_num_neg n h0 base v bs W h hB hbs
  · obtain ⟨m, rfl⟩ : ∃ m : Nat, n = (m : Int) := ⟨n.toNat, by omega⟩
    exact ref_num_nat m (by omega) base v bs W h hB hbs

set_option maxRecDepth 100000 in
theorem ref_int_pos (n m : Nat) (hm : m = 2 * n) (hn : n < 9223372036854775808) (base : Nat) (v : Value) (bs : List Int) (W : World) (h : Ow W base v bs) (hB : base ≤ W.heap.size) (hbs : bs.length + 10 ≤ 211106232532992) :
    Calls Tryz.prog 83 #[v, .int .i64 (n : Int)] W fun e w' => ∃ v', e = .returned v' ∧ Ow w' base v' (bs ++ sev m) ∧ OwFr W v w' v' := by
  have C := Lib.hid (show Calls Tryz.prog 124 #[.int .u64 ((n : Int) * 2)] W _ from (show ((m : Nat) : Int) = (n : Int) * 2 by omega) ▸ ref_sevens m (by omega) W)
  have H := Lib.hid h
  obtain ⟨Ab, cb, rfl, _, _⟩ := h.form
  have HN := Lib.hid (sev_len10 m (by omega))
  have HL := Lib.hid hbs
  have HB := Lib.hid hB
  have h9 : (n : Int) ≤ 9223372036854775807 := by omega
  have h0 : decide ((n : Int) < 0) = false := by simp
  clear h hbs hB hm
  go_enter Tryz.func83, Tryz.ntmps83
  go_wp2_with fail
  go_at_call 124; (with_reducible refine C.out.mono ?_); rintro e w1 ⟨vs, rfl, ho, hb⟩
  obtain ⟨As, cs, rfl, hcs, hAs⟩ := ho.form
  have H1 := Lib.hid (H.out.kept hb)
  have F1 := Lib.hid (OwFr.of_below hb (.slice Ab bs.length cb))
  have CS := Lib.hid hcs
  have AS := Lib.hid hAs
  have SZ := Lib.hid (Nat.le_trans HB.out hb.size)
  clear ho hb hcs hAs
  go_wp2_with (at_builtin; refine wpList_append_bytes rfl _ _ rfl base _ _ bs rfl H1.out As _ cs AS.out (sev m) rfl rfl CS.out (by have := HL.out; have := HN.out; omega) SZ.out ?_
               intro v' w2 hown hg hv
               have HO := Lib.hid (Ow.of (more := sev m) hown)
               have HF := Lib.hid (F1.out.trans (OwFr.of_grown hg hv))
               clear hown hg hv)
  go_ret
  exact ⟨_, rfl, HO.out, HF.out⟩
set_option maxRecDepth 100000 in
theorem ref_int_neg (n : Int) (m : Nat) (hm : m = (-2 * n - 1).toNat) (h1 : n < 0) (hn : -9223372036854775808 ≤ n) (base : Nat) (v : Value) (bs : List Int) (W : World) (h : Ow W base v bs) (hB : base ≤ W.heap.size) (hbs : bs.length + 10 ≤ 211106232532992) :
    Calls Tryz.prog 83 #[v, .int .i64 n] W fun e w' => ∃ v', e = .returned v' ∧ Ow w' base v' (bs ++ sev m) ∧ OwFr W v w' v' := by
  have C := Lib.hid (show Calls Tryz.prog 124 #[.int .u64 (-(n + 1) * 2 + 1)] W _ from (show ((m : Nat) : Int) = -(n + 1) * 2 + 1 by omega) ▸ ref_sevens m (by omega) W)
  have H := Lib.hid h
  obtain ⟨Ab, cb, rfl, _, _⟩ := h.form
  have HN := Lib.hid (sev_len10 m (by omega))
  have HL := Lib.hid hbs
  have HB := Lib.hid hB
  clear h hbs hB hm
  go_enter Tryz.func83, Tryz.ntmps83
  go_wp2_with fail
  go_at_call 124; (with_reducible refine C.out.mono ?_); rintro e w1 ⟨vs, rfl, ho, hb⟩
  obtain ⟨As, cs, rfl, hcs, hAs⟩ := ho.form
  have H1 := Lib.hid (H.out.kept hb)
  have F1 := Lib.hid (OwFr.of_below hb (.slice Ab bs.length cb))
  have CS := Lib.hid hcs
  have AS := Lib.hid hAs
  have SZ := Lib.hid (Nat.le_trans HB.out hb.size)
  clear ho hb hcs hAs
  go_wp2_with (at_builtin; refine wpList_append_bytes rfl _ _ rfl base _ _ bs rfl H1.out As _ cs AS.out (sev m) rfl rfl CS.out (by have := HL.out; have := HN.out; omega) SZ.out ?_
               intro v' w2 hown hg hv
               have HO := Lib.hid (Ow.of (more := sev m) hown)
               have HF := Lib.hid (F1.out.trans (OwFr.of_grown hg hv))
               clear hown hg hv)
  go_ret
  exact ⟨_, rfl, HO.out, HF.out⟩
theorem ref_int (n : Int) (h1 : -9223372036854775808 ≤ n) (h2 : n ≤ 9223372036854775807) (base : Nat) (v : Value) (bs : List Int) (W : World) (h : Ow W base v bs) (hB : base ≤ W.heap.size) (hbs : bs.length + 10 ≤ 211106232532992) :
    Calls Tryz.prog 83 #[v, .int .i64 n] W fun e w' => ∃ v', e = .returned v' ∧ Ow w' base v' (bs ++ sev (zz n)) ∧ OwFr W v w' v' := by
  unfold zz
  by_cases h0 : n < 0
  · rw [if_pos h0]
    exact ref_int_neg n _ rfl h0 h1 base v bs W h hB hbs
  · rw [if_neg h0]
    obtain ⟨m, rfl⟩ : ∃ m : Nat, n = (m : Int) := ⟨n.toNat, by omega⟩
    exact ref_int_pos m _ (by omega) (by omega) base v bs W h hB hbs

set_option maxRecDepth 100000 in
theorem ref_text (s : ByteArray) (base : Nat) (v : Value) (bs : List Int) (W : World) (h : Ow W base v bs) (hB : base ≤ W.heap.size) (hbs : bs.length + 10 + s.size ≤ 211106232532992) :
    Calls Tryz.prog 125 #[v, .string s] W fun e w' => ∃ v', e = .returned v' ∧ Ow w' base v' (bs ++ sev s.size ++ strB s) ∧ OwFr W v w' v' := by
  have C := Lib.hid (ref_num_nat s.size (by omega) base v bs W h hB (by omega))
  obtain ⟨Ab, cb, rfl, _, _⟩ := h.form
  have H := Lib.hid h
  have HN := Lib.hid (sev_len10 s.size (by omega))
  have HL := Lib.hid hbs
  have HB := Lib.hid hB
  clear h hbs hB
  go_enter Tryz.func125, Tryz.ntmps125
  go_wp2_with fail
  go_at_call 80; (with_reducible refine C.out.mono ?_); rintro e w1 ⟨vs, rfl, ho, hf⟩
  obtain ⟨cur, hcur⟩ : ∃ cur, cur = bs ++ sev s.size := ⟨_, rfl⟩
  rw [← hcur] at ho
  obtain ⟨As, cs, rfl, _, _⟩ := ho.form
  have HO := Lib.hid ho
  have HF := Lib.hid hf
  have SZ := Lib.hid (Nat.le_trans HB.out hf.1.size)
  have HC := Lib.hid hcur
  clear ho hf hcur
  go_wp2_with (at_builtin; refine wpList_append_text rfl _ _ rfl base _ _ cur rfl HO.out s rfl (by have := HL.out; have := HN.out; rw [HC.out, List.length_append]; omega) SZ.out ?_
               intro v' w2 hown hg hv
               have ho2 : w2.ownsRow base 5 1 v' (cur.length + (strB s).length) (bvs cur ++ bvs (strB s)) := by rw [strB_len]; exact hown
               have HO2 := Lib.hid (Ow.of ho2)
               clear ho2
               have HF2 := Lib.hid (HF.out.trans (OwFr.of_grown hg hv))
               clear hown hg hv)
  go_ret
  exact ⟨_, rfl, by rw [← HC.out]; exact HO2.out, HF2.out⟩
end Go.Proofs.YtglbdbghcdoicaaGreatDoor
