/- The law WireBack: the walk. -/
import Derived.Test.YtdgokebablhoiaaDoorWReads0
import Derived.Test.YtdgokebablhoiaaDoorWIs
import Derived.Test.YtdgokebablhoiaaDoorWLend
namespace Go.Proofs.YtdgokebablhoiaaDoor
open Go.RowKit

theorem wf_u8 {x : Int} (h0 : 0 ≤ x) (h1 : x < 256) : (Lit.int .u8 x).wf = true := by
  show (decide (_ ≤ x) && decide (x ≤ _)) = true
  simp only [Bool.and_eq_true, decide_eq_true_eq]
  exact ⟨h0, show x ≤ 255 by omega⟩
theorem sev_wf (n : Nat) : ∀ x ∈ sev n, (Lit.int .u8 x).wf = true := by
  induction n using Nat.strongRecOn with
  | ind n ih =>
    intro x hx
    by_cases h : n < 128
    · rw [sev_small n h, List.mem_singleton] at hx
      subst hx
      exact wf_u8 (by omega) (by omega)
    · rw [sev_big n h, List.mem_cons] at hx
      rcases hx with rfl | hx
      · exact wf_u8 (by omega) (by omega)
      · exact ih (n / 128) (by omega) x hx
theorem strB_wf (s : ByteArray) : ∀ x ∈ strB s, (Lit.int .u8 x).wf = true := fun x hx => by
  unfold strB at hx
  obtain ⟨b, _, rfl⟩ := List.mem_map.1 hx
  exact wf_u8 (by omega) (by have := b.toNat_lt; omega)
theorem enc_wf (c : Cl) : ∀ x ∈ enc c, (Lit.int .u8 x).wf = true := fun x hx => by
  unfold enc at hx
  split at hx
  · exact sev_wf _ x hx
  · split at hx
    · exact sev_wf _ x hx
    · split at hx
      · rcases List.mem_append.1 hx with h | h
        · exact sev_wf _ x h
        · exact strB_wf _ x h
      · cases hx
theorem flat_wf (cs : List Cl) : ∀ x ∈ cs.flatMap enc, (Lit.int .u8 x).wf = true := fun x hx => by
  obtain ⟨c, _, h⟩ := List.mem_flatMap.1 hx
  exact enc_wf c x h
theorem flat_le (cs : List Cl) (hok : ∀ x ∈ cs, x.Ok) (hs : ∀ x ∈ cs, x.s.size ≤ 1048576) : (cs.flatMap enc).length ≤ cs.length * 1048586 := by
  induction cs with
  | nil => simp
  | cons x cs ih =>
    rw [List.flatMap_cons, List.length_append, List.length_cons, Nat.add_mul]
    have := enc_le x (hok x (List.mem_cons_self ..)) (hs x (List.mem_cons_self ..))
    have := ih (fun y hy => hok y (List.mem_cons_of_mem _ hy)) (fun y hy => hs y (List.mem_cons_of_mem _ hy))
    omega
theorem flat_bd (cs : List Cl) (k : Nat) (hk : k ≤ 60) (hok : ∀ x ∈ cs, x.Ok) (hs : ∀ x ∈ cs, x.s.size ≤ 1048576) : ((cs.take k).flatMap enc).length ≤ 62915160 := by
  have h := flat_le (cs.take k) (fun x hx => hok x (List.mem_of_mem_take hx)) (fun x hx => hs x (List.mem_of_mem_take hx))
  have h2 : (cs.take k).length ≤ 60 := by rw [List.length_take]; omega
  have := Nat.mul_le_mul_right 1048586 h2
  omega
theorem own_lent {W : World} {g n base : Nat} {cur : Array Value} {xs : List Int} (hl : xs.length = n) (hb : base ≤ g) (hg : Blk W g 5 cur) (hc : cur.toList = bvs (xs ++ List.replicate 67 169)) (hn : n ≤ 140737488355328) : W.ownsRow base 5 1 (.slice (some ⟨g, 0, none⟩) n (n + 67)) n (bvs xs) := by
  refine ⟨by rw [bvs_len, hl, Nat.mul_one], .inr ⟨g, n + 67, cur, rfl, hb, hg, by omega, by unfold maxLen; omega, ?_, ?_⟩⟩
  · rw [← Array.length_toList, hc, bvs_len, List.length_append, List.length_replicate, hl, Nat.mul_one]
  · rw [hc, bvs_append, Nat.mul_one, List.take_left' (by rw [bvs_len]; exact hl)]
theorem tyB {w W : World} (h : w.cell? ⟨0, 0, none⟩ = some tyErr) (hb : Below w.heap.size w W) : W.cell? ⟨0, 0, none⟩ = some tyErr :=
  (hb.cell (p := ⟨0, 0, none⟩) (World.block_lt_of_cell? w _ h)).trans h
theorem CellsAt.take_ {W : World} {A : Option Addr} {us : List Value} (h : CellsAt W A us) (k : Nat) : CellsAt W A (us.take k) := fun j hj => by
  rw [List.length_take] at hj
  obtain ⟨ad, e, h1, h2⟩ := h j (by omega)
  exact ⟨ad, e, h1, by rw [h2, List.getElem_take]⟩
theorem bvs_take (xs : List Int) (k : Nat) : bvs (xs.take k) = (bvs xs).take k := by simp [bvs, List.map_take]

set_option maxRecDepth 100000 in
theorem roundN_neg (at_ m : Int) (hm : 0 < m) (hm2 : m ≤ 140737488355328) (h : at_.tmod m < 0) (R : Nat) (hR : at_.tmod m + m = (R : Int)) (W : World) :
    Calls Tryd.prog 33 #[.int .i64 at_, .int .i64 m] W fun e w' => e = .returned (.int .i64 (R : Int)) ∧ W = w' := by
  have h1 := Int.tmod_lt_of_pos at_ hm
  have h2 := Int.lt_tmod_of_pos at_ hm
  have hm0 : ¬ m = 0 := by omega
  go_enter Tryd.func33, Tryd.ntmps33
  go_wp2
  go_ret
  exact ⟨rfl, rfl⟩
set_option maxRecDepth 100000 in
theorem roundN_pos (at_ m : Int) (hm : 0 < m) (h : ¬ at_.tmod m < 0) (R : Nat) (hR : at_.tmod m = (R : Int)) (W : World) :
    Calls Tryd.prog 33 #[.int .i64 at_, .int .i64 m] W fun e w' => e = .returned (.int .i64 (R : Int)) ∧ W = w' := by
  have hm0 : ¬ m = 0 := by omega
  have h0 : ¬ (R : Int) < 0 := by omega
  clear h
  go_enter Tryd.func33, Tryd.ntmps33
  go_wp2
  go_ret
  exact ⟨rfl, rfl⟩
theorem roundN (at_ : Int) (n : Nat) (h0 : 0 < n) (hn : n ≤ 140737488355328) : ∃ R : Nat, R < n ∧ ∀ W, Calls Tryd.prog 33 #[.int .i64 at_, .int .i64 (n : Int)] W fun e w' => e = .returned (.int .i64 (R : Int)) ∧ W = w' := by
  have h1 := Int.tmod_lt_of_pos at_ (show (0 : Int) < (n : Int) by omega)
  have h2 := Int.lt_tmod_of_pos at_ (show (0 : Int) < (n : Int) by omega)
  by_cases h : at_.tmod (n : Int) < 0
  · exact ⟨(at_.tmod (n : Int) + (n : Int)).toNat, by omega, fun W => roundN_neg at_ (n : Int) (by omega) (by omega) h _ (by omega) W⟩
  · exact ⟨(at_.tmod (n : Int)).toNat, by omega, fun W => roundN_pos at_ (n : Int) (by omega) h _ (by omega) W⟩

theorem rd_err_some {q n c : Nat} {A : Option Addr} {xs : List Int} {s : RS} {fv : Value} {W : World} {code p : Int} (h : RdIs W q A n c xs s fv) (hf : s.fault = some (code, p)) :
    Calls Tryd.prog 27 #[.pointer (some ⟨q, 0, none⟩)] W fun e w' => ∃ g, e = .returned (errV g) ∧ Blk w' g 102 #[.int .i64 code, .int .i64 p] ∧ Below W.heap.size W w' := by
  refine (rd_err h).mono ?_
  rintro e w' ⟨hb, hm⟩
  rw [hf] at hm
  obtain ⟨g, h1, h2⟩ := hm
  exact ⟨g, h1, h2, hb⟩
theorem asks_longer (cs : List Cl) (xs : List Int) (l : Nat) (more : Int) (hxs : xs = (cs.take 60).flatMap enc) (hl : xs.length = l) (hok : ∀ x ∈ cs, x.Ok) (hs : ∀ x ∈ cs, x.s.size ≤ 1048576) : asks (xs ++ [more]) ⟨0, none⟩ (cs.take 60) = ⟨l, none⟩ := by
  have h := asks_ok (xs := xs ++ [more]) (rest := [more]) (cs.take 60) 0 (by rw [List.drop_zero, hxs]) (fun x hx => hok x (List.mem_of_mem_take hx)) (fun x hx => hs x (List.mem_of_mem_take hx)) (Nat.zero_le _)
  rw [h, ← hxs, hl, Nat.zero_add]
theorem asks_front (cs : List Cl) (xs : List Int) (l R : Nat) (hxs : xs = (cs.take 60).flatMap enc) (hl : xs.length = l) (hR : R < l) (hok : ∀ x ∈ cs, x.Ok) (hs : ∀ x ∈ cs, x.s.size ≤ 1048576) : ∃ p, (asks (xs.take R) ⟨0, none⟩ (cs.take 60)).fault = some (11, p) :=
  asks_cut (xs := xs.take R) (cs.take 60) 0 R (by rw [List.drop_zero, hxs]) (by rw [← hxs, hl]; exact hR) (fun x hx => hok x (List.mem_of_mem_take hx)) (fun x hx => hs x (List.mem_of_mem_take hx)) (Nat.zero_le _)

set_option maxHeartbeats 4000000 in
set_option maxRecDepth 100000 in
theorem law_back (Al : Option Addr) (nl cl : Nat) (cs : List Cl) (cut more : Int) (w : World) (hT : w.cell? ⟨0, 0, none⟩ = some tyErr) (hl : cs.length = nl) (hc : CallsAt w Al cs) (hok : ∀ x ∈ cs, x.Ok) (hs : ∀ x ∈ cs, x.s.size ≤ 1048576) (hm : (Lit.int .u8 more).wf = true) :
    Calls Tryd.prog 6 #[.slice Al nl cl, .int .i64 cut, .int .u8 more] w fun e w' => e = .returned (.bool true) ∧ Below w.heap.size w w' := by
  have HT := Lib.hid hT
  have HL := Lib.hid hl
  have HC := Lib.hid hc
  have HK := Lib.hid hok
  have HS := Lib.hid hs
  have HM := Lib.hid hm
  have HFB := Lib.hid (fun k (hk : k ≤ 60) => flat_bd cs k hk hok hs)
  have HW0 := Lib.hid (show Wr (w.alloc (.cells #[.slice none 0 0] 49)) w.heap.size w.heap.size (.slice none 0 0) [] from ⟨Blk.new _ _ _, World.ownsRow_nil _ _ _ _, by simp [Value.ownBlock], Nat.le_refl _⟩)
  have HB0 := Lib.hid ((Below.refl w.heap.size w).alloc (Nat.le_refl _) (.cells #[.slice none 0 0] 49))
  clear hT hl hc hok hs hm
  go_enter Tryd.func6, Tryd.ntmps6
  go_wp2
  go_loopw [8] (fun t8 wr => ∃ k : Nat, t8 = .int .i64 (k : Int) ∧ k ≤ nl ∧ k ≤ 60 ∧ Hid (∃ v, Wr wr w.heap.size w.heap.size v ((cs.take k).flatMap enc) ∧ Below w.heap.size w wr)) (fun t8 _ => 60 - (intOf t8).toNat)
  case atStart => exact ⟨0, rfl, Nat.zero_le _, by omega, Lib.hid ⟨_, HW0.out, HB0.out⟩⟩
  case round =>
    obtain ⟨k, rfl, hk, hk6, HP0⟩ := hrel
    obtain ⟨v, hP⟩ := HP0.out
    have HP := Lib.hid hP
    clear HP0 hP
    by_cases hgo : k < nl ∧ k < 60
    · obtain ⟨hkn, hk60⟩ := hgo
      have hkl : k < cs.length := by rw [HL.out]; exact hkn
      obtain ⟨ad, rfl, c0, c1, c2, c3, c4⟩ := HC.out.at HP.out.2 k hkl
      have HO := Lib.hid (HK.out cs[k] (List.getElem_mem _))
      have HZ := Lib.hid (HS.out cs[k] (List.getElem_mem _))
      have HF := Lib.hid (flat_succ cs k hkl)
      have HBD := Lib.hid (HFB.out k hk6)
      generalize cs[k] = x at *
      obtain ⟨kind, nn, ii, s, mo⟩ := x
      clear c4
      by_cases h1 : kind = 1
      · subst h1
        go_wp2_with fail
        go_at_call 17; (with_reducible refine (w_num nn HO.out.n.hi w.heap.size w.heap.size v _ wr HP.out.1 (by have := HBD.out; omega)).mono ?_); rintro e w1 ⟨rfl, v1, hw, hf⟩
        have H1 := Lib.hid (show ∃ v, Wr w1 w.heap.size w.heap.size v ((cs.take (k + 1)).flatMap enc) ∧ Below w.heap.size w w1 from ⟨v1, HF.out ▸ enc_1 ⟨1, nn, ii, s, mo⟩ rfl ▸ hw, HP.out.2.trans (HP.out.1.fr_below hf)⟩)
        clear hw hf
        go_wp2_with fail
        go_roundw
        case rel => exact ⟨k + 1, by go_num, by omega, by omega, H1⟩
        case measure => simp [intOf]; omega
      · have g1 : (kind == 1) = false := by simpa using h1
        have G1 := Lib.hid h1
        clear h1
        by_cases h2 : kind = 2
        · subst h2
          go_wp2_with fail
          go_at_call 29; (with_reducible refine (w_int ii HO.out.i.lo HO.out.i.hi w.heap.size w.heap.size v _ wr HP.out.1 (by have := HBD.out; omega)).mono ?_); rintro e w1 ⟨rfl, v1, hw, hf⟩
          have H1 := Lib.hid (show ∃ v, Wr w1 w.heap.size w.heap.size v ((cs.take (k + 1)).flatMap enc) ∧ Below w.heap.size w w1 from ⟨v1, HF.out ▸ enc_2 ⟨2, nn, ii, s, mo⟩ rfl ▸ hw, HP.out.2.trans (HP.out.1.fr_below hf)⟩)
          clear hw hf
          go_wp2_with fail
          go_roundw
          case rel => exact ⟨k + 1, by go_num, by omega, by omega, H1⟩
          case measure => simp [intOf]; omega
        · have g2 : (kind == 2) = false := by simpa using h2
          have G2 := Lib.hid h2
          clear h2
          by_cases h3 : kind = 3
          · subst h3
            go_wp2_with fail
            go_at_call 30; (with_reducible refine (w_text s w.heap.size w.heap.size v _ wr HP.out.1 (by have := HBD.out; have : s.size ≤ 1048576 := HZ.out; omega)).mono ?_); rintro e w1 ⟨rfl, v1, hw, hf⟩
            have H1 := Lib.hid (show ∃ v, Wr w1 w.heap.size w.heap.size v ((cs.take (k + 1)).flatMap enc) ∧ Below w.heap.size w w1 from ⟨v1, HF.out ▸ enc_3 ⟨3, nn, ii, s, mo⟩ rfl ▸ List.append_assoc _ _ _ ▸ hw, HP.out.2.trans (HP.out.1.fr_below hf)⟩)
            clear hw hf
            go_wp2_with fail
            go_roundw
            case rel => exact ⟨k + 1, by go_num, by omega, by omega, H1⟩
            case measure => simp [intOf]; omega
          · have g3 : (kind == 3) = false := by simpa using h3
            have H1 := Lib.hid (show ∃ v, Wr wr w.heap.size w.heap.size v ((cs.take (k + 1)).flatMap enc) ∧ Below w.heap.size w wr by rw [HF.out, enc_0 ⟨kind, nn, ii, s, mo⟩ G1.out G2.out h3, List.append_nil]; exact ⟨v, HP.out⟩)
            clear h3
            go_wp2_with fail
            go_roundw
            case rel => exact ⟨k + 1, by go_num, by omega, by omega, H1⟩
            case measure => simp [intOf]; omega
    · have HE := Lib.hid (show cs.take k = cs.take 60 by
        by_cases h : k < 60
        · have := HL.out; rw [List.take_of_length_le (by omega), List.take_of_length_le (by omega)]
        · rw [show k = 60 by omega])
      have hor : ¬ k < nl ∨ (k < nl ∧ ¬ k < 60) := by omega
      clear hgo
      obtain ⟨xs, hxs⟩ : ∃ xs, xs = (cs.take 60).flatMap enc := ⟨_, rfl⟩
      obtain ⟨l, hl⟩ : ∃ l, l = xs.length := ⟨_, rfl⟩
      have HXS := Lib.hid hxs
      have HXL := Lib.hid hl.symm
      have hl9 : (l : Int) ≤ 62915160 := by have := HFB.out 60 (Nat.le_refl _); rw [← hxs] at this; omega
      have HWR := Lib.hid (show Wr wr w.heap.size w.heap.size v xs by rw [hxs, ← HE.out]; exact HP.out.1)
      have HBW := Lib.hid HP.out.2
      have CB := Lib.hid (show Calls Tryd.prog 16 #[.pointer (some ⟨w.heap.size, 0, none⟩)] wr fun e w' => ∃ A, e = .returned (.slice A l l) ∧ RowAt w' A l wr.heap.size xs ∧ Below wr.heap.size wr w' from hl ▸ w_bytes w.heap.size w.heap.size v xs wr HWR.out (by omega))
      clear hxs hl HP HE
      rcases hor with hkn | ⟨hkn, hk5⟩
      all_goals
        go_wp2_with fail
        go_at_call 16; (with_reducible refine CB.out.mono ?_); rintro e w2 ⟨A, rfl, hr, hb⟩
        have HROW := Lib.hid hr.cells
        have B2 := Lib.hid (HBW.out.trans (hb.mono HBW.out.size))
        clear hr hb
        have CR := Lib.hid (reads_any A Al l l nl cl cs xs w w2 (tyB HT.out B2.out) HXL.out HROW.out (fun x hx => flat_wf (cs.take 60) x (HXS.out ▸ hx)) (by omega) HXS.out B2.out HL.out HC.out HK.out HS.out)
        go_wp2_with fail
        go_at_call 31; (with_reducible refine CR.out.mono ?_); rintro e w3 ⟨rfl, hb⟩
        have HROW3 := Lib.hid (HROW.out.below hb)
        have B3 := Lib.hid (B2.out.trans (hb.mono B2.out.size))
        clear hb CR HROW
        go_wp2_with fail
        go_at_call 20; (with_reducible refine (lend_any A l l xs w3 HXL.out HROW3.out (by omega)).mono ?_); rintro e w4 ⟨g, cur, rfl, hg, hbk, hcu, hb⟩
        have BX4 := Lib.hid hb
        have HOWN := Lib.hid (own_lent HXL.out hg hbk hcu (by omega))
        have HG := Lib.hid hg
        clear hg hbk hcu hb
        go_wp2_with (first
          | (at_builtin; refine wpList_append_bytes rfl _ _ rfl w3.heap.size _ l xs rfl (HOWN.out.alloc _) (some ⟨w4.heap.size, 0, none⟩) 1 1 (fun h => by cases h) [more] rfl rfl (cells_one w4 _ _) (by omega) (by have := BX4.out.size; simp; omega) ?_
             intro v' w5 hown hgr hv
             obtain ⟨A5, c5, rfl, hr5, hc5⟩ := row_of_own (xs := xs ++ [more]) (by rw [bvs_append]; exact hown)
             have HR5 := Lib.hid hr5
             have BX5 := Lib.hid (below_grown (BX4.out.alloc BX4.out.size (.cells #[.int .u8 more] 5)) hgr (by intro k hk; cases hk; exact HG.out) (by have := BX4.out.size; simp; omega))
             clear hown hgr hv hr5 hc5)
          | fail)
        go_at_call 24; (with_reducible refine (rd_read A5 (l + 1) c5 (xs ++ [more]) w5 (by rw [List.length_append, HXL.out, List.length_singleton]) HR5.out.cells (fun x hx => by rcases List.mem_append.1 hx with h | h; exact flat_wf (cs.take 60) x (HXS.out ▸ h); rw [List.mem_singleton.1 h]; exact HM.out) (by omega) (tyB HT.out (B3.out.trans (BX5.out.mono B3.out.size)))).mono ?_); rintro e w6 ⟨q1, A6, c6, rfl, hq, hrd, _, hb⟩
        have BX6 := Lib.hid (BX5.out.trans (hb.mono BX5.out.size))
        have HQ1 := Lib.hid (Nat.le_trans BX5.out.size hq)
        have R6 := Lib.hid hrd
        clear hq hrd hb
        have CA := Lib.hid (asks_longer cs xs l more HXS.out HXL.out HK.out HS.out ▸ ask_any q1 (l + 1) c6 A6 Al nl cl cs (xs ++ [more]) ⟨0, none⟩ .nilIface w w6 R6.out (B3.out.trans (BX6.out.mono B3.out.size)) (Nat.le_trans B3.out.size HQ1.out) HL.out HC.out)
        go_wp2_with fail
        go_at_call 32; (with_reducible refine CA.out.mono ?_); rintro e w7 ⟨rfl, fv7, hr, hf⟩
        have BX7 := Lib.hid (BX6.out.trans (hf.below BX6.out.size HQ1.out))
        have R7 := Lib.hid hr
        have HEN := Lib.hid (show endP (xs ++ [more]) ⟨l, none⟩ = ⟨l, some (13, (l : Int))⟩ by
          have := HXL.out
          unfold endP
          rw [if_pos (by rw [List.length_append, this]; show l < l + 1; omega)]
          rfl)
        clear hr hf CA
        go_wp2_with fail
        go_at_call 26; (with_reducible refine (HEN.out ▸ rd_end R7.out).mono ?_); rintro e w8 ⟨rfl, fv8, hr, hf⟩
        have BX8 := Lib.hid (BX7.out.trans (hf.below BX7.out.size HQ1.out))
        have R8 := Lib.hid hr
        clear hr hf
        by_cases h0 : l = 0
        · have hd : decide ((0 : Int) < (l : Int)) = false := by simp; omega
          go_wp2_with fail
          go_at_call 27; (with_reducible refine (rd_err_some R8.out rfl).mono ?_); rintro e wa ⟨ga, rfl, hga, hb⟩
          have BA := Lib.hid (BX8.out.trans (hb.mono BX8.out.size))
          have HGA := Lib.hid hga
          clear hga hb
          go_wp2_with fail
          go_at_call 34; (with_reducible refine (show Calls Tryd.prog 34 #[errV ga, .iface 35 (.int .i64 13)] _ fun e w' => e = .returned (.bool true) ∧ _ = w' from is_err ga 13 (l : Int) 13 _ HGA.out).mono ?_); rintro e wb ⟨rfl, rfl⟩
          go_wp2_with fail
          go_at_call 19; (with_reducible refine (head_any _).mono ?_); rintro e wc ⟨rfl, hb⟩
          go_wp2
          go_ret
          exact ⟨rfl, B3.out.trans ((BA.out.trans (hb.mono BA.out.size)).mono B3.out.size)⟩
        · have hd : decide ((0 : Int) < (l : Int)) = true := by simp; omega
          obtain ⟨ad, hA, _, _⟩ := HROW3.out 0 (by rw [bvs_len, HXL.out]; omega)
          subst hA
          obtain ⟨R, hR, CRD⟩ := roundN cut l (by omega) (by omega)
          have HCR := Lib.hid CRD
          have hRl : R ≤ l := by omega
          obtain ⟨p, hp⟩ := asks_front cs xs l R HXS.out HXL.out hR HK.out HS.out
          have HPF := Lib.hid hp
          have hl0 : 0 < l := by omega
          clear CRD hp
          go_wp2_with fail
          go_at_call 33; (with_reducible refine (HCR.out _).mono ?_); rintro e w9 ⟨rfl, rfl⟩
          go_wp2_with fail
          go_at_call 24; (with_reducible refine (rd_read (some ad) R l (xs.take R) w8 (by rw [List.length_take, HXL.out]; omega) (bvs_take xs R ▸ (HROW3.out.below BX8.out).take_ R) (fun x hx => flat_wf (cs.take 60) x (HXS.out ▸ List.mem_of_mem_take hx)) (by omega) (tyB HT.out (B3.out.trans (BX8.out.mono B3.out.size)))).mono ?_); rintro e wa ⟨q2, A7, c7, rfl, hq, hrd, _, hb⟩
          have BY1 := Lib.hid hb
          have HQ2 := Lib.hid hq
          have RA := Lib.hid hrd
          clear hq hrd hb
          have CA := Lib.hid (ask_any q2 R c7 A7 Al nl cl cs (xs.take R) ⟨0, none⟩ .nilIface w wa RA.out (B3.out.trans ((BX8.out.trans (BY1.out.mono BX8.out.size)).mono B3.out.size)) (Nat.le_trans B3.out.size (Nat.le_trans BX8.out.size HQ2.out)) HL.out HC.out)
          go_wp2_with fail
          go_at_call 32; (with_reducible refine CA.out.mono ?_); rintro e wb ⟨rfl, fvb, hr, hf⟩
          have BY2 := Lib.hid (BY1.out.trans (hf.below BY1.out.size HQ2.out))
          have RB := Lib.hid hr
          clear hr hf CA
          go_wp2_with fail
          go_at_call 26; (with_reducible refine (endP_stay HPF.out ▸ rd_end RB.out).mono ?_); rintro e wc ⟨rfl, fvc, hr, hf⟩
          have BY3 := Lib.hid (BY2.out.trans (hf.below BY2.out.size HQ2.out))
          have RC := Lib.hid hr
          clear hr hf
          go_wp2_with fail
          go_at_call 27; (with_reducible refine (rd_err_some RC.out HPF.out).mono ?_); rintro e wd ⟨gd, rfl, hgd, hb⟩
          have BY4 := Lib.hid (BY3.out.trans (hb.mono BY3.out.size))
          have HGD := Lib.hid hgd
          clear hgd hb
          go_wp2_with fail
          go_at_call 34; (with_reducible refine (show Calls Tryd.prog 34 #[errV gd, .iface 35 (.int .i64 11)] _ fun e w' => e = .returned (.bool true) ∧ _ = w' from is_err gd 11 p 11 _ HGD.out).mono ?_); rintro e we ⟨rfl, rfl⟩
          have R8 := Lib.hid (R8.out.kept BY4.out)
          have BX8 := Lib.hid (BX8.out.trans (BY4.out.mono BX8.out.size))
          go_wp2_with fail
          go_at_call 27; (with_reducible refine (rd_err_some R8.out rfl).mono ?_); rintro e wa ⟨ga, rfl, hga, hb⟩
          have BA := Lib.hid (BX8.out.trans (hb.mono BX8.out.size))
          have HGA := Lib.hid hga
          clear hga hb
          go_wp2_with fail
          go_at_call 34; (with_reducible refine (show Calls Tryd.prog 34 #[errV ga, .iface 35 (.int .i64 13)] _ fun e w' => e = .returned (.bool true) ∧ _ = w' from is_err ga 13 (l : Int) 13 _ HGA.out).mono ?_); rintro e wb ⟨rfl, rfl⟩
          go_wp2_with fail
          go_at_call 19; (with_reducible refine (head_any _).mono ?_); rintro e wc ⟨rfl, hb⟩
          go_wp2
          go_ret
          exact ⟨rfl, B3.out.trans ((BA.out.trans (hb.mono BA.out.size)).mono B3.out.size)⟩
end Go.Proofs.YtdgokebablhoiaaDoor
