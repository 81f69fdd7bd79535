/- SessNeeds: the walk. -/
import Derived.Test.YtglbdbghcdoicaaGreatDoorSNd
import Derived.Test.YtglbdbghcdoicaaGreatDoorSKnown
import Derived.Test.YtglbdbghcdoicaaGreatDoorSWr
import Derived.Deep.DrawnRows
namespace Go.Proofs.YtglbdbghcdoicaaGreatDoor
open Go.RowKit
attribute [local go_sem ↓] Go.wp_at_zero Go.wp_at_succ

theorem own_cellsAt {W : World} {B : Nat} {e : TypeId} {ad : Addr} {n c m : Nat} {xs ys : List Value} (h : W.ownsRow B e 1 (.slice (some ad) m c) n (xs ++ ys)) : CellsAt W (some ad) xs := fun k hk => by
  obtain ⟨g, hg⟩ : ∃ g, ad = ⟨g, 0, none⟩ := by
    rcases h.2 with ⟨hv, _⟩ | ⟨g, cap, cur, hv, _⟩
    · injection hv with hA; cases hA
    · injection hv with hA; exact ⟨g, by injection hA⟩
  subst hg
  have hl := h.lt g rfl
  refine ⟨_, rfl, hl.2, ?_⟩
  exact World.ownsRow.cells (g := g) h rfl k _ (by rw [List.getElem?_append_left hk]; exact List.getElem?_eq_getElem hk)
theorem own_len {W : World} {B : Nat} {e : TypeId} {ad : Addr} {n c : Nat} {xs : List Value} (h : W.ownsRow B e 1 (.slice (some ad) n c) n xs) : W.ownsRow B e 1 (.slice (some ad) n c) n xs := h
theorem belowOfN {X w' w4 : World} {q : Nat} (_ : Below X.heap.size X w') (h : Below q w4 X) : Below q w4 X := h
theorem needP_bd {n : Nat} (q : Rq) (zs : List Int) (h : q.cs.length = n) : (needP q zs).length ≤ n + 2 := by
  by_cases h12 : q.kind = 1 ∨ q.kind = 2
  · have := needP_len q zs h12; omega
  · have := needP_two q zs h12; omega
theorem need_ls {ls : List LockV} {q : Rq} {zs : List Int} (e : needP q zs = ls) (p A Az : Option Addr) (n c nz cz : Nat) (W : World) (hqn : q.cs.length = n) (hzl : zs.length = nz) (hz : CellsAt W Az (ivs zs)) (hn : n ≤ 1000000) (hzm : ∀ z ∈ zs, z ≤ 1099511627776) :
    Calls Tryz.prog 18 #[.pointer p, .agg (rqC (.slice A n c) q), .slice Az nz cz] W (NeedQ W ls) := by
  rw [← e]
  exact need_any p A Az n c nz cz zs q W hqn hzl hz hn hzm
theorem own_tail {W : World} {B : Nat} {e : TypeId} {g n c m : Nat} {xs : List Value} {y : Value} (h : W.ownsRow B e 1 (.slice (some ⟨g, 0, none⟩) m c) n (xs ++ [y])) : W.cell? ⟨g, xs.length, none⟩ = some y := by
  have := World.ownsRow.cells (g := g) h rfl xs.length y (by rw [List.getElem?_append_right (Nat.le_refl _), Nat.sub_self]; rfl)
  rwa [add_zero_] at this
theorem ints_new (w : World) (a : Value) : CellsAt (w.alloc (.cells #[a] 3)) (some ⟨w.heap.size, 0, none⟩) [a] := fun k hk => by
  obtain rfl : k = 0 := by simpa using hk
  refine ⟨_, rfl, by simp, ?_⟩
  rw [add_zero_, (Blk.new w 3 #[a]).cell 0]
  rfl
set_option maxHeartbeats 16000000 in
set_option maxRecDepth 100000 in
theorem law_needs (A Az : Option Addr) (n c nz cz : Nat) (q : Rq) (zs : List Int) (W : World) (hT : W.cell? ⟨0, 0, none⟩ = some tyErr) (hq : RqA W A n q) (hzl : zs.length = nz) (hz : CellsAt W Az (ivs zs)) (hA0 : Az = none → cz = 0) (hnz : nz * 8 ≤ 140737488351232) :
    Calls Tryz.prog 4 #[.agg (rqC (.slice A n c) q), .slice Az nz cz] W fun e w' => e = .returned (.bool true) ∧ Below W.heap.size W w' := by
  have bo := (Below.refl W.heap.size W).alloc (Nat.le_refl _) (.cells (rqC (.slice A n c) q) 43)
  have HT := Lib.hid (fun (W9 : World) (h : Below W.heap.size W W9) => (h.cell (p := ⟨0, 0, none⟩) (World.block_lt_of_cell? W _ hT)).trans hT)
  have K1 := Lib.hid (Blk.new W 43 (rqC (.slice A n c) q))
  have B0 := Lib.hid bo
  have HZ := Lib.hid hz
  have HZL := Lib.hid hzl
  have HQ := Lib.hid hq
  have HA0 := Lib.hid hA0
  have HNZ := Lib.hid hnz
  have hnn : n ≤ 9223372036854775807 := hq.big
  have hnm : nz ≤ 9223372036854775807 := by omega
  have CK := Lib.hid (known_true _ (HT.out _ bo))
  obtain ⟨ii, hii, hz0, hz1, hz2⟩ := info_parts info_int
  have HI := Lib.hid (show Tryz.prog.info? 3 = some ii ∧ ii.zero = some (.int .i64 0) ∧ ii.size = 1 ∧ ii.bytes = 8 from ⟨hii, hz0, hz1, hz2⟩)
  clear hT hq hzl hz bo hA0 hnz hii hz0 hz1 hz2
  go_enter Tryz.func4, Tryz.ntmps4
  go_wp2_with fail
  go_at_call 8; (with_reducible refine CK.out.mono ?_); rintro e w2 ⟨rfl, hb1⟩
  have B2 := Lib.hid (below_step B0.out hb1 (Nat.le_refl _))
  have K2 := Lib.hid (K1.out.kept hb1)
  clear hb1 CK K1
  have hck : ∀ i, w2.cell? ⟨W.heap.size, i, none⟩ = (rqC (.slice A n c) q)[i]? := K2.out.cell
  by_cases hbig : 3000 < n
  · go_wp2_with fail
    go_ret
    exact ⟨rfl, B2.out⟩
  · have hn1 : n ≤ 3000 := by omega
    go_wp2_with fail
    go_loopw [5] (fun t5 wr => ∃ i : Nat, t5 = .int .i64 (i : Int) ∧ i ≤ nz ∧ w2 = wr ∧ Hid (∀ j (h : j < zs.length), j < i → zs[j] ≤ 1099511627776)) (fun t5 _ => nz - (intOf t5).toNat)
    case atStart => exact ⟨0, rfl, Nat.zero_le _, rfl, Lib.hid (fun j h h' => absurd h' (Nat.not_lt_zero _))⟩
    case round =>
      obtain ⟨i, rfl, hi, rfl, HP⟩ := hrel
      obtain ⟨k9, hk9⟩ : ∃ k9 : Int, (1099511627776 : Int) = k9 := ⟨_, rfl⟩
      have HK9 := Lib.hid hk9
      rw [hk9]
      clear hk9
      by_cases hin : i < nz
      · have HIL := Lib.hid (show i < zs.length by rw [HZL.out]; exact hin)
        obtain ⟨x, hx⟩ : ∃ x, x = zs[i]'HIL.out := ⟨_, rfl⟩
        obtain ⟨ad, rfl, hc⟩ : ∃ ad, Az = some ad ∧ w2.cell? (ad.add i) = some (.int .i64 x) := by
          obtain ⟨ad, hA, hlt, hc⟩ := HZ.out.below B2.out i (by rw [ivs_len]; exact HIL.out)
          refine ⟨ad, hA, hc.trans ?_⟩
          simp [ivs, hx]
        have HX := Lib.hid hx
        clear hx
        by_cases hbx : k9 < x
        · have hd : decide (k9 < x) = true := by simpa using hbx
          go_wp2_with fail
          go_ret
          exact ⟨rfl, B2.out⟩
        · have hd : decide (k9 < x) = false := by simpa using hbx
          go_wp2_with fail
          go_roundw
          case rel => exact ⟨i + 1, by go_num, by omega, by first | rfl | trivial, Lib.hid (fun j h h' => by
            rcases Nat.lt_succ_iff_lt_or_eq.1 h' with h1 | rfl
            · have := HP.out j h h1; have := HK9.out; omega
            · have := HX.out; have := HK9.out; omega)⟩
          case measure => simp [intOf]; omega
      · obtain rfl : i = nz := by omega
        have HZM := Lib.hid (show ∀ z ∈ zs, z ≤ 1099511627776 from fun z hz => by
          obtain ⟨j, hj, rfl⟩ := List.getElem_of_mem hz
          have := HP.out j hj (by rw [← HZL.out]; exact hj)
          have := HK9.out
          omega)
        clear HP hin HK9
        go_wp2_with fail
        go_at_call 9; (with_reducible refine (s_new_yes 100 w2 (by decide) (by decide)).mono ?_); rintro e w3 ⟨s, S, rfl, hsx, hS, hb3⟩
        have B3 := Lib.hid (below_step B2.out hb3 (Nat.le_refl _))
        have K3 := Lib.hid (K2.out.kept hb3)
        have C4 := Lib.hid (lend_rq A n c q w3 (HQ.out.below B3.out) (by omega))
        clear hsx hS hb3 hck K2
        have hck : ∀ i, w3.cell? ⟨W.heap.size, i, none⟩ = (rqC (.slice A n c) q)[i]? := K3.out.cell
        go_wp2_with fail
        go_at_call 17; (with_reducible refine C4.out.mono ?_); rintro e w4 ⟨g, cur, rfl, hg, hl, hb4⟩
        have B4 := Lib.hid (below_step B3.out hb4 (Nat.le_refl _))
        have hgW : W.heap.size + 1 ≤ g := Nat.le_trans (Nat.le_trans (K3.out.lt) (Nat.le_refl _)) hg
        have bl := (Below.refl w4.heap.size w4).alloc (Nat.le_refl _) (.cells (rqC (.slice (some ⟨g, 0, none⟩) n (n + 3)) q) 43)
        have B5 := Lib.hid (below_step B4.out bl (Nat.le_refl _))
        have K5 := Lib.hid ((K3.out.kept hb4).kept bl)
        have J5 := Lib.hid (Blk.new w4 43 (rqC (.slice (some ⟨g, 0, none⟩) n (n + 3)) q))
        have L5 := Lib.hid (hl.kept bl)
        have hg4 : g < w4.heap.size := hl.blk.lt
        clear hg hl hb4 bl hck C4 K3
        obtain ⟨w5, hw5⟩ : ∃ w5, w5 = w4.alloc (.cells (rqC (.slice (some ⟨g, 0, none⟩) n (n + 3)) q) 43) := ⟨_, rfl⟩
        have hs5 : w5.heap.size = w4.heap.size + 1 := by rw [hw5]; exact Array.size_push ..
        rw [← hw5] at B5 K5 J5 L5
        have HS5 := Lib.hid hs5
        clear hs5
        go_upto_region 14 with fail
        rw [← hw5]
        clear hw5
        have HZ5 := Lib.hid (HZ.out.below B5.out)
        have hiz : i ≤ 17592186043904 := by have := HNZ.out; omega
        go_wp2_with
          (first
            | (at_builtin; (refine wpList_append_any _ rfl _ _ _ rfl w5.heap.size 3 ii (.int .i64 0) 1 8 Tryz.underlying23 HI.out.1 HI.out.2.1 HI.out.2.2.1 HI.out.2.2.2 rfl (by omega) (.slice A1 i c1) i (ivs zs) rfl (own_alloc HO1.out _) (some ⟨w7.heap.size, 0, none⟩) 1 1 (fun e => by cases e) [.int .i64 77] rfl rfl (ints_new w7 _) (by intro u hu; simp at hu; subst hu; rfl) (by unfold maxLen; omega) (by have := HNZ.out; omega) (HB1.out.alloc HB1.out.size _).size ?_)
               intro v2 w8 hown hg8 hv8
               obtain ⟨A2, c2, rfl⟩ := own_form3 hown
               have HO2 := Lib.hid hown
               have HB2 := Lib.hid ((HB1.out.alloc HB1.out.size _).grown hg8 (HB1.out.alloc HB1.out.size _).size (fun kk e => (HO1.out.lt kk e).1))
               clear hown hg8 hv8)
            | (at_builtin; (refine wpList_append_any _ rfl _ _ _ rfl w5.heap.size 3 ii (.int .i64 0) 1 8 Tryz.underlying23 HI.out.1 HI.out.2.1 HI.out.2.2.1 HI.out.2.2.2 rfl (by omega) (.slice (some ⟨w5.heap.size, 0, none⟩) 0 (i + 2)) 0 [] rfl HOM.out Az i cz HA0.out (ivs zs) rfl (by rw [ivs_len, HZL.out, Nat.mul_one]) HZ6.out (ivs_one _) (by unfold maxLen; omega) (by have := HNZ.out; omega) HBM.out.size ?_)
               intro v1 w7 hown hg7 hv7
               rw [Nat.zero_add, List.nil_append] at hown
               obtain ⟨A1, c1, rfl⟩ := own_form3 hown
               have HO1 := Lib.hid hown
               have HB1 := Lib.hid (HBM.out.grown hg7 HBM.out.size (fun kk e => (HOM.out.lt kk e).1))
               clear hown hg7 hv7)
            | (at_make; (refine wpList_make_cells rfl _ _ _ rfl 3 ii (.int .i64 0) 8 Tryz.underlying23 HI.out.1 HI.out.2.1 HI.out.2.2.1 HI.out.2.2.2 0 (i + 2) rfl (by first | rfl | simp [Act.eval]) (Nat.zero_le _) (by have := HNZ.out; omega) (by omega) ?_)
               have HOM := Lib.hid (World.ownsRow_made (base := w5.heap.size) (e := 3) (size := 1) w5 (madeCells (Value.int .i64 0).cells (i + 2)) (i + 2) (Nat.le_refl _) (by unfold maxLen; omega) (by rw [size_madeCells, Nat.mul_one]))
               have HBM := Lib.hid ((Below.refl w5.heap.size w5).alloc (Nat.le_refl _) (.cells (madeCells (Value.int .i64 0).cells (i + 2)) 3))
               have HZ6 := Lib.hid (HZ5.out.below HBM.out)))
        rcases A2 with _ | ad2
        · have := ((own_cap HO2.out).2 rfl).1; omega
        obtain ⟨g2, rfl, hg2b, hg2l, -⟩ := own_addr HO2.out
        have hcap : i + 1 ≤ c2 := (own_cap HO2.out).1
        have B8 := Lib.hid (B5.out.trans (HB2.out.mono B5.out.size))
        have K8 := Lib.hid (K5.out.kept HB2.out)
        have J8 := Lib.hid (J5.out.kept HB2.out)
        have L8 := Lib.hid (L5.out.kept HB2.out)
        have hcj : ∀ i, w8.cell? ⟨w4.heap.size, i, none⟩ = (rqC (.slice (some ⟨g, 0, none⟩) n (n + 3)) q)[i]? := J8.out.cell
        have HC8 := Lib.hid (fun (X : World) (h : Below w8.heap.size w8 X) => CellsAt.below (own_cellsAt (own_len HO2.out)) h)
        have bq := Lib.hid (Below.refl w8.heap.size w8)
        have hzl9 := HZL.out
        have HNL := Lib.hid (needP_bd q zs (n := n) HQ.out.len)
        have hg5 : g < w5.heap.size := by have := HS5.out; omega
        clear HO1 HB1 HOM HBM HZ6 HZ5 HI L5 J5 K5 hzl9
        generalize hls : needP q zs = ls at *
        have HLS := Lib.hid hls
        clear hls
        go_region_with
            (go_at_call 18; (with_reducible refine (need_ls HLS.out (some ⟨s, 0, none⟩) (some ⟨g, 0, none⟩) (some ⟨g2, 0, none⟩) n (n + 3) i c2 _ HQ.out.len HZL.out (HC8.out _ (by first | exact bq.out | exact bq.out.drew | exact bq.out.drew.drew | exact bq.out.drew.drew.drew | exact bq.out.drew.drew.drew.drew | exact bq.out.drew.drew.drew.drew.drew | exact bq.out.drew.drew.drew.drew.drew.drew | exact bq.out.drew.drew.drew.drew.drew.drew.drew)) (by omega) HZM.out).mono ?_); rintro e w9 ⟨A10, c10, rfl, hown, hb9⟩
             have b0 := belowOfN hb9 (by first | exact bq.out | exact bq.out.drew | exact bq.out.drew.drew | exact bq.out.drew.drew.drew | exact bq.out.drew.drew.drew.drew | exact bq.out.drew.drew.drew.drew.drew | exact bq.out.drew.drew.drew.drew.drew.drew | exact bq.out.drew.drew.drew.drew.drew.drew.drew)
             have hb := Lib.hid (b0.trans (hb9.mono b0.size))
             have HL9 := Lib.hid (own_lower hown b0.size)
             clear hown hb9 b0
             have B9 := Lib.hid (B8.out.trans (hb.out.mono B8.out.size))
             have K9 := Lib.hid (K8.out.kept hb.out)
             have J9 := Lib.hid (J8.out.kept hb.out)
             have L9 := Lib.hid (L8.out.kept hb.out)
             have HO9 := Lib.hid (ownsRow_tur HO2.out (Tur.of_below (S := fun _ => False) hb.out) (fun _ _ h => h))
             have C9 := Lib.hid (kept_cells g cur A n c q.cs w9 HQ.out.len (HQ.out.below B9.out).rd L9.out (by omega))
             have hc7 : ∀ i, w9.cell? ⟨w4.heap.size, i, none⟩ = (rqC (.slice (some ⟨g, 0, none⟩) n (n + 3)) q)[i]? := J9.out.cell
             have hc6 : ∀ i, w9.cell? ⟨W.heap.size, i, none⟩ = (rqC (.slice A n c) q)[i]? := K9.out.cell
             clear hcj bq K8 J8 L8 HC8 HO2)
        go_wp2_with
          (first
            | (go_at_call 19; (with_reducible refine C9.out.mono ?_); rintro e wa ⟨rfl, ht⟩
               have Ba := Lib.hid (B9.out.trans (ht.below B9.out.size (fun k e => by subst e; omega)))
               have Ka := Lib.hid (K9.out.tur ht (by omega))
               have HOa := Lib.hid (ownsRow_tur HO9.out ht (fun kk e h => by have := (HO9.out.lt kk e).1; subst h; omega))
               have HLa := Lib.hid (ownsRow_tur HL9.out ht (fun kk e h => by have h1 := (HL9.out.lt kk e).1; have h2 := HB2.out.size; subst h; omega))
               have h77 : wa.cell? ⟨g2, i, none⟩ = some (.int .i64 77) := by
                 have := own_tail HOa.out
                 rwa [ivs_len, HZL.out] at this
               have Ca := Lib.hid (same_ints (some ⟨g2, 0, none⟩) Az i c2 cz zs wa HZL.out (own_cellsAt (own_len HOa.out)) (HZ.out.below Ba.out) hnm)
               clear ht hc6 hc7 C9 K9 J9 L9 HO9 HL9)
            | (go_at_call 20; (with_reducible refine Ca.out.mono ?_); rintro e wb ⟨rfl, hbb⟩
               have Bb := Lib.hid (below_step Ba.out hbb (Nat.le_refl _))
               have Kb := Lib.hid (Ka.out.kept hbb)
               have HLb := Lib.hid (ownsRow_tur HLa.out (Tur.of_below (S := fun _ => False) hbb) (fun _ _ h => h))
               have hc8 : ∀ i, wb.cell? ⟨W.heap.size, i, none⟩ = (rqC (.slice A n c) q)[i]? := Kb.out.cell
               have Cb := Lib.hid (rneed_any A Az n c i cz zs q wb HQ.out.len HZL.out (HZ.out.below Bb.out) (by omega) HZM.out)
               rw [HLS.out] at Cb
               clear hbb Ca h77 HLa HOa)
            | (go_at_call 22; (with_reducible refine Cb.out.mono ?_); rintro e wc ⟨A12, c12, rfl, hown, hbc⟩
               have Bc := Lib.hid (below_step Bb.out hbc (Nat.le_refl _))
               have HLc := Lib.hid (ownsRow_tur HLb.out (Tur.of_below (S := fun _ => False) hbc) (fun _ _ h => h))
               have Cc := Lib.hid (same_locks A10 A12 ls.length c10 c12 ls wc rfl (LocksOwn.lk HLc.out) (LocksOwn.lk hown) (by have := HNL.out; omega))
               clear hown hbc Cb hc8)
            | (go_at_call 21; (with_reducible refine Cc.out.mono ?_); rintro e wd ⟨rfl, hbd⟩
               have Bd := Lib.hid (below_step Bc.out hbd (Nat.le_refl _))
               clear hbd Cc))
        all_goals
          go_ret
          exact ⟨rfl, Bd.out⟩
end Go.Proofs.YtglbdbghcdoicaaGreatDoor
