/- CodecBook: the walk. -/
import Derived.Test.YteffpfgdoganpaaGreatDoorZBk
import Derived.Test.YteffpfgdoganpaaGreatDoorCGrown
namespace Go.Proofs.YteffpfgdoganpaaGreatDoor
open Go.RowKit
set_option maxRecDepth 100000
set_option maxHeartbeats 32000000

theorem requests_any (A D : Option Addr) (n c m d : Nat) (q : Rq) (ys : List Int) (W : World) (hT : W.cell? ⟨0, 0, none⟩ = some tyErr) (hq : RqA W A n q) (hn3 : n ≤ 300) (hm : ys.length = m) (hy : CellsAt W D (bvs ys)) (hw : Byt ys) (hm9 : m ≤ 20000) :
    Calls Tryz.prog 19 #[.agg (rqC (.slice A n c) q), .slice D m d] W fun e w' => e = .returned (.bool true) ∧ Below W.heap.size W w' := by
  have HT := Lh (fun (W9 : World) (h : Below W.heap.size W W9) => (h.cell (p := ⟨0, 0, none⟩) (World.block_lt_of_cell? W _ hT)).trans hT)
  have bo := (Below.refl W.heap.size W).alloc (Nat.le_refl _) (.cells (rqC (.slice A n c) q) 29)
  have B0 := Lh bo
  have K0 := Lh (Blk.new W 29 (rqC (.slice A n c) q))
  have Q0 := Lh (hq.below bo)
  have HY := Lh (fun (W9 : World) (h : Below W.heap.size W W9) => hy.below h)
  have HYL := Lh (show ∀ ad, D = some ad → 0 < m → ad.block < W.heap.size from fun ad e h0 => by
    subst e
    obtain ⟨ad', e, hlt, _⟩ := hy 0 (by rw [bvs_len, hm]; exact h0)
    cases e
    exact hlt)
  have HM := Lh hm
  have HW := Lh hw
  have hqc : ∀ i, (W.alloc (.cells (rqC (.slice A n c) q) 29)).cell? ⟨W.heap.size, i, none⟩ = (rqC (.slice A n c) q)[i]? := (Blk.new W 29 (rqC (.slice A n c) q)).cell
  clear hT hq hm hy hw bo
  go_enter Tryz.func19, Tryz.ntmps19
  go_wp2_with fail
  generalize W.alloc (.cells (rqC (.slice A n c) q) 29) = W0 at *
  go_at_call 16; (with_reducible refine (refenc_rq Q0.out c).mono ?_); rintro e w1 ⟨vb, rfl, hob, hb1⟩
  have B1 := Lh (below_step B0.out hb1 (Nat.le_refl _))
  have K1 := Lh (K0.out.kept hb1)
  have Q1 := Lh (Q0.out.below hb1)
  clear hqc Q0 K0
  by_cases h0 : checkRq q = 0
  · have H0 := Lh h0
    have E2 := Lh (encB_two h0)
    have EBY := Lh (encB_byt q)
    have HDE := Lh (show decRq (encB q) = (q, none) by
      have h := dec_enc_rq h0 []
      rw [if_pos rfl, List.append_nil] at h
      rw [encB_ok H0.out]
      exact h)
    rw [h0]
    obtain ⟨gb, cb, curb, rfl, _, _, hkb, _, htb⟩ := own_blk hob (by have := E2.out.1; omega)
    have hxb := blk_cells hkb htb
    have hbs : Hid (∀ W9, Below w1.heap.size w1 W9 → CellsAt W9 (some ⟨gb, 0, none⟩) (bvs (encB q))) := Lh (fun W9 h => hxb.below h)
    have CE := Lh (fun (W9 : World) (h : Below w1.heap.size w1 W9) => enc_rq (Q1.out.below h) c)
    have DEC := Lh (fun (A9 : Option Addr) (n9 c9 : Nat) (xs9 : List Int) (W9 : World) (h : Below W.heap.size W W9) (hl : xs9.length = n9) (hx : CellsAt W9 A9 (bvs xs9)) (hb : Byt xs9) (hn : n9 ≤ 100000) => decode_rq A9 n9 c9 xs9 W9 hl hx (byt_wf hb) (by omega) (HT.out _ h))
    clear hob h0 hxb hkb htb
    generalize hEX : encB q = EX at *
    obtain ⟨l, hl⟩ : ∃ l, l = EX.length := ⟨_, rfl⟩
    rw [← hl] at E2 ⊢
    have HL := Lh hl
    have HEX := Lh hEX
    have O0 := Lh (show (w1.alloc (.cells #[] 5)).ownsRow w1.heap.size 5 1 (.slice (some ⟨w1.heap.size, 0, none⟩) 0 0) 0 (bvs []) from own_cells_alloc w1)
    have BA := Lh ((Below.refl w1.heap.size w1).alloc (Nat.le_refl _) (.cells #[] 5))
    have hl9 : l ≤ 30000 := by have := E2.out.2; omega
    have hl2 : 2 ≤ l := E2.out.1
    clear hl hEX E2
    go_wp2_with (first
      | (at_builtin; refine wpList_append_bytes rfl _ _ rfl w1.heap.size _ 0 [] rfl O0.out (some ⟨gb, 0, none⟩) l cb (by intro h; cases h) EX rfl HL.out.symm (hbs.out _ BA.out) (by omega) (by simp) ?_
         intro v2 w2 hown hg hv
         have B2 := Lh (show Below w1.heap.size w1 w2 from below_grown BA.out hg (by intro g hg; cases hg; exact Nat.le_refl _) (by simp))
         obtain ⟨g1, c1, cur1, rfl, hg1, hc1, hk1, hs1, ht1⟩ := own_blk (xs := EX) (n := l) (by simpa [bvs] using hown) (by omega)
         have M2 := Lh hk1
         have T2 := Lh ht1
         have G2 := Lh hg1
         have C2 := Lh hc1
         have S2 := Lh hs1
         clear hown hg hv hk1 ht1 hg1 hc1 hs1)
      | fail)
    have Q2 := Lh (Q1.out.below B2.out)
    have K2 := Lh (K1.out.kept B2.out)
    have B3 := Lh (below_step B1.out B2.out (Nat.le_refl _))
    have G12 := Lh G2.out
    have BW1S := Lh B1.out.size
    have UP := Lh (fun (W9 : World) (h : Below w2.heap.size w2 W9) => show Below w1.heap.size w1 W9 from B2.out.trans (h.mono B2.out.size))
    have CE1 := CE
    have BW1 := Lh (fun (W9 : World) (h : Below w1.heap.size w1 W9) => B1.out.trans (h.mono B1.out.size))
    have KQ1 := Lh (fun (W9 : World) (h : Below w1.heap.size w1 W9) => (K1.out.kept h).cell)
    have QQ1 := Lh (fun (W9 : World) (h : Below w1.heap.size w1 W9) => Q1.out.below h)
    have SAME1 := Lh (fun (A9 : Option Addr) (n9 c9 : Nat) (W9 : World) (h : Below w1.heap.size w1 W9) (hl9 : q.cs.length = n9) (hr : CellsRd W9 A9 q.cs) (hb9 : n9 ≤ 9223372036854775807) => show Calls Tryz.prog 49 #[.agg (rqC (.slice A9 n9 c9) q), .agg (rqC (.slice A n c) q)] W9 fun e w' => e = .returned (.bool true) ∧ Below W9.heap.size W9 w' from by
      have hq9 := QQ1.out W9 h
      have := same_rq A9 A n9 n c9 c q q W9 hl9 hq9.len hr hq9.rd hb9 hq9.big
      rwa [same_self] at this)
    have CE := Lh (fun (W9 : World) (h : Below w2.heap.size w2 W9) => CE1.out W9 (UP.out W9 h))
    have CB := Lh (fun (W9 : World) (h : Below w2.heap.size w2 W9) => show ∀ c', (convert 22 9 (.slice (some ⟨gb, 0, none⟩) l c')).run Tryz.prog W9 = .ok (.string (strOfNums EX)) W9 from fun c' => conv_cells (hbs.out W9 (UP.out W9 h)) HL.out.symm c')
    have CM := Lh (fun (W9 : World) (h : Below w2.heap.size w2 W9) => blk_cells (M2.out.kept h) T2.out)
    have KQ := Lh (fun (W9 : World) (h : Below w2.heap.size w2 W9) => (K2.out.kept h).cell)
    have BW := Lh (fun (W9 : World) (h : Below w2.heap.size w2 W9) => BW1.out W9 (UP.out W9 h))
    have SAME := Lh (fun (A9 : Option Addr) (n9 c9 : Nat) (W9 : World) (h : Below w2.heap.size w2 W9) => SAME1.out A9 n9 c9 W9 (UP.out W9 h))
    clear Q1 K1 B1 K2 hbs O0 BA
    generalize hST : strOfNums EX = ST at *
    have HSTR := Lh hST
    clear hST
    go_loopw [7, 8, 10] (fun t7 t8 t10 wr => ∃ (i cC cB : Nat) (AC AB : Option Addr), t10 = .int .i64 (i : Int) ∧ i ≤ 4 ∧ t8 = .slice AC i cC ∧ t7 = .slice AB i cB ∧ Hid (∃ cl bl, BkS w2.heap.size 3 i cC cB AC AB cl bl w2 wr)) (fun _ _ t10 _ => 4 - (intOf t10).toNat)
    case atStart => exact ⟨0, 0, 0, none, none, rfl, by omega, rfl, rfl, Lh ⟨[], [], BkS.start _⟩⟩
    case round =>
      obtain ⟨i, cC, cB, AC, AB, rfl, hi, rfl, rfl, HP0⟩ := hrel
      rename World => wr
      by_cases hi4 : i < 4
      · obtain ⟨cl, bl, hP⟩ := HP0.out
        have HP := Lh hP
        have BR := Lh hP.below
        clear HP0 hP
        go_wp2_with fail
        go_at_call 8; (with_reducible refine (DEC.out (some ⟨g1, 0, none⟩) l c1 EX wr (BW.out _ BR.out) HL.out.symm (CM.out _ BR.out) EBY.out (by omega)).mono ?_); rintro e w3 hdq
        rw [HDE.out] at hdq
        obtain ⟨hb3, vx, rfl, hox⟩ := hdq
        dsimp only at hox ⊢
        obtain ⟨Ax, cx, rfl⟩ := own_form3 hox
        have bo3 := (Below.refl w3.heap.size w3).alloc (Nat.le_refl _) (.cells (rqC (.slice Ax q.cs.length cx) q) 29)
        have HB3 := Lh (below_step hb3 bo3 (Nat.le_refl _))
        have B4 := Lh (BR.out.trans (HB3.out.mono BR.out.size))
        have OX := Lh (hox.kept_ bo3)
        have KX := Lh (Blk.new w3 29 (rqC (.slice Ax q.cs.length cx) q))
        have hqc : ∀ j, (w3.alloc (.cells (rqC (.slice Ax q.cs.length cx) q) 29)).cell? ⟨W.heap.size, j, none⟩ = (rqC (.slice A n c) q)[j]? := KQ.out _ B4.out
        clear hb3 hox bo3
        go_wp2_with fail
        generalize hkx : w3.heap.size = kx at *
        generalize w3.alloc (.cells (rqC (.slice Ax q.cs.length cx) q) 29) = w4 at *
        clear hkx
        go_at_call 21; (with_reducible refine (CE.out _ B4.out).mono ?_); rintro e w5 ⟨Ac, rfl, hrc, hb5⟩
        rw [← HL.out] at hrc ⊢
        rw [H0.out]
        have B5 := Lh (B4.out.trans (hb5.mono B4.out.size))
        have HB5 := Lh hb5
        have RC := Lh hrc
        have OX5 := Lh (OX.out.kept_ hb5)
        have KX5 := Lh (KX.out.kept hb5)
        clear hqc hb5 hrc KX
        have hqc := KQ.out _ B5.out
        have hxc := KX5.out.cell
        have hrx := OX5.out.rd_
        have CS := Lh (SAME.out Ax _ cx _ B5.out rfl hrx.1 hrx.2)
        clear hrx
        go_wp2_with fail
        go_at_call 49; (with_reducible refine CS.out.mono ?_); rintro e w6 ⟨rfl, hb6⟩
        have B6 := Lh (B5.out.trans (hb6.mono B5.out.size))
        have HB6 := Lh (below_step HB5.out hb6 (Nat.le_refl _))
        have RC6 := Lh (RC.out.kept hb6)
        have KX6 := Lh (KX5.out.kept hb6)
        have cv1 := CB.out _ B6.out cb
        have cv2 := conv_cells RC6.out.cells HL.out.symm l
        rw [HSTR.out] at cv2
        have hx3 : w6.cell? ⟨kx, 3, none⟩ = some (.slice Ax q.cs.length cx) := KX6.out.cell 3
        clear hb6 hqc hxc CS KX5 OX5
        obtain ⟨iC, hiC, hC0, hC1, hC2⟩ := info_parts info_slCells
        obtain ⟨iB, hiB, hB0, hB1, hB2⟩ := info_parts info_slBytes
        have hn9 : q.cs.length ≤ 1000000 := by have := Q2.out.len; omega
        have HN9 := Lh hn9
        have b7 : Below w6.heap.size w6 (w6.alloc (.cells #[.slice Ax q.cs.length cx] 25)) := (Below.refl _ _).alloc (Nat.le_refl _) _
        have HB7 := Lh b7
        have HOC := Lh (show OwG (w6.alloc (.cells #[.slice Ax q.cs.length cx] 25)) w2.heap.size 1 (.slice AC i cC) i (cl.map Pg.v) from ((HP.out.rowC.below HB3.out).below HB6.out).below b7)
        have HCC := Lh (show CellsAt (w6.alloc (.cells #[.slice Ax q.cs.length cx] 25)) (some ⟨w6.heap.size, 0, none⟩) [.slice Ax q.cs.length cx] from alloc_cells w6 _ [_])
        have HLC := Lh (show w2.heap.size ≤ (w6.alloc (.cells #[.slice Ax q.cs.length cx] 25)).heap.size from Nat.le_trans B6.out.size b7.size)
        clear b7 hn9
        go_wp2_with (first
          | (at_builtin; refine wpList_append_keepG rfl _ _ _ rfl _ iC _ 1 24 Tryz.underlying117 hiC hC0 hC1 hC2 rfl (by decide) w2.heap.size (.slice AC i cC) i (cl.map Pg.v) rfl HOC.out ⟨w6.heap.size, 0, none⟩ 1 1 [.slice Ax q.cs.length cx] rfl rfl HCC.out (by intro u hu; rw [List.mem_singleton] at hu; subst hu; rfl) (by unfold maxLen; omega) (by omega) HLC.out ?_
             intro v7 w7 hold hnew hg hv
             obtain ⟨A7, c7, hv7, _⟩ := hnew.form
             subst hv7
             have T1 := Lh (HP.out.step1 (v1 := .slice Ax q.cs.length cx) (v2 := .slice Ac l l) HB3.out (OwG.of OX.out) HB6.out RC6.out.owg HB7.out hnew hg (grown_kind hv))
             have HOB := Lh (show OwG (w7.alloc (.cells #[.slice Ac l l] 22)) w2.heap.size 1 (.slice AB i cB) i (bl.map Pg.v) from (show OwG w7 w2.heap.size 1 (.slice AB i cB) i (bl.map Pg.v) from T1.out.1.at 0 (by simp)).below ((Below.refl _ _).alloc (Nat.le_refl _) _))
             have HCB := Lh (show CellsAt (w7.alloc (.cells #[.slice Ac l l] 22)) (some ⟨w7.heap.size, 0, none⟩) [.slice Ac l l] from alloc_cells w7 _ [_])
             have HLB := Lh (show w2.heap.size ≤ (w7.alloc (.cells #[.slice Ac l l] 22)).heap.size from Nat.le_trans (Nat.le_trans HLC.out hg.size) ((Below.refl w7.heap.size w7).alloc (Nat.le_refl _) _).size)
             clear hold hnew hg hv hx3 cv1 cv2)
          | (at_builtin; refine wpList_append_keepG rfl _ _ _ rfl _ iB _ 1 24 Tryz.underlying116 hiB hB0 hB1 hB2 rfl (by decide) w2.heap.size (.slice AB i cB) i (bl.map Pg.v) rfl HOB.out ⟨w7.heap.size, 0, none⟩ 1 1 [.slice Ac l l] rfl rfl HCB.out (by intro u hu; rw [List.mem_singleton] at hu; subst hu; rfl) (by unfold maxLen; omega) (by omega) HLB.out ?_
             intro v9 w9 hold hnew hg hv
             obtain ⟨A9, c9, hv9, _⟩ := hnew.form
             subst hv9
             have T2 := Lh (HP.out.step2 T1.out HN9.out (by omega) ((Below.refl w7.heap.size w7).alloc (Nat.le_refl _) (.cells #[.slice Ac l l] 22)) hnew hg (grown_kind hv))
             clear hold hnew hg hv)
          | fail)
        go_roundw
        case rel => exact ⟨i + 1, c7, c9, A7, A9, by go_num, by omega, rfl, rfl, Lh ⟨_, _, T2.out⟩⟩
        case measure => simp [intOf]; omega
      · obtain rfl : i = 4 := by omega
        obtain ⟨cl, bl, hP⟩ := HP0.out
        have HP := Lh hP
        have HNC := Lh (show AC = none → cC = 0 from fun e => by
          obtain ⟨A9, c9, e1, _, e2⟩ := hP.rowC.form
          injection e1 with e3 _ e4
          subst e3
          rw [e4]
          exact e2 e)
        clear HP0 hP hi4 hi
        go_wp2_with fail
        go_at_call 50; (with_reducible refine (grownCells_any w2.heap.size 4 cC AC cl wr HP.out.cells (fun p hp => (HP.out.one p (List.mem_append_left _ hp)).1) HP.out.clen HP.out.lo_ (fun p hp => (HP.out.one p (List.mem_append_left _ hp)).2) (by decide) HNC.out).mono ?_); rintro e w3 ⟨rfl, ht3⟩
        have S3 := Lh (HP.out.bytes ht3)
        have L3 := Lh (Nat.le_trans HP.out.lo_ ht3.size)
        have ONE := Lh HP.out.one
        have BLN := Lh HP.out.blen
        clear ht3 HP HNC
        have HNB := Lh (show AB = none → cB = 0 from fun e => by
          obtain ⟨A9, c9, e1, _, e2⟩ := (show OwG w3 w2.heap.size 1 (.slice AB 4 cB) 4 (bl.map Pg.v) from S3.out.1.at 0 (by simp)).form
          injection e1 with e3 _ e4
          subst e3
          rw [e4]
          exact e2 e)
        go_wp2_with fail
        go_at_call 51; (with_reducible refine (grownBytes_any w2.heap.size 4 cB AB bl w3 S3.out.1 (fun p hp => (ONE.out p (List.mem_append_right _ hp)).1) BLN.out L3.out (fun p hp => (ONE.out p (List.mem_append_right _ hp)).2) (by decide) HNB.out).mono ?_); rintro e w4 ⟨rfl, ht4⟩
        have B4 := Lh (show Below w2.heap.size w2 w4 from S3.out.2.trans (ht4.below L3.out (vB_low S3.out.1)))
        clear ht4 S3 L3 ONE BLN HNB
        go_wp2_with fail
        go_at_call 8; (with_reducible refine (DEC.out (some ⟨g1, 0, none⟩) l c1 EX w4 (BW.out _ B4.out) HL.out.symm (CM.out _ B4.out) EBY.out (by omega)).mono ?_); rintro e w5 hdq
        rw [HDE.out] at hdq
        obtain ⟨hb5, vx, rfl, hox⟩ := hdq
        dsimp only at hox ⊢
        obtain ⟨Ax, cx, rfl⟩ := own_form3 hox
        have bo5 := (Below.refl w5.heap.size w5).alloc (Nat.le_refl _) (.cells (rqC (.slice Ax q.cs.length cx) q) 29)
        have HB5 := Lh (below_step hb5 bo5 (Nat.le_refl _))
        have B6 := Lh (B4.out.trans (HB5.out.mono B4.out.size))
        have OX := Lh (hox.kept_ bo5)
        have KX := Lh (Blk.new w5 29 (rqC (.slice Ax q.cs.length cx) q))
        have HLX := Lh (Nat.le_trans B4.out.size hb5.size)
        have hqc : ∀ j, (w5.alloc (.cells (rqC (.slice Ax q.cs.length cx) q) 29)).cell? ⟨W.heap.size, j, none⟩ = (rqC (.slice A n c) q)[j]? := KQ.out _ B6.out
        clear hb5 hox bo5
        go_wp2_with fail
        generalize hkx : w5.heap.size = kx at *
        generalize w5.alloc (.cells (rqC (.slice Ax q.cs.length cx) q) 29) = w6 at *
        clear hkx
        go_at_call 21; (with_reducible refine (CE.out _ B6.out).mono ?_); rintro e w7 ⟨Ac, rfl, hrc, hb7⟩
        rw [← HL.out] at hrc ⊢
        rw [H0.out]
        have B7 := Lh (B6.out.trans (hb7.mono B6.out.size))
        have RC := Lh hrc
        have OX7 := Lh (OX.out.kept_ hb7)
        have KX7 := Lh (KX.out.kept hb7)
        clear hqc hb7 hrc KX OX HB5
        have hqc := KQ.out _ B7.out
        have hxc := KX7.out.cell
        have hrx := OX7.out.rd_
        have CS := Lh (SAME.out Ax _ cx _ B7.out rfl hrx.1 hrx.2)
        clear hrx
        go_wp2_with fail
        go_at_call 49; (with_reducible refine CS.out.mono ?_); rintro e w8 ⟨rfl, hb8⟩
        have B8 := Lh (B7.out.trans (hb8.mono B7.out.size))
        have RC8 := Lh (RC.out.kept hb8)
        have KX8 := Lh (KX7.out.kept hb8)
        have OX8 := Lh (OX7.out.kept_ hb8)
        have cv1 := CB.out _ B8.out cb
        have cv2 := conv_cells RC8.out.cells HL.out.symm l
        have cv3 := conv_cells (CM.out _ B8.out) HL.out.symm c1
        rw [HSTR.out] at cv2 cv3
        have M8 := Lh (M2.out.kept B8.out)
        have HG2 := Lh (show g1 < w2.heap.size from M2.out.lt)
        clear hb8 hqc hxc CS KX7 OX7 RC RC8
        go_wp2_with fail
        go_at_call 52; (with_reducible refine (laid_any g1 c1 l cur1 EX D m d ys w8 M8.out T2.out HL.out.symm (by rw [S2.out]; exact C2.out) EBY.out (HY.out _ (BW.out _ B8.out)) HM.out HW.out (fun ad e h9 => by have := HYL.out ad e h9; have := G12.out; have := BW1S.out; omega) (by omega) hm9).mono ?_); rintro e w9 ⟨rfl, cur2, xs, hm2, hs2, ht2, hxl, hxb, htu⟩
        have B9 := Lh (show Below w1.heap.size w1 w9 from (UP.out _ B8.out).trans (htu.below (UP.out _ B8.out).size (fun k e => by subst e; exact G12.out)))
        have KX9 := Lh (KX8.out.tur htu (by have := HLX.out; have := HG2.out; omega))
        have OX9 := Lh (show CellsOwn w9 w4.heap.size (.slice Ax q.cs.length cx) q.cs from ownsRow_tur OX8.out htu (fun k e hs => by have h1 := (OX8.out.lt k e).1; have := B4.out.size; have := HG2.out; omega))
        have M9 := Lh hm2
        have T9 := Lh ht2
        have XL := Lh hxl
        have XB := Lh hxb
        clear hm2 hs2 ht2 hxl hxb htu cv1 cv2 cv3 KX8 OX8 M8 B8 B7 B6 B4 CM T2 M2 S2 C2 CB CE KQ BW SAME UP HSTR
        have O9 := Lh (show (w9.alloc (.cells #[] 5)).ownsRow w9.heap.size 5 1 (.slice (some ⟨w9.heap.size, 0, none⟩) 0 0) 0 (bvs []) from own_cells_alloc w9)
        have BA := Lh ((Below.refl w9.heap.size w9).alloc (Nat.le_refl _) (.cells #[] 5))
        have HX9 := Lh (blk_cells (M9.out.kept BA.out) T9.out)
        go_wp2_with (first
          | (at_builtin; refine wpList_append_bytes rfl _ _ rfl w9.heap.size _ 0 [] rfl O9.out (some ⟨g1, 0, none⟩) l c1 (by intro h; cases h) xs rfl XL.out HX9.out (by omega) (by simp) ?_
             intro va wa hown hg hv
             have Ba0 := Lh (show Below w9.heap.size w9 wa from below_grown BA.out hg (by intro g hg; cases hg; exact Nat.le_refl _) (by simp))
             obtain ⟨g3, c3, cur3, rfl, hg3, hc3, hk3, hs3, ht3⟩ := own_blk (xs := xs) (n := l) (by simpa [bvs] using hown) (by omega)
             have Wa := Lh hk3
             have Ta := Lh ht3
             have Ca := Lh hc3
             clear hown hg hv hk3 ht3 hg3 hc3 hs3)
          | fail)
        have Ba := Lh (B9.out.trans (Ba0.out.mono B9.out.size))
        have KXa := Lh (KX9.out.kept Ba0.out)
        have OXa := Lh (OX9.out.kept_ Ba0.out)
        have Ma := Lh (M9.out.kept Ba0.out)
        clear KX9 OX9 M9 O9 BA HX9 Ba0 B9
        go_at_call 8; (with_reducible refine (DEC.out (some ⟨g1, 0, none⟩) l c1 xs wa (BW1.out _ Ba.out) XL.out (blk_cells Ma.out T9.out) XB.out (by omega)).mono ?_); rintro e wb hdq
        obtain ⟨vy, ey, rfl, hoy, hfy, hbb⟩ := DecQ.open_ hdq
        obtain ⟨Ay, cy, rfl⟩ := own_form3 hoy
        have bob := (Below.refl wb.heap.size wb).alloc (Nat.le_refl _) (.cells (rqC (.slice Ay (decRq xs).1.cs.length cy) (decRq xs).1) 29)
        have HBc := below_step hbb bob (Nat.le_refl _)
        have Bc := Lh (Ba.out.trans (HBc.mono Ba.out.size))
        have KXc := Lh (KXa.out.kept HBc)
        have OXc := Lh (OXa.out.kept_ HBc)
        have Wc := Lh (Wa.out.kept HBc)
        have KYc := Lh (Blk.new wb 29 (rqC (.slice Ay (decRq xs).1.cs.length cy) (decRq xs).1))
        have OYc := Lh (hoy.kept_ bob)
        have FYc := Lh (hfy.kept bob)
        clear hdq hoy hfy hbb bob HBc Ba KXa OXa Wa Ma
        generalize hyq : decRq xs = yq at *
        have HYQ := Lh hyq
        clear hyq
        go_wp2_with fail
        generalize hky : wb.heap.size = ky at *
        generalize wb.alloc (.cells (rqC (.slice Ay yq.1.cs.length cy) yq.1) 29) = wc at *
        clear hky
        go_at_call 11; (with_reducible refine (doc_rq (some ⟨g3, 0, none⟩) l c3 xs wc XL.out (blk_cells Wc.out Ta.out) (byt_wf XB.out) (by omega) Ca.out).mono ?_); rintro e wd hdd
        obtain ⟨vz, rfl, hoz, hbd⟩ := DocQ.open_ hdd
        rw [HYQ.out] at hoz ⊢
        obtain ⟨Az, cz, rfl⟩ := own_form3 hoz
        have bod := (Below.refl wd.heap.size wd).alloc (Nat.le_refl _) (.cells (rqC (.slice Az yq.1.cs.length cz) yq.1) 29)
        have HBe := below_step hbd bod (Nat.le_refl _)
        have Be := Lh (Bc.out.trans (HBe.mono Bc.out.size))
        have KXe := Lh (KXc.out.kept HBe)
        have OXe := Lh (OXc.out.kept_ HBe)
        have KYe := Lh (KYc.out.kept HBe)
        have OYe := Lh (OYc.out.kept_ HBe)
        have FYe := Lh (FYc.out.kept HBe)
        have KZe := Lh (Blk.new wd 29 (rqC (.slice Az yq.1.cs.length cz) yq.1))
        have OZe := Lh (hoz.kept_ bod)
        clear hdd hoz hbd bod HBe Bc KXc OXc KYc OYc FYc Wc
        go_wp2_with fail
        generalize hkz : wd.heap.size = kz at *
        generalize wd.alloc (.cells (rqC (.slice Az yq.1.cs.length cz) yq.1) 29) = we at *
        clear hkz
        go_at_call 13; (with_reducible refine (fault_any FYe.out (HT.out _ (BW1.out _ Be.out))).mono ?_); rintro e wf ⟨rfl, hbf⟩
        have Bf := Lh (Be.out.trans (hbf.mono Be.out.size))
        have KXf := Lh (KXe.out.kept hbf)
        have OXf := Lh (OXe.out.kept_ hbf)
        have hyc := (KYe.out.kept hbf).cell
        have hzc := (KZe.out.kept hbf).cell
        have hry := (OYe.out.kept_ hbf).rd_
        have hrz := (OZe.out.kept_ hbf).rd_
        have CS := Lh (show Calls Tryz.prog 49 #[.agg (rqC (.slice Ay yq.1.cs.length cy) yq.1), .agg (rqC (.slice Az yq.1.cs.length cz) yq.1)] wf fun e w' => e = .returned (.bool true) ∧ Below wf.heap.size wf w' from by
          have := same_rq Ay Az _ _ cy cz yq.1 yq.1 wf rfl rfl hry.1 hrz.1 hry.2 hrz.2
          rwa [same_self] at this)
        clear hbf hry hrz Be KXe OXe KYe OYe FYe KZe OZe
        go_wp2_with fail
        go_at_call 49; (with_reducible refine CS.out.mono ?_); rintro e wg ⟨rfl, hbg⟩
        have Bg := Lh (Bf.out.trans (hbg.mono Bf.out.size))
        have hxc := (KXf.out.kept hbg).cell
        have hrx := (OXf.out.kept_ hbg).rd_
        have CS := Lh (SAME1.out Ax _ cx _ Bg.out rfl hrx.1 hrx.2)
        clear hbg hyc hzc hrx Bf KXf OXf
        have hqc := KQ1.out _ Bg.out
        go_wp2_with fail
        go_at_call 49; (with_reducible refine CS.out.mono ?_); rintro e wh ⟨rfl, hbh⟩
        have Bh := Lh (Bg.out.trans (hbh.mono Bg.out.size))
        clear hbh hxc hqc Bg CS
        have hq3 : wh.cell? ⟨W.heap.size, 3, none⟩ = some (.slice A n c) := KQ1.out _ Bh.out 3
        by_cases hn0 : n = 0
        · subst hn0
          go_wp2
          go_ret
          exact ⟨rfl, BW1.out _ Bh.out⟩
        · have hsome : ∃ ad, A = some ad := by
            have hq9 := QQ1.out _ Bh.out
            obtain ⟨ad, e, _⟩ := hq9.rd 0 (by have := hq9.len; omega)
            exact ⟨ad, e⟩
          obtain ⟨ad, rfl⟩ := hsome
          obtain ⟨y1, tl, hyt⟩ : ∃ y1 tl, q.cs = y1 :: tl := by
            have hq9 := QQ1.out _ Bh.out
            rcases hc9 : q.cs with _ | ⟨y1, tl⟩
            · have := hq9.len; rw [hc9] at this; simp at this; omega
            · exact ⟨y1, tl, rfl⟩
          have HYT := Lh hyt
          have OL := Lh (own_empty wh 27 3)
          have hbl : Below wh.heap.size wh (wh.alloc (.cells #[] 27)) := (Below.refl _ _).alloc (Nat.le_refl _) _
          have BL := Lh (Bh.out.trans (hbl.mono Bh.out.size))
          have HBL := Lh hbl
          have hq4 : (wh.alloc (.cells #[] 27)).cell? ⟨W.heap.size, 3, none⟩ = some (.slice (some ad) n c) := KQ1.out _ BL.out 3
          have HCQ := Lh (rdCells_at (QQ1.out _ BL.out).rd)
          have HLN := Lh (QQ1.out _ BL.out).len
          obtain ⟨iE, zE, hiE, hE0, hE1, hE2, hE3⟩ := infoECells
          clear hyt hbl
          go_wp2_with (first
            | (at_builtin; refine wpList_append_keepG rfl _ _ _ rfl _ iE zE 3 32 Tryz.underlying25 hiE hE0 hE1 hE2 hE3 (by decide) wh.heap.size (.slice (some ⟨wh.heap.size, 0, none⟩) 0 0) 0 [] rfl OL.out ad n c (cellCs q.cs) rfl (by rw [cellCs_len2, HLN.out]) HCQ.out (cellCs_one_ _) (by unfold maxLen; omega) (by omega) (by simp) ?_
               intro vi wi hold hnew hg hv
               have hnew : OwG wi wh.heap.size 3 vi n (cellCs q.cs) := (by simpa using hnew)
               have hBi := (show Below wh.heap.size wh wi from below_grown HBL.out hg (by intro g hg; cases hg; exact Nat.le_refl _) (by simp))
               obtain ⟨gL, cL, hvL, hcL⟩ := hnew.some_ (by omega)
               subst hvL
               have Bi := Lh (Bh.out.trans (hBi.mono Bh.out.size))
               have OI := Lh hnew
               have HGL := Lh (hnew.lt gL rfl)
               have hqi := KQ1.out _ Bi.out
               clear hold hnew hg hv hBi hq4 hq3)
            | fail)
          have hbp := (Below.refl wi.heap.size wi).alloc (Nat.le_refl _) (.cells (rqC (.slice (some ⟨gL, 0, none⟩) n cL) q) 29)
          have Bp := Lh (Bi.out.trans (hbp.mono Bi.out.size))
          have KP := Lh (Blk.new wi 29 (rqC (.slice (some ⟨gL, 0, none⟩) n cL) q))
          have OP := Lh (OI.out.below hbp)
          have HNE := Lh (show gL < wi.heap.size from HGL.out.2)
          have HWL := Lh Bi.out.size
          clear hbp hqi Bi OI
          generalize hkp : wi.heap.size = kp at *
          generalize wi.alloc (.cells (rqC (.slice (some ⟨gL, 0, none⟩) n cL) q) 29) = wp at *
          clear hkp
          have HQB := Lh (QQ1.out _ Bh.out)
          have RQP := Lh (fun (W9 : World) (h : Below wp.heap.size wp W9) => show RqA W9 (some ⟨gL, 0, none⟩) n q from ⟨HQB.out.len, owgCells_rd (OP.out.below h), HQB.out.big, HQB.out.ok⟩)
          go_at_call 21; (with_reducible refine (enc_rq (RQP.out _ (Below.refl _ _)) cL).mono ?_); rintro e wj ⟨Ac9, rfl, _, hbj⟩
          have Bj := Lh (Bp.out.trans (hbj.mono Bp.out.size))
          have KJ := Lh (KP.out.kept hbj)
          have OJ := Lh (OP.out.below hbj)
          have RJ := Lh (RQP.out _ hbj)
          have hpc := KJ.out.cell
          clear hbj KP OP Bp
          go_wp2_with fail
          go_at_call 28; (with_reducible refine (check_rq (some ⟨gL, 0, none⟩) n cL q wj RJ.out.len RJ.out.rd RJ.out.big RJ.out.ok).mono ?_); rintro e wk ⟨rfl, hbk⟩
          have Bk := Lh (Bj.out.trans (hbk.mono Bj.out.size))
          have KK := Lh (KJ.out.kept hbk)
          have OK := Lh (OJ.out.below hbk)
          clear hpc hbk KJ OJ RJ Bj RQP
          have hrm := OK.out.room3 (by decide) 0 (by omega)
          obtain ⟨u0, d0⟩ : ∃ u, wk.cell? ⟨gL, 0, none⟩ = some u := Option.isSome_iff_exists.1 (by have h := (hrm 0 (by decide)).1; simpa using h)
          have f0 : wk.frozen? ⟨gL, 0, none⟩ = false := by have h := (hrm 0 (by decide)).2; simpa using h
          obtain ⟨u1, d1⟩ : ∃ u, wk.cell? ⟨gL, 1, none⟩ = some u := Option.isSome_iff_exists.1 (by have h := (hrm 1 (by decide)).1; simpa using h)
          have f1 : wk.frozen? ⟨gL, 1, none⟩ = false := by have h := (hrm 1 (by decide)).2; simpa using h
          obtain ⟨u2, d2⟩ : ∃ u, wk.cell? ⟨gL, 2, none⟩ = some u := Option.isSome_iff_exists.1 (by have h := (hrm 2 (by decide)).1; simpa using h)
          have f2 : wk.frozen? ⟨gL, 2, none⟩ = false := by have h := (hrm 2 (by decide)).2; simpa using h
          have hne : kp ≠ gL := by have := HNE.out; omega
          have hne2 : gL ≠ kp := by have := HNE.out; omega
          have hpc := KK.out.cell
          have HN := Lh (show OwG ((World.setCell (World.setCell (World.setCell wk ⟨gL, 0, none⟩ (.int .i64 2)) ⟨gL, 1, none⟩ (.string ⟨#[111, 116, 104, 101, 114]⟩)) ⟨gL, 2, none⟩ (.int .i64 7))) wh.heap.size 3 (.slice (some ⟨gL, 0, none⟩) n cL) n (cellCs ((⟨2, ⟨#[111, 116, 104, 101, 114]⟩, 7⟩ : CellV) :: tl)) from by
            have h := OK.out.setE 0 (by omega) ((⟨2, ⟨#[111, 116, 104, 101, 114]⟩, 7⟩ : CellV)).cells rfl
            rw [HYT.out] at h
            exact h)
          have htu : Tur (· = gL) wk ((World.setCell (World.setCell (World.setCell wk ⟨gL, 0, none⟩ (.int .i64 2)) ⟨gL, 1, none⟩ (.string ⟨#[111, 116, 104, 101, 114]⟩)) ⟨gL, 2, none⟩ (.int .i64 7))) := Tur.of_grown (setCells_grown gL ((⟨2, ⟨#[111, 116, 104, 101, 114]⟩, 7⟩ : CellV)).cells (0 * 3) wk) (fun k e => by cases e; rfl)
          have KL := Lh (KK.out.tur htu hne)
          have Bl := Lh (show Below w1.heap.size w1 ((World.setCell (World.setCell (World.setCell wk ⟨gL, 0, none⟩ (.int .i64 2)) ⟨gL, 1, none⟩ (.string ⟨#[111, 116, 104, 101, 114]⟩)) ⟨gL, 2, none⟩ (.int .i64 7))) from Bk.out.trans (htu.below Bk.out.size (fun k e => by subst e; have := HGL.out.1; have := Bh.out.size; omega)))
          clear hrm htu KK OK Bk
          go_wp2_with fail
          generalize (World.setCell (World.setCell (World.setCell wk ⟨gL, 0, none⟩ (.int .i64 2)) ⟨gL, 1, none⟩ (.string ⟨#[111, 116, 104, 101, 114]⟩)) ⟨gL, 2, none⟩ (.int .i64 7)) = wl at *
          clear hpc hne hne2 d0 f0 d1 f1 d2 f2
          obtain ⟨q2, hq2⟩ : ∃ q2 : Rq, q2 = ⟨q.kind, q.id, q.epoch, (⟨2, ⟨#[111, 116, 104, 101, 114]⟩, 7⟩ : CellV) :: tl, q.frm, q.too, q.limit⟩ := ⟨_, rfl⟩
          have HQ2 := Lh hq2
          have RQ2 := Lh (fun (W9 : World) (h : Below wl.heap.size wl W9) => show RqA W9 (some ⟨gL, 0, none⟩) n q2 from by
            have ho := HN.out.below h
            rw [hq2]
            have hlen := HQB.out.len
            rw [HYT.out] at hlen
            refine ⟨by simpa using hlen, owgCells_rd ho, HQB.out.big, ?_⟩
            have hok := HQB.out.ok
            refine ⟨fun x hx => ?_, hok.frm, hok.too⟩
            rcases List.mem_cons.1 hx with rfl | hx
            · decide
            · exact hok.cs x (by rw [HYT.out]; exact List.mem_cons_of_mem _ hx))
          have C1 := Lh (fun (W9 : World) (h : Below wl.heap.size wl W9) => show Calls Tryz.prog 21 #[.agg (rqC (.slice (some ⟨gL, 0, none⟩) n cL) q)] W9 (EncA W9 (encB q2) (checkRq q2)) from by
            have h9 := enc_rq (RQ2.out _ h) cL
            rw [hq2] at h9 ⊢
            exact h9)
          have C2 := Lh (fun (W9 : World) (h : Below wl.heap.size wl W9) => show Calls Tryz.prog 16 #[.agg (rqC (.slice (some ⟨gL, 0, none⟩) n cL) q)] W9 (RefA W9 (encB q2) (checkRq q2)) from by
            have h9 := refenc_rq (RQ2.out _ h) cL
            rw [hq2] at h9 ⊢
            exact h9)
          have C3 := Lh (fun (W9 : World) (h : Below wl.heap.size wl W9) => show Calls Tryz.prog 28 #[.agg (rqC (.slice (some ⟨gL, 0, none⟩) n cL) q)] W9 fun e w' => e = .returned (.int .i64 (checkRq q2)) ∧ Below W9.heap.size W9 w' from by
            have hr := RQ2.out _ h
            have h9 := check_rq (some ⟨gL, 0, none⟩) n cL q2 W9 hr.len hr.rd hr.big hr.ok
            rw [hq2] at h9 ⊢
            exact h9)
          have C4 := Lh (fun (W9 : World) (h : Below wl.heap.size wl W9) => show Calls Tryz.prog 40 #[.agg (rqC (.slice (some ⟨gL, 0, none⟩) n cL) q)] W9 fun e w' => e = .returned (.int .i64 (checkRq q2)) ∧ Below W9.heap.size W9 w' from by
            have hr := RQ2.out _ h
            have h9 := rcheck_rq (some ⟨gL, 0, none⟩) n cL q2 W9 hr.len hr.rd hr.big hr.ok
            rw [hq2] at h9 ⊢
            exact h9)
          have L1 := Lh (fun (W9 : World) (h : Below wl.heap.size wl W9) => show W9.cell? ⟨gL, 1, none⟩ = some (.string ⟨#[111, 116, 104, 101, 114]⟩) from by
            obtain ⟨ad', e, _, hc⟩ := ((HN.out.below h).at rfl) 1 (by rw [cellCs_len2]; simp; omega)
            cases e
            exact hc)
          clear hq2 RQ2 HN
          generalize encB q2 = E2 at *
          generalize checkRq q2 = k2 at *
          obtain ⟨l2, hl2⟩ : ∃ l2, l2 = E2.length := ⟨_, rfl⟩
          have HL2 := Lh hl2
          go_at_call 21; (with_reducible refine (C1.out _ (Below.refl _ _)).mono ?_); rintro e wm ⟨Am, rfl, hrm, hbm⟩
          rw [← hl2] at hrm ⊢
          have HBM := Lh hbm
          have RM := Lh hrm
          have hpc := (KL.out.kept hbm).cell
          clear hbm hrm hl2
          go_wp2_with fail
          go_at_call 16; (with_reducible refine (C2.out _ HBM.out).mono ?_); rintro e wn ⟨vw, rfl, how, hbn⟩
          obtain ⟨Aw, cw, rfl, hcw, _⟩ := own_cells how
          have HBN := Lh (HBM.out.trans (hbn.mono HBM.out.size))
          have RN := Lh (RM.out.kept hbn)
          have HCW := Lh hcw
          have hpc9 := (KL.out.kept HBN.out).cell
          have hkp9 : kp < wn.heap.size := (KL.out.kept HBN.out).lt
          have hgl9 : gL < wn.heap.size := by have := HNE.out; omega
          have hnp : 0 < n := by omega
          have hl1 := L1.out _ HBN.out
          rw [← HL2.out] at how ⊢
          clear hpc hbn how hcw RM HBM
          obtain ⟨S2, hS2⟩ : ∃ S2, S2 = strOfNums E2 := ⟨_, rfl⟩
          have HS2 := Lh hS2
          have CVA := Lh (fun (W9 : World) (h : Below wn.heap.size wn W9) => show (convert 22 9 (.slice Am l2 l2)).run Tryz.prog W9 = .ok (.string S2) W9 from by rw [HS2.out]; exact conv_cells (RN.out.kept h).cells HL2.out.symm l2)
          have CVB := Lh (fun (W9 : World) (h : Below wn.heap.size wn W9) => show (convert 22 9 (.slice Aw l2 cw)).run Tryz.prog W9 = .ok (.string S2) W9 from by rw [HS2.out]; exact conv_cells (HCW.out.below h) HL2.out.symm cw)
          clear hS2 RN HCW
          go_wp2
          refine wp_region_heldq (B := wn.heap.size) (w1 := wn) (by kernel_rfl) (by kernel_rfl) (Held.of (Below.refl _ _).drew (Nat.le_refl _)) ?_
          repeat
            (with_reducible refine wpQuiet_step (fun K hK => ?_))
            first
              | ((with_reducible refine ite_pos_ ?_ ?_); (focus (go_simp; done)); apply Exists.intro; refine ⟨fun wz hzC => ?_, hK _ ?_⟩; (have hz := HeldC.out hzC; clear hzC; unfold Oper.quietAt; go_simp; (first | done | (first | (go_at_call 28; (with_reducible refine (C3.out _ (HBN.out.trans (hz.2.2.2.mono HBN.out.size))).mono ?_); rintro e w' ⟨rfl, hb⟩; exact ⟨rfl, HeldC.step hz hb⟩) | (go_at_call 40; (with_reducible refine (C4.out _ (HBN.out.trans (hz.2.2.2.mono HBN.out.size))).mono ?_); rintro e w' ⟨rfl, hb⟩; exact ⟨rfl, HeldC.step hz hb⟩) | ((have h0 := fun i => (hz.1 kp i hkp9).trans (hpc9 i)); (have h1 := (hz.1 gL 1 hgl9).trans hl1); (have h2 := CVA.out _ hz.2.2.2); (have h3 := CVB.out _ hz.2.2.2); go_simp; (first | done | (with_reducible rfl)))) | (with_reducible rfl))); clear hK K; (try simp only [Act.put, List.setIfInBounds_toArray, List.set_cons_zero, List.set_cons_succ]))
              | ((with_reducible refine ite_neg_ ?_ ?_); (focus (go_simp; done)); refine hK _ ?_; clear hK K; (try simp only [Act.put, List.setIfInBounds_toArray, List.set_cons_zero, List.set_cons_succ]))
          (with_reducible refine wpQuiet_nil ?_)
          intro wz hz
          have Bz := Lh (show Below w1.heap.size w1 wz from Bl.out.trans ((HBN.out.trans (hz.2.2.2.mono HBN.out.size)).mono Bl.out.size))
          clear hz
          go_wp2
          go_ret
          exact ⟨rfl, BW1.out _ Bz.out⟩
  · have hz : (checkRq q != 0) = true := by simpa using h0
    obtain ⟨Ab, cb, rfl, _, _⟩ := own_cells hob
    clear h0
    go_wp2
    go_ret
    exact ⟨rfl, B1.out⟩
theorem responses_any (A D : Option Addr) (n c m d : Nat) (q : Rs) (ys : List Int) (W : World) (hT : W.cell? ⟨0, 0, none⟩ = some tyErr) (hq : RsA W A n q) (hn3 : n ≤ 300) (hm : ys.length = m) (hy : CellsAt W D (bvs ys)) (hw : Byt ys) (hm9 : m ≤ 20000) :
    Calls Tryz.prog 20 #[.agg (rsC (.slice A n c) q), .slice D m d] W fun e w' => e = .returned (.bool true) ∧ Below W.heap.size W w' := by
  have HT := Lh (fun (W9 : World) (h : Below W.heap.size W W9) => (h.cell (p := ⟨0, 0, none⟩) (World.block_lt_of_cell? W _ hT)).trans hT)
  have bo := (Below.refl W.heap.size W).alloc (Nat.le_refl _) (.cells (rsC (.slice A n c) q) 39)
  have B0 := Lh bo
  have K0 := Lh (Blk.new W 39 (rsC (.slice A n c) q))
  have Q0 := Lh (hq.below bo)
  have HI := Lh hq.rows
  have HY := Lh (fun (W9 : World) (h : Below W.heap.size W W9) => hy.below h)
  have HYL := Lh (show ∀ ad, D = some ad → 0 < m → ad.block < W.heap.size from fun ad e h0 => by
    subst e
    obtain ⟨ad', e, hlt, _⟩ := hy 0 (by rw [bvs_len, hm]; exact h0)
    cases e
    exact hlt)
  have HM := Lh hm
  have HW := Lh hw
  have hqc : ∀ i, (W.alloc (.cells (rsC (.slice A n c) q) 39)).cell? ⟨W.heap.size, i, none⟩ = (rsC (.slice A n c) q)[i]? := (Blk.new W 39 (rsC (.slice A n c) q)).cell
  clear hT hq hm hy hw bo
  go_enter Tryz.func20, Tryz.ntmps20
  go_wp2_with fail
  generalize W.alloc (.cells (rsC (.slice A n c) q) 39) = W0 at *
  go_at_call 17; (with_reducible refine (refenc_rs Q0.out c).mono ?_); rintro e w1 ⟨vb, rfl, hob, hb1⟩
  have B1 := Lh (below_step B0.out hb1 (Nat.le_refl _))
  have K1 := Lh (K0.out.kept hb1)
  have Q1 := Lh (Q0.out.below hb1)
  clear hqc Q0 K0
  by_cases h0 : checkRs q = 0
  · have H0 := Lh h0
    have E2 := Lh (encS_two h0 HI.out)
    have EBY := Lh (encS_byt q)
    have HDE := Lh (show decRs (encS q) = (q, none) by
      have h := dec_enc_rs h0 HI.out []
      rw [if_pos rfl, List.append_nil] at h
      rw [encS_ok H0.out]
      exact h)
    rw [h0]
    obtain ⟨gb, cb, curb, rfl, _, _, hkb, _, htb⟩ := own_blk hob (by have := E2.out.1; omega)
    have hxb := blk_cells hkb htb
    have hbs : Hid (∀ W9, Below w1.heap.size w1 W9 → CellsAt W9 (some ⟨gb, 0, none⟩) (bvs (encS q))) := Lh (fun W9 h => hxb.below h)
    have CE := Lh (fun (W9 : World) (h : Below w1.heap.size w1 W9) => enc_rs (Q1.out.below h) c)
    have DEC := Lh (fun (A9 : Option Addr) (n9 c9 : Nat) (xs9 : List Int) (W9 : World) (h : Below W.heap.size W W9) (hl : xs9.length = n9) (hx : CellsAt W9 A9 (bvs xs9)) (hb : Byt xs9) (hn : n9 ≤ 100000) => decode_rs A9 n9 c9 xs9 W9 hl hx (byt_wf hb) (by omega) (HT.out _ h))
    clear hob h0 hxb hkb htb
    generalize hEX : encS q = EX at *
    obtain ⟨l, hl⟩ : ∃ l, l = EX.length := ⟨_, rfl⟩
    rw [← hl] at E2 ⊢
    have HL := Lh hl
    have HEX := Lh hEX
    have O0 := Lh (show (w1.alloc (.cells #[] 5)).ownsRow w1.heap.size 5 1 (.slice (some ⟨w1.heap.size, 0, none⟩) 0 0) 0 (bvs []) from own_cells_alloc w1)
    have BA := Lh ((Below.refl w1.heap.size w1).alloc (Nat.le_refl _) (.cells #[] 5))
    have hl9 : l ≤ 30000 := by have := E2.out.2; omega
    have hl2 : 2 ≤ l := E2.out.1
    clear hl hEX E2
    go_wp2_with (first
      | (at_builtin; refine wpList_append_bytes rfl _ _ rfl w1.heap.size _ 0 [] rfl O0.out (some ⟨gb, 0, none⟩) l cb (by intro h; cases h) EX rfl HL.out.symm (hbs.out _ BA.out) (by omega) (by simp) ?_
         intro v2 w2 hown hg hv
         have B2 := Lh (show Below w1.heap.size w1 w2 from below_grown BA.out hg (by intro g hg; cases hg; exact Nat.le_refl _) (by simp))
         obtain ⟨g1, c1, cur1, rfl, hg1, hc1, hk1, hs1, ht1⟩ := own_blk (xs := EX) (n := l) (by simpa [bvs] using hown) (by omega)
         have M2 := Lh hk1
         have T2 := Lh ht1
         have G2 := Lh hg1
         have C2 := Lh hc1
         have S2 := Lh hs1
         clear hown hg hv hk1 ht1 hg1 hc1 hs1)
      | fail)
    have Q2 := Lh (Q1.out.below B2.out)
    have K2 := Lh (K1.out.kept B2.out)
    have B3 := Lh (below_step B1.out B2.out (Nat.le_refl _))
    have G12 := Lh G2.out
    have BW1S := Lh B1.out.size
    have UP := Lh (fun (W9 : World) (h : Below w2.heap.size w2 W9) => show Below w1.heap.size w1 W9 from B2.out.trans (h.mono B2.out.size))
    have CE1 := CE
    have BW1 := Lh (fun (W9 : World) (h : Below w1.heap.size w1 W9) => B1.out.trans (h.mono B1.out.size))
    have KQ1 := Lh (fun (W9 : World) (h : Below w1.heap.size w1 W9) => (K1.out.kept h).cell)
    have QQ1 := Lh (fun (W9 : World) (h : Below w1.heap.size w1 W9) => Q1.out.below h)
    have SAME1 := Lh (fun (A9 : Option Addr) (n9 c9 : Nat) (W9 : World) (h : Below w1.heap.size w1 W9) (hl9 : q.rows.length = n9) (hr : RowsRd W9 A9 q.rows) (hb9 : n9 ≤ 9223372036854775807) => show Calls Tryz.prog 54 #[.agg (rsC (.slice A9 n9 c9) q), .agg (rsC (.slice A n c) q)] W9 fun e w' => e = .returned (.bool true) ∧ Below W9.heap.size W9 w' from by
      have hq9 := QQ1.out W9 h
      have := same_rs A9 A n9 n c9 c q q W9 hl9 hq9.len hr hq9.rd hb9 hq9.big
      rwa [same_selfS] at this)
    have CE := Lh (fun (W9 : World) (h : Below w2.heap.size w2 W9) => CE1.out W9 (UP.out W9 h))
    have CB := Lh (fun (W9 : World) (h : Below w2.heap.size w2 W9) => show ∀ c', (convert 22 9 (.slice (some ⟨gb, 0, none⟩) l c')).run Tryz.prog W9 = .ok (.string (strOfNums EX)) W9 from fun c' => conv_cells (hbs.out W9 (UP.out W9 h)) HL.out.symm c')
    have CM := Lh (fun (W9 : World) (h : Below w2.heap.size w2 W9) => blk_cells (M2.out.kept h) T2.out)
    have KQ := Lh (fun (W9 : World) (h : Below w2.heap.size w2 W9) => (K2.out.kept h).cell)
    have BW := Lh (fun (W9 : World) (h : Below w2.heap.size w2 W9) => BW1.out W9 (UP.out W9 h))
    have SAME := Lh (fun (A9 : Option Addr) (n9 c9 : Nat) (W9 : World) (h : Below w2.heap.size w2 W9) => SAME1.out A9 n9 c9 W9 (UP.out W9 h))
    clear Q1 K1 B1 K2 hbs O0 BA
    generalize hST : strOfNums EX = ST at *
    have HSTR := Lh hST
    clear hST
    go_loopw [7, 8, 10] (fun t7 t8 t10 wr => ∃ (i cC cB : Nat) (AC AB : Option Addr), t10 = .int .i64 (i : Int) ∧ i ≤ 4 ∧ t8 = .slice AC i cC ∧ t7 = .slice AB i cB ∧ Hid (∃ cl bl, BkS w2.heap.size 7 i cC cB AC AB cl bl w2 wr)) (fun _ _ t10 _ => 4 - (intOf t10).toNat)
    case atStart => exact ⟨0, 0, 0, none, none, rfl, by omega, rfl, rfl, Lh ⟨[], [], BkS.start _⟩⟩
    case round =>
      obtain ⟨i, cC, cB, AC, AB, rfl, hi, rfl, rfl, HP0⟩ := hrel
      rename World => wr
      by_cases hi4 : i < 4
      · obtain ⟨cl, bl, hP⟩ := HP0.out
        have HP := Lh hP
        have BR := Lh hP.below
        clear HP0 hP
        go_wp2_with fail
        go_at_call 9; (with_reducible refine (DEC.out (some ⟨g1, 0, none⟩) l c1 EX wr (BW.out _ BR.out) HL.out.symm (CM.out _ BR.out) EBY.out (by omega)).mono ?_); rintro e w3 hdq
        rw [HDE.out] at hdq
        obtain ⟨hb3, vx, rfl, hox⟩ := hdq
        dsimp only at hox ⊢
        obtain ⟨Ax, cx, rfl⟩ := own_form3 hox
        have bo3 := (Below.refl w3.heap.size w3).alloc (Nat.le_refl _) (.cells (rsC (.slice Ax q.rows.length cx) q) 39)
        have HB3 := Lh (below_step hb3 bo3 (Nat.le_refl _))
        have B4 := Lh (BR.out.trans (HB3.out.mono BR.out.size))
        have OX := Lh (hox.kept_ bo3)
        have KX := Lh (Blk.new w3 39 (rsC (.slice Ax q.rows.length cx) q))
        have hqc : ∀ j, (w3.alloc (.cells (rsC (.slice Ax q.rows.length cx) q) 39)).cell? ⟨W.heap.size, j, none⟩ = (rsC (.slice A n c) q)[j]? := KQ.out _ B4.out
        clear hb3 hox bo3
        go_wp2_with fail
        generalize hkx : w3.heap.size = kx at *
        generalize w3.alloc (.cells (rsC (.slice Ax q.rows.length cx) q) 39) = w4 at *
        clear hkx
        go_at_call 53; (with_reducible refine (CE.out _ B4.out).mono ?_); rintro e w5 ⟨Ac, rfl, hrc, hb5⟩
        rw [← HL.out] at hrc ⊢
        rw [H0.out]
        have B5 := Lh (B4.out.trans (hb5.mono B4.out.size))
        have HB5 := Lh hb5
        have RC := Lh hrc
        have OX5 := Lh (OX.out.kept_ hb5)
        have KX5 := Lh (KX.out.kept hb5)
        clear hqc hb5 hrc KX
        have hqc := KQ.out _ B5.out
        have hxc := KX5.out.cell
        have hrx := OX5.out.rd_
        have CS := Lh (SAME.out Ax _ cx _ B5.out rfl hrx.1 hrx.2)
        clear hrx
        go_wp2_with fail
        go_at_call 54; (with_reducible refine CS.out.mono ?_); rintro e w6 ⟨rfl, hb6⟩
        have B6 := Lh (B5.out.trans (hb6.mono B5.out.size))
        have HB6 := Lh (below_step HB5.out hb6 (Nat.le_refl _))
        have RC6 := Lh (RC.out.kept hb6)
        have KX6 := Lh (KX5.out.kept hb6)
        have cv1 := CB.out _ B6.out cb
        have cv2 := conv_cells RC6.out.cells HL.out.symm l
        rw [HSTR.out] at cv2
        have hx3 : w6.cell? ⟨kx, 4, none⟩ = some (.slice Ax q.rows.length cx) := KX6.out.cell 4
        clear hb6 hqc hxc CS KX5 OX5
        obtain ⟨iC, hiC, hC0, hC1, hC2⟩ := info_parts info_slRows
        obtain ⟨iB, hiB, hB0, hB1, hB2⟩ := info_parts info_slBytes
        have hn9 : q.rows.length ≤ 1000000 := by have := Q2.out.len; omega
        have HN9 := Lh hn9
        have b7 : Below w6.heap.size w6 (w6.alloc (.cells #[.slice Ax q.rows.length cx] 35)) := (Below.refl _ _).alloc (Nat.le_refl _) _
        have HB7 := Lh b7
        have HOC := Lh (show OwG (w6.alloc (.cells #[.slice Ax q.rows.length cx] 35)) w2.heap.size 1 (.slice AC i cC) i (cl.map Pg.v) from ((HP.out.rowC.below HB3.out).below HB6.out).below b7)
        have HCC := Lh (show CellsAt (w6.alloc (.cells #[.slice Ax q.rows.length cx] 35)) (some ⟨w6.heap.size, 0, none⟩) [.slice Ax q.rows.length cx] from alloc_cells w6 _ [_])
        have HLC := Lh (show w2.heap.size ≤ (w6.alloc (.cells #[.slice Ax q.rows.length cx] 35)).heap.size from Nat.le_trans B6.out.size b7.size)
        clear b7 hn9
        go_wp2_with (first
          | (at_builtin; refine wpList_append_keepG rfl _ _ _ rfl _ iC _ 1 24 Tryz.underlying121 hiC hC0 hC1 hC2 rfl (by decide) w2.heap.size (.slice AC i cC) i (cl.map Pg.v) rfl HOC.out ⟨w6.heap.size, 0, none⟩ 1 1 [.slice Ax q.rows.length cx] rfl rfl HCC.out (by intro u hu; rw [List.mem_singleton] at hu; subst hu; rfl) (by unfold maxLen; omega) (by omega) HLC.out ?_
             intro v7 w7 hold hnew hg hv
             obtain ⟨A7, c7, hv7, _⟩ := hnew.form
             subst hv7
             have T1 := Lh (HP.out.step1 (v1 := .slice Ax q.rows.length cx) (v2 := .slice Ac l l) HB3.out (OwG.of OX.out) HB6.out RC6.out.owg HB7.out hnew hg (grown_kind hv))
             have HOB := Lh (show OwG (w7.alloc (.cells #[.slice Ac l l] 22)) w2.heap.size 1 (.slice AB i cB) i (bl.map Pg.v) from (show OwG w7 w2.heap.size 1 (.slice AB i cB) i (bl.map Pg.v) from T1.out.1.at 0 (by simp)).below ((Below.refl _ _).alloc (Nat.le_refl _) _))
             have HCB := Lh (show CellsAt (w7.alloc (.cells #[.slice Ac l l] 22)) (some ⟨w7.heap.size, 0, none⟩) [.slice Ac l l] from alloc_cells w7 _ [_])
             have HLB := Lh (show w2.heap.size ≤ (w7.alloc (.cells #[.slice Ac l l] 22)).heap.size from Nat.le_trans (Nat.le_trans HLC.out hg.size) ((Below.refl w7.heap.size w7).alloc (Nat.le_refl _) _).size)
             clear hold hnew hg hv hx3 cv1 cv2)
          | (at_builtin; refine wpList_append_keepG rfl _ _ _ rfl _ iB _ 1 24 Tryz.underlying116 hiB hB0 hB1 hB2 rfl (by decide) w2.heap.size (.slice AB i cB) i (bl.map Pg.v) rfl HOB.out ⟨w7.heap.size, 0, none⟩ 1 1 [.slice Ac l l] rfl rfl HCB.out (by intro u hu; rw [List.mem_singleton] at hu; subst hu; rfl) (by unfold maxLen; omega) (by omega) HLB.out ?_
             intro v9 w9 hold hnew hg hv
             obtain ⟨A9, c9, hv9, _⟩ := hnew.form
             subst hv9
             have T2 := Lh (HP.out.step2 T1.out HN9.out (by omega) ((Below.refl w7.heap.size w7).alloc (Nat.le_refl _) (.cells #[.slice Ac l l] 22)) hnew hg (grown_kind hv))
             clear hold hnew hg hv)
          | fail)
        go_roundw
        case rel => exact ⟨i + 1, c7, c9, A7, A9, by go_num, by omega, rfl, rfl, Lh ⟨_, _, T2.out⟩⟩
        case measure => simp [intOf]; omega
      · obtain rfl : i = 4 := by omega
        obtain ⟨cl, bl, hP⟩ := HP0.out
        have HP := Lh hP
        have HNC := Lh (show AC = none → cC = 0 from fun e => by
          obtain ⟨A9, c9, e1, _, e2⟩ := hP.rowC.form
          injection e1 with e3 _ e4
          subst e3
          rw [e4]
          exact e2 e)
        clear HP0 hP hi4 hi
        go_wp2_with fail
        go_at_call 55; (with_reducible refine (grownRows_any w2.heap.size 4 cC AC cl wr HP.out.cells (fun p hp => (HP.out.one p (List.mem_append_left _ hp)).1) HP.out.clen HP.out.lo_ (fun p hp => (HP.out.one p (List.mem_append_left _ hp)).2) (by decide) HNC.out).mono ?_); rintro e w3 ⟨rfl, ht3⟩
        have S3 := Lh (HP.out.bytes ht3)
        have L3 := Lh (Nat.le_trans HP.out.lo_ ht3.size)
        have ONE := Lh HP.out.one
        have BLN := Lh HP.out.blen
        clear ht3 HP HNC
        have HNB := Lh (show AB = none → cB = 0 from fun e => by
          obtain ⟨A9, c9, e1, _, e2⟩ := (show OwG w3 w2.heap.size 1 (.slice AB 4 cB) 4 (bl.map Pg.v) from S3.out.1.at 0 (by simp)).form
          injection e1 with e3 _ e4
          subst e3
          rw [e4]
          exact e2 e)
        go_wp2_with fail
        go_at_call 51; (with_reducible refine (grownBytes_any w2.heap.size 4 cB AB bl w3 S3.out.1 (fun p hp => (ONE.out p (List.mem_append_right _ hp)).1) BLN.out L3.out (fun p hp => (ONE.out p (List.mem_append_right _ hp)).2) (by decide) HNB.out).mono ?_); rintro e w4 ⟨rfl, ht4⟩
        have B4 := Lh (show Below w2.heap.size w2 w4 from S3.out.2.trans (ht4.below L3.out (vB_low S3.out.1)))
        clear ht4 S3 L3 ONE BLN HNB
        go_wp2_with fail
        go_at_call 9; (with_reducible refine (DEC.out (some ⟨g1, 0, none⟩) l c1 EX w4 (BW.out _ B4.out) HL.out.symm (CM.out _ B4.out) EBY.out (by omega)).mono ?_); rintro e w5 hdq
        rw [HDE.out] at hdq
        obtain ⟨hb5, vx, rfl, hox⟩ := hdq
        dsimp only at hox ⊢
        obtain ⟨Ax, cx, rfl⟩ := own_form3 hox
        have bo5 := (Below.refl w5.heap.size w5).alloc (Nat.le_refl _) (.cells (rsC (.slice Ax q.rows.length cx) q) 39)
        have HB5 := Lh (below_step hb5 bo5 (Nat.le_refl _))
        have B6 := Lh (B4.out.trans (HB5.out.mono B4.out.size))
        have OX := Lh (hox.kept_ bo5)
        have KX := Lh (Blk.new w5 39 (rsC (.slice Ax q.rows.length cx) q))
        have HLX := Lh (Nat.le_trans B4.out.size hb5.size)
        have hqc : ∀ j, (w5.alloc (.cells (rsC (.slice Ax q.rows.length cx) q) 39)).cell? ⟨W.heap.size, j, none⟩ = (rsC (.slice A n c) q)[j]? := KQ.out _ B6.out
        clear hb5 hox bo5
        go_wp2_with fail
        generalize hkx : w5.heap.size = kx at *
        generalize w5.alloc (.cells (rsC (.slice Ax q.rows.length cx) q) 39) = w6 at *
        clear hkx
        go_at_call 53; (with_reducible refine (CE.out _ B6.out).mono ?_); rintro e w7 ⟨Ac, rfl, hrc, hb7⟩
        rw [← HL.out] at hrc ⊢
        rw [H0.out]
        have B7 := Lh (B6.out.trans (hb7.mono B6.out.size))
        have RC := Lh hrc
        have OX7 := Lh (OX.out.kept_ hb7)
        have KX7 := Lh (KX.out.kept hb7)
        clear hqc hb7 hrc KX OX HB5
        have hqc := KQ.out _ B7.out
        have hxc := KX7.out.cell
        have hrx := OX7.out.rd_
        have CS := Lh (SAME.out Ax _ cx _ B7.out rfl hrx.1 hrx.2)
        clear hrx
        go_wp2_with fail
        go_at_call 54; (with_reducible refine CS.out.mono ?_); rintro e w8 ⟨rfl, hb8⟩
        have B8 := Lh (B7.out.trans (hb8.mono B7.out.size))
        have RC8 := Lh (RC.out.kept hb8)
        have KX8 := Lh (KX7.out.kept hb8)
        have OX8 := Lh (OX7.out.kept_ hb8)
        have cv1 := CB.out _ B8.out cb
        have cv2 := conv_cells RC8.out.cells HL.out.symm l
        have cv3 := conv_cells (CM.out _ B8.out) HL.out.symm c1
        rw [HSTR.out] at cv2 cv3
        have M8 := Lh (M2.out.kept B8.out)
        have HG2 := Lh (show g1 < w2.heap.size from M2.out.lt)
        clear hb8 hqc hxc CS KX7 OX7 RC RC8
        go_wp2_with fail
        go_at_call 52; (with_reducible refine (laid_any g1 c1 l cur1 EX D m d ys w8 M8.out T2.out HL.out.symm (by rw [S2.out]; exact C2.out) EBY.out (HY.out _ (BW.out _ B8.out)) HM.out HW.out (fun ad e h9 => by have := HYL.out ad e h9; have := G12.out; have := BW1S.out; omega) (by omega) hm9).mono ?_); rintro e w9 ⟨rfl, cur2, xs, hm2, hs2, ht2, hxl, hxb, htu⟩
        have B9 := Lh (show Below w1.heap.size w1 w9 from (UP.out _ B8.out).trans (htu.below (UP.out _ B8.out).size (fun k e => by subst e; exact G12.out)))
        have KX9 := Lh (KX8.out.tur htu (by have := HLX.out; have := HG2.out; omega))
        have OX9 := Lh (show RowsOwn w9 w4.heap.size (.slice Ax q.rows.length cx) q.rows from ownsRow_tur OX8.out htu (fun k e hs => by have h1 := (OX8.out.lt k e).1; have := B4.out.size; have := HG2.out; omega))
        have M9 := Lh hm2
        have T9 := Lh ht2
        have XL := Lh hxl
        have XB := Lh hxb
        clear hm2 hs2 ht2 hxl hxb htu cv1 cv2 cv3 KX8 OX8 M8 B8 B7 B6 B4 CM T2 M2 S2 C2 CB CE KQ BW SAME UP HSTR
        have O9 := Lh (show (w9.alloc (.cells #[] 5)).ownsRow w9.heap.size 5 1 (.slice (some ⟨w9.heap.size, 0, none⟩) 0 0) 0 (bvs []) from own_cells_alloc w9)
        have BA := Lh ((Below.refl w9.heap.size w9).alloc (Nat.le_refl _) (.cells #[] 5))
        have HX9 := Lh (blk_cells (M9.out.kept BA.out) T9.out)
        go_wp2_with (first
          | (at_builtin; refine wpList_append_bytes rfl _ _ rfl w9.heap.size _ 0 [] rfl O9.out (some ⟨g1, 0, none⟩) l c1 (by intro h; cases h) xs rfl XL.out HX9.out (by omega) (by simp) ?_
             intro va wa hown hg hv
             have Ba0 := Lh (show Below w9.heap.size w9 wa from below_grown BA.out hg (by intro g hg; cases hg; exact Nat.le_refl _) (by simp))
             obtain ⟨g3, c3, cur3, rfl, hg3, hc3, hk3, hs3, ht3⟩ := own_blk (xs := xs) (n := l) (by simpa [bvs] using hown) (by omega)
             have Wa := Lh hk3
             have Ta := Lh ht3
             have Ca := Lh hc3
             clear hown hg hv hk3 ht3 hg3 hc3 hs3)
          | fail)
        have Ba := Lh (B9.out.trans (Ba0.out.mono B9.out.size))
        have KXa := Lh (KX9.out.kept Ba0.out)
        have OXa := Lh (OX9.out.kept_ Ba0.out)
        have Ma := Lh (M9.out.kept Ba0.out)
        clear KX9 OX9 M9 O9 BA HX9 Ba0 B9
        go_at_call 9; (with_reducible refine (DEC.out (some ⟨g1, 0, none⟩) l c1 xs wa (BW1.out _ Ba.out) XL.out (blk_cells Ma.out T9.out) XB.out (by omega)).mono ?_); rintro e wb hdq
        obtain ⟨vy, ey, rfl, hoy, hfy, hbb⟩ := DesQ.open_ hdq
        obtain ⟨Ay, cy, rfl⟩ := own_form3 hoy
        have bob := (Below.refl wb.heap.size wb).alloc (Nat.le_refl _) (.cells (rsC (.slice Ay (decRs xs).1.rows.length cy) (decRs xs).1) 39)
        have HBc := below_step hbb bob (Nat.le_refl _)
        have Bc := Lh (Ba.out.trans (HBc.mono Ba.out.size))
        have KXc := Lh (KXa.out.kept HBc)
        have OXc := Lh (OXa.out.kept_ HBc)
        have Wc := Lh (Wa.out.kept HBc)
        have KYc := Lh (Blk.new wb 39 (rsC (.slice Ay (decRs xs).1.rows.length cy) (decRs xs).1))
        have OYc := Lh (hoy.kept_ bob)
        have FYc := Lh (hfy.kept bob)
        clear hdq hoy hfy hbb bob HBc Ba KXa OXa Wa Ma
        generalize hyq : decRs xs = yq at *
        have HYQ := Lh hyq
        clear hyq
        go_wp2_with fail
        generalize hky : wb.heap.size = ky at *
        generalize wb.alloc (.cells (rsC (.slice Ay yq.1.rows.length cy) yq.1) 39) = wc at *
        clear hky
        go_at_call 12; (with_reducible refine (doc_rs (some ⟨g3, 0, none⟩) l c3 xs wc XL.out (blk_cells Wc.out Ta.out) (byt_wf XB.out) (by omega) Ca.out).mono ?_); rintro e wd hdd
        obtain ⟨vz, rfl, hoz, hbd⟩ := DocS.open_ hdd
        rw [HYQ.out] at hoz ⊢
        obtain ⟨Az, cz, rfl⟩ := own_form3 hoz
        have bod := (Below.refl wd.heap.size wd).alloc (Nat.le_refl _) (.cells (rsC (.slice Az yq.1.rows.length cz) yq.1) 39)
        have HBe := below_step hbd bod (Nat.le_refl _)
        have Be := Lh (Bc.out.trans (HBe.mono Bc.out.size))
        have KXe := Lh (KXc.out.kept HBe)
        have OXe := Lh (OXc.out.kept_ HBe)
        have KYe := Lh (KYc.out.kept HBe)
        have OYe := Lh (OYc.out.kept_ HBe)
        have FYe := Lh (FYc.out.kept HBe)
        have KZe := Lh (Blk.new wd 39 (rsC (.slice Az yq.1.rows.length cz) yq.1))
        have OZe := Lh (hoz.kept_ bod)
        clear hdd hoz hbd bod HBe Bc KXc OXc KYc OYc FYc Wc
        go_wp2_with fail
        generalize hkz : wd.heap.size = kz at *
        generalize wd.alloc (.cells (rsC (.slice Az yq.1.rows.length cz) yq.1) 39) = we at *
        clear hkz
        go_at_call 13; (with_reducible refine (fault_any FYe.out (HT.out _ (BW1.out _ Be.out))).mono ?_); rintro e wf ⟨rfl, hbf⟩
        have Bf := Lh (Be.out.trans (hbf.mono Be.out.size))
        have KXf := Lh (KXe.out.kept hbf)
        have OXf := Lh (OXe.out.kept_ hbf)
        have hyc := (KYe.out.kept hbf).cell
        have hzc := (KZe.out.kept hbf).cell
        have hry := (OYe.out.kept_ hbf).rd_
        have hrz := (OZe.out.kept_ hbf).rd_
        have CS := Lh (show Calls Tryz.prog 54 #[.agg (rsC (.slice Ay yq.1.rows.length cy) yq.1), .agg (rsC (.slice Az yq.1.rows.length cz) yq.1)] wf fun e w' => e = .returned (.bool true) ∧ Below wf.heap.size wf w' from by
          have := same_rs Ay Az _ _ cy cz yq.1 yq.1 wf rfl rfl hry.1 hrz.1 hry.2 hrz.2
          rwa [same_selfS] at this)
        clear hbf hry hrz Be KXe OXe KYe OYe FYe KZe OZe
        go_wp2_with fail
        go_at_call 54; (with_reducible refine CS.out.mono ?_); rintro e wg ⟨rfl, hbg⟩
        have Bg := Lh (Bf.out.trans (hbg.mono Bf.out.size))
        have hxc := (KXf.out.kept hbg).cell
        have hrx := (OXf.out.kept_ hbg).rd_
        have CS := Lh (SAME1.out Ax _ cx _ Bg.out rfl hrx.1 hrx.2)
        clear hbg hyc hzc hrx Bf KXf OXf
        have hqc := KQ1.out _ Bg.out
        go_wp2_with fail
        go_at_call 54; (with_reducible refine CS.out.mono ?_); rintro e wh ⟨rfl, hbh⟩
        have Bh := Lh (Bg.out.trans (hbh.mono Bg.out.size))
        clear hbh hxc hqc Bg CS
        have hq3 : wh.cell? ⟨W.heap.size, 4, none⟩ = some (.slice A n c) := KQ1.out _ Bh.out 4
        by_cases hn0 : n = 0
        · subst hn0
          go_wp2
          go_ret
          exact ⟨rfl, BW1.out _ Bh.out⟩
        · have hsome : ∃ ad, A = some ad := by
            have hq9 := QQ1.out _ Bh.out
            obtain ⟨ad, e, _⟩ := hq9.rd 0 (by have := hq9.len; omega)
            exact ⟨ad, e⟩
          obtain ⟨ad, rfl⟩ := hsome
          obtain ⟨y1, tl, hyt⟩ : ∃ y1 tl, q.rows = y1 :: tl := by
            have hq9 := QQ1.out _ Bh.out
            rcases hc9 : q.rows with _ | ⟨y1, tl⟩
            · have := hq9.len; rw [hc9] at this; simp at this; omega
            · exact ⟨y1, tl, rfl⟩
          have HYT := Lh hyt
          have OL := Lh (own_empty wh 84 7)
          have hbl : Below wh.heap.size wh (wh.alloc (.cells #[] 84)) := (Below.refl _ _).alloc (Nat.le_refl _) _
          have BL := Lh (Bh.out.trans (hbl.mono Bh.out.size))
          have HBL := Lh hbl
          have hq4 : (wh.alloc (.cells #[] 84)).cell? ⟨W.heap.size, 4, none⟩ = some (.slice (some ad) n c) := KQ1.out _ BL.out 4
          have HCQ := Lh (rdRows_at (QQ1.out _ BL.out).rd)
          have HLN := Lh (QQ1.out _ BL.out).len
          obtain ⟨iE, zE, hiE, hE0, hE1, hE2, hE3⟩ := infoERows
          clear hyt hbl
          go_wp2_with (first
            | (at_builtin; refine wpList_append_keepG rfl _ _ _ rfl _ iE zE 7 64 Tryz.underlying35 hiE hE0 hE1 hE2 hE3 (by decide) wh.heap.size (.slice (some ⟨wh.heap.size, 0, none⟩) 0 0) 0 [] rfl OL.out ad n c (rowCs q.rows) rfl (by rw [rowCs_len2, HLN.out]) HCQ.out (rowCs_one_ _) (by unfold maxLen; omega) (by omega) (by simp) ?_
               intro vi wi hold hnew hg hv
               have hnew : OwG wi wh.heap.size 7 vi n (rowCs q.rows) := (by simpa using hnew)
               have hBi := (show Below wh.heap.size wh wi from below_grown HBL.out hg (by intro g hg; cases hg; exact Nat.le_refl _) (by simp))
               obtain ⟨gL, cL, hvL, hcL⟩ := hnew.some_ (by omega)
               subst hvL
               have Bi := Lh (Bh.out.trans (hBi.mono Bh.out.size))
               have OI := Lh hnew
               have HGL := Lh (hnew.lt gL rfl)
               have hqi := KQ1.out _ Bi.out
               clear hold hnew hg hv hBi hq4 hq3)
            | fail)
          have hbp := (Below.refl wi.heap.size wi).alloc (Nat.le_refl _) (.cells (rsC (.slice (some ⟨gL, 0, none⟩) n cL) q) 39)
          have Bp := Lh (Bi.out.trans (hbp.mono Bi.out.size))
          have KP := Lh (Blk.new wi 39 (rsC (.slice (some ⟨gL, 0, none⟩) n cL) q))
          have OP := Lh (OI.out.below hbp)
          have HNE := Lh (show gL < wi.heap.size from HGL.out.2)
          have HWL := Lh Bi.out.size
          clear hbp hqi Bi OI
          generalize hkp : wi.heap.size = kp at *
          generalize wi.alloc (.cells (rsC (.slice (some ⟨gL, 0, none⟩) n cL) q) 39) = wp at *
          clear hkp
          have HQB := Lh (QQ1.out _ Bh.out)
          have RQP := Lh (fun (W9 : World) (h : Below wp.heap.size wp W9) => show RsA W9 (some ⟨gL, 0, none⟩) n q from ⟨HQB.out.len, owgRows_rd (OP.out.below h), HQB.out.big, HQB.out.ok, HQB.out.rows⟩)
          go_at_call 53; (with_reducible refine (enc_rs (RQP.out _ (Below.refl _ _)) cL).mono ?_); rintro e wj ⟨Ac9, rfl, _, hbj⟩
          have Bj := Lh (Bp.out.trans (hbj.mono Bp.out.size))
          have KJ := Lh (KP.out.kept hbj)
          have OJ := Lh (OP.out.below hbj)
          have RJ := Lh (RQP.out _ hbj)
          have hpc := KJ.out.cell
          clear hbj KP OP Bp
          go_wp2_with fail
          go_at_call 33; (with_reducible refine (check_rs (some ⟨gL, 0, none⟩) n cL q wj RJ.out.len RJ.out.rd RJ.out.big RJ.out.ok).mono ?_); rintro e wk ⟨rfl, hbk⟩
          have Bk := Lh (Bj.out.trans (hbk.mono Bj.out.size))
          have KK := Lh (KJ.out.kept hbk)
          have OK := Lh (OJ.out.below hbk)
          clear hpc hbk KJ OJ RJ Bj RQP
          have hrm := OK.out.room3 (by decide) 0 (by omega)
          obtain ⟨u0, d0⟩ : ∃ u, wk.cell? ⟨gL, 0, none⟩ = some u := Option.isSome_iff_exists.1 (by have h := (hrm 0 (by decide)).1; simpa using h)
          have f0 : wk.frozen? ⟨gL, 0, none⟩ = false := by have h := (hrm 0 (by decide)).2; simpa using h
          obtain ⟨u1, d1⟩ : ∃ u, wk.cell? ⟨gL, 1, none⟩ = some u := Option.isSome_iff_exists.1 (by have h := (hrm 1 (by decide)).1; simpa using h)
          have f1 : wk.frozen? ⟨gL, 1, none⟩ = false := by have h := (hrm 1 (by decide)).2; simpa using h
          obtain ⟨u2, d2⟩ : ∃ u, wk.cell? ⟨gL, 2, none⟩ = some u := Option.isSome_iff_exists.1 (by have h := (hrm 2 (by decide)).1; simpa using h)
          have f2 : wk.frozen? ⟨gL, 2, none⟩ = false := by have h := (hrm 2 (by decide)).2; simpa using h
          obtain ⟨u3, d3⟩ : ∃ u, wk.cell? ⟨gL, 3, none⟩ = some u := Option.isSome_iff_exists.1 (by have h := (hrm 3 (by decide)).1; simpa using h)
          have f3 : wk.frozen? ⟨gL, 3, none⟩ = false := by have h := (hrm 3 (by decide)).2; simpa using h
          obtain ⟨u4, d4⟩ : ∃ u, wk.cell? ⟨gL, 4, none⟩ = some u := Option.isSome_iff_exists.1 (by have h := (hrm 4 (by decide)).1; simpa using h)
          have f4 : wk.frozen? ⟨gL, 4, none⟩ = false := by have h := (hrm 4 (by decide)).2; simpa using h
          obtain ⟨u5, d5⟩ : ∃ u, wk.cell? ⟨gL, 5, none⟩ = some u := Option.isSome_iff_exists.1 (by have h := (hrm 5 (by decide)).1; simpa using h)
          have f5 : wk.frozen? ⟨gL, 5, none⟩ = false := by have h := (hrm 5 (by decide)).2; simpa using h
          obtain ⟨u6, d6⟩ : ∃ u, wk.cell? ⟨gL, 6, none⟩ = some u := Option.isSome_iff_exists.1 (by have h := (hrm 6 (by decide)).1; simpa using h)
          have f6 : wk.frozen? ⟨gL, 6, none⟩ = false := by have h := (hrm 6 (by decide)).2; simpa using h
          have hne : kp ≠ gL := by have := HNE.out; omega
          have hne2 : gL ≠ kp := by have := HNE.out; omega
          have hpc := KK.out.cell
          have HN := Lh (show OwG ((World.setCell (World.setCell (World.setCell (World.setCell (World.setCell (World.setCell (World.setCell wk ⟨gL, 0, none⟩ (.int .i64 0)) ⟨gL, 1, none⟩ (.string ⟨#[111, 116, 104, 101, 114]⟩)) ⟨gL, 2, none⟩ (.int .i64 0)) ⟨gL, 3, none⟩ (.int .i64 1)) ⟨gL, 4, none⟩ (.int .i64 4)) ⟨gL, 5, none⟩ (.int .i64 4)) ⟨gL, 6, none⟩ (.int .i64 4))) wh.heap.size 7 (.slice (some ⟨gL, 0, none⟩) n cL) n (rowCs ((⟨⟨0, ⟨#[111, 116, 104, 101, 114]⟩, 0⟩, 1, 4, 4, 4⟩ : RowV) :: tl)) from by
            have h := OK.out.setE 0 (by omega) ((⟨⟨0, ⟨#[111, 116, 104, 101, 114]⟩, 0⟩, 1, 4, 4, 4⟩ : RowV)).cells rfl
            rw [HYT.out] at h
            exact h)
          have htu : Tur (· = gL) wk ((World.setCell (World.setCell (World.setCell (World.setCell (World.setCell (World.setCell (World.setCell wk ⟨gL, 0, none⟩ (.int .i64 0)) ⟨gL, 1, none⟩ (.string ⟨#[111, 116, 104, 101, 114]⟩)) ⟨gL, 2, none⟩ (.int .i64 0)) ⟨gL, 3, none⟩ (.int .i64 1)) ⟨gL, 4, none⟩ (.int .i64 4)) ⟨gL, 5, none⟩ (.int .i64 4)) ⟨gL, 6, none⟩ (.int .i64 4))) := Tur.of_grown (setCells_grown gL ((⟨⟨0, ⟨#[111, 116, 104, 101, 114]⟩, 0⟩, 1, 4, 4, 4⟩ : RowV)).cells (0 * 7) wk) (fun k e => by cases e; rfl)
          have KL := Lh (KK.out.tur htu hne)
          have Bl := Lh (show Below w1.heap.size w1 ((World.setCell (World.setCell (World.setCell (World.setCell (World.setCell (World.setCell (World.setCell wk ⟨gL, 0, none⟩ (.int .i64 0)) ⟨gL, 1, none⟩ (.string ⟨#[111, 116, 104, 101, 114]⟩)) ⟨gL, 2, none⟩ (.int .i64 0)) ⟨gL, 3, none⟩ (.int .i64 1)) ⟨gL, 4, none⟩ (.int .i64 4)) ⟨gL, 5, none⟩ (.int .i64 4)) ⟨gL, 6, none⟩ (.int .i64 4))) from Bk.out.trans (htu.below Bk.out.size (fun k e => by subst e; have := HGL.out.1; have := Bh.out.size; omega)))
          clear hrm htu KK OK Bk
          go_wp2_with fail
          generalize (World.setCell (World.setCell (World.setCell (World.setCell (World.setCell (World.setCell (World.setCell wk ⟨gL, 0, none⟩ (.int .i64 0)) ⟨gL, 1, none⟩ (.string ⟨#[111, 116, 104, 101, 114]⟩)) ⟨gL, 2, none⟩ (.int .i64 0)) ⟨gL, 3, none⟩ (.int .i64 1)) ⟨gL, 4, none⟩ (.int .i64 4)) ⟨gL, 5, none⟩ (.int .i64 4)) ⟨gL, 6, none⟩ (.int .i64 4)) = wl at *
          clear hpc hne hne2 d0 f0 d1 f1 d2 f2 d3 f3 d4 f4 d5 f5 d6 f6
          obtain ⟨q2, hq2⟩ : ∃ q2 : Rs, q2 = ⟨q.kind, q.id, q.err, q.epoch, (⟨⟨0, ⟨#[111, 116, 104, 101, 114]⟩, 0⟩, 1, 4, 4, 4⟩ : RowV) :: tl, q.st⟩ := ⟨_, rfl⟩
          have HQ2 := Lh hq2
          have RQ2 := Lh (fun (W9 : World) (h : Below wl.heap.size wl W9) => show RsA W9 (some ⟨gL, 0, none⟩) n q2 from by
            have ho := HN.out.below h
            rw [hq2]
            have hlen := HQB.out.len
            rw [HYT.out] at hlen
            refine ⟨by simpa using hlen, owgRows_rd ho, HQB.out.big, ?_, ?_⟩
            · intro x hx
              rcases List.mem_cons.1 hx with rfl | hx
              · decide
              · exact HQB.out.ok x (by rw [HYT.out]; exact List.mem_cons_of_mem _ hx)
            · intro x hx
              rcases List.mem_cons.1 hx with rfl | hx
              · exact ⟨⟨by decide, by decide⟩, ⟨by decide, by decide⟩, ⟨by decide, by decide⟩, ⟨by decide, by decide⟩⟩
              · exact HQB.out.rows x (by rw [HYT.out]; exact List.mem_cons_of_mem _ hx))
          have C1 := Lh (fun (W9 : World) (h : Below wl.heap.size wl W9) => show Calls Tryz.prog 53 #[.agg (rsC (.slice (some ⟨gL, 0, none⟩) n cL) q)] W9 (EncA W9 (encS q2) (checkRs q2)) from by
            have h9 := enc_rs (RQ2.out _ h) cL
            rw [hq2] at h9 ⊢
            exact h9)
          have C2 := Lh (fun (W9 : World) (h : Below wl.heap.size wl W9) => show Calls Tryz.prog 17 #[.agg (rsC (.slice (some ⟨gL, 0, none⟩) n cL) q)] W9 (RefA W9 (encS q2) (checkRs q2)) from by
            have h9 := refenc_rs (RQ2.out _ h) cL
            rw [hq2] at h9 ⊢
            exact h9)
          have C3 := Lh (fun (W9 : World) (h : Below wl.heap.size wl W9) => show Calls Tryz.prog 33 #[.agg (rsC (.slice (some ⟨gL, 0, none⟩) n cL) q)] W9 fun e w' => e = .returned (.int .i64 (checkRs q2)) ∧ Below W9.heap.size W9 w' from by
            have hr := RQ2.out _ h
            have h9 := check_rs (some ⟨gL, 0, none⟩) n cL q2 W9 hr.len hr.rd hr.big hr.ok
            rw [hq2] at h9 ⊢
            exact h9)
          have C4 := Lh (fun (W9 : World) (h : Below wl.heap.size wl W9) => show Calls Tryz.prog 42 #[.agg (rsC (.slice (some ⟨gL, 0, none⟩) n cL) q)] W9 fun e w' => e = .returned (.int .i64 (checkRs q2)) ∧ Below W9.heap.size W9 w' from by
            have hr := RQ2.out _ h
            have h9 := rcheck_rs (some ⟨gL, 0, none⟩) n cL q2 W9 hr.len hr.rd hr.big hr.ok
            rw [hq2] at h9 ⊢
            exact h9)
          have L1 := Lh (fun (W9 : World) (h : Below wl.heap.size wl W9) => show W9.cell? ⟨gL, 1, none⟩ = some (.string ⟨#[111, 116, 104, 101, 114]⟩) from by
            obtain ⟨ad', e, _, hc⟩ := ((HN.out.below h).at rfl) 1 (by rw [rowCs_len2]; simp; omega)
            cases e
            exact hc)
          clear hq2 RQ2 HN
          generalize encS q2 = E2 at *
          generalize checkRs q2 = k2 at *
          obtain ⟨l2, hl2⟩ : ∃ l2, l2 = E2.length := ⟨_, rfl⟩
          have HL2 := Lh hl2
          go_at_call 53; (with_reducible refine (C1.out _ (Below.refl _ _)).mono ?_); rintro e wm ⟨Am, rfl, hrm, hbm⟩
          rw [← hl2] at hrm ⊢
          have HBM := Lh hbm
          have RM := Lh hrm
          have hpc := (KL.out.kept hbm).cell
          clear hbm hrm hl2
          go_wp2_with fail
          go_at_call 17; (with_reducible refine (C2.out _ HBM.out).mono ?_); rintro e wn ⟨vw, rfl, how, hbn⟩
          obtain ⟨Aw, cw, rfl, hcw, _⟩ := own_cells how
          have HBN := Lh (HBM.out.trans (hbn.mono HBM.out.size))
          have RN := Lh (RM.out.kept hbn)
          have HCW := Lh hcw
          have hpc9 := (KL.out.kept HBN.out).cell
          have hkp9 : kp < wn.heap.size := (KL.out.kept HBN.out).lt
          have hgl9 : gL < wn.heap.size := by have := HNE.out; omega
          have hnp : 0 < n := by omega
          have hl1 := L1.out _ HBN.out
          rw [← HL2.out] at how ⊢
          clear hpc hbn how hcw RM HBM
          obtain ⟨S2, hS2⟩ : ∃ S2, S2 = strOfNums E2 := ⟨_, rfl⟩
          have HS2 := Lh hS2
          have CVA := Lh (fun (W9 : World) (h : Below wn.heap.size wn W9) => show (convert 22 9 (.slice Am l2 l2)).run Tryz.prog W9 = .ok (.string S2) W9 from by rw [HS2.out]; exact conv_cells (RN.out.kept h).cells HL2.out.symm l2)
          have CVB := Lh (fun (W9 : World) (h : Below wn.heap.size wn W9) => show (convert 22 9 (.slice Aw l2 cw)).run Tryz.prog W9 = .ok (.string S2) W9 from by rw [HS2.out]; exact conv_cells (HCW.out.below h) HL2.out.symm cw)
          clear hS2 RN HCW
          go_wp2
          refine wp_region_heldq (B := wn.heap.size) (w1 := wn) (by kernel_rfl) (by kernel_rfl) (Held.of (Below.refl _ _).drew (Nat.le_refl _)) ?_
          repeat
            (with_reducible refine wpQuiet_step (fun K hK => ?_))
            first
              | ((with_reducible refine ite_pos_ ?_ ?_); (focus (go_simp; done)); apply Exists.intro; refine ⟨fun wz hzC => ?_, hK _ ?_⟩; (have hz := HeldC.out hzC; clear hzC; unfold Oper.quietAt; go_simp; (first | done | (first | (go_at_call 33; (with_reducible refine (C3.out _ (HBN.out.trans (hz.2.2.2.mono HBN.out.size))).mono ?_); rintro e w' ⟨rfl, hb⟩; exact ⟨rfl, HeldC.step hz hb⟩) | (go_at_call 42; (with_reducible refine (C4.out _ (HBN.out.trans (hz.2.2.2.mono HBN.out.size))).mono ?_); rintro e w' ⟨rfl, hb⟩; exact ⟨rfl, HeldC.step hz hb⟩) | ((have h0 := fun i => (hz.1 kp i hkp9).trans (hpc9 i)); (have h1 := (hz.1 gL 1 hgl9).trans hl1); (have h2 := CVA.out _ hz.2.2.2); (have h3 := CVB.out _ hz.2.2.2); go_simp; (first | done | (with_reducible rfl)))) | (with_reducible rfl))); clear hK K; (try simp only [Act.put, List.setIfInBounds_toArray, List.set_cons_zero, List.set_cons_succ]))
              | ((with_reducible refine ite_neg_ ?_ ?_); (focus (go_simp; done)); refine hK _ ?_; clear hK K; (try simp only [Act.put, List.setIfInBounds_toArray, List.set_cons_zero, List.set_cons_succ]))
          (with_reducible refine wpQuiet_nil ?_)
          intro wz hz
          have Bz := Lh (show Below w1.heap.size w1 wz from Bl.out.trans ((HBN.out.trans (hz.2.2.2.mono HBN.out.size)).mono Bl.out.size))
          clear hz
          go_wp2
          go_ret
          exact ⟨rfl, BW1.out _ Bz.out⟩
  · have hz : (checkRs q != 0) = true := by simpa using h0
    obtain ⟨Ab, cb, rfl, _, _⟩ := own_cells hob
    clear h0
    go_wp2
    go_ret
    exact ⟨rfl, B1.out⟩
theorem law_book (CK : KnownOk) (A C D : Option Addr) (n c k c2 m d : Nat) (q : Rq) (r : Rs) (ys : List Int) (W : World) (hT : W.cell? ⟨0, 0, none⟩ = some tyErr) (hq : RqA W A n q) (hr : RsA W C k r)
    (hm : ys.length = m) (hy : CellsAt W D (bvs ys)) (hw : ∀ x ∈ ys, (Lit.int .u8 x).wf = true) :
    Calls Tryz.prog 5 #[.agg (rqC (.slice A n c) q), .agg (rsC (.slice C k c2) r), .slice D m d] W fun e w' => e = .returned (.bool true) ∧ Below W.heap.size W w' := by
  have HBX := Lh (box2 W 29 39 (rqC (.slice A n c) q) (rsC (.slice C k c2) r))
  have HT := Lh (fun (W9 : World) (h : Below W.heap.size W W9) => (h.cell (p := ⟨0, 0, none⟩) (World.block_lt_of_cell? W _ hT)).trans hT)
  have HQ := Lh (fun (W9 : World) (h : Below W.heap.size W W9) => hq.below h)
  have HR := Lh (fun (W9 : World) (h : Below W.heap.size W W9) => hr.below h)
  have HY := Lh (fun (W9 : World) (h : Below W.heap.size W W9) => hy.below h)
  have HM := Lh hm
  have HW := Lh (byt_of hw)
  have CK := Lh CK
  have hn9 := hq.big
  have hk9 := hr.big
  clear hT hq hr hm hy hw
  go_enter Tryz.func5, Tryz.ntmps5
  go_wp2_with fail
  generalize ((W.alloc (.cells (rqC (.slice A n c) q) 29)).alloc (.cells (rsC (.slice C k c2) r) 39)) = W0 at *
  obtain ⟨k1, k2, hb0⟩ := HBX.out
  have B0 := Lh hb0
  go_at_call 6; (with_reducible refine (CK.out _ (HT.out _ B0.out)).mono ?_); rintro e w1 ⟨rfl, hb1⟩
  have B1 := Lh (below_step B0.out hb1 (Nat.le_refl _))
  have K2 := Lh (k2.kept hb1)
  have hqc : ∀ i, w1.cell? ⟨W.heap.size, i, none⟩ = (rqC (.slice A n c) q)[i]? := (k1.kept hb1).cell
  have hrc : ∀ i, w1.cell? ⟨W.heap.size + 1, i, none⟩ = (rsC (.slice C k c2) r)[i]? := K2.out.cell
  clear k1 k2 hb0 HBX hb1
  by_cases h1 : 300 < n
  · go_wp2
    go_ret
    exact ⟨rfl, B1.out⟩
  · by_cases h2 : 300 < k
    · go_wp2
      go_ret
      exact ⟨rfl, B1.out⟩
    · by_cases h3 : 16384 < m
      · go_wp2
        go_ret
        exact ⟨rfl, B1.out⟩
      · go_wp2_with fail
        go_at_call 19; (with_reducible refine (requests_any A D n c m d q ys w1 (HT.out _ B1.out) (HQ.out _ B1.out) (by omega) HM.out (HY.out _ B1.out) HW.out (by omega)).mono ?_); rintro e w2 ⟨rfl, hb2⟩
        have B2 := Lh (below_step B1.out hb2 (Nat.le_refl _))
        clear hqc hrc
        have hrc : ∀ i, w2.cell? ⟨W.heap.size + 1, i, none⟩ = (rsC (.slice C k c2) r)[i]? := (K2.out.kept hb2).cell
        clear hb2
        go_wp2_with fail
        go_at_call 20; (with_reducible refine (responses_any C D k c2 m d r ys w2 (HT.out _ B2.out) (HR.out _ B2.out) (by omega) HM.out (HY.out _ B2.out) HW.out (by omega)).mono ?_); rintro e w3 ⟨rfl, hb3⟩
        have B3 := Lh (below_step B2.out hb3 (Nat.le_refl _))
        clear hb3
        go_wp2
        go_ret
        exact ⟨rfl, B3.out⟩
end Go.Proofs.YteffpfgdoganpaaGreatDoor
