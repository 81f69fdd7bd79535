/- DecodeResponse: the walk; rows; joined. -/
import Derived.Test.YteffpfgdoganpaaDoorCPls
namespace Go.Proofs.YteffpfgdoganpaaDoor
open Go.RowKit

set_option maxHeartbeats 8000000 in
set_option maxRecDepth 100000 in
theorem decode_rs_rows (A : Option Addr) (n c : Nat) (xs : List Int) (hk : (kindD xs).1 = 1) (W : World) (hl : xs.length = n) (h : CellsAt W A (bvs xs)) (hw : ∀ x ∈ xs, (Lit.int .u8 x).wf = true) (hn : n ≤ 211106232532992) (hT : W.cell? ⟨0, 0, none⟩ = some tyErr) :
    Calls Tryd.prog 28 #[.slice A n c] W (DesQ W (decRs xs)) := by
  have HR0 := Lib.hid (Blk.new W 32 #[.int .i64 0, .int .i64 0, .int .i64 0, .int .i64 0, .slice none 0 0, .int .i64 0, .int .i64 0, .int .i64 0, .int .i64 0, .int .i64 0, .int .i64 0])
  have CR := Lib.hid (rd_read A n c xs (W.alloc (.cells #[.int .i64 0, .int .i64 0, .int .i64 0, .int .i64 0, .slice none 0 0, .int .i64 0, .int .i64 0, .int .i64 0, .int .i64 0, .int .i64 0, .int .i64 0] 32)) hl (h.below ((Below.refl _ _).alloc (Nat.le_refl _) _)) hw hn (((Below.refl W.heap.size W).alloc (Nat.le_refl _) _).cell (World.block_lt_of_cell? W _ hT) ▸ hT))
  have HTL := Lib.hid (World.block_lt_of_cell? W _ hT)
  have HKN := Lib.hid hk
  have hta1 := ta_rows
  clear h hw hn hT hk
  go_enter Tryd.func28, Tryd.ntmps28
  go_wp2_with fail
  go_at_call 57; (with_reducible refine CR.out.mono ?_); rintro e w1 ⟨q, A1, c1, rfl, hq, hr, hA1, hb⟩
  have HB1 := Lib.hid (((Below.refl W.heap.size W).alloc (Nat.le_refl _) (.cells #[.int .i64 0, .int .i64 0, .int .i64 0, .int .i64 0, .slice none 0 0, .int .i64 0, .int .i64 0, .int .i64 0, .int .i64 0, .int .i64 0, .int .i64 0] 32)).trans (hb.mono (by simp)))
  have HR1 := Lib.hid (HR0.out.kept hb)
  have HD1 := Lib.hid hr
  have HA1 := Lib.hid hA1
  have hqR : W.heap.size < q := by have : (W.alloc (.cells #[.int .i64 0, .int .i64 0, .int .i64 0, .int .i64 0, .slice none 0 0, .int .i64 0, .int .i64 0, .int .i64 0, .int .i64 0, .int .i64 0, .int .i64 0] 32)).heap.size = W.heap.size + 1 := by simp
                                   omega
  have HI2 := Lib.hid (Blk.new w1 116 #[.pointer (some ⟨q, 0, none⟩)])
  have hci := HI2.out.cell
  clear hb hr hA1 HR0 CR
  go_wp2_with fail
  go_at_call 58; (with_reducible refine (in_num (HD1.out.alloc (.cells #[.pointer (some ⟨q, 0, none⟩)] 116))).mono ?_); rintro e w3 ⟨rfl, fv3, hr, hf⟩
  have hIq : w1.heap.size ≠ q := by have := HD1.out.blk.lt; omega
  have HI3 := Lib.hid (hf.blk HI2.out hIq)
  have HR3 := Lib.hid (hf.blk (HR1.out.alloc (.cells #[.pointer (some ⟨q, 0, none⟩)] 116)) (by omega))
  have HB3 := Lib.hid (HB1.out.trans (((RdFr.alloc0 w1 q .nilIface (.cells #[.pointer (some ⟨q, 0, none⟩)] 116)).trans hf).1.below HB1.out.size (fun k e => by omega)))
  have hs3 : w1.heap.size < w3.heap.size := HI3.out.lt
  have HD3 := Lib.hid hr
  have hRI : W.heap.size ≤ w1.heap.size := HB1.out.size
  have HA3 := Lib.hid (show ∀ ad, A1 = some ad → ad.block < w1.heap.size from fun ad e => (HA1.out ad e).2)
  have hq1 : q < w1.heap.size := HD1.out.blk.lt
  have hTR := HTL.out
  have HKD := Lib.hid (show kindD xs = numP xs M40 ⟨0, none⟩ from rfl)
  clear hr hf HI2 HR1 HD1 HA1 HB1 hci hq
  generalize numP xs M40 ⟨0, none⟩ = y at *
  obtain ⟨k0, s1⟩ := y
  dsimp only at HD3 ⊢
  rw [HKD.out] at HKN
  generalize hI : w1.heap.size = bI at *
  have HI0 := Lib.hid (HI3.out.alloc (.cells #[.int .i64 (k0 : Int), .int .i64 0, .int .i64 0, .int .i64 0, .slice none 0 0, .int .i64 0, .int .i64 0, .int .i64 0, .int .i64 0, .int .i64 0, .int .i64 0] 32))
  have HR0 := Lib.hid (HR3.out.alloc (.cells #[.int .i64 (k0 : Int), .int .i64 0, .int .i64 0, .int .i64 0, .slice none 0 0, .int .i64 0, .int .i64 0, .int .i64 0, .int .i64 0, .int .i64 0, .int .i64 0] 32))
  have HB0 := Lib.hid (HB3.out.alloc (by omega) (.cells #[.int .i64 (k0 : Int), .int .i64 0, .int .i64 0, .int .i64 0, .slice none 0 0, .int .i64 0, .int .i64 0, .int .i64 0, .int .i64 0, .int .i64 0, .int .i64 0] 32))
  have HX0 := Lib.hid (RsIs.start (r := ⟨(k0 : Int), 0, 0, 0, [], st0⟩) (Blk.new w3 32 #[.int .i64 (k0 : Int), .int .i64 0, .int .i64 0, .int .i64 0, .slice none 0 0, .int .i64 0, .int .i64 0, .int .i64 0, .int .i64 0, .int .i64 0, .int .i64 0]) rfl (HD3.out.alloc (.cells #[.int .i64 (k0 : Int), .int .i64 0, .int .i64 0, .int .i64 0, .slice none 0 0, .int .i64 0, .int .i64 0, .int .i64 0, .int .i64 0, .int .i64 0, .int .i64 0] 32)) (by omega) (fun ad e => by have := HA3.out ad e; simp; omega) (by omega))
  have hs0 : (w3.alloc (.cells #[.int .i64 (k0 : Int), .int .i64 0, .int .i64 0, .int .i64 0, .slice none 0 0, .int .i64 0, .int .i64 0, .int .i64 0, .int .i64 0, .int .i64 0, .int .i64 0] 32)).heap.size = w3.heap.size + 1 := by simp
  have hcb : ∀ i, (w3.alloc (.cells #[.int .i64 (k0 : Int), .int .i64 0, .int .i64 0, .int .i64 0, .slice none 0 0, .int .i64 0, .int .i64 0, .int .i64 0, .int .i64 0, .int .i64 0, .int .i64 0] 32)).cell? ⟨w3.heap.size, i, none⟩ = (#[.int .i64 (k0 : Int), .int .i64 0, .int .i64 0, .int .i64 0, .slice none 0 0, .int .i64 0, .int .i64 0, .int .i64 0, .int .i64 0, .int .i64 0, .int .i64 0] : Array Value)[i]? := (Blk.new w3 32 #[.int .i64 (k0 : Int), .int .i64 0, .int .i64 0, .int .i64 0, .slice none 0 0, .int .i64 0, .int .i64 0, .int .i64 0, .int .i64 0, .int .i64 0, .int .i64 0]).cell
  have hci := HI3.out.cell
  go_wp2_with fail
  generalize hb : w3.heap.size = b at *
  generalize w3.alloc (.cells #[.int .i64 (k0 : Int), .int .i64 0, .int .i64 0, .int .i64 0, .slice none 0 0, .int .i64 0, .int .i64 0, .int .i64 0, .int .i64 0, .int .i64 0, .int .i64 0] 32) = W0 at *
  clear HR3 HB3 HI3 HD3 hci hcb hb
  go_at_call 39; (with_reducible refine (tells_rows none 0 0 ⟨(k0 : Int), 0, 0, 0, [], ⟨0, 0, 0, 0, 0, 0⟩⟩ (by have := HKN.out; show (k0 : Int) = 1; omega) _).mono ?_); rintro e w4 ⟨rfl, hb4⟩
  have HX4 := Lib.hid (fun o : Obj => (HX0.out.kept hb4).alloc o)
  have HI4 := Lib.hid (fun o : Obj => (HI0.out.kept hb4).alloc o)
  have HR4 := Lib.hid (fun o : Obj => (HR0.out.kept hb4).alloc o)
  have HB4 := Lib.hid (fun o : Obj => ((HB0.out.trans (hb4.mono HB0.out.size)).alloc (Nat.le_trans HB0.out.size hb4.size) o))
  clear hb4
  have hci : ∀ (o : Obj) i, (w4.alloc o).cell? ⟨bI, i, none⟩ = (#[.pointer (some ⟨q, 0, none⟩)] : Array Value)[i]? := fun o => (HI4.out o).cell
  have hRq : W.heap.size ≠ q := by omega
  have hRb : W.heap.size ≠ b := by omega
  have hIb : bI ≠ b := by omega
  go_wp2_with fail
  go_at_call 58; (with_reducible refine (in_num (HX4.out _).rd).mono ?_); rintro e w5 ⟨rfl, fv5, hr, hf⟩
  have HX5 := Lib.hid ((HX4.out _).read (by omega) hr hf)
  clear hr hf hci HX4 HI4 HR4 HB4
  have HID := Lib.hid (show numP xs M40 s1 = numP xs M40 s1 from rfl)
  generalize hid : numP xs M40 s1 = y at *
  clear HID
  have HID := Lib.hid hid
  clear hid
  obtain ⟨id0, s2⟩ := y
  dsimp only at HX5 ⊢
  have hcb := HX5.out.blk.cell
  have hfb := HX5.out.blk.frozen
  have HX6 := Lib.hid (HX5.out.set_ (r1 := ⟨(k0 : Int), (id0 : Int), 0, 0, [], st0⟩) 1 (.int .i64 (id0 : Int)) rfl HX5.out.rows)
  have HI6 := Lib.hid (HI0.out.tur HX6.out.tur (by omega))
  have hci := HI6.out.cell
  go_wp2_with fail
  generalize hw6 : w5.setCell ⟨b, 1, none⟩ (.int .i64 (id0 : Int)) = w6 at *
  clear hw6 hcb hfb hci HX5 HI6
  go_at_call 63; (with_reducible refine (in_count HX6.out.rd 256).mono ?_); rintro e w7 ⟨rfl, fv7, hr, hf⟩
  have HX7 := Lib.hid (HX6.out.read (by omega) hr hf)
  have HCL := Lib.hid (countP_le xs 256 s2)
  have HCP := Lib.hid (show countP xs 256 s2 = countP xs 256 s2 from rfl)
  clear hr hf HX6
  generalize hy : (countP xs 256 s2) = y at *
  clear HCP
  have HCP := Lib.hid hy
  obtain ⟨cnt, s3⟩ := y
  clear hy
  dsimp only at HX7 HCL ⊢
  have HX70 := Lib.hid (show RsIs W0 q b A1 n c1 xs ⟨(k0 : Int), (id0 : Int), 0, 0, (iterG rowD xs 0 ([], s3)).1, st0⟩ (iterG rowD xs 0 ([], s3)).2 fv7 nilS w7 from HX7.out)
  clear HX7
  go_wp2
  go_loopw [42] (fun t42 wz => ∃ k : Nat, t42 = .int .i64 (k : Int) ∧ k ≤ cnt ∧ Hid (∃ fz vz, RsIs W0 q b A1 n c1 xs ⟨(k0 : Int), (id0 : Int), 0, 0, (iterG rowD xs k ([], s3)).1, st0⟩ (iterG rowD xs k ([], s3)).2 fz vz wz)) (fun t42 _ => cnt - (intOf t42).toNat)
  case atStart => exact ⟨0, rfl, Nat.zero_le _, Lib.hid ⟨fv7, nilS, HX70.out⟩⟩
  case round =>
    obtain ⟨k, rfl, hk, HP0⟩ := hrel
    obtain ⟨fz, vz, hP⟩ := HP0.out
    have HP := Lib.hid hP
    clear HP0 hP
    rename World => wz
    have h256 : cnt ≤ 256 := HCL.out
    have LK := Lib.hid (iterG_len (f := rowD) xs ([], s3) k)
    have HSTEP := Lib.hid (show iterG rowD xs (k + 1) ([], s3) = stepG rowD xs (iterG rowD xs k ([], s3)) from rfl)
    have HIz := Lib.hid (HI0.out.tur HP.out.tur (by omega))
    have hci := HIz.out.cell
    by_cases hkn : k < cnt
    · generalize iterG rowD xs k ([], s3) = st at *
      obtain ⟨l, sz⟩ := st
      dsimp only at HP LK
      go_wp2_with fail
      go_at_call 61; (with_reducible refine (rd_err HP.out.rd).mono ?_); rintro e w8 ⟨hb8, he⟩
      have H4 := Lib.hid (HP.out.kept hb8)
      have HI4 := Lib.hid (HIz.out.kept hb8)
      clear hb8 hci HP HIz
      rcases hfz : sz.fault with _ | ⟨ec, ep⟩
      · rw [hfz] at he
        obtain rfl := he
        have HS2 := Lib.hid (show iterG rowD xs (k + 1) ([], s3) = (l ++ [⟨(cellP xs sz).1, (intP xs (cellP xs sz).2).1, (intP xs (intP xs (cellP xs sz).2).2).1, (intP xs (intP xs (intP xs (cellP xs sz).2).2).2).1, (intP xs (intP xs (intP xs (intP xs (cellP xs sz).2).2).2).2).1⟩], (intP xs (intP xs (intP xs (intP xs (cellP xs sz).2).2).2).2).2) by rw [HSTEP.out]; unfold stepG; rw [if_neg (by simp [hfz])]; rfl)
        have hci := HI4.out.cell
        go_wp2_with fail
        clear hci
        obtain ⟨ic, zc, hic, hzc, hz1, hz2, hz3⟩ := info_row
        (refine wp_region_held_drew (S := fun w9 => Blk w9 bI 116 #[.pointer (some ⟨q, 0, none⟩)]) (by kernel_rfl) HI4.out.drew (fun hHeld => ?_))
        have HG0 := Lib.hid (H4.out.kept (Below.refl _ _).drew)
        have HJ0 := Lib.hid HI4.out.drew
        clear H4 HI4
        (refine take_q (i := 0) (d := 48) (v := ?v113) rfl rfl (by kernel_rfl) (by kernel_rfl) (by kernel_rfl) (fun _ _ _ h => h) (by kernel_rfl) ?hy113 (by assumption) ?rest113)
        case hy113 => (intro w9 hSw; first | (go_simp; done) | (go_simp; with_reducible rfl))
        ((try simp only [Act.put]); (try simp only [List.setIfInBounds_toArray]); (try simp only [List.set_cons_succ]); (try simp only [List.set_cons_zero]))
        (refine take_q (i := 2) (d := 50) (v := ?v114) rfl rfl (by kernel_rfl) (by kernel_rfl) (by kernel_rfl) (fun _ _ _ h => h) (by kernel_rfl) ?hy114 (by assumption) ?rest114)
        case hy114 => (intro w9 hSw; have hc9 := Blk.cell hSw; clear hSw; first | (go_simp; done) | (go_simp; with_reducible rfl))
        ((try simp only [Act.put]); (try simp only [List.setIfInBounds_toArray]); (try simp only [List.set_cons_succ]); (try simp only [List.set_cons_zero]))
        (refine take_q (i := 4) (d := 52) (v := ?v115) rfl rfl (by kernel_rfl) (by kernel_rfl) (by kernel_rfl) (fun _ _ _ h => h) (by kernel_rfl) ?hy115 (by assumption) ?rest115)
        case hy115 => (intro w9 hSw; first | (go_simp; done) | (go_simp; with_reducible rfl))
        ((try simp only [Act.put]); (try simp only [List.setIfInBounds_toArray]); (try simp only [List.set_cons_succ]); (try simp only [List.set_cons_zero]))
        (refine take_q (i := 5) (d := 53) (v := ?v116) rfl rfl (by kernel_rfl) (by kernel_rfl) (by kernel_rfl) (fun _ _ _ h => h) (by kernel_rfl) ?hy116 (by assumption) ?rest116)
        case hy116 => (intro w9 hSw; have hc9 := Blk.cell hSw; clear hSw; first | (go_simp; done) | (go_simp; with_reducible rfl))
        ((try simp only [Act.put]); (try simp only [List.setIfInBounds_toArray]); (try simp only [List.set_cons_succ]); (try simp only [List.set_cons_zero]))
        (refine take_q (i := 7) (d := 55) (v := ?v117) rfl rfl (by kernel_rfl) (by kernel_rfl) (by kernel_rfl) (fun _ _ _ h => h) (by kernel_rfl) ?hy117 (by assumption) ?rest117)
        case hy117 => (intro w9 hSw; first | (go_simp; done) | (go_simp; with_reducible rfl))
        ((try simp only [Act.put]); (try simp only [List.setIfInBounds_toArray]); (try simp only [List.set_cons_succ]); (try simp only [List.set_cons_zero]))
        (refine take_q (i := 8) (d := 56) (v := ?v118) rfl rfl (by kernel_rfl) (by kernel_rfl) (by kernel_rfl) (fun _ _ _ h => h) (by kernel_rfl) ?hy118 (by assumption) ?rest118)
        case hy118 => (intro w9 hSw; have hc9 := Blk.cell hSw; clear hSw; first | (go_simp; done) | (go_simp; with_reducible rfl))
        ((try simp only [Act.put]); (try simp only [List.setIfInBounds_toArray]); (try simp only [List.set_cons_succ]); (try simp only [List.set_cons_zero]))
        (refine take_q (i := 10) (d := 58) (v := ?v119) rfl rfl (by kernel_rfl) (by kernel_rfl) (by kernel_rfl) (fun _ _ _ h => h) (by kernel_rfl) ?hy119 (by assumption) ?rest119)
        case hy119 => (intro w9 hSw; first | (go_simp; done) | (go_simp; with_reducible rfl))
        ((try simp only [Act.put]); (try simp only [List.setIfInBounds_toArray]); (try simp only [List.set_cons_succ]); (try simp only [List.set_cons_zero]))
        (refine take_q (i := 11) (d := 59) (v := ?v120) rfl rfl (by kernel_rfl) (by kernel_rfl) (by kernel_rfl) (fun _ _ _ h => h) (by kernel_rfl) ?hy120 (by assumption) ?rest120)
        case hy120 => (intro w9 hSw; have hc9 := Blk.cell hSw; clear hSw; first | (go_simp; done) | (go_simp; with_reducible rfl))
        ((try simp only [Act.put]); (try simp only [List.setIfInBounds_toArray]); (try simp only [List.set_cons_succ]); (try simp only [List.set_cons_zero]))
        (refine take_q (i := 13) (d := 61) (v := ?v121) rfl rfl (by kernel_rfl) (by kernel_rfl) (by kernel_rfl) (fun _ _ _ h => h) (by kernel_rfl) ?hy121 (by assumption) ?rest121)
        case hy121 => (intro w9 hSw; first | (go_simp; done) | (go_simp; with_reducible rfl))
        ((try simp only [Act.put]); (try simp only [List.setIfInBounds_toArray]); (try simp only [List.set_cons_succ]); (try simp only [List.set_cons_zero]))
        (refine take_q (i := 14) (d := 62) (v := ?v122) rfl rfl (by kernel_rfl) (by kernel_rfl) (by kernel_rfl) (fun _ _ _ h => h) (by kernel_rfl) ?hy122 (by assumption) ?rest122)
        case hy122 => (intro w9 hSw; have hc9 := Blk.cell hSw; clear hSw; first | (go_simp; done) | (go_simp; with_reducible rfl))
        ((try simp only [Act.put]); (try simp only [List.setIfInBounds_toArray]); (try simp only [List.set_cons_succ]); (try simp only [List.set_cons_zero]))
        (refine wpAnyH_ready (rs := [1, 3]) (by kernel_rfl) (by simp) ?_)
        refine AllReadyH.cons (o := _) rfl (fun K hK => ?_) (AllReadyH.cons (o := _) rfl (fun K hK => ?_) AllReadyH.nil)
        · have hcb := HG0.out.blk.cell
          go_simp
          clear hcb
          (refine hK.out _ _ HJ0.out (fun hHeld => ?_))
          clear hK K
          ((try simp only [Act.put]); (try simp only [List.setIfInBounds_toArray]); (try simp only [List.set_cons_succ]); (try simp only [List.set_cons_zero]))
          (refine wpAnyH_ready (rs := [3]) (by kernel_rfl) (by simp) ?_)
          (refine AllReadyH.cons (o := _) rfl (fun K hK => ?_) AllReadyH.nil)
          go_simp
          (with_reducible refine (in_cell HG0.out.rd (fun ad e => by have := (HG0.out.bA ad e).2; have := HG0.out.tur.size; omega)).mono ?_)
          rintro e wa1 ⟨rfl, fva1, hr, hf⟩
          have HG1 := Lib.hid (HG0.out.read (by omega) hr hf)
          have HJ1 := Lib.hid (hf.blk HJ0.out hIq)
          clear hr hf
          generalize (cellP xs sz) = y at *
          obtain ⟨x, sa1⟩ := y
          dsimp only at HG1 HS2
          go_simp
          (refine hK.out _ _ HJ1.out (fun hHeld => ?_))
          clear hK K
          (try dsimp only)
          (refine wpAnyH_ready (rs := [6]) (by kernel_rfl) (by simp) ?_)
          (refine AllReadyH.cons (o := _) rfl (fun K hK => ?_) AllReadyH.nil)
          go_simp
          (with_reducible refine (rd_int HG1.out.rd).mono ?_)
          rintro e wa2 ⟨rfl, fva2, hr, hf⟩
          have HG2 := Lib.hid (HG1.out.read (by omega) hr hf)
          have HJ2 := Lib.hid (hf.blk HJ1.out hIq)
          clear hr hf
          generalize (intP xs sa1) = y at *
          obtain ⟨y1, sa2⟩ := y
          dsimp only at HG2 HS2
          go_simp
          (refine hK.out _ _ HJ2.out (fun hHeld => ?_))
          clear hK K
          (try dsimp only)
          (refine wpAnyH_ready (rs := [9]) (by kernel_rfl) (by simp) ?_)
          (refine AllReadyH.cons (o := _) rfl (fun K hK => ?_) AllReadyH.nil)
          go_simp
          (with_reducible refine (rd_int HG2.out.rd).mono ?_)
          rintro e wa3 ⟨rfl, fva3, hr, hf⟩
          have HG3 := Lib.hid (HG2.out.read (by omega) hr hf)
          have HJ3 := Lib.hid (hf.blk HJ2.out hIq)
          clear hr hf
          generalize (intP xs sa2) = y at *
          obtain ⟨y2, sa3⟩ := y
          dsimp only at HG3 HS2
          go_simp
          (refine hK.out _ _ HJ3.out (fun hHeld => ?_))
          clear hK K
          (try dsimp only)
          (refine wpAnyH_ready (rs := [12]) (by kernel_rfl) (by simp) ?_)
          (refine AllReadyH.cons (o := _) rfl (fun K hK => ?_) AllReadyH.nil)
          go_simp
          (with_reducible refine (rd_int HG3.out.rd).mono ?_)
          rintro e wa4 ⟨rfl, fva4, hr, hf⟩
          have HG4 := Lib.hid (HG3.out.read (by omega) hr hf)
          have HJ4 := Lib.hid (hf.blk HJ3.out hIq)
          clear hr hf
          generalize (intP xs sa3) = y at *
          obtain ⟨y3, sa4⟩ := y
          dsimp only at HG4 HS2
          go_simp
          (refine hK.out _ _ HJ4.out (fun hHeld => ?_))
          clear hK K
          (try dsimp only)
          (refine wpAnyH_ready (rs := [15]) (by kernel_rfl) (by simp) ?_)
          (refine AllReadyH.cons (o := _) rfl (fun K hK => ?_) AllReadyH.nil)
          go_simp
          (with_reducible refine (rd_int HG4.out.rd).mono ?_)
          rintro e wa5 ⟨rfl, fva5, hr, hf⟩
          have HG5 := Lib.hid (HG4.out.read (by omega) hr hf)
          have HJ5 := Lib.hid (hf.blk HJ4.out hIq)
          clear hr hf
          generalize (intP xs sa4) = y at *
          obtain ⟨y4, sa5⟩ := y
          dsimp only at HG5 HS2
          go_simp
          (refine hK.out _ _ HJ5.out (fun hHeld => ?_))
          clear hK K
          (try dsimp only)
          (refine take_q (i := 16) (d := 64) (v := ?v123) rfl rfl (by kernel_rfl) (by kernel_rfl) (by kernel_rfl) (fun _ _ _ h => h) (by kernel_rfl) ?hy123 (by assumption) ?rest123)
          case hy123 => (intro w9 hSw; first | (go_simp; done) | (go_simp; with_reducible rfl))
          ((try simp only [Act.put]); (try simp only [List.setIfInBounds_toArray]); (try simp only [List.set_cons_succ]); (try simp only [List.set_cons_zero]))
          (refine take_q (i := 17) (d := 65) (v := ?v124) rfl rfl (by kernel_rfl) (by kernel_rfl) (by kernel_rfl) (fun _ _ _ h => h) (by kernel_rfl) ?hy124 (by assumption) ?rest124)
          case hy124 => (intro w9 hSw; first | (go_simp; done) | (go_simp; with_reducible rfl))
          ((try simp only [Act.put]); (try simp only [List.setIfInBounds_toArray]); (try simp only [List.set_cons_succ]); (try simp only [List.set_cons_zero]))
          (refine wpAnyH_ready (rs := [18]) (by kernel_rfl) (by simp) ?_)
          (refine AllReadyH.cons (o := _) rfl (fun K hK => ?_) AllReadyH.nil)
          go_simp
          have HN6 := Lib.hid (Blk.new wa5 67 #[.int .i64 x.view, .string x.key, .int .i64 x.start, .int .i64 y1, .int .i64 y2, .int .i64 y3, .int .i64 y4])
          have H6 := Lib.hid (HG5.out.alloc (.cells #[.int .i64 x.view, .string x.key, .int .i64 x.start, .int .i64 y1, .int .i64 y2, .int .i64 y3, .int .i64 y4] 67))
          have HI6 := Lib.hid (HJ5.out.alloc (.cells #[.int .i64 x.view, .string x.key, .int .i64 x.start, .int .i64 y1, .int .i64 y2, .int .i64 y3, .int .i64 y4] 67))
          generalize hw6 : wa5.alloc (.cells #[.int .i64 x.view, .string x.key, .int .i64 x.start, .int .i64 y1, .int .i64 y2, .int .i64 y3, .int .i64 y4] 67) = wa6 at *
          generalize wa5.heap.size = jn at *
          (refine hK.out _ _ HI6.out (fun hHeld => ?_))
          clear hK K
          ((try simp only [Act.put]); (try simp only [List.setIfInBounds_toArray]); (try simp only [List.set_cons_succ]); (try simp only [List.set_cons_zero]))
          (refine wpAnyH_ready (rs := [19]) (by kernel_rfl) (by simp) ?_)
          (refine AllReadyH.cons (o := _) rfl (fun K hK => ?_) AllReadyH.nil)
          refine want_ (by kernel_rfl) ?_
          refine wp_append_at _ _ _ rfl W0.heap.size _ ic zc 7 64 Tryd.underlying28 hic hzc hz1 hz2 hz3 (by decide) vz l.length (rowCs l) rfl H6.out.rows ⟨jn, 0, none⟩ 1 1 (RowV.cells ⟨x, y1, y2, y3, y4⟩) rfl rfl (rows_one_c (x := ⟨x, y1, y2, y3, y4⟩) HN6.out) (rows_one1 _) (by have := LK.out; simp at this; unfold maxLen; omega) (by have := LK.out; simp at this; omega) H6.out.tur.size ?_
          intro v7 w7 hown hg hv
          obtain ⟨A7, c7, rfl⟩ := own_form3 hown
          have HB7 := Lib.hid (H6.out.blk.grown hg (H6.out.own_ne H6.out.blk (by decide)))
          have HI7 := Lib.hid (HI6.out.grown hg (H6.out.own_ne HI6.out (by decide)))
          have H8 := Lib.hid (H6.out.grown (x := ⟨x, y1, y2, y3, y4⟩) (by omega) (by omega) hg hown)
          clear hown hg hv
          (refine hK.out _ _ HI7.out (fun hHeld => ?_))
          clear hK K
          ((try simp only [Act.put]); (try simp only [List.setIfInBounds_toArray]); (try simp only [List.set_cons_succ]); (try simp only [List.set_cons_zero]))
          (refine take_q (i := 20) (d := 68) (v := ?v125) rfl rfl (by kernel_rfl) (by kernel_rfl) (by kernel_rfl) (fun _ _ _ h => h) (by kernel_rfl) ?hy125 (by assumption) ?rest125)
          case hy125 => (intro w9 hSw; first | (go_simp; done) | (go_simp; with_reducible rfl))
          ((try simp only [Act.put]); (try simp only [List.setIfInBounds_toArray]); (try simp only [List.set_cons_succ]); (try simp only [List.set_cons_zero]))
          have hcb := HB7.out.cell
          have hfb := HB7.out.frozen
          (refine wpAnyH_ready (rs := [21]) (by kernel_rfl) (by simp) ?_)
          (refine AllReadyH.cons (o := _) rfl (fun K hK => ?_) AllReadyH.nil)
          go_simp
          have HI8 := Lib.hid (HI7.out.far (p := ⟨b, 4, none⟩) hIb (.slice A7 (l.length + 1) c7))
          clear hcb hfb
          (refine hK.out _ _ HI8.out (fun hHeld => ?_))
          clear hK K
          (refine wpAnyH_done (by kernel_rfl) ?_ _)
          go_wp2
          go_roundw
          case rel => exact ⟨k + 1, by go_num, by omega, Lib.hid ⟨_, _, by rw [HS2.out]; exact H8.out⟩⟩
          case measure => simp [intOf]; omega
        · go_simp
          (with_reducible refine (in_cell HG0.out.rd (fun ad e => by have := (HG0.out.bA ad e).2; have := HG0.out.tur.size; omega)).mono ?_)
          rintro e wa1 ⟨rfl, fva1, hr, hf⟩
          have HG1 := Lib.hid (HG0.out.read (by omega) hr hf)
          have HJ1 := Lib.hid (hf.blk HJ0.out hIq)
          clear hr hf
          generalize (cellP xs sz) = y at *
          obtain ⟨x, sa1⟩ := y
          dsimp only at HG1 HS2
          go_simp
          (refine hK.out _ _ HJ1.out (fun hHeld => ?_))
          clear hK K
          (try dsimp only)
          (refine wpAnyH_ready (rs := [1, 6]) (by kernel_rfl) (by simp) ?_)
          refine AllReadyH.cons (o := _) rfl (fun K hK => ?_) (AllReadyH.cons (o := _) rfl (fun K hK => ?_) AllReadyH.nil)
          · have hcb := HG1.out.blk.cell
            go_simp
            clear hcb
            (refine hK.out _ _ HJ1.out (fun hHeld => ?_))
            clear hK K
            ((try simp only [Act.put]); (try simp only [List.setIfInBounds_toArray]); (try simp only [List.set_cons_succ]); (try simp only [List.set_cons_zero]))
            (refine wpAnyH_ready (rs := [6]) (by kernel_rfl) (by simp) ?_)
            (refine AllReadyH.cons (o := _) rfl (fun K hK => ?_) AllReadyH.nil)
            go_simp
            (with_reducible refine (rd_int HG1.out.rd).mono ?_)
            rintro e wa2 ⟨rfl, fva2, hr, hf⟩
            have HG2 := Lib.hid (HG1.out.read (by omega) hr hf)
            have HJ2 := Lib.hid (hf.blk HJ1.out hIq)
            clear hr hf
            generalize (intP xs sa1) = y at *
            obtain ⟨y1, sa2⟩ := y
            dsimp only at HG2 HS2
            go_simp
            (refine hK.out _ _ HJ2.out (fun hHeld => ?_))
            clear hK K
            (try dsimp only)
            (refine wpAnyH_ready (rs := [9]) (by kernel_rfl) (by simp) ?_)
            (refine AllReadyH.cons (o := _) rfl (fun K hK => ?_) AllReadyH.nil)
            go_simp
            (with_reducible refine (rd_int HG2.out.rd).mono ?_)
            rintro e wa3 ⟨rfl, fva3, hr, hf⟩
            have HG3 := Lib.hid (HG2.out.read (by omega) hr hf)
            have HJ3 := Lib.hid (hf.blk HJ2.out hIq)
            clear hr hf
            generalize (intP xs sa2) = y at *
            obtain ⟨y2, sa3⟩ := y
            dsimp only at HG3 HS2
            go_simp
            (refine hK.out _ _ HJ3.out (fun hHeld => ?_))
            clear hK K
            (try dsimp only)
            (refine wpAnyH_ready (rs := [12]) (by kernel_rfl) (by simp) ?_)
            (refine AllReadyH.cons (o := _) rfl (fun K hK => ?_) AllReadyH.nil)
            go_simp
            (with_reducible refine (rd_int HG3.out.rd).mono ?_)
            rintro e wa4 ⟨rfl, fva4, hr, hf⟩
            have HG4 := Lib.hid (HG3.out.read (by omega) hr hf)
            have HJ4 := Lib.hid (hf.blk HJ3.out hIq)
            clear hr hf
            generalize (intP xs sa3) = y at *
            obtain ⟨y3, sa4⟩ := y
            dsimp only at HG4 HS2
            go_simp
            (refine hK.out _ _ HJ4.out (fun hHeld => ?_))
            clear hK K
            (try dsimp only)
            (refine wpAnyH_ready (rs := [15]) (by kernel_rfl) (by simp) ?_)
            (refine AllReadyH.cons (o := _) rfl (fun K hK => ?_) AllReadyH.nil)
            go_simp
            (with_reducible refine (rd_int HG4.out.rd).mono ?_)
            rintro e wa5 ⟨rfl, fva5, hr, hf⟩
            have HG5 := Lib.hid (HG4.out.read (by omega) hr hf)
            have HJ5 := Lib.hid (hf.blk HJ4.out hIq)
            clear hr hf
            generalize (intP xs sa4) = y at *
            obtain ⟨y4, sa5⟩ := y
            dsimp only at HG5 HS2
            go_simp
            (refine hK.out _ _ HJ5.out (fun hHeld => ?_))
            clear hK K
            (try dsimp only)
            (refine take_q (i := 16) (d := 64) (v := ?v126) rfl rfl (by kernel_rfl) (by kernel_rfl) (by kernel_rfl) (fun _ _ _ h => h) (by kernel_rfl) ?hy126 (by assumption) ?rest126)
            case hy126 => (intro w9 hSw; first | (go_simp; done) | (go_simp; with_reducible rfl))
            ((try simp only [Act.put]); (try simp only [List.setIfInBounds_toArray]); (try simp only [List.set_cons_succ]); (try simp only [List.set_cons_zero]))
            (refine take_q (i := 17) (d := 65) (v := ?v127) rfl rfl (by kernel_rfl) (by kernel_rfl) (by kernel_rfl) (fun _ _ _ h => h) (by kernel_rfl) ?hy127 (by assumption) ?rest127)
            case hy127 => (intro w9 hSw; first | (go_simp; done) | (go_simp; with_reducible rfl))
            ((try simp only [Act.put]); (try simp only [List.setIfInBounds_toArray]); (try simp only [List.set_cons_succ]); (try simp only [List.set_cons_zero]))
            (refine wpAnyH_ready (rs := [18]) (by kernel_rfl) (by simp) ?_)
            (refine AllReadyH.cons (o := _) rfl (fun K hK => ?_) AllReadyH.nil)
            go_simp
            have HN6 := Lib.hid (Blk.new wa5 67 #[.int .i64 x.view, .string x.key, .int .i64 x.start, .int .i64 y1, .int .i64 y2, .int .i64 y3, .int .i64 y4])
            have H6 := Lib.hid (HG5.out.alloc (.cells #[.int .i64 x.view, .string x.key, .int .i64 x.start, .int .i64 y1, .int .i64 y2, .int .i64 y3, .int .i64 y4] 67))
            have HI6 := Lib.hid (HJ5.out.alloc (.cells #[.int .i64 x.view, .string x.key, .int .i64 x.start, .int .i64 y1, .int .i64 y2, .int .i64 y3, .int .i64 y4] 67))
            generalize hw6 : wa5.alloc (.cells #[.int .i64 x.view, .string x.key, .int .i64 x.start, .int .i64 y1, .int .i64 y2, .int .i64 y3, .int .i64 y4] 67) = wa6 at *
            generalize wa5.heap.size = jn at *
            (refine hK.out _ _ HI6.out (fun hHeld => ?_))
            clear hK K
            ((try simp only [Act.put]); (try simp only [List.setIfInBounds_toArray]); (try simp only [List.set_cons_succ]); (try simp only [List.set_cons_zero]))
            (refine wpAnyH_ready (rs := [19]) (by kernel_rfl) (by simp) ?_)
            (refine AllReadyH.cons (o := _) rfl (fun K hK => ?_) AllReadyH.nil)
            refine want_ (by kernel_rfl) ?_
            refine wp_append_at _ _ _ rfl W0.heap.size _ ic zc 7 64 Tryd.underlying28 hic hzc hz1 hz2 hz3 (by decide) vz l.length (rowCs l) rfl H6.out.rows ⟨jn, 0, none⟩ 1 1 (RowV.cells ⟨x, y1, y2, y3, y4⟩) rfl rfl (rows_one_c (x := ⟨x, y1, y2, y3, y4⟩) HN6.out) (rows_one1 _) (by have := LK.out; simp at this; unfold maxLen; omega) (by have := LK.out; simp at this; omega) H6.out.tur.size ?_
            intro v7 w7 hown hg hv
            obtain ⟨A7, c7, rfl⟩ := own_form3 hown
            have HB7 := Lib.hid (H6.out.blk.grown hg (H6.out.own_ne H6.out.blk (by decide)))
            have HI7 := Lib.hid (HI6.out.grown hg (H6.out.own_ne HI6.out (by decide)))
            have H8 := Lib.hid (H6.out.grown (x := ⟨x, y1, y2, y3, y4⟩) (by omega) (by omega) hg hown)
            clear hown hg hv
            (refine hK.out _ _ HI7.out (fun hHeld => ?_))
            clear hK K
            ((try simp only [Act.put]); (try simp only [List.setIfInBounds_toArray]); (try simp only [List.set_cons_succ]); (try simp only [List.set_cons_zero]))
            (refine take_q (i := 20) (d := 68) (v := ?v128) rfl rfl (by kernel_rfl) (by kernel_rfl) (by kernel_rfl) (fun _ _ _ h => h) (by kernel_rfl) ?hy128 (by assumption) ?rest128)
            case hy128 => (intro w9 hSw; first | (go_simp; done) | (go_simp; with_reducible rfl))
            ((try simp only [Act.put]); (try simp only [List.setIfInBounds_toArray]); (try simp only [List.set_cons_succ]); (try simp only [List.set_cons_zero]))
            have hcb := HB7.out.cell
            have hfb := HB7.out.frozen
            (refine wpAnyH_ready (rs := [21]) (by kernel_rfl) (by simp) ?_)
            (refine AllReadyH.cons (o := _) rfl (fun K hK => ?_) AllReadyH.nil)
            go_simp
            have HI8 := Lib.hid (HI7.out.far (p := ⟨b, 4, none⟩) hIb (.slice A7 (l.length + 1) c7))
            clear hcb hfb
            (refine hK.out _ _ HI8.out (fun hHeld => ?_))
            clear hK K
            (refine wpAnyH_done (by kernel_rfl) ?_ _)
            go_wp2
            go_roundw
            case rel => exact ⟨k + 1, by go_num, by omega, Lib.hid ⟨_, _, by rw [HS2.out]; exact H8.out⟩⟩
            case measure => simp [intOf]; omega
          · go_simp
            (with_reducible refine (rd_int HG1.out.rd).mono ?_)
            rintro e wa2 ⟨rfl, fva2, hr, hf⟩
            have HG2 := Lib.hid (HG1.out.read (by omega) hr hf)
            have HJ2 := Lib.hid (hf.blk HJ1.out hIq)
            clear hr hf
            generalize (intP xs sa1) = y at *
            obtain ⟨y1, sa2⟩ := y
            dsimp only at HG2 HS2
            go_simp
            (refine hK.out _ _ HJ2.out (fun hHeld => ?_))
            clear hK K
            (try dsimp only)
            (refine wpAnyH_ready (rs := [1, 9]) (by kernel_rfl) (by simp) ?_)
            refine AllReadyH.cons (o := _) rfl (fun K hK => ?_) (AllReadyH.cons (o := _) rfl (fun K hK => ?_) AllReadyH.nil)
            · have hcb := HG2.out.blk.cell
              go_simp
              clear hcb
              (refine hK.out _ _ HJ2.out (fun hHeld => ?_))
              clear hK K
              ((try simp only [Act.put]); (try simp only [List.setIfInBounds_toArray]); (try simp only [List.set_cons_succ]); (try simp only [List.set_cons_zero]))
              (refine wpAnyH_ready (rs := [9]) (by kernel_rfl) (by simp) ?_)
              (refine AllReadyH.cons (o := _) rfl (fun K hK => ?_) AllReadyH.nil)
              go_simp
              (with_reducible refine (rd_int HG2.out.rd).mono ?_)
              rintro e wa3 ⟨rfl, fva3, hr, hf⟩
              have HG3 := Lib.hid (HG2.out.read (by omega) hr hf)
              have HJ3 := Lib.hid (hf.blk HJ2.out hIq)
              clear hr hf
              generalize (intP xs sa2) = y at *
              obtain ⟨y2, sa3⟩ := y
              dsimp only at HG3 HS2
              go_simp
              (refine hK.out _ _ HJ3.out (fun hHeld => ?_))
              clear hK K
              (try dsimp only)
              (refine wpAnyH_ready (rs := [12]) (by kernel_rfl) (by simp) ?_)
              (refine AllReadyH.cons (o := _) rfl (fun K hK => ?_) AllReadyH.nil)
              go_simp
              (with_reducible refine (rd_int HG3.out.rd).mono ?_)
              rintro e wa4 ⟨rfl, fva4, hr, hf⟩
              have HG4 := Lib.hid (HG3.out.read (by omega) hr hf)
              have HJ4 := Lib.hid (hf.blk HJ3.out hIq)
              clear hr hf
              generalize (intP xs sa3) = y at *
              obtain ⟨y3, sa4⟩ := y
              dsimp only at HG4 HS2
              go_simp
              (refine hK.out _ _ HJ4.out (fun hHeld => ?_))
              clear hK K
              (try dsimp only)
              (refine wpAnyH_ready (rs := [15]) (by kernel_rfl) (by simp) ?_)
              (refine AllReadyH.cons (o := _) rfl (fun K hK => ?_) AllReadyH.nil)
              go_simp
              (with_reducible refine (rd_int HG4.out.rd).mono ?_)
              rintro e wa5 ⟨rfl, fva5, hr, hf⟩
              have HG5 := Lib.hid (HG4.out.read (by omega) hr hf)
              have HJ5 := Lib.hid (hf.blk HJ4.out hIq)
              clear hr hf
              generalize (intP xs sa4) = y at *
              obtain ⟨y4, sa5⟩ := y
              dsimp only at HG5 HS2
              go_simp
              (refine hK.out _ _ HJ5.out (fun hHeld => ?_))
              clear hK K
              (try dsimp only)
              (refine take_q (i := 16) (d := 64) (v := ?v129) rfl rfl (by kernel_rfl) (by kernel_rfl) (by kernel_rfl) (fun _ _ _ h => h) (by kernel_rfl) ?hy129 (by assumption) ?rest129)
              case hy129 => (intro w9 hSw; first | (go_simp; done) | (go_simp; with_reducible rfl))
              ((try simp only [Act.put]); (try simp only [List.setIfInBounds_toArray]); (try simp only [List.set_cons_succ]); (try simp only [List.set_cons_zero]))
              (refine take_q (i := 17) (d := 65) (v := ?v130) rfl rfl (by kernel_rfl) (by kernel_rfl) (by kernel_rfl) (fun _ _ _ h => h) (by kernel_rfl) ?hy130 (by assumption) ?rest130)
              case hy130 => (intro w9 hSw; first | (go_simp; done) | (go_simp; with_reducible rfl))
              ((try simp only [Act.put]); (try simp only [List.setIfInBounds_toArray]); (try simp only [List.set_cons_succ]); (try simp only [List.set_cons_zero]))
              (refine wpAnyH_ready (rs := [18]) (by kernel_rfl) (by simp) ?_)
              (refine AllReadyH.cons (o := _) rfl (fun K hK => ?_) AllReadyH.nil)
              go_simp
              have HN6 := Lib.hid (Blk.new wa5 67 #[.int .i64 x.view, .string x.key, .int .i64 x.start, .int .i64 y1, .int .i64 y2, .int .i64 y3, .int .i64 y4])
              have H6 := Lib.hid (HG5.out.alloc (.cells #[.int .i64 x.view, .string x.key, .int .i64 x.start, .int .i64 y1, .int .i64 y2, .int .i64 y3, .int .i64 y4] 67))
              have HI6 := Lib.hid (HJ5.out.alloc (.cells #[.int .i64 x.view, .string x.key, .int .i64 x.start, .int .i64 y1, .int .i64 y2, .int .i64 y3, .int .i64 y4] 67))
              generalize hw6 : wa5.alloc (.cells #[.int .i64 x.view, .string x.key, .int .i64 x.start, .int .i64 y1, .int .i64 y2, .int .i64 y3, .int .i64 y4] 67) = wa6 at *
              generalize wa5.heap.size = jn at *
              (refine hK.out _ _ HI6.out (fun hHeld => ?_))
              clear hK K
              ((try simp only [Act.put]); (try simp only [List.setIfInBounds_toArray]); (try simp only [List.set_cons_succ]); (try simp only [List.set_cons_zero]))
              (refine wpAnyH_ready (rs := [19]) (by kernel_rfl) (by simp) ?_)
              (refine AllReadyH.cons (o := _) rfl (fun K hK => ?_) AllReadyH.nil)
              refine want_ (by kernel_rfl) ?_
              refine wp_append_at _ _ _ rfl W0.heap.size _ ic zc 7 64 Tryd.underlying28 hic hzc hz1 hz2 hz3 (by decide) vz l.length (rowCs l) rfl H6.out.rows ⟨jn, 0, none⟩ 1 1 (RowV.cells ⟨x, y1, y2, y3, y4⟩) rfl rfl (rows_one_c (x := ⟨x, y1, y2, y3, y4⟩) HN6.out) (rows_one1 _) (by have := LK.out; simp at this; unfold maxLen; omega) (by have := LK.out; simp at this; omega) H6.out.tur.size ?_
              intro v7 w7 hown hg hv
              obtain ⟨A7, c7, rfl⟩ := own_form3 hown
              have HB7 := Lib.hid (H6.out.blk.grown hg (H6.out.own_ne H6.out.blk (by decide)))
              have HI7 := Lib.hid (HI6.out.grown hg (H6.out.own_ne HI6.out (by decide)))
              have H8 := Lib.hid (H6.out.grown (x := ⟨x, y1, y2, y3, y4⟩) (by omega) (by omega) hg hown)
              clear hown hg hv
              (refine hK.out _ _ HI7.out (fun hHeld => ?_))
              clear hK K
              ((try simp only [Act.put]); (try simp only [List.setIfInBounds_toArray]); (try simp only [List.set_cons_succ]); (try simp only [List.set_cons_zero]))
              (refine take_q (i := 20) (d := 68) (v := ?v131) rfl rfl (by kernel_rfl) (by kernel_rfl) (by kernel_rfl) (fun _ _ _ h => h) (by kernel_rfl) ?hy131 (by assumption) ?rest131)
              case hy131 => (intro w9 hSw; first | (go_simp; done) | (go_simp; with_reducible rfl))
              ((try simp only [Act.put]); (try simp only [List.setIfInBounds_toArray]); (try simp only [List.set_cons_succ]); (try simp only [List.set_cons_zero]))
              have hcb := HB7.out.cell
              have hfb := HB7.out.frozen
              (refine wpAnyH_ready (rs := [21]) (by kernel_rfl) (by simp) ?_)
              (refine AllReadyH.cons (o := _) rfl (fun K hK => ?_) AllReadyH.nil)
              go_simp
              have HI8 := Lib.hid (HI7.out.far (p := ⟨b, 4, none⟩) hIb (.slice A7 (l.length + 1) c7))
              clear hcb hfb
              (refine hK.out _ _ HI8.out (fun hHeld => ?_))
              clear hK K
              (refine wpAnyH_done (by kernel_rfl) ?_ _)
              go_wp2
              go_roundw
              case rel => exact ⟨k + 1, by go_num, by omega, Lib.hid ⟨_, _, by rw [HS2.out]; exact H8.out⟩⟩
              case measure => simp [intOf]; omega
            · go_simp
              (with_reducible refine (rd_int HG2.out.rd).mono ?_)
              rintro e wa3 ⟨rfl, fva3, hr, hf⟩
              have HG3 := Lib.hid (HG2.out.read (by omega) hr hf)
              have HJ3 := Lib.hid (hf.blk HJ2.out hIq)
              clear hr hf
              generalize (intP xs sa2) = y at *
              obtain ⟨y2, sa3⟩ := y
              dsimp only at HG3 HS2
              go_simp
              (refine hK.out _ _ HJ3.out (fun hHeld => ?_))
              clear hK K
              (try dsimp only)
              (refine wpAnyH_ready (rs := [1, 12]) (by kernel_rfl) (by simp) ?_)
              refine AllReadyH.cons (o := _) rfl (fun K hK => ?_) (AllReadyH.cons (o := _) rfl (fun K hK => ?_) AllReadyH.nil)
              · have hcb := HG3.out.blk.cell
                go_simp
                clear hcb
                (refine hK.out _ _ HJ3.out (fun hHeld => ?_))
                clear hK K
                ((try simp only [Act.put]); (try simp only [List.setIfInBounds_toArray]); (try simp only [List.set_cons_succ]); (try simp only [List.set_cons_zero]))
                (refine wpAnyH_ready (rs := [12]) (by kernel_rfl) (by simp) ?_)
                (refine AllReadyH.cons (o := _) rfl (fun K hK => ?_) AllReadyH.nil)
                go_simp
                (with_reducible refine (rd_int HG3.out.rd).mono ?_)
                rintro e wa4 ⟨rfl, fva4, hr, hf⟩
                have HG4 := Lib.hid (HG3.out.read (by omega) hr hf)
                have HJ4 := Lib.hid (hf.blk HJ3.out hIq)
                clear hr hf
                generalize (intP xs sa3) = y at *
                obtain ⟨y3, sa4⟩ := y
                dsimp only at HG4 HS2
                go_simp
                (refine hK.out _ _ HJ4.out (fun hHeld => ?_))
                clear hK K
                (try dsimp only)
                (refine wpAnyH_ready (rs := [15]) (by kernel_rfl) (by simp) ?_)
                (refine AllReadyH.cons (o := _) rfl (fun K hK => ?_) AllReadyH.nil)
                go_simp
                (with_reducible refine (rd_int HG4.out.rd).mono ?_)
                rintro e wa5 ⟨rfl, fva5, hr, hf⟩
                have HG5 := Lib.hid (HG4.out.read (by omega) hr hf)
                have HJ5 := Lib.hid (hf.blk HJ4.out hIq)
                clear hr hf
                generalize (intP xs sa4) = y at *
                obtain ⟨y4, sa5⟩ := y
                dsimp only at HG5 HS2
                go_simp
                (refine hK.out _ _ HJ5.out (fun hHeld => ?_))
                clear hK K
                (try dsimp only)
                (refine take_q (i := 16) (d := 64) (v := ?v132) rfl rfl (by kernel_rfl) (by kernel_rfl) (by kernel_rfl) (fun _ _ _ h => h) (by kernel_rfl) ?hy132 (by assumption) ?rest132)
                case hy132 => (intro w9 hSw; first | (go_simp; done) | (go_simp; with_reducible rfl))
                ((try simp only [Act.put]); (try simp only [List.setIfInBounds_toArray]); (try simp only [List.set_cons_succ]); (try simp only [List.set_cons_zero]))
                (refine take_q (i := 17) (d := 65) (v := ?v133) rfl rfl (by kernel_rfl) (by kernel_rfl) (by kernel_rfl) (fun _ _ _ h => h) (by kernel_rfl) ?hy133 (by assumption) ?rest133)
                case hy133 => (intro w9 hSw; first | (go_simp; done) | (go_simp; with_reducible rfl))
                ((try simp only [Act.put]); (try simp only [List.setIfInBounds_toArray]); (try simp only [List.set_cons_succ]); (try simp only [List.set_cons_zero]))
                (refine wpAnyH_ready (rs := [18]) (by kernel_rfl) (by simp) ?_)
                (refine AllReadyH.cons (o := _) rfl (fun K hK => ?_) AllReadyH.nil)
                go_simp
                have HN6 := Lib.hid (Blk.new wa5 67 #[.int .i64 x.view, .string x.key, .int .i64 x.start, .int .i64 y1, .int .i64 y2, .int .i64 y3, .int .i64 y4])
                have H6 := Lib.hid (HG5.out.alloc (.cells #[.int .i64 x.view, .string x.key, .int .i64 x.start, .int .i64 y1, .int .i64 y2, .int .i64 y3, .int .i64 y4] 67))
                have HI6 := Lib.hid (HJ5.out.alloc (.cells #[.int .i64 x.view, .string x.key, .int .i64 x.start, .int .i64 y1, .int .i64 y2, .int .i64 y3, .int .i64 y4] 67))
                generalize hw6 : wa5.alloc (.cells #[.int .i64 x.view, .string x.key, .int .i64 x.start, .int .i64 y1, .int .i64 y2, .int .i64 y3, .int .i64 y4] 67) = wa6 at *
                generalize wa5.heap.size = jn at *
                (refine hK.out _ _ HI6.out (fun hHeld => ?_))
                clear hK K
                ((try simp only [Act.put]); (try simp only [List.setIfInBounds_toArray]); (try simp only [List.set_cons_succ]); (try simp only [List.set_cons_zero]))
                (refine wpAnyH_ready (rs := [19]) (by kernel_rfl) (by simp) ?_)
                (refine AllReadyH.cons (o := _) rfl (fun K hK => ?_) AllReadyH.nil)
                refine want_ (by kernel_rfl) ?_
                refine wp_append_at _ _ _ rfl W0.heap.size _ ic zc 7 64 Tryd.underlying28 hic hzc hz1 hz2 hz3 (by decide) vz l.length (rowCs l) rfl H6.out.rows ⟨jn, 0, none⟩ 1 1 (RowV.cells ⟨x, y1, y2, y3, y4⟩) rfl rfl (rows_one_c (x := ⟨x, y1, y2, y3, y4⟩) HN6.out) (rows_one1 _) (by have := LK.out; simp at this; unfold maxLen; omega) (by have := LK.out; simp at this; omega) H6.out.tur.size ?_
                intro v7 w7 hown hg hv
                obtain ⟨A7, c7, rfl⟩ := own_form3 hown
                have HB7 := Lib.hid (H6.out.blk.grown hg (H6.out.own_ne H6.out.blk (by decide)))
                have HI7 := Lib.hid (HI6.out.grown hg (H6.out.own_ne HI6.out (by decide)))
                have H8 := Lib.hid (H6.out.grown (x := ⟨x, y1, y2, y3, y4⟩) (by omega) (by omega) hg hown)
                clear hown hg hv
                (refine hK.out _ _ HI7.out (fun hHeld => ?_))
                clear hK K
                ((try simp only [Act.put]); (try simp only [List.setIfInBounds_toArray]); (try simp only [List.set_cons_succ]); (try simp only [List.set_cons_zero]))
                (refine take_q (i := 20) (d := 68) (v := ?v134) rfl rfl (by kernel_rfl) (by kernel_rfl) (by kernel_rfl) (fun _ _ _ h => h) (by kernel_rfl) ?hy134 (by assumption) ?rest134)
                case hy134 => (intro w9 hSw; first | (go_simp; done) | (go_simp; with_reducible rfl))
                ((try simp only [Act.put]); (try simp only [List.setIfInBounds_toArray]); (try simp only [List.set_cons_succ]); (try simp only [List.set_cons_zero]))
                have hcb := HB7.out.cell
                have hfb := HB7.out.frozen
                (refine wpAnyH_ready (rs := [21]) (by kernel_rfl) (by simp) ?_)
                (refine AllReadyH.cons (o := _) rfl (fun K hK => ?_) AllReadyH.nil)
                go_simp
                have HI8 := Lib.hid (HI7.out.far (p := ⟨b, 4, none⟩) hIb (.slice A7 (l.length + 1) c7))
                clear hcb hfb
                (refine hK.out _ _ HI8.out (fun hHeld => ?_))
                clear hK K
                (refine wpAnyH_done (by kernel_rfl) ?_ _)
                go_wp2
                go_roundw
                case rel => exact ⟨k + 1, by go_num, by omega, Lib.hid ⟨_, _, by rw [HS2.out]; exact H8.out⟩⟩
                case measure => simp [intOf]; omega
              · go_simp
                (with_reducible refine (rd_int HG3.out.rd).mono ?_)
                rintro e wa4 ⟨rfl, fva4, hr, hf⟩
                have HG4 := Lib.hid (HG3.out.read (by omega) hr hf)
                have HJ4 := Lib.hid (hf.blk HJ3.out hIq)
                clear hr hf
                generalize (intP xs sa3) = y at *
                obtain ⟨y3, sa4⟩ := y
                dsimp only at HG4 HS2
                go_simp
                (refine hK.out _ _ HJ4.out (fun hHeld => ?_))
                clear hK K
                (try dsimp only)
                (refine wpAnyH_ready (rs := [1, 15]) (by kernel_rfl) (by simp) ?_)
                refine AllReadyH.cons (o := _) rfl (fun K hK => ?_) (AllReadyH.cons (o := _) rfl (fun K hK => ?_) AllReadyH.nil)
                · have hcb := HG4.out.blk.cell
                  go_simp
                  clear hcb
                  (refine hK.out _ _ HJ4.out (fun hHeld => ?_))
                  clear hK K
                  ((try simp only [Act.put]); (try simp only [List.setIfInBounds_toArray]); (try simp only [List.set_cons_succ]); (try simp only [List.set_cons_zero]))
                  (refine wpAnyH_ready (rs := [15]) (by kernel_rfl) (by simp) ?_)
                  (refine AllReadyH.cons (o := _) rfl (fun K hK => ?_) AllReadyH.nil)
                  go_simp
                  (with_reducible refine (rd_int HG4.out.rd).mono ?_)
                  rintro e wa5 ⟨rfl, fva5, hr, hf⟩
                  have HG5 := Lib.hid (HG4.out.read (by omega) hr hf)
                  have HJ5 := Lib.hid (hf.blk HJ4.out hIq)
                  clear hr hf
                  generalize (intP xs sa4) = y at *
                  obtain ⟨y4, sa5⟩ := y
                  dsimp only at HG5 HS2
                  go_simp
                  (refine hK.out _ _ HJ5.out (fun hHeld => ?_))
                  clear hK K
                  (try dsimp only)
                  (refine take_q (i := 16) (d := 64) (v := ?v135) rfl rfl (by kernel_rfl) (by kernel_rfl) (by kernel_rfl) (fun _ _ _ h => h) (by kernel_rfl) ?hy135 (by assumption) ?rest135)
                  case hy135 => (intro w9 hSw; first | (go_simp; done) | (go_simp; with_reducible rfl))
                  ((try simp only [Act.put]); (try simp only [List.setIfInBounds_toArray]); (try simp only [List.set_cons_succ]); (try simp only [List.set_cons_zero]))
                  (refine take_q (i := 17) (d := 65) (v := ?v136) rfl rfl (by kernel_rfl) (by kernel_rfl) (by kernel_rfl) (fun _ _ _ h => h) (by kernel_rfl) ?hy136 (by assumption) ?rest136)
                  case hy136 => (intro w9 hSw; first | (go_simp; done) | (go_simp; with_reducible rfl))
                  ((try simp only [Act.put]); (try simp only [List.setIfInBounds_toArray]); (try simp only [List.set_cons_succ]); (try simp only [List.set_cons_zero]))
                  (refine wpAnyH_ready (rs := [18]) (by kernel_rfl) (by simp) ?_)
                  (refine AllReadyH.cons (o := _) rfl (fun K hK => ?_) AllReadyH.nil)
                  go_simp
                  have HN6 := Lib.hid (Blk.new wa5 67 #[.int .i64 x.view, .string x.key, .int .i64 x.start, .int .i64 y1, .int .i64 y2, .int .i64 y3, .int .i64 y4])
                  have H6 := Lib.hid (HG5.out.alloc (.cells #[.int .i64 x.view, .string x.key, .int .i64 x.start, .int .i64 y1, .int .i64 y2, .int .i64 y3, .int .i64 y4] 67))
                  have HI6 := Lib.hid (HJ5.out.alloc (.cells #[.int .i64 x.view, .string x.key, .int .i64 x.start, .int .i64 y1, .int .i64 y2, .int .i64 y3, .int .i64 y4] 67))
                  generalize hw6 : wa5.alloc (.cells #[.int .i64 x.view, .string x.key, .int .i64 x.start, .int .i64 y1, .int .i64 y2, .int .i64 y3, .int .i64 y4] 67) = wa6 at *
                  generalize wa5.heap.size = jn at *
                  (refine hK.out _ _ HI6.out (fun hHeld => ?_))
                  clear hK K
                  ((try simp only [Act.put]); (try simp only [List.setIfInBounds_toArray]); (try simp only [List.set_cons_succ]); (try simp only [List.set_cons_zero]))
                  (refine wpAnyH_ready (rs := [19]) (by kernel_rfl) (by simp) ?_)
                  (refine AllReadyH.cons (o := _) rfl (fun K hK => ?_) AllReadyH.nil)
                  refine want_ (by kernel_rfl) ?_
                  refine wp_append_at _ _ _ rfl W0.heap.size _ ic zc 7 64 Tryd.underlying28 hic hzc hz1 hz2 hz3 (by decide) vz l.length (rowCs l) rfl H6.out.rows ⟨jn, 0, none⟩ 1 1 (RowV.cells ⟨x, y1, y2, y3, y4⟩) rfl rfl (rows_one_c (x := ⟨x, y1, y2, y3, y4⟩) HN6.out) (rows_one1 _) (by have := LK.out; simp at this; unfold maxLen; omega) (by have := LK.out; simp at this; omega) H6.out.tur.size ?_
                  intro v7 w7 hown hg hv
                  obtain ⟨A7, c7, rfl⟩ := own_form3 hown
                  have HB7 := Lib.hid (H6.out.blk.grown hg (H6.out.own_ne H6.out.blk (by decide)))
                  have HI7 := Lib.hid (HI6.out.grown hg (H6.out.own_ne HI6.out (by decide)))
                  have H8 := Lib.hid (H6.out.grown (x := ⟨x, y1, y2, y3, y4⟩) (by omega) (by omega) hg hown)
                  clear hown hg hv
                  (refine hK.out _ _ HI7.out (fun hHeld => ?_))
                  clear hK K
                  ((try simp only [Act.put]); (try simp only [List.setIfInBounds_toArray]); (try simp only [List.set_cons_succ]); (try simp only [List.set_cons_zero]))
                  (refine take_q (i := 20) (d := 68) (v := ?v137) rfl rfl (by kernel_rfl) (by kernel_rfl) (by kernel_rfl) (fun _ _ _ h => h) (by kernel_rfl) ?hy137 (by assumption) ?rest137)
                  case hy137 => (intro w9 hSw; first | (go_simp; done) | (go_simp; with_reducible rfl))
                  ((try simp only [Act.put]); (try simp only [List.setIfInBounds_toArray]); (try simp only [List.set_cons_succ]); (try simp only [List.set_cons_zero]))
                  have hcb := HB7.out.cell
                  have hfb := HB7.out.frozen
                  (refine wpAnyH_ready (rs := [21]) (by kernel_rfl) (by simp) ?_)
                  (refine AllReadyH.cons (o := _) rfl (fun K hK => ?_) AllReadyH.nil)
                  go_simp
                  have HI8 := Lib.hid (HI7.out.far (p := ⟨b, 4, none⟩) hIb (.slice A7 (l.length + 1) c7))
                  clear hcb hfb
                  (refine hK.out _ _ HI8.out (fun hHeld => ?_))
                  clear hK K
                  (refine wpAnyH_done (by kernel_rfl) ?_ _)
                  go_wp2
                  go_roundw
                  case rel => exact ⟨k + 1, by go_num, by omega, Lib.hid ⟨_, _, by rw [HS2.out]; exact H8.out⟩⟩
                  case measure => simp [intOf]; omega
                · go_simp
                  (with_reducible refine (rd_int HG4.out.rd).mono ?_)
                  rintro e wa5 ⟨rfl, fva5, hr, hf⟩
                  have HG5 := Lib.hid (HG4.out.read (by omega) hr hf)
                  have HJ5 := Lib.hid (hf.blk HJ4.out hIq)
                  clear hr hf
                  generalize (intP xs sa4) = y at *
                  obtain ⟨y4, sa5⟩ := y
                  dsimp only at HG5 HS2
                  go_simp
                  (refine hK.out _ _ HJ5.out (fun hHeld => ?_))
                  clear hK K
                  (try dsimp only)
                  (refine take_q (i := 16) (d := 64) (v := ?v138) rfl rfl (by kernel_rfl) (by kernel_rfl) (by kernel_rfl) (fun _ _ _ h => h) (by kernel_rfl) ?hy138 (by assumption) ?rest138)
                  case hy138 => (intro w9 hSw; first | (go_simp; done) | (go_simp; with_reducible rfl))
                  ((try simp only [Act.put]); (try simp only [List.setIfInBounds_toArray]); (try simp only [List.set_cons_succ]); (try simp only [List.set_cons_zero]))
                  (refine take_q (i := 17) (d := 65) (v := ?v139) rfl rfl (by kernel_rfl) (by kernel_rfl) (by kernel_rfl) (fun _ _ _ h => h) (by kernel_rfl) ?hy139 (by assumption) ?rest139)
                  case hy139 => (intro w9 hSw; first | (go_simp; done) | (go_simp; with_reducible rfl))
                  ((try simp only [Act.put]); (try simp only [List.setIfInBounds_toArray]); (try simp only [List.set_cons_succ]); (try simp only [List.set_cons_zero]))
                  (refine wpAnyH_ready (rs := [1, 18]) (by kernel_rfl) (by simp) ?_)
                  refine AllReadyH.cons (o := _) rfl (fun K hK => ?_) (AllReadyH.cons (o := _) rfl (fun K hK => ?_) AllReadyH.nil)
                  · have hcb := HG5.out.blk.cell
                    go_simp
                    clear hcb
                    (refine hK.out _ _ HJ5.out (fun hHeld => ?_))
                    clear hK K
                    ((try simp only [Act.put]); (try simp only [List.setIfInBounds_toArray]); (try simp only [List.set_cons_succ]); (try simp only [List.set_cons_zero]))
                    (refine wpAnyH_ready (rs := [18]) (by kernel_rfl) (by simp) ?_)
                    (refine AllReadyH.cons (o := _) rfl (fun K hK => ?_) AllReadyH.nil)
                    go_simp
                    have HN6 := Lib.hid (Blk.new wa5 67 #[.int .i64 x.view, .string x.key, .int .i64 x.start, .int .i64 y1, .int .i64 y2, .int .i64 y3, .int .i64 y4])
                    have H6 := Lib.hid (HG5.out.alloc (.cells #[.int .i64 x.view, .string x.key, .int .i64 x.start, .int .i64 y1, .int .i64 y2, .int .i64 y3, .int .i64 y4] 67))
                    have HI6 := Lib.hid (HJ5.out.alloc (.cells #[.int .i64 x.view, .string x.key, .int .i64 x.start, .int .i64 y1, .int .i64 y2, .int .i64 y3, .int .i64 y4] 67))
                    generalize hw6 : wa5.alloc (.cells #[.int .i64 x.view, .string x.key, .int .i64 x.start, .int .i64 y1, .int .i64 y2, .int .i64 y3, .int .i64 y4] 67) = wa6 at *
                    generalize wa5.heap.size = jn at *
                    (refine hK.out _ _ HI6.out (fun hHeld => ?_))
                    clear hK K
                    ((try simp only [Act.put]); (try simp only [List.setIfInBounds_toArray]); (try simp only [List.set_cons_succ]); (try simp only [List.set_cons_zero]))
                    (refine wpAnyH_ready (rs := [19]) (by kernel_rfl) (by simp) ?_)
                    (refine AllReadyH.cons (o := _) rfl (fun K hK => ?_) AllReadyH.nil)
                    refine want_ (by kernel_rfl) ?_
                    refine wp_append_at _ _ _ rfl W0.heap.size _ ic zc 7 64 Tryd.underlying28 hic hzc hz1 hz2 hz3 (by decide) vz l.length (rowCs l) rfl H6.out.rows ⟨jn, 0, none⟩ 1 1 (RowV.cells ⟨x, y1, y2, y3, y4⟩) rfl rfl (rows_one_c (x := ⟨x, y1, y2, y3, y4⟩) HN6.out) (rows_one1 _) (by have := LK.out; simp at this; unfold maxLen; omega) (by have := LK.out; simp at this; omega) H6.out.tur.size ?_
                    intro v7 w7 hown hg hv
                    obtain ⟨A7, c7, rfl⟩ := own_form3 hown
                    have HB7 := Lib.hid (H6.out.blk.grown hg (H6.out.own_ne H6.out.blk (by decide)))
                    have HI7 := Lib.hid (HI6.out.grown hg (H6.out.own_ne HI6.out (by decide)))
                    have H8 := Lib.hid (H6.out.grown (x := ⟨x, y1, y2, y3, y4⟩) (by omega) (by omega) hg hown)
                    clear hown hg hv
                    (refine hK.out _ _ HI7.out (fun hHeld => ?_))
                    clear hK K
                    ((try simp only [Act.put]); (try simp only [List.setIfInBounds_toArray]); (try simp only [List.set_cons_succ]); (try simp only [List.set_cons_zero]))
                    (refine take_q (i := 20) (d := 68) (v := ?v140) rfl rfl (by kernel_rfl) (by kernel_rfl) (by kernel_rfl) (fun _ _ _ h => h) (by kernel_rfl) ?hy140 (by assumption) ?rest140)
                    case hy140 => (intro w9 hSw; first | (go_simp; done) | (go_simp; with_reducible rfl))
                    ((try simp only [Act.put]); (try simp only [List.setIfInBounds_toArray]); (try simp only [List.set_cons_succ]); (try simp only [List.set_cons_zero]))
                    have hcb := HB7.out.cell
                    have hfb := HB7.out.frozen
                    (refine wpAnyH_ready (rs := [21]) (by kernel_rfl) (by simp) ?_)
                    (refine AllReadyH.cons (o := _) rfl (fun K hK => ?_) AllReadyH.nil)
                    go_simp
                    have HI8 := Lib.hid (HI7.out.far (p := ⟨b, 4, none⟩) hIb (.slice A7 (l.length + 1) c7))
                    clear hcb hfb
                    (refine hK.out _ _ HI8.out (fun hHeld => ?_))
                    clear hK K
                    (refine wpAnyH_done (by kernel_rfl) ?_ _)
                    go_wp2
                    go_roundw
                    case rel => exact ⟨k + 1, by go_num, by omega, Lib.hid ⟨_, _, by rw [HS2.out]; exact H8.out⟩⟩
                    case measure => simp [intOf]; omega
                  · go_simp
                    have HN6 := Lib.hid (Blk.new wa5 67 #[.int .i64 x.view, .string x.key, .int .i64 x.start, .int .i64 y1, .int .i64 y2, .int .i64 y3, .int .i64 y4])
                    have H6 := Lib.hid (HG5.out.alloc (.cells #[.int .i64 x.view, .string x.key, .int .i64 x.start, .int .i64 y1, .int .i64 y2, .int .i64 y3, .int .i64 y4] 67))
                    have HI6 := Lib.hid (HJ5.out.alloc (.cells #[.int .i64 x.view, .string x.key, .int .i64 x.start, .int .i64 y1, .int .i64 y2, .int .i64 y3, .int .i64 y4] 67))
                    generalize hw6 : wa5.alloc (.cells #[.int .i64 x.view, .string x.key, .int .i64 x.start, .int .i64 y1, .int .i64 y2, .int .i64 y3, .int .i64 y4] 67) = wa6 at *
                    generalize wa5.heap.size = jn at *
                    (refine hK.out _ _ HI6.out (fun hHeld => ?_))
                    clear hK K
                    ((try simp only [Act.put]); (try simp only [List.setIfInBounds_toArray]); (try simp only [List.set_cons_succ]); (try simp only [List.set_cons_zero]))
                    (refine wpAnyH_ready (rs := [1]) (by kernel_rfl) (by simp) ?_)
                    (refine AllReadyH.cons (o := _) rfl (fun K hK => ?_) AllReadyH.nil)
                    have hcb := H6.out.blk.cell
                    go_simp
                    clear hcb
                    (refine hK.out _ _ HI6.out (fun hHeld => ?_))
                    clear hK K
                    ((try simp only [Act.put]); (try simp only [List.setIfInBounds_toArray]); (try simp only [List.set_cons_succ]); (try simp only [List.set_cons_zero]))
                    (refine wpAnyH_ready (rs := [19]) (by kernel_rfl) (by simp) ?_)
                    (refine AllReadyH.cons (o := _) rfl (fun K hK => ?_) AllReadyH.nil)
                    refine want_ (by kernel_rfl) ?_
                    refine wp_append_at _ _ _ rfl W0.heap.size _ ic zc 7 64 Tryd.underlying28 hic hzc hz1 hz2 hz3 (by decide) vz l.length (rowCs l) rfl H6.out.rows ⟨jn, 0, none⟩ 1 1 (RowV.cells ⟨x, y1, y2, y3, y4⟩) rfl rfl (rows_one_c (x := ⟨x, y1, y2, y3, y4⟩) HN6.out) (rows_one1 _) (by have := LK.out; simp at this; unfold maxLen; omega) (by have := LK.out; simp at this; omega) H6.out.tur.size ?_
                    intro v7 w7 hown hg hv
                    obtain ⟨A7, c7, rfl⟩ := own_form3 hown
                    have HB7 := Lib.hid (H6.out.blk.grown hg (H6.out.own_ne H6.out.blk (by decide)))
                    have HI7 := Lib.hid (HI6.out.grown hg (H6.out.own_ne HI6.out (by decide)))
                    have H8 := Lib.hid (H6.out.grown (x := ⟨x, y1, y2, y3, y4⟩) (by omega) (by omega) hg hown)
                    clear hown hg hv
                    (refine hK.out _ _ HI7.out (fun hHeld => ?_))
                    clear hK K
                    ((try simp only [Act.put]); (try simp only [List.setIfInBounds_toArray]); (try simp only [List.set_cons_succ]); (try simp only [List.set_cons_zero]))
                    (refine take_q (i := 20) (d := 68) (v := ?v141) rfl rfl (by kernel_rfl) (by kernel_rfl) (by kernel_rfl) (fun _ _ _ h => h) (by kernel_rfl) ?hy141 (by assumption) ?rest141)
                    case hy141 => (intro w9 hSw; first | (go_simp; done) | (go_simp; with_reducible rfl))
                    ((try simp only [Act.put]); (try simp only [List.setIfInBounds_toArray]); (try simp only [List.set_cons_succ]); (try simp only [List.set_cons_zero]))
                    have hcb := HB7.out.cell
                    have hfb := HB7.out.frozen
                    (refine wpAnyH_ready (rs := [21]) (by kernel_rfl) (by simp) ?_)
                    (refine AllReadyH.cons (o := _) rfl (fun K hK => ?_) AllReadyH.nil)
                    go_simp
                    have HI8 := Lib.hid (HI7.out.far (p := ⟨b, 4, none⟩) hIb (.slice A7 (l.length + 1) c7))
                    clear hcb hfb
                    (refine hK.out _ _ HI8.out (fun hHeld => ?_))
                    clear hK K
                    (refine wpAnyH_done (by kernel_rfl) ?_ _)
                    go_wp2
                    go_roundw
                    case rel => exact ⟨k + 1, by go_num, by omega, Lib.hid ⟨_, _, by rw [HS2.out]; exact H8.out⟩⟩
                    case measure => simp [intOf]; omega
      · rw [hfz] at he
        obtain ⟨g, rfl, _⟩ := he
        have HS2 := Lib.hid (show iterG rowD xs (k + 1) ([], s3) = (l, sz) by rw [HSTEP.out]; unfold stepG; simp [hfz])
        go_wp2
        go_roundw
        case rel => exact ⟨k + 1, by go_num, by omega, Lib.hid ⟨fz, vz, by rw [HS2.out]; exact H4.out⟩⟩
        case measure => simp [intOf]; omega
    · have HE := Lib.hid (show k = cnt by omega)
      go_wp2_with fail
      clear hci HIz
      have hx := HE.out
      subst hx
      clear HE
      have HX7 := Lib.hid (show RsIs W0 q b A1 n c1 xs (readS xs).1 (readS xs).2 _ _ _ from by
        have e : readS xs = ((⟨(k0 : Int), (id0 : Int), 0, 0, (iterG rowD xs (countP xs 256 s2).1 ([], (countP xs 256 s2).2)).1, st0⟩ : Rs), (iterG rowD xs (countP xs 256 s2).1 ([], (countP xs 256 s2).2)).2) := by
          unfold readS bodyS
          rw [HKD.out]
          dsimp only
          rw [HID.out]
          have hk := HKN.out
          subst hk
          simp
        rw [e]
        exact (by rw [HCP.out]; exact HP.out))
      clear HP LK HSTEP HX70 hkn hk h256
      obtain ⟨vv, hvv⟩ := HX7.out.exv
      clear HX7
      have HX7 := Lib.hid hvv
      clear hvv
      have HDEC := Lib.hid (show decRs xs = if (checkD (checkRs (readS xs).1) (endP xs (readS xs).2)).fault.isSome then (rs0, (checkD (checkRs (readS xs).1) (endP xs (readS xs).2)).fault) else ((readS xs).1, none) by
        unfold decRs
        rw [if_neg (by rw [HKD.out]; have := HKN.out; omega)])
      have HOK := Lib.hid (readS_ok xs)
      generalize readS xs = y at *
      obtain ⟨r', s3⟩ := y
      dsimp only at HX7 HDEC HOK
      have HI7 := Lib.hid (HI0.out.tur HX7.out.tur (by omega))
      have hci := HI7.out.cell
      go_wp2_with fail
      go_at_call 62; (with_reducible refine (rd_end HX7.out.rd).mono ?_); rintro e w7 ⟨rfl, fv7, hr, hf⟩
      have HX8 := Lib.hid (HX7.out.read (by omega) hr hf)
      have HI8 := Lib.hid (HI0.out.tur HX8.out.tur (by omega))
      clear hr hf HX7 HI7 hci
      have hci := HI8.out.cell
      go_wp2_with fail
      go_at_call 61; (with_reducible refine (rd_err HX8.out.rd).mono ?_); rintro e w8 ⟨hb8, he⟩
      have HX9 := Lib.hid (HX8.out.kept hb8)
      have HI9 := Lib.hid (HI8.out.kept hb8)
      have HR9 := Lib.hid (HR0.out.tur HX9.out.tur (by omega))
      have HB9 := Lib.hid (HB0.out.trans (HX9.out.tur.below (by have := HB0.out.size; omega) (fun k e => by omega)))
      clear hb8 HX8 HI8 hci
      have hci := HI9.out.cell
      rcases hfl : (endP xs s3).fault with _ | ⟨code, pl⟩
      · rw [hfl] at he
        obtain rfl := he
        go_wp2_with fail
        obtain ⟨As, cz, rfl, hrd, hba⟩ := HX9.out.rows.rd
        have HCR := Lib.hid hrd
        have HLE := Lib.hid (RowsOwn.le HX9.out.rows)
        clear hrd hba hci
        (refine wp_region_held_drew (S := fun w9 => Blk w9 bI 116 #[.pointer (some ⟨q, 0, none⟩)] ∧ Blk w9 b 32 (rsC (.slice As r'.rows.length cz) r')) (by kernel_rfl) ⟨HI9.out.drew, HX9.out.blk.drew⟩ (fun hHeld => ?_))
        (refine take_q (i := 0) (d := 115) (v := ?v142) rfl rfl (by kernel_rfl) (by kernel_rfl) (by kernel_rfl) (fun _ _ _ h => h) (by kernel_rfl) ?hy142 (by assumption) ?rest142)
        case hy142 => (intro w9 hSw; first | (go_simp; done) | (go_simp; with_reducible rfl))
        ((try simp only [Act.put]); (try simp only [List.setIfInBounds_toArray]); (try simp only [List.set_cons_succ]); (try simp only [List.set_cons_zero]))
        (refine take_q (i := 1) (d := 116) (v := ?v143) rfl rfl (by kernel_rfl) (by kernel_rfl) (by kernel_rfl) (fun _ _ _ h => h) (by kernel_rfl) ?hy143 (by assumption) ?rest143)
        case hy143 => (intro w9 hSw; have hc9 := Blk.cell hSw.1; clear hSw; first | (go_simp; done) | (go_simp; with_reducible rfl))
        ((try simp only [Act.put]); (try simp only [List.setIfInBounds_toArray]); (try simp only [List.set_cons_succ]); (try simp only [List.set_cons_zero]))
        (refine take_q (i := 2) (d := 117) (v := ?v144) rfl rfl (by kernel_rfl) (by kernel_rfl) (by kernel_rfl) (fun _ _ _ h => h) (by kernel_rfl) ?hy144 (by assumption) ?rest144)
        case hy144 => (intro w9 hSw; have hc9 := Blk.cell hSw.2; clear hSw; first | (go_simp; done) | (go_simp; with_reducible rfl))
        ((try simp only [Act.put]); (try simp only [List.setIfInBounds_toArray]); (try simp only [List.set_cons_succ]); (try simp only [List.set_cons_zero]))
        (refine wpAnyH_ready (rs := [3]) (by kernel_rfl) (by simp) ?_)
        (refine AllReadyH.cons (o := _) rfl (fun K hK => ?_) AllReadyH.nil)
        go_simp
        go_simp
        (with_reducible refine (check_rs As r'.rows.length cz r' _ rfl (HCR.out.below (Below.refl _ _).drew) HLE.out HOK.out).mono ?_)
        rintro e w9 ⟨rfl, hb9⟩
        have HX10 := Lib.hid ((HX9.out.kept (Below.refl _ _).drew).kept hb9)
        have HI10 := Lib.hid (HI9.out.drew.kept hb9)
        clear hb9
        go_simp
        (refine hK.out _ _ ⟨HI10.out, HX10.out.blk⟩ (fun hHeld => ?_))
        clear hK K
        ((try simp only [Act.put]); (try simp only [List.setIfInBounds_toArray]); (try simp only [List.set_cons_succ]); (try simp only [List.set_cons_zero]))
        (refine wpAnyH_ready (rs := [4]) (by kernel_rfl) (by simp) ?_)
        (refine AllReadyH.cons (o := _) rfl (fun K hK => ?_) AllReadyH.nil)
        go_simp
        go_simp
        (with_reducible refine (rd_fail HX10.out.rd (checkRs r') 0).mono ?_)
        rintro e wA ⟨rfl, fvA, hr, hf⟩
        have HX11 := Lib.hid (HX10.out.read (by omega) hr hf)
        have HI11 := Lib.hid (HI0.out.tur HX11.out.tur (by omega))
        have HR11 := Lib.hid (HR0.out.tur HX11.out.tur (by omega))
        have HB11 := Lib.hid (HB0.out.trans (HX11.out.tur.below (by have := HB0.out.size; omega) (fun k e => by omega)))
        clear hr hf
        go_simp
        (refine hK.out _ _ ⟨HI11.out, HX11.out.blk⟩ (fun hHeld => ?_))
        clear hK K
        (refine wpAnyH_done (by kernel_rfl) ?_ _)
        have HCD := Lib.hid (show checkD (checkRs r') (endP xs s3) = (endP xs s3).fail (checkRs r') 0 by unfold checkD; simp [hfl])
        have hci := HI11.out.cell
        go_wp2_with fail
        go_at_call 61; (with_reducible refine (rd_err HX11.out.rd).mono ?_); rintro e wB ⟨hbB, he⟩
        have HX12 := Lib.hid (HX11.out.kept hbB)
        have HR12 := Lib.hid (HR11.out.kept hbB)
        have HB12 := Lib.hid (HB11.out.trans (hbB.mono HB11.out.size))
        have hcR := HR12.out.cell
        have hfR := HR12.out.frozen
        clear hbB hci
        rcases hf2 : ((endP xs s3).fail (checkRs r') 0).fault with _ | ⟨code, pl⟩
        · rw [hf2] at he
          obtain rfl := he
          have HD := Lib.hid (show decRs xs = (r', none) by rw [HDEC.out, HCD.out]; simp [hf2])
          have hcb := HX12.out.blk.cell
          have HS := Lib.hid (set11 HR12.out (.int .i64 r'.kind) (.int .i64 r'.id) (.int .i64 r'.err) (.int .i64 r'.epoch) (.slice As r'.rows.length cz) (.int .i64 r'.st.taken) (.int .i64 r'.st.late) (.int .i64 r'.st.over) (.int .i64 r'.st.full) (.int .i64 r'.st.cells) (.int .i64 r'.st.now))
          go_wp2
          generalize (World.setCell (World.setCell (World.setCell (World.setCell (World.setCell (World.setCell (World.setCell (World.setCell (World.setCell (World.setCell (World.setCell wB ⟨W.heap.size, 0, none⟩ (.int .i64 r'.kind)) ⟨W.heap.size, 1, none⟩ (.int .i64 r'.id)) ⟨W.heap.size, 2, none⟩ (.int .i64 r'.err)) ⟨W.heap.size, 3, none⟩ (.int .i64 r'.epoch)) ⟨W.heap.size, 4, none⟩ (.slice As r'.rows.length cz)) ⟨W.heap.size, 5, none⟩ (.int .i64 r'.st.taken)) ⟨W.heap.size, 6, none⟩ (.int .i64 r'.st.late)) ⟨W.heap.size, 7, none⟩ (.int .i64 r'.st.over)) ⟨W.heap.size, 8, none⟩ (.int .i64 r'.st.full)) ⟨W.heap.size, 9, none⟩ (.int .i64 r'.st.cells)) ⟨W.heap.size, 10, none⟩ (.int .i64 r'.st.now)) = wC at HS ⊢
          have hc7 := HS.out.1.cell
          exact bodyPost_ret (v := .tuple #[.agg (rsC (.slice As r'.rows.length cz) r'), .nilIface]) (by simp [results, Tryd.results28, go_sem, hc7]) rfl
            ⟨HB12.out.trans (HS.out.2.below HB12.out.size (fun k e => by omega)), by rw [HD.out]; exact ⟨_, rfl, HX12.out.rows_low HS.out.2 (by omega)⟩⟩
        · rw [hf2] at he
          obtain ⟨g, rfl, hg⟩ := he
          have HG := Lib.hid hg
          have HD := Lib.hid (show decRs xs = (rs0, some (code, pl)) by rw [HDEC.out, HCD.out]; simp [hf2])
          clear hg
          have HS := Lib.hid (set11 HR12.out (.int .i64 0) (.int .i64 0) (.int .i64 0) (.int .i64 0) (.slice none 0 0) (.int .i64 0) (.int .i64 0) (.int .i64 0) (.int .i64 0) (.int .i64 0) (.int .i64 0))
          go_wp2
          generalize (World.setCell (World.setCell (World.setCell (World.setCell (World.setCell (World.setCell (World.setCell (World.setCell (World.setCell (World.setCell (World.setCell wB ⟨W.heap.size, 0, none⟩ (.int .i64 0)) ⟨W.heap.size, 1, none⟩ (.int .i64 0)) ⟨W.heap.size, 2, none⟩ (.int .i64 0)) ⟨W.heap.size, 3, none⟩ (.int .i64 0)) ⟨W.heap.size, 4, none⟩ (.slice none 0 0)) ⟨W.heap.size, 5, none⟩ (.int .i64 0)) ⟨W.heap.size, 6, none⟩ (.int .i64 0)) ⟨W.heap.size, 7, none⟩ (.int .i64 0)) ⟨W.heap.size, 8, none⟩ (.int .i64 0)) ⟨W.heap.size, 9, none⟩ (.int .i64 0)) ⟨W.heap.size, 10, none⟩ (.int .i64 0)) = wC at HS ⊢
          have hc7 := HS.out.1.cell
          exact bodyPost_ret (v := .tuple #[.agg (rsC nilS rs0), errV g]) (by simp [results, Tryd.results28, go_sem, hc7, rs0, st0]) rfl
            ⟨HB12.out.trans (HS.out.2.below HB12.out.size (fun k e => by omega)), by rw [HD.out]; exact ⟨g, rfl, HG.out.tur HS.out.2 (fun e => by subst e; exact absurd rfl (HR12.out.ne_ HG.out (by decide)))⟩⟩
      · rw [hfl] at he
        obtain ⟨g0, rfl, _⟩ := he
        go_wp2_with fail
        go_at_call 61; (with_reducible refine (rd_err HX9.out.rd).mono ?_); rintro e w9 ⟨hb9, he⟩
        rw [hfl] at he
        obtain ⟨g, rfl, hg⟩ := he
        have HG := Lib.hid hg
        have HR10 := Lib.hid (HR9.out.kept hb9)
        have HB10 := Lib.hid (HB9.out.trans (hb9.mono HB9.out.size))
        have HD := Lib.hid (show decRs xs = (rs0, some (code, pl)) by rw [HDEC.out]; unfold checkD; simp [hfl])
        have hcR := HR10.out.cell
        have hfR := HR10.out.frozen
        clear hb9 hg hci
        have HS := Lib.hid (set11 HR10.out (.int .i64 0) (.int .i64 0) (.int .i64 0) (.int .i64 0) (.slice none 0 0) (.int .i64 0) (.int .i64 0) (.int .i64 0) (.int .i64 0) (.int .i64 0) (.int .i64 0))
        go_wp2
        generalize (World.setCell (World.setCell (World.setCell (World.setCell (World.setCell (World.setCell (World.setCell (World.setCell (World.setCell (World.setCell (World.setCell w9 ⟨W.heap.size, 0, none⟩ (.int .i64 0)) ⟨W.heap.size, 1, none⟩ (.int .i64 0)) ⟨W.heap.size, 2, none⟩ (.int .i64 0)) ⟨W.heap.size, 3, none⟩ (.int .i64 0)) ⟨W.heap.size, 4, none⟩ (.slice none 0 0)) ⟨W.heap.size, 5, none⟩ (.int .i64 0)) ⟨W.heap.size, 6, none⟩ (.int .i64 0)) ⟨W.heap.size, 7, none⟩ (.int .i64 0)) ⟨W.heap.size, 8, none⟩ (.int .i64 0)) ⟨W.heap.size, 9, none⟩ (.int .i64 0)) ⟨W.heap.size, 10, none⟩ (.int .i64 0)) = w10 at HS ⊢
        have hc7 := HS.out.1.cell
        exact bodyPost_ret (v := .tuple #[.agg (rsC nilS rs0), errV g]) (by simp [results, Tryd.results28, go_sem, hc7, rs0, st0]) rfl
          ⟨HB10.out.trans (HS.out.2.below HB10.out.size (fun k e => by omega)), by rw [HD.out]; exact ⟨g, rfl, HG.out.tur HS.out.2 (fun e => by subst e; exact absurd rfl (HR10.out.ne_ HG.out (by decide)))⟩⟩
end Go.Proofs.YteffpfgdoganpaaDoor
