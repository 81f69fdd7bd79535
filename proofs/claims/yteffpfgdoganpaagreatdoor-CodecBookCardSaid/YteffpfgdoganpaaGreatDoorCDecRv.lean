/- DecodeResponse: the walk; rows; joined. -/
import Derived.Test.YteffpfgdoganpaaGreatDoorCPls
namespace Go.Proofs.YteffpfgdoganpaaGreatDoor
open Go.RowKit
set_option maxRecDepth 100000
set_option maxHeartbeats 32000000

theorem decode_rs_rows (A : Option Addr) (n c : Nat) (xs : List Int) (hk : (kindD xs).1 = 1) (W : World) (hl : xs.length = n) (h : CellsAt W A (bvs xs)) (hw : ∀ x ∈ xs, (Lit.int .u8 x).wf = true) (hn : n ≤ 211106232532992) (hT : W.cell? ⟨0, 0, none⟩ = some tyErr) :
  Calls Tryz.prog 9 #[.slice A n c] W (DesQ W (decRs xs)) := by
 have HR0 := Lh (Blk.new W 39 #[.int .i64 0, .int .i64 0, .int .i64 0, .int .i64 0, .slice none 0 0, .int .i64 0, .int .i64 0, .int .i64 0, .int .i64 0, .int .i64 0, .int .i64 0])
 have CR := Lh (rd_read A n c xs (W.alloc (.cells #[.int .i64 0, .int .i64 0, .int .i64 0, .int .i64 0, .slice none 0 0, .int .i64 0, .int .i64 0, .int .i64 0, .int .i64 0, .int .i64 0, .int .i64 0] 39)) hl (h.below ((Below.refl _ _).alloc (Nat.le_refl _) _)) hw hn (((Below.refl W.heap.size W).alloc (Nat.le_refl _) _).cell (World.block_lt_of_cell? W _ hT) ▸ hT))
 have HTL := Lh (World.block_lt_of_cell? W _ hT)
 have HKN := Lh hk
 have hta1 := ta_rows
 clear h hw hn hT hk
 go_enter Tryz.func9, Tryz.ntmps9
 go_wp2_with fail
 go_at_call 22; (with_reducible refine CR.out.mono ?_); rintro e w1 ⟨q, A1, c1, rfl, hq, hr, hA1, hb⟩
 have HB1 := Lh (((Below.refl W.heap.size W).alloc (Nat.le_refl _) (.cells #[.int .i64 0, .int .i64 0, .int .i64 0, .int .i64 0, .slice none 0 0, .int .i64 0, .int .i64 0, .int .i64 0, .int .i64 0, .int .i64 0, .int .i64 0] 39)).trans (hb.mono (by simp)))
 have HR1 := Lh (HR0.out.kept hb)
 have HD1 := Lh hr
 have HA1 := Lh hA1
 have hqR : W.heap.size < q := by have : (W.alloc (.cells #[.int .i64 0, .int .i64 0, .int .i64 0, .int .i64 0, .slice none 0 0, .int .i64 0, .int .i64 0, .int .i64 0, .int .i64 0, .int .i64 0, .int .i64 0] 39)).heap.size = W.heap.size + 1 := by simp
                                  omega
 have HI2 := Lh (Blk.new w1 64 #[.pointer (some ⟨q, 0, none⟩)])
 have hci := HI2.out.cell
 clear hb hr hA1 HR0 CR
 go_wp2_with fail
 go_at_call 23; (with_reducible refine (in_num (HD1.out.alloc (.cells #[.pointer (some ⟨q, 0, none⟩)] 64))).mono ?_); rintro e w3 ⟨rfl, fv3, hr, hf⟩
 have hIq : w1.heap.size ≠ q := by have := HD1.out.blk.lt; omega
 have HI3 := Lh (hf.blk HI2.out hIq)
 have HR3 := Lh (hf.blk (HR1.out.alloc (.cells #[.pointer (some ⟨q, 0, none⟩)] 64)) (by omega))
 have HB3 := Lh (HB1.out.trans (((RdFr.alloc0 w1 q .nilIface (.cells #[.pointer (some ⟨q, 0, none⟩)] 64)).trans hf).1.below HB1.out.size (fun k e => by omega)))
 have hs3 : w1.heap.size < w3.heap.size := HI3.out.lt
 have HD3 := Lh hr
 have hRI : W.heap.size ≤ w1.heap.size := HB1.out.size
 have HA3 := Lh (show ∀ ad, A1 = some ad → ad.block < w1.heap.size from fun ad e => (HA1.out ad e).2)
 have hq1 : q < w1.heap.size := HD1.out.blk.lt
 have hTR := HTL.out
 have HKD := Lh (show kindD xs = numP xs M40 ⟨0, none⟩ from rfl)
 clear hr hf HI2 HR1 HD1 HA1 HB1 hci hq
 generalize numP xs M40 ⟨0, none⟩ = y at *
 obtain ⟨k0, s1⟩ := y
 dsimp only at HD3 ⊢
 rw [HKD.out] at HKN
 generalize hI : w1.heap.size = bI at *
 have HI0 := Lh (HI3.out.alloc (.cells #[.int .i64 (k0 : Int), .int .i64 0, .int .i64 0, .int .i64 0, .slice none 0 0, .int .i64 0, .int .i64 0, .int .i64 0, .int .i64 0, .int .i64 0, .int .i64 0] 39))
 have HR0 := Lh (HR3.out.alloc (.cells #[.int .i64 (k0 : Int), .int .i64 0, .int .i64 0, .int .i64 0, .slice none 0 0, .int .i64 0, .int .i64 0, .int .i64 0, .int .i64 0, .int .i64 0, .int .i64 0] 39))
 have HB0 := Lh (HB3.out.alloc (by omega) (.cells #[.int .i64 (k0 : Int), .int .i64 0, .int .i64 0, .int .i64 0, .slice none 0 0, .int .i64 0, .int .i64 0, .int .i64 0, .int .i64 0, .int .i64 0, .int .i64 0] 39))
 have HX0 := Lh (RsIs.start (r := ⟨(k0 : Int), 0, 0, 0, [], st0⟩) (Blk.new w3 39 #[.int .i64 (k0 : Int), .int .i64 0, .int .i64 0, .int .i64 0, .slice none 0 0, .int .i64 0, .int .i64 0, .int .i64 0, .int .i64 0, .int .i64 0, .int .i64 0]) rfl (HD3.out.alloc (.cells #[.int .i64 (k0 : Int), .int .i64 0, .int .i64 0, .int .i64 0, .slice none 0 0, .int .i64 0, .int .i64 0, .int .i64 0, .int .i64 0, .int .i64 0, .int .i64 0] 39)) (by omega) (fun ad e => by have := HA3.out ad e; simp; omega) (by omega))
 have hs0 : (w3.alloc (.cells #[.int .i64 (k0 : Int), .int .i64 0, .int .i64 0, .int .i64 0, .slice none 0 0, .int .i64 0, .int .i64 0, .int .i64 0, .int .i64 0, .int .i64 0, .int .i64 0] 39)).heap.size = w3.heap.size + 1 := by simp
 have hcb : ∀ i, (w3.alloc (.cells #[.int .i64 (k0 : Int), .int .i64 0, .int .i64 0, .int .i64 0, .slice none 0 0, .int .i64 0, .int .i64 0, .int .i64 0, .int .i64 0, .int .i64 0, .int .i64 0] 39)).cell? ⟨w3.heap.size, i, none⟩ = (#[.int .i64 (k0 : Int), .int .i64 0, .int .i64 0, .int .i64 0, .slice none 0 0, .int .i64 0, .int .i64 0, .int .i64 0, .int .i64 0, .int .i64 0, .int .i64 0] : Array Value)[i]? := (Blk.new w3 39 #[.int .i64 (k0 : Int), .int .i64 0, .int .i64 0, .int .i64 0, .slice none 0 0, .int .i64 0, .int .i64 0, .int .i64 0, .int .i64 0, .int .i64 0, .int .i64 0]).cell
 have hci := HI3.out.cell
 go_wp2_with fail
 generalize hb : w3.heap.size = b at *
 generalize w3.alloc (.cells #[.int .i64 (k0 : Int), .int .i64 0, .int .i64 0, .int .i64 0, .slice none 0 0, .int .i64 0, .int .i64 0, .int .i64 0, .int .i64 0, .int .i64 0, .int .i64 0] 39) = W0 at *
 clear HR3 HB3 HI3 HD3 hci hcb hb
 go_at_call 29; (with_reducible refine (tells_rows none 0 0 ⟨(k0 : Int), 0, 0, 0, [], ⟨0, 0, 0, 0, 0, 0⟩⟩ (by have := HKN.out; show (k0 : Int) = 1; omega) _).mono ?_); rintro e w4 ⟨rfl, hb4⟩
 have HX4 := Lh (fun o : Obj => (HX0.out.kept hb4).alloc o)
 have HI4 := Lh (fun o : Obj => (HI0.out.kept hb4).alloc o)
 have HR4 := Lh (fun o : Obj => (HR0.out.kept hb4).alloc o)
 have HB4 := Lh (fun o : Obj => ((HB0.out.trans (hb4.mono HB0.out.size)).alloc (Nat.le_trans HB0.out.size hb4.size) o))
 clear hb4
 have hci : ∀ (o : Obj) i, (w4.alloc o).cell? ⟨bI, i, none⟩ = (#[.pointer (some ⟨q, 0, none⟩)] : Array Value)[i]? := fun o => (HI4.out o).cell
 have hRq : W.heap.size ≠ q := by omega
 have hRb : W.heap.size ≠ b := by omega
 have hIb : bI ≠ b := by omega
 go_wp2_with fail
 go_at_call 23; (with_reducible refine (in_num (HX4.out _).rd).mono ?_); rintro e w5 ⟨rfl, fv5, hr, hf⟩
 have HX5 := Lh ((HX4.out _).read (by omega) hr hf)
 clear hr hf hci HX4 HI4 HR4 HB4
 have HID := Lh (show numP xs M40 s1 = numP xs M40 s1 from rfl)
 generalize hid : numP xs M40 s1 = y at *
 clear HID
 have HID := Lh hid
 clear hid
 obtain ⟨id0, s2⟩ := y
 dsimp only at HX5 ⊢
 have hcb := HX5.out.blk.cell
 have hfb := HX5.out.blk.frozen
 have HX6 := Lh (HX5.out.set_ (r1 := ⟨(k0 : Int), (id0 : Int), 0, 0, [], st0⟩) 1 (.int .i64 (id0 : Int)) rfl HX5.out.rows)
 have HI6 := Lh (HI0.out.tur HX6.out.tur (by omega))
 have hci := HI6.out.cell
 go_wp2_with fail
 generalize hw6 : w5.setCell ⟨b, 1, none⟩ (.int .i64 (id0 : Int)) = w6 at *
 clear hw6 hcb hfb hci HX5 HI6
 go_at_call 30; (with_reducible refine (in_count HX6.out.rd 256).mono ?_); rintro e w7 ⟨rfl, fv7, hr, hf⟩
 have HX7 := Lh (HX6.out.read (by omega) hr hf)
 have HCL := Lh (countP_le xs 256 s2)
 have HCP := Lh (show countP xs 256 s2 = countP xs 256 s2 from rfl)
 clear hr hf HX6
 generalize hy : (countP xs 256 s2) = y at *
 clear HCP
 have HCP := Lh hy
 obtain ⟨cnt, s3⟩ := y
 clear hy
 dsimp only at HX7 HCL ⊢
 have HX70 := Lh (show RsIs W0 q b A1 n c1 xs ⟨(k0 : Int), (id0 : Int), 0, 0, (iterG rowD xs 0 ([], s3)).1, st0⟩ (iterG rowD xs 0 ([], s3)).2 fv7 nilS w7 from HX7.out)
 clear HX7
 go_wp2
 go_loopw [42] (fun t42 wz => ∃ k : Nat, t42 = .int .i64 (k : Int) ∧ k ≤ cnt ∧ Hid (∃ fz vz, RsIs W0 q b A1 n c1 xs ⟨(k0 : Int), (id0 : Int), 0, 0, (iterG rowD xs k ([], s3)).1, st0⟩ (iterG rowD xs k ([], s3)).2 fz vz wz)) (fun t42 _ => cnt - (intOf t42).toNat)
 case atStart => exact ⟨0, rfl, Nat.zero_le _, Lh ⟨fv7, nilS, HX70.out⟩⟩
 case round =>
  obtain ⟨k, rfl, hk, HP0⟩ := hrel
  obtain ⟨fz, vz, hP⟩ := HP0.out
  have HP := Lh hP
  clear HP0 hP
  rename World => wz
  have h256 : cnt ≤ 256 := HCL.out
  have LK := Lh (iterG_len (f := rowD) xs ([], s3) k)
  have HSTEP := Lh (show iterG rowD xs (k + 1) ([], s3) = stepG rowD xs (iterG rowD xs k ([], s3)) from rfl)
  have HIz := Lh (HI0.out.tur HP.out.tur (by omega))
  have hci := HIz.out.cell
  by_cases hkn : k < cnt
  ·generalize iterG rowD xs k ([], s3) = st at *
   obtain ⟨l, sz⟩ := st
   dsimp only at HP LK
   go_wp2_with fail
   go_at_call 26; (with_reducible refine (rd_err HP.out.rd).mono ?_); rintro e w8 ⟨hb8, he⟩
   have H4 := Lh (HP.out.kept hb8)
   have HI4 := Lh (HIz.out.kept hb8)
   clear hb8 hci HP HIz
   rcases hfz : sz.fault with _ | ⟨ec, ep⟩
   ·rw [hfz] at he
    obtain rfl := he
    have HS2 := Lh (show iterG rowD xs (k + 1) ([], s3) = (l ++ [⟨(cellP xs sz).1, (intP xs (cellP xs sz).2).1, (intP xs (intP xs (cellP xs sz).2).2).1, (intP xs (intP xs (intP xs (cellP xs sz).2).2).2).1, (intP xs (intP xs (intP xs (intP xs (cellP xs sz).2).2).2).2).1⟩], (intP xs (intP xs (intP xs (intP xs (cellP xs sz).2).2).2).2).2) by rw [HSTEP.out]; unfold stepG; rw [if_neg (by simp [hfz])]; rfl)
    have hci := HI4.out.cell
    go_wp2_with fail
    clear hci
    obtain ⟨ic, zc, hic, hzc, hz1, hz2, hz3⟩ := info_row
    (refine wp_region_held_drew (S := fun w9 => Blk w9 bI 64 #[.pointer (some ⟨q, 0, none⟩)]) (by kernel_rfl) HI4.out.drew (fun hHeld => ?_))
    have HG0 := Lh (H4.out.kept (Below.refl _ _).drew)
    have HJ0 := Lh HI4.out.drew
    clear H4 HI4
    (refine tq 0 48 ?_)
    ((try simp only [Act.put]); (try simp only [z1]); (try simp only [z3]); (try simp only [z2]))
    (refine tr (v := ?v114) 2 50 ?h114 ?_)
    case h114 => (intro w9 hSw; have hc9 := Blk.cell hSw; clear hSw; first | (go_simp; done) | (go_simp; with_reducible rfl))
    ((try simp only [Act.put]); (try simp only [z1]); (try simp only [z3]); (try simp only [z2]))
    (refine tq 4 52 ?_)
    ((try simp only [Act.put]); (try simp only [z1]); (try simp only [z3]); (try simp only [z2]))
    (refine tr (v := ?v116) 5 53 ?h116 ?_)
    case h116 => (intro w9 hSw; have hc9 := Blk.cell hSw; clear hSw; first | (go_simp; done) | (go_simp; with_reducible rfl))
    ((try simp only [Act.put]); (try simp only [z1]); (try simp only [z3]); (try simp only [z2]))
    (refine tq 7 55 ?_)
    ((try simp only [Act.put]); (try simp only [z1]); (try simp only [z3]); (try simp only [z2]))
    (refine tr (v := ?v118) 8 56 ?h118 ?_)
    case h118 => (intro w9 hSw; have hc9 := Blk.cell hSw; clear hSw; first | (go_simp; done) | (go_simp; with_reducible rfl))
    ((try simp only [Act.put]); (try simp only [z1]); (try simp only [z3]); (try simp only [z2]))
    (refine tq 10 58 ?_)
    ((try simp only [Act.put]); (try simp only [z1]); (try simp only [z3]); (try simp only [z2]))
    (refine tr (v := ?v120) 11 59 ?h120 ?_)
    case h120 => (intro w9 hSw; have hc9 := Blk.cell hSw; clear hSw; first | (go_simp; done) | (go_simp; with_reducible rfl))
    ((try simp only [Act.put]); (try simp only [z1]); (try simp only [z3]); (try simp only [z2]))
    (refine tq 13 61 ?_)
    ((try simp only [Act.put]); (try simp only [z1]); (try simp only [z3]); (try simp only [z2]))
    (refine tr (v := ?v122) 14 62 ?h122 ?_)
    case h122 => (intro w9 hSw; have hc9 := Blk.cell hSw; clear hSw; first | (go_simp; done) | (go_simp; with_reducible rfl))
    ((try simp only [Act.put]); (try simp only [z1]); (try simp only [z3]); (try simp only [z2]))
    (refine wpAnyH_ready (rs := [1, 3]) (by kernel_rfl) (by simp) ?_)
    refine AllReadyH.cons (o := _) rfl (fun K hK => ?_) (AllReadyH.cons (o := _) rfl (fun K hK => ?_) AllReadyH.nil)
    ·have hcb := HG0.out.blk.cell
     go_simp
     clear hcb
     (refine hK.out _ _ HJ0.out (fun hHeld => ?_))
     clear hK K
     ((try simp only [Act.put]); (try simp only [z1]); (try simp only [z3]); (try simp only [z2]))
     (refine wpAnyH_ready (rs := [3]) (by kernel_rfl) (by simp) ?_)
     (refine AllReadyH.cons (o := _) rfl (fun K hK => ?_) AllReadyH.nil)
     go_simp
     (with_reducible refine (in_cell HG0.out.rd (fun ad e => by have := (HG0.out.bA ad e).2; have := HG0.out.tur.size; omega)).mono ?_)
     rintro e wa1 ⟨rfl, fva1, hr, hf⟩
     have HG1 := Lh (HG0.out.read (by omega) hr hf)
     have HJ1 := Lh (hf.blk HJ0.out hIq)
     clear hr hf
     generalize (cellP xs sz) = y at *
     obtain ⟨x, sa1⟩ := y
     dsimp only at HG1 HS2
     go_simp
     (refine hK.out _ _ HJ1.out (fun hHeld => ?_))
     clear hK K
     (try dsimp only)
     (refine wpAnyH_ready (rs := [6]) (by kernel_rfl) (by simp) ?_)
     (refine AllReadyH.cons (o := _) rfl (fun K hK => ?_) AllReadyH.nil)
     go_simp
     (with_reducible refine (rd_int HG1.out.rd).mono ?_)
     rintro e wa2 ⟨rfl, fva2, hr, hf⟩
     have HG2 := Lh (HG1.out.read (by omega) hr hf)
     have HJ2 := Lh (hf.blk HJ1.out hIq)
     clear hr hf
     generalize (intP xs sa1) = y at *
     obtain ⟨y1, sa2⟩ := y
     dsimp only at HG2 HS2
     go_simp
     (refine hK.out _ _ HJ2.out (fun hHeld => ?_))
     clear hK K
     (try dsimp only)
     (refine wpAnyH_ready (rs := [9]) (by kernel_rfl) (by simp) ?_)
     (refine AllReadyH.cons (o := _) rfl (fun K hK => ?_) AllReadyH.nil)
     go_simp
     (with_reducible refine (rd_int HG2.out.rd).mono ?_)
     rintro e wa3 ⟨rfl, fva3, hr, hf⟩
     have HG3 := Lh (HG2.out.read (by omega) hr hf)
     have HJ3 := Lh (hf.blk HJ2.out hIq)
     clear hr hf
     generalize (intP xs sa2) = y at *
     obtain ⟨y2, sa3⟩ := y
     dsimp only at HG3 HS2
     go_simp
     (refine hK.out _ _ HJ3.out (fun hHeld => ?_))
     clear hK K
     (try dsimp only)
     (refine wpAnyH_ready (rs := [12]) (by kernel_rfl) (by simp) ?_)
     (refine AllReadyH.cons (o := _) rfl (fun K hK => ?_) AllReadyH.nil)
     go_simp
     (with_reducible refine (rd_int HG3.out.rd).mono ?_)
     rintro e wa4 ⟨rfl, fva4, hr, hf⟩
     have HG4 := Lh (HG3.out.read (by omega) hr hf)
     have HJ4 := Lh (hf.blk HJ3.out hIq)
     clear hr hf
     generalize (intP xs sa3) = y at *
     obtain ⟨y3, sa4⟩ := y
     dsimp only at HG4 HS2
     go_simp
     (refine hK.out _ _ HJ4.out (fun hHeld => ?_))
     clear hK K
     (try dsimp only)
     (refine wpAnyH_ready (rs := [15]) (by kernel_rfl) (by simp) ?_)
     (refine AllReadyH.cons (o := _) rfl (fun K hK => ?_) AllReadyH.nil)
     go_simp
     (with_reducible refine (rd_int HG4.out.rd).mono ?_)
     rintro e wa5 ⟨rfl, fva5, hr, hf⟩
     have HG5 := Lh (HG4.out.read (by omega) hr hf)
     have HJ5 := Lh (hf.blk HJ4.out hIq)
     clear hr hf
     generalize (intP xs sa4) = y at *
     obtain ⟨y4, sa5⟩ := y
     dsimp only at HG5 HS2
     go_simp
     (refine hK.out _ _ HJ5.out (fun hHeld => ?_))
     clear hK K
     (try dsimp only)
     (refine tq 16 64 ?_)
     ((try simp only [Act.put]); (try simp only [z1]); (try simp only [z3]); (try simp only [z2]))
     (refine tq 17 65 ?_)
     ((try simp only [Act.put]); (try simp only [z1]); (try simp only [z3]); (try simp only [z2]))
     (refine wpAnyH_ready (rs := [18]) (by kernel_rfl) (by simp) ?_)
     (refine AllReadyH.cons (o := _) rfl (fun K hK => ?_) AllReadyH.nil)
     go_simp
     have HN6 := Lh (Blk.new wa5 84 #[.int .i64 x.view, .string x.key, .int .i64 x.start, .int .i64 y1, .int .i64 y2, .int .i64 y3, .int .i64 y4])
     have H6 := Lh (HG5.out.alloc (.cells #[.int .i64 x.view, .string x.key, .int .i64 x.start, .int .i64 y1, .int .i64 y2, .int .i64 y3, .int .i64 y4] 84))
     have HI6 := Lh (HJ5.out.alloc (.cells #[.int .i64 x.view, .string x.key, .int .i64 x.start, .int .i64 y1, .int .i64 y2, .int .i64 y3, .int .i64 y4] 84))
     generalize hw6 : wa5.alloc (.cells #[.int .i64 x.view, .string x.key, .int .i64 x.start, .int .i64 y1, .int .i64 y2, .int .i64 y3, .int .i64 y4] 84) = wa6 at *
     generalize wa5.heap.size = jn at *
     (refine hK.out _ _ HI6.out (fun hHeld => ?_))
     clear hK K
     ((try simp only [Act.put]); (try simp only [z1]); (try simp only [z3]); (try simp only [z2]))
     (refine wpAnyH_ready (rs := [19]) (by kernel_rfl) (by simp) ?_)
     (refine AllReadyH.cons (o := _) rfl (fun K hK => ?_) AllReadyH.nil)
     refine want_ (by kernel_rfl) ?_
     refine wp_append_at _ _ _ rfl W0.heap.size _ ic zc 7 64 Tryz.underlying35 hic hzc hz1 hz2 hz3 (by decide) vz l.length (rowCs l) rfl H6.out.rows ⟨jn, 0, none⟩ 1 1 (RowV.cells ⟨x, y1, y2, y3, y4⟩) rfl rfl (rows_one_c (x := ⟨x, y1, y2, y3, y4⟩) HN6.out) (rows_one1 _) (by have := LK.out; simp at this; unfold maxLen; omega) (by have := LK.out; simp at this; omega) H6.out.tur.size ?_
     intro v7 w7 hown hg hv
     obtain ⟨A7, c7, rfl⟩ := own_form3 hown
     have HB7 := Lh (H6.out.blk.grown hg (H6.out.own_ne H6.out.blk (by decide)))
     have HI7 := Lh (HI6.out.grown hg (H6.out.own_ne HI6.out (by decide)))
     have H8 := Lh (H6.out.grown (x := ⟨x, y1, y2, y3, y4⟩) (by omega) (by omega) hg hown)
     clear hown hg hv
     (refine hK.out _ _ HI7.out (fun hHeld => ?_))
     clear hK K
     ((try simp only [Act.put]); (try simp only [z1]); (try simp only [z3]); (try simp only [z2]))
     (refine tq 20 68 ?_)
     ((try simp only [Act.put]); (try simp only [z1]); (try simp only [z3]); (try simp only [z2]))
     have hcb := HB7.out.cell
     have hfb := HB7.out.frozen
     (refine wpAnyH_ready (rs := [21]) (by kernel_rfl) (by simp) ?_)
     (refine AllReadyH.cons (o := _) rfl (fun K hK => ?_) AllReadyH.nil)
     go_simp
     have HI8 := Lh (HI7.out.far (p := ⟨b, 4, none⟩) hIb (.slice A7 (l.length + 1) c7))
     clear hcb hfb
     (refine hK.out _ _ HI8.out (fun hHeld => ?_))
     clear hK K
     (refine wpAnyH_done (by kernel_rfl) ?_ _)
     go_wp2
     go_roundw
     case rel => exact ⟨k + 1, by go_num, by omega, Lh ⟨_, _, by rw [HS2.out]; exact H8.out⟩⟩
     case measure => simp [intOf]; omega
    ·go_simp
     (with_reducible refine (in_cell HG0.out.rd (fun ad e => by have := (HG0.out.bA ad e).2; have := HG0.out.tur.size; omega)).mono ?_)
     rintro e wa1 ⟨rfl, fva1, hr, hf⟩
     have HG1 := Lh (HG0.out.read (by omega) hr hf)
     have HJ1 := Lh (hf.blk HJ0.out hIq)
     clear hr hf
     generalize (cellP xs sz) = y at *
     obtain ⟨x, sa1⟩ := y
     dsimp only at HG1 HS2
     go_simp
     (refine hK.out _ _ HJ1.out (fun hHeld => ?_))
     clear hK K
     (try dsimp only)
     (refine wpAnyH_ready (rs := [1, 6]) (by kernel_rfl) (by simp) ?_)
     refine AllReadyH.cons (o := _) rfl (fun K hK => ?_) (AllReadyH.cons (o := _) rfl (fun K hK => ?_) AllReadyH.nil)
     ·have hcb := HG1.out.blk.cell
      go_simp
      clear hcb
      (refine hK.out _ _ HJ1.out (fun hHeld => ?_))
      clear hK K
      ((try simp only [Act.put]); (try simp only [z1]); (try simp only [z3]); (try simp only [z2]))
      (refine wpAnyH_ready (rs := [6]) (by kernel_rfl) (by simp) ?_)
      (refine AllReadyH.cons (o := _) rfl (fun K hK => ?_) AllReadyH.nil)
      go_simp
      (with_reducible refine (rd_int HG1.out.rd).mono ?_)
      rintro e wa2 ⟨rfl, fva2, hr, hf⟩
      have HG2 := Lh (HG1.out.read (by omega) hr hf)
      have HJ2 := Lh (hf.blk HJ1.out hIq)
      clear hr hf
      generalize (intP xs sa1) = y at *
      obtain ⟨y1, sa2⟩ := y
      dsimp only at HG2 HS2
      go_simp
      (refine hK.out _ _ HJ2.out (fun hHeld => ?_))
      clear hK K
      (try dsimp only)
      (refine wpAnyH_ready (rs := [9]) (by kernel_rfl) (by simp) ?_)
      (refine AllReadyH.cons (o := _) rfl (fun K hK => ?_) AllReadyH.nil)
      go_simp
      (with_reducible refine (rd_int HG2.out.rd).mono ?_)
      rintro e wa3 ⟨rfl, fva3, hr, hf⟩
      have HG3 := Lh (HG2.out.read (by omega) hr hf)
      have HJ3 := Lh (hf.blk HJ2.out hIq)
      clear hr hf
      generalize (intP xs sa2) = y at *
      obtain ⟨y2, sa3⟩ := y
      dsimp only at HG3 HS2
      go_simp
      (refine hK.out _ _ HJ3.out (fun hHeld => ?_))
      clear hK K
      (try dsimp only)
      (refine wpAnyH_ready (rs := [12]) (by kernel_rfl) (by simp) ?_)
      (refine AllReadyH.cons (o := _) rfl (fun K hK => ?_) AllReadyH.nil)
      go_simp
      (with_reducible refine (rd_int HG3.out.rd).mono ?_)
      rintro e wa4 ⟨rfl, fva4, hr, hf⟩
      have HG4 := Lh (HG3.out.read (by omega) hr hf)
      have HJ4 := Lh (hf.blk HJ3.out hIq)
      clear hr hf
      generalize (intP xs sa3) = y at *
      obtain ⟨y3, sa4⟩ := y
      dsimp only at HG4 HS2
      go_simp
      (refine hK.out _ _ HJ4.out (fun hHeld => ?_))
      clear hK K
      (try dsimp only)
      (refine wpAnyH_ready (rs := [15]) (by kernel_rfl) (by simp) ?_)
      (refine AllReadyH.cons (o := _) rfl (fun K hK => ?_) AllReadyH.nil)
      go_simp
      (with_reducible refine (rd_int HG4.out.rd).mono ?_)
      rintro e wa5 ⟨rfl, fva5, hr, hf⟩
      have HG5 := Lh (HG4.out.read (by omega) hr hf)
      have HJ5 := Lh (hf.blk HJ4.out hIq)
      clear hr hf
      generalize (intP xs sa4) = y at *
      obtain ⟨y4, sa5⟩ := y
      dsimp only at HG5 HS2
      go_simp
      (refine hK.out _ _ HJ5.out (fun hHeld => ?_))
      clear hK K
      (try dsimp only)
      (refine tq 16 64 ?_)
      ((try simp only [Act.put]); (try simp only [z1]); (try simp only [z3]); (try simp only [z2]))
      (refine tq 17 65 ?_)
      ((try simp only [Act.put]); (try simp only [z1]); (try simp only [z3]); (try simp only [z2]))
      (refine wpAnyH_ready (rs := [18]) (by kernel_rfl) (by simp) ?_)
      (refine AllReadyH.cons (o := _) rfl (fun K hK => ?_) AllReadyH.nil)
      go_simp
      have HN6 := Lh (Blk.new wa5 84 #[.int .i64 x.view, .string x.key, .int .i64 x.start, .int .i64 y1, .int .i64 y2, .int .i64 y3, .int .i64 y4])
      have H6 := Lh (HG5.out.alloc (.cells #[.int .i64 x.view, .string x.key, .int .i64 x.start, .int .i64 y1, .int .i64 y2, .int .i64 y3, .int .i64 y4] 84))
      have HI6 := Lh (HJ5.out.alloc (.cells #[.int .i64 x.view, .string x.key, .int .i64 x.start, .int .i64 y1, .int .i64 y2, .int .i64 y3, .int .i64 y4] 84))
      generalize hw6 : wa5.alloc (.cells #[.int .i64 x.view, .string x.key, .int .i64 x.start, .int .i64 y1, .int .i64 y2, .int .i64 y3, .int .i64 y4] 84) = wa6 at *
      generalize wa5.heap.size = jn at *
      (refine hK.out _ _ HI6.out (fun hHeld => ?_))
      clear hK K
      ((try simp only [Act.put]); (try simp only [z1]); (try simp only [z3]); (try simp only [z2]))
      (refine wpAnyH_ready (rs := [19]) (by kernel_rfl) (by simp) ?_)
      (refine AllReadyH.cons (o := _) rfl (fun K hK => ?_) AllReadyH.nil)
      refine want_ (by kernel_rfl) ?_
      refine wp_append_at _ _ _ rfl W0.heap.size _ ic zc 7 64 Tryz.underlying35 hic hzc hz1 hz2 hz3 (by decide) vz l.length (rowCs l) rfl H6.out.rows ⟨jn, 0, none⟩ 1 1 (RowV.cells ⟨x, y1, y2, y3, y4⟩) rfl rfl (rows_one_c (x := ⟨x, y1, y2, y3, y4⟩) HN6.out) (rows_one1 _) (by have := LK.out; simp at this; unfold maxLen; omega) (by have := LK.out; simp at this; omega) H6.out.tur.size ?_
      intro v7 w7 hown hg hv
      obtain ⟨A7, c7, rfl⟩ := own_form3 hown
      have HB7 := Lh (H6.out.blk.grown hg (H6.out.own_ne H6.out.blk (by decide)))
      have HI7 := Lh (HI6.out.grown hg (H6.out.own_ne HI6.out (by decide)))
      have H8 := Lh (H6.out.grown (x := ⟨x, y1, y2, y3, y4⟩) (by omega) (by omega) hg hown)
      clear hown hg hv
      (refine hK.out _ _ HI7.out (fun hHeld => ?_))
      clear hK K
      ((try simp only [Act.put]); (try simp only [z1]); (try simp only [z3]); (try simp only [z2]))
      (refine tq 20 68 ?_)
      ((try simp only [Act.put]); (try simp only [z1]); (try simp only [z3]); (try simp only [z2]))
      have hcb := HB7.out.cell
      have hfb := HB7.out.frozen
      (refine wpAnyH_ready (rs := [21]) (by kernel_rfl) (by simp) ?_)
      (refine AllReadyH.cons (o := _) rfl (fun K hK => ?_) AllReadyH.nil)
      go_simp
      have HI8 := Lh (HI7.out.far (p := ⟨b, 4, none⟩) hIb (.slice A7 (l.length + 1) c7))
      clear hcb hfb
      (refine hK.out _ _ HI8.out (fun hHeld => ?_))
      clear hK K
      (refine wpAnyH_done (by kernel_rfl) ?_ _)
      go_wp2
      go_roundw
      case rel => exact ⟨k + 1, by go_num, by omega, Lh ⟨_, _, by rw [HS2.out]; exact H8.out⟩⟩
      case measure => simp [intOf]; omega
     ·go_simp
      (with_reducible refine (rd_int HG1.out.rd).mono ?_)
      rintro e wa2 ⟨rfl, fva2, hr, hf⟩
      have HG2 := Lh (HG1.out.read (by omega) hr hf)
      have HJ2 := Lh (hf.blk HJ1.out hIq)
      clear hr hf
      generalize (intP xs sa1) = y at *
      obtain ⟨y1, sa2⟩ := y
      dsimp only at HG2 HS2
      go_simp
      (refine hK.out _ _ HJ2.out (fun hHeld => ?_))
      clear hK K
      (try dsimp only)
      (refine wpAnyH_ready (rs := [1, 9]) (by kernel_rfl) (by simp) ?_)
      refine AllReadyH.cons (o := _) rfl (fun K hK => ?_) (AllReadyH.cons (o := _) rfl (fun K hK => ?_) AllReadyH.nil)
      ·have hcb := HG2.out.blk.cell
       go_simp
       clear hcb
       (refine hK.out _ _ HJ2.out (fun hHeld => ?_))
       clear hK K
       ((try simp only [Act.put]); (try simp only [z1]); (try simp only [z3]); (try simp only [z2]))
       (refine wpAnyH_ready (rs := [9]) (by kernel_rfl) (by simp) ?_)
       (refine AllReadyH.cons (o := _) rfl (fun K hK => ?_) AllReadyH.nil)
       go_simp
       (with_reducible refine (rd_int HG2.out.rd).mono ?_)
       rintro e wa3 ⟨rfl, fva3, hr, hf⟩
       have HG3 := Lh (HG2.out.read (by omega) hr hf)
       have HJ3 := Lh (hf.blk HJ2.out hIq)
       clear hr hf
       generalize (intP xs sa2) = y at *
       obtain ⟨y2, sa3⟩ := y
       dsimp only at HG3 HS2
       go_simp
       (refine hK.out _ _ HJ3.out (fun hHeld => ?_))
       clear hK K
       (try dsimp only)
       (refine wpAnyH_ready (rs := [12]) (by kernel_rfl) (by simp) ?_)
       (refine AllReadyH.cons (o := _) rfl (fun K hK => ?_) AllReadyH.nil)
       go_simp
       (with_reducible refine (rd_int HG3.out.rd).mono ?_)
       rintro e wa4 ⟨rfl, fva4, hr, hf⟩
       have HG4 := Lh (HG3.out.read (by omega) hr hf)
       have HJ4 := Lh (hf.blk HJ3.out hIq)
       clear hr hf
       generalize (intP xs sa3) = y at *
       obtain ⟨y3, sa4⟩ := y
       dsimp only at HG4 HS2
       go_simp
       (refine hK.out _ _ HJ4.out (fun hHeld => ?_))
       clear hK K
       (try dsimp only)
       (refine wpAnyH_ready (rs := [15]) (by kernel_rfl) (by simp) ?_)
       (refine AllReadyH.cons (o := _) rfl (fun K hK => ?_) AllReadyH.nil)
       go_simp
       (with_reducible refine (rd_int HG4.out.rd).mono ?_)
       rintro e wa5 ⟨rfl, fva5, hr, hf⟩
       have HG5 := Lh (HG4.out.read (by omega) hr hf)
       have HJ5 := Lh (hf.blk HJ4.out hIq)
       clear hr hf
       generalize (intP xs sa4) = y at *
       obtain ⟨y4, sa5⟩ := y
       dsimp only at HG5 HS2
       go_simp
       (refine hK.out _ _ HJ5.out (fun hHeld => ?_))
       clear hK K
       (try dsimp only)
       (refine tq 16 64 ?_)
       ((try simp only [Act.put]); (try simp only [z1]); (try simp only [z3]); (try simp only [z2]))
       (refine tq 17 65 ?_)
       ((try simp only [Act.put]); (try simp only [z1]); (try simp only [z3]); (try simp only [z2]))
       (refine wpAnyH_ready (rs := [18]) (by kernel_rfl) (by simp) ?_)
       (refine AllReadyH.cons (o := _) rfl (fun K hK => ?_) AllReadyH.nil)
       go_simp
       have HN6 := Lh (Blk.new wa5 84 #[.int .i64 x.view, .string x.key, .int .i64 x.start, .int .i64 y1, .int .i64 y2, .int .i64 y3, .int .i64 y4])
       have H6 := Lh (HG5.out.alloc (.cells #[.int .i64 x.view, .string x.key, .int .i64 x.start, .int .i64 y1, .int .i64 y2, .int .i64 y3, .int .i64 y4] 84))
       have HI6 := Lh (HJ5.out.alloc (.cells #[.int .i64 x.view, .string x.key, .int .i64 x.start, .int .i64 y1, .int .i64 y2, .int .i64 y3, .int .i64 y4] 84))
       generalize hw6 : wa5.alloc (.cells #[.int .i64 x.view, .string x.key, .int .i64 x.start, .int .i64 y1, .int .i64 y2, .int .i64 y3, .int .i64 y4] 84) = wa6 at *
       generalize wa5.heap.size = jn at *
       (refine hK.out _ _ HI6.out (fun hHeld => ?_))
       clear hK K
       ((try simp only [Act.put]); (try simp only [z1]); (try simp only [z3]); (try simp only [z2]))
       (refine wpAnyH_ready (rs := [19]) (by kernel_rfl) (by simp) ?_)
       (refine AllReadyH.cons (o := _) rfl (fun K hK => ?_) AllReadyH.nil)
       refine want_ (by kernel_rfl) ?_
       refine wp_append_at _ _ _ rfl W0.heap.size _ ic zc 7 64 Tryz.underlying35 hic hzc hz1 hz2 hz3 (by decide) vz l.length (rowCs l) rfl H6.out.rows ⟨jn, 0, none⟩ 1 1 (RowV.cells ⟨x, y1, y2, y3, y4⟩) rfl rfl (rows_one_c (x := ⟨x, y1, y2, y3, y4⟩) HN6.out) (rows_one1 _) (by have := LK.out; simp at this; unfold maxLen; omega) (by have := LK.out; simp at this; omega) H6.out.tur.size ?_
       intro v7 w7 hown hg hv
       obtain ⟨A7, c7, rfl⟩ := own_form3 hown
       have HB7 := Lh (H6.out.blk.grown hg (H6.out.own_ne H6.out.blk (by decide)))
       have HI7 := Lh (HI6.out.grown hg (H6.out.own_ne HI6.out (by decide)))
       have H8 := Lh (H6.out.grown (x := ⟨x, y1, y2, y3, y4⟩) (by omega) (by omega) hg hown)
       clear hown hg hv
       (refine hK.out _ _ HI7.out (fun hHeld => ?_))
       clear hK K
       ((try simp only [Act.put]); (try simp only [z1]); (try simp only [z3]); (try simp only [z2]))
       (refine tq 20 68 ?_)
       ((try simp only [Act.put]); (try simp only [z1]); (try simp only [z3]); (try simp only [z2]))
       have hcb := HB7.out.cell
       have hfb := HB7.out.frozen
       (refine wpAnyH_ready (rs := [21]) (by kernel_rfl) (by simp) ?_)
       (refine AllReadyH.cons (o := _) rfl (fun K hK => ?_) AllReadyH.nil)
       go_simp
       have HI8 := Lh (HI7.out.far (p := ⟨b, 4, none⟩) hIb (.slice A7 (l.length + 1) c7))
       clear hcb hfb
       (refine hK.out _ _ HI8.out (fun hHeld => ?_))
       clear hK K
       (refine wpAnyH_done (by kernel_rfl) ?_ _)
       go_wp2
       go_roundw
       case rel => exact ⟨k + 1, by go_num, by omega, Lh ⟨_, _, by rw [HS2.out]; exact H8.out⟩⟩
       case measure => simp [intOf]; omega
      ·go_simp
       (with_reducible refine (rd_int HG2.out.rd).mono ?_)
       rintro e wa3 ⟨rfl, fva3, hr, hf⟩
       have HG3 := Lh (HG2.out.read (by omega) hr hf)
       have HJ3 := Lh (hf.blk HJ2.out hIq)
       clear hr hf
       generalize (intP xs sa2) = y at *
       obtain ⟨y2, sa3⟩ := y
       dsimp only at HG3 HS2
       go_simp
       (refine hK.out _ _ HJ3.out (fun hHeld => ?_))
       clear hK K
       (try dsimp only)
       (refine wpAnyH_ready (rs := [1, 12]) (by kernel_rfl) (by simp) ?_)
       refine AllReadyH.cons (o := _) rfl (fun K hK => ?_) (AllReadyH.cons (o := _) rfl (fun K hK => ?_) AllReadyH.nil)
       ·have hcb := HG3.out.blk.cell
        go_simp
        clear hcb
        (refine hK.out _ _ HJ3.out (fun hHeld => ?_))
        clear hK K
        ((try simp only [Act.put]); (try simp only [z1]); (try simp only [z3]); (try simp only [z2]))
        (refine wpAnyH_ready (rs := [12]) (by kernel_rfl) (by simp) ?_)
        (refine AllReadyH.cons (o := _) rfl (fun K hK => ?_) AllReadyH.nil)
        go_simp
        (with_reducible refine (rd_int HG3.out.rd).mono ?_)
        rintro e wa4 ⟨rfl, fva4, hr, hf⟩
        have HG4 := Lh (HG3.out.read (by omega) hr hf)
        have HJ4 := Lh (hf.blk HJ3.out hIq)
        clear hr hf
        generalize (intP xs sa3) = y at *
        obtain ⟨y3, sa4⟩ := y
        dsimp only at HG4 HS2
        go_simp
        (refine hK.out _ _ HJ4.out (fun hHeld => ?_))
        clear hK K
        (try dsimp only)
        (refine wpAnyH_ready (rs := [15]) (by kernel_rfl) (by simp) ?_)
        (refine AllReadyH.cons (o := _) rfl (fun K hK => ?_) AllReadyH.nil)
        go_simp
        (with_reducible refine (rd_int HG4.out.rd).mono ?_)
        rintro e wa5 ⟨rfl, fva5, hr, hf⟩
        have HG5 := Lh (HG4.out.read (by omega) hr hf)
        have HJ5 := Lh (hf.blk HJ4.out hIq)
        clear hr hf
        generalize (intP xs sa4) = y at *
        obtain ⟨y4, sa5⟩ := y
        dsimp only at HG5 HS2
        go_simp
        (refine hK.out _ _ HJ5.out (fun hHeld => ?_))
        clear hK K
        (try dsimp only)
        (refine tq 16 64 ?_)
        ((try simp only [Act.put]); (try simp only [z1]); (try simp only [z3]); (try simp only [z2]))
        (refine tq 17 65 ?_)
        ((try simp only [Act.put]); (try simp only [z1]); (try simp only [z3]); (try simp only [z2]))
        (refine wpAnyH_ready (rs := [18]) (by kernel_rfl) (by simp) ?_)
        (refine AllReadyH.cons (o := _) rfl (fun K hK => ?_) AllReadyH.nil)
        go_simp
        have HN6 := Lh (Blk.new wa5 84 #[.int .i64 x.view, .string x.key, .int .i64 x.start, .int .i64 y1, .int .i64 y2, .int .i64 y3, .int .i64 y4])
        have H6 := Lh (HG5.out.alloc (.cells #[.int .i64 x.view, .string x.key, .int .i64 x.start, .int .i64 y1, .int .i64 y2, .int .i64 y3, .int .i64 y4] 84))
        have HI6 := Lh (HJ5.out.alloc (.cells #[.int .i64 x.view, .string x.key, .int .i64 x.start, .int .i64 y1, .int .i64 y2, .int .i64 y3, .int .i64 y4] 84))
        generalize hw6 : wa5.alloc (.cells #[.int .i64 x.view, .string x.key, .int .i64 x.start, .int .i64 y1, .int .i64 y2, .int .i64 y3, .int .i64 y4] 84) = wa6 at *
        generalize wa5.heap.size = jn at *
        (refine hK.out _ _ HI6.out (fun hHeld => ?_))
        clear hK K
        ((try simp only [Act.put]); (try simp only [z1]); (try simp only [z3]); (try simp only [z2]))
        (refine wpAnyH_ready (rs := [19]) (by kernel_rfl) (by simp) ?_)
        (refine AllReadyH.cons (o := _) rfl (fun K hK => ?_) AllReadyH.nil)
        refine want_ (by kernel_rfl) ?_
        refine wp_append_at _ _ _ rfl W0.heap.size _ ic zc 7 64 Tryz.underlying35 hic hzc hz1 hz2 hz3 (by decide) vz l.length (rowCs l) rfl H6.out.rows ⟨jn, 0, none⟩ 1 1 (RowV.cells ⟨x, y1, y2, y3, y4⟩) rfl rfl (rows_one_c (x := ⟨x, y1, y2, y3, y4⟩) HN6.out) (rows_one1 _) (by have := LK.out; simp at this; unfold maxLen; omega) (by have := LK.out; simp at this; omega) H6.out.tur.size ?_
        intro v7 w7 hown hg hv
        obtain ⟨A7, c7, rfl⟩ := own_form3 hown
        have HB7 := Lh (H6.out.blk.grown hg (H6.out.own_ne H6.out.blk (by decide)))
        have HI7 := Lh (HI6.out.grown hg (H6.out.own_ne HI6.out (by decide)))
        have H8 := Lh (H6.out.grown (x := ⟨x, y1, y2, y3, y4⟩) (by omega) (by omega) hg hown)
        clear hown hg hv
        (refine hK.out _ _ HI7.out (fun hHeld => ?_))
        clear hK K
        ((try simp only [Act.put]); (try simp only [z1]); (try simp only [z3]); (try simp only [z2]))
        (refine tq 20 68 ?_)
        ((try simp only [Act.put]); (try simp only [z1]); (try simp only [z3]); (try simp only [z2]))
        have hcb := HB7.out.cell
        have hfb := HB7.out.frozen
        (refine wpAnyH_ready (rs := [21]) (by kernel_rfl) (by simp) ?_)
        (refine AllReadyH.cons (o := _) rfl (fun K hK => ?_) AllReadyH.nil)
        go_simp
        have HI8 := Lh (HI7.out.far (p := ⟨b, 4, none⟩) hIb (.slice A7 (l.length + 1) c7))
        clear hcb hfb
        (refine hK.out _ _ HI8.out (fun hHeld => ?_))
        clear hK K
        (refine wpAnyH_done (by kernel_rfl) ?_ _)
        go_wp2
        go_roundw
        case rel => exact ⟨k + 1, by go_num, by omega, Lh ⟨_, _, by rw [HS2.out]; exact H8.out⟩⟩
        case measure => simp [intOf]; omega
       ·go_simp
        (with_reducible refine (rd_int HG3.out.rd).mono ?_)
        rintro e wa4 ⟨rfl, fva4, hr, hf⟩
        have HG4 := Lh (HG3.out.read (by omega) hr hf)
        have HJ4 := Lh (hf.blk HJ3.out hIq)
        clear hr hf
        generalize (intP xs sa3) = y at *
        obtain ⟨y3, sa4⟩ := y
        dsimp only at HG4 HS2
        go_simp
        (refine hK.out _ _ HJ4.out (fun hHeld => ?_))
        clear hK K
        (try dsimp only)
        (refine wpAnyH_ready (rs := [1, 15]) (by kernel_rfl) (by simp) ?_)
        refine AllReadyH.cons (o := _) rfl (fun K hK => ?_) (AllReadyH.cons (o := _) rfl (fun K hK => ?_) AllReadyH.nil)
        ·have hcb := HG4.out.blk.cell
         go_simp
         clear hcb
         (refine hK.out _ _ HJ4.out (fun hHeld => ?_))
         clear hK K
         ((try simp only [Act.put]); (try simp only [z1]); (try simp only [z3]); (try simp only [z2]))
         (refine wpAnyH_ready (rs := [15]) (by kernel_rfl) (by simp) ?_)
         (refine AllReadyH.cons (o := _) rfl (fun K hK => ?_) AllReadyH.nil)
         go_simp
         (with_reducible refine (rd_int HG4.out.rd).mono ?_)
         rintro e wa5 ⟨rfl, fva5, hr, hf⟩
         have HG5 := Lh (HG4.out.read (by omega) hr hf)
         have HJ5 := Lh (hf.blk HJ4.out hIq)
         clear hr hf
         generalize (intP xs sa4) = y at *
         obtain ⟨y4, sa5⟩ := y
         dsimp only at HG5 HS2
         go_simp
         (refine hK.out _ _ HJ5.out (fun hHeld => ?_))
         clear hK K
         (try dsimp only)
         (refine tq 16 64 ?_)
         ((try simp only [Act.put]); (try simp only [z1]); (try simp only [z3]); (try simp only [z2]))
         (refine tq 17 65 ?_)
         ((try simp only [Act.put]); (try simp only [z1]); (try simp only [z3]); (try simp only [z2]))
         (refine wpAnyH_ready (rs := [18]) (by kernel_rfl) (by simp) ?_)
         (refine AllReadyH.cons (o := _) rfl (fun K hK => ?_) AllReadyH.nil)
         go_simp
         have HN6 := Lh (Blk.new wa5 84 #[.int .i64 x.view, .string x.key, .int .i64 x.start, .int .i64 y1, .int .i64 y2, .int .i64 y3, .int .i64 y4])
         have H6 := Lh (HG5.out.alloc (.cells #[.int .i64 x.view, .string x.key, .int .i64 x.start, .int .i64 y1, .int .i64 y2, .int .i64 y3, .int .i64 y4] 84))
         have HI6 := Lh (HJ5.out.alloc (.cells #[.int .i64 x.view, .string x.key, .int .i64 x.start, .int .i64 y1, .int .i64 y2, .int .i64 y3, .int .i64 y4] 84))
         generalize hw6 : wa5.alloc (.cells #[.int .i64 x.view, .string x.key, .int .i64 x.start, .int .i64 y1, .int .i64 y2, .int .i64 y3, .int .i64 y4] 84) = wa6 at *
         generalize wa5.heap.size = jn at *
         (refine hK.out _ _ HI6.out (fun hHeld => ?_))
         clear hK K
         ((try simp only [Act.put]); (try simp only [z1]); (try simp only [z3]); (try simp only [z2]))
         (refine wpAnyH_ready (rs := [19]) (by kernel_rfl) (by simp) ?_)
         (refine AllReadyH.cons (o := _) rfl (fun K hK => ?_) AllReadyH.nil)
         refine want_ (by kernel_rfl) ?_
         refine wp_append_at _ _ _ rfl W0.heap.size _ ic zc 7 64 Tryz.underlying35 hic hzc hz1 hz2 hz3 (by decide) vz l.length (rowCs l) rfl H6.out.rows ⟨jn, 0, none⟩ 1 1 (RowV.cells ⟨x, y1, y2, y3, y4⟩) rfl rfl (rows_one_c (x := ⟨x, y1, y2, y3, y4⟩) HN6.out) (rows_one1 _) (by have := LK.out; simp at this; unfold maxLen; omega) (by have := LK.out; simp at this; omega) H6.out.tur.size ?_
         intro v7 w7 hown hg hv
         obtain ⟨A7, c7, rfl⟩ := own_form3 hown
         have HB7 := Lh (H6.out.blk.grown hg (H6.out.own_ne H6.out.blk (by decide)))
         have HI7 := Lh (HI6.out.grown hg (H6.out.own_ne HI6.out (by decide)))
         have H8 := Lh (H6.out.grown (x := ⟨x, y1, y2, y3, y4⟩) (by omega) (by omega) hg hown)
         clear hown hg hv
         (refine hK.out _ _ HI7.out (fun hHeld => ?_))
         clear hK K
         ((try simp only [Act.put]); (try simp only [z1]); (try simp only [z3]); (try simp only [z2]))
         (refine tq 20 68 ?_)
         ((try simp only [Act.put]); (try simp only [z1]); (try simp only [z3]); (try simp only [z2]))
         have hcb := HB7.out.cell
         have hfb := HB7.out.frozen
         (refine wpAnyH_ready (rs := [21]) (by kernel_rfl) (by simp) ?_)
         (refine AllReadyH.cons (o := _) rfl (fun K hK => ?_) AllReadyH.nil)
         go_simp
         have HI8 := Lh (HI7.out.far (p := ⟨b, 4, none⟩) hIb (.slice A7 (l.length + 1) c7))
         clear hcb hfb
         (refine hK.out _ _ HI8.out (fun hHeld => ?_))
         clear hK K
         (refine wpAnyH_done (by kernel_rfl) ?_ _)
         go_wp2
         go_roundw
         case rel => exact ⟨k + 1, by go_num, by omega, Lh ⟨_, _, by rw [HS2.out]; exact H8.out⟩⟩
         case measure => simp [intOf]; omega
        ·go_simp
         (with_reducible refine (rd_int HG4.out.rd).mono ?_)
         rintro e wa5 ⟨rfl, fva5, hr, hf⟩
         have HG5 := Lh (HG4.out.read (by omega) hr hf)
         have HJ5 := Lh (hf.blk HJ4.out hIq)
         clear hr hf
         generalize (intP xs sa4) = y at *
         obtain ⟨y4, sa5⟩ := y
         dsimp only at HG5 HS2
         go_simp
         (refine hK.out _ _ HJ5.out (fun hHeld => ?_))
         clear hK K
         (try dsimp only)
         (refine tq 16 64 ?_)
         ((try simp only [Act.put]); (try simp only [z1]); (try simp only [z3]); (try simp only [z2]))
         (refine tq 17 65 ?_)
         ((try simp only [Act.put]); (try simp only [z1]); (try simp only [z3]); (try simp only [z2]))
         (refine wpAnyH_ready (rs := [1, 18]) (by kernel_rfl) (by simp) ?_)
         refine AllReadyH.cons (o := _) rfl (fun K hK => ?_) (AllReadyH.cons (o := _) rfl (fun K hK => ?_) AllReadyH.nil)
         ·have hcb := HG5.out.blk.cell
          go_simp
          clear hcb
          (refine hK.out _ _ HJ5.out (fun hHeld => ?_))
          clear hK K
          ((try simp only [Act.put]); (try simp only [z1]); (try simp only [z3]); (try simp only [z2]))
          (refine wpAnyH_ready (rs := [18]) (by kernel_rfl) (by simp) ?_)
          (refine AllReadyH.cons (o := _) rfl (fun K hK => ?_) AllReadyH.nil)
          go_simp
          have HN6 := Lh (Blk.new wa5 84 #[.int .i64 x.view, .string x.key, .int .i64 x.start, .int .i64 y1, .int .i64 y2, .int .i64 y3, .int .i64 y4])
          have H6 := Lh (HG5.out.alloc (.cells #[.int .i64 x.view, .string x.key, .int .i64 x.start, .int .i64 y1, .int .i64 y2, .int .i64 y3, .int .i64 y4] 84))
          have HI6 := Lh (HJ5.out.alloc (.cells #[.int .i64 x.view, .string x.key, .int .i64 x.start, .int .i64 y1, .int .i64 y2, .int .i64 y3, .int .i64 y4] 84))
          generalize hw6 : wa5.alloc (.cells #[.int .i64 x.view, .string x.key, .int .i64 x.start, .int .i64 y1, .int .i64 y2, .int .i64 y3, .int .i64 y4] 84) = wa6 at *
          generalize wa5.heap.size = jn at *
          (refine hK.out _ _ HI6.out (fun hHeld => ?_))
          clear hK K
          ((try simp only [Act.put]); (try simp only [z1]); (try simp only [z3]); (try simp only [z2]))
          (refine wpAnyH_ready (rs := [19]) (by kernel_rfl) (by simp) ?_)
          (refine AllReadyH.cons (o := _) rfl (fun K hK => ?_) AllReadyH.nil)
          refine want_ (by kernel_rfl) ?_
          refine wp_append_at _ _ _ rfl W0.heap.size _ ic zc 7 64 Tryz.underlying35 hic hzc hz1 hz2 hz3 (by decide) vz l.length (rowCs l) rfl H6.out.rows ⟨jn, 0, none⟩ 1 1 (RowV.cells ⟨x, y1, y2, y3, y4⟩) rfl rfl (rows_one_c (x := ⟨x, y1, y2, y3, y4⟩) HN6.out) (rows_one1 _) (by have := LK.out; simp at this; unfold maxLen; omega) (by have := LK.out; simp at this; omega) H6.out.tur.size ?_
          intro v7 w7 hown hg hv
          obtain ⟨A7, c7, rfl⟩ := own_form3 hown
          have HB7 := Lh (H6.out.blk.grown hg (H6.out.own_ne H6.out.blk (by decide)))
          have HI7 := Lh (HI6.out.grown hg (H6.out.own_ne HI6.out (by decide)))
          have H8 := Lh (H6.out.grown (x := ⟨x, y1, y2, y3, y4⟩) (by omega) (by omega) hg hown)
          clear hown hg hv
          (refine hK.out _ _ HI7.out (fun hHeld => ?_))
          clear hK K
          ((try simp only [Act.put]); (try simp only [z1]); (try simp only [z3]); (try simp only [z2]))
          (refine tq 20 68 ?_)
          ((try simp only [Act.put]); (try simp only [z1]); (try simp only [z3]); (try simp only [z2]))
          have hcb := HB7.out.cell
          have hfb := HB7.out.frozen
          (refine wpAnyH_ready (rs := [21]) (by kernel_rfl) (by simp) ?_)
          (refine AllReadyH.cons (o := _) rfl (fun K hK => ?_) AllReadyH.nil)
          go_simp
          have HI8 := Lh (HI7.out.far (p := ⟨b, 4, none⟩) hIb (.slice A7 (l.length + 1) c7))
          clear hcb hfb
          (refine hK.out _ _ HI8.out (fun hHeld => ?_))
          clear hK K
          (refine wpAnyH_done (by kernel_rfl) ?_ _)
          go_wp2
          go_roundw
          case rel => exact ⟨k + 1, by go_num, by omega, Lh ⟨_, _, by rw [HS2.out]; exact H8.out⟩⟩
          case measure => simp [intOf]; omega
         ·go_simp
          have HN6 := Lh (Blk.new wa5 84 #[.int .i64 x.view, .string x.key, .int .i64 x.start, .int .i64 y1, .int .i64 y2, .int .i64 y3, .int .i64 y4])
          have H6 := Lh (HG5.out.alloc (.cells #[.int .i64 x.view, .string x.key, .int .i64 x.start, .int .i64 y1, .int .i64 y2, .int .i64 y3, .int .i64 y4] 84))
          have HI6 := Lh (HJ5.out.alloc (.cells #[.int .i64 x.view, .string x.key, .int .i64 x.start, .int .i64 y1, .int .i64 y2, .int .i64 y3, .int .i64 y4] 84))
          generalize hw6 : wa5.alloc (.cells #[.int .i64 x.view, .string x.key, .int .i64 x.start, .int .i64 y1, .int .i64 y2, .int .i64 y3, .int .i64 y4] 84) = wa6 at *
          generalize wa5.heap.size = jn at *
          (refine hK.out _ _ HI6.out (fun hHeld => ?_))
          clear hK K
          ((try simp only [Act.put]); (try simp only [z1]); (try simp only [z3]); (try simp only [z2]))
          (refine wpAnyH_ready (rs := [1]) (by kernel_rfl) (by simp) ?_)
          (refine AllReadyH.cons (o := _) rfl (fun K hK => ?_) AllReadyH.nil)
          have hcb := H6.out.blk.cell
          go_simp
          clear hcb
          (refine hK.out _ _ HI6.out (fun hHeld => ?_))
          clear hK K
          ((try simp only [Act.put]); (try simp only [z1]); (try simp only [z3]); (try simp only [z2]))
          (refine wpAnyH_ready (rs := [19]) (by kernel_rfl) (by simp) ?_)
          (refine AllReadyH.cons (o := _) rfl (fun K hK => ?_) AllReadyH.nil)
          refine want_ (by kernel_rfl) ?_
          refine wp_append_at _ _ _ rfl W0.heap.size _ ic zc 7 64 Tryz.underlying35 hic hzc hz1 hz2 hz3 (by decide) vz l.length (rowCs l) rfl H6.out.rows ⟨jn, 0, none⟩ 1 1 (RowV.cells ⟨x, y1, y2, y3, y4⟩) rfl rfl (rows_one_c (x := ⟨x, y1, y2, y3, y4⟩) HN6.out) (rows_one1 _) (by have := LK.out; simp at this; unfold maxLen; omega) (by have := LK.out; simp at this; omega) H6.out.tur.size ?_
          intro v7 w7 hown hg hv
          obtain ⟨A7, c7, rfl⟩ := own_form3 hown
          have HB7 := Lh (H6.out.blk.grown hg (H6.out.own_ne H6.out.blk (by decide)))
          have HI7 := Lh (HI6.out.grown hg (H6.out.own_ne HI6.out (by decide)))
          have H8 := Lh (H6.out.grown (x := ⟨x, y1, y2, y3, y4⟩) (by omega) (by omega) hg hown)
          clear hown hg hv
          (refine hK.out _ _ HI7.out (fun hHeld => ?_))
          clear hK K
          ((try simp only [Act.put]); (try simp only [z1]); (try simp only [z3]); (try simp only [z2]))
          (refine tq 20 68 ?_)
          ((try simp only [Act.put]); (try simp only [z1]); (try simp only [z3]); (try simp only [z2]))
          have hcb := HB7.out.cell
          have hfb := HB7.out.frozen
          (refine wpAnyH_ready (rs := [21]) (by kernel_rfl) (by simp) ?_)
          (refine AllReadyH.cons (o := _) rfl (fun K hK => ?_) AllReadyH.nil)
          go_simp
          have HI8 := Lh (HI7.out.far (p := ⟨b, 4, none⟩) hIb (.slice A7 (l.length + 1) c7))
          clear hcb hfb
          (refine hK.out _ _ HI8.out (fun hHeld => ?_))
          clear hK K
          (refine wpAnyH_done (by kernel_rfl) ?_ _)
          go_wp2
          go_roundw
          case rel => exact ⟨k + 1, by go_num, by omega, Lh ⟨_, _, by rw [HS2.out]; exact H8.out⟩⟩
          case measure => simp [intOf]; omega
   ·rw [hfz] at he
    obtain ⟨g, rfl, _⟩ := he
    have HS2 := Lh (show iterG rowD xs (k + 1) ([], s3) = (l, sz) by rw [HSTEP.out]; unfold stepG; simp [hfz])
    go_wp2
    go_roundw
    case rel => exact ⟨k + 1, by go_num, by omega, Lh ⟨fz, vz, by rw [HS2.out]; exact H4.out⟩⟩
    case measure => simp [intOf]; omega
  ·have HE := Lh (show k = cnt by omega)
   go_wp2_with fail
   clear hci HIz
   have hx := HE.out
   subst hx
   clear HE
   have HX7 := Lh (show RsIs W0 q b A1 n c1 xs (readS xs).1 (readS xs).2 _ _ _ from by
    have e : readS xs = ((⟨(k0 : Int), (id0 : Int), 0, 0, (iterG rowD xs (countP xs 256 s2).1 ([], (countP xs 256 s2).2)).1, st0⟩ : Rs), (iterG rowD xs (countP xs 256 s2).1 ([], (countP xs 256 s2).2)).2) := by
     unfold readS bodyS
     rw [HKD.out]
     dsimp only
     rw [HID.out]
     have hk := HKN.out
     subst hk
     simp
    rw [e]
    exact (by rw [HCP.out]; exact HP.out))
   clear HP LK HSTEP HX70 hkn hk h256
   obtain ⟨vv, hvv⟩ := HX7.out.exv
   clear HX7
   have HX7 := Lh hvv
   clear hvv
   have HDEC := Lh (show decRs xs = if (checkD (checkRs (readS xs).1) (endP xs (readS xs).2)).fault.isSome then (rs0, (checkD (checkRs (readS xs).1) (endP xs (readS xs).2)).fault) else ((readS xs).1, none) by
    unfold decRs
    rw [if_neg (by rw [HKD.out]; have := HKN.out; omega)])
   have HOK := Lh (readS_ok xs)
   generalize readS xs = y at *
   obtain ⟨r', s3⟩ := y
   dsimp only at HX7 HDEC HOK
   have HI7 := Lh (HI0.out.tur HX7.out.tur (by omega))
   have hci := HI7.out.cell
   go_wp2_with fail
   go_at_call 27; (with_reducible refine (rd_end HX7.out.rd).mono ?_); rintro e w7 ⟨rfl, fv7, hr, hf⟩
   have HX8 := Lh (HX7.out.read (by omega) hr hf)
   have HI8 := Lh (HI0.out.tur HX8.out.tur (by omega))
   clear hr hf HX7 HI7 hci
   have hci := HI8.out.cell
   go_wp2_with fail
   go_at_call 26; (with_reducible refine (rd_err HX8.out.rd).mono ?_); rintro e w8 ⟨hb8, he⟩
   have HX9 := Lh (HX8.out.kept hb8)
   have HI9 := Lh (HI8.out.kept hb8)
   have HR9 := Lh (HR0.out.tur HX9.out.tur (by omega))
   have HB9 := Lh (HB0.out.trans (HX9.out.tur.below (by have := HB0.out.size; omega) (fun k e => by omega)))
   clear hb8 HX8 HI8 hci
   have hci := HI9.out.cell
   rcases hfl : (endP xs s3).fault with _ | ⟨code, pl⟩
   ·rw [hfl] at he
    obtain rfl := he
    go_wp2_with fail
    obtain ⟨As, cz, rfl, hrd, hba⟩ := HX9.out.rows.rd
    have HCR := Lh hrd
    have HLE := Lh (RowsOwn.le HX9.out.rows)
    clear hrd hba hci
    (refine wp_region_held_drew (S := fun w9 => Blk w9 bI 64 #[.pointer (some ⟨q, 0, none⟩)] ∧ Blk w9 b 39 (rsC (.slice As r'.rows.length cz) r')) (by kernel_rfl) ⟨HI9.out.drew, HX9.out.blk.drew⟩ (fun hHeld => ?_))
    (refine tq 0 115 ?_)
    ((try simp only [Act.put]); (try simp only [z1]); (try simp only [z3]); (try simp only [z2]))
    (refine tr (v := ?v143) 1 116 ?h143 ?_)
    case h143 => (intro w9 hSw; have hc9 := Blk.cell hSw.1; clear hSw; first | (go_simp; done) | (go_simp; with_reducible rfl))
    ((try simp only [Act.put]); (try simp only [z1]); (try simp only [z3]); (try simp only [z2]))
    (refine tr (v := ?v144) 2 117 ?h144 ?_)
    case h144 => (intro w9 hSw; have hc9 := Blk.cell hSw.2; clear hSw; first | (go_simp; done) | (go_simp; with_reducible rfl))
    ((try simp only [Act.put]); (try simp only [z1]); (try simp only [z3]); (try simp only [z2]))
    (refine wpAnyH_ready (rs := [3]) (by kernel_rfl) (by simp) ?_)
    (refine AllReadyH.cons (o := _) rfl (fun K hK => ?_) AllReadyH.nil)
    go_simp
    go_simp
    (with_reducible refine (check_rs As r'.rows.length cz r' _ rfl (HCR.out.below (Below.refl _ _).drew) HLE.out HOK.out).mono ?_)
    rintro e w9 ⟨rfl, hb9⟩
    have HX10 := Lh ((HX9.out.kept (Below.refl _ _).drew).kept hb9)
    have HI10 := Lh (HI9.out.drew.kept hb9)
    clear hb9
    go_simp
    (refine hK.out _ _ ⟨HI10.out, HX10.out.blk⟩ (fun hHeld => ?_))
    clear hK K
    ((try simp only [Act.put]); (try simp only [z1]); (try simp only [z3]); (try simp only [z2]))
    (refine wpAnyH_ready (rs := [4]) (by kernel_rfl) (by simp) ?_)
    (refine AllReadyH.cons (o := _) rfl (fun K hK => ?_) AllReadyH.nil)
    go_simp
    go_simp
    (with_reducible refine (rd_fail HX10.out.rd (checkRs r') 0).mono ?_)
    rintro e wA ⟨rfl, fvA, hr, hf⟩
    have HX11 := Lh (HX10.out.read (by omega) hr hf)
    have HI11 := Lh (HI0.out.tur HX11.out.tur (by omega))
    have HR11 := Lh (HR0.out.tur HX11.out.tur (by omega))
    have HB11 := Lh (HB0.out.trans (HX11.out.tur.below (by have := HB0.out.size; omega) (fun k e => by omega)))
    clear hr hf
    go_simp
    (refine hK.out _ _ ⟨HI11.out, HX11.out.blk⟩ (fun hHeld => ?_))
    clear hK K
    (refine wpAnyH_done (by kernel_rfl) ?_ _)
    have HCD := Lh (show checkD (checkRs r') (endP xs s3) = (endP xs s3).fail (checkRs r') 0 by unfold checkD; simp [hfl])
    have hci := HI11.out.cell
    go_wp2_with fail
    go_at_call 26; (with_reducible refine (rd_err HX11.out.rd).mono ?_); rintro e wB ⟨hbB, he⟩
    have HX12 := Lh (HX11.out.kept hbB)
    have HR12 := Lh (HR11.out.kept hbB)
    have HB12 := Lh (HB11.out.trans (hbB.mono HB11.out.size))
    have hcR := HR12.out.cell
    have hfR := HR12.out.frozen
    clear hbB hci
    rcases hf2 : ((endP xs s3).fail (checkRs r') 0).fault with _ | ⟨code, pl⟩
    ·rw [hf2] at he
     obtain rfl := he
     have HD := Lh (show decRs xs = (r', none) by rw [HDEC.out, HCD.out]; simp [hf2])
     have hcb := HX12.out.blk.cell
     obtain ⟨wC, HW, HS⟩ := set11e HR12.out (.int .i64 r'.kind) (.int .i64 r'.id) (.int .i64 r'.err) (.int .i64 r'.epoch) (.slice As r'.rows.length cz) (.int .i64 r'.st.taken) (.int .i64 r'.st.late) (.int .i64 r'.st.over) (.int .i64 r'.st.full) (.int .i64 r'.st.cells) (.int .i64 r'.st.now)
     go_wp2
     rw [HW.out]
     have hc7 := HS.out.1.cell
     exact bodyPost_ret (v := .tuple #[.agg (rsC (.slice As r'.rows.length cz) r'), .nilIface]) (by simp [results, Tryz.results9, go_sem, hc7]) rfl
      ⟨HB12.out.trans (HS.out.2.below HB12.out.size (fun k e => by omega)), by rw [HD.out]; exact ⟨_, rfl, HX12.out.rows_low HS.out.2 (by omega)⟩⟩
    ·rw [hf2] at he
     obtain ⟨g, rfl, hg⟩ := he
     have HG := Lh hg
     have HD := Lh (show decRs xs = (rs0, some (code, pl)) by rw [HDEC.out, HCD.out]; simp [hf2])
     clear hg
     obtain ⟨wC, HW, HS⟩ := set11e HR12.out (.int .i64 0) (.int .i64 0) (.int .i64 0) (.int .i64 0) (.slice none 0 0) (.int .i64 0) (.int .i64 0) (.int .i64 0) (.int .i64 0) (.int .i64 0) (.int .i64 0)
     go_wp2
     rw [HW.out]
     have hc7 := HS.out.1.cell
     exact bodyPost_ret (v := .tuple #[.agg (rsC nilS rs0), errV g]) (by simp [results, Tryz.results9, go_sem, hc7, rs0, st0]) rfl
      ⟨HB12.out.trans (HS.out.2.below HB12.out.size (fun k e => by omega)), by rw [HD.out]; exact ⟨g, rfl, HG.out.tur HS.out.2 (fun e => by subst e; exact absurd rfl (HR12.out.ne_ HG.out (by decide)))⟩⟩
   ·rw [hfl] at he
    obtain ⟨g0, rfl, _⟩ := he
    go_wp2_with fail
    go_at_call 26; (with_reducible refine (rd_err HX9.out.rd).mono ?_); rintro e w9 ⟨hb9, he⟩
    rw [hfl] at he
    obtain ⟨g, rfl, hg⟩ := he
    have HG := Lh hg
    have HR10 := Lh (HR9.out.kept hb9)
    have HB10 := Lh (HB9.out.trans (hb9.mono HB9.out.size))
    have HD := Lh (show decRs xs = (rs0, some (code, pl)) by rw [HDEC.out]; unfold checkD; simp [hfl])
    have hcR := HR10.out.cell
    have hfR := HR10.out.frozen
    clear hb9 hg hci
    obtain ⟨w10, HW, HS⟩ := set11e HR10.out (.int .i64 0) (.int .i64 0) (.int .i64 0) (.int .i64 0) (.slice none 0 0) (.int .i64 0) (.int .i64 0) (.int .i64 0) (.int .i64 0) (.int .i64 0) (.int .i64 0)
    go_wp2
    rw [HW.out]
    have hc7 := HS.out.1.cell
    exact bodyPost_ret (v := .tuple #[.agg (rsC nilS rs0), errV g]) (by simp [results, Tryz.results9, go_sem, hc7, rs0, st0]) rfl
     ⟨HB10.out.trans (HS.out.2.below HB10.out.size (fun k e => by omega)), by rw [HD.out]; exact ⟨g, rfl, HG.out.tur HS.out.2 (fun e => by subst e; exact absurd rfl (HR10.out.ne_ HG.out (by decide)))⟩⟩
end Go.Proofs.YteffpfgdoganpaaGreatDoor
