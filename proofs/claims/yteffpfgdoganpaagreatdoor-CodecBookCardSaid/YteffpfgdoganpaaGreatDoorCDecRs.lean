/- DecodeResponse: the walk; no kind, bare, epoch, error. -/
import Derived.Test.YteffpfgdoganpaaGreatDoorCPls
namespace Go.Proofs.YteffpfgdoganpaaGreatDoor
open Go.RowKit
set_option maxRecDepth 100000
set_option maxHeartbeats 32000000

theorem decode_rs_none (A : Option Addr) (n c : Nat) (xs : List Int) (hk : (kindD xs).1 < 1 ∨ 5 < (kindD xs).1) (W : World) (hl : xs.length = n) (h : CellsAt W A (bvs xs)) (hw : ∀ x ∈ xs, (Lit.int .u8 x).wf = true) (hn : n ≤ 211106232532992) (hT : W.cell? ⟨0, 0, none⟩ = some tyErr) :
  Calls Tryz.prog 9 #[.slice A n c] W (DesQ W (decRs xs)) := by
 have HR0 := Lh (Blk.new W 39 #[.int .i64 0, .int .i64 0, .int .i64 0, .int .i64 0, .slice none 0 0, .int .i64 0, .int .i64 0, .int .i64 0, .int .i64 0, .int .i64 0, .int .i64 0])
 have CR := Lh (rd_read A n c xs (W.alloc (.cells #[.int .i64 0, .int .i64 0, .int .i64 0, .int .i64 0, .slice none 0 0, .int .i64 0, .int .i64 0, .int .i64 0, .int .i64 0, .int .i64 0, .int .i64 0] 39)) hl (h.below ((Below.refl _ _).alloc (Nat.le_refl _) _)) hw hn (((Below.refl W.heap.size W).alloc (Nat.le_refl _) _).cell (World.block_lt_of_cell? W _ hT) ▸ hT))
 have HTL := Lh (World.block_lt_of_cell? W _ hT)
 have HKN := Lh hk

 clear h hw hn hT hk
 go_enter Tryz.func9, Tryz.ntmps9
 go_wp2_with fail
 go_at_call 22; (with_reducible refine CR.out.mono ?_); rintro e w1 ⟨q, A1, c1, rfl, hq, hr, hA1, hb⟩
 have HB1 := Lh (((Below.refl W.heap.size W).alloc (Nat.le_refl _) (.cells #[.int .i64 0, .int .i64 0, .int .i64 0, .int .i64 0, .slice none 0 0, .int .i64 0, .int .i64 0, .int .i64 0, .int .i64 0, .int .i64 0, .int .i64 0] 39)).trans (hb.mono (by simp)))
 have HR1 := Lh (HR0.out.kept hb)
 have HD1 := Lh hr
 have HA1 := Lh hA1
 have hqR : W.heap.size < q := by have : (W.alloc (.cells #[.int .i64 0, .int .i64 0, .int .i64 0, .int .i64 0, .slice none 0 0, .int .i64 0, .int .i64 0, .int .i64 0, .int .i64 0, .int .i64 0, .int .i64 0] 39)).heap.size = W.heap.size + 1 := by simp
                                  omega
 have HI2 := Lh (Blk.new w1 64 #[.pointer (some ⟨q, 0, none⟩)])
 have hci := HI2.out.cell
 clear hb hr hA1 HR0 CR
 go_wp2_with fail
 go_at_call 23; (with_reducible refine (in_num (HD1.out.alloc (.cells #[.pointer (some ⟨q, 0, none⟩)] 64))).mono ?_); rintro e w3 ⟨rfl, fv3, hr, hf⟩
 have hIq : w1.heap.size ≠ q := by have := HD1.out.blk.lt; omega
 have HI3 := Lh (hf.blk HI2.out hIq)
 have HR3 := Lh (hf.blk (HR1.out.alloc (.cells #[.pointer (some ⟨q, 0, none⟩)] 64)) (by omega))
 have HB3 := Lh (HB1.out.trans (((RdFr.alloc0 w1 q .nilIface (.cells #[.pointer (some ⟨q, 0, none⟩)] 64)).trans hf).1.below HB1.out.size (fun k e => by omega)))
 have hs3 : w1.heap.size < w3.heap.size := HI3.out.lt
 have HD3 := Lh hr
 have hRI : W.heap.size ≤ w1.heap.size := HB1.out.size
 have HA3 := Lh (show ∀ ad, A1 = some ad → ad.block < w1.heap.size from fun ad e => (HA1.out ad e).2)
 have hq1 : q < w1.heap.size := HD1.out.blk.lt
 have hTR := HTL.out
 have HKD := Lh (show kindD xs = numP xs M40 ⟨0, none⟩ from rfl)
 clear hr hf HI2 HR1 HD1 HA1 HB1 hci hq
 generalize numP xs M40 ⟨0, none⟩ = y at *
 obtain ⟨k0, s1⟩ := y
 dsimp only at HD3 ⊢
 rw [HKD.out] at HKN
 generalize hI : w1.heap.size = bI at *
 have HI0 := Lh (HI3.out.alloc (.cells #[.int .i64 (k0 : Int), .int .i64 0, .int .i64 0, .int .i64 0, .slice none 0 0, .int .i64 0, .int .i64 0, .int .i64 0, .int .i64 0, .int .i64 0, .int .i64 0] 39))
 have HR0 := Lh (HR3.out.alloc (.cells #[.int .i64 (k0 : Int), .int .i64 0, .int .i64 0, .int .i64 0, .slice none 0 0, .int .i64 0, .int .i64 0, .int .i64 0, .int .i64 0, .int .i64 0, .int .i64 0] 39))
 have HB0 := Lh (HB3.out.alloc (by omega) (.cells #[.int .i64 (k0 : Int), .int .i64 0, .int .i64 0, .int .i64 0, .slice none 0 0, .int .i64 0, .int .i64 0, .int .i64 0, .int .i64 0, .int .i64 0, .int .i64 0] 39))
 have HX0 := Lh (RsIs.start (r := ⟨(k0 : Int), 0, 0, 0, [], st0⟩) (Blk.new w3 39 #[.int .i64 (k0 : Int), .int .i64 0, .int .i64 0, .int .i64 0, .slice none 0 0, .int .i64 0, .int .i64 0, .int .i64 0, .int .i64 0, .int .i64 0, .int .i64 0]) rfl (HD3.out.alloc (.cells #[.int .i64 (k0 : Int), .int .i64 0, .int .i64 0, .int .i64 0, .slice none 0 0, .int .i64 0, .int .i64 0, .int .i64 0, .int .i64 0, .int .i64 0, .int .i64 0] 39)) (by omega) (fun ad e => by have := HA3.out ad e; simp; omega) (by omega))
 have hs0 : (w3.alloc (.cells #[.int .i64 (k0 : Int), .int .i64 0, .int .i64 0, .int .i64 0, .slice none 0 0, .int .i64 0, .int .i64 0, .int .i64 0, .int .i64 0, .int .i64 0, .int .i64 0] 39)).heap.size = w3.heap.size + 1 := by simp
 have hcb : ∀ i, (w3.alloc (.cells #[.int .i64 (k0 : Int), .int .i64 0, .int .i64 0, .int .i64 0, .slice none 0 0, .int .i64 0, .int .i64 0, .int .i64 0, .int .i64 0, .int .i64 0, .int .i64 0] 39)).cell? ⟨w3.heap.size, i, none⟩ = (#[.int .i64 (k0 : Int), .int .i64 0, .int .i64 0, .int .i64 0, .slice none 0 0, .int .i64 0, .int .i64 0, .int .i64 0, .int .i64 0, .int .i64 0, .int .i64 0] : Array Value)[i]? := (Blk.new w3 39 #[.int .i64 (k0 : Int), .int .i64 0, .int .i64 0, .int .i64 0, .slice none 0 0, .int .i64 0, .int .i64 0, .int .i64 0, .int .i64 0, .int .i64 0, .int .i64 0]).cell
 have hci := HI3.out.cell
 go_wp2_with fail
 generalize hb : w3.heap.size = b at *
 generalize w3.alloc (.cells #[.int .i64 (k0 : Int), .int .i64 0, .int .i64 0, .int .i64 0, .slice none 0 0, .int .i64 0, .int .i64 0, .int .i64 0, .int .i64 0, .int .i64 0, .int .i64 0] 39) = W0 at *
 clear HR3 HB3 HI3 HD3 hci hcb hb
 go_at_call 29; (with_reducible refine (tells_none none 0 0 ⟨(k0 : Int), 0, 0, 0, [], ⟨0, 0, 0, 0, 0, 0⟩⟩ (by have := HKN.out; show (k0 : Int) < 1 ∨ 5 < (k0 : Int); omega) _).mono ?_); rintro e w4 ⟨rfl, hb4⟩
 have HX4 := Lh (fun o : Obj => (HX0.out.kept hb4).alloc o)
 have HI4 := Lh (fun o : Obj => (HI0.out.kept hb4).alloc o)
 have HR4 := Lh (fun o : Obj => (HR0.out.kept hb4).alloc o)
 have HB4 := Lh (fun o : Obj => ((HB0.out.trans (hb4.mono HB0.out.size)).alloc (Nat.le_trans HB0.out.size hb4.size) o))
 clear hb4
 have hci : ∀ (o : Obj) i, (w4.alloc o).cell? ⟨bI, i, none⟩ = (#[.pointer (some ⟨q, 0, none⟩)] : Array Value)[i]? := fun o => (HI4.out o).cell
 have hRq : W.heap.size ≠ q := by omega
 have hRb : W.heap.size ≠ b := by omega
 have hIb : bI ≠ b := by omega
 go_wp2_with fail
 go_at_call 25; (with_reducible refine (rd_fail (HX4.out _).rd 15 0).mono ?_); rintro e w5 ⟨rfl, fv5, hr, hf⟩
 have HD5 := Lh hr
 have HI5 := Lh (hf.blk (HI4.out _) hIq)
 have HR5 := Lh (hf.blk (HR4.out _) hRq)
 have HB5 := Lh ((HB4.out _).trans (hf.1.below (HB4.out _).size (fun k e => by omega)))
 clear hr hf hci
 have hci := HI5.out.cell
 go_wp2_with fail
 go_at_call 26; (with_reducible refine (rd_err HD5.out).mono ?_); rintro e w6 ⟨hb6, he⟩
 rcases hfl : (s1.fail 15 0).fault with _ | ⟨code, pl⟩
 ·exact absurd hfl (RS.fail_some (by decide))
 ·rw [hfl] at he
  obtain ⟨g, rfl, hg⟩ := he
  have HG := Lh hg
  have HR6 := Lh (HR5.out.kept hb6)
  have HB6 := Lh (HB5.out.trans (hb6.mono HB5.out.size))
  have HDEC := Lh (show decRs xs = (rs0, some (code, pl)) by unfold decRs; rw [if_pos (by rw [HKD.out]; exact HKN.out), HKD.out]; simp only [hfl])
  have hcR := HR6.out.cell
  have hfR := HR6.out.frozen
  clear hb6 hg hci
  obtain ⟨w7, HW, HS⟩ := set11e HR6.out (.int .i64 0) (.int .i64 0) (.int .i64 0) (.int .i64 0) (.slice none 0 0) (.int .i64 0) (.int .i64 0) (.int .i64 0) (.int .i64 0) (.int .i64 0) (.int .i64 0)
  go_wp2
  rw [HW.out]
  have hc7 := HS.out.1.cell
  exact bodyPost_ret (v := .tuple #[.agg (rsC nilS rs0), errV g]) (by simp [results, Tryz.results9, go_sem, hc7, rs0, st0]) rfl
   ⟨HB6.out.trans (HS.out.2.below HB6.out.size (fun k e => by omega)), by rw [HDEC.out]; exact ⟨g, rfl, HG.out.tur HS.out.2 (fun e => by subst e; exact absurd rfl (HR6.out.ne_ HG.out (by decide)))⟩⟩
theorem decode_rs_done (A : Option Addr) (n c : Nat) (xs : List Int) (hk : (kindD xs).1 = 3) (W : World) (hl : xs.length = n) (h : CellsAt W A (bvs xs)) (hw : ∀ x ∈ xs, (Lit.int .u8 x).wf = true) (hn : n ≤ 211106232532992) (hT : W.cell? ⟨0, 0, none⟩ = some tyErr) :
  Calls Tryz.prog 9 #[.slice A n c] W (DesQ W (decRs xs)) := by
 have HR0 := Lh (Blk.new W 39 #[.int .i64 0, .int .i64 0, .int .i64 0, .int .i64 0, .slice none 0 0, .int .i64 0, .int .i64 0, .int .i64 0, .int .i64 0, .int .i64 0, .int .i64 0])
 have CR := Lh (rd_read A n c xs (W.alloc (.cells #[.int .i64 0, .int .i64 0, .int .i64 0, .int .i64 0, .slice none 0 0, .int .i64 0, .int .i64 0, .int .i64 0, .int .i64 0, .int .i64 0, .int .i64 0] 39)) hl (h.below ((Below.refl _ _).alloc (Nat.le_refl _) _)) hw hn (((Below.refl W.heap.size W).alloc (Nat.le_refl _) _).cell (World.block_lt_of_cell? W _ hT) ▸ hT))
 have HTL := Lh (World.block_lt_of_cell? W _ hT)
 have HKN := Lh hk
 have hta1 := ta_bare_rows
 have hta2 := ta_bare_epoch
 have hta3 := ta_bare_stats
 have hta4 := ta_bare_failed
 clear h hw hn hT hk
 go_enter Tryz.func9, Tryz.ntmps9
 go_wp2_with fail
 go_at_call 22; (with_reducible refine CR.out.mono ?_); rintro e w1 ⟨q, A1, c1, rfl, hq, hr, hA1, hb⟩
 have HB1 := Lh (((Below.refl W.heap.size W).alloc (Nat.le_refl _) (.cells #[.int .i64 0, .int .i64 0, .int .i64 0, .int .i64 0, .slice none 0 0, .int .i64 0, .int .i64 0, .int .i64 0, .int .i64 0, .int .i64 0, .int .i64 0] 39)).trans (hb.mono (by simp)))
 have HR1 := Lh (HR0.out.kept hb)
 have HD1 := Lh hr
 have HA1 := Lh hA1
 have hqR : W.heap.size < q := by have : (W.alloc (.cells #[.int .i64 0, .int .i64 0, .int .i64 0, .int .i64 0, .slice none 0 0, .int .i64 0, .int .i64 0, .int .i64 0, .int .i64 0, .int .i64 0, .int .i64 0] 39)).heap.size = W.heap.size + 1 := by simp
                                  omega
 have HI2 := Lh (Blk.new w1 64 #[.pointer (some ⟨q, 0, none⟩)])
 have hci := HI2.out.cell
 clear hb hr hA1 HR0 CR
 go_wp2_with fail
 go_at_call 23; (with_reducible refine (in_num (HD1.out.alloc (.cells #[.pointer (some ⟨q, 0, none⟩)] 64))).mono ?_); rintro e w3 ⟨rfl, fv3, hr, hf⟩
 have hIq : w1.heap.size ≠ q := by have := HD1.out.blk.lt; omega
 have HI3 := Lh (hf.blk HI2.out hIq)
 have HR3 := Lh (hf.blk (HR1.out.alloc (.cells #[.pointer (some ⟨q, 0, none⟩)] 64)) (by omega))
 have HB3 := Lh (HB1.out.trans (((RdFr.alloc0 w1 q .nilIface (.cells #[.pointer (some ⟨q, 0, none⟩)] 64)).trans hf).1.below HB1.out.size (fun k e => by omega)))
 have hs3 : w1.heap.size < w3.heap.size := HI3.out.lt
 have HD3 := Lh hr
 have hRI : W.heap.size ≤ w1.heap.size := HB1.out.size
 have HA3 := Lh (show ∀ ad, A1 = some ad → ad.block < w1.heap.size from fun ad e => (HA1.out ad e).2)
 have hq1 : q < w1.heap.size := HD1.out.blk.lt
 have hTR := HTL.out
 have HKD := Lh (show kindD xs = numP xs M40 ⟨0, none⟩ from rfl)
 clear hr hf HI2 HR1 HD1 HA1 HB1 hci hq
 generalize numP xs M40 ⟨0, none⟩ = y at *
 obtain ⟨k0, s1⟩ := y
 dsimp only at HD3 ⊢
 rw [HKD.out] at HKN
 generalize hI : w1.heap.size = bI at *
 have HI0 := Lh (HI3.out.alloc (.cells #[.int .i64 (k0 : Int), .int .i64 0, .int .i64 0, .int .i64 0, .slice none 0 0, .int .i64 0, .int .i64 0, .int .i64 0, .int .i64 0, .int .i64 0, .int .i64 0] 39))
 have HR0 := Lh (HR3.out.alloc (.cells #[.int .i64 (k0 : Int), .int .i64 0, .int .i64 0, .int .i64 0, .slice none 0 0, .int .i64 0, .int .i64 0, .int .i64 0, .int .i64 0, .int .i64 0, .int .i64 0] 39))
 have HB0 := Lh (HB3.out.alloc (by omega) (.cells #[.int .i64 (k0 : Int), .int .i64 0, .int .i64 0, .int .i64 0, .slice none 0 0, .int .i64 0, .int .i64 0, .int .i64 0, .int .i64 0, .int .i64 0, .int .i64 0] 39))
 have HX0 := Lh (RsIs.start (r := ⟨(k0 : Int), 0, 0, 0, [], st0⟩) (Blk.new w3 39 #[.int .i64 (k0 : Int), .int .i64 0, .int .i64 0, .int .i64 0, .slice none 0 0, .int .i64 0, .int .i64 0, .int .i64 0, .int .i64 0, .int .i64 0, .int .i64 0]) rfl (HD3.out.alloc (.cells #[.int .i64 (k0 : Int), .int .i64 0, .int .i64 0, .int .i64 0, .slice none 0 0, .int .i64 0, .int .i64 0, .int .i64 0, .int .i64 0, .int .i64 0, .int .i64 0] 39)) (by omega) (fun ad e => by have := HA3.out ad e; simp; omega) (by omega))
 have hs0 : (w3.alloc (.cells #[.int .i64 (k0 : Int), .int .i64 0, .int .i64 0, .int .i64 0, .slice none 0 0, .int .i64 0, .int .i64 0, .int .i64 0, .int .i64 0, .int .i64 0, .int .i64 0] 39)).heap.size = w3.heap.size + 1 := by simp
 have hcb : ∀ i, (w3.alloc (.cells #[.int .i64 (k0 : Int), .int .i64 0, .int .i64 0, .int .i64 0, .slice none 0 0, .int .i64 0, .int .i64 0, .int .i64 0, .int .i64 0, .int .i64 0, .int .i64 0] 39)).cell? ⟨w3.heap.size, i, none⟩ = (#[.int .i64 (k0 : Int), .int .i64 0, .int .i64 0, .int .i64 0, .slice none 0 0, .int .i64 0, .int .i64 0, .int .i64 0, .int .i64 0, .int .i64 0, .int .i64 0] : Array Value)[i]? := (Blk.new w3 39 #[.int .i64 (k0 : Int), .int .i64 0, .int .i64 0, .int .i64 0, .slice none 0 0, .int .i64 0, .int .i64 0, .int .i64 0, .int .i64 0, .int .i64 0, .int .i64 0]).cell
 have hci := HI3.out.cell
 go_wp2_with fail
 generalize hb : w3.heap.size = b at *
 generalize w3.alloc (.cells #[.int .i64 (k0 : Int), .int .i64 0, .int .i64 0, .int .i64 0, .slice none 0 0, .int .i64 0, .int .i64 0, .int .i64 0, .int .i64 0, .int .i64 0, .int .i64 0] 39) = W0 at *
 clear HR3 HB3 HI3 HD3 hci hcb hb
 go_at_call 29; (with_reducible refine (tells_done none 0 0 ⟨(k0 : Int), 0, 0, 0, [], ⟨0, 0, 0, 0, 0, 0⟩⟩ (by have := HKN.out; show (k0 : Int) = 3; omega) _).mono ?_); rintro e w4 ⟨rfl, hb4⟩
 have HX4 := Lh (fun o : Obj => (HX0.out.kept hb4).alloc o)
 have HI4 := Lh (fun o : Obj => (HI0.out.kept hb4).alloc o)
 have HR4 := Lh (fun o : Obj => (HR0.out.kept hb4).alloc o)
 have HB4 := Lh (fun o : Obj => ((HB0.out.trans (hb4.mono HB0.out.size)).alloc (Nat.le_trans HB0.out.size hb4.size) o))
 clear hb4
 have hci : ∀ (o : Obj) i, (w4.alloc o).cell? ⟨bI, i, none⟩ = (#[.pointer (some ⟨q, 0, none⟩)] : Array Value)[i]? := fun o => (HI4.out o).cell
 have hRq : W.heap.size ≠ q := by omega
 have hRb : W.heap.size ≠ b := by omega
 have hIb : bI ≠ b := by omega
 go_wp2_with fail
 go_at_call 23; (with_reducible refine (in_num (HX4.out _).rd).mono ?_); rintro e w5 ⟨rfl, fv5, hr, hf⟩
 have HX5 := Lh ((HX4.out _).read (by omega) hr hf)
 clear hr hf hci HX4 HI4 HR4 HB4
 have HID := Lh (show numP xs M40 s1 = numP xs M40 s1 from rfl)
 generalize hid : numP xs M40 s1 = y at *
 clear HID
 have HID := Lh hid
 clear hid
 obtain ⟨id0, s2⟩ := y
 dsimp only at HX5 ⊢
 have hcb := HX5.out.blk.cell
 have hfb := HX5.out.blk.frozen
 have HX6 := Lh (HX5.out.set_ (r1 := ⟨(k0 : Int), (id0 : Int), 0, 0, [], st0⟩) 1 (.int .i64 (id0 : Int)) rfl HX5.out.rows)
 have HI6 := Lh (HI0.out.tur HX6.out.tur (by omega))
 have hci := HI6.out.cell
 go_wp2_with fail
 clear hcb hfb hci
 have HX7 := Lh (show RsIs W0 q b A1 n c1 xs (readS xs).1 (readS xs).2 _ _ _ from by
  have e : readS xs = ((⟨(k0 : Int), (id0 : Int), 0, 0, [], st0⟩ : Rs), s2) := by
   unfold readS bodyS
   rw [HKD.out]
   dsimp only
   rw [HID.out]
   have hk := HKN.out
   subst hk
   simp
  rw [e]
  exact HX6.out)
 clear HX6 HX5 HI6
 obtain ⟨vv, hvv⟩ := HX7.out.exv
 clear HX7
 have HX7 := Lh hvv
 clear hvv
 have HDEC := Lh (show decRs xs = if (checkD (checkRs (readS xs).1) (endP xs (readS xs).2)).fault.isSome then (rs0, (checkD (checkRs (readS xs).1) (endP xs (readS xs).2)).fault) else ((readS xs).1, none) by
  unfold decRs
  rw [if_neg (by rw [HKD.out]; have := HKN.out; omega)])
 have HOK := Lh (readS_ok xs)
 generalize readS xs = y at *
 obtain ⟨r', s3⟩ := y
 dsimp only at HX7 HDEC HOK
 have HI7 := Lh (HI0.out.tur HX7.out.tur (by omega))
 have hci := HI7.out.cell
 go_wp2_with fail
 go_at_call 27; (with_reducible refine (rd_end HX7.out.rd).mono ?_); rintro e w7 ⟨rfl, fv7, hr, hf⟩
 have HX8 := Lh (HX7.out.read (by omega) hr hf)
 have HI8 := Lh (HI0.out.tur HX8.out.tur (by omega))
 clear hr hf HX7 HI7 hci
 have hci := HI8.out.cell
 go_wp2_with fail
 go_at_call 26; (with_reducible refine (rd_err HX8.out.rd).mono ?_); rintro e w8 ⟨hb8, he⟩
 have HX9 := Lh (HX8.out.kept hb8)
 have HI9 := Lh (HI8.out.kept hb8)
 have HR9 := Lh (HR0.out.tur HX9.out.tur (by omega))
 have HB9 := Lh (HB0.out.trans (HX9.out.tur.below (by have := HB0.out.size; omega) (fun k e => by omega)))
 clear hb8 HX8 HI8 hci
 have hci := HI9.out.cell
 rcases hfl : (endP xs s3).fault with _ | ⟨code, pl⟩
 ·rw [hfl] at he
  obtain rfl := he
  go_wp2_with fail
  obtain ⟨As, cz, rfl, hrd, hba⟩ := HX9.out.rows.rd
  have HCR := Lh hrd
  have HLE := Lh (RowsOwn.le HX9.out.rows)
  clear hrd hba hci
  (refine wp_region_held_drew (S := fun w9 => Blk w9 bI 64 #[.pointer (some ⟨q, 0, none⟩)] ∧ Blk w9 b 39 (rsC (.slice As r'.rows.length cz) r')) (by kernel_rfl) ⟨HI9.out.drew, HX9.out.blk.drew⟩ (fun hHeld => ?_))
  (refine tq 0 115 ?_)
  ((try simp only [Act.put]); (try simp only [z1]); (try simp only [z3]); (try simp only [z2]))
  (refine tr (v := ?v102) 1 116 ?h102 ?_)
  case h102 => (intro w9 hSw; have hc9 := Blk.cell hSw.1; clear hSw; first | (go_simp; done) | (go_simp; with_reducible rfl))
  ((try simp only [Act.put]); (try simp only [z1]); (try simp only [z3]); (try simp only [z2]))
  (refine tr (v := ?v103) 2 117 ?h103 ?_)
  case h103 => (intro w9 hSw; have hc9 := Blk.cell hSw.2; clear hSw; first | (go_simp; done) | (go_simp; with_reducible rfl))
  ((try simp only [Act.put]); (try simp only [z1]); (try simp only [z3]); (try simp only [z2]))
  (refine wpAnyH_ready (rs := [3]) (by kernel_rfl) (by simp) ?_)
  (refine AllReadyH.cons (o := _) rfl (fun K hK => ?_) AllReadyH.nil)
  go_simp
  go_simp
  (with_reducible refine (check_rs As r'.rows.length cz r' _ rfl (HCR.out.below (Below.refl _ _).drew) HLE.out HOK.out).mono ?_)
  rintro e w9 ⟨rfl, hb9⟩
  have HX10 := Lh ((HX9.out.kept (Below.refl _ _).drew).kept hb9)
  have HI10 := Lh (HI9.out.drew.kept hb9)
  clear hb9
  go_simp
  (refine hK.out _ _ ⟨HI10.out, HX10.out.blk⟩ (fun hHeld => ?_))
  clear hK K
  ((try simp only [Act.put]); (try simp only [z1]); (try simp only [z3]); (try simp only [z2]))
  (refine wpAnyH_ready (rs := [4]) (by kernel_rfl) (by simp) ?_)
  (refine AllReadyH.cons (o := _) rfl (fun K hK => ?_) AllReadyH.nil)
  go_simp
  go_simp
  (with_reducible refine (rd_fail HX10.out.rd (checkRs r') 0).mono ?_)
  rintro e wA ⟨rfl, fvA, hr, hf⟩
  have HX11 := Lh (HX10.out.read (by omega) hr hf)
  have HI11 := Lh (HI0.out.tur HX11.out.tur (by omega))
  have HR11 := Lh (HR0.out.tur HX11.out.tur (by omega))
  have HB11 := Lh (HB0.out.trans (HX11.out.tur.below (by have := HB0.out.size; omega) (fun k e => by omega)))
  clear hr hf
  go_simp
  (refine hK.out _ _ ⟨HI11.out, HX11.out.blk⟩ (fun hHeld => ?_))
  clear hK K
  (refine wpAnyH_done (by kernel_rfl) ?_ _)
  have HCD := Lh (show checkD (checkRs r') (endP xs s3) = (endP xs s3).fail (checkRs r') 0 by unfold checkD; simp [hfl])
  have hci := HI11.out.cell
  go_wp2_with fail
  go_at_call 26; (with_reducible refine (rd_err HX11.out.rd).mono ?_); rintro e wB ⟨hbB, he⟩
  have HX12 := Lh (HX11.out.kept hbB)
  have HR12 := Lh (HR11.out.kept hbB)
  have HB12 := Lh (HB11.out.trans (hbB.mono HB11.out.size))
  have hcR := HR12.out.cell
  have hfR := HR12.out.frozen
  clear hbB hci
  rcases hf2 : ((endP xs s3).fail (checkRs r') 0).fault with _ | ⟨code, pl⟩
  ·rw [hf2] at he
   obtain rfl := he
   have HD := Lh (show decRs xs = (r', none) by rw [HDEC.out, HCD.out]; simp [hf2])
   have hcb := HX12.out.blk.cell
   obtain ⟨wC, HW, HS⟩ := set11e HR12.out (.int .i64 r'.kind) (.int .i64 r'.id) (.int .i64 r'.err) (.int .i64 r'.epoch) (.slice As r'.rows.length cz) (.int .i64 r'.st.taken) (.int .i64 r'.st.late) (.int .i64 r'.st.over) (.int .i64 r'.st.full) (.int .i64 r'.st.cells) (.int .i64 r'.st.now)
   go_wp2
   rw [HW.out]
   have hc7 := HS.out.1.cell
   exact bodyPost_ret (v := .tuple #[.agg (rsC (.slice As r'.rows.length cz) r'), .nilIface]) (by simp [results, Tryz.results9, go_sem, hc7]) rfl
    ⟨HB12.out.trans (HS.out.2.below HB12.out.size (fun k e => by omega)), by rw [HD.out]; exact ⟨_, rfl, HX12.out.rows_low HS.out.2 (by omega)⟩⟩
  ·rw [hf2] at he
   obtain ⟨g, rfl, hg⟩ := he
   have HG := Lh hg
   have HD := Lh (show decRs xs = (rs0, some (code, pl)) by rw [HDEC.out, HCD.out]; simp [hf2])
   clear hg
   obtain ⟨wC, HW, HS⟩ := set11e HR12.out (.int .i64 0) (.int .i64 0) (.int .i64 0) (.int .i64 0) (.slice none 0 0) (.int .i64 0) (.int .i64 0) (.int .i64 0) (.int .i64 0) (.int .i64 0) (.int .i64 0)
   go_wp2
   rw [HW.out]
   have hc7 := HS.out.1.cell
   exact bodyPost_ret (v := .tuple #[.agg (rsC nilS rs0), errV g]) (by simp [results, Tryz.results9, go_sem, hc7, rs0, st0]) rfl
    ⟨HB12.out.trans (HS.out.2.below HB12.out.size (fun k e => by omega)), by rw [HD.out]; exact ⟨g, rfl, HG.out.tur HS.out.2 (fun e => by subst e; exact absurd rfl (HR12.out.ne_ HG.out (by decide)))⟩⟩
 ·rw [hfl] at he
  obtain ⟨g0, rfl, _⟩ := he
  go_wp2_with fail
  go_at_call 26; (with_reducible refine (rd_err HX9.out.rd).mono ?_); rintro e w9 ⟨hb9, he⟩
  rw [hfl] at he
  obtain ⟨g, rfl, hg⟩ := he
  have HG := Lh hg
  have HR10 := Lh (HR9.out.kept hb9)
  have HB10 := Lh (HB9.out.trans (hb9.mono HB9.out.size))
  have HD := Lh (show decRs xs = (rs0, some (code, pl)) by rw [HDEC.out]; unfold checkD; simp [hfl])
  have hcR := HR10.out.cell
  have hfR := HR10.out.frozen
  clear hb9 hg hci
  obtain ⟨w10, HW, HS⟩ := set11e HR10.out (.int .i64 0) (.int .i64 0) (.int .i64 0) (.int .i64 0) (.slice none 0 0) (.int .i64 0) (.int .i64 0) (.int .i64 0) (.int .i64 0) (.int .i64 0) (.int .i64 0)
  go_wp2
  rw [HW.out]
  have hc7 := HS.out.1.cell
  exact bodyPost_ret (v := .tuple #[.agg (rsC nilS rs0), errV g]) (by simp [results, Tryz.results9, go_sem, hc7, rs0, st0]) rfl
   ⟨HB10.out.trans (HS.out.2.below HB10.out.size (fun k e => by omega)), by rw [HD.out]; exact ⟨g, rfl, HG.out.tur HS.out.2 (fun e => by subst e; exact absurd rfl (HR10.out.ne_ HG.out (by decide)))⟩⟩
theorem decode_rs_epoch (A : Option Addr) (n c : Nat) (xs : List Int) (hk : (kindD xs).1 = 2) (W : World) (hl : xs.length = n) (h : CellsAt W A (bvs xs)) (hw : ∀ x ∈ xs, (Lit.int .u8 x).wf = true) (hn : n ≤ 211106232532992) (hT : W.cell? ⟨0, 0, none⟩ = some tyErr) :
  Calls Tryz.prog 9 #[.slice A n c] W (DesQ W (decRs xs)) := by
 have HR0 := Lh (Blk.new W 39 #[.int .i64 0, .int .i64 0, .int .i64 0, .int .i64 0, .slice none 0 0, .int .i64 0, .int .i64 0, .int .i64 0, .int .i64 0, .int .i64 0, .int .i64 0])
 have CR := Lh (rd_read A n c xs (W.alloc (.cells #[.int .i64 0, .int .i64 0, .int .i64 0, .int .i64 0, .slice none 0 0, .int .i64 0, .int .i64 0, .int .i64 0, .int .i64 0, .int .i64 0, .int .i64 0] 39)) hl (h.below ((Below.refl _ _).alloc (Nat.le_refl _) _)) hw hn (((Below.refl W.heap.size W).alloc (Nat.le_refl _) _).cell (World.block_lt_of_cell? W _ hT) ▸ hT))
 have HTL := Lh (World.block_lt_of_cell? W _ hT)
 have HKN := Lh hk
 have hta1 := ta_epoch_rows
 have hta2 := ta_epoch
 clear h hw hn hT hk
 go_enter Tryz.func9, Tryz.ntmps9
 go_wp2_with fail
 go_at_call 22; (with_reducible refine CR.out.mono ?_); rintro e w1 ⟨q, A1, c1, rfl, hq, hr, hA1, hb⟩
 have HB1 := Lh (((Below.refl W.heap.size W).alloc (Nat.le_refl _) (.cells #[.int .i64 0, .int .i64 0, .int .i64 0, .int .i64 0, .slice none 0 0, .int .i64 0, .int .i64 0, .int .i64 0, .int .i64 0, .int .i64 0, .int .i64 0] 39)).trans (hb.mono (by simp)))
 have HR1 := Lh (HR0.out.kept hb)
 have HD1 := Lh hr
 have HA1 := Lh hA1
 have hqR : W.heap.size < q := by have : (W.alloc (.cells #[.int .i64 0, .int .i64 0, .int .i64 0, .int .i64 0, .slice none 0 0, .int .i64 0, .int .i64 0, .int .i64 0, .int .i64 0, .int .i64 0, .int .i64 0] 39)).heap.size = W.heap.size + 1 := by simp
                                  omega
 have HI2 := Lh (Blk.new w1 64 #[.pointer (some ⟨q, 0, none⟩)])
 have hci := HI2.out.cell
 clear hb hr hA1 HR0 CR
 go_wp2_with fail
 go_at_call 23; (with_reducible refine (in_num (HD1.out.alloc (.cells #[.pointer (some ⟨q, 0, none⟩)] 64))).mono ?_); rintro e w3 ⟨rfl, fv3, hr, hf⟩
 have hIq : w1.heap.size ≠ q := by have := HD1.out.blk.lt; omega
 have HI3 := Lh (hf.blk HI2.out hIq)
 have HR3 := Lh (hf.blk (HR1.out.alloc (.cells #[.pointer (some ⟨q, 0, none⟩)] 64)) (by omega))
 have HB3 := Lh (HB1.out.trans (((RdFr.alloc0 w1 q .nilIface (.cells #[.pointer (some ⟨q, 0, none⟩)] 64)).trans hf).1.below HB1.out.size (fun k e => by omega)))
 have hs3 : w1.heap.size < w3.heap.size := HI3.out.lt
 have HD3 := Lh hr
 have hRI : W.heap.size ≤ w1.heap.size := HB1.out.size
 have HA3 := Lh (show ∀ ad, A1 = some ad → ad.block < w1.heap.size from fun ad e => (HA1.out ad e).2)
 have hq1 : q < w1.heap.size := HD1.out.blk.lt
 have hTR := HTL.out
 have HKD := Lh (show kindD xs = numP xs M40 ⟨0, none⟩ from rfl)
 clear hr hf HI2 HR1 HD1 HA1 HB1 hci hq
 generalize numP xs M40 ⟨0, none⟩ = y at *
 obtain ⟨k0, s1⟩ := y
 dsimp only at HD3 ⊢
 rw [HKD.out] at HKN
 generalize hI : w1.heap.size = bI at *
 have HI0 := Lh (HI3.out.alloc (.cells #[.int .i64 (k0 : Int), .int .i64 0, .int .i64 0, .int .i64 0, .slice none 0 0, .int .i64 0, .int .i64 0, .int .i64 0, .int .i64 0, .int .i64 0, .int .i64 0] 39))
 have HR0 := Lh (HR3.out.alloc (.cells #[.int .i64 (k0 : Int), .int .i64 0, .int .i64 0, .int .i64 0, .slice none 0 0, .int .i64 0, .int .i64 0, .int .i64 0, .int .i64 0, .int .i64 0, .int .i64 0] 39))
 have HB0 := Lh (HB3.out.alloc (by omega) (.cells #[.int .i64 (k0 : Int), .int .i64 0, .int .i64 0, .int .i64 0, .slice none 0 0, .int .i64 0, .int .i64 0, .int .i64 0, .int .i64 0, .int .i64 0, .int .i64 0] 39))
 have HX0 := Lh (RsIs.start (r := ⟨(k0 : Int), 0, 0, 0, [], st0⟩) (Blk.new w3 39 #[.int .i64 (k0 : Int), .int .i64 0, .int .i64 0, .int .i64 0, .slice none 0 0, .int .i64 0, .int .i64 0, .int .i64 0, .int .i64 0, .int .i64 0, .int .i64 0]) rfl (HD3.out.alloc (.cells #[.int .i64 (k0 : Int), .int .i64 0, .int .i64 0, .int .i64 0, .slice none 0 0, .int .i64 0, .int .i64 0, .int .i64 0, .int .i64 0, .int .i64 0, .int .i64 0] 39)) (by omega) (fun ad e => by have := HA3.out ad e; simp; omega) (by omega))
 have hs0 : (w3.alloc (.cells #[.int .i64 (k0 : Int), .int .i64 0, .int .i64 0, .int .i64 0, .slice none 0 0, .int .i64 0, .int .i64 0, .int .i64 0, .int .i64 0, .int .i64 0, .int .i64 0] 39)).heap.size = w3.heap.size + 1 := by simp
 have hcb : ∀ i, (w3.alloc (.cells #[.int .i64 (k0 : Int), .int .i64 0, .int .i64 0, .int .i64 0, .slice none 0 0, .int .i64 0, .int .i64 0, .int .i64 0, .int .i64 0, .int .i64 0, .int .i64 0] 39)).cell? ⟨w3.heap.size, i, none⟩ = (#[.int .i64 (k0 : Int), .int .i64 0, .int .i64 0, .int .i64 0, .slice none 0 0, .int .i64 0, .int .i64 0, .int .i64 0, .int .i64 0, .int .i64 0, .int .i64 0] : Array Value)[i]? := (Blk.new w3 39 #[.int .i64 (k0 : Int), .int .i64 0, .int .i64 0, .int .i64 0, .slice none 0 0, .int .i64 0, .int .i64 0, .int .i64 0, .int .i64 0, .int .i64 0, .int .i64 0]).cell
 have hci := HI3.out.cell
 go_wp2_with fail
 generalize hb : w3.heap.size = b at *
 generalize w3.alloc (.cells #[.int .i64 (k0 : Int), .int .i64 0, .int .i64 0, .int .i64 0, .slice none 0 0, .int .i64 0, .int .i64 0, .int .i64 0, .int .i64 0, .int .i64 0, .int .i64 0] 39) = W0 at *
 clear HR3 HB3 HI3 HD3 hci hcb hb
 go_at_call 29; (with_reducible refine (tells_epoch none 0 0 ⟨(k0 : Int), 0, 0, 0, [], ⟨0, 0, 0, 0, 0, 0⟩⟩ (by have := HKN.out; show (k0 : Int) = 2; omega) _).mono ?_); rintro e w4 ⟨rfl, hb4⟩
 have HX4 := Lh (fun o : Obj => (HX0.out.kept hb4).alloc o)
 have HI4 := Lh (fun o : Obj => (HI0.out.kept hb4).alloc o)
 have HR4 := Lh (fun o : Obj => (HR0.out.kept hb4).alloc o)
 have HB4 := Lh (fun o : Obj => ((HB0.out.trans (hb4.mono HB0.out.size)).alloc (Nat.le_trans HB0.out.size hb4.size) o))
 clear hb4
 have hci : ∀ (o : Obj) i, (w4.alloc o).cell? ⟨bI, i, none⟩ = (#[.pointer (some ⟨q, 0, none⟩)] : Array Value)[i]? := fun o => (HI4.out o).cell
 have hRq : W.heap.size ≠ q := by omega
 have hRb : W.heap.size ≠ b := by omega
 have hIb : bI ≠ b := by omega
 go_wp2_with fail
 go_at_call 23; (with_reducible refine (in_num (HX4.out _).rd).mono ?_); rintro e w5 ⟨rfl, fv5, hr, hf⟩
 have HX5 := Lh ((HX4.out _).read (by omega) hr hf)
 clear hr hf hci HX4 HI4 HR4 HB4
 have HID := Lh (show numP xs M40 s1 = numP xs M40 s1 from rfl)
 generalize hid : numP xs M40 s1 = y at *
 clear HID
 have HID := Lh hid
 clear hid
 obtain ⟨id0, s2⟩ := y
 dsimp only at HX5 ⊢
 have hcb := HX5.out.blk.cell
 have hfb := HX5.out.blk.frozen
 have HX6 := Lh (HX5.out.set_ (r1 := ⟨(k0 : Int), (id0 : Int), 0, 0, [], st0⟩) 1 (.int .i64 (id0 : Int)) rfl HX5.out.rows)
 have HI6 := Lh (HI0.out.tur HX6.out.tur (by omega))
 have hci := HI6.out.cell
 go_wp2_with fail
 go_at_call 23; (with_reducible refine (in_num HX6.out.rd).mono ?_); rintro e w6 ⟨rfl, fv6, hr, hf⟩
 have HX6b := Lh (HX6.out.read (by omega) hr hf)
 clear hr hf hcb hfb hci HX6 HX5 HI6
 have hcb := HX6b.out.blk.cell
 have hfb := HX6b.out.blk.frozen
 have HX6c := Lh (HX6b.out.set_ (r1 := ⟨(k0 : Int), (id0 : Int), 0, ((numP xs M40 s2).1 : Int), [], st0⟩) 3 (.int .i64 ((numP xs M40 s2).1 : Int)) rfl HX6b.out.rows)
 have HI6 := Lh (HI0.out.tur HX6c.out.tur (by omega))
 have hci := HI6.out.cell
 go_wp2_with fail
 clear hcb hfb hci
 have HX7 := Lh (show RsIs W0 q b A1 n c1 xs (readS xs).1 (readS xs).2 _ _ _ from by
  have e : readS xs = ((⟨(k0 : Int), (id0 : Int), 0, ((numP xs M40 s2).1 : Int), [], st0⟩ : Rs), (numP xs M40 s2).2) := by
   unfold readS bodyS
   rw [HKD.out]
   dsimp only
   rw [HID.out]
   have hk := HKN.out
   subst hk
   simp
  rw [e]
  exact HX6c.out)
 clear HX6c HX6b HI6
 obtain ⟨vv, hvv⟩ := HX7.out.exv
 clear HX7
 have HX7 := Lh hvv
 clear hvv
 have HDEC := Lh (show decRs xs = if (checkD (checkRs (readS xs).1) (endP xs (readS xs).2)).fault.isSome then (rs0, (checkD (checkRs (readS xs).1) (endP xs (readS xs).2)).fault) else ((readS xs).1, none) by
  unfold decRs
  rw [if_neg (by rw [HKD.out]; have := HKN.out; omega)])
 have HOK := Lh (readS_ok xs)
 generalize readS xs = y at *
 obtain ⟨r', s3⟩ := y
 dsimp only at HX7 HDEC HOK
 have HI7 := Lh (HI0.out.tur HX7.out.tur (by omega))
 have hci := HI7.out.cell
 go_wp2_with fail
 go_at_call 27; (with_reducible refine (rd_end HX7.out.rd).mono ?_); rintro e w7 ⟨rfl, fv7, hr, hf⟩
 have HX8 := Lh (HX7.out.read (by omega) hr hf)
 have HI8 := Lh (HI0.out.tur HX8.out.tur (by omega))
 clear hr hf HX7 HI7 hci
 have hci := HI8.out.cell
 go_wp2_with fail
 go_at_call 26; (with_reducible refine (rd_err HX8.out.rd).mono ?_); rintro e w8 ⟨hb8, he⟩
 have HX9 := Lh (HX8.out.kept hb8)
 have HI9 := Lh (HI8.out.kept hb8)
 have HR9 := Lh (HR0.out.tur HX9.out.tur (by omega))
 have HB9 := Lh (HB0.out.trans (HX9.out.tur.below (by have := HB0.out.size; omega) (fun k e => by omega)))
 clear hb8 HX8 HI8 hci
 have hci := HI9.out.cell
 rcases hfl : (endP xs s3).fault with _ | ⟨code, pl⟩
 ·rw [hfl] at he
  obtain rfl := he
  go_wp2_with fail
  obtain ⟨As, cz, rfl, hrd, hba⟩ := HX9.out.rows.rd
  have HCR := Lh hrd
  have HLE := Lh (RowsOwn.le HX9.out.rows)
  clear hrd hba hci
  (refine wp_region_held_drew (S := fun w9 => Blk w9 bI 64 #[.pointer (some ⟨q, 0, none⟩)] ∧ Blk w9 b 39 (rsC (.slice As r'.rows.length cz) r')) (by kernel_rfl) ⟨HI9.out.drew, HX9.out.blk.drew⟩ (fun hHeld => ?_))
  (refine tq 0 115 ?_)
  ((try simp only [Act.put]); (try simp only [z1]); (try simp only [z3]); (try simp only [z2]))
  (refine tr (v := ?v105) 1 116 ?h105 ?_)
  case h105 => (intro w9 hSw; have hc9 := Blk.cell hSw.1; clear hSw; first | (go_simp; done) | (go_simp; with_reducible rfl))
  ((try simp only [Act.put]); (try simp only [z1]); (try simp only [z3]); (try simp only [z2]))
  (refine tr (v := ?v106) 2 117 ?h106 ?_)
  case h106 => (intro w9 hSw; have hc9 := Blk.cell hSw.2; clear hSw; first | (go_simp; done) | (go_simp; with_reducible rfl))
  ((try simp only [Act.put]); (try simp only [z1]); (try simp only [z3]); (try simp only [z2]))
  (refine wpAnyH_ready (rs := [3]) (by kernel_rfl) (by simp) ?_)
  (refine AllReadyH.cons (o := _) rfl (fun K hK => ?_) AllReadyH.nil)
  go_simp
  go_simp
  (with_reducible refine (check_rs As r'.rows.length cz r' _ rfl (HCR.out.below (Below.refl _ _).drew) HLE.out HOK.out).mono ?_)
  rintro e w9 ⟨rfl, hb9⟩
  have HX10 := Lh ((HX9.out.kept (Below.refl _ _).drew).kept hb9)
  have HI10 := Lh (HI9.out.drew.kept hb9)
  clear hb9
  go_simp
  (refine hK.out _ _ ⟨HI10.out, HX10.out.blk⟩ (fun hHeld => ?_))
  clear hK K
  ((try simp only [Act.put]); (try simp only [z1]); (try simp only [z3]); (try simp only [z2]))
  (refine wpAnyH_ready (rs := [4]) (by kernel_rfl) (by simp) ?_)
  (refine AllReadyH.cons (o := _) rfl (fun K hK => ?_) AllReadyH.nil)
  go_simp
  go_simp
  (with_reducible refine (rd_fail HX10.out.rd (checkRs r') 0).mono ?_)
  rintro e wA ⟨rfl, fvA, hr, hf⟩
  have HX11 := Lh (HX10.out.read (by omega) hr hf)
  have HI11 := Lh (HI0.out.tur HX11.out.tur (by omega))
  have HR11 := Lh (HR0.out.tur HX11.out.tur (by omega))
  have HB11 := Lh (HB0.out.trans (HX11.out.tur.below (by have := HB0.out.size; omega) (fun k e => by omega)))
  clear hr hf
  go_simp
  (refine hK.out _ _ ⟨HI11.out, HX11.out.blk⟩ (fun hHeld => ?_))
  clear hK K
  (refine wpAnyH_done (by kernel_rfl) ?_ _)
  have HCD := Lh (show checkD (checkRs r') (endP xs s3) = (endP xs s3).fail (checkRs r') 0 by unfold checkD; simp [hfl])
  have hci := HI11.out.cell
  go_wp2_with fail
  go_at_call 26; (with_reducible refine (rd_err HX11.out.rd).mono ?_); rintro e wB ⟨hbB, he⟩
  have HX12 := Lh (HX11.out.kept hbB)
  have HR12 := Lh (HR11.out.kept hbB)
  have HB12 := Lh (HB11.out.trans (hbB.mono HB11.out.size))
  have hcR := HR12.out.cell
  have hfR := HR12.out.frozen
  clear hbB hci
  rcases hf2 : ((endP xs s3).fail (checkRs r') 0).fault with _ | ⟨code, pl⟩
  ·rw [hf2] at he
   obtain rfl := he
   have HD := Lh (show decRs xs = (r', none) by rw [HDEC.out, HCD.out]; simp [hf2])
   have hcb := HX12.out.blk.cell
   obtain ⟨wC, HW, HS⟩ := set11e HR12.out (.int .i64 r'.kind) (.int .i64 r'.id) (.int .i64 r'.err) (.int .i64 r'.epoch) (.slice As r'.rows.length cz) (.int .i64 r'.st.taken) (.int .i64 r'.st.late) (.int .i64 r'.st.over) (.int .i64 r'.st.full) (.int .i64 r'.st.cells) (.int .i64 r'.st.now)
   go_wp2
   rw [HW.out]
   have hc7 := HS.out.1.cell
   exact bodyPost_ret (v := .tuple #[.agg (rsC (.slice As r'.rows.length cz) r'), .nilIface]) (by simp [results, Tryz.results9, go_sem, hc7]) rfl
    ⟨HB12.out.trans (HS.out.2.below HB12.out.size (fun k e => by omega)), by rw [HD.out]; exact ⟨_, rfl, HX12.out.rows_low HS.out.2 (by omega)⟩⟩
  ·rw [hf2] at he
   obtain ⟨g, rfl, hg⟩ := he
   have HG := Lh hg
   have HD := Lh (show decRs xs = (rs0, some (code, pl)) by rw [HDEC.out, HCD.out]; simp [hf2])
   clear hg
   obtain ⟨wC, HW, HS⟩ := set11e HR12.out (.int .i64 0) (.int .i64 0) (.int .i64 0) (.int .i64 0) (.slice none 0 0) (.int .i64 0) (.int .i64 0) (.int .i64 0) (.int .i64 0) (.int .i64 0) (.int .i64 0)
   go_wp2
   rw [HW.out]
   have hc7 := HS.out.1.cell
   exact bodyPost_ret (v := .tuple #[.agg (rsC nilS rs0), errV g]) (by simp [results, Tryz.results9, go_sem, hc7, rs0, st0]) rfl
    ⟨HB12.out.trans (HS.out.2.below HB12.out.size (fun k e => by omega)), by rw [HD.out]; exact ⟨g, rfl, HG.out.tur HS.out.2 (fun e => by subst e; exact absurd rfl (HR12.out.ne_ HG.out (by decide)))⟩⟩
 ·rw [hfl] at he
  obtain ⟨g0, rfl, _⟩ := he
  go_wp2_with fail
  go_at_call 26; (with_reducible refine (rd_err HX9.out.rd).mono ?_); rintro e w9 ⟨hb9, he⟩
  rw [hfl] at he
  obtain ⟨g, rfl, hg⟩ := he
  have HG := Lh hg
  have HR10 := Lh (HR9.out.kept hb9)
  have HB10 := Lh (HB9.out.trans (hb9.mono HB9.out.size))
  have HD := Lh (show decRs xs = (rs0, some (code, pl)) by rw [HDEC.out]; unfold checkD; simp [hfl])
  have hcR := HR10.out.cell
  have hfR := HR10.out.frozen
  clear hb9 hg hci
  obtain ⟨w10, HW, HS⟩ := set11e HR10.out (.int .i64 0) (.int .i64 0) (.int .i64 0) (.int .i64 0) (.slice none 0 0) (.int .i64 0) (.int .i64 0) (.int .i64 0) (.int .i64 0) (.int .i64 0) (.int .i64 0)
  go_wp2
  rw [HW.out]
  have hc7 := HS.out.1.cell
  exact bodyPost_ret (v := .tuple #[.agg (rsC nilS rs0), errV g]) (by simp [results, Tryz.results9, go_sem, hc7, rs0, st0]) rfl
   ⟨HB10.out.trans (HS.out.2.below HB10.out.size (fun k e => by omega)), by rw [HD.out]; exact ⟨g, rfl, HG.out.tur HS.out.2 (fun e => by subst e; exact absurd rfl (HR10.out.ne_ HG.out (by decide)))⟩⟩
theorem decode_rs_error (A : Option Addr) (n c : Nat) (xs : List Int) (hk : (kindD xs).1 = 5) (W : World) (hl : xs.length = n) (h : CellsAt W A (bvs xs)) (hw : ∀ x ∈ xs, (Lit.int .u8 x).wf = true) (hn : n ≤ 211106232532992) (hT : W.cell? ⟨0, 0, none⟩ = some tyErr) :
  Calls Tryz.prog 9 #[.slice A n c] W (DesQ W (decRs xs)) := by
 have HR0 := Lh (Blk.new W 39 #[.int .i64 0, .int .i64 0, .int .i64 0, .int .i64 0, .slice none 0 0, .int .i64 0, .int .i64 0, .int .i64 0, .int .i64 0, .int .i64 0, .int .i64 0])
 have CR := Lh (rd_read A n c xs (W.alloc (.cells #[.int .i64 0, .int .i64 0, .int .i64 0, .int .i64 0, .slice none 0 0, .int .i64 0, .int .i64 0, .int .i64 0, .int .i64 0, .int .i64 0, .int .i64 0] 39)) hl (h.below ((Below.refl _ _).alloc (Nat.le_refl _) _)) hw hn (((Below.refl W.heap.size W).alloc (Nat.le_refl _) _).cell (World.block_lt_of_cell? W _ hT) ▸ hT))
 have HTL := Lh (World.block_lt_of_cell? W _ hT)
 have HKN := Lh hk
 have hta1 := ta_failed_rows
 have hta2 := ta_failed_epoch
 have hta3 := ta_failed_stats
 have hta4 := ta_failed
 clear h hw hn hT hk
 go_enter Tryz.func9, Tryz.ntmps9
 go_wp2_with fail
 go_at_call 22; (with_reducible refine CR.out.mono ?_); rintro e w1 ⟨q, A1, c1, rfl, hq, hr, hA1, hb⟩
 have HB1 := Lh (((Below.refl W.heap.size W).alloc (Nat.le_refl _) (.cells #[.int .i64 0, .int .i64 0, .int .i64 0, .int .i64 0, .slice none 0 0, .int .i64 0, .int .i64 0, .int .i64 0, .int .i64 0, .int .i64 0, .int .i64 0] 39)).trans (hb.mono (by simp)))
 have HR1 := Lh (HR0.out.kept hb)
 have HD1 := Lh hr
 have HA1 := Lh hA1
 have hqR : W.heap.size < q := by have : (W.alloc (.cells #[.int .i64 0, .int .i64 0, .int .i64 0, .int .i64 0, .slice none 0 0, .int .i64 0, .int .i64 0, .int .i64 0, .int .i64 0, .int .i64 0, .int .i64 0] 39)).heap.size = W.heap.size + 1 := by simp
                                  omega
 have HI2 := Lh (Blk.new w1 64 #[.pointer (some ⟨q, 0, none⟩)])
 have hci := HI2.out.cell
 clear hb hr hA1 HR0 CR
 go_wp2_with fail
 go_at_call 23; (with_reducible refine (in_num (HD1.out.alloc (.cells #[.pointer (some ⟨q, 0, none⟩)] 64))).mono ?_); rintro e w3 ⟨rfl, fv3, hr, hf⟩
 have hIq : w1.heap.size ≠ q := by have := HD1.out.blk.lt; omega
 have HI3 := Lh (hf.blk HI2.out hIq)
 have HR3 := Lh (hf.blk (HR1.out.alloc (.cells #[.pointer (some ⟨q, 0, none⟩)] 64)) (by omega))
 have HB3 := Lh (HB1.out.trans (((RdFr.alloc0 w1 q .nilIface (.cells #[.pointer (some ⟨q, 0, none⟩)] 64)).trans hf).1.below HB1.out.size (fun k e => by omega)))
 have hs3 : w1.heap.size < w3.heap.size := HI3.out.lt
 have HD3 := Lh hr
 have hRI : W.heap.size ≤ w1.heap.size := HB1.out.size
 have HA3 := Lh (show ∀ ad, A1 = some ad → ad.block < w1.heap.size from fun ad e => (HA1.out ad e).2)
 have hq1 : q < w1.heap.size := HD1.out.blk.lt
 have hTR := HTL.out
 have HKD := Lh (show kindD xs = numP xs M40 ⟨0, none⟩ from rfl)
 clear hr hf HI2 HR1 HD1 HA1 HB1 hci hq
 generalize numP xs M40 ⟨0, none⟩ = y at *
 obtain ⟨k0, s1⟩ := y
 dsimp only at HD3 ⊢
 rw [HKD.out] at HKN
 generalize hI : w1.heap.size = bI at *
 have HI0 := Lh (HI3.out.alloc (.cells #[.int .i64 (k0 : Int), .int .i64 0, .int .i64 0, .int .i64 0, .slice none 0 0, .int .i64 0, .int .i64 0, .int .i64 0, .int .i64 0, .int .i64 0, .int .i64 0] 39))
 have HR0 := Lh (HR3.out.alloc (.cells #[.int .i64 (k0 : Int), .int .i64 0, .int .i64 0, .int .i64 0, .slice none 0 0, .int .i64 0, .int .i64 0, .int .i64 0, .int .i64 0, .int .i64 0, .int .i64 0] 39))
 have HB0 := Lh (HB3.out.alloc (by omega) (.cells #[.int .i64 (k0 : Int), .int .i64 0, .int .i64 0, .int .i64 0, .slice none 0 0, .int .i64 0, .int .i64 0, .int .i64 0, .int .i64 0, .int .i64 0, .int .i64 0] 39))
 have HX0 := Lh (RsIs.start (r := ⟨(k0 : Int), 0, 0, 0, [], st0⟩) (Blk.new w3 39 #[.int .i64 (k0 : Int), .int .i64 0, .int .i64 0, .int .i64 0, .slice none 0 0, .int .i64 0, .int .i64 0, .int .i64 0, .int .i64 0, .int .i64 0, .int .i64 0]) rfl (HD3.out.alloc (.cells #[.int .i64 (k0 : Int), .int .i64 0, .int .i64 0, .int .i64 0, .slice none 0 0, .int .i64 0, .int .i64 0, .int .i64 0, .int .i64 0, .int .i64 0, .int .i64 0] 39)) (by omega) (fun ad e => by have := HA3.out ad e; simp; omega) (by omega))
 have hs0 : (w3.alloc (.cells #[.int .i64 (k0 : Int), .int .i64 0, .int .i64 0, .int .i64 0, .slice none 0 0, .int .i64 0, .int .i64 0, .int .i64 0, .int .i64 0, .int .i64 0, .int .i64 0] 39)).heap.size = w3.heap.size + 1 := by simp
 have hcb : ∀ i, (w3.alloc (.cells #[.int .i64 (k0 : Int), .int .i64 0, .int .i64 0, .int .i64 0, .slice none 0 0, .int .i64 0, .int .i64 0, .int .i64 0, .int .i64 0, .int .i64 0, .int .i64 0] 39)).cell? ⟨w3.heap.size, i, none⟩ = (#[.int .i64 (k0 : Int), .int .i64 0, .int .i64 0, .int .i64 0, .slice none 0 0, .int .i64 0, .int .i64 0, .int .i64 0, .int .i64 0, .int .i64 0, .int .i64 0] : Array Value)[i]? := (Blk.new w3 39 #[.int .i64 (k0 : Int), .int .i64 0, .int .i64 0, .int .i64 0, .slice none 0 0, .int .i64 0, .int .i64 0, .int .i64 0, .int .i64 0, .int .i64 0, .int .i64 0]).cell
 have hci := HI3.out.cell
 go_wp2_with fail
 generalize hb : w3.heap.size = b at *
 generalize w3.alloc (.cells #[.int .i64 (k0 : Int), .int .i64 0, .int .i64 0, .int .i64 0, .slice none 0 0, .int .i64 0, .int .i64 0, .int .i64 0, .int .i64 0, .int .i64 0, .int .i64 0] 39) = W0 at *
 clear HR3 HB3 HI3 HD3 hci hcb hb
 go_at_call 29; (with_reducible refine (tells_error none 0 0 ⟨(k0 : Int), 0, 0, 0, [], ⟨0, 0, 0, 0, 0, 0⟩⟩ (by have := HKN.out; show (k0 : Int) = 5; omega) _).mono ?_); rintro e w4 ⟨rfl, hb4⟩
 have HX4 := Lh (fun o : Obj => (HX0.out.kept hb4).alloc o)
 have HI4 := Lh (fun o : Obj => (HI0.out.kept hb4).alloc o)
 have HR4 := Lh (fun o : Obj => (HR0.out.kept hb4).alloc o)
 have HB4 := Lh (fun o : Obj => ((HB0.out.trans (hb4.mono HB0.out.size)).alloc (Nat.le_trans HB0.out.size hb4.size) o))
 clear hb4
 have hci : ∀ (o : Obj) i, (w4.alloc o).cell? ⟨bI, i, none⟩ = (#[.pointer (some ⟨q, 0, none⟩)] : Array Value)[i]? := fun o => (HI4.out o).cell
 have hRq : W.heap.size ≠ q := by omega
 have hRb : W.heap.size ≠ b := by omega
 have hIb : bI ≠ b := by omega
 go_wp2_with fail
 go_at_call 23; (with_reducible refine (in_num (HX4.out _).rd).mono ?_); rintro e w5 ⟨rfl, fv5, hr, hf⟩
 have HX5 := Lh ((HX4.out _).read (by omega) hr hf)
 clear hr hf hci HX4 HI4 HR4 HB4
 have HID := Lh (show numP xs M40 s1 = numP xs M40 s1 from rfl)
 generalize hid : numP xs M40 s1 = y at *
 clear HID
 have HID := Lh hid
 clear hid
 obtain ⟨id0, s2⟩ := y
 dsimp only at HX5 ⊢
 have hcb := HX5.out.blk.cell
 have hfb := HX5.out.blk.frozen
 have HX6 := Lh (HX5.out.set_ (r1 := ⟨(k0 : Int), (id0 : Int), 0, 0, [], st0⟩) 1 (.int .i64 (id0 : Int)) rfl HX5.out.rows)
 have HI6 := Lh (HI0.out.tur HX6.out.tur (by omega))
 have hci := HI6.out.cell
 go_wp2_with fail
 go_at_call 23; (with_reducible refine (in_num HX6.out.rd).mono ?_); rintro e w6 ⟨rfl, fv6, hr, hf⟩
 have HX6b := Lh (HX6.out.read (by omega) hr hf)
 clear hr hf hcb hfb hci HX6 HX5 HI6
 have hcb := HX6b.out.blk.cell
 have hfb := HX6b.out.blk.frozen
 have HX6c := Lh (HX6b.out.set_ (r1 := ⟨(k0 : Int), (id0 : Int), ((numP xs M40 s2).1 : Int), 0, [], st0⟩) 2 (.int .i64 ((numP xs M40 s2).1 : Int)) rfl HX6b.out.rows)
 have HI6 := Lh (HI0.out.tur HX6c.out.tur (by omega))
 have hci := HI6.out.cell
 go_wp2_with fail
 clear hcb hfb hci
 have HX7 := Lh (show RsIs W0 q b A1 n c1 xs (readS xs).1 (readS xs).2 _ _ _ from by
  have e : readS xs = ((⟨(k0 : Int), (id0 : Int), ((numP xs M40 s2).1 : Int), 0, [], st0⟩ : Rs), (numP xs M40 s2).2) := by
   unfold readS bodyS
   rw [HKD.out]
   dsimp only
   rw [HID.out]
   have hk := HKN.out
   subst hk
   simp
  rw [e]
  exact HX6c.out)
 clear HX6c HX6b HI6
 obtain ⟨vv, hvv⟩ := HX7.out.exv
 clear HX7
 have HX7 := Lh hvv
 clear hvv
 have HDEC := Lh (show decRs xs = if (checkD (checkRs (readS xs).1) (endP xs (readS xs).2)).fault.isSome then (rs0, (checkD (checkRs (readS xs).1) (endP xs (readS xs).2)).fault) else ((readS xs).1, none) by
  unfold decRs
  rw [if_neg (by rw [HKD.out]; have := HKN.out; omega)])
 have HOK := Lh (readS_ok xs)
 generalize readS xs = y at *
 obtain ⟨r', s3⟩ := y
 dsimp only at HX7 HDEC HOK
 have HI7 := Lh (HI0.out.tur HX7.out.tur (by omega))
 have hci := HI7.out.cell
 go_wp2_with fail
 go_at_call 27; (with_reducible refine (rd_end HX7.out.rd).mono ?_); rintro e w7 ⟨rfl, fv7, hr, hf⟩
 have HX8 := Lh (HX7.out.read (by omega) hr hf)
 have HI8 := Lh (HI0.out.tur HX8.out.tur (by omega))
 clear hr hf HX7 HI7 hci
 have hci := HI8.out.cell
 go_wp2_with fail
 go_at_call 26; (with_reducible refine (rd_err HX8.out.rd).mono ?_); rintro e w8 ⟨hb8, he⟩
 have HX9 := Lh (HX8.out.kept hb8)
 have HI9 := Lh (HI8.out.kept hb8)
 have HR9 := Lh (HR0.out.tur HX9.out.tur (by omega))
 have HB9 := Lh (HB0.out.trans (HX9.out.tur.below (by have := HB0.out.size; omega) (fun k e => by omega)))
 clear hb8 HX8 HI8 hci
 have hci := HI9.out.cell
 rcases hfl : (endP xs s3).fault with _ | ⟨code, pl⟩
 ·rw [hfl] at he
  obtain rfl := he
  go_wp2_with fail
  obtain ⟨As, cz, rfl, hrd, hba⟩ := HX9.out.rows.rd
  have HCR := Lh hrd
  have HLE := Lh (RowsOwn.le HX9.out.rows)
  clear hrd hba hci
  (refine wp_region_held_drew (S := fun w9 => Blk w9 bI 64 #[.pointer (some ⟨q, 0, none⟩)] ∧ Blk w9 b 39 (rsC (.slice As r'.rows.length cz) r')) (by kernel_rfl) ⟨HI9.out.drew, HX9.out.blk.drew⟩ (fun hHeld => ?_))
  (refine tq 0 115 ?_)
  ((try simp only [Act.put]); (try simp only [z1]); (try simp only [z3]); (try simp only [z2]))
  (refine tr (v := ?v108) 1 116 ?h108 ?_)
  case h108 => (intro w9 hSw; have hc9 := Blk.cell hSw.1; clear hSw; first | (go_simp; done) | (go_simp; with_reducible rfl))
  ((try simp only [Act.put]); (try simp only [z1]); (try simp only [z3]); (try simp only [z2]))
  (refine tr (v := ?v109) 2 117 ?h109 ?_)
  case h109 => (intro w9 hSw; have hc9 := Blk.cell hSw.2; clear hSw; first | (go_simp; done) | (go_simp; with_reducible rfl))
  ((try simp only [Act.put]); (try simp only [z1]); (try simp only [z3]); (try simp only [z2]))
  (refine wpAnyH_ready (rs := [3]) (by kernel_rfl) (by simp) ?_)
  (refine AllReadyH.cons (o := _) rfl (fun K hK => ?_) AllReadyH.nil)
  go_simp
  go_simp
  (with_reducible refine (check_rs As r'.rows.length cz r' _ rfl (HCR.out.below (Below.refl _ _).drew) HLE.out HOK.out).mono ?_)
  rintro e w9 ⟨rfl, hb9⟩
  have HX10 := Lh ((HX9.out.kept (Below.refl _ _).drew).kept hb9)
  have HI10 := Lh (HI9.out.drew.kept hb9)
  clear hb9
  go_simp
  (refine hK.out _ _ ⟨HI10.out, HX10.out.blk⟩ (fun hHeld => ?_))
  clear hK K
  ((try simp only [Act.put]); (try simp only [z1]); (try simp only [z3]); (try simp only [z2]))
  (refine wpAnyH_ready (rs := [4]) (by kernel_rfl) (by simp) ?_)
  (refine AllReadyH.cons (o := _) rfl (fun K hK => ?_) AllReadyH.nil)
  go_simp
  go_simp
  (with_reducible refine (rd_fail HX10.out.rd (checkRs r') 0).mono ?_)
  rintro e wA ⟨rfl, fvA, hr, hf⟩
  have HX11 := Lh (HX10.out.read (by omega) hr hf)
  have HI11 := Lh (HI0.out.tur HX11.out.tur (by omega))
  have HR11 := Lh (HR0.out.tur HX11.out.tur (by omega))
  have HB11 := Lh (HB0.out.trans (HX11.out.tur.below (by have := HB0.out.size; omega) (fun k e => by omega)))
  clear hr hf
  go_simp
  (refine hK.out _ _ ⟨HI11.out, HX11.out.blk⟩ (fun hHeld => ?_))
  clear hK K
  (refine wpAnyH_done (by kernel_rfl) ?_ _)
  have HCD := Lh (show checkD (checkRs r') (endP xs s3) = (endP xs s3).fail (checkRs r') 0 by unfold checkD; simp [hfl])
  have hci := HI11.out.cell
  go_wp2_with fail
  go_at_call 26; (with_reducible refine (rd_err HX11.out.rd).mono ?_); rintro e wB ⟨hbB, he⟩
  have HX12 := Lh (HX11.out.kept hbB)
  have HR12 := Lh (HR11.out.kept hbB)
  have HB12 := Lh (HB11.out.trans (hbB.mono HB11.out.size))
  have hcR := HR12.out.cell
  have hfR := HR12.out.frozen
  clear hbB hci
  rcases hf2 : ((endP xs s3).fail (checkRs r') 0).fault with _ | ⟨code, pl⟩
  ·rw [hf2] at he
   obtain rfl := he
   have HD := Lh (show decRs xs = (r', none) by rw [HDEC.out, HCD.out]; simp [hf2])
   have hcb := HX12.out.blk.cell
   obtain ⟨wC, HW, HS⟩ := set11e HR12.out (.int .i64 r'.kind) (.int .i64 r'.id) (.int .i64 r'.err) (.int .i64 r'.epoch) (.slice As r'.rows.length cz) (.int .i64 r'.st.taken) (.int .i64 r'.st.late) (.int .i64 r'.st.over) (.int .i64 r'.st.full) (.int .i64 r'.st.cells) (.int .i64 r'.st.now)
   go_wp2
   rw [HW.out]
   have hc7 := HS.out.1.cell
   exact bodyPost_ret (v := .tuple #[.agg (rsC (.slice As r'.rows.length cz) r'), .nilIface]) (by simp [results, Tryz.results9, go_sem, hc7]) rfl
    ⟨HB12.out.trans (HS.out.2.below HB12.out.size (fun k e => by omega)), by rw [HD.out]; exact ⟨_, rfl, HX12.out.rows_low HS.out.2 (by omega)⟩⟩
  ·rw [hf2] at he
   obtain ⟨g, rfl, hg⟩ := he
   have HG := Lh hg
   have HD := Lh (show decRs xs = (rs0, some (code, pl)) by rw [HDEC.out, HCD.out]; simp [hf2])
   clear hg
   obtain ⟨wC, HW, HS⟩ := set11e HR12.out (.int .i64 0) (.int .i64 0) (.int .i64 0) (.int .i64 0) (.slice none 0 0) (.int .i64 0) (.int .i64 0) (.int .i64 0) (.int .i64 0) (.int .i64 0) (.int .i64 0)
   go_wp2
   rw [HW.out]
   have hc7 := HS.out.1.cell
   exact bodyPost_ret (v := .tuple #[.agg (rsC nilS rs0), errV g]) (by simp [results, Tryz.results9, go_sem, hc7, rs0, st0]) rfl
    ⟨HB12.out.trans (HS.out.2.below HB12.out.size (fun k e => by omega)), by rw [HD.out]; exact ⟨g, rfl, HG.out.tur HS.out.2 (fun e => by subst e; exact absurd rfl (HR12.out.ne_ HG.out (by decide)))⟩⟩
 ·rw [hfl] at he
  obtain ⟨g0, rfl, _⟩ := he
  go_wp2_with fail
  go_at_call 26; (with_reducible refine (rd_err HX9.out.rd).mono ?_); rintro e w9 ⟨hb9, he⟩
  rw [hfl] at he
  obtain ⟨g, rfl, hg⟩ := he
  have HG := Lh hg
  have HR10 := Lh (HR9.out.kept hb9)
  have HB10 := Lh (HB9.out.trans (hb9.mono HB9.out.size))
  have HD := Lh (show decRs xs = (rs0, some (code, pl)) by rw [HDEC.out]; unfold checkD; simp [hfl])
  have hcR := HR10.out.cell
  have hfR := HR10.out.frozen
  clear hb9 hg hci
  obtain ⟨w10, HW, HS⟩ := set11e HR10.out (.int .i64 0) (.int .i64 0) (.int .i64 0) (.int .i64 0) (.slice none 0 0) (.int .i64 0) (.int .i64 0) (.int .i64 0) (.int .i64 0) (.int .i64 0) (.int .i64 0)
  go_wp2
  rw [HW.out]
  have hc7 := HS.out.1.cell
  exact bodyPost_ret (v := .tuple #[.agg (rsC nilS rs0), errV g]) (by simp [results, Tryz.results9, go_sem, hc7, rs0, st0]) rfl
   ⟨HB10.out.trans (HS.out.2.below HB10.out.size (fun k e => by omega)), by rw [HD.out]; exact ⟨g, rfl, HG.out.tur HS.out.2 (fun e => by subst e; exact absurd rfl (HR10.out.ne_ HG.out (by decide)))⟩⟩
end Go.Proofs.YteffpfgdoganpaaGreatDoor
