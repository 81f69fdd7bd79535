/- DecodeRequest by the kinds. -/
import Derived.Test.YtglbdbghcdoicaaGreatDoorCDecQm
namespace Go.Proofs.YtglbdbghcdoicaaGreatDoor
open Go.RowKit
set_option maxRecDepth 100000
set_option maxHeartbeats 32000000
theorem big_of {n : Nat} (h : n ≤ 32) : n ≤ 9223372036854775807 := by omega
theorem bodyD_ok (xs : List Int) (r : Rq) (s : RS) (hc : ∀ x ∈ r.cs, x.key.size ≤ 32) (hf : r.frm.key.size ≤ 32) (ht : r.too.key.size ≤ 32) : RqOk (bodyD xs r s).1 := by
 unfold bodyD
 by_cases h1 : r.kind = 1
 ·rw [if_pos h1]
  exact ⟨fun x hx => big_of (by rw [List.mem_singleton.1 hx]; exact cellP_key _ _), big_of hf, big_of ht⟩
 ·rw [if_neg h1]
  by_cases h2 : r.kind = 2
  ·rw [if_pos h2]
   exact ⟨fun x hx => big_of (cellsP_key _ _ (fun y hy => absurd hy (List.not_mem_nil)) _ x hx), big_of hf, big_of ht⟩
  ·rw [if_neg h2]
   by_cases h3 : r.kind = 3
   ·rw [if_pos h3]
    exact ⟨fun x hx => big_of (hc x hx), big_of (cellP_key _ _), big_of (cellP_key _ _)⟩
   ·rw [if_neg h3]
    by_cases h5 : r.kind = 5 ∨ r.kind = 6
    ·rw [if_pos h5]
     exact ⟨fun x hx => big_of (hc x hx), big_of hf, big_of ht⟩
    ·rw [if_neg h5]
     exact ⟨fun x hx => big_of (hc x hx), big_of hf, big_of ht⟩
theorem readD_ok (xs : List Int) : RqOk (readD xs).1 :=
 bodyD_ok xs _ _ (fun x hx => absurd hx (List.not_mem_nil)) (show cell0.key.size ≤ 32 by decide) (show cell0.key.size ≤ 32 by decide)
theorem CellsOwn.le {W : World} {base : Nat} {A : Option Addr} {n c : Nat} {cs : List CellV} (h : CellsOwn W base (.slice A n c) cs) : cs.length ≤ 9223372036854775807 := by
 rcases h.2 with ⟨_, h0⟩ | ⟨g, cap, cur, e, _, _, h1, h2, _⟩
 ·omega
 ·unfold maxLen at h2; omega
theorem RqIs.cells_low {W0 W W1 : World} {q b n c : Nat} {A : Option Addr} {xs : List Int} {r : Rq} {s : RS} {fv v : Value} {j B : Nat} (h : RqIs W0 q b A n c xs r s fv v W) (ht : Tur (· = j) W W1) (hj : j < W0.heap.size ∧ B ≤ W0.heap.size) : CellsOwn W1 B v r.cs := by
 have h1 := h.cells.tur ht (fun k e => by subst e; exact hj.1)
 refine ⟨h1.1, ?_⟩
 rcases h1.2 with h2 | ⟨g, cap, cur, e, hb, r⟩
 ·exact .inl h2
 ·exact .inr ⟨g, cap, cur, e, by omega, r⟩
theorem decode_rq_epoch (A : Option Addr) (n c : Nat) (xs : List Int) (hk : (kindD xs).1 = 5 ∨ (kindD xs).1 = 6) (W : World) (hl : xs.length = n) (h : CellsAt W A (bvs xs)) (hw : ∀ x ∈ xs, (Lit.int .u8 x).wf = true) (hn : n ≤ 211106232532992) (hT : W.cell? ⟨0, 0, none⟩ = some tyErr) :
  Calls Tryz.prog 53 #[.slice A n c] W (DecQ W (decRq xs)) := by
 have HR0 := Lh (Blk.new W 43 #[.int .i64 0, .int .i64 0, .int .i64 0, .slice none 0 0, .int .i64 0, .string ⟨#[]⟩, .int .i64 0, .int .i64 0, .string ⟨#[]⟩, .int .i64 0, .int .i64 0])
 have CR := Lh (rd_read A n c xs (W.alloc (.cells #[.int .i64 0, .int .i64 0, .int .i64 0, .slice none 0 0, .int .i64 0, .string ⟨#[]⟩, .int .i64 0, .int .i64 0, .string ⟨#[]⟩, .int .i64 0, .int .i64 0] 43)) hl (h.below ((Below.refl _ _).alloc (Nat.le_refl _) _)) hw hn (((Below.refl W.heap.size W).alloc (Nat.le_refl _) _).cell (World.block_lt_of_cell? W _ hT) ▸ hT))
 have HTL := Lh (World.block_lt_of_cell? W _ hT)
 have HKN := Lh hk
 clear h hw hn hT hk
 go_enter Tryz.func53, Tryz.ntmps53
 go_wp2_with fail
 go_at_call 70; (with_reducible refine CR.out.mono ?_); rintro e w1 ⟨q, A1, c1, rfl, hq, hr, hA1, hb⟩
 have HB1 := Lh (((Below.refl W.heap.size W).alloc (Nat.le_refl _) (.cells #[.int .i64 0, .int .i64 0, .int .i64 0, .slice none 0 0, .int .i64 0, .string ⟨#[]⟩, .int .i64 0, .int .i64 0, .string ⟨#[]⟩, .int .i64 0, .int .i64 0] 43)).trans (hb.mono (by simp)))
 have HR1 := Lh (HR0.out.kept hb)
 have HD1 := Lh hr
 have HA1 := Lh hA1
 have hqR : W.heap.size < q := by have : (W.alloc (.cells #[.int .i64 0, .int .i64 0, .int .i64 0, .slice none 0 0, .int .i64 0, .string ⟨#[]⟩, .int .i64 0, .int .i64 0, .string ⟨#[]⟩, .int .i64 0, .int .i64 0] 43)).heap.size = W.heap.size + 1 := by simp
                                  omega
 have HI2 := Lh (Blk.new w1 146 #[.pointer (some ⟨q, 0, none⟩)])
 have hci := HI2.out.cell
 clear hb hr hA1 HR0 CR
 go_wp2_with fail
 go_at_call 71; (with_reducible refine (in_num (HD1.out.alloc (.cells #[.pointer (some ⟨q, 0, none⟩)] 146))).mono ?_); rintro e w3 ⟨rfl, fv3, hr, hf⟩
 have hIq : w1.heap.size ≠ q := by have := HD1.out.blk.lt; omega
 have HI3 := Lh (hf.blk HI2.out hIq)
 have HR3 := Lh (hf.blk (HR1.out.alloc (.cells #[.pointer (some ⟨q, 0, none⟩)] 146)) (by omega))
 have HB3 := Lh (HB1.out.trans (((RdFr.alloc0 w1 q .nilIface (.cells #[.pointer (some ⟨q, 0, none⟩)] 146)).trans hf).1.below HB1.out.size (fun k e => by omega)))
 have hs3 : w1.heap.size < w3.heap.size := HI3.out.lt
 have HD3 := Lh hr
 have hRI : W.heap.size ≤ w1.heap.size := HB1.out.size
 have HA3 := Lh (show ∀ ad, A1 = some ad → ad.block < w1.heap.size from fun ad e => (HA1.out ad e).2)
 have hq1 : q < w1.heap.size := HD1.out.blk.lt
 have hTR := HTL.out
 have HKD := Lh (show kindD xs = numP xs M40 ⟨0, none⟩ from rfl)
 clear hr hf HI2 HR1 HD1 HA1 HB1 hci hq
 generalize numP xs M40 ⟨0, none⟩ = y at *
 obtain ⟨k0, s1⟩ := y
 dsimp only at HD3 ⊢
 rw [HKD.out] at HKN
 generalize hI : w1.heap.size = bI at *
 have hci := HI3.out.cell
 go_wp2_with fail
 have HK0 := Lh (Blk.new w3 43 #[.int .i64 (k0 : Int), .int .i64 0, .int .i64 0, .slice none 0 0, .int .i64 0, .string ⟨#[]⟩, .int .i64 0, .int .i64 0, .string ⟨#[]⟩, .int .i64 0, .int .i64 0])
 have HI0 := Lh (HI3.out.alloc (.cells #[.int .i64 (k0 : Int), .int .i64 0, .int .i64 0, .slice none 0 0, .int .i64 0, .string ⟨#[]⟩, .int .i64 0, .int .i64 0, .string ⟨#[]⟩, .int .i64 0, .int .i64 0] 43))
 have HR0 := Lh (HR3.out.alloc (.cells #[.int .i64 (k0 : Int), .int .i64 0, .int .i64 0, .slice none 0 0, .int .i64 0, .string ⟨#[]⟩, .int .i64 0, .int .i64 0, .string ⟨#[]⟩, .int .i64 0, .int .i64 0] 43))
 have HB0 := Lh (HB3.out.alloc (by omega) (.cells #[.int .i64 (k0 : Int), .int .i64 0, .int .i64 0, .slice none 0 0, .int .i64 0, .string ⟨#[]⟩, .int .i64 0, .int .i64 0, .string ⟨#[]⟩, .int .i64 0, .int .i64 0] 43))
 have HX0 := Lh (RqIs.start (r := ⟨(k0 : Int), 0, 0, [], cell0, cell0, 0⟩) HK0.out rfl (HD3.out.alloc (.cells #[.int .i64 (k0 : Int), .int .i64 0, .int .i64 0, .slice none 0 0, .int .i64 0, .string ⟨#[]⟩, .int .i64 0, .int .i64 0, .string ⟨#[]⟩, .int .i64 0, .int .i64 0] 43)) (by omega) (fun ad e => by have := HA3.out ad e; simp; omega) (by omega))
 have hs0 : (w3.alloc (.cells #[.int .i64 (k0 : Int), .int .i64 0, .int .i64 0, .slice none 0 0, .int .i64 0, .string ⟨#[]⟩, .int .i64 0, .int .i64 0, .string ⟨#[]⟩, .int .i64 0, .int .i64 0] 43)).heap.size = w3.heap.size + 1 := by simp
 generalize hb : w3.heap.size = b at *
 generalize w3.alloc (.cells #[.int .i64 (k0 : Int), .int .i64 0, .int .i64 0, .slice none 0 0, .int .i64 0, .string ⟨#[]⟩, .int .i64 0, .int .i64 0, .string ⟨#[]⟩, .int .i64 0, .int .i64 0] 43) = W0 at *
 clear HR3 HB3 HI3 HD3 hci hb
 (refine wp_region_held_drew (S := fun w9 => Blk w9 bI 146 #[.pointer (some ⟨q, 0, none⟩)] ∧ Blk w9 b 43 #[.int .i64 (k0 : Int), .int .i64 0, .int .i64 0, .slice none 0 0, .int .i64 0, .string ⟨#[]⟩, .int .i64 0, .int .i64 0, .string ⟨#[]⟩, .int .i64 0, .int .i64 0]) (by kernel_rfl) ⟨HI0.out.drew, HX0.out.blk.drew⟩ (fun hHeld => ?_))
 (refine tr (v := ?v111) 0 16 ?h111 ?_)
 case h111 => (intro w9 hSw; have hc9 := Blk.cell hSw.1; clear hSw; first | (go_simp; done) | (go_simp; with_reducible rfl))
 (try simp only [Act.put, z1, z2, z3])
 (refine tq 1 17 ?_)
 (try simp only [Act.put, z1, z2, z3])
 (refine tq 2 18 ?_)
 (try simp only [Act.put, z1, z2, z3])
 (refine tq 4 20 ?_)
 (try simp only [Act.put, z1, z2, z3])
 (refine tr (v := ?v115) 5 21 ?h115 ?_)
 case h115 => (intro w9 hSw; have hc9 := Blk.cell hSw.2; clear hSw; first | (go_simp; done) | (go_simp; with_reducible rfl))
 (try simp only [Act.put, z1, z2, z3])
 (refine wpAnyH_ready (rs := [3]) (by kernel_rfl) (by simp) ?_)
 (refine AllReadyH.cons (o := _) rfl (fun K hK => ?_) AllReadyH.nil)
 go_simp
 go_simp
 (with_reducible refine (in_readers q n _).mono ?_)
 rintro e w4 ⟨rfl, hm, hi4, hj4, hb4⟩
 have HM := Lh (show MapIs w4 (b + 1 + 2) (rmap q (b + 1) (b + 1 + 1)) by rw [← hs0]; exact hm)
 have HX4 := Lh ((HX0.out.kept (Below.refl _ _).drew).kept hb4)
 have HI4 := Lh (HI0.out.drew.kept hb4)
 have HR4 := Lh (HR0.out.drew.kept hb4)
 have HB4 := Lh (HB0.out.drew.trans (hb4.mono (by have := HB0.out.size; simpa using this)))
 have HIM := Lh (show Blk w4 (b + 1) 146 #[.pointer (some ⟨q, 0, none⟩)] by rw [← hs0]; exact hi4)
 have HJM := Lh (show Blk w4 (b + 1 + 1) 3 #[.int .i64 (n : Int)] by rw [← hs0]; exact hj4)
 clear hm hi4 hj4 hb4
 go_simp
 (refine hK.out _ _ ⟨HI4.out, HX4.out.blk⟩ (fun hHeld => ?_))
 clear hK K
 have hlk := HM.out.look Tryz.underlying149 Tryz.underlying3 (k0 : Int) (.func (.func 115) #[inV q] #[]) (by have hk := HKN.out; first | (subst hk; rfl) | (rcases hk with rfl | rfl <;> rfl)) true
 (refine wpAnyH_ready (rs := [6]) (by kernel_rfl) (by simp) ?_)
 (refine AllReadyH.cons (o := _) rfl (fun K hK => ?_) AllReadyH.nil)
 go_simp
 (refine hK.out _ _ ⟨HI4.out, HX4.out.blk⟩ (fun hHeld => ?_))
 clear hK K
 (refine tq 7 15 ?_)
 (try simp only [Act.put, z1, z2, z3])
 (refine tq 8 23 ?_)
 (try simp only [Act.put, z1, z2, z3])
 (refine tq 9 24 ?_)
 (try simp only [Act.put, z1, z2, z3])
 (refine tq 10 6 ?_)
 (try simp only [Act.put, z1, z2, z3])
 (refine tq 11 7 ?_)
 (try simp only [Act.put, z1, z2, z3])
 (refine wpAnyH_done (by kernel_rfl) ?_ _)
 have hci := HI4.out.cell
 have hRq : W.heap.size ≠ q := by omega
 have hRb : W.heap.size ≠ b := by omega
 have hIb : bI ≠ b := by omega
 clear hlk
 go_wp2_with fail
 go_at_call 71; (with_reducible refine (in_num HX4.out.rd).mono ?_); rintro e w5 ⟨rfl, fv5, hr, hf⟩
 have HX5 := Lh (HX4.out.read (by omega) hr hf)
 have HI5 := Lh (hf.blk HI4.out hIq)
 have HR5 := Lh (hf.blk HR4.out hRq)
 have HIM5 := Lh (hf.blk HIM.out (by omega))
 have HJM5 := Lh (hf.blk HJM.out (by omega))
 have HB5 := Lh (HB4.out.trans (hf.1.below HB4.out.size (fun k e => by omega)))
 clear hr hf hci HX4 HI4 HR4 HIM HJM HB4
 have HID := Lh (show numP xs M40 s1 = numP xs M40 s1 from rfl)
 generalize hid : numP xs M40 s1 = y at *
 clear HID
 have HID := Lh hid
 clear hid
 obtain ⟨id0, s2⟩ := y
 dsimp only at HX5 ⊢
 have hcb := HX5.out.blk.cell
 have hfb := HX5.out.blk.frozen
 have HX6 := Lh (HX5.out.set_ (r1 := ⟨(k0 : Int), (id0 : Int), 0, [], cell0, cell0, 0⟩) 1 (.int .i64 (id0 : Int)) rfl HX5.out.cells)
 have HI6 := Lh (HI5.out.far (p := ⟨b, 1, none⟩) hIb (.int .i64 (id0 : Int)))
 have HR6 := Lh (HR5.out.far (p := ⟨b, 1, none⟩) hRb (.int .i64 (id0 : Int)))
 go_wp2_with fail
 (with_reducible refine (in_epoch HX6.out (by omega)).mono ?_)
 rintro e w6 ⟨rfl, fv6, v6, hx⟩
 have HX7 := Lh (show RqIs W0 q b A1 n c1 xs (readD xs).1 (readD xs).2 fv6 v6 w6 from by
  have e : readD xs = ((⟨(k0 : Int), (id0 : Int), ((numP xs M40 s2).1 : Int), [], cell0, cell0, 0⟩ : Rq), (numP xs M40 s2).2) := by
   unfold readD bodyD
   rw [HKD.out]
   dsimp only
   rw [HID.out]
   have hk := HKN.out
   first | (subst hk; simp; done) | (rcases hk with rfl | rfl <;> simp; done)
  rw [e]
  exact hx)
 clear hx hcb hfb HX6 HX5 HI5 HR5 HI6 HR6 HIM5 HJM5
 have HDEC := Lh (show decRq xs = if (checkD (checkRq (readD xs).1) (endP xs (readD xs).2)).fault.isSome then (rq0, (checkD (checkRq (readD xs).1) (endP xs (readD xs).2)).fault) else ((readD xs).1, none) by
  unfold decRq
  rw [if_neg (by rw [HKD.out]; have := HKN.out; omega)])
 have HOK := Lh (readD_ok xs)
 generalize readD xs = y at *
 obtain ⟨r', s3⟩ := y
 dsimp only at HX7 HDEC HOK
 have HI7 := Lh (HI0.out.tur HX7.out.tur (by omega))
 have HR7 := Lh (HR0.out.tur HX7.out.tur (by omega))
 have HB7 := Lh (HB0.out.trans (HX7.out.tur.below (by have := HB0.out.size; omega) (fun k e => by omega)))
 have hci := HI7.out.cell
 go_wp2_with fail
 go_at_call 75; (with_reducible refine (rd_end HX7.out.rd).mono ?_); rintro e w7 ⟨rfl, fv7, hr, hf⟩
 have HX8 := Lh (HX7.out.read (by omega) hr hf)
 have HI8 := Lh (HI0.out.tur HX8.out.tur (by omega))
 have HR8 := Lh (HR0.out.tur HX8.out.tur (by omega))
 have HB8 := Lh (HB0.out.trans (HX8.out.tur.below (by have := HB0.out.size; omega) (fun k e => by omega)))
 clear hr hf HX7 HI7 HR7 HB7 hci
 have hci := HI8.out.cell
 go_wp2_with fail
 go_at_call 74; (with_reducible refine (rd_err HX8.out.rd).mono ?_); rintro e w8 ⟨hb8, he⟩
 have HX9 := Lh (HX8.out.kept hb8)
 have HI9 := Lh (HI8.out.kept hb8)
 have HR9 := Lh (HR8.out.kept hb8)
 have HB9 := Lh (HB8.out.trans (hb8.mono HB8.out.size))
 clear hb8 HX8 HI8 HR8 HB8 hci
 have hci := HI9.out.cell
 rcases hfl : (endP xs s3).fault with _ | ⟨code, pl⟩
 ·rw [hfl] at he
  obtain rfl := he
  go_wp2_with fail
  obtain ⟨As, cz, rfl, hrd, hba⟩ := HX9.out.cells.rd
  have HCR := Lh hrd
  have HLE := Lh (CellsOwn.le HX9.out.cells)
  clear hrd hba hci
  (refine wp_region_held_drew (S := fun w9 => Blk w9 bI 146 #[.pointer (some ⟨q, 0, none⟩)] ∧ Blk w9 b 43 (rqC (.slice As r'.cs.length cz) r')) (by kernel_rfl) ⟨HI9.out.drew, HX9.out.blk.drew⟩ (fun hHeld => ?_))
  (refine tq 0 46 ?_)
  (try simp only [Act.put, z1, z2, z3])
  (refine tr (v := ?v122) 1 47 ?h122 ?_)
  case h122 => (intro w9 hSw; have hc9 := Blk.cell hSw.1; clear hSw; first | (go_simp; done) | (go_simp; with_reducible rfl))
  (try simp only [Act.put, z1, z2, z3])
  (refine tr (v := ?v123) 2 48 ?h123 ?_)
  case h123 => (intro w9 hSw; have hc9 := Blk.cell hSw.2; clear hSw; first | (go_simp; done) | (go_simp; with_reducible rfl))
  (try simp only [Act.put, z1, z2, z3])
  (refine wpAnyH_ready (rs := [3]) (by kernel_rfl) (by simp) ?_)
  (refine AllReadyH.cons (o := _) rfl (fun K hK => ?_) AllReadyH.nil)
  go_simp
  go_simp
  (with_reducible refine (check_rq As r'.cs.length cz r' _ rfl (HCR.out.below (Below.refl _ _).drew) HLE.out HOK.out).mono ?_)
  rintro e w9 ⟨rfl, hb9⟩
  have HX10 := Lh ((HX9.out.kept (Below.refl _ _).drew).kept hb9)
  have HI10 := Lh (HI9.out.drew.kept hb9)
  clear hb9
  go_simp
  (refine hK.out _ _ ⟨HI10.out, HX10.out.blk⟩ (fun hHeld => ?_))
  clear hK K
  (try simp only [Act.put, z1, z2, z3])
  (refine wpAnyH_ready (rs := [4]) (by kernel_rfl) (by simp) ?_)
  (refine AllReadyH.cons (o := _) rfl (fun K hK => ?_) AllReadyH.nil)
  go_simp
  go_simp
  (with_reducible refine (rd_fail HX10.out.rd (checkRq r') 0).mono ?_)
  rintro e wA ⟨rfl, fvA, hr, hf⟩
  have HX11 := Lh (HX10.out.read (by omega) hr hf)
  have HI11 := Lh (HI0.out.tur HX11.out.tur (by omega))
  have HR11 := Lh (HR0.out.tur HX11.out.tur (by omega))
  have HB11 := Lh (HB0.out.trans (HX11.out.tur.below (by have := HB0.out.size; omega) (fun k e => by omega)))
  clear hr hf
  go_simp
  (refine hK.out _ _ ⟨HI11.out, HX11.out.blk⟩ (fun hHeld => ?_))
  clear hK K
  (refine wpAnyH_done (by kernel_rfl) ?_ _)
  have HCD := Lh (show checkD (checkRq r') (endP xs s3) = (endP xs s3).fail (checkRq r') 0 by unfold checkD; simp [hfl])
  have hci := HI11.out.cell
  go_wp2_with fail
  go_at_call 74; (with_reducible refine (rd_err HX11.out.rd).mono ?_); rintro e wB ⟨hbB, he⟩
  have HX12 := Lh (HX11.out.kept hbB)
  have HR12 := Lh (HR11.out.kept hbB)
  have HB12 := Lh (HB11.out.trans (hbB.mono HB11.out.size))
  have hcR := HR12.out.cell
  have hfR := HR12.out.frozen
  clear hbB hci
  rcases hf2 : ((endP xs s3).fail (checkRq r') 0).fault with _ | ⟨code, pl⟩
  ·rw [hf2] at he
   obtain rfl := he
   have HD := Lh (show decRq xs = (r', none) by rw [HDEC.out, HCD.out]; simp [hf2])
   have hcb := HX12.out.blk.cell
   obtain ⟨wC, HW, HS⟩ := set11e HR12.out (.int .i64 r'.kind) (.int .i64 r'.id) (.int .i64 r'.epoch) (.slice As r'.cs.length cz) (.int .i64 r'.frm.view) (.string r'.frm.key) (.int .i64 r'.frm.start) (.int .i64 r'.too.view) (.string r'.too.key) (.int .i64 r'.too.start) (.int .i64 r'.limit)
   go_wp2
   rw [HW.out]
   have hc7 := HS.out.1.cell
   exact bodyPost_ret (v := .tuple #[.agg (rqC (.slice As r'.cs.length cz) r'), .nilIface]) (by simp [results, Tryz.results53, go_sem, hc7]) rfl
    ⟨HB12.out.trans (HS.out.2.below HB12.out.size (fun k e => by omega)), by rw [HD.out]; exact ⟨_, rfl, HX12.out.cells_low HS.out.2 (by omega)⟩⟩
  ·rw [hf2] at he
   obtain ⟨g, rfl, hg⟩ := he
   have HG := Lh hg
   have HD := Lh (show decRq xs = (rq0, some (code, pl)) by rw [HDEC.out, HCD.out]; simp [hf2])
   clear hg
   obtain ⟨wC, HW, HS⟩ := set11e HR12.out (.int .i64 0) (.int .i64 0) (.int .i64 0) (.slice none 0 0) (.int .i64 0) (.string ⟨#[]⟩) (.int .i64 0) (.int .i64 0) (.string ⟨#[]⟩) (.int .i64 0) (.int .i64 0)
   go_wp2
   rw [HW.out]
   have hc7 := HS.out.1.cell
   exact bodyPost_ret (v := .tuple #[.agg (rqC nilS rq0), errV g]) (by simp [results, Tryz.results53, go_sem, hc7, rq0, cell0]) rfl
    ⟨HB12.out.trans (HS.out.2.below HB12.out.size (fun k e => by omega)), by rw [HD.out]; exact ⟨g, rfl, HG.out.tur HS.out.2 (fun e => by subst e; exact absurd rfl (HR12.out.ne_ HG.out (by decide)))⟩⟩
 ·rw [hfl] at he
  obtain ⟨g0, rfl, _⟩ := he
  go_wp2_with fail
  go_at_call 74; (with_reducible refine (rd_err HX9.out.rd).mono ?_); rintro e w9 ⟨hb9, he⟩
  rw [hfl] at he
  obtain ⟨g, rfl, hg⟩ := he
  have HG := Lh hg
  have HR10 := Lh (HR9.out.kept hb9)
  have HB10 := Lh (HB9.out.trans (hb9.mono HB9.out.size))
  have HD := Lh (show decRq xs = (rq0, some (code, pl)) by rw [HDEC.out]; unfold checkD; simp [hfl])
  have hcR := HR10.out.cell
  have hfR := HR10.out.frozen
  clear hb9 hg hci
  obtain ⟨w10, HW, HS⟩ := set11e HR10.out (.int .i64 0) (.int .i64 0) (.int .i64 0) (.slice none 0 0) (.int .i64 0) (.string ⟨#[]⟩) (.int .i64 0) (.int .i64 0) (.string ⟨#[]⟩) (.int .i64 0) (.int .i64 0)
  go_wp2
  rw [HW.out]
  have hc7 := HS.out.1.cell
  exact bodyPost_ret (v := .tuple #[.agg (rqC nilS rq0), errV g]) (by simp [results, Tryz.results53, go_sem, hc7, rq0, cell0]) rfl
   ⟨HB10.out.trans (HS.out.2.below HB10.out.size (fun k e => by omega)), by rw [HD.out]; exact ⟨g, rfl, HG.out.tur HS.out.2 (fun e => by subst e; exact absurd rfl (HR10.out.ne_ HG.out (by decide)))⟩⟩
theorem decode_rq_bare (A : Option Addr) (n c : Nat) (xs : List Int) (hk : (kindD xs).1 = 4 ∨ (kindD xs).1 = 7) (W : World) (hl : xs.length = n) (h : CellsAt W A (bvs xs)) (hw : ∀ x ∈ xs, (Lit.int .u8 x).wf = true) (hn : n ≤ 211106232532992) (hT : W.cell? ⟨0, 0, none⟩ = some tyErr) :
  Calls Tryz.prog 53 #[.slice A n c] W (DecQ W (decRq xs)) := by
 have HR0 := Lh (Blk.new W 43 #[.int .i64 0, .int .i64 0, .int .i64 0, .slice none 0 0, .int .i64 0, .string ⟨#[]⟩, .int .i64 0, .int .i64 0, .string ⟨#[]⟩, .int .i64 0, .int .i64 0])
 have CR := Lh (rd_read A n c xs (W.alloc (.cells #[.int .i64 0, .int .i64 0, .int .i64 0, .slice none 0 0, .int .i64 0, .string ⟨#[]⟩, .int .i64 0, .int .i64 0, .string ⟨#[]⟩, .int .i64 0, .int .i64 0] 43)) hl (h.below ((Below.refl _ _).alloc (Nat.le_refl _) _)) hw hn (((Below.refl W.heap.size W).alloc (Nat.le_refl _) _).cell (World.block_lt_of_cell? W _ hT) ▸ hT))
 have HTL := Lh (World.block_lt_of_cell? W _ hT)
 have HKN := Lh hk
 clear h hw hn hT hk
 go_enter Tryz.func53, Tryz.ntmps53
 go_wp2_with fail
 go_at_call 70; (with_reducible refine CR.out.mono ?_); rintro e w1 ⟨q, A1, c1, rfl, hq, hr, hA1, hb⟩
 have HB1 := Lh (((Below.refl W.heap.size W).alloc (Nat.le_refl _) (.cells #[.int .i64 0, .int .i64 0, .int .i64 0, .slice none 0 0, .int .i64 0, .string ⟨#[]⟩, .int .i64 0, .int .i64 0, .string ⟨#[]⟩, .int .i64 0, .int .i64 0] 43)).trans (hb.mono (by simp)))
 have HR1 := Lh (HR0.out.kept hb)
 have HD1 := Lh hr
 have HA1 := Lh hA1
 have hqR : W.heap.size < q := by have : (W.alloc (.cells #[.int .i64 0, .int .i64 0, .int .i64 0, .slice none 0 0, .int .i64 0, .string ⟨#[]⟩, .int .i64 0, .int .i64 0, .string ⟨#[]⟩, .int .i64 0, .int .i64 0] 43)).heap.size = W.heap.size + 1 := by simp
                                  omega
 have HI2 := Lh (Blk.new w1 146 #[.pointer (some ⟨q, 0, none⟩)])
 have hci := HI2.out.cell
 clear hb hr hA1 HR0 CR
 go_wp2_with fail
 go_at_call 71; (with_reducible refine (in_num (HD1.out.alloc (.cells #[.pointer (some ⟨q, 0, none⟩)] 146))).mono ?_); rintro e w3 ⟨rfl, fv3, hr, hf⟩
 have hIq : w1.heap.size ≠ q := by have := HD1.out.blk.lt; omega
 have HI3 := Lh (hf.blk HI2.out hIq)
 have HR3 := Lh (hf.blk (HR1.out.alloc (.cells #[.pointer (some ⟨q, 0, none⟩)] 146)) (by omega))
 have HB3 := Lh (HB1.out.trans (((RdFr.alloc0 w1 q .nilIface (.cells #[.pointer (some ⟨q, 0, none⟩)] 146)).trans hf).1.below HB1.out.size (fun k e => by omega)))
 have hs3 : w1.heap.size < w3.heap.size := HI3.out.lt
 have HD3 := Lh hr
 have hRI : W.heap.size ≤ w1.heap.size := HB1.out.size
 have HA3 := Lh (show ∀ ad, A1 = some ad → ad.block < w1.heap.size from fun ad e => (HA1.out ad e).2)
 have hq1 : q < w1.heap.size := HD1.out.blk.lt
 have hTR := HTL.out
 have HKD := Lh (show kindD xs = numP xs M40 ⟨0, none⟩ from rfl)
 clear hr hf HI2 HR1 HD1 HA1 HB1 hci hq
 generalize numP xs M40 ⟨0, none⟩ = y at *
 obtain ⟨k0, s1⟩ := y
 dsimp only at HD3 ⊢
 rw [HKD.out] at HKN
 generalize hI : w1.heap.size = bI at *
 have hci := HI3.out.cell
 go_wp2_with fail
 have HK0 := Lh (Blk.new w3 43 #[.int .i64 (k0 : Int), .int .i64 0, .int .i64 0, .slice none 0 0, .int .i64 0, .string ⟨#[]⟩, .int .i64 0, .int .i64 0, .string ⟨#[]⟩, .int .i64 0, .int .i64 0])
 have HI0 := Lh (HI3.out.alloc (.cells #[.int .i64 (k0 : Int), .int .i64 0, .int .i64 0, .slice none 0 0, .int .i64 0, .string ⟨#[]⟩, .int .i64 0, .int .i64 0, .string ⟨#[]⟩, .int .i64 0, .int .i64 0] 43))
 have HR0 := Lh (HR3.out.alloc (.cells #[.int .i64 (k0 : Int), .int .i64 0, .int .i64 0, .slice none 0 0, .int .i64 0, .string ⟨#[]⟩, .int .i64 0, .int .i64 0, .string ⟨#[]⟩, .int .i64 0, .int .i64 0] 43))
 have HB0 := Lh (HB3.out.alloc (by omega) (.cells #[.int .i64 (k0 : Int), .int .i64 0, .int .i64 0, .slice none 0 0, .int .i64 0, .string ⟨#[]⟩, .int .i64 0, .int .i64 0, .string ⟨#[]⟩, .int .i64 0, .int .i64 0] 43))
 have HX0 := Lh (RqIs.start (r := ⟨(k0 : Int), 0, 0, [], cell0, cell0, 0⟩) HK0.out rfl (HD3.out.alloc (.cells #[.int .i64 (k0 : Int), .int .i64 0, .int .i64 0, .slice none 0 0, .int .i64 0, .string ⟨#[]⟩, .int .i64 0, .int .i64 0, .string ⟨#[]⟩, .int .i64 0, .int .i64 0] 43)) (by omega) (fun ad e => by have := HA3.out ad e; simp; omega) (by omega))
 have hs0 : (w3.alloc (.cells #[.int .i64 (k0 : Int), .int .i64 0, .int .i64 0, .slice none 0 0, .int .i64 0, .string ⟨#[]⟩, .int .i64 0, .int .i64 0, .string ⟨#[]⟩, .int .i64 0, .int .i64 0] 43)).heap.size = w3.heap.size + 1 := by simp
 generalize hb : w3.heap.size = b at *
 generalize w3.alloc (.cells #[.int .i64 (k0 : Int), .int .i64 0, .int .i64 0, .slice none 0 0, .int .i64 0, .string ⟨#[]⟩, .int .i64 0, .int .i64 0, .string ⟨#[]⟩, .int .i64 0, .int .i64 0] 43) = W0 at *
 clear HR3 HB3 HI3 HD3 hci hb
 (refine wp_region_held_drew (S := fun w9 => Blk w9 bI 146 #[.pointer (some ⟨q, 0, none⟩)] ∧ Blk w9 b 43 #[.int .i64 (k0 : Int), .int .i64 0, .int .i64 0, .slice none 0 0, .int .i64 0, .string ⟨#[]⟩, .int .i64 0, .int .i64 0, .string ⟨#[]⟩, .int .i64 0, .int .i64 0]) (by kernel_rfl) ⟨HI0.out.drew, HX0.out.blk.drew⟩ (fun hHeld => ?_))
 (refine tr (v := ?v124) 0 16 ?h124 ?_)
 case h124 => (intro w9 hSw; have hc9 := Blk.cell hSw.1; clear hSw; first | (go_simp; done) | (go_simp; with_reducible rfl))
 (try simp only [Act.put, z1, z2, z3])
 (refine tq 1 17 ?_)
 (try simp only [Act.put, z1, z2, z3])
 (refine tq 2 18 ?_)
 (try simp only [Act.put, z1, z2, z3])
 (refine tq 4 20 ?_)
 (try simp only [Act.put, z1, z2, z3])
 (refine tr (v := ?v128) 5 21 ?h128 ?_)
 case h128 => (intro w9 hSw; have hc9 := Blk.cell hSw.2; clear hSw; first | (go_simp; done) | (go_simp; with_reducible rfl))
 (try simp only [Act.put, z1, z2, z3])
 (refine wpAnyH_ready (rs := [3]) (by kernel_rfl) (by simp) ?_)
 (refine AllReadyH.cons (o := _) rfl (fun K hK => ?_) AllReadyH.nil)
 go_simp
 go_simp
 (with_reducible refine (in_readers q n _).mono ?_)
 rintro e w4 ⟨rfl, hm, hi4, hj4, hb4⟩
 have HM := Lh (show MapIs w4 (b + 1 + 2) (rmap q (b + 1) (b + 1 + 1)) by rw [← hs0]; exact hm)
 have HX4 := Lh ((HX0.out.kept (Below.refl _ _).drew).kept hb4)
 have HI4 := Lh (HI0.out.drew.kept hb4)
 have HR4 := Lh (HR0.out.drew.kept hb4)
 have HB4 := Lh (HB0.out.drew.trans (hb4.mono (by have := HB0.out.size; simpa using this)))
 have HIM := Lh (show Blk w4 (b + 1) 146 #[.pointer (some ⟨q, 0, none⟩)] by rw [← hs0]; exact hi4)
 have HJM := Lh (show Blk w4 (b + 1 + 1) 3 #[.int .i64 (n : Int)] by rw [← hs0]; exact hj4)
 clear hm hi4 hj4 hb4
 go_simp
 (refine hK.out _ _ ⟨HI4.out, HX4.out.blk⟩ (fun hHeld => ?_))
 clear hK K
 have hlk := HM.out.look Tryz.underlying149 Tryz.underlying3 (k0 : Int) (.func (.func 114) #[inV q] #[]) (by have hk := HKN.out; first | (subst hk; rfl) | (rcases hk with rfl | rfl <;> rfl)) true
 (refine wpAnyH_ready (rs := [6]) (by kernel_rfl) (by simp) ?_)
 (refine AllReadyH.cons (o := _) rfl (fun K hK => ?_) AllReadyH.nil)
 go_simp
 (refine hK.out _ _ ⟨HI4.out, HX4.out.blk⟩ (fun hHeld => ?_))
 clear hK K
 (refine tq 7 15 ?_)
 (try simp only [Act.put, z1, z2, z3])
 (refine tq 8 23 ?_)
 (try simp only [Act.put, z1, z2, z3])
 (refine tq 9 24 ?_)
 (try simp only [Act.put, z1, z2, z3])
 (refine tq 10 6 ?_)
 (try simp only [Act.put, z1, z2, z3])
 (refine tq 11 7 ?_)
 (try simp only [Act.put, z1, z2, z3])
 (refine wpAnyH_done (by kernel_rfl) ?_ _)
 have hci := HI4.out.cell
 have hRq : W.heap.size ≠ q := by omega
 have hRb : W.heap.size ≠ b := by omega
 have hIb : bI ≠ b := by omega
 clear hlk
 go_wp2_with fail
 go_at_call 71; (with_reducible refine (in_num HX4.out.rd).mono ?_); rintro e w5 ⟨rfl, fv5, hr, hf⟩
 have HX5 := Lh (HX4.out.read (by omega) hr hf)
 have HI5 := Lh (hf.blk HI4.out hIq)
 have HR5 := Lh (hf.blk HR4.out hRq)
 have HIM5 := Lh (hf.blk HIM.out (by omega))
 have HJM5 := Lh (hf.blk HJM.out (by omega))
 have HB5 := Lh (HB4.out.trans (hf.1.below HB4.out.size (fun k e => by omega)))
 clear hr hf hci HX4 HI4 HR4 HIM HJM HB4
 have HID := Lh (show numP xs M40 s1 = numP xs M40 s1 from rfl)
 generalize hid : numP xs M40 s1 = y at *
 clear HID
 have HID := Lh hid
 clear hid
 obtain ⟨id0, s2⟩ := y
 dsimp only at HX5 ⊢
 have hcb := HX5.out.blk.cell
 have hfb := HX5.out.blk.frozen
 have HX6 := Lh (HX5.out.set_ (r1 := ⟨(k0 : Int), (id0 : Int), 0, [], cell0, cell0, 0⟩) 1 (.int .i64 (id0 : Int)) rfl HX5.out.cells)
 have HI6 := Lh (HI5.out.far (p := ⟨b, 1, none⟩) hIb (.int .i64 (id0 : Int)))
 have HR6 := Lh (HR5.out.far (p := ⟨b, 1, none⟩) hRb (.int .i64 (id0 : Int)))
 go_wp2_with fail
 (with_reducible refine (in_bare HX6.out).mono ?_)
 rintro e w6 ⟨rfl, fv6, v6, hx⟩
 have HX7 := Lh (show RqIs W0 q b A1 n c1 xs (readD xs).1 (readD xs).2 fv6 v6 w6 from by
  have e : readD xs = ((⟨(k0 : Int), (id0 : Int), 0, [], cell0, cell0, 0⟩ : Rq), s2) := by
   unfold readD bodyD
   rw [HKD.out]
   dsimp only
   rw [HID.out]
   have hk := HKN.out
   first | (subst hk; simp; done) | (rcases hk with rfl | rfl <;> simp; done)
  rw [e]
  exact hx)
 clear hx hcb hfb HX6 HX5 HI5 HR5 HI6 HR6 HIM5 HJM5
 have HDEC := Lh (show decRq xs = if (checkD (checkRq (readD xs).1) (endP xs (readD xs).2)).fault.isSome then (rq0, (checkD (checkRq (readD xs).1) (endP xs (readD xs).2)).fault) else ((readD xs).1, none) by
  unfold decRq
  rw [if_neg (by rw [HKD.out]; have := HKN.out; omega)])
 have HOK := Lh (readD_ok xs)
 generalize readD xs = y at *
 obtain ⟨r', s3⟩ := y
 dsimp only at HX7 HDEC HOK
 have HI7 := Lh (HI0.out.tur HX7.out.tur (by omega))
 have HR7 := Lh (HR0.out.tur HX7.out.tur (by omega))
 have HB7 := Lh (HB0.out.trans (HX7.out.tur.below (by have := HB0.out.size; omega) (fun k e => by omega)))
 have hci := HI7.out.cell
 go_wp2_with fail
 go_at_call 75; (with_reducible refine (rd_end HX7.out.rd).mono ?_); rintro e w7 ⟨rfl, fv7, hr, hf⟩
 have HX8 := Lh (HX7.out.read (by omega) hr hf)
 have HI8 := Lh (HI0.out.tur HX8.out.tur (by omega))
 have HR8 := Lh (HR0.out.tur HX8.out.tur (by omega))
 have HB8 := Lh (HB0.out.trans (HX8.out.tur.below (by have := HB0.out.size; omega) (fun k e => by omega)))
 clear hr hf HX7 HI7 HR7 HB7 hci
 have hci := HI8.out.cell
 go_wp2_with fail
 go_at_call 74; (with_reducible refine (rd_err HX8.out.rd).mono ?_); rintro e w8 ⟨hb8, he⟩
 have HX9 := Lh (HX8.out.kept hb8)
 have HI9 := Lh (HI8.out.kept hb8)
 have HR9 := Lh (HR8.out.kept hb8)
 have HB9 := Lh (HB8.out.trans (hb8.mono HB8.out.size))
 clear hb8 HX8 HI8 HR8 HB8 hci
 have hci := HI9.out.cell
 rcases hfl : (endP xs s3).fault with _ | ⟨code, pl⟩
 ·rw [hfl] at he
  obtain rfl := he
  go_wp2_with fail
  obtain ⟨As, cz, rfl, hrd, hba⟩ := HX9.out.cells.rd
  have HCR := Lh hrd
  have HLE := Lh (CellsOwn.le HX9.out.cells)
  clear hrd hba hci
  (refine wp_region_held_drew (S := fun w9 => Blk w9 bI 146 #[.pointer (some ⟨q, 0, none⟩)] ∧ Blk w9 b 43 (rqC (.slice As r'.cs.length cz) r')) (by kernel_rfl) ⟨HI9.out.drew, HX9.out.blk.drew⟩ (fun hHeld => ?_))
  (refine tq 0 46 ?_)
  (try simp only [Act.put, z1, z2, z3])
  (refine tr (v := ?v135) 1 47 ?h135 ?_)
  case h135 => (intro w9 hSw; have hc9 := Blk.cell hSw.1; clear hSw; first | (go_simp; done) | (go_simp; with_reducible rfl))
  (try simp only [Act.put, z1, z2, z3])
  (refine tr (v := ?v136) 2 48 ?h136 ?_)
  case h136 => (intro w9 hSw; have hc9 := Blk.cell hSw.2; clear hSw; first | (go_simp; done) | (go_simp; with_reducible rfl))
  (try simp only [Act.put, z1, z2, z3])
  (refine wpAnyH_ready (rs := [3]) (by kernel_rfl) (by simp) ?_)
  (refine AllReadyH.cons (o := _) rfl (fun K hK => ?_) AllReadyH.nil)
  go_simp
  go_simp
  (with_reducible refine (check_rq As r'.cs.length cz r' _ rfl (HCR.out.below (Below.refl _ _).drew) HLE.out HOK.out).mono ?_)
  rintro e w9 ⟨rfl, hb9⟩
  have HX10 := Lh ((HX9.out.kept (Below.refl _ _).drew).kept hb9)
  have HI10 := Lh (HI9.out.drew.kept hb9)
  clear hb9
  go_simp
  (refine hK.out _ _ ⟨HI10.out, HX10.out.blk⟩ (fun hHeld => ?_))
  clear hK K
  (try simp only [Act.put, z1, z2, z3])
  (refine wpAnyH_ready (rs := [4]) (by kernel_rfl) (by simp) ?_)
  (refine AllReadyH.cons (o := _) rfl (fun K hK => ?_) AllReadyH.nil)
  go_simp
  go_simp
  (with_reducible refine (rd_fail HX10.out.rd (checkRq r') 0).mono ?_)
  rintro e wA ⟨rfl, fvA, hr, hf⟩
  have HX11 := Lh (HX10.out.read (by omega) hr hf)
  have HI11 := Lh (HI0.out.tur HX11.out.tur (by omega))
  have HR11 := Lh (HR0.out.tur HX11.out.tur (by omega))
  have HB11 := Lh (HB0.out.trans (HX11.out.tur.below (by have := HB0.out.size; omega) (fun k e => by omega)))
  clear hr hf
  go_simp
  (refine hK.out _ _ ⟨HI11.out, HX11.out.blk⟩ (fun hHeld => ?_))
  clear hK K
  (refine wpAnyH_done (by kernel_rfl) ?_ _)
  have HCD := Lh (show checkD (checkRq r') (endP xs s3) = (endP xs s3).fail (checkRq r') 0 by unfold checkD; simp [hfl])
  have hci := HI11.out.cell
  go_wp2_with fail
  go_at_call 74; (with_reducible refine (rd_err HX11.out.rd).mono ?_); rintro e wB ⟨hbB, he⟩
  have HX12 := Lh (HX11.out.kept hbB)
  have HR12 := Lh (HR11.out.kept hbB)
  have HB12 := Lh (HB11.out.trans (hbB.mono HB11.out.size))
  have hcR := HR12.out.cell
  have hfR := HR12.out.frozen
  clear hbB hci
  rcases hf2 : ((endP xs s3).fail (checkRq r') 0).fault with _ | ⟨code, pl⟩
  ·rw [hf2] at he
   obtain rfl := he
   have HD := Lh (show decRq xs = (r', none) by rw [HDEC.out, HCD.out]; simp [hf2])
   have hcb := HX12.out.blk.cell
   obtain ⟨wC, HW, HS⟩ := set11e HR12.out (.int .i64 r'.kind) (.int .i64 r'.id) (.int .i64 r'.epoch) (.slice As r'.cs.length cz) (.int .i64 r'.frm.view) (.string r'.frm.key) (.int .i64 r'.frm.start) (.int .i64 r'.too.view) (.string r'.too.key) (.int .i64 r'.too.start) (.int .i64 r'.limit)
   go_wp2
   rw [HW.out]
   have hc7 := HS.out.1.cell
   exact bodyPost_ret (v := .tuple #[.agg (rqC (.slice As r'.cs.length cz) r'), .nilIface]) (by simp [results, Tryz.results53, go_sem, hc7]) rfl
    ⟨HB12.out.trans (HS.out.2.below HB12.out.size (fun k e => by omega)), by rw [HD.out]; exact ⟨_, rfl, HX12.out.cells_low HS.out.2 (by omega)⟩⟩
  ·rw [hf2] at he
   obtain ⟨g, rfl, hg⟩ := he
   have HG := Lh hg
   have HD := Lh (show decRq xs = (rq0, some (code, pl)) by rw [HDEC.out, HCD.out]; simp [hf2])
   clear hg
   obtain ⟨wC, HW, HS⟩ := set11e HR12.out (.int .i64 0) (.int .i64 0) (.int .i64 0) (.slice none 0 0) (.int .i64 0) (.string ⟨#[]⟩) (.int .i64 0) (.int .i64 0) (.string ⟨#[]⟩) (.int .i64 0) (.int .i64 0)
   go_wp2
   rw [HW.out]
   have hc7 := HS.out.1.cell
   exact bodyPost_ret (v := .tuple #[.agg (rqC nilS rq0), errV g]) (by simp [results, Tryz.results53, go_sem, hc7, rq0, cell0]) rfl
    ⟨HB12.out.trans (HS.out.2.below HB12.out.size (fun k e => by omega)), by rw [HD.out]; exact ⟨g, rfl, HG.out.tur HS.out.2 (fun e => by subst e; exact absurd rfl (HR12.out.ne_ HG.out (by decide)))⟩⟩
 ·rw [hfl] at he
  obtain ⟨g0, rfl, _⟩ := he
  go_wp2_with fail
  go_at_call 74; (with_reducible refine (rd_err HX9.out.rd).mono ?_); rintro e w9 ⟨hb9, he⟩
  rw [hfl] at he
  obtain ⟨g, rfl, hg⟩ := he
  have HG := Lh hg
  have HR10 := Lh (HR9.out.kept hb9)
  have HB10 := Lh (HB9.out.trans (hb9.mono HB9.out.size))
  have HD := Lh (show decRq xs = (rq0, some (code, pl)) by rw [HDEC.out]; unfold checkD; simp [hfl])
  have hcR := HR10.out.cell
  have hfR := HR10.out.frozen
  clear hb9 hg hci
  obtain ⟨w10, HW, HS⟩ := set11e HR10.out (.int .i64 0) (.int .i64 0) (.int .i64 0) (.slice none 0 0) (.int .i64 0) (.string ⟨#[]⟩) (.int .i64 0) (.int .i64 0) (.string ⟨#[]⟩) (.int .i64 0) (.int .i64 0)
  go_wp2
  rw [HW.out]
  have hc7 := HS.out.1.cell
  exact bodyPost_ret (v := .tuple #[.agg (rqC nilS rq0), errV g]) (by simp [results, Tryz.results53, go_sem, hc7, rq0, cell0]) rfl
   ⟨HB10.out.trans (HS.out.2.below HB10.out.size (fun k e => by omega)), by rw [HD.out]; exact ⟨g, rfl, HG.out.tur HS.out.2 (fun e => by subst e; exact absurd rfl (HR10.out.ne_ HG.out (by decide)))⟩⟩
theorem decode_rq_get (A : Option Addr) (n c : Nat) (xs : List Int) (hk : (kindD xs).1 = 1) (W : World) (hl : xs.length = n) (h : CellsAt W A (bvs xs)) (hw : ∀ x ∈ xs, (Lit.int .u8 x).wf = true) (hn : n ≤ 211106232532992) (hT : W.cell? ⟨0, 0, none⟩ = some tyErr) :
  Calls Tryz.prog 53 #[.slice A n c] W (DecQ W (decRq xs)) := by
 have HR0 := Lh (Blk.new W 43 #[.int .i64 0, .int .i64 0, .int .i64 0, .slice none 0 0, .int .i64 0, .string ⟨#[]⟩, .int .i64 0, .int .i64 0, .string ⟨#[]⟩, .int .i64 0, .int .i64 0])
 have CR := Lh (rd_read A n c xs (W.alloc (.cells #[.int .i64 0, .int .i64 0, .int .i64 0, .slice none 0 0, .int .i64 0, .string ⟨#[]⟩, .int .i64 0, .int .i64 0, .string ⟨#[]⟩, .int .i64 0, .int .i64 0] 43)) hl (h.below ((Below.refl _ _).alloc (Nat.le_refl _) _)) hw hn (((Below.refl W.heap.size W).alloc (Nat.le_refl _) _).cell (World.block_lt_of_cell? W _ hT) ▸ hT))
 have HTL := Lh (World.block_lt_of_cell? W _ hT)
 have HKN := Lh hk
 clear h hw hn hT hk
 go_enter Tryz.func53, Tryz.ntmps53
 go_wp2_with fail
 go_at_call 70; (with_reducible refine CR.out.mono ?_); rintro e w1 ⟨q, A1, c1, rfl, hq, hr, hA1, hb⟩
 have HB1 := Lh (((Below.refl W.heap.size W).alloc (Nat.le_refl _) (.cells #[.int .i64 0, .int .i64 0, .int .i64 0, .slice none 0 0, .int .i64 0, .string ⟨#[]⟩, .int .i64 0, .int .i64 0, .string ⟨#[]⟩, .int .i64 0, .int .i64 0] 43)).trans (hb.mono (by simp)))
 have HR1 := Lh (HR0.out.kept hb)
 have HD1 := Lh hr
 have HA1 := Lh hA1
 have hqR : W.heap.size < q := by have : (W.alloc (.cells #[.int .i64 0, .int .i64 0, .int .i64 0, .slice none 0 0, .int .i64 0, .string ⟨#[]⟩, .int .i64 0, .int .i64 0, .string ⟨#[]⟩, .int .i64 0, .int .i64 0] 43)).heap.size = W.heap.size + 1 := by simp
                                  omega
 have HI2 := Lh (Blk.new w1 146 #[.pointer (some ⟨q, 0, none⟩)])
 have hci := HI2.out.cell
 clear hb hr hA1 HR0 CR
 go_wp2_with fail
 go_at_call 71; (with_reducible refine (in_num (HD1.out.alloc (.cells #[.pointer (some ⟨q, 0, none⟩)] 146))).mono ?_); rintro e w3 ⟨rfl, fv3, hr, hf⟩
 have hIq : w1.heap.size ≠ q := by have := HD1.out.blk.lt; omega
 have HI3 := Lh (hf.blk HI2.out hIq)
 have HR3 := Lh (hf.blk (HR1.out.alloc (.cells #[.pointer (some ⟨q, 0, none⟩)] 146)) (by omega))
 have HB3 := Lh (HB1.out.trans (((RdFr.alloc0 w1 q .nilIface (.cells #[.pointer (some ⟨q, 0, none⟩)] 146)).trans hf).1.below HB1.out.size (fun k e => by omega)))
 have hs3 : w1.heap.size < w3.heap.size := HI3.out.lt
 have HD3 := Lh hr
 have hRI : W.heap.size ≤ w1.heap.size := HB1.out.size
 have HA3 := Lh (show ∀ ad, A1 = some ad → ad.block < w1.heap.size from fun ad e => (HA1.out ad e).2)
 have hq1 : q < w1.heap.size := HD1.out.blk.lt
 have hTR := HTL.out
 have HKD := Lh (show kindD xs = numP xs M40 ⟨0, none⟩ from rfl)
 clear hr hf HI2 HR1 HD1 HA1 HB1 hci hq
 generalize numP xs M40 ⟨0, none⟩ = y at *
 obtain ⟨k0, s1⟩ := y
 dsimp only at HD3 ⊢
 rw [HKD.out] at HKN
 generalize hI : w1.heap.size = bI at *
 have hci := HI3.out.cell
 go_wp2_with fail
 have HK0 := Lh (Blk.new w3 43 #[.int .i64 (k0 : Int), .int .i64 0, .int .i64 0, .slice none 0 0, .int .i64 0, .string ⟨#[]⟩, .int .i64 0, .int .i64 0, .string ⟨#[]⟩, .int .i64 0, .int .i64 0])
 have HI0 := Lh (HI3.out.alloc (.cells #[.int .i64 (k0 : Int), .int .i64 0, .int .i64 0, .slice none 0 0, .int .i64 0, .string ⟨#[]⟩, .int .i64 0, .int .i64 0, .string ⟨#[]⟩, .int .i64 0, .int .i64 0] 43))
 have HR0 := Lh (HR3.out.alloc (.cells #[.int .i64 (k0 : Int), .int .i64 0, .int .i64 0, .slice none 0 0, .int .i64 0, .string ⟨#[]⟩, .int .i64 0, .int .i64 0, .string ⟨#[]⟩, .int .i64 0, .int .i64 0] 43))
 have HB0 := Lh (HB3.out.alloc (by omega) (.cells #[.int .i64 (k0 : Int), .int .i64 0, .int .i64 0, .slice none 0 0, .int .i64 0, .string ⟨#[]⟩, .int .i64 0, .int .i64 0, .string ⟨#[]⟩, .int .i64 0, .int .i64 0] 43))
 have HX0 := Lh (RqIs.start (r := ⟨(k0 : Int), 0, 0, [], cell0, cell0, 0⟩) HK0.out rfl (HD3.out.alloc (.cells #[.int .i64 (k0 : Int), .int .i64 0, .int .i64 0, .slice none 0 0, .int .i64 0, .string ⟨#[]⟩, .int .i64 0, .int .i64 0, .string ⟨#[]⟩, .int .i64 0, .int .i64 0] 43)) (by omega) (fun ad e => by have := HA3.out ad e; simp; omega) (by omega))
 have hs0 : (w3.alloc (.cells #[.int .i64 (k0 : Int), .int .i64 0, .int .i64 0, .slice none 0 0, .int .i64 0, .string ⟨#[]⟩, .int .i64 0, .int .i64 0, .string ⟨#[]⟩, .int .i64 0, .int .i64 0] 43)).heap.size = w3.heap.size + 1 := by simp
 generalize hb : w3.heap.size = b at *
 generalize w3.alloc (.cells #[.int .i64 (k0 : Int), .int .i64 0, .int .i64 0, .slice none 0 0, .int .i64 0, .string ⟨#[]⟩, .int .i64 0, .int .i64 0, .string ⟨#[]⟩, .int .i64 0, .int .i64 0] 43) = W0 at *
 clear HR3 HB3 HI3 HD3 hci hb
 (refine wp_region_held_drew (S := fun w9 => Blk w9 bI 146 #[.pointer (some ⟨q, 0, none⟩)] ∧ Blk w9 b 43 #[.int .i64 (k0 : Int), .int .i64 0, .int .i64 0, .slice none 0 0, .int .i64 0, .string ⟨#[]⟩, .int .i64 0, .int .i64 0, .string ⟨#[]⟩, .int .i64 0, .int .i64 0]) (by kernel_rfl) ⟨HI0.out.drew, HX0.out.blk.drew⟩ (fun hHeld => ?_))
 (refine tr (v := ?v137) 0 16 ?h137 ?_)
 case h137 => (intro w9 hSw; have hc9 := Blk.cell hSw.1; clear hSw; first | (go_simp; done) | (go_simp; with_reducible rfl))
 (try simp only [Act.put, z1, z2, z3])
 (refine tq 1 17 ?_)
 (try simp only [Act.put, z1, z2, z3])
 (refine tq 2 18 ?_)
 (try simp only [Act.put, z1, z2, z3])
 (refine tq 4 20 ?_)
 (try simp only [Act.put, z1, z2, z3])
 (refine tr (v := ?v141) 5 21 ?h141 ?_)
 case h141 => (intro w9 hSw; have hc9 := Blk.cell hSw.2; clear hSw; first | (go_simp; done) | (go_simp; with_reducible rfl))
 (try simp only [Act.put, z1, z2, z3])
 (refine wpAnyH_ready (rs := [3]) (by kernel_rfl) (by simp) ?_)
 (refine AllReadyH.cons (o := _) rfl (fun K hK => ?_) AllReadyH.nil)
 go_simp
 go_simp
 (with_reducible refine (in_readers q n _).mono ?_)
 rintro e w4 ⟨rfl, hm, hi4, hj4, hb4⟩
 have HM := Lh (show MapIs w4 (b + 1 + 2) (rmap q (b + 1) (b + 1 + 1)) by rw [← hs0]; exact hm)
 have HX4 := Lh ((HX0.out.kept (Below.refl _ _).drew).kept hb4)
 have HI4 := Lh (HI0.out.drew.kept hb4)
 have HR4 := Lh (HR0.out.drew.kept hb4)
 have HB4 := Lh (HB0.out.drew.trans (hb4.mono (by have := HB0.out.size; simpa using this)))
 have HIM := Lh (show Blk w4 (b + 1) 146 #[.pointer (some ⟨q, 0, none⟩)] by rw [← hs0]; exact hi4)
 have HJM := Lh (show Blk w4 (b + 1 + 1) 3 #[.int .i64 (n : Int)] by rw [← hs0]; exact hj4)
 clear hm hi4 hj4 hb4
 go_simp
 (refine hK.out _ _ ⟨HI4.out, HX4.out.blk⟩ (fun hHeld => ?_))
 clear hK K
 have hlk := HM.out.look Tryz.underlying149 Tryz.underlying3 (k0 : Int) (.func (.func 112) #[inV q] #[]) (by have hk := HKN.out; first | (subst hk; rfl) | (rcases hk with rfl | rfl <;> rfl)) true
 (refine wpAnyH_ready (rs := [6]) (by kernel_rfl) (by simp) ?_)
 (refine AllReadyH.cons (o := _) rfl (fun K hK => ?_) AllReadyH.nil)
 go_simp
 (refine hK.out _ _ ⟨HI4.out, HX4.out.blk⟩ (fun hHeld => ?_))
 clear hK K
 (refine tq 7 15 ?_)
 (try simp only [Act.put, z1, z2, z3])
 (refine tq 8 23 ?_)
 (try simp only [Act.put, z1, z2, z3])
 (refine tq 9 24 ?_)
 (try simp only [Act.put, z1, z2, z3])
 (refine tq 10 6 ?_)
 (try simp only [Act.put, z1, z2, z3])
 (refine tq 11 7 ?_)
 (try simp only [Act.put, z1, z2, z3])
 (refine wpAnyH_done (by kernel_rfl) ?_ _)
 have hci := HI4.out.cell
 have hRq : W.heap.size ≠ q := by omega
 have hRb : W.heap.size ≠ b := by omega
 have hIb : bI ≠ b := by omega
 clear hlk
 go_wp2_with fail
 go_at_call 71; (with_reducible refine (in_num HX4.out.rd).mono ?_); rintro e w5 ⟨rfl, fv5, hr, hf⟩
 have HX5 := Lh (HX4.out.read (by omega) hr hf)
 have HI5 := Lh (hf.blk HI4.out hIq)
 have HR5 := Lh (hf.blk HR4.out hRq)
 have HIM5 := Lh (hf.blk HIM.out (by omega))
 have HJM5 := Lh (hf.blk HJM.out (by omega))
 have HB5 := Lh (HB4.out.trans (hf.1.below HB4.out.size (fun k e => by omega)))
 clear hr hf hci HX4 HI4 HR4 HIM HJM HB4
 have HID := Lh (show numP xs M40 s1 = numP xs M40 s1 from rfl)
 generalize hid : numP xs M40 s1 = y at *
 clear HID
 have HID := Lh hid
 clear hid
 obtain ⟨id0, s2⟩ := y
 dsimp only at HX5 ⊢
 have hcb := HX5.out.blk.cell
 have hfb := HX5.out.blk.frozen
 have HX6 := Lh (HX5.out.set_ (r1 := ⟨(k0 : Int), (id0 : Int), 0, [], cell0, cell0, 0⟩) 1 (.int .i64 (id0 : Int)) rfl HX5.out.cells)
 have HI6 := Lh (HI5.out.far (p := ⟨b, 1, none⟩) hIb (.int .i64 (id0 : Int)))
 have HR6 := Lh (HR5.out.far (p := ⟨b, 1, none⟩) hRb (.int .i64 (id0 : Int)))
 go_wp2_with fail
 (with_reducible refine (in_get HX6.out (by omega)).mono ?_)
 rintro e w6 ⟨rfl, fv6, v6, hx⟩
 have HX7 := Lh (show RqIs W0 q b A1 n c1 xs (readD xs).1 (readD xs).2 fv6 v6 w6 from by
  have e : readD xs = ((⟨(k0 : Int), (id0 : Int), ((numP xs M40 s2).1 : Int), [(cellP xs (numP xs M40 s2).2).1], cell0, cell0, 0⟩ : Rq), (cellP xs (numP xs M40 s2).2).2) := by
   unfold readD bodyD
   rw [HKD.out]
   dsimp only
   rw [HID.out]
   have hk := HKN.out
   first | (subst hk; simp; done) | (rcases hk with rfl | rfl <;> simp; done)
  rw [e]
  exact hx)
 clear hx hcb hfb HX6 HX5 HI5 HR5 HI6 HR6 HIM5 HJM5
 have HDEC := Lh (show decRq xs = if (checkD (checkRq (readD xs).1) (endP xs (readD xs).2)).fault.isSome then (rq0, (checkD (checkRq (readD xs).1) (endP xs (readD xs).2)).fault) else ((readD xs).1, none) by
  unfold decRq
  rw [if_neg (by rw [HKD.out]; have := HKN.out; omega)])
 have HOK := Lh (readD_ok xs)
 generalize readD xs = y at *
 obtain ⟨r', s3⟩ := y
 dsimp only at HX7 HDEC HOK
 have HI7 := Lh (HI0.out.tur HX7.out.tur (by omega))
 have HR7 := Lh (HR0.out.tur HX7.out.tur (by omega))
 have HB7 := Lh (HB0.out.trans (HX7.out.tur.below (by have := HB0.out.size; omega) (fun k e => by omega)))
 have hci := HI7.out.cell
 go_wp2_with fail
 go_at_call 75; (with_reducible refine (rd_end HX7.out.rd).mono ?_); rintro e w7 ⟨rfl, fv7, hr, hf⟩
 have HX8 := Lh (HX7.out.read (by omega) hr hf)
 have HI8 := Lh (HI0.out.tur HX8.out.tur (by omega))
 have HR8 := Lh (HR0.out.tur HX8.out.tur (by omega))
 have HB8 := Lh (HB0.out.trans (HX8.out.tur.below (by have := HB0.out.size; omega) (fun k e => by omega)))
 clear hr hf HX7 HI7 HR7 HB7 hci
 have hci := HI8.out.cell
 go_wp2_with fail
 go_at_call 74; (with_reducible refine (rd_err HX8.out.rd).mono ?_); rintro e w8 ⟨hb8, he⟩
 have HX9 := Lh (HX8.out.kept hb8)
 have HI9 := Lh (HI8.out.kept hb8)
 have HR9 := Lh (HR8.out.kept hb8)
 have HB9 := Lh (HB8.out.trans (hb8.mono HB8.out.size))
 clear hb8 HX8 HI8 HR8 HB8 hci
 have hci := HI9.out.cell
 rcases hfl : (endP xs s3).fault with _ | ⟨code, pl⟩
 ·rw [hfl] at he
  obtain rfl := he
  go_wp2_with fail
  obtain ⟨As, cz, rfl, hrd, hba⟩ := HX9.out.cells.rd
  have HCR := Lh hrd
  have HLE := Lh (CellsOwn.le HX9.out.cells)
  clear hrd hba hci
  (refine wp_region_held_drew (S := fun w9 => Blk w9 bI 146 #[.pointer (some ⟨q, 0, none⟩)] ∧ Blk w9 b 43 (rqC (.slice As r'.cs.length cz) r')) (by kernel_rfl) ⟨HI9.out.drew, HX9.out.blk.drew⟩ (fun hHeld => ?_))
  (refine tq 0 46 ?_)
  (try simp only [Act.put, z1, z2, z3])
  (refine tr (v := ?v148) 1 47 ?h148 ?_)
  case h148 => (intro w9 hSw; have hc9 := Blk.cell hSw.1; clear hSw; first | (go_simp; done) | (go_simp; with_reducible rfl))
  (try simp only [Act.put, z1, z2, z3])
  (refine tr (v := ?v149) 2 48 ?h149 ?_)
  case h149 => (intro w9 hSw; have hc9 := Blk.cell hSw.2; clear hSw; first | (go_simp; done) | (go_simp; with_reducible rfl))
  (try simp only [Act.put, z1, z2, z3])
  (refine wpAnyH_ready (rs := [3]) (by kernel_rfl) (by simp) ?_)
  (refine AllReadyH.cons (o := _) rfl (fun K hK => ?_) AllReadyH.nil)
  go_simp
  go_simp
  (with_reducible refine (check_rq As r'.cs.length cz r' _ rfl (HCR.out.below (Below.refl _ _).drew) HLE.out HOK.out).mono ?_)
  rintro e w9 ⟨rfl, hb9⟩
  have HX10 := Lh ((HX9.out.kept (Below.refl _ _).drew).kept hb9)
  have HI10 := Lh (HI9.out.drew.kept hb9)
  clear hb9
  go_simp
  (refine hK.out _ _ ⟨HI10.out, HX10.out.blk⟩ (fun hHeld => ?_))
  clear hK K
  (try simp only [Act.put, z1, z2, z3])
  (refine wpAnyH_ready (rs := [4]) (by kernel_rfl) (by simp) ?_)
  (refine AllReadyH.cons (o := _) rfl (fun K hK => ?_) AllReadyH.nil)
  go_simp
  go_simp
  (with_reducible refine (rd_fail HX10.out.rd (checkRq r') 0).mono ?_)
  rintro e wA ⟨rfl, fvA, hr, hf⟩
  have HX11 := Lh (HX10.out.read (by omega) hr hf)
  have HI11 := Lh (HI0.out.tur HX11.out.tur (by omega))
  have HR11 := Lh (HR0.out.tur HX11.out.tur (by omega))
  have HB11 := Lh (HB0.out.trans (HX11.out.tur.below (by have := HB0.out.size; omega) (fun k e => by omega)))
  clear hr hf
  go_simp
  (refine hK.out _ _ ⟨HI11.out, HX11.out.blk⟩ (fun hHeld => ?_))
  clear hK K
  (refine wpAnyH_done (by kernel_rfl) ?_ _)
  have HCD := Lh (show checkD (checkRq r') (endP xs s3) = (endP xs s3).fail (checkRq r') 0 by unfold checkD; simp [hfl])
  have hci := HI11.out.cell
  go_wp2_with fail
  go_at_call 74; (with_reducible refine (rd_err HX11.out.rd).mono ?_); rintro e wB ⟨hbB, he⟩
  have HX12 := Lh (HX11.out.kept hbB)
  have HR12 := Lh (HR11.out.kept hbB)
  have HB12 := Lh (HB11.out.trans (hbB.mono HB11.out.size))
  have hcR := HR12.out.cell
  have hfR := HR12.out.frozen
  clear hbB hci
  rcases hf2 : ((endP xs s3).fail (checkRq r') 0).fault with _ | ⟨code, pl⟩
  ·rw [hf2] at he
   obtain rfl := he
   have HD := Lh (show decRq xs = (r', none) by rw [HDEC.out, HCD.out]; simp [hf2])
   have hcb := HX12.out.blk.cell
   obtain ⟨wC, HW, HS⟩ := set11e HR12.out (.int .i64 r'.kind) (.int .i64 r'.id) (.int .i64 r'.epoch) (.slice As r'.cs.length cz) (.int .i64 r'.frm.view) (.string r'.frm.key) (.int .i64 r'.frm.start) (.int .i64 r'.too.view) (.string r'.too.key) (.int .i64 r'.too.start) (.int .i64 r'.limit)
   go_wp2
   rw [HW.out]
   have hc7 := HS.out.1.cell
   exact bodyPost_ret (v := .tuple #[.agg (rqC (.slice As r'.cs.length cz) r'), .nilIface]) (by simp [results, Tryz.results53, go_sem, hc7]) rfl
    ⟨HB12.out.trans (HS.out.2.below HB12.out.size (fun k e => by omega)), by rw [HD.out]; exact ⟨_, rfl, HX12.out.cells_low HS.out.2 (by omega)⟩⟩
  ·rw [hf2] at he
   obtain ⟨g, rfl, hg⟩ := he
   have HG := Lh hg
   have HD := Lh (show decRq xs = (rq0, some (code, pl)) by rw [HDEC.out, HCD.out]; simp [hf2])
   clear hg
   obtain ⟨wC, HW, HS⟩ := set11e HR12.out (.int .i64 0) (.int .i64 0) (.int .i64 0) (.slice none 0 0) (.int .i64 0) (.string ⟨#[]⟩) (.int .i64 0) (.int .i64 0) (.string ⟨#[]⟩) (.int .i64 0) (.int .i64 0)
   go_wp2
   rw [HW.out]
   have hc7 := HS.out.1.cell
   exact bodyPost_ret (v := .tuple #[.agg (rqC nilS rq0), errV g]) (by simp [results, Tryz.results53, go_sem, hc7, rq0, cell0]) rfl
    ⟨HB12.out.trans (HS.out.2.below HB12.out.size (fun k e => by omega)), by rw [HD.out]; exact ⟨g, rfl, HG.out.tur HS.out.2 (fun e => by subst e; exact absurd rfl (HR12.out.ne_ HG.out (by decide)))⟩⟩
 ·rw [hfl] at he
  obtain ⟨g0, rfl, _⟩ := he
  go_wp2_with fail
  go_at_call 74; (with_reducible refine (rd_err HX9.out.rd).mono ?_); rintro e w9 ⟨hb9, he⟩
  rw [hfl] at he
  obtain ⟨g, rfl, hg⟩ := he
  have HG := Lh hg
  have HR10 := Lh (HR9.out.kept hb9)
  have HB10 := Lh (HB9.out.trans (hb9.mono HB9.out.size))
  have HD := Lh (show decRq xs = (rq0, some (code, pl)) by rw [HDEC.out]; unfold checkD; simp [hfl])
  have hcR := HR10.out.cell
  have hfR := HR10.out.frozen
  clear hb9 hg hci
  obtain ⟨w10, HW, HS⟩ := set11e HR10.out (.int .i64 0) (.int .i64 0) (.int .i64 0) (.slice none 0 0) (.int .i64 0) (.string ⟨#[]⟩) (.int .i64 0) (.int .i64 0) (.string ⟨#[]⟩) (.int .i64 0) (.int .i64 0)
  go_wp2
  rw [HW.out]
  have hc7 := HS.out.1.cell
  exact bodyPost_ret (v := .tuple #[.agg (rqC nilS rq0), errV g]) (by simp [results, Tryz.results53, go_sem, hc7, rq0, cell0]) rfl
   ⟨HB10.out.trans (HS.out.2.below HB10.out.size (fun k e => by omega)), by rw [HD.out]; exact ⟨g, rfl, HG.out.tur HS.out.2 (fun e => by subst e; exact absurd rfl (HR10.out.ne_ HG.out (by decide)))⟩⟩
theorem decode_rq_many (A : Option Addr) (n c : Nat) (xs : List Int) (hk : (kindD xs).1 = 2) (W : World) (hl : xs.length = n) (h : CellsAt W A (bvs xs)) (hw : ∀ x ∈ xs, (Lit.int .u8 x).wf = true) (hn : n ≤ 211106232532992) (hT : W.cell? ⟨0, 0, none⟩ = some tyErr) :
  Calls Tryz.prog 53 #[.slice A n c] W (DecQ W (decRq xs)) := by
 have HR0 := Lh (Blk.new W 43 #[.int .i64 0, .int .i64 0, .int .i64 0, .slice none 0 0, .int .i64 0, .string ⟨#[]⟩, .int .i64 0, .int .i64 0, .string ⟨#[]⟩, .int .i64 0, .int .i64 0])
 have CR := Lh (rd_read A n c xs (W.alloc (.cells #[.int .i64 0, .int .i64 0, .int .i64 0, .slice none 0 0, .int .i64 0, .string ⟨#[]⟩, .int .i64 0, .int .i64 0, .string ⟨#[]⟩, .int .i64 0, .int .i64 0] 43)) hl (h.below ((Below.refl _ _).alloc (Nat.le_refl _) _)) hw hn (((Below.refl W.heap.size W).alloc (Nat.le_refl _) _).cell (World.block_lt_of_cell? W _ hT) ▸ hT))
 have HTL := Lh (World.block_lt_of_cell? W _ hT)
 have HKN := Lh hk
 clear h hw hn hT hk
 go_enter Tryz.func53, Tryz.ntmps53
 go_wp2_with fail
 go_at_call 70; (with_reducible refine CR.out.mono ?_); rintro e w1 ⟨q, A1, c1, rfl, hq, hr, hA1, hb⟩
 have HB1 := Lh (((Below.refl W.heap.size W).alloc (Nat.le_refl _) (.cells #[.int .i64 0, .int .i64 0, .int .i64 0, .slice none 0 0, .int .i64 0, .string ⟨#[]⟩, .int .i64 0, .int .i64 0, .string ⟨#[]⟩, .int .i64 0, .int .i64 0] 43)).trans (hb.mono (by simp)))
 have HR1 := Lh (HR0.out.kept hb)
 have HD1 := Lh hr
 have HA1 := Lh hA1
 have hqR : W.heap.size < q := by have : (W.alloc (.cells #[.int .i64 0, .int .i64 0, .int .i64 0, .slice none 0 0, .int .i64 0, .string ⟨#[]⟩, .int .i64 0, .int .i64 0, .string ⟨#[]⟩, .int .i64 0, .int .i64 0] 43)).heap.size = W.heap.size + 1 := by simp
                                  omega
 have HI2 := Lh (Blk.new w1 146 #[.pointer (some ⟨q, 0, none⟩)])
 have hci := HI2.out.cell
 clear hb hr hA1 HR0 CR
 go_wp2_with fail
 go_at_call 71; (with_reducible refine (in_num (HD1.out.alloc (.cells #[.pointer (some ⟨q, 0, none⟩)] 146))).mono ?_); rintro e w3 ⟨rfl, fv3, hr, hf⟩
 have hIq : w1.heap.size ≠ q := by have := HD1.out.blk.lt; omega
 have HI3 := Lh (hf.blk HI2.out hIq)
 have HR3 := Lh (hf.blk (HR1.out.alloc (.cells #[.pointer (some ⟨q, 0, none⟩)] 146)) (by omega))
 have HB3 := Lh (HB1.out.trans (((RdFr.alloc0 w1 q .nilIface (.cells #[.pointer (some ⟨q, 0, none⟩)] 146)).trans hf).1.below HB1.out.size (fun k e => by omega)))
 have hs3 : w1.heap.size < w3.heap.size := HI3.out.lt
 have HD3 := Lh hr
 have hRI : W.heap.size ≤ w1.heap.size := HB1.out.size
 have HA3 := Lh (show ∀ ad, A1 = some ad → ad.block < w1.heap.size from fun ad e => (HA1.out ad e).2)
 have hq1 : q < w1.heap.size := HD1.out.blk.lt
 have hTR := HTL.out
 have HKD := Lh (show kindD xs = numP xs M40 ⟨0, none⟩ from rfl)
 clear hr hf HI2 HR1 HD1 HA1 HB1 hci hq
 generalize numP xs M40 ⟨0, none⟩ = y at *
 obtain ⟨k0, s1⟩ := y
 dsimp only at HD3 ⊢
 rw [HKD.out] at HKN
 generalize hI : w1.heap.size = bI at *
 have hci := HI3.out.cell
 go_wp2_with fail
 have HK0 := Lh (Blk.new w3 43 #[.int .i64 (k0 : Int), .int .i64 0, .int .i64 0, .slice none 0 0, .int .i64 0, .string ⟨#[]⟩, .int .i64 0, .int .i64 0, .string ⟨#[]⟩, .int .i64 0, .int .i64 0])
 have HI0 := Lh (HI3.out.alloc (.cells #[.int .i64 (k0 : Int), .int .i64 0, .int .i64 0, .slice none 0 0, .int .i64 0, .string ⟨#[]⟩, .int .i64 0, .int .i64 0, .string ⟨#[]⟩, .int .i64 0, .int .i64 0] 43))
 have HR0 := Lh (HR3.out.alloc (.cells #[.int .i64 (k0 : Int), .int .i64 0, .int .i64 0, .slice none 0 0, .int .i64 0, .string ⟨#[]⟩, .int .i64 0, .int .i64 0, .string ⟨#[]⟩, .int .i64 0, .int .i64 0] 43))
 have HB0 := Lh (HB3.out.alloc (by omega) (.cells #[.int .i64 (k0 : Int), .int .i64 0, .int .i64 0, .slice none 0 0, .int .i64 0, .string ⟨#[]⟩, .int .i64 0, .int .i64 0, .string ⟨#[]⟩, .int .i64 0, .int .i64 0] 43))
 have HX0 := Lh (RqIs.start (r := ⟨(k0 : Int), 0, 0, [], cell0, cell0, 0⟩) HK0.out rfl (HD3.out.alloc (.cells #[.int .i64 (k0 : Int), .int .i64 0, .int .i64 0, .slice none 0 0, .int .i64 0, .string ⟨#[]⟩, .int .i64 0, .int .i64 0, .string ⟨#[]⟩, .int .i64 0, .int .i64 0] 43)) (by omega) (fun ad e => by have := HA3.out ad e; simp; omega) (by omega))
 have hs0 : (w3.alloc (.cells #[.int .i64 (k0 : Int), .int .i64 0, .int .i64 0, .slice none 0 0, .int .i64 0, .string ⟨#[]⟩, .int .i64 0, .int .i64 0, .string ⟨#[]⟩, .int .i64 0, .int .i64 0] 43)).heap.size = w3.heap.size + 1 := by simp
 generalize hb : w3.heap.size = b at *
 generalize w3.alloc (.cells #[.int .i64 (k0 : Int), .int .i64 0, .int .i64 0, .slice none 0 0, .int .i64 0, .string ⟨#[]⟩, .int .i64 0, .int .i64 0, .string ⟨#[]⟩, .int .i64 0, .int .i64 0] 43) = W0 at *
 clear HR3 HB3 HI3 HD3 hci hb
 (refine wp_region_held_drew (S := fun w9 => Blk w9 bI 146 #[.pointer (some ⟨q, 0, none⟩)] ∧ Blk w9 b 43 #[.int .i64 (k0 : Int), .int .i64 0, .int .i64 0, .slice none 0 0, .int .i64 0, .string ⟨#[]⟩, .int .i64 0, .int .i64 0, .string ⟨#[]⟩, .int .i64 0, .int .i64 0]) (by kernel_rfl) ⟨HI0.out.drew, HX0.out.blk.drew⟩ (fun hHeld => ?_))
 (refine tr (v := ?v150) 0 16 ?h150 ?_)
 case h150 => (intro w9 hSw; have hc9 := Blk.cell hSw.1; clear hSw; first | (go_simp; done) | (go_simp; with_reducible rfl))
 (try simp only [Act.put, z1, z2, z3])
 (refine tq 1 17 ?_)
 (try simp only [Act.put, z1, z2, z3])
 (refine tq 2 18 ?_)
 (try simp only [Act.put, z1, z2, z3])
 (refine tq 4 20 ?_)
 (try simp only [Act.put, z1, z2, z3])
 (refine tr (v := ?v154) 5 21 ?h154 ?_)
 case h154 => (intro w9 hSw; have hc9 := Blk.cell hSw.2; clear hSw; first | (go_simp; done) | (go_simp; with_reducible rfl))
 (try simp only [Act.put, z1, z2, z3])
 (refine wpAnyH_ready (rs := [3]) (by kernel_rfl) (by simp) ?_)
 (refine AllReadyH.cons (o := _) rfl (fun K hK => ?_) AllReadyH.nil)
 go_simp
 go_simp
 (with_reducible refine (in_readers q n _).mono ?_)
 rintro e w4 ⟨rfl, hm, hi4, hj4, hb4⟩
 have HM := Lh (show MapIs w4 (b + 1 + 2) (rmap q (b + 1) (b + 1 + 1)) by rw [← hs0]; exact hm)
 have HX4 := Lh ((HX0.out.kept (Below.refl _ _).drew).kept hb4)
 have HI4 := Lh (HI0.out.drew.kept hb4)
 have HR4 := Lh (HR0.out.drew.kept hb4)
 have HB4 := Lh (HB0.out.drew.trans (hb4.mono (by have := HB0.out.size; simpa using this)))
 have HIM := Lh (show Blk w4 (b + 1) 146 #[.pointer (some ⟨q, 0, none⟩)] by rw [← hs0]; exact hi4)
 have HJM := Lh (show Blk w4 (b + 1 + 1) 3 #[.int .i64 (n : Int)] by rw [← hs0]; exact hj4)
 clear hm hi4 hj4 hb4
 go_simp
 (refine hK.out _ _ ⟨HI4.out, HX4.out.blk⟩ (fun hHeld => ?_))
 clear hK K
 have hlk := HM.out.look Tryz.underlying149 Tryz.underlying3 (k0 : Int) (.func (.func 110) #[] #[.pointer (some ⟨b + 1, 0, none⟩), .pointer (some ⟨b + 1 + 1, 0, none⟩)]) (by have hk := HKN.out; first | (subst hk; rfl) | (rcases hk with rfl | rfl <;> rfl)) true
 (refine wpAnyH_ready (rs := [6]) (by kernel_rfl) (by simp) ?_)
 (refine AllReadyH.cons (o := _) rfl (fun K hK => ?_) AllReadyH.nil)
 go_simp
 (refine hK.out _ _ ⟨HI4.out, HX4.out.blk⟩ (fun hHeld => ?_))
 clear hK K
 (refine tq 7 15 ?_)
 (try simp only [Act.put, z1, z2, z3])
 (refine tq 8 23 ?_)
 (try simp only [Act.put, z1, z2, z3])
 (refine tq 9 24 ?_)
 (try simp only [Act.put, z1, z2, z3])
 (refine tq 10 6 ?_)
 (try simp only [Act.put, z1, z2, z3])
 (refine tq 11 7 ?_)
 (try simp only [Act.put, z1, z2, z3])
 (refine wpAnyH_done (by kernel_rfl) ?_ _)
 have hci := HI4.out.cell
 have hRq : W.heap.size ≠ q := by omega
 have hRb : W.heap.size ≠ b := by omega
 have hIb : bI ≠ b := by omega
 clear hlk
 go_wp2_with fail
 go_at_call 71; (with_reducible refine (in_num HX4.out.rd).mono ?_); rintro e w5 ⟨rfl, fv5, hr, hf⟩
 have HX5 := Lh (HX4.out.read (by omega) hr hf)
 have HI5 := Lh (hf.blk HI4.out hIq)
 have HR5 := Lh (hf.blk HR4.out hRq)
 have HIM5 := Lh (hf.blk HIM.out (by omega))
 have HJM5 := Lh (hf.blk HJM.out (by omega))
 have HB5 := Lh (HB4.out.trans (hf.1.below HB4.out.size (fun k e => by omega)))
 clear hr hf hci HX4 HI4 HR4 HIM HJM HB4
 have HID := Lh (show numP xs M40 s1 = numP xs M40 s1 from rfl)
 generalize hid : numP xs M40 s1 = y at *
 clear HID
 have HID := Lh hid
 clear hid
 obtain ⟨id0, s2⟩ := y
 dsimp only at HX5 ⊢
 have hcb := HX5.out.blk.cell
 have hfb := HX5.out.blk.frozen
 have HX6 := Lh (HX5.out.set_ (r1 := ⟨(k0 : Int), (id0 : Int), 0, [], cell0, cell0, 0⟩) 1 (.int .i64 (id0 : Int)) rfl HX5.out.cells)
 have HI6 := Lh (HI5.out.far (p := ⟨b, 1, none⟩) hIb (.int .i64 (id0 : Int)))
 have HR6 := Lh (HR5.out.far (p := ⟨b, 1, none⟩) hRb (.int .i64 (id0 : Int)))
 go_wp2_with fail
 (with_reducible refine (in_many (i := b + 1) (j := b + 1 + 1) HX6.out (by omega) (by omega) rfl (HIM5.out.far (p := ⟨b, 1, none⟩) (by simp) _) (HJM5.out.far (p := ⟨b, 1, none⟩) (by simp; omega) _)).mono ?_)
 rintro e w6 ⟨rfl, fv6, v6, hx⟩
 have HX7 := Lh (show RqIs W0 q b A1 n c1 xs (readD xs).1 (readD xs).2 fv6 v6 w6 from by
  have e : readD xs = ((⟨(k0 : Int), (id0 : Int), ((numP xs M40 s2).1 : Int), (cellsP xs (countP xs 16 (numP xs M40 s2).2).1 ([], (countP xs 16 (numP xs M40 s2).2).2)).1, cell0, cell0, 0⟩ : Rq), (cellsP xs (countP xs 16 (numP xs M40 s2).2).1 ([], (countP xs 16 (numP xs M40 s2).2).2)).2) := by
   unfold readD bodyD
   rw [HKD.out]
   dsimp only
   rw [HID.out]
   have hk := HKN.out
   first | (subst hk; simp; done) | (rcases hk with rfl | rfl <;> simp; done)
  rw [e]
  exact hx)
 clear hx hcb hfb HX6 HX5 HI5 HR5 HI6 HR6 HIM5 HJM5
 have HDEC := Lh (show decRq xs = if (checkD (checkRq (readD xs).1) (endP xs (readD xs).2)).fault.isSome then (rq0, (checkD (checkRq (readD xs).1) (endP xs (readD xs).2)).fault) else ((readD xs).1, none) by
  unfold decRq
  rw [if_neg (by rw [HKD.out]; have := HKN.out; omega)])
 have HOK := Lh (readD_ok xs)
 generalize readD xs = y at *
 obtain ⟨r', s3⟩ := y
 dsimp only at HX7 HDEC HOK
 have HI7 := Lh (HI0.out.tur HX7.out.tur (by omega))
 have HR7 := Lh (HR0.out.tur HX7.out.tur (by omega))
 have HB7 := Lh (HB0.out.trans (HX7.out.tur.below (by have := HB0.out.size; omega) (fun k e => by omega)))
 have hci := HI7.out.cell
 go_wp2_with fail
 go_at_call 75; (with_reducible refine (rd_end HX7.out.rd).mono ?_); rintro e w7 ⟨rfl, fv7, hr, hf⟩
 have HX8 := Lh (HX7.out.read (by omega) hr hf)
 have HI8 := Lh (HI0.out.tur HX8.out.tur (by omega))
 have HR8 := Lh (HR0.out.tur HX8.out.tur (by omega))
 have HB8 := Lh (HB0.out.trans (HX8.out.tur.below (by have := HB0.out.size; omega) (fun k e => by omega)))
 clear hr hf HX7 HI7 HR7 HB7 hci
 have hci := HI8.out.cell
 go_wp2_with fail
 go_at_call 74; (with_reducible refine (rd_err HX8.out.rd).mono ?_); rintro e w8 ⟨hb8, he⟩
 have HX9 := Lh (HX8.out.kept hb8)
 have HI9 := Lh (HI8.out.kept hb8)
 have HR9 := Lh (HR8.out.kept hb8)
 have HB9 := Lh (HB8.out.trans (hb8.mono HB8.out.size))
 clear hb8 HX8 HI8 HR8 HB8 hci
 have hci := HI9.out.cell
 rcases hfl : (endP xs s3).fault with _ | ⟨code, pl⟩
 ·rw [hfl] at he
  obtain rfl := he
  go_wp2_with fail
  obtain ⟨As, cz, rfl, hrd, hba⟩ := HX9.out.cells.rd
  have HCR := Lh hrd
  have HLE := Lh (CellsOwn.le HX9.out.cells)
  clear hrd hba hci
  (refine wp_region_held_drew (S := fun w9 => Blk w9 bI 146 #[.pointer (some ⟨q, 0, none⟩)] ∧ Blk w9 b 43 (rqC (.slice As r'.cs.length cz) r')) (by kernel_rfl) ⟨HI9.out.drew, HX9.out.blk.drew⟩ (fun hHeld => ?_))
  (refine tq 0 46 ?_)
  (try simp only [Act.put, z1, z2, z3])
  (refine tr (v := ?v161) 1 47 ?h161 ?_)
  case h161 => (intro w9 hSw; have hc9 := Blk.cell hSw.1; clear hSw; first | (go_simp; done) | (go_simp; with_reducible rfl))
  (try simp only [Act.put, z1, z2, z3])
  (refine tr (v := ?v162) 2 48 ?h162 ?_)
  case h162 => (intro w9 hSw; have hc9 := Blk.cell hSw.2; clear hSw; first | (go_simp; done) | (go_simp; with_reducible rfl))
  (try simp only [Act.put, z1, z2, z3])
  (refine wpAnyH_ready (rs := [3]) (by kernel_rfl) (by simp) ?_)
  (refine AllReadyH.cons (o := _) rfl (fun K hK => ?_) AllReadyH.nil)
  go_simp
  go_simp
  (with_reducible refine (check_rq As r'.cs.length cz r' _ rfl (HCR.out.below (Below.refl _ _).drew) HLE.out HOK.out).mono ?_)
  rintro e w9 ⟨rfl, hb9⟩
  have HX10 := Lh ((HX9.out.kept (Below.refl _ _).drew).kept hb9)
  have HI10 := Lh (HI9.out.drew.kept hb9)
  clear hb9
  go_simp
  (refine hK.out _ _ ⟨HI10.out, HX10.out.blk⟩ (fun hHeld => ?_))
  clear hK K
  (try simp only [Act.put, z1, z2, z3])
  (refine wpAnyH_ready (rs := [4]) (by kernel_rfl) (by simp) ?_)
  (refine AllReadyH.cons (o := _) rfl (fun K hK => ?_) AllReadyH.nil)
  go_simp
  go_simp
  (with_reducible refine (rd_fail HX10.out.rd (checkRq r') 0).mono ?_)
  rintro e wA ⟨rfl, fvA, hr, hf⟩
  have HX11 := Lh (HX10.out.read (by omega) hr hf)
  have HI11 := Lh (HI0.out.tur HX11.out.tur (by omega))
  have HR11 := Lh (HR0.out.tur HX11.out.tur (by omega))
  have HB11 := Lh (HB0.out.trans (HX11.out.tur.below (by have := HB0.out.size; omega) (fun k e => by omega)))
  clear hr hf
  go_simp
  (refine hK.out _ _ ⟨HI11.out, HX11.out.blk⟩ (fun hHeld => ?_))
  clear hK K
  (refine wpAnyH_done (by kernel_rfl) ?_ _)
  have HCD := Lh (show checkD (checkRq r') (endP xs s3) = (endP xs s3).fail (checkRq r') 0 by unfold checkD; simp [hfl])
  have hci := HI11.out.cell
  go_wp2_with fail
  go_at_call 74; (with_reducible refine (rd_err HX11.out.rd).mono ?_); rintro e wB ⟨hbB, he⟩
  have HX12 := Lh (HX11.out.kept hbB)
  have HR12 := Lh (HR11.out.kept hbB)
  have HB12 := Lh (HB11.out.trans (hbB.mono HB11.out.size))
  have hcR := HR12.out.cell
  have hfR := HR12.out.frozen
  clear hbB hci
  rcases hf2 : ((endP xs s3).fail (checkRq r') 0).fault with _ | ⟨code, pl⟩
  ·rw [hf2] at he
   obtain rfl := he
   have HD := Lh (show decRq xs = (r', none) by rw [HDEC.out, HCD.out]; simp [hf2])
   have hcb := HX12.out.blk.cell
   obtain ⟨wC, HW, HS⟩ := set11e HR12.out (.int .i64 r'.kind) (.int .i64 r'.id) (.int .i64 r'.epoch) (.slice As r'.cs.length cz) (.int .i64 r'.frm.view) (.string r'.frm.key) (.int .i64 r'.frm.start) (.int .i64 r'.too.view) (.string r'.too.key) (.int .i64 r'.too.start) (.int .i64 r'.limit)
   go_wp2
   rw [HW.out]
   have hc7 := HS.out.1.cell
   exact bodyPost_ret (v := .tuple #[.agg (rqC (.slice As r'.cs.length cz) r'), .nilIface]) (by simp [results, Tryz.results53, go_sem, hc7]) rfl
    ⟨HB12.out.trans (HS.out.2.below HB12.out.size (fun k e => by omega)), by rw [HD.out]; exact ⟨_, rfl, HX12.out.cells_low HS.out.2 (by omega)⟩⟩
  ·rw [hf2] at he
   obtain ⟨g, rfl, hg⟩ := he
   have HG := Lh hg
   have HD := Lh (show decRq xs = (rq0, some (code, pl)) by rw [HDEC.out, HCD.out]; simp [hf2])
   clear hg
   obtain ⟨wC, HW, HS⟩ := set11e HR12.out (.int .i64 0) (.int .i64 0) (.int .i64 0) (.slice none 0 0) (.int .i64 0) (.string ⟨#[]⟩) (.int .i64 0) (.int .i64 0) (.string ⟨#[]⟩) (.int .i64 0) (.int .i64 0)
   go_wp2
   rw [HW.out]
   have hc7 := HS.out.1.cell
   exact bodyPost_ret (v := .tuple #[.agg (rqC nilS rq0), errV g]) (by simp [results, Tryz.results53, go_sem, hc7, rq0, cell0]) rfl
    ⟨HB12.out.trans (HS.out.2.below HB12.out.size (fun k e => by omega)), by rw [HD.out]; exact ⟨g, rfl, HG.out.tur HS.out.2 (fun e => by subst e; exact absurd rfl (HR12.out.ne_ HG.out (by decide)))⟩⟩
 ·rw [hfl] at he
  obtain ⟨g0, rfl, _⟩ := he
  go_wp2_with fail
  go_at_call 74; (with_reducible refine (rd_err HX9.out.rd).mono ?_); rintro e w9 ⟨hb9, he⟩
  rw [hfl] at he
  obtain ⟨g, rfl, hg⟩ := he
  have HG := Lh hg
  have HR10 := Lh (HR9.out.kept hb9)
  have HB10 := Lh (HB9.out.trans (hb9.mono HB9.out.size))
  have HD := Lh (show decRq xs = (rq0, some (code, pl)) by rw [HDEC.out]; unfold checkD; simp [hfl])
  have hcR := HR10.out.cell
  have hfR := HR10.out.frozen
  clear hb9 hg hci
  obtain ⟨w10, HW, HS⟩ := set11e HR10.out (.int .i64 0) (.int .i64 0) (.int .i64 0) (.slice none 0 0) (.int .i64 0) (.string ⟨#[]⟩) (.int .i64 0) (.int .i64 0) (.string ⟨#[]⟩) (.int .i64 0) (.int .i64 0)
  go_wp2
  rw [HW.out]
  have hc7 := HS.out.1.cell
  exact bodyPost_ret (v := .tuple #[.agg (rqC nilS rq0), errV g]) (by simp [results, Tryz.results53, go_sem, hc7, rq0, cell0]) rfl
   ⟨HB10.out.trans (HS.out.2.below HB10.out.size (fun k e => by omega)), by rw [HD.out]; exact ⟨g, rfl, HG.out.tur HS.out.2 (fun e => by subst e; exact absurd rfl (HR10.out.ne_ HG.out (by decide)))⟩⟩
theorem decode_rq_scan (A : Option Addr) (n c : Nat) (xs : List Int) (hk : (kindD xs).1 = 3) (W : World) (hl : xs.length = n) (h : CellsAt W A (bvs xs)) (hw : ∀ x ∈ xs, (Lit.int .u8 x).wf = true) (hn : n ≤ 211106232532992) (hT : W.cell? ⟨0, 0, none⟩ = some tyErr) :
  Calls Tryz.prog 53 #[.slice A n c] W (DecQ W (decRq xs)) := by
 have HR0 := Lh (Blk.new W 43 #[.int .i64 0, .int .i64 0, .int .i64 0, .slice none 0 0, .int .i64 0, .string ⟨#[]⟩, .int .i64 0, .int .i64 0, .string ⟨#[]⟩, .int .i64 0, .int .i64 0])
 have CR := Lh (rd_read A n c xs (W.alloc (.cells #[.int .i64 0, .int .i64 0, .int .i64 0, .slice none 0 0, .int .i64 0, .string ⟨#[]⟩, .int .i64 0, .int .i64 0, .string ⟨#[]⟩, .int .i64 0, .int .i64 0] 43)) hl (h.below ((Below.refl _ _).alloc (Nat.le_refl _) _)) hw hn (((Below.refl W.heap.size W).alloc (Nat.le_refl _) _).cell (World.block_lt_of_cell? W _ hT) ▸ hT))
 have HTL := Lh (World.block_lt_of_cell? W _ hT)
 have HKN := Lh hk
 clear h hw hn hT hk
 go_enter Tryz.func53, Tryz.ntmps53
 go_wp2_with fail
 go_at_call 70; (with_reducible refine CR.out.mono ?_); rintro e w1 ⟨q, A1, c1, rfl, hq, hr, hA1, hb⟩
 have HB1 := Lh (((Below.refl W.heap.size W).alloc (Nat.le_refl _) (.cells #[.int .i64 0, .int .i64 0, .int .i64 0, .slice none 0 0, .int .i64 0, .string ⟨#[]⟩, .int .i64 0, .int .i64 0, .string ⟨#[]⟩, .int .i64 0, .int .i64 0] 43)).trans (hb.mono (by simp)))
 have HR1 := Lh (HR0.out.kept hb)
 have HD1 := Lh hr
 have HA1 := Lh hA1
 have hqR : W.heap.size < q := by have : (W.alloc (.cells #[.int .i64 0, .int .i64 0, .int .i64 0, .slice none 0 0, .int .i64 0, .string ⟨#[]⟩, .int .i64 0, .int .i64 0, .string ⟨#[]⟩, .int .i64 0, .int .i64 0] 43)).heap.size = W.heap.size + 1 := by simp
                                  omega
 have HI2 := Lh (Blk.new w1 146 #[.pointer (some ⟨q, 0, none⟩)])
 have hci := HI2.out.cell
 clear hb hr hA1 HR0 CR
 go_wp2_with fail
 go_at_call 71; (with_reducible refine (in_num (HD1.out.alloc (.cells #[.pointer (some ⟨q, 0, none⟩)] 146))).mono ?_); rintro e w3 ⟨rfl, fv3, hr, hf⟩
 have hIq : w1.heap.size ≠ q := by have := HD1.out.blk.lt; omega
 have HI3 := Lh (hf.blk HI2.out hIq)
 have HR3 := Lh (hf.blk (HR1.out.alloc (.cells #[.pointer (some ⟨q, 0, none⟩)] 146)) (by omega))
 have HB3 := Lh (HB1.out.trans (((RdFr.alloc0 w1 q .nilIface (.cells #[.pointer (some ⟨q, 0, none⟩)] 146)).trans hf).1.below HB1.out.size (fun k e => by omega)))
 have hs3 : w1.heap.size < w3.heap.size := HI3.out.lt
 have HD3 := Lh hr
 have hRI : W.heap.size ≤ w1.heap.size := HB1.out.size
 have HA3 := Lh (show ∀ ad, A1 = some ad → ad.block < w1.heap.size from fun ad e => (HA1.out ad e).2)
 have hq1 : q < w1.heap.size := HD1.out.blk.lt
 have hTR := HTL.out
 have HKD := Lh (show kindD xs = numP xs M40 ⟨0, none⟩ from rfl)
 clear hr hf HI2 HR1 HD1 HA1 HB1 hci hq
 generalize numP xs M40 ⟨0, none⟩ = y at *
 obtain ⟨k0, s1⟩ := y
 dsimp only at HD3 ⊢
 rw [HKD.out] at HKN
 generalize hI : w1.heap.size = bI at *
 have hci := HI3.out.cell
 go_wp2_with fail
 have HK0 := Lh (Blk.new w3 43 #[.int .i64 (k0 : Int), .int .i64 0, .int .i64 0, .slice none 0 0, .int .i64 0, .string ⟨#[]⟩, .int .i64 0, .int .i64 0, .string ⟨#[]⟩, .int .i64 0, .int .i64 0])
 have HI0 := Lh (HI3.out.alloc (.cells #[.int .i64 (k0 : Int), .int .i64 0, .int .i64 0, .slice none 0 0, .int .i64 0, .string ⟨#[]⟩, .int .i64 0, .int .i64 0, .string ⟨#[]⟩, .int .i64 0, .int .i64 0] 43))
 have HR0 := Lh (HR3.out.alloc (.cells #[.int .i64 (k0 : Int), .int .i64 0, .int .i64 0, .slice none 0 0, .int .i64 0, .string ⟨#[]⟩, .int .i64 0, .int .i64 0, .string ⟨#[]⟩, .int .i64 0, .int .i64 0] 43))
 have HB0 := Lh (HB3.out.alloc (by omega) (.cells #[.int .i64 (k0 : Int), .int .i64 0, .int .i64 0, .slice none 0 0, .int .i64 0, .string ⟨#[]⟩, .int .i64 0, .int .i64 0, .string ⟨#[]⟩, .int .i64 0, .int .i64 0] 43))
 have HX0 := Lh (RqIs.start (r := ⟨(k0 : Int), 0, 0, [], cell0, cell0, 0⟩) HK0.out rfl (HD3.out.alloc (.cells #[.int .i64 (k0 : Int), .int .i64 0, .int .i64 0, .slice none 0 0, .int .i64 0, .string ⟨#[]⟩, .int .i64 0, .int .i64 0, .string ⟨#[]⟩, .int .i64 0, .int .i64 0] 43)) (by omega) (fun ad e => by have := HA3.out ad e; simp; omega) (by omega))
 have hs0 : (w3.alloc (.cells #[.int .i64 (k0 : Int), .int .i64 0, .int .i64 0, .slice none 0 0, .int .i64 0, .string ⟨#[]⟩, .int .i64 0, .int .i64 0, .string ⟨#[]⟩, .int .i64 0, .int .i64 0] 43)).heap.size = w3.heap.size + 1 := by simp
 generalize hb : w3.heap.size = b at *
 generalize w3.alloc (.cells #[.int .i64 (k0 : Int), .int .i64 0, .int .i64 0, .slice none 0 0, .int .i64 0, .string ⟨#[]⟩, .int .i64 0, .int .i64 0, .string ⟨#[]⟩, .int .i64 0, .int .i64 0] 43) = W0 at *
 clear HR3 HB3 HI3 HD3 hci hb
 (refine wp_region_held_drew (S := fun w9 => Blk w9 bI 146 #[.pointer (some ⟨q, 0, none⟩)] ∧ Blk w9 b 43 #[.int .i64 (k0 : Int), .int .i64 0, .int .i64 0, .slice none 0 0, .int .i64 0, .string ⟨#[]⟩, .int .i64 0, .int .i64 0, .string ⟨#[]⟩, .int .i64 0, .int .i64 0]) (by kernel_rfl) ⟨HI0.out.drew, HX0.out.blk.drew⟩ (fun hHeld => ?_))
 (refine tr (v := ?v163) 0 16 ?h163 ?_)
 case h163 => (intro w9 hSw; have hc9 := Blk.cell hSw.1; clear hSw; first | (go_simp; done) | (go_simp; with_reducible rfl))
 (try simp only [Act.put, z1, z2, z3])
 (refine tq 1 17 ?_)
 (try simp only [Act.put, z1, z2, z3])
 (refine tq 2 18 ?_)
 (try simp only [Act.put, z1, z2, z3])
 (refine tq 4 20 ?_)
 (try simp only [Act.put, z1, z2, z3])
 (refine tr (v := ?v167) 5 21 ?h167 ?_)
 case h167 => (intro w9 hSw; have hc9 := Blk.cell hSw.2; clear hSw; first | (go_simp; done) | (go_simp; with_reducible rfl))
 (try simp only [Act.put, z1, z2, z3])
 (refine wpAnyH_ready (rs := [3]) (by kernel_rfl) (by simp) ?_)
 (refine AllReadyH.cons (o := _) rfl (fun K hK => ?_) AllReadyH.nil)
 go_simp
 go_simp
 (with_reducible refine (in_readers q n _).mono ?_)
 rintro e w4 ⟨rfl, hm, hi4, hj4, hb4⟩
 have HM := Lh (show MapIs w4 (b + 1 + 2) (rmap q (b + 1) (b + 1 + 1)) by rw [← hs0]; exact hm)
 have HX4 := Lh ((HX0.out.kept (Below.refl _ _).drew).kept hb4)
 have HI4 := Lh (HI0.out.drew.kept hb4)
 have HR4 := Lh (HR0.out.drew.kept hb4)
 have HB4 := Lh (HB0.out.drew.trans (hb4.mono (by have := HB0.out.size; simpa using this)))
 have HIM := Lh (show Blk w4 (b + 1) 146 #[.pointer (some ⟨q, 0, none⟩)] by rw [← hs0]; exact hi4)
 have HJM := Lh (show Blk w4 (b + 1 + 1) 3 #[.int .i64 (n : Int)] by rw [← hs0]; exact hj4)
 clear hm hi4 hj4 hb4
 go_simp
 (refine hK.out _ _ ⟨HI4.out, HX4.out.blk⟩ (fun hHeld => ?_))
 clear hK K
 have hlk := HM.out.look Tryz.underlying149 Tryz.underlying3 (k0 : Int) (.func (.func 113) #[inV q] #[]) (by have hk := HKN.out; first | (subst hk; rfl) | (rcases hk with rfl | rfl <;> rfl)) true
 (refine wpAnyH_ready (rs := [6]) (by kernel_rfl) (by simp) ?_)
 (refine AllReadyH.cons (o := _) rfl (fun K hK => ?_) AllReadyH.nil)
 go_simp
 (refine hK.out _ _ ⟨HI4.out, HX4.out.blk⟩ (fun hHeld => ?_))
 clear hK K
 (refine tq 7 15 ?_)
 (try simp only [Act.put, z1, z2, z3])
 (refine tq 8 23 ?_)
 (try simp only [Act.put, z1, z2, z3])
 (refine tq 9 24 ?_)
 (try simp only [Act.put, z1, z2, z3])
 (refine tq 10 6 ?_)
 (try simp only [Act.put, z1, z2, z3])
 (refine tq 11 7 ?_)
 (try simp only [Act.put, z1, z2, z3])
 (refine wpAnyH_done (by kernel_rfl) ?_ _)
 have hci := HI4.out.cell
 have hRq : W.heap.size ≠ q := by omega
 have hRb : W.heap.size ≠ b := by omega
 have hIb : bI ≠ b := by omega
 clear hlk
 go_wp2_with fail
 go_at_call 71; (with_reducible refine (in_num HX4.out.rd).mono ?_); rintro e w5 ⟨rfl, fv5, hr, hf⟩
 have HX5 := Lh (HX4.out.read (by omega) hr hf)
 have HI5 := Lh (hf.blk HI4.out hIq)
 have HR5 := Lh (hf.blk HR4.out hRq)
 have HIM5 := Lh (hf.blk HIM.out (by omega))
 have HJM5 := Lh (hf.blk HJM.out (by omega))
 have HB5 := Lh (HB4.out.trans (hf.1.below HB4.out.size (fun k e => by omega)))
 clear hr hf hci HX4 HI4 HR4 HIM HJM HB4
 have HID := Lh (show numP xs M40 s1 = numP xs M40 s1 from rfl)
 generalize hid : numP xs M40 s1 = y at *
 clear HID
 have HID := Lh hid
 clear hid
 obtain ⟨id0, s2⟩ := y
 dsimp only at HX5 ⊢
 have hcb := HX5.out.blk.cell
 have hfb := HX5.out.blk.frozen
 have HX6 := Lh (HX5.out.set_ (r1 := ⟨(k0 : Int), (id0 : Int), 0, [], cell0, cell0, 0⟩) 1 (.int .i64 (id0 : Int)) rfl HX5.out.cells)
 have HI6 := Lh (HI5.out.far (p := ⟨b, 1, none⟩) hIb (.int .i64 (id0 : Int)))
 have HR6 := Lh (HR5.out.far (p := ⟨b, 1, none⟩) hRb (.int .i64 (id0 : Int)))
 go_wp2_with fail
 (with_reducible refine (in_scan HX6.out (by omega)).mono ?_)
 rintro e w6 ⟨rfl, fv6, v6, hx⟩
 have HX7 := Lh (show RqIs W0 q b A1 n c1 xs (readD xs).1 (readD xs).2 fv6 v6 w6 from by
  have e : readD xs = ((⟨(k0 : Int), (id0 : Int), ((numP xs M40 s2).1 : Int), [], (cellP xs (numP xs M40 s2).2).1, (cellP xs (cellP xs (numP xs M40 s2).2).2).1, ((numP xs M40 (cellP xs (cellP xs (numP xs M40 s2).2).2).2).1 : Int)⟩ : Rq), (numP xs M40 (cellP xs (cellP xs (numP xs M40 s2).2).2).2).2) := by
   unfold readD bodyD
   rw [HKD.out]
   dsimp only
   rw [HID.out]
   have hk := HKN.out
   first | (subst hk; simp; done) | (rcases hk with rfl | rfl <;> simp; done)
  rw [e]
  exact hx)
 clear hx hcb hfb HX6 HX5 HI5 HR5 HI6 HR6 HIM5 HJM5
 have HDEC := Lh (show decRq xs = if (checkD (checkRq (readD xs).1) (endP xs (readD xs).2)).fault.isSome then (rq0, (checkD (checkRq (readD xs).1) (endP xs (readD xs).2)).fault) else ((readD xs).1, none) by
  unfold decRq
  rw [if_neg (by rw [HKD.out]; have := HKN.out; omega)])
 have HOK := Lh (readD_ok xs)
 generalize readD xs = y at *
 obtain ⟨r', s3⟩ := y
 dsimp only at HX7 HDEC HOK
 have HI7 := Lh (HI0.out.tur HX7.out.tur (by omega))
 have HR7 := Lh (HR0.out.tur HX7.out.tur (by omega))
 have HB7 := Lh (HB0.out.trans (HX7.out.tur.below (by have := HB0.out.size; omega) (fun k e => by omega)))
 have hci := HI7.out.cell
 go_wp2_with fail
 go_at_call 75; (with_reducible refine (rd_end HX7.out.rd).mono ?_); rintro e w7 ⟨rfl, fv7, hr, hf⟩
 have HX8 := Lh (HX7.out.read (by omega) hr hf)
 have HI8 := Lh (HI0.out.tur HX8.out.tur (by omega))
 have HR8 := Lh (HR0.out.tur HX8.out.tur (by omega))
 have HB8 := Lh (HB0.out.trans (HX8.out.tur.below (by have := HB0.out.size; omega) (fun k e => by omega)))
 clear hr hf HX7 HI7 HR7 HB7 hci
 have hci := HI8.out.cell
 go_wp2_with fail
 go_at_call 74; (with_reducible refine (rd_err HX8.out.rd).mono ?_); rintro e w8 ⟨hb8, he⟩
 have HX9 := Lh (HX8.out.kept hb8)
 have HI9 := Lh (HI8.out.kept hb8)
 have HR9 := Lh (HR8.out.kept hb8)
 have HB9 := Lh (HB8.out.trans (hb8.mono HB8.out.size))
 clear hb8 HX8 HI8 HR8 HB8 hci
 have hci := HI9.out.cell
 rcases hfl : (endP xs s3).fault with _ | ⟨code, pl⟩
 ·rw [hfl] at he
  obtain rfl := he
  go_wp2_with fail
  obtain ⟨As, cz, rfl, hrd, hba⟩ := HX9.out.cells.rd
  have HCR := Lh hrd
  have HLE := Lh (CellsOwn.le HX9.out.cells)
  clear hrd hba hci
  (refine wp_region_held_drew (S := fun w9 => Blk w9 bI 146 #[.pointer (some ⟨q, 0, none⟩)] ∧ Blk w9 b 43 (rqC (.slice As r'.cs.length cz) r')) (by kernel_rfl) ⟨HI9.out.drew, HX9.out.blk.drew⟩ (fun hHeld => ?_))
  (refine tq 0 46 ?_)
  (try simp only [Act.put, z1, z2, z3])
  (refine tr (v := ?v174) 1 47 ?h174 ?_)
  case h174 => (intro w9 hSw; have hc9 := Blk.cell hSw.1; clear hSw; first | (go_simp; done) | (go_simp; with_reducible rfl))
  (try simp only [Act.put, z1, z2, z3])
  (refine tr (v := ?v175) 2 48 ?h175 ?_)
  case h175 => (intro w9 hSw; have hc9 := Blk.cell hSw.2; clear hSw; first | (go_simp; done) | (go_simp; with_reducible rfl))
  (try simp only [Act.put, z1, z2, z3])
  (refine wpAnyH_ready (rs := [3]) (by kernel_rfl) (by simp) ?_)
  (refine AllReadyH.cons (o := _) rfl (fun K hK => ?_) AllReadyH.nil)
  go_simp
  go_simp
  (with_reducible refine (check_rq As r'.cs.length cz r' _ rfl (HCR.out.below (Below.refl _ _).drew) HLE.out HOK.out).mono ?_)
  rintro e w9 ⟨rfl, hb9⟩
  have HX10 := Lh ((HX9.out.kept (Below.refl _ _).drew).kept hb9)
  have HI10 := Lh (HI9.out.drew.kept hb9)
  clear hb9
  go_simp
  (refine hK.out _ _ ⟨HI10.out, HX10.out.blk⟩ (fun hHeld => ?_))
  clear hK K
  (try simp only [Act.put, z1, z2, z3])
  (refine wpAnyH_ready (rs := [4]) (by kernel_rfl) (by simp) ?_)
  (refine AllReadyH.cons (o := _) rfl (fun K hK => ?_) AllReadyH.nil)
  go_simp
  go_simp
  (with_reducible refine (rd_fail HX10.out.rd (checkRq r') 0).mono ?_)
  rintro e wA ⟨rfl, fvA, hr, hf⟩
  have HX11 := Lh (HX10.out.read (by omega) hr hf)
  have HI11 := Lh (HI0.out.tur HX11.out.tur (by omega))
  have HR11 := Lh (HR0.out.tur HX11.out.tur (by omega))
  have HB11 := Lh (HB0.out.trans (HX11.out.tur.below (by have := HB0.out.size; omega) (fun k e => by omega)))
  clear hr hf
  go_simp
  (refine hK.out _ _ ⟨HI11.out, HX11.out.blk⟩ (fun hHeld => ?_))
  clear hK K
  (refine wpAnyH_done (by kernel_rfl) ?_ _)
  have HCD := Lh (show checkD (checkRq r') (endP xs s3) = (endP xs s3).fail (checkRq r') 0 by unfold checkD; simp [hfl])
  have hci := HI11.out.cell
  go_wp2_with fail
  go_at_call 74; (with_reducible refine (rd_err HX11.out.rd).mono ?_); rintro e wB ⟨hbB, he⟩
  have HX12 := Lh (HX11.out.kept hbB)
  have HR12 := Lh (HR11.out.kept hbB)
  have HB12 := Lh (HB11.out.trans (hbB.mono HB11.out.size))
  have hcR := HR12.out.cell
  have hfR := HR12.out.frozen
  clear hbB hci
  rcases hf2 : ((endP xs s3).fail (checkRq r') 0).fault with _ | ⟨code, pl⟩
  ·rw [hf2] at he
   obtain rfl := he
   have HD := Lh (show decRq xs = (r', none) by rw [HDEC.out, HCD.out]; simp [hf2])
   have hcb := HX12.out.blk.cell
   obtain ⟨wC, HW, HS⟩ := set11e HR12.out (.int .i64 r'.kind) (.int .i64 r'.id) (.int .i64 r'.epoch) (.slice As r'.cs.length cz) (.int .i64 r'.frm.view) (.string r'.frm.key) (.int .i64 r'.frm.start) (.int .i64 r'.too.view) (.string r'.too.key) (.int .i64 r'.too.start) (.int .i64 r'.limit)
   go_wp2
   rw [HW.out]
   have hc7 := HS.out.1.cell
   exact bodyPost_ret (v := .tuple #[.agg (rqC (.slice As r'.cs.length cz) r'), .nilIface]) (by simp [results, Tryz.results53, go_sem, hc7]) rfl
    ⟨HB12.out.trans (HS.out.2.below HB12.out.size (fun k e => by omega)), by rw [HD.out]; exact ⟨_, rfl, HX12.out.cells_low HS.out.2 (by omega)⟩⟩
  ·rw [hf2] at he
   obtain ⟨g, rfl, hg⟩ := he
   have HG := Lh hg
   have HD := Lh (show decRq xs = (rq0, some (code, pl)) by rw [HDEC.out, HCD.out]; simp [hf2])
   clear hg
   obtain ⟨wC, HW, HS⟩ := set11e HR12.out (.int .i64 0) (.int .i64 0) (.int .i64 0) (.slice none 0 0) (.int .i64 0) (.string ⟨#[]⟩) (.int .i64 0) (.int .i64 0) (.string ⟨#[]⟩) (.int .i64 0) (.int .i64 0)
   go_wp2
   rw [HW.out]
   have hc7 := HS.out.1.cell
   exact bodyPost_ret (v := .tuple #[.agg (rqC nilS rq0), errV g]) (by simp [results, Tryz.results53, go_sem, hc7, rq0, cell0]) rfl
    ⟨HB12.out.trans (HS.out.2.below HB12.out.size (fun k e => by omega)), by rw [HD.out]; exact ⟨g, rfl, HG.out.tur HS.out.2 (fun e => by subst e; exact absurd rfl (HR12.out.ne_ HG.out (by decide)))⟩⟩
 ·rw [hfl] at he
  obtain ⟨g0, rfl, _⟩ := he
  go_wp2_with fail
  go_at_call 74; (with_reducible refine (rd_err HX9.out.rd).mono ?_); rintro e w9 ⟨hb9, he⟩
  rw [hfl] at he
  obtain ⟨g, rfl, hg⟩ := he
  have HG := Lh hg
  have HR10 := Lh (HR9.out.kept hb9)
  have HB10 := Lh (HB9.out.trans (hb9.mono HB9.out.size))
  have HD := Lh (show decRq xs = (rq0, some (code, pl)) by rw [HDEC.out]; unfold checkD; simp [hfl])
  have hcR := HR10.out.cell
  have hfR := HR10.out.frozen
  clear hb9 hg hci
  obtain ⟨w10, HW, HS⟩ := set11e HR10.out (.int .i64 0) (.int .i64 0) (.int .i64 0) (.slice none 0 0) (.int .i64 0) (.string ⟨#[]⟩) (.int .i64 0) (.int .i64 0) (.string ⟨#[]⟩) (.int .i64 0) (.int .i64 0)
  go_wp2
  rw [HW.out]
  have hc7 := HS.out.1.cell
  exact bodyPost_ret (v := .tuple #[.agg (rqC nilS rq0), errV g]) (by simp [results, Tryz.results53, go_sem, hc7, rq0, cell0]) rfl
   ⟨HB10.out.trans (HS.out.2.below HB10.out.size (fun k e => by omega)), by rw [HD.out]; exact ⟨g, rfl, HG.out.tur HS.out.2 (fun e => by subst e; exact absurd rfl (HR10.out.ne_ HG.out (by decide)))⟩⟩
theorem decode_rq (A : Option Addr) (n c : Nat) (xs : List Int) (W : World) (hl : xs.length = n) (h : CellsAt W A (bvs xs)) (hw : ∀ x ∈ xs, (Lit.int .u8 x).wf = true) (hn : n ≤ 211106232532992) (hT : W.cell? ⟨0, 0, none⟩ = some tyErr) :
  Calls Tryz.prog 53 #[.slice A n c] W (DecQ W (decRq xs)) := by
 obtain k | k | k | k | k | k : ((kindD xs).1 < 1 ∨ 7 < (kindD xs).1) ∨ (kindD xs).1 = 1 ∨ (kindD xs).1 = 2 ∨ (kindD xs).1 = 3 ∨ ((kindD xs).1 = 4 ∨ (kindD xs).1 = 7) ∨ ((kindD xs).1 = 5 ∨ (kindD xs).1 = 6) := by omega
 ·exact decode_rq_none A n c xs k W hl h hw hn hT
 ·exact decode_rq_get A n c xs k W hl h hw hn hT
 ·exact decode_rq_many A n c xs k W hl h hw hn hT
 ·exact decode_rq_scan A n c xs k W hl h hw hn hT
 ·exact decode_rq_bare A n c xs k W hl h hw hn hT
 ·exact decode_rq_epoch A n c xs k W hl h hw hn hT
end Go.Proofs.YtglbdbghcdoicaaGreatDoor
