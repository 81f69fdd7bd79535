/- DecodeRequest by the kinds. -/
import Derived.Test.YteffpfgdoganpaaDoorCDecQm
namespace Go.Proofs.YteffpfgdoganpaaDoor
open Go.RowKit
theorem big_of {n : Nat} (h : n ≤ 32) : n ≤ 9223372036854775807 := by omega
theorem bodyD_ok (xs : List Int) (r : Rq) (s : RS) (hc : ∀ x ∈ r.cs, x.key.size ≤ 32) (hf : r.frm.key.size ≤ 32) (ht : r.too.key.size ≤ 32) : RqOk (bodyD xs r s).1 := by
  unfold bodyD
  by_cases h1 : r.kind = 1
  · rw [if_pos h1]
    exact ⟨fun x hx => big_of (by rw [List.mem_singleton.1 hx]; exact cellP_key _ _), big_of hf, big_of ht⟩
  · rw [if_neg h1]
    by_cases h2 : r.kind = 2
    · rw [if_pos h2]
      exact ⟨fun x hx => big_of (cellsP_key _ _ (fun y hy => absurd hy (List.not_mem_nil)) _ x hx), big_of hf, big_of ht⟩
    · rw [if_neg h2]
      by_cases h3 : r.kind = 3
      · rw [if_pos h3]
        exact ⟨fun x hx => big_of (hc x hx), big_of (cellP_key _ _), big_of (cellP_key _ _)⟩
      · rw [if_neg h3]
        by_cases h5 : r.kind = 5 ∨ r.kind = 6
        · rw [if_pos h5]
          exact ⟨fun x hx => big_of (hc x hx), big_of hf, big_of ht⟩
        · rw [if_neg h5]
          exact ⟨fun x hx => big_of (hc x hx), big_of hf, big_of ht⟩
theorem readD_ok (xs : List Int) : RqOk (readD xs).1 :=
  bodyD_ok xs _ _ (fun x hx => absurd hx (List.not_mem_nil)) (show cell0.key.size ≤ 32 by decide) (show cell0.key.size ≤ 32 by decide)
theorem CellsOwn.le {W : World} {base : Nat} {A : Option Addr} {n c : Nat} {cs : List CellV} (h : CellsOwn W base (.slice A n c) cs) : cs.length ≤ 9223372036854775807 := by
  rcases h.2 with ⟨_, h0⟩ | ⟨g, cap, cur, e, _, _, h1, h2, _⟩
  · omega
  · unfold maxLen at h2; omega
theorem RqIs.cells_low {W0 W W1 : World} {q b n c : Nat} {A : Option Addr} {xs : List Int} {r : Rq} {s : RS} {fv v : Value} {j B : Nat} (h : RqIs W0 q b A n c xs r s fv v W) (ht : Tur (· = j) W W1) (hj : j < W0.heap.size ∧ B ≤ W0.heap.size) : CellsOwn W1 B v r.cs := by
  have h1 := h.cells.tur ht (fun k e => by subst e; exact hj.1)
  refine ⟨h1.1, ?_⟩
  rcases h1.2 with h2 | ⟨g, cap, cur, e, hb, r⟩
  · exact .inl h2
  · exact .inr ⟨g, cap, cur, e, by omega, r⟩
set_option maxHeartbeats 8000000 in
set_option maxRecDepth 100000 in
theorem decode_rq_epoch (A : Option Addr) (n c : Nat) (xs : List Int) (hk : (kindD xs).1 = 5 ∨ (kindD xs).1 = 6) (W : World) (hl : xs.length = n) (h : CellsAt W A (bvs xs)) (hw : ∀ x ∈ xs, (Lit.int .u8 x).wf = true) (hn : n ≤ 211106232532992) (hT : W.cell? ⟨0, 0, none⟩ = some tyErr) :
    Calls Tryd.prog 27 #[.slice A n c] W (DecQ W (decRq xs)) := by
  have HR0 := Lib.hid (Blk.new W 26 #[.int .i64 0, .int .i64 0, .int .i64 0, .slice none 0 0, .int .i64 0, .string ⟨#[]⟩, .int .i64 0, .int .i64 0, .string ⟨#[]⟩, .int .i64 0, .int .i64 0])
  have CR := Lib.hid (rd_read A n c xs (W.alloc (.cells #[.int .i64 0, .int .i64 0, .int .i64 0, .slice none 0 0, .int .i64 0, .string ⟨#[]⟩, .int .i64 0, .int .i64 0, .string ⟨#[]⟩, .int .i64 0, .int .i64 0] 26)) hl (h.below ((Below.refl _ _).alloc (Nat.le_refl _) _)) hw hn (((Below.refl W.heap.size W).alloc (Nat.le_refl _) _).cell (World.block_lt_of_cell? W _ hT) ▸ hT))
  have HTL := Lib.hid (World.block_lt_of_cell? W _ hT)
  have HKN := Lib.hid hk
  clear h hw hn hT hk
  go_enter Tryd.func27, Tryd.ntmps27
  go_wp2_with fail
  go_at_call 57; (with_reducible refine CR.out.mono ?_); rintro e w1 ⟨q, A1, c1, rfl, hq, hr, hA1, hb⟩
  have HB1 := Lib.hid (((Below.refl W.heap.size W).alloc (Nat.le_refl _) (.cells #[.int .i64 0, .int .i64 0, .int .i64 0, .slice none 0 0, .int .i64 0, .string ⟨#[]⟩, .int .i64 0, .int .i64 0, .string ⟨#[]⟩, .int .i64 0, .int .i64 0] 26)).trans (hb.mono (by simp)))
  have HR1 := Lib.hid (HR0.out.kept hb)
  have HD1 := Lib.hid hr
  have HA1 := Lib.hid hA1
  have hqR : W.heap.size < q := by have : (W.alloc (.cells #[.int .i64 0, .int .i64 0, .int .i64 0, .slice none 0 0, .int .i64 0, .string ⟨#[]⟩, .int .i64 0, .int .i64 0, .string ⟨#[]⟩, .int .i64 0, .int .i64 0] 26)).heap.size = W.heap.size + 1 := by simp
                                   omega
  have HI2 := Lib.hid (Blk.new w1 116 #[.pointer (some ⟨q, 0, none⟩)])
  have hci := HI2.out.cell
  clear hb hr hA1 HR0 CR
  go_wp2_with fail
  go_at_call 58; (with_reducible refine (in_num (HD1.out.alloc (.cells #[.pointer (some ⟨q, 0, none⟩)] 116))).mono ?_); rintro e w3 ⟨rfl, fv3, hr, hf⟩
  have hIq : w1.heap.size ≠ q := by have := HD1.out.blk.lt; omega
  have HI3 := Lib.hid (hf.blk HI2.out hIq)
  have HR3 := Lib.hid (hf.blk (HR1.out.alloc (.cells #[.pointer (some ⟨q, 0, none⟩)] 116)) (by omega))
  have HB3 := Lib.hid (HB1.out.trans (((RdFr.alloc0 w1 q .nilIface (.cells #[.pointer (some ⟨q, 0, none⟩)] 116)).trans hf).1.below HB1.out.size (fun k e => by omega)))
  have hs3 : w1.heap.size < w3.heap.size := HI3.out.lt
  have HD3 := Lib.hid hr
  have hRI : W.heap.size ≤ w1.heap.size := HB1.out.size
  have HA3 := Lib.hid (show ∀ ad, A1 = some ad → ad.block < w1.heap.size from fun ad e => (HA1.out ad e).2)
  have hq1 : q < w1.heap.size := HD1.out.blk.lt
  have hTR := HTL.out
  have HKD := Lib.hid (show kindD xs = numP xs M40 ⟨0, none⟩ from rfl)
  clear hr hf HI2 HR1 HD1 HA1 HB1 hci hq
  generalize numP xs M40 ⟨0, none⟩ = y at *
  obtain ⟨k0, s1⟩ := y
  dsimp only at HD3 ⊢
  rw [HKD.out] at HKN
  generalize hI : w1.heap.size = bI at *
  have hci := HI3.out.cell
  go_wp2_with fail
  have HK0 := Lib.hid (Blk.new w3 26 #[.int .i64 (k0 : Int), .int .i64 0, .int .i64 0, .slice none 0 0, .int .i64 0, .string ⟨#[]⟩, .int .i64 0, .int .i64 0, .string ⟨#[]⟩, .int .i64 0, .int .i64 0])
  have HI0 := Lib.hid (HI3.out.alloc (.cells #[.int .i64 (k0 : Int), .int .i64 0, .int .i64 0, .slice none 0 0, .int .i64 0, .string ⟨#[]⟩, .int .i64 0, .int .i64 0, .string ⟨#[]⟩, .int .i64 0, .int .i64 0] 26))
  have HR0 := Lib.hid (HR3.out.alloc (.cells #[.int .i64 (k0 : Int), .int .i64 0, .int .i64 0, .slice none 0 0, .int .i64 0, .string ⟨#[]⟩, .int .i64 0, .int .i64 0, .string ⟨#[]⟩, .int .i64 0, .int .i64 0] 26))
  have HB0 := Lib.hid (HB3.out.alloc (by omega) (.cells #[.int .i64 (k0 : Int), .int .i64 0, .int .i64 0, .slice none 0 0, .int .i64 0, .string ⟨#[]⟩, .int .i64 0, .int .i64 0, .string ⟨#[]⟩, .int .i64 0, .int .i64 0] 26))
  have HX0 := Lib.hid (RqIs.start (r := ⟨(k0 : Int), 0, 0, [], cell0, cell0, 0⟩) HK0.out rfl (HD3.out.alloc (.cells #[.int .i64 (k0 : Int), .int .i64 0, .int .i64 0, .slice none 0 0, .int .i64 0, .string ⟨#[]⟩, .int .i64 0, .int .i64 0, .string ⟨#[]⟩, .int .i64 0, .int .i64 0] 26)) (by omega) (fun ad e => by have := HA3.out ad e; simp; omega) (by omega))
  have hs0 : (w3.alloc (.cells #[.int .i64 (k0 : Int), .int .i64 0, .int .i64 0, .slice none 0 0, .int .i64 0, .string ⟨#[]⟩, .int .i64 0, .int .i64 0, .string ⟨#[]⟩, .int .i64 0, .int .i64 0] 26)).heap.size = w3.heap.size + 1 := by simp
  generalize hb : w3.heap.size = b at *
  generalize w3.alloc (.cells #[.int .i64 (k0 : Int), .int .i64 0, .int .i64 0, .slice none 0 0, .int .i64 0, .string ⟨#[]⟩, .int .i64 0, .int .i64 0, .string ⟨#[]⟩, .int .i64 0, .int .i64 0] 26) = W0 at *
  clear HR3 HB3 HI3 HD3 hci hb
  (refine wp_region_held_drew (S := fun w9 => Blk w9 bI 116 #[.pointer (some ⟨q, 0, none⟩)] ∧ Blk w9 b 26 #[.int .i64 (k0 : Int), .int .i64 0, .int .i64 0, .slice none 0 0, .int .i64 0, .string ⟨#[]⟩, .int .i64 0, .int .i64 0, .string ⟨#[]⟩, .int .i64 0, .int .i64 0]) (by kernel_rfl) ⟨HI0.out.drew, HX0.out.blk.drew⟩ (fun hHeld => ?_))
  (refine take_q (i := 0) (d := 16) (v := ?v111) rfl rfl (by kernel_rfl) (by kernel_rfl) (by kernel_rfl) (fun _ _ _ h => h) (by kernel_rfl) ?hy111 (by assumption) ?rest111)
  case hy111 => (intro w9 hSw; have hc9 := Blk.cell hSw.1; clear hSw; first | (go_simp; done) | (go_simp; with_reducible rfl))
  (try simp only [Act.put, List.setIfInBounds_toArray, List.set_cons_zero, List.set_cons_succ])
  (refine take_q (i := 1) (d := 17) (v := ?v112) rfl rfl (by kernel_rfl) (by kernel_rfl) (by kernel_rfl) (fun _ _ _ h => h) (by kernel_rfl) ?hy112 (by assumption) ?rest112)
  case hy112 => (intro w9 hSw; first | (go_simp; done) | (go_simp; with_reducible rfl))
  (try simp only [Act.put, List.setIfInBounds_toArray, List.set_cons_zero, List.set_cons_succ])
  (refine take_q (i := 2) (d := 18) (v := ?v113) rfl rfl (by kernel_rfl) (by kernel_rfl) (by kernel_rfl) (fun _ _ _ h => h) (by kernel_rfl) ?hy113 (by assumption) ?rest113)
  case hy113 => (intro w9 hSw; first | (go_simp; done) | (go_simp; with_reducible rfl))
  (try simp only [Act.put, List.setIfInBounds_toArray, List.set_cons_zero, List.set_cons_succ])
  (refine take_q (i := 4) (d := 20) (v := ?v114) rfl rfl (by kernel_rfl) (by kernel_rfl) (by kernel_rfl) (fun _ _ _ h => h) (by kernel_rfl) ?hy114 (by assumption) ?rest114)
  case hy114 => (intro w9 hSw; first | (go_simp; done) | (go_simp; with_reducible rfl))
  (try simp only [Act.put, List.setIfInBounds_toArray, List.set_cons_zero, List.set_cons_succ])
  (refine take_q (i := 5) (d := 21) (v := ?v115) rfl rfl (by kernel_rfl) (by kernel_rfl) (by kernel_rfl) (fun _ _ _ h => h) (by kernel_rfl) ?hy115 (by assumption) ?rest115)
  case hy115 => (intro w9 hSw; have hc9 := Blk.cell hSw.2; clear hSw; first | (go_simp; done) | (go_simp; with_reducible rfl))
  (try simp only [Act.put, List.setIfInBounds_toArray, List.set_cons_zero, List.set_cons_succ])
  (refine wpAnyH_ready (rs := [3]) (by kernel_rfl) (by simp) ?_)
  (refine AllReadyH.cons (o := _) rfl (fun K hK => ?_) AllReadyH.nil)
  go_simp
  go_simp
  (with_reducible refine (in_readers q n _).mono ?_)
  rintro e w4 ⟨rfl, hm, hi4, hj4, hb4⟩
  have HM := Lib.hid (show MapIs w4 (b + 1 + 2) (rmap q (b + 1) (b + 1 + 1)) by rw [← hs0]; exact hm)
  have HX4 := Lib.hid ((HX0.out.kept (Below.refl _ _).drew).kept hb4)
  have HI4 := Lib.hid (HI0.out.drew.kept hb4)
  have HR4 := Lib.hid (HR0.out.drew.kept hb4)
  have HB4 := Lib.hid (HB0.out.drew.trans (hb4.mono (by have := HB0.out.size; simpa using this)))
  have HIM := Lib.hid (show Blk w4 (b + 1) 116 #[.pointer (some ⟨q, 0, none⟩)] by rw [← hs0]; exact hi4)
  have HJM := Lib.hid (show Blk w4 (b + 1 + 1) 3 #[.int .i64 (n : Int)] by rw [← hs0]; exact hj4)
  clear hm hi4 hj4 hb4
  go_simp
  (refine hK.out _ _ ⟨HI4.out, HX4.out.blk⟩ (fun hHeld => ?_))
  clear hK K
  have hlk := HM.out.look Tryd.underlying120 Tryd.underlying3 (k0 : Int) (.func (.func 86) #[inV q] #[]) (by have hk := HKN.out; first | (subst hk; rfl) | (rcases hk with rfl | rfl <;> rfl)) true
  (refine wpAnyH_ready (rs := [6]) (by kernel_rfl) (by simp) ?_)
  (refine AllReadyH.cons (o := _) rfl (fun K hK => ?_) AllReadyH.nil)
  go_simp
  (refine hK.out _ _ ⟨HI4.out, HX4.out.blk⟩ (fun hHeld => ?_))
  clear hK K
  (refine take_q (i := 7) (d := 15) (v := ?v116) rfl rfl (by kernel_rfl) (by kernel_rfl) (by kernel_rfl) (fun _ _ _ h => h) (by kernel_rfl) ?hy116 (by assumption) ?rest116)
  case hy116 => (intro w9 hSw; first | (go_simp; done) | (go_simp; with_reducible rfl))
  (try simp only [Act.put, List.setIfInBounds_toArray, List.set_cons_zero, List.set_cons_succ])
  (refine take_q (i := 8) (d := 23) (v := ?v117) rfl rfl (by kernel_rfl) (by kernel_rfl) (by kernel_rfl) (fun _ _ _ h => h) (by kernel_rfl) ?hy117 (by assumption) ?rest117)
  case hy117 => (intro w9 hSw; first | (go_simp; done) | (go_simp; with_reducible rfl))
  (try simp only [Act.put, List.setIfInBounds_toArray, List.set_cons_zero, List.set_cons_succ])
  (refine take_q (i := 9) (d := 24) (v := ?v118) rfl rfl (by kernel_rfl) (by kernel_rfl) (by kernel_rfl) (fun _ _ _ h => h) (by kernel_rfl) ?hy118 (by assumption) ?rest118)
  case hy118 => (intro w9 hSw; first | (go_simp; done) | (go_simp; with_reducible rfl))
  (try simp only [Act.put, List.setIfInBounds_toArray, List.set_cons_zero, List.set_cons_succ])
  (refine take_q (i := 10) (d := 6) (v := ?v119) rfl rfl (by kernel_rfl) (by kernel_rfl) (by kernel_rfl) (fun _ _ _ h => h) (by kernel_rfl) ?hy119 (by assumption) ?rest119)
  case hy119 => (intro w9 hSw; first | (go_simp; done) | (go_simp; with_reducible rfl))
  (try simp only [Act.put, List.setIfInBounds_toArray, List.set_cons_zero, List.set_cons_succ])
  (refine take_q (i := 11) (d := 7) (v := ?v120) rfl rfl (by kernel_rfl) (by kernel_rfl) (by kernel_rfl) (fun _ _ _ h => h) (by kernel_rfl) ?hy120 (by assumption) ?rest120)
  case hy120 => (intro w9 hSw; first | (go_simp; done) | (go_simp; with_reducible rfl))
  (try simp only [Act.put, List.setIfInBounds_toArray, List.set_cons_zero, List.set_cons_succ])
  (refine wpAnyH_done (by kernel_rfl) ?_ _)
  have hci := HI4.out.cell
  have hRq : W.heap.size ≠ q := by omega
  have hRb : W.heap.size ≠ b := by omega
  have hIb : bI ≠ b := by omega
  clear hlk
  go_wp2_with fail
  go_at_call 58; (with_reducible refine (in_num HX4.out.rd).mono ?_); rintro e w5 ⟨rfl, fv5, hr, hf⟩
  have HX5 := Lib.hid (HX4.out.read (by omega) hr hf)
  have HI5 := Lib.hid (hf.blk HI4.out hIq)
  have HR5 := Lib.hid (hf.blk HR4.out hRq)
  have HIM5 := Lib.hid (hf.blk HIM.out (by omega))
  have HJM5 := Lib.hid (hf.blk HJM.out (by omega))
  have HB5 := Lib.hid (HB4.out.trans (hf.1.below HB4.out.size (fun k e => by omega)))
  clear hr hf hci HX4 HI4 HR4 HIM HJM HB4
  have HID := Lib.hid (show numP xs M40 s1 = numP xs M40 s1 from rfl)
  generalize hid : numP xs M40 s1 = y at *
  clear HID
  have HID := Lib.hid hid
  clear hid
  obtain ⟨id0, s2⟩ := y
  dsimp only at HX5 ⊢
  have hcb := HX5.out.blk.cell
  have hfb := HX5.out.blk.frozen
  have HX6 := Lib.hid (HX5.out.set_ (r1 := ⟨(k0 : Int), (id0 : Int), 0, [], cell0, cell0, 0⟩) 1 (.int .i64 (id0 : Int)) rfl HX5.out.cells)
  have HI6 := Lib.hid (HI5.out.far (p := ⟨b, 1, none⟩) hIb (.int .i64 (id0 : Int)))
  have HR6 := Lib.hid (HR5.out.far (p := ⟨b, 1, none⟩) hRb (.int .i64 (id0 : Int)))
  go_wp2_with fail
  (with_reducible refine (in_epoch HX6.out (by omega)).mono ?_)
  rintro e w6 ⟨rfl, fv6, v6, hx⟩
  have HX7 := Lib.hid (show RqIs W0 q b A1 n c1 xs (readD xs).1 (readD xs).2 fv6 v6 w6 from by
    have e : readD xs = ((⟨(k0 : Int), (id0 : Int), ((numP xs M40 s2).1 : Int), [], cell0, cell0, 0⟩ : Rq), (numP xs M40 s2).2) := by
      unfold readD bodyD
      rw [HKD.out]
      dsimp only
      rw [HID.out]
      have hk := HKN.out
      first | (subst hk; simp; done) | (rcases hk with rfl | rfl <;> simp; done)
    rw [e]
    exact hx)
  clear hx hcb hfb HX6 HX5 HI5 HR5 HI6 HR6 HIM5 HJM5
  have HDEC := Lib.hid (show decRq xs = if (checkD (checkRq (readD xs).1) (endP xs (readD xs).2)).fault.isSome then (rq0, (checkD (checkRq (readD xs).1) (endP xs (readD xs).2)).fault) else ((readD xs).1, none) by
    unfold decRq
    rw [if_neg (by rw [HKD.out]; have := HKN.out; omega)])
  have HOK := Lib.hid (readD_ok xs)
  generalize readD xs = y at *
  obtain ⟨r', s3⟩ := y
  dsimp only at HX7 HDEC HOK
  have HI7 := Lib.hid (HI0.out.tur HX7.out.tur (by omega))
  have HR7 := Lib.hid (HR0.out.tur HX7.out.tur (by omega))
  have HB7 := Lib.hid (HB0.out.trans (HX7.out.tur.below (by have := HB0.out.size; omega) (fun k e => by omega)))
  have hci := HI7.out.cell
  go_wp2_with fail
  go_at_call 62; (with_reducible refine (rd_end HX7.out.rd).mono ?_); rintro e w7 ⟨rfl, fv7, hr, hf⟩
  have HX8 := Lib.hid (HX7.out.read (by omega) hr hf)
  have HI8 := Lib.hid (HI0.out.tur HX8.out.tur (by omega))
  have HR8 := Lib.hid (HR0.out.tur HX8.out.tur (by omega))
  have HB8 := Lib.hid (HB0.out.trans (HX8.out.tur.below (by have := HB0.out.size; omega) (fun k e => by omega)))
  clear hr hf HX7 HI7 HR7 HB7 hci
  have hci := HI8.out.cell
  go_wp2_with fail
  go_at_call 61; (with_reducible refine (rd_err HX8.out.rd).mono ?_); rintro e w8 ⟨hb8, he⟩
  have HX9 := Lib.hid (HX8.out.kept hb8)
  have HI9 := Lib.hid (HI8.out.kept hb8)
  have HR9 := Lib.hid (HR8.out.kept hb8)
  have HB9 := Lib.hid (HB8.out.trans (hb8.mono HB8.out.size))
  clear hb8 HX8 HI8 HR8 HB8 hci
  have hci := HI9.out.cell
  rcases hfl : (endP xs s3).fault with _ | ⟨code, pl⟩
  · rw [hfl] at he
    obtain rfl := he
    go_wp2_with fail
    obtain ⟨As, cz, rfl, hrd, hba⟩ := HX9.out.cells.rd
    have HCR := Lib.hid hrd
    have HLE := Lib.hid (CellsOwn.le HX9.out.cells)
    clear hrd hba hci
    (refine wp_region_held_drew (S := fun w9 => Blk w9 bI 116 #[.pointer (some ⟨q, 0, none⟩)] ∧ Blk w9 b 26 (rqC (.slice As r'.cs.length cz) r')) (by kernel_rfl) ⟨HI9.out.drew, HX9.out.blk.drew⟩ (fun hHeld => ?_))
    (refine take_q (i := 0) (d := 46) (v := ?v121) rfl rfl (by kernel_rfl) (by kernel_rfl) (by kernel_rfl) (fun _ _ _ h => h) (by kernel_rfl) ?hy121 (by assumption) ?rest121)
    case hy121 => (intro w9 hSw; first | (go_simp; done) | (go_simp; with_reducible rfl))
    (try simp only [Act.put, List.setIfInBounds_toArray, List.set_cons_zero, List.set_cons_succ])
    (refine take_q (i := 1) (d := 47) (v := ?v122) rfl rfl (by kernel_rfl) (by kernel_rfl) (by kernel_rfl) (fun _ _ _ h => h) (by kernel_rfl) ?hy122 (by assumption) ?rest122)
    case hy122 => (intro w9 hSw; have hc9 := Blk.cell hSw.1; clear hSw; first | (go_simp; done) | (go_simp; with_reducible rfl))
    (try simp only [Act.put, List.setIfInBounds_toArray, List.set_cons_zero, List.set_cons_succ])
    (refine take_q (i := 2) (d := 48) (v := ?v123) rfl rfl (by kernel_rfl) (by kernel_rfl) (by kernel_rfl) (fun _ _ _ h => h) (by kernel_rfl) ?hy123 (by assumption) ?rest123)
    case hy123 => (intro w9 hSw; have hc9 := Blk.cell hSw.2; clear hSw; first | (go_simp; done) | (go_simp; with_reducible rfl))
    (try simp only [Act.put, List.setIfInBounds_toArray, List.set_cons_zero, List.set_cons_succ])
    (refine wpAnyH_ready (rs := [3]) (by kernel_rfl) (by simp) ?_)
    (refine AllReadyH.cons (o := _) rfl (fun K hK => ?_) AllReadyH.nil)
    go_simp
    go_simp
    (with_reducible refine (check_rq As r'.cs.length cz r' _ rfl (HCR.out.below (Below.refl _ _).drew) HLE.out HOK.out).mono ?_)
    rintro e w9 ⟨rfl, hb9⟩
    have HX10 := Lib.hid ((HX9.out.kept (Below.refl _ _).drew).kept hb9)
    have HI10 := Lib.hid (HI9.out.drew.kept hb9)
    clear hb9
    go_simp
    (refine hK.out _ _ ⟨HI10.out, HX10.out.blk⟩ (fun hHeld => ?_))
    clear hK K
    (try simp only [Act.put, List.setIfInBounds_toArray, List.set_cons_zero, List.set_cons_succ])
    (refine wpAnyH_ready (rs := [4]) (by kernel_rfl) (by simp) ?_)
    (refine AllReadyH.cons (o := _) rfl (fun K hK => ?_) AllReadyH.nil)
    go_simp
    go_simp
    (with_reducible refine (rd_fail HX10.out.rd (checkRq r') 0).mono ?_)
    rintro e wA ⟨rfl, fvA, hr, hf⟩
    have HX11 := Lib.hid (HX10.out.read (by omega) hr hf)
    have HI11 := Lib.hid (HI0.out.tur HX11.out.tur (by omega))
    have HR11 := Lib.hid (HR0.out.tur HX11.out.tur (by omega))
    have HB11 := Lib.hid (HB0.out.trans (HX11.out.tur.below (by have := HB0.out.size; omega) (fun k e => by omega)))
    clear hr hf
    go_simp
    (refine hK.out _ _ ⟨HI11.out, HX11.out.blk⟩ (fun hHeld => ?_))
    clear hK K
    (refine wpAnyH_done (by kernel_rfl) ?_ _)
    have HCD := Lib.hid (show checkD (checkRq r') (endP xs s3) = (endP xs s3).fail (checkRq r') 0 by unfold checkD; simp [hfl])
    have hci := HI11.out.cell
    go_wp2_with fail
    go_at_call 61; (with_reducible refine (rd_err HX11.out.rd).mono ?_); rintro e wB ⟨hbB, he⟩
    have HX12 := Lib.hid (HX11.out.kept hbB)
    have HR12 := Lib.hid (HR11.out.kept hbB)
    have HB12 := Lib.hid (HB11.out.trans (hbB.mono HB11.out.size))
    have hcR := HR12.out.cell
    have hfR := HR12.out.frozen
    clear hbB hci
    rcases hf2 : ((endP xs s3).fail (checkRq r') 0).fault with _ | ⟨code, pl⟩
    · rw [hf2] at he
      obtain rfl := he
      have HD := Lib.hid (show decRq xs = (r', none) by rw [HDEC.out, HCD.out]; simp [hf2])
      have hcb := HX12.out.blk.cell
      have HS := Lib.hid (set11 HR12.out (.int .i64 r'.kind) (.int .i64 r'.id) (.int .i64 r'.epoch) (.slice As r'.cs.length cz) (.int .i64 r'.frm.view) (.string r'.frm.key) (.int .i64 r'.frm.start) (.int .i64 r'.too.view) (.string r'.too.key) (.int .i64 r'.too.start) (.int .i64 r'.limit))
      go_wp2
      generalize (World.setCell (World.setCell (World.setCell (World.setCell (World.setCell (World.setCell (World.setCell (World.setCell (World.setCell (World.setCell (World.setCell wB ⟨W.heap.size, 0, none⟩ (.int .i64 r'.kind)) ⟨W.heap.size, 1, none⟩ (.int .i64 r'.id)) ⟨W.heap.size, 2, none⟩ (.int .i64 r'.epoch)) ⟨W.heap.size, 3, none⟩ (.slice As r'.cs.length cz)) ⟨W.heap.size, 4, none⟩ (.int .i64 r'.frm.view)) ⟨W.heap.size, 5, none⟩ (.string r'.frm.key)) ⟨W.heap.size, 6, none⟩ (.int .i64 r'.frm.start)) ⟨W.heap.size, 7, none⟩ (.int .i64 r'.too.view)) ⟨W.heap.size, 8, none⟩ (.string r'.too.key)) ⟨W.heap.size, 9, none⟩ (.int .i64 r'.too.start)) ⟨W.heap.size, 10, none⟩ (.int .i64 r'.limit)) = wC at HS ⊢
      have hc7 := HS.out.1.cell
      exact bodyPost_ret (v := .tuple #[.agg (rqC (.slice As r'.cs.length cz) r'), .nilIface]) (by simp [results, Tryd.results27, go_sem, hc7]) rfl
        ⟨HB12.out.trans (HS.out.2.below HB12.out.size (fun k e => by omega)), by rw [HD.out]; exact ⟨_, rfl, HX12.out.cells_low HS.out.2 (by omega)⟩⟩
    · rw [hf2] at he
      obtain ⟨g, rfl, hg⟩ := he
      have HG := Lib.hid hg
      have HD := Lib.hid (show decRq xs = (rq0, some (code, pl)) by rw [HDEC.out, HCD.out]; simp [hf2])
      clear hg
      have HS := Lib.hid (set11 HR12.out (.int .i64 0) (.int .i64 0) (.int .i64 0) (.slice none 0 0) (.int .i64 0) (.string ⟨#[]⟩) (.int .i64 0) (.int .i64 0) (.string ⟨#[]⟩) (.int .i64 0) (.int .i64 0))
      go_wp2
      generalize (World.setCell (World.setCell (World.setCell (World.setCell (World.setCell (World.setCell (World.setCell (World.setCell (World.setCell (World.setCell (World.setCell wB ⟨W.heap.size, 0, none⟩ (.int .i64 0)) ⟨W.heap.size, 1, none⟩ (.int .i64 0)) ⟨W.heap.size, 2, none⟩ (.int .i64 0)) ⟨W.heap.size, 3, none⟩ (.slice none 0 0)) ⟨W.heap.size, 4, none⟩ (.int .i64 0)) ⟨W.heap.size, 5, none⟩ (.string ⟨#[]⟩)) ⟨W.heap.size, 6, none⟩ (.int .i64 0)) ⟨W.heap.size, 7, none⟩ (.int .i64 0)) ⟨W.heap.size, 8, none⟩ (.string ⟨#[]⟩)) ⟨W.heap.size, 9, none⟩ (.int .i64 0)) ⟨W.heap.size, 10, none⟩ (.int .i64 0)) = wC at HS ⊢
      have hc7 := HS.out.1.cell
      exact bodyPost_ret (v := .tuple #[.agg (rqC nilS rq0), errV g]) (by simp [results, Tryd.results27, go_sem, hc7, rq0, cell0]) rfl
        ⟨HB12.out.trans (HS.out.2.below HB12.out.size (fun k e => by omega)), by rw [HD.out]; exact ⟨g, rfl, HG.out.tur HS.out.2 (fun e => by subst e; exact absurd rfl (HR12.out.ne_ HG.out (by decide)))⟩⟩
  · rw [hfl] at he
    obtain ⟨g0, rfl, _⟩ := he
    go_wp2_with fail
    go_at_call 61; (with_reducible refine (rd_err HX9.out.rd).mono ?_); rintro e w9 ⟨hb9, he⟩
    rw [hfl] at he
    obtain ⟨g, rfl, hg⟩ := he
    have HG := Lib.hid hg
    have HR10 := Lib.hid (HR9.out.kept hb9)
    have HB10 := Lib.hid (HB9.out.trans (hb9.mono HB9.out.size))
    have HD := Lib.hid (show decRq xs = (rq0, some (code, pl)) by rw [HDEC.out]; unfold checkD; simp [hfl])
    have hcR := HR10.out.cell
    have hfR := HR10.out.frozen
    clear hb9 hg hci
    have HS := Lib.hid (set11 HR10.out (.int .i64 0) (.int .i64 0) (.int .i64 0) (.slice none 0 0) (.int .i64 0) (.string ⟨#[]⟩) (.int .i64 0) (.int .i64 0) (.string ⟨#[]⟩) (.int .i64 0) (.int .i64 0))
    go_wp2
    generalize (World.setCell (World.setCell (World.setCell (World.setCell (World.setCell (World.setCell (World.setCell (World.setCell (World.setCell (World.setCell (World.setCell w9 ⟨W.heap.size, 0, none⟩ (.int .i64 0)) ⟨W.heap.size, 1, none⟩ (.int .i64 0)) ⟨W.heap.size, 2, none⟩ (.int .i64 0)) ⟨W.heap.size, 3, none⟩ (.slice none 0 0)) ⟨W.heap.size, 4, none⟩ (.int .i64 0)) ⟨W.heap.size, 5, none⟩ (.string ⟨#[]⟩)) ⟨W.heap.size, 6, none⟩ (.int .i64 0)) ⟨W.heap.size, 7, none⟩ (.int .i64 0)) ⟨W.heap.size, 8, none⟩ (.string ⟨#[]⟩)) ⟨W.heap.size, 9, none⟩ (.int .i64 0)) ⟨W.heap.size, 10, none⟩ (.int .i64 0)) = w10 at HS ⊢
    have hc7 := HS.out.1.cell
    exact bodyPost_ret (v := .tuple #[.agg (rqC nilS rq0), errV g]) (by simp [results, Tryd.results27, go_sem, hc7, rq0, cell0]) rfl
      ⟨HB10.out.trans (HS.out.2.below HB10.out.size (fun k e => by omega)), by rw [HD.out]; exact ⟨g, rfl, HG.out.tur HS.out.2 (fun e => by subst e; exact absurd rfl (HR10.out.ne_ HG.out (by decide)))⟩⟩
set_option maxHeartbeats 8000000 in
set_option maxRecDepth 100000 in
theorem decode_rq_bare (A : Option Addr) (n c : Nat) (xs : List Int) (hk : (kindD xs).1 = 4 ∨ (kindD xs).1 = 7) (W : World) (hl : xs.length = n) (h : CellsAt W A (bvs xs)) (hw : ∀ x ∈ xs, (Lit.int .u8 x).wf = true) (hn : n ≤ 211106232532992) (hT : W.cell? ⟨0, 0, none⟩ = some tyErr) :
    Calls Tryd.prog 27 #[.slice A n c] W (DecQ W (decRq xs)) := by
  have HR0 := Lib.hid (Blk.new W 26 #[.int .i64 0, .int .i64 0, .int .i64 0, .slice none 0 0, .int .i64 0, .string ⟨#[]⟩, .int .i64 0, .int .i64 0, .string ⟨#[]⟩, .int .i64 0, .int .i64 0])
  have CR := Lib.hid (rd_read A n c xs (W.alloc (.cells #[.int .i64 0, .int .i64 0, .int .i64 0, .slice none 0 0, .int .i64 0, .string ⟨#[]⟩, .int .i64 0, .int .i64 0, .string ⟨#[]⟩, .int .i64 0, .int .i64 0] 26)) hl (h.below ((Below.refl _ _).alloc (Nat.le_refl _) _)) hw hn (((Below.refl W.heap.size W).alloc (Nat.le_refl _) _).cell (World.block_lt_of_cell? W _ hT) ▸ hT))
  have HTL := Lib.hid (World.block_lt_of_cell? W _ hT)
  have HKN := Lib.hid hk
  clear h hw hn hT hk
  go_enter Tryd.func27, Tryd.ntmps27
  go_wp2_with fail
  go_at_call 57; (with_reducible refine CR.out.mono ?_); rintro e w1 ⟨q, A1, c1, rfl, hq, hr, hA1, hb⟩
  have HB1 := Lib.hid (((Below.refl W.heap.size W).alloc (Nat.le_refl _) (.cells #[.int .i64 0, .int .i64 0, .int .i64 0, .slice none 0 0, .int .i64 0, .string ⟨#[]⟩, .int .i64 0, .int .i64 0, .string ⟨#[]⟩, .int .i64 0, .int .i64 0] 26)).trans (hb.mono (by simp)))
  have HR1 := Lib.hid (HR0.out.kept hb)
  have HD1 := Lib.hid hr
  have HA1 := Lib.hid hA1
  have hqR : W.heap.size < q := by have : (W.alloc (.cells #[.int .i64 0, .int .i64 0, .int .i64 0, .slice none 0 0, .int .i64 0, .string ⟨#[]⟩, .int .i64 0, .int .i64 0, .string ⟨#[]⟩, .int .i64 0, .int .i64 0] 26)).heap.size = W.heap.size + 1 := by simp
                                   omega
  have HI2 := Lib.hid (Blk.new w1 116 #[.pointer (some ⟨q, 0, none⟩)])
  have hci := HI2.out.cell
  clear hb hr hA1 HR0 CR
  go_wp2_with fail
  go_at_call 58; (with_reducible refine (in_num (HD1.out.alloc (.cells #[.pointer (some ⟨q, 0, none⟩)] 116))).mono ?_); rintro e w3 ⟨rfl, fv3, hr, hf⟩
  have hIq : w1.heap.size ≠ q := by have := HD1.out.blk.lt; omega
  have HI3 := Lib.hid (hf.blk HI2.out hIq)
  have HR3 := Lib.hid (hf.blk (HR1.out.alloc (.cells #[.pointer (some ⟨q, 0, none⟩)] 116)) (by omega))
  have HB3 := Lib.hid (HB1.out.trans (((RdFr.alloc0 w1 q .nilIface (.cells #[.pointer (some ⟨q, 0, none⟩)] 116)).trans hf).1.below HB1.out.size (fun k e => by omega)))
  have hs3 : w1.heap.size < w3.heap.size := HI3.out.lt
  have HD3 := Lib.hid hr
  have hRI : W.heap.size ≤ w1.heap.size := HB1.out.size
  have HA3 := Lib.hid (show ∀ ad, A1 = some ad → ad.block < w1.heap.size from fun ad e => (HA1.out ad e).2)
  have hq1 : q < w1.heap.size := HD1.out.blk.lt
  have hTR := HTL.out
  have HKD := Lib.hid (show kindD xs = numP xs M40 ⟨0, none⟩ from rfl)
  clear hr hf HI2 HR1 HD1 HA1 HB1 hci hq
  generalize numP xs M40 ⟨0, none⟩ = y at *
  obtain ⟨k0, s1⟩ := y
  dsimp only at HD3 ⊢
  rw [HKD.out] at HKN
  generalize hI : w1.heap.size = bI at *
  have hci := HI3.out.cell
  go_wp2_with fail
  have HK0 := Lib.hid (Blk.new w3 26 #[.int .i64 (k0 : Int), .int .i64 0, .int .i64 0, .slice none 0 0, .int .i64 0, .string ⟨#[]⟩, .int .i64 0, .int .i64 0, .string ⟨#[]⟩, .int .i64 0, .int .i64 0])
  have HI0 := Lib.hid (HI3.out.alloc (.cells #[.int .i64 (k0 : Int), .int .i64 0, .int .i64 0, .slice none 0 0, .int .i64 0, .string ⟨#[]⟩, .int .i64 0, .int .i64 0, .string ⟨#[]⟩, .int .i64 0, .int .i64 0] 26))
  have HR0 := Lib.hid (HR3.out.alloc (.cells #[.int .i64 (k0 : Int), .int .i64 0, .int .i64 0, .slice none 0 0, .int .i64 0, .string ⟨#[]⟩, .int .i64 0, .int .i64 0, .string ⟨#[]⟩, .int .i64 0, .int .i64 0] 26))
  have HB0 := Lib.hid (HB3.out.alloc (by omega) (.cells #[.int .i64 (k0 : Int), .int .i64 0, .int .i64 0, .slice none 0 0, .int .i64 0, .string ⟨#[]⟩, .int .i64 0, .int .i64 0, .string ⟨#[]⟩, .int .i64 0, .int .i64 0] 26))
  have HX0 := Lib.hid (RqIs.start (r := ⟨(k0 : Int), 0, 0, [], cell0, cell0, 0⟩) HK0.out rfl (HD3.out.alloc (.cells #[.int .i64 (k0 : Int), .int .i64 0, .int .i64 0, .slice none 0 0, .int .i64 0, .string ⟨#[]⟩, .int .i64 0, .int .i64 0, .string ⟨#[]⟩, .int .i64 0, .int .i64 0] 26)) (by omega) (fun ad e => by have := HA3.out ad e; simp; omega) (by omega))
  have hs0 : (w3.alloc (.cells #[.int .i64 (k0 : Int), .int .i64 0, .int .i64 0, .slice none 0 0, .int .i64 0, .string ⟨#[]⟩, .int .i64 0, .int .i64 0, .string ⟨#[]⟩, .int .i64 0, .int .i64 0] 26)).heap.size = w3.heap.size + 1 := by simp
  generalize hb : w3.heap.size = b at *
  generalize w3.alloc (.cells #[.int .i64 (k0 : Int), .int .i64 0, .int .i64 0, .slice none 0 0, .int .i64 0, .string ⟨#[]⟩, .int .i64 0, .int .i64 0, .string ⟨#[]⟩, .int .i64 0, .int .i64 0] 26) = W0 at *
  clear HR3 HB3 HI3 HD3 hci hb
  (refine wp_region_held_drew (S := fun w9 => Blk w9 bI 116 #[.pointer (some ⟨q, 0, none⟩)] ∧ Blk w9 b 26 #[.int .i64 (k0 : Int), .int .i64 0, .int .i64 0, .slice none 0 0, .int .i64 0, .string ⟨#[]⟩, .int .i64 0, .int .i64 0, .string ⟨#[]⟩, .int .i64 0, .int .i64 0]) (by kernel_rfl) ⟨HI0.out.drew, HX0.out.blk.drew⟩ (fun hHeld => ?_))
  (refine take_q (i := 0) (d := 16) (v := ?v124) rfl rfl (by kernel_rfl) (by kernel_rfl) (by kernel_rfl) (fun _ _ _ h => h) (by kernel_rfl) ?hy124 (by assumption) ?rest124)
  case hy124 => (intro w9 hSw; have hc9 := Blk.cell hSw.1; clear hSw; first | (go_simp; done) | (go_simp; with_reducible rfl))
  (try simp only [Act.put, List.setIfInBounds_toArray, List.set_cons_zero, List.set_cons_succ])
  (refine take_q (i := 1) (d := 17) (v := ?v125) rfl rfl (by kernel_rfl) (by kernel_rfl) (by kernel_rfl) (fun _ _ _ h => h) (by kernel_rfl) ?hy125 (by assumption) ?rest125)
  case hy125 => (intro w9 hSw; first | (go_simp; done) | (go_simp; with_reducible rfl))
  (try simp only [Act.put, List.setIfInBounds_toArray, List.set_cons_zero, List.set_cons_succ])
  (refine take_q (i := 2) (d := 18) (v := ?v126) rfl rfl (by kernel_rfl) (by kernel_rfl) (by kernel_rfl) (fun _ _ _ h => h) (by kernel_rfl) ?hy126 (by assumption) ?rest126)
  case hy126 => (intro w9 hSw; first | (go_simp; done) | (go_simp; with_reducible rfl))
  (try simp only [Act.put, List.setIfInBounds_toArray, List.set_cons_zero, List.set_cons_succ])
  (refine take_q (i := 4) (d := 20) (v := ?v127) rfl rfl (by kernel_rfl) (by kernel_rfl) (by kernel_rfl) (fun _ _ _ h => h) (by kernel_rfl) ?hy127 (by assumption) ?rest127)
  case hy127 => (intro w9 hSw; first | (go_simp; done) | (go_simp; with_reducible rfl))
  (try simp only [Act.put, List.setIfInBounds_toArray, List.set_cons_zero, List.set_cons_succ])
  (refine take_q (i := 5) (d := 21) (v := ?v128) rfl rfl (by kernel_rfl) (by kernel_rfl) (by kernel_rfl) (fun _ _ _ h => h) (by kernel_rfl) ?hy128 (by assumption) ?rest128)
  case hy128 => (intro w9 hSw; have hc9 := Blk.cell hSw.2; clear hSw; first | (go_simp; done) | (go_simp; with_reducible rfl))
  (try simp only [Act.put, List.setIfInBounds_toArray, List.set_cons_zero, List.set_cons_succ])
  (refine wpAnyH_ready (rs := [3]) (by kernel_rfl) (by simp) ?_)
  (refine AllReadyH.cons (o := _) rfl (fun K hK => ?_) AllReadyH.nil)
  go_simp
  go_simp
  (with_reducible refine (in_readers q n _).mono ?_)
  rintro e w4 ⟨rfl, hm, hi4, hj4, hb4⟩
  have HM := Lib.hid (show MapIs w4 (b + 1 + 2) (rmap q (b + 1) (b + 1 + 1)) by rw [← hs0]; exact hm)
  have HX4 := Lib.hid ((HX0.out.kept (Below.refl _ _).drew).kept hb4)
  have HI4 := Lib.hid (HI0.out.drew.kept hb4)
  have HR4 := Lib.hid (HR0.out.drew.kept hb4)
  have HB4 := Lib.hid (HB0.out.drew.trans (hb4.mono (by have := HB0.out.size; simpa using this)))
  have HIM := Lib.hid (show Blk w4 (b + 1) 116 #[.pointer (some ⟨q, 0, none⟩)] by rw [← hs0]; exact hi4)
  have HJM := Lib.hid (show Blk w4 (b + 1 + 1) 3 #[.int .i64 (n : Int)] by rw [← hs0]; exact hj4)
  clear hm hi4 hj4 hb4
  go_simp
  (refine hK.out _ _ ⟨HI4.out, HX4.out.blk⟩ (fun hHeld => ?_))
  clear hK K
  have hlk := HM.out.look Tryd.underlying120 Tryd.underlying3 (k0 : Int) (.func (.func 85) #[inV q] #[]) (by have hk := HKN.out; first | (subst hk; rfl) | (rcases hk with rfl | rfl <;> rfl)) true
  (refine wpAnyH_ready (rs := [6]) (by kernel_rfl) (by simp) ?_)
  (refine AllReadyH.cons (o := _) rfl (fun K hK => ?_) AllReadyH.nil)
  go_simp
  (refine hK.out _ _ ⟨HI4.out, HX4.out.blk⟩ (fun hHeld => ?_))
  clear hK K
  (refine take_q (i := 7) (d := 15) (v := ?v129) rfl rfl (by kernel_rfl) (by kernel_rfl) (by kernel_rfl) (fun _ _ _ h => h) (by kernel_rfl) ?hy129 (by assumption) ?rest129)
  case hy129 => (intro w9 hSw; first | (go_simp; done) | (go_simp; with_reducible rfl))
  (try simp only [Act.put, List.setIfInBounds_toArray, List.set_cons_zero, List.set_cons_succ])
  (refine take_q (i := 8) (d := 23) (v := ?v130) rfl rfl (by kernel_rfl) (by kernel_rfl) (by kernel_rfl) (fun _ _ _ h => h) (by kernel_rfl) ?hy130 (by assumption) ?rest130)
  case hy130 => (intro w9 hSw; first | (go_simp; done) | (go_simp; with_reducible rfl))
  (try simp only [Act.put, List.setIfInBounds_toArray, List.set_cons_zero, List.set_cons_succ])
  (refine take_q (i := 9) (d := 24) (v := ?v131) rfl rfl (by kernel_rfl) (by kernel_rfl) (by kernel_rfl) (fun _ _ _ h => h) (by kernel_rfl) ?hy131 (by assumption) ?rest131)
  case hy131 => (intro w9 hSw; first | (go_simp; done) | (go_simp; with_reducible rfl))
  (try simp only [Act.put, List.setIfInBounds_toArray, List.set_cons_zero, List.set_cons_succ])
  (refine take_q (i := 10) (d := 6) (v := ?v132) rfl rfl (by kernel_rfl) (by kernel_rfl) (by kernel_rfl) (fun _ _ _ h => h) (by kernel_rfl) ?hy132 (by assumption) ?rest132)
  case hy132 => (intro w9 hSw; first | (go_simp; done) | (go_simp; with_reducible rfl))
  (try simp only [Act.put, List.setIfInBounds_toArray, List.set_cons_zero, List.set_cons_succ])
  (refine take_q (i := 11) (d := 7) (v := ?v133) rfl rfl (by kernel_rfl) (by kernel_rfl) (by kernel_rfl) (fun _ _ _ h => h) (by kernel_rfl) ?hy133 (by assumption) ?rest133)
  case hy133 => (intro w9 hSw; first | (go_simp; done) | (go_simp; with_reducible rfl))
  (try simp only [Act.put, List.setIfInBounds_toArray, List.set_cons_zero, List.set_cons_succ])
  (refine wpAnyH_done (by kernel_rfl) ?_ _)
  have hci := HI4.out.cell
  have hRq : W.heap.size ≠ q := by omega
  have hRb : W.heap.size ≠ b := by omega
  have hIb : bI ≠ b := by omega
  clear hlk
  go_wp2_with fail
  go_at_call 58; (with_reducible refine (in_num HX4.out.rd).mono ?_); rintro e w5 ⟨rfl, fv5, hr, hf⟩
  have HX5 := Lib.hid (HX4.out.read (by omega) hr hf)
  have HI5 := Lib.hid (hf.blk HI4.out hIq)
  have HR5 := Lib.hid (hf.blk HR4.out hRq)
  have HIM5 := Lib.hid (hf.blk HIM.out (by omega))
  have HJM5 := Lib.hid (hf.blk HJM.out (by omega))
  have HB5 := Lib.hid (HB4.out.trans (hf.1.below HB4.out.size (fun k e => by omega)))
  clear hr hf hci HX4 HI4 HR4 HIM HJM HB4
  have HID := Lib.hid (show numP xs M40 s1 = numP xs M40 s1 from rfl)
  generalize hid : numP xs M40 s1 = y at *
  clear HID
  have HID := Lib.hid hid
  clear hid
  obtain ⟨id0, s2⟩ := y
  dsimp only at HX5 ⊢
  have hcb := HX5.out.blk.cell
  have hfb := HX5.out.blk.frozen
  have HX6 := Lib.hid (HX5.out.set_ (r1 := ⟨(k0 : Int), (id0 : Int), 0, [], cell0, cell0, 0⟩) 1 (.int .i64 (id0 : Int)) rfl HX5.out.cells)
  have HI6 := Lib.hid (HI5.out.far (p := ⟨b, 1, none⟩) hIb (.int .i64 (id0 : Int)))
  have HR6 := Lib.hid (HR5.out.far (p := ⟨b, 1, none⟩) hRb (.int .i64 (id0 : Int)))
  go_wp2_with fail
  (with_reducible refine (in_bare HX6.out).mono ?_)
  rintro e w6 ⟨rfl, fv6, v6, hx⟩
  have HX7 := Lib.hid (show RqIs W0 q b A1 n c1 xs (readD xs).1 (readD xs).2 fv6 v6 w6 from by
    have e : readD xs = ((⟨(k0 : Int), (id0 : Int), 0, [], cell0, cell0, 0⟩ : Rq), s2) := by
      unfold readD bodyD
      rw [HKD.out]
      dsimp only
      rw [HID.out]
      have hk := HKN.out
      first | (subst hk; simp; done) | (rcases hk with rfl | rfl <;> simp; done)
    rw [e]
    exact hx)
  clear hx hcb hfb HX6 HX5 HI5 HR5 HI6 HR6 HIM5 HJM5
  have HDEC := Lib.hid (show decRq xs = if (checkD (checkRq (readD xs).1) (endP xs (readD xs).2)).fault.isSome then (rq0, (checkD (checkRq (readD xs).1) (endP xs (readD xs).2)).fault) else ((readD xs).1, none) by
    unfold decRq
    rw [if_neg (by rw [HKD.out]; have := HKN.out; omega)])
  have HOK := Lib.hid (readD_ok xs)
  generalize readD xs = y at *
  obtain ⟨r', s3⟩ := y
  dsimp only at HX7 HDEC HOK
  have HI7 := Lib.hid (HI0.out.tur HX7.out.tur (by omega))
  have HR7 := Lib.hid (HR0.out.tur HX7.out.tur (by omega))
  have HB7 := Lib.hid (HB0.out.trans (HX7.out.tur.below (by have := HB0.out.size; omega) (fun k e => by omega)))
  have hci := HI7.out.cell
  go_wp2_with fail
  go_at_call 62; (with_reducible refine (rd_end HX7.out.rd).mono ?_); rintro e w7 ⟨rfl, fv7, hr, hf⟩
  have HX8 := Lib.hid (HX7.out.read (by omega) hr hf)
  have HI8 := Lib.hid (HI0.out.tur HX8.out.tur (by omega))
  have HR8 := Lib.hid (HR0.out.tur HX8.out.tur (by omega))
  have HB8 := Lib.hid (HB0.out.trans (HX8.out.tur.below (by have := HB0.out.size; omega) (fun k e => by omega)))
  clear hr hf HX7 HI7 HR7 HB7 hci
  have hci := HI8.out.cell
  go_wp2_with fail
  go_at_call 61; (with_reducible refine (rd_err HX8.out.rd).mono ?_); rintro e w8 ⟨hb8, he⟩
  have HX9 := Lib.hid (HX8.out.kept hb8)
  have HI9 := Lib.hid (HI8.out.kept hb8)
  have HR9 := Lib.hid (HR8.out.kept hb8)
  have HB9 := Lib.hid (HB8.out.trans (hb8.mono HB8.out.size))
  clear hb8 HX8 HI8 HR8 HB8 hci
  have hci := HI9.out.cell
  rcases hfl : (endP xs s3).fault with _ | ⟨code, pl⟩
  · rw [hfl] at he
    obtain rfl := he
    go_wp2_with fail
    obtain ⟨As, cz, rfl, hrd, hba⟩ := HX9.out.cells.rd
    have HCR := Lib.hid hrd
    have HLE := Lib.hid (CellsOwn.le HX9.out.cells)
    clear hrd hba hci
    (refine wp_region_held_drew (S := fun w9 => Blk w9 bI 116 #[.pointer (some ⟨q, 0, none⟩)] ∧ Blk w9 b 26 (rqC (.slice As r'.cs.length cz) r')) (by kernel_rfl) ⟨HI9.out.drew, HX9.out.blk.drew⟩ (fun hHeld => ?_))
    (refine take_q (i := 0) (d := 46) (v := ?v134) rfl rfl (by kernel_rfl) (by kernel_rfl) (by kernel_rfl) (fun _ _ _ h => h) (by kernel_rfl) ?hy134 (by assumption) ?rest134)
    case hy134 => (intro w9 hSw; first | (go_simp; done) | (go_simp; with_reducible rfl))
    (try simp only [Act.put, List.setIfInBounds_toArray, List.set_cons_zero, List.set_cons_succ])
    (refine take_q (i := 1) (d := 47) (v := ?v135) rfl rfl (by kernel_rfl) (by kernel_rfl) (by kernel_rfl) (fun _ _ _ h => h) (by kernel_rfl) ?hy135 (by assumption) ?rest135)
    case hy135 => (intro w9 hSw; have hc9 := Blk.cell hSw.1; clear hSw; first | (go_simp; done) | (go_simp; with_reducible rfl))
    (try simp only [Act.put, List.setIfInBounds_toArray, List.set_cons_zero, List.set_cons_succ])
    (refine take_q (i := 2) (d := 48) (v := ?v136) rfl rfl (by kernel_rfl) (by kernel_rfl) (by kernel_rfl) (fun _ _ _ h => h) (by kernel_rfl) ?hy136 (by assumption) ?rest136)
    case hy136 => (intro w9 hSw; have hc9 := Blk.cell hSw.2; clear hSw; first | (go_simp; done) | (go_simp; with_reducible rfl))
    (try simp only [Act.put, List.setIfInBounds_toArray, List.set_cons_zero, List.set_cons_succ])
    (refine wpAnyH_ready (rs := [3]) (by kernel_rfl) (by simp) ?_)
    (refine AllReadyH.cons (o := _) rfl (fun K hK => ?_) AllReadyH.nil)
    go_simp
    go_simp
    (with_reducible refine (check_rq As r'.cs.length cz r' _ rfl (HCR.out.below (Below.refl _ _).drew) HLE.out HOK.out).mono ?_)
    rintro e w9 ⟨rfl, hb9⟩
    have HX10 := Lib.hid ((HX9.out.kept (Below.refl _ _).drew).kept hb9)
    have HI10 := Lib.hid (HI9.out.drew.kept hb9)
    clear hb9
    go_simp
    (refine hK.out _ _ ⟨HI10.out, HX10.out.blk⟩ (fun hHeld => ?_))
    clear hK K
    (try simp only [Act.put, List.setIfInBounds_toArray, List.set_cons_zero, List.set_cons_succ])
    (refine wpAnyH_ready (rs := [4]) (by kernel_rfl) (by simp) ?_)
    (refine AllReadyH.cons (o := _) rfl (fun K hK => ?_) AllReadyH.nil)
    go_simp
    go_simp
    (with_reducible refine (rd_fail HX10.out.rd (checkRq r') 0).mono ?_)
    rintro e wA ⟨rfl, fvA, hr, hf⟩
    have HX11 := Lib.hid (HX10.out.read (by omega) hr hf)
    have HI11 := Lib.hid (HI0.out.tur HX11.out.tur (by omega))
    have HR11 := Lib.hid (HR0.out.tur HX11.out.tur (by omega))
    have HB11 := Lib.hid (HB0.out.trans (HX11.out.tur.below (by have := HB0.out.size; omega) (fun k e => by omega)))
    clear hr hf
    go_simp
    (refine hK.out _ _ ⟨HI11.out, HX11.out.blk⟩ (fun hHeld => ?_))
    clear hK K
    (refine wpAnyH_done (by kernel_rfl) ?_ _)
    have HCD := Lib.hid (show checkD (checkRq r') (endP xs s3) = (endP xs s3).fail (checkRq r') 0 by unfold checkD; simp [hfl])
    have hci := HI11.out.cell
    go_wp2_with fail
    go_at_call 61; (with_reducible refine (rd_err HX11.out.rd).mono ?_); rintro e wB ⟨hbB, he⟩
    have HX12 := Lib.hid (HX11.out.kept hbB)
    have HR12 := Lib.hid (HR11.out.kept hbB)
    have HB12 := Lib.hid (HB11.out.trans (hbB.mono HB11.out.size))
    have hcR := HR12.out.cell
    have hfR := HR12.out.frozen
    clear hbB hci
    rcases hf2 : ((endP xs s3).fail (checkRq r') 0).fault with _ | ⟨code, pl⟩
    · rw [hf2] at he
      obtain rfl := he
      have HD := Lib.hid (show decRq xs = (r', none) by rw [HDEC.out, HCD.out]; simp [hf2])
      have hcb := HX12.out.blk.cell
      have HS := Lib.hid (set11 HR12.out (.int .i64 r'.kind) (.int .i64 r'.id) (.int .i64 r'.epoch) (.slice As r'.cs.length cz) (.int .i64 r'.frm.view) (.string r'.frm.key) (.int .i64 r'.frm.start) (.int .i64 r'.too.view) (.string r'.too.key) (.int .i64 r'.too.start) (.int .i64 r'.limit))
      go_wp2
      generalize (World.setCell (World.setCell (World.setCell (World.setCell (World.setCell (World.setCell (World.setCell (World.setCell (World.setCell (World.setCell (World.setCell wB ⟨W.heap.size, 0, none⟩ (.int .i64 r'.kind)) ⟨W.heap.size, 1, none⟩ (.int .i64 r'.id)) ⟨W.heap.size, 2, none⟩ (.int .i64 r'.epoch)) ⟨W.heap.size, 3, none⟩ (.slice As r'.cs.length cz)) ⟨W.heap.size, 4, none⟩ (.int .i64 r'.frm.view)) ⟨W.heap.size, 5, none⟩ (.string r'.frm.key)) ⟨W.heap.size, 6, none⟩ (.int .i64 r'.frm.start)) ⟨W.heap.size, 7, none⟩ (.int .i64 r'.too.view)) ⟨W.heap.size, 8, none⟩ (.string r'.too.key)) ⟨W.heap.size, 9, none⟩ (.int .i64 r'.too.start)) ⟨W.heap.size, 10, none⟩ (.int .i64 r'.limit)) = wC at HS ⊢
      have hc7 := HS.out.1.cell
      exact bodyPost_ret (v := .tuple #[.agg (rqC (.slice As r'.cs.length cz) r'), .nilIface]) (by simp [results, Tryd.results27, go_sem, hc7]) rfl
        ⟨HB12.out.trans (HS.out.2.below HB12.out.size (fun k e => by omega)), by rw [HD.out]; exact ⟨_, rfl, HX12.out.cells_low HS.out.2 (by omega)⟩⟩
    · rw [hf2] at he
      obtain ⟨g, rfl, hg⟩ := he
      have HG := Lib.hid hg
      have HD := Lib.hid (show decRq xs = (rq0, some (code, pl)) by rw [HDEC.out, HCD.out]; simp [hf2])
      clear hg
      have HS := Lib.hid (set11 HR12.out (.int .i64 0) (.int .i64 0) (.int .i64 0) (.slice none 0 0) (.int .i64 0) (.string ⟨#[]⟩) (.int .i64 0) (.int .i64 0) (.string ⟨#[]⟩) (.int .i64 0) (.int .i64 0))
      go_wp2
      generalize (World.setCell (World.setCell (World.setCell (World.setCell (World.setCell (World.setCell (World.setCell (World.setCell (World.setCell (World.setCell (World.setCell wB ⟨W.heap.size, 0, none⟩ (.int .i64 0)) ⟨W.heap.size, 1, none⟩ (.int .i64 0)) ⟨W.heap.size, 2, none⟩ (.int .i64 0)) ⟨W.heap.size, 3, none⟩ (.slice none 0 0)) ⟨W.heap.size, 4, none⟩ (.int .i64 0)) ⟨W.heap.size, 5, none⟩ (.string ⟨#[]⟩)) ⟨W.heap.size, 6, none⟩ (.int .i64 0)) ⟨W.heap.size, 7, none⟩ (.int .i64 0)) ⟨W.heap.size, 8, none⟩ (.string ⟨#[]⟩)) ⟨W.heap.size, 9, none⟩ (.int .i64 0)) ⟨W.heap.size, 10, none⟩ (.int .i64 0)) = wC at HS ⊢
      have hc7 := HS.out.1.cell
      exact bodyPost_ret (v := .tuple #[.agg (rqC nilS rq0), errV g]) (by simp [results, Tryd.results27, go_sem, hc7, rq0, cell0]) rfl
        ⟨HB12.out.trans (HS.out.2.below HB12.out.size (fun k e => by omega)), by rw [HD.out]; exact ⟨g, rfl, HG.out.tur HS.out.2 (fun e => by subst e; exact absurd rfl (HR12.out.ne_ HG.out (by decide)))⟩⟩
  · rw [hfl] at he
    obtain ⟨g0, rfl, _⟩ := he
    go_wp2_with fail
    go_at_call 61; (with_reducible refine (rd_err HX9.out.rd).mono ?_); rintro e w9 ⟨hb9, he⟩
    rw [hfl] at he
    obtain ⟨g, rfl, hg⟩ := he
    have HG := Lib.hid hg
    have HR10 := Lib.hid (HR9.out.kept hb9)
    have HB10 := Lib.hid (HB9.out.trans (hb9.mono HB9.out.size))
    have HD := Lib.hid (show decRq xs = (rq0, some (code, pl)) by rw [HDEC.out]; unfold checkD; simp [hfl])
    have hcR := HR10.out.cell
    have hfR := HR10.out.frozen
    clear hb9 hg hci
    have HS := Lib.hid (set11 HR10.out (.int .i64 0) (.int .i64 0) (.int .i64 0) (.slice none 0 0) (.int .i64 0) (.string ⟨#[]⟩) (.int .i64 0) (.int .i64 0) (.string ⟨#[]⟩) (.int .i64 0) (.int .i64 0))
    go_wp2
    generalize (World.setCell (World.setCell (World.setCell (World.setCell (World.setCell (World.setCell (World.setCell (World.setCell (World.setCell (World.setCell (World.setCell w9 ⟨W.heap.size, 0, none⟩ (.int .i64 0)) ⟨W.heap.size, 1, none⟩ (.int .i64 0)) ⟨W.heap.size, 2, none⟩ (.int .i64 0)) ⟨W.heap.size, 3, none⟩ (.slice none 0 0)) ⟨W.heap.size, 4, none⟩ (.int .i64 0)) ⟨W.heap.size, 5, none⟩ (.string ⟨#[]⟩)) ⟨W.heap.size, 6, none⟩ (.int .i64 0)) ⟨W.heap.size, 7, none⟩ (.int .i64 0)) ⟨W.heap.size, 8, none⟩ (.string ⟨#[]⟩)) ⟨W.heap.size, 9, none⟩ (.int .i64 0)) ⟨W.heap.size, 10, none⟩ (.int .i64 0)) = w10 at HS ⊢
    have hc7 := HS.out.1.cell
    exact bodyPost_ret (v := .tuple #[.agg (rqC nilS rq0), errV g]) (by simp [results, Tryd.results27, go_sem, hc7, rq0, cell0]) rfl
      ⟨HB10.out.trans (HS.out.2.below HB10.out.size (fun k e => by omega)), by rw [HD.out]; exact ⟨g, rfl, HG.out.tur HS.out.2 (fun e => by subst e; exact absurd rfl (HR10.out.ne_ HG.out (by decide)))⟩⟩
set_option maxHeartbeats 8000000 in
set_option maxRecDepth 100000 in
theorem decode_rq_get (A : Option Addr) (n c : Nat) (xs : List Int) (hk : (kindD xs).1 = 1) (W : World) (hl : xs.length = n) (h : CellsAt W A (bvs xs)) (hw : ∀ x ∈ xs, (Lit.int .u8 x).wf = true) (hn : n ≤ 211106232532992) (hT : W.cell? ⟨0, 0, none⟩ = some tyErr) :
    Calls Tryd.prog 27 #[.slice A n c] W (DecQ W (decRq xs)) := by
  have HR0 := Lib.hid (Blk.new W 26 #[.int .i64 0, .int .i64 0, .int .i64 0, .slice none 0 0, .int .i64 0, .string ⟨#[]⟩, .int .i64 0, .int .i64 0, .string ⟨#[]⟩, .int .i64 0, .int .i64 0])
  have CR := Lib.hid (rd_read A n c xs (W.alloc (.cells #[.int .i64 0, .int .i64 0, .int .i64 0, .slice none 0 0, .int .i64 0, .string ⟨#[]⟩, .int .i64 0, .int .i64 0, .string ⟨#[]⟩, .int .i64 0, .int .i64 0] 26)) hl (h.below ((Below.refl _ _).alloc (Nat.le_refl _) _)) hw hn (((Below.refl W.heap.size W).alloc (Nat.le_refl _) _).cell (World.block_lt_of_cell? W _ hT) ▸ hT))
  have HTL := Lib.hid (World.block_lt_of_cell? W _ hT)
  have HKN := Lib.hid hk
  clear h hw hn hT hk
  go_enter Tryd.func27, Tryd.ntmps27
  go_wp2_with fail
  go_at_call 57; (with_reducible refine CR.out.mono ?_); rintro e w1 ⟨q, A1, c1, rfl, hq, hr, hA1, hb⟩
  have HB1 := Lib.hid (((Below.refl W.heap.size W).alloc (Nat.le_refl _) (.cells #[.int .i64 0, .int .i64 0, .int .i64 0, .slice none 0 0, .int .i64 0, .string ⟨#[]⟩, .int .i64 0, .int .i64 0, .string ⟨#[]⟩, .int .i64 0, .int .i64 0] 26)).trans (hb.mono (by simp)))
  have HR1 := Lib.hid (HR0.out.kept hb)
  have HD1 := Lib.hid hr
  have HA1 := Lib.hid hA1
  have hqR : W.heap.size < q := by have : (W.alloc (.cells #[.int .i64 0, .int .i64 0, .int .i64 0, .slice none 0 0, .int .i64 0, .string ⟨#[]⟩, .int .i64 0, .int .i64 0, .string ⟨#[]⟩, .int .i64 0, .int .i64 0] 26)).heap.size = W.heap.size + 1 := by simp
                                   omega
  have HI2 := Lib.hid (Blk.new w1 116 #[.pointer (some ⟨q, 0, none⟩)])
  have hci := HI2.out.cell
  clear hb hr hA1 HR0 CR
  go_wp2_with fail
  go_at_call 58; (with_reducible refine (in_num (HD1.out.alloc (.cells #[.pointer (some ⟨q, 0, none⟩)] 116))).mono ?_); rintro e w3 ⟨rfl, fv3, hr, hf⟩
  have hIq : w1.heap.size ≠ q := by have := HD1.out.blk.lt; omega
  have HI3 := Lib.hid (hf.blk HI2.out hIq)
  have HR3 := Lib.hid (hf.blk (HR1.out.alloc (.cells #[.pointer (some ⟨q, 0, none⟩)] 116)) (by omega))
  have HB3 := Lib.hid (HB1.out.trans (((RdFr.alloc0 w1 q .nilIface (.cells #[.pointer (some ⟨q, 0, none⟩)] 116)).trans hf).1.below HB1.out.size (fun k e => by omega)))
  have hs3 : w1.heap.size < w3.heap.size := HI3.out.lt
  have HD3 := Lib.hid hr
  have hRI : W.heap.size ≤ w1.heap.size := HB1.out.size
  have HA3 := Lib.hid (show ∀ ad, A1 = some ad → ad.block < w1.heap.size from fun ad e => (HA1.out ad e).2)
  have hq1 : q < w1.heap.size := HD1.out.blk.lt
  have hTR := HTL.out
  have HKD := Lib.hid (show kindD xs = numP xs M40 ⟨0, none⟩ from rfl)
  clear hr hf HI2 HR1 HD1 HA1 HB1 hci hq
  generalize numP xs M40 ⟨0, none⟩ = y at *
  obtain ⟨k0, s1⟩ := y
  dsimp only at HD3 ⊢
  rw [HKD.out] at HKN
  generalize hI : w1.heap.size = bI at *
  have hci := HI3.out.cell
  go_wp2_with fail
  have HK0 := Lib.hid (Blk.new w3 26 #[.int .i64 (k0 : Int), .int .i64 0, .int .i64 0, .slice none 0 0, .int .i64 0, .string ⟨#[]⟩, .int .i64 0, .int .i64 0, .string ⟨#[]⟩, .int .i64 0, .int .i64 0])
  have HI0 := Lib.hid (HI3.out.alloc (.cells #[.int .i64 (k0 : Int), .int .i64 0, .int .i64 0, .slice none 0 0, .int .i64 0, .string ⟨#[]⟩, .int .i64 0, .int .i64 0, .string ⟨#[]⟩, .int .i64 0, .int .i64 0] 26))
  have HR0 := Lib.hid (HR3.out.alloc (.cells #[.int .i64 (k0 : Int), .int .i64 0, .int .i64 0, .slice none 0 0, .int .i64 0, .string ⟨#[]⟩, .int .i64 0, .int .i64 0, .string ⟨#[]⟩, .int .i64 0, .int .i64 0] 26))
  have HB0 := Lib.hid (HB3.out.alloc (by omega) (.cells #[.int .i64 (k0 : Int), .int .i64 0, .int .i64 0, .slice none 0 0, .int .i64 0, .string ⟨#[]⟩, .int .i64 0, .int .i64 0, .string ⟨#[]⟩, .int .i64 0, .int .i64 0] 26))
  have HX0 := Lib.hid (RqIs.start (r := ⟨(k0 : Int), 0, 0, [], cell0, cell0, 0⟩) HK0.out rfl (HD3.out.alloc (.cells #[.int .i64 (k0 : Int), .int .i64 0, .int .i64 0, .slice none 0 0, .int .i64 0, .string ⟨#[]⟩, .int .i64 0, .int .i64 0, .string ⟨#[]⟩, .int .i64 0, .int .i64 0] 26)) (by omega) (fun ad e => by have := HA3.out ad e; simp; omega) (by omega))
  have hs0 : (w3.alloc (.cells #[.int .i64 (k0 : Int), .int .i64 0, .int .i64 0, .slice none 0 0, .int .i64 0, .string ⟨#[]⟩, .int .i64 0, .int .i64 0, .string ⟨#[]⟩, .int .i64 0, .int .i64 0] 26)).heap.size = w3.heap.size + 1 := by simp
  generalize hb : w3.heap.size = b at *
  generalize w3.alloc (.cells #[.int .i64 (k0 : Int), .int .i64 0, .int .i64 0, .slice none 0 0, .int .i64 0, .string ⟨#[]⟩, .int .i64 0, .int .i64 0, .string ⟨#[]⟩, .int .i64 0, .int .i64 0] 26) = W0 at *
  clear HR3 HB3 HI3 HD3 hci hb
  (refine wp_region_held_drew (S := fun w9 => Blk w9 bI 116 #[.pointer (some ⟨q, 0, none⟩)] ∧ Blk w9 b 26 #[.int .i64 (k0 : Int), .int .i64 0, .int .i64 0, .slice none 0 0, .int .i64 0, .string ⟨#[]⟩, .int .i64 0, .int .i64 0, .string ⟨#[]⟩, .int .i64 0, .int .i64 0]) (by kernel_rfl) ⟨HI0.out.drew, HX0.out.blk.drew⟩ (fun hHeld => ?_))
  (refine take_q (i := 0) (d := 16) (v := ?v137) rfl rfl (by kernel_rfl) (by kernel_rfl) (by kernel_rfl) (fun _ _ _ h => h) (by kernel_rfl) ?hy137 (by assumption) ?rest137)
  case hy137 => (intro w9 hSw; have hc9 := Blk.cell hSw.1; clear hSw; first | (go_simp; done) | (go_simp; with_reducible rfl))
  (try simp only [Act.put, List.setIfInBounds_toArray, List.set_cons_zero, List.set_cons_succ])
  (refine take_q (i := 1) (d := 17) (v := ?v138) rfl rfl (by kernel_rfl) (by kernel_rfl) (by kernel_rfl) (fun _ _ _ h => h) (by kernel_rfl) ?hy138 (by assumption) ?rest138)
  case hy138 => (intro w9 hSw; first | (go_simp; done) | (go_simp; with_reducible rfl))
  (try simp only [Act.put, List.setIfInBounds_toArray, List.set_cons_zero, List.set_cons_succ])
  (refine take_q (i := 2) (d := 18) (v := ?v139) rfl rfl (by kernel_rfl) (by kernel_rfl) (by kernel_rfl) (fun _ _ _ h => h) (by kernel_rfl) ?hy139 (by assumption) ?rest139)
  case hy139 => (intro w9 hSw; first | (go_simp; done) | (go_simp; with_reducible rfl))
  (try simp only [Act.put, List.setIfInBounds_toArray, List.set_cons_zero, List.set_cons_succ])
  (refine take_q (i := 4) (d := 20) (v := ?v140) rfl rfl (by kernel_rfl) (by kernel_rfl) (by kernel_rfl) (fun _ _ _ h => h) (by kernel_rfl) ?hy140 (by assumption) ?rest140)
  case hy140 => (intro w9 hSw; first | (go_simp; done) | (go_simp; with_reducible rfl))
  (try simp only [Act.put, List.setIfInBounds_toArray, List.set_cons_zero, List.set_cons_succ])
  (refine take_q (i := 5) (d := 21) (v := ?v141) rfl rfl (by kernel_rfl) (by kernel_rfl) (by kernel_rfl) (fun _ _ _ h => h) (by kernel_rfl) ?hy141 (by assumption) ?rest141)
  case hy141 => (intro w9 hSw; have hc9 := Blk.cell hSw.2; clear hSw; first | (go_simp; done) | (go_simp; with_reducible rfl))
  (try simp only [Act.put, List.setIfInBounds_toArray, List.set_cons_zero, List.set_cons_succ])
  (refine wpAnyH_ready (rs := [3]) (by kernel_rfl) (by simp) ?_)
  (refine AllReadyH.cons (o := _) rfl (fun K hK => ?_) AllReadyH.nil)
  go_simp
  go_simp
  (with_reducible refine (in_readers q n _).mono ?_)
  rintro e w4 ⟨rfl, hm, hi4, hj4, hb4⟩
  have HM := Lib.hid (show MapIs w4 (b + 1 + 2) (rmap q (b + 1) (b + 1 + 1)) by rw [← hs0]; exact hm)
  have HX4 := Lib.hid ((HX0.out.kept (Below.refl _ _).drew).kept hb4)
  have HI4 := Lib.hid (HI0.out.drew.kept hb4)
  have HR4 := Lib.hid (HR0.out.drew.kept hb4)
  have HB4 := Lib.hid (HB0.out.drew.trans (hb4.mono (by have := HB0.out.size; simpa using this)))
  have HIM := Lib.hid (show Blk w4 (b + 1) 116 #[.pointer (some ⟨q, 0, none⟩)] by rw [← hs0]; exact hi4)
  have HJM := Lib.hid (show Blk w4 (b + 1 + 1) 3 #[.int .i64 (n : Int)] by rw [← hs0]; exact hj4)
  clear hm hi4 hj4 hb4
  go_simp
  (refine hK.out _ _ ⟨HI4.out, HX4.out.blk⟩ (fun hHeld => ?_))
  clear hK K
  have hlk := HM.out.look Tryd.underlying120 Tryd.underlying3 (k0 : Int) (.func (.func 83) #[inV q] #[]) (by have hk := HKN.out; first | (subst hk; rfl) | (rcases hk with rfl | rfl <;> rfl)) true
  (refine wpAnyH_ready (rs := [6]) (by kernel_rfl) (by simp) ?_)
  (refine AllReadyH.cons (o := _) rfl (fun K hK => ?_) AllReadyH.nil)
  go_simp
  (refine hK.out _ _ ⟨HI4.out, HX4.out.blk⟩ (fun hHeld => ?_))
  clear hK K
  (refine take_q (i := 7) (d := 15) (v := ?v142) rfl rfl (by kernel_rfl) (by kernel_rfl) (by kernel_rfl) (fun _ _ _ h => h) (by kernel_rfl) ?hy142 (by assumption) ?rest142)
  case hy142 => (intro w9 hSw; first | (go_simp; done) | (go_simp; with_reducible rfl))
  (try simp only [Act.put, List.setIfInBounds_toArray, List.set_cons_zero, List.set_cons_succ])
  (refine take_q (i := 8) (d := 23) (v := ?v143) rfl rfl (by kernel_rfl) (by kernel_rfl) (by kernel_rfl) (fun _ _ _ h => h) (by kernel_rfl) ?hy143 (by assumption) ?rest143)
  case hy143 => (intro w9 hSw; first | (go_simp; done) | (go_simp; with_reducible rfl))
  (try simp only [Act.put, List.setIfInBounds_toArray, List.set_cons_zero, List.set_cons_succ])
  (refine take_q (i := 9) (d := 24) (v := ?v144) rfl rfl (by kernel_rfl) (by kernel_rfl) (by kernel_rfl) (fun _ _ _ h => h) (by kernel_rfl) ?hy144 (by assumption) ?rest144)
  case hy144 => (intro w9 hSw; first | (go_simp; done) | (go_simp; with_reducible rfl))
  (try simp only [Act.put, List.setIfInBounds_toArray, List.set_cons_zero, List.set_cons_succ])
  (refine take_q (i := 10) (d := 6) (v := ?v145) rfl rfl (by kernel_rfl) (by kernel_rfl) (by kernel_rfl) (fun _ _ _ h => h) (by kernel_rfl) ?hy145 (by assumption) ?rest145)
  case hy145 => (intro w9 hSw; first | (go_simp; done) | (go_simp; with_reducible rfl))
  (try simp only [Act.put, List.setIfInBounds_toArray, List.set_cons_zero, List.set_cons_succ])
  (refine take_q (i := 11) (d := 7) (v := ?v146) rfl rfl (by kernel_rfl) (by kernel_rfl) (by kernel_rfl) (fun _ _ _ h => h) (by kernel_rfl) ?hy146 (by assumption) ?rest146)
  case hy146 => (intro w9 hSw; first | (go_simp; done) | (go_simp; with_reducible rfl))
  (try simp only [Act.put, List.setIfInBounds_toArray, List.set_cons_zero, List.set_cons_succ])
  (refine wpAnyH_done (by kernel_rfl) ?_ _)
  have hci := HI4.out.cell
  have hRq : W.heap.size ≠ q := by omega
  have hRb : W.heap.size ≠ b := by omega
  have hIb : bI ≠ b := by omega
  clear hlk
  go_wp2_with fail
  go_at_call 58; (with_reducible refine (in_num HX4.out.rd).mono ?_); rintro e w5 ⟨rfl, fv5, hr, hf⟩
  have HX5 := Lib.hid (HX4.out.read (by omega) hr hf)
  have HI5 := Lib.hid (hf.blk HI4.out hIq)
  have HR5 := Lib.hid (hf.blk HR4.out hRq)
  have HIM5 := Lib.hid (hf.blk HIM.out (by omega))
  have HJM5 := Lib.hid (hf.blk HJM.out (by omega))
  have HB5 := Lib.hid (HB4.out.trans (hf.1.below HB4.out.size (fun k e => by omega)))
  clear hr hf hci HX4 HI4 HR4 HIM HJM HB4
  have HID := Lib.hid (show numP xs M40 s1 = numP xs M40 s1 from rfl)
  generalize hid : numP xs M40 s1 = y at *
  clear HID
  have HID := Lib.hid hid
  clear hid
  obtain ⟨id0, s2⟩ := y
  dsimp only at HX5 ⊢
  have hcb := HX5.out.blk.cell
  have hfb := HX5.out.blk.frozen
  have HX6 := Lib.hid (HX5.out.set_ (r1 := ⟨(k0 : Int), (id0 : Int), 0, [], cell0, cell0, 0⟩) 1 (.int .i64 (id0 : Int)) rfl HX5.out.cells)
  have HI6 := Lib.hid (HI5.out.far (p := ⟨b, 1, none⟩) hIb (.int .i64 (id0 : Int)))
  have HR6 := Lib.hid (HR5.out.far (p := ⟨b, 1, none⟩) hRb (.int .i64 (id0 : Int)))
  go_wp2_with fail
  (with_reducible refine (in_get HX6.out (by omega)).mono ?_)
  rintro e w6 ⟨rfl, fv6, v6, hx⟩
  have HX7 := Lib.hid (show RqIs W0 q b A1 n c1 xs (readD xs).1 (readD xs).2 fv6 v6 w6 from by
    have e : readD xs = ((⟨(k0 : Int), (id0 : Int), ((numP xs M40 s2).1 : Int), [(cellP xs (numP xs M40 s2).2).1], cell0, cell0, 0⟩ : Rq), (cellP xs (numP xs M40 s2).2).2) := by
      unfold readD bodyD
      rw [HKD.out]
      dsimp only
      rw [HID.out]
      have hk := HKN.out
      first | (subst hk; simp; done) | (rcases hk with rfl | rfl <;> simp; done)
    rw [e]
    exact hx)
  clear hx hcb hfb HX6 HX5 HI5 HR5 HI6 HR6 HIM5 HJM5
  have HDEC := Lib.hid (show decRq xs = if (checkD (checkRq (readD xs).1) (endP xs (readD xs).2)).fault.isSome then (rq0, (checkD (checkRq (readD xs).1) (endP xs (readD xs).2)).fault) else ((readD xs).1, none) by
    unfold decRq
    rw [if_neg (by rw [HKD.out]; have := HKN.out; omega)])
  have HOK := Lib.hid (readD_ok xs)
  generalize readD xs = y at *
  obtain ⟨r', s3⟩ := y
  dsimp only at HX7 HDEC HOK
  have HI7 := Lib.hid (HI0.out.tur HX7.out.tur (by omega))
  have HR7 := Lib.hid (HR0.out.tur HX7.out.tur (by omega))
  have HB7 := Lib.hid (HB0.out.trans (HX7.out.tur.below (by have := HB0.out.size; omega) (fun k e => by omega)))
  have hci := HI7.out.cell
  go_wp2_with fail
  go_at_call 62; (with_reducible refine (rd_end HX7.out.rd).mono ?_); rintro e w7 ⟨rfl, fv7, hr, hf⟩
  have HX8 := Lib.hid (HX7.out.read (by omega) hr hf)
  have HI8 := Lib.hid (HI0.out.tur HX8.out.tur (by omega))
  have HR8 := Lib.hid (HR0.out.tur HX8.out.tur (by omega))
  have HB8 := Lib.hid (HB0.out.trans (HX8.out.tur.below (by have := HB0.out.size; omega) (fun k e => by omega)))
  clear hr hf HX7 HI7 HR7 HB7 hci
  have hci := HI8.out.cell
  go_wp2_with fail
  go_at_call 61; (with_reducible refine (rd_err HX8.out.rd).mono ?_); rintro e w8 ⟨hb8, he⟩
  have HX9 := Lib.hid (HX8.out.kept hb8)
  have HI9 := Lib.hid (HI8.out.kept hb8)
  have HR9 := Lib.hid (HR8.out.kept hb8)
  have HB9 := Lib.hid (HB8.out.trans (hb8.mono HB8.out.size))
  clear hb8 HX8 HI8 HR8 HB8 hci
  have hci := HI9.out.cell
  rcases hfl : (endP xs s3).fault with _ | ⟨code, pl⟩
  · rw [hfl] at he
    obtain rfl := he
    go_wp2_with fail
    obtain ⟨As, cz, rfl, hrd, hba⟩ := HX9.out.cells.rd
    have HCR := Lib.hid hrd
    have HLE := Lib.hid (CellsOwn.le HX9.out.cells)
    clear hrd hba hci
    (refine wp_region_held_drew (S := fun w9 => Blk w9 bI 116 #[.pointer (some ⟨q, 0, none⟩)] ∧ Blk w9 b 26 (rqC (.slice As r'.cs.length cz) r')) (by kernel_rfl) ⟨HI9.out.drew, HX9.out.blk.drew⟩ (fun hHeld => ?_))
    (refine take_q (i := 0) (d := 46) (v := ?v147) rfl rfl (by kernel_rfl) (by kernel_rfl) (by kernel_rfl) (fun _ _ _ h => h) (by kernel_rfl) ?hy147 (by assumption) ?rest147)
    case hy147 => (intro w9 hSw; first | (go_simp; done) | (go_simp; with_reducible rfl))
    (try simp only [Act.put, List.setIfInBounds_toArray, List.set_cons_zero, List.set_cons_succ])
    (refine take_q (i := 1) (d := 47) (v := ?v148) rfl rfl (by kernel_rfl) (by kernel_rfl) (by kernel_rfl) (fun _ _ _ h => h) (by kernel_rfl) ?hy148 (by assumption) ?rest148)
    case hy148 => (intro w9 hSw; have hc9 := Blk.cell hSw.1; clear hSw; first | (go_simp; done) | (go_simp; with_reducible rfl))
    (try simp only [Act.put, List.setIfInBounds_toArray, List.set_cons_zero, List.set_cons_succ])
    (refine take_q (i := 2) (d := 48) (v := ?v149) rfl rfl (by kernel_rfl) (by kernel_rfl) (by kernel_rfl) (fun _ _ _ h => h) (by kernel_rfl) ?hy149 (by assumption) ?rest149)
    case hy149 => (intro w9 hSw; have hc9 := Blk.cell hSw.2; clear hSw; first | (go_simp; done) | (go_simp; with_reducible rfl))
    (try simp only [Act.put, List.setIfInBounds_toArray, List.set_cons_zero, List.set_cons_succ])
    (refine wpAnyH_ready (rs := [3]) (by kernel_rfl) (by simp) ?_)
    (refine AllReadyH.cons (o := _) rfl (fun K hK => ?_) AllReadyH.nil)
    go_simp
    go_simp
    (with_reducible refine (check_rq As r'.cs.length cz r' _ rfl (HCR.out.below (Below.refl _ _).drew) HLE.out HOK.out).mono ?_)
    rintro e w9 ⟨rfl, hb9⟩
    have HX10 := Lib.hid ((HX9.out.kept (Below.refl _ _).drew).kept hb9)
    have HI10 := Lib.hid (HI9.out.drew.kept hb9)
    clear hb9
    go_simp
    (refine hK.out _ _ ⟨HI10.out, HX10.out.blk⟩ (fun hHeld => ?_))
    clear hK K
    (try simp only [Act.put, List.setIfInBounds_toArray, List.set_cons_zero, List.set_cons_succ])
    (refine wpAnyH_ready (rs := [4]) (by kernel_rfl) (by simp) ?_)
    (refine AllReadyH.cons (o := _) rfl (fun K hK => ?_) AllReadyH.nil)
    go_simp
    go_simp
    (with_reducible refine (rd_fail HX10.out.rd (checkRq r') 0).mono ?_)
    rintro e wA ⟨rfl, fvA, hr, hf⟩
    have HX11 := Lib.hid (HX10.out.read (by omega) hr hf)
    have HI11 := Lib.hid (HI0.out.tur HX11.out.tur (by omega))
    have HR11 := Lib.hid (HR0.out.tur HX11.out.tur (by omega))
    have HB11 := Lib.hid (HB0.out.trans (HX11.out.tur.below (by have := HB0.out.size; omega) (fun k e => by omega)))
    clear hr hf
    go_simp
    (refine hK.out _ _ ⟨HI11.out, HX11.out.blk⟩ (fun hHeld => ?_))
    clear hK K
    (refine wpAnyH_done (by kernel_rfl) ?_ _)
    have HCD := Lib.hid (show checkD (checkRq r') (endP xs s3) = (endP xs s3).fail (checkRq r') 0 by unfold checkD; simp [hfl])
    have hci := HI11.out.cell
    go_wp2_with fail
    go_at_call 61; (with_reducible refine (rd_err HX11.out.rd).mono ?_); rintro e wB ⟨hbB, he⟩
    have HX12 := Lib.hid (HX11.out.kept hbB)
    have HR12 := Lib.hid (HR11.out.kept hbB)
    have HB12 := Lib.hid (HB11.out.trans (hbB.mono HB11.out.size))
    have hcR := HR12.out.cell
    have hfR := HR12.out.frozen
    clear hbB hci
    rcases hf2 : ((endP xs s3).fail (checkRq r') 0).fault with _ | ⟨code, pl⟩
    · rw [hf2] at he
      obtain rfl := he
      have HD := Lib.hid (show decRq xs = (r', none) by rw [HDEC.out, HCD.out]; simp [hf2])
      have hcb := HX12.out.blk.cell
      have HS := Lib.hid (set11 HR12.out (.int .i64 r'.kind) (.int .i64 r'.id) (.int .i64 r'.epoch) (.slice As r'.cs.length cz) (.int .i64 r'.frm.view) (.string r'.frm.key) (.int .i64 r'.frm.start) (.int .i64 r'.too.view) (.string r'.too.key) (.int .i64 r'.too.start) (.int .i64 r'.limit))
      go_wp2
      generalize (World.setCell (World.setCell (World.setCell (World.setCell (World.setCell (World.setCell (World.setCell (World.setCell (World.setCell (World.setCell (World.setCell wB ⟨W.heap.size, 0, none⟩ (.int .i64 r'.kind)) ⟨W.heap.size, 1, none⟩ (.int .i64 r'.id)) ⟨W.heap.size, 2, none⟩ (.int .i64 r'.epoch)) ⟨W.heap.size, 3, none⟩ (.slice As r'.cs.length cz)) ⟨W.heap.size, 4, none⟩ (.int .i64 r'.frm.view)) ⟨W.heap.size, 5, none⟩ (.string r'.frm.key)) ⟨W.heap.size, 6, none⟩ (.int .i64 r'.frm.start)) ⟨W.heap.size, 7, none⟩ (.int .i64 r'.too.view)) ⟨W.heap.size, 8, none⟩ (.string r'.too.key)) ⟨W.heap.size, 9, none⟩ (.int .i64 r'.too.start)) ⟨W.heap.size, 10, none⟩ (.int .i64 r'.limit)) = wC at HS ⊢
      have hc7 := HS.out.1.cell
      exact bodyPost_ret (v := .tuple #[.agg (rqC (.slice As r'.cs.length cz) r'), .nilIface]) (by simp [results, Tryd.results27, go_sem, hc7]) rfl
        ⟨HB12.out.trans (HS.out.2.below HB12.out.size (fun k e => by omega)), by rw [HD.out]; exact ⟨_, rfl, HX12.out.cells_low HS.out.2 (by omega)⟩⟩
    · rw [hf2] at he
      obtain ⟨g, rfl, hg⟩ := he
      have HG := Lib.hid hg
      have HD := Lib.hid (show decRq xs = (rq0, some (code, pl)) by rw [HDEC.out, HCD.out]; simp [hf2])
      clear hg
      have HS := Lib.hid (set11 HR12.out (.int .i64 0) (.int .i64 0) (.int .i64 0) (.slice none 0 0) (.int .i64 0) (.string ⟨#[]⟩) (.int .i64 0) (.int .i64 0) (.string ⟨#[]⟩) (.int .i64 0) (.int .i64 0))
      go_wp2
      generalize (World.setCell (World.setCell (World.setCell (World.setCell (World.setCell (World.setCell (World.setCell (World.setCell (World.setCell (World.setCell (World.setCell wB ⟨W.heap.size, 0, none⟩ (.int .i64 0)) ⟨W.heap.size, 1, none⟩ (.int .i64 0)) ⟨W.heap.size, 2, none⟩ (.int .i64 0)) ⟨W.heap.size, 3, none⟩ (.slice none 0 0)) ⟨W.heap.size, 4, none⟩ (.int .i64 0)) ⟨W.heap.size, 5, none⟩ (.string ⟨#[]⟩)) ⟨W.heap.size, 6, none⟩ (.int .i64 0)) ⟨W.heap.size, 7, none⟩ (.int .i64 0)) ⟨W.heap.size, 8, none⟩ (.string ⟨#[]⟩)) ⟨W.heap.size, 9, none⟩ (.int .i64 0)) ⟨W.heap.size, 10, none⟩ (.int .i64 0)) = wC at HS ⊢
      have hc7 := HS.out.1.cell
      exact bodyPost_ret (v := .tuple #[.agg (rqC nilS rq0), errV g]) (by simp [results, Tryd.results27, go_sem, hc7, rq0, cell0]) rfl
        ⟨HB12.out.trans (HS.out.2.below HB12.out.size (fun k e => by omega)), by rw [HD.out]; exact ⟨g, rfl, HG.out.tur HS.out.2 (fun e => by subst e; exact absurd rfl (HR12.out.ne_ HG.out (by decide)))⟩⟩
  · rw [hfl] at he
    obtain ⟨g0, rfl, _⟩ := he
    go_wp2_with fail
    go_at_call 61; (with_reducible refine (rd_err HX9.out.rd).mono ?_); rintro e w9 ⟨hb9, he⟩
    rw [hfl] at he
    obtain ⟨g, rfl, hg⟩ := he
    have HG := Lib.hid hg
    have HR10 := Lib.hid (HR9.out.kept hb9)
    have HB10 := Lib.hid (HB9.out.trans (hb9.mono HB9.out.size))
    have HD := Lib.hid (show decRq xs = (rq0, some (code, pl)) by rw [HDEC.out]; unfold checkD; simp [hfl])
    have hcR := HR10.out.cell
    have hfR := HR10.out.frozen
    clear hb9 hg hci
    have HS := Lib.hid (set11 HR10.out (.int .i64 0) (.int .i64 0) (.int .i64 0) (.slice none 0 0) (.int .i64 0) (.string ⟨#[]⟩) (.int .i64 0) (.int .i64 0) (.string ⟨#[]⟩) (.int .i64 0) (.int .i64 0))
    go_wp2
    generalize (World.setCell (World.setCell (World.setCell (World.setCell (World.setCell (World.setCell (World.setCell (World.setCell (World.setCell (World.setCell (World.setCell w9 ⟨W.heap.size, 0, none⟩ (.int .i64 0)) ⟨W.heap.size, 1, none⟩ (.int .i64 0)) ⟨W.heap.size, 2, none⟩ (.int .i64 0)) ⟨W.heap.size, 3, none⟩ (.slice none 0 0)) ⟨W.heap.size, 4, none⟩ (.int .i64 0)) ⟨W.heap.size, 5, none⟩ (.string ⟨#[]⟩)) ⟨W.heap.size, 6, none⟩ (.int .i64 0)) ⟨W.heap.size, 7, none⟩ (.int .i64 0)) ⟨W.heap.size, 8, none⟩ (.string ⟨#[]⟩)) ⟨W.heap.size, 9, none⟩ (.int .i64 0)) ⟨W.heap.size, 10, none⟩ (.int .i64 0)) = w10 at HS ⊢
    have hc7 := HS.out.1.cell
    exact bodyPost_ret (v := .tuple #[.agg (rqC nilS rq0), errV g]) (by simp [results, Tryd.results27, go_sem, hc7, rq0, cell0]) rfl
      ⟨HB10.out.trans (HS.out.2.below HB10.out.size (fun k e => by omega)), by rw [HD.out]; exact ⟨g, rfl, HG.out.tur HS.out.2 (fun e => by subst e; exact absurd rfl (HR10.out.ne_ HG.out (by decide)))⟩⟩
set_option maxHeartbeats 8000000 in
set_option maxRecDepth 100000 in
theorem decode_rq_many (A : Option Addr) (n c : Nat) (xs : List Int) (hk : (kindD xs).1 = 2) (W : World) (hl : xs.length = n) (h : CellsAt W A (bvs xs)) (hw : ∀ x ∈ xs, (Lit.int .u8 x).wf = true) (hn : n ≤ 211106232532992) (hT : W.cell? ⟨0, 0, none⟩ = some tyErr) :
    Calls Tryd.prog 27 #[.slice A n c] W (DecQ W (decRq xs)) := by
  have HR0 := Lib.hid (Blk.new W 26 #[.int .i64 0, .int .i64 0, .int .i64 0, .slice none 0 0, .int .i64 0, .string ⟨#[]⟩, .int .i64 0, .int .i64 0, .string ⟨#[]⟩, .int .i64 0, .int .i64 0])
  have CR := Lib.hid (rd_read A n c xs (W.alloc (.cells #[.int .i64 0, .int .i64 0, .int .i64 0, .slice none 0 0, .int .i64 0, .string ⟨#[]⟩, .int .i64 0, .int .i64 0, .string ⟨#[]⟩, .int .i64 0, .int .i64 0] 26)) hl (h.below ((Below.refl _ _).alloc (Nat.le_refl _) _)) hw hn (((Below.refl W.heap.size W).alloc (Nat.le_refl _) _).cell (World.block_lt_of_cell? W _ hT) ▸ hT))
  have HTL := Lib.hid (World.block_lt_of_cell? W _ hT)
  have HKN := Lib.hid hk
  clear h hw hn hT hk
  go_enter Tryd.func27, Tryd.ntmps27
  go_wp2_with fail
  go_at_call 57; (with_reducible refine CR.out.mono ?_); rintro e w1 ⟨q, A1, c1, rfl, hq, hr, hA1, hb⟩
  have HB1 := Lib.hid (((Below.refl W.heap.size W).alloc (Nat.le_refl _) (.cells #[.int .i64 0, .int .i64 0, .int .i64 0, .slice none 0 0, .int .i64 0, .string ⟨#[]⟩, .int .i64 0, .int .i64 0, .string ⟨#[]⟩, .int .i64 0, .int .i64 0] 26)).trans (hb.mono (by simp)))
  have HR1 := Lib.hid (HR0.out.kept hb)
  have HD1 := Lib.hid hr
  have HA1 := Lib.hid hA1
  have hqR : W.heap.size < q := by have : (W.alloc (.cells #[.int .i64 0, .int .i64 0, .int .i64 0, .slice none 0 0, .int .i64 0, .string ⟨#[]⟩, .int .i64 0, .int .i64 0, .string ⟨#[]⟩, .int .i64 0, .int .i64 0] 26)).heap.size = W.heap.size + 1 := by simp
                                   omega
  have HI2 := Lib.hid (Blk.new w1 116 #[.pointer (some ⟨q, 0, none⟩)])
  have hci := HI2.out.cell
  clear hb hr hA1 HR0 CR
  go_wp2_with fail
  go_at_call 58; (with_reducible refine (in_num (HD1.out.alloc (.cells #[.pointer (some ⟨q, 0, none⟩)] 116))).mono ?_); rintro e w3 ⟨rfl, fv3, hr, hf⟩
  have hIq : w1.heap.size ≠ q := by have := HD1.out.blk.lt; omega
  have HI3 := Lib.hid (hf.blk HI2.out hIq)
  have HR3 := Lib.hid (hf.blk (HR1.out.alloc (.cells #[.pointer (some ⟨q, 0, none⟩)] 116)) (by omega))
  have HB3 := Lib.hid (HB1.out.trans (((RdFr.alloc0 w1 q .nilIface (.cells #[.pointer (some ⟨q, 0, none⟩)] 116)).trans hf).1.below HB1.out.size (fun k e => by omega)))
  have hs3 : w1.heap.size < w3.heap.size := HI3.out.lt
  have HD3 := Lib.hid hr
  have hRI : W.heap.size ≤ w1.heap.size := HB1.out.size
  have HA3 := Lib.hid (show ∀ ad, A1 = some ad → ad.block < w1.heap.size from fun ad e => (HA1.out ad e).2)
  have hq1 : q < w1.heap.size := HD1.out.blk.lt
  have hTR := HTL.out
  have HKD := Lib.hid (show kindD xs = numP xs M40 ⟨0, none⟩ from rfl)
  clear hr hf HI2 HR1 HD1 HA1 HB1 hci hq
  generalize numP xs M40 ⟨0, none⟩ = y at *
  obtain ⟨k0, s1⟩ := y
  dsimp only at HD3 ⊢
  rw [HKD.out] at HKN
  generalize hI : w1.heap.size = bI at *
  have hci := HI3.out.cell
  go_wp2_with fail
  have HK0 := Lib.hid (Blk.new w3 26 #[.int .i64 (k0 : Int), .int .i64 0, .int .i64 0, .slice none 0 0, .int .i64 0, .string ⟨#[]⟩, .int .i64 0, .int .i64 0, .string ⟨#[]⟩, .int .i64 0, .int .i64 0])
  have HI0 := Lib.hid (HI3.out.alloc (.cells #[.int .i64 (k0 : Int), .int .i64 0, .int .i64 0, .slice none 0 0, .int .i64 0, .string ⟨#[]⟩, .int .i64 0, .int .i64 0, .string ⟨#[]⟩, .int .i64 0, .int .i64 0] 26))
  have HR0 := Lib.hid (HR3.out.alloc (.cells #[.int .i64 (k0 : Int), .int .i64 0, .int .i64 0, .slice none 0 0, .int .i64 0, .string ⟨#[]⟩, .int .i64 0, .int .i64 0, .string ⟨#[]⟩, .int .i64 0, .int .i64 0] 26))
  have HB0 := Lib.hid (HB3.out.alloc (by omega) (.cells #[.int .i64 (k0 : Int), .int .i64 0, .int .i64 0, .slice none 0 0, .int .i64 0, .string ⟨#[]⟩, .int .i64 0, .int .i64 0, .string ⟨#[]⟩, .int .i64 0, .int .i64 0] 26))
  have HX0 := Lib.hid (RqIs.start (r := ⟨(k0 : Int), 0, 0, [], cell0, cell0, 0⟩) HK0.out rfl (HD3.out.alloc (.cells #[.int .i64 (k0 : Int), .int .i64 0, .int .i64 0, .slice none 0 0, .int .i64 0, .string ⟨#[]⟩, .int .i64 0, .int .i64 0, .string ⟨#[]⟩, .int .i64 0, .int .i64 0] 26)) (by omega) (fun ad e => by have := HA3.out ad e; simp; omega) (by omega))
  have hs0 : (w3.alloc (.cells #[.int .i64 (k0 : Int), .int .i64 0, .int .i64 0, .slice none 0 0, .int .i64 0, .string ⟨#[]⟩, .int .i64 0, .int .i64 0, .string ⟨#[]⟩, .int .i64 0, .int .i64 0] 26)).heap.size = w3.heap.size + 1 := by simp
  generalize hb : w3.heap.size = b at *
  generalize w3.alloc (.cells #[.int .i64 (k0 : Int), .int .i64 0, .int .i64 0, .slice none 0 0, .int .i64 0, .string ⟨#[]⟩, .int .i64 0, .int .i64 0, .string ⟨#[]⟩, .int .i64 0, .int .i64 0] 26) = W0 at *
  clear HR3 HB3 HI3 HD3 hci hb
  (refine wp_region_held_drew (S := fun w9 => Blk w9 bI 116 #[.pointer (some ⟨q, 0, none⟩)] ∧ Blk w9 b 26 #[.int .i64 (k0 : Int), .int .i64 0, .int .i64 0, .slice none 0 0, .int .i64 0, .string ⟨#[]⟩, .int .i64 0, .int .i64 0, .string ⟨#[]⟩, .int .i64 0, .int .i64 0]) (by kernel_rfl) ⟨HI0.out.drew, HX0.out.blk.drew⟩ (fun hHeld => ?_))
  (refine take_q (i := 0) (d := 16) (v := ?v150) rfl rfl (by kernel_rfl) (by kernel_rfl) (by kernel_rfl) (fun _ _ _ h => h) (by kernel_rfl) ?hy150 (by assumption) ?rest150)
  case hy150 => (intro w9 hSw; have hc9 := Blk.cell hSw.1; clear hSw; first | (go_simp; done) | (go_simp; with_reducible rfl))
  (try simp only [Act.put, List.setIfInBounds_toArray, List.set_cons_zero, List.set_cons_succ])
  (refine take_q (i := 1) (d := 17) (v := ?v151) rfl rfl (by kernel_rfl) (by kernel_rfl) (by kernel_rfl) (fun _ _ _ h => h) (by kernel_rfl) ?hy151 (by assumption) ?rest151)
  case hy151 => (intro w9 hSw; first | (go_simp; done) | (go_simp; with_reducible rfl))
  (try simp only [Act.put, List.setIfInBounds_toArray, List.set_cons_zero, List.set_cons_succ])
  (refine take_q (i := 2) (d := 18) (v := ?v152) rfl rfl (by kernel_rfl) (by kernel_rfl) (by kernel_rfl) (fun _ _ _ h => h) (by kernel_rfl) ?hy152 (by assumption) ?rest152)
  case hy152 => (intro w9 hSw; first | (go_simp; done) | (go_simp; with_reducible rfl))
  (try simp only [Act.put, List.setIfInBounds_toArray, List.set_cons_zero, List.set_cons_succ])
  (refine take_q (i := 4) (d := 20) (v := ?v153) rfl rfl (by kernel_rfl) (by kernel_rfl) (by kernel_rfl) (fun _ _ _ h => h) (by kernel_rfl) ?hy153 (by assumption) ?rest153)
  case hy153 => (intro w9 hSw; first | (go_simp; done) | (go_simp; with_reducible rfl))
  (try simp only [Act.put, List.setIfInBounds_toArray, List.set_cons_zero, List.set_cons_succ])
  (refine take_q (i := 5) (d := 21) (v := ?v154) rfl rfl (by kernel_rfl) (by kernel_rfl) (by kernel_rfl) (fun _ _ _ h => h) (by kernel_rfl) ?hy154 (by assumption) ?rest154)
  case hy154 => (intro w9 hSw; have hc9 := Blk.cell hSw.2; clear hSw; first | (go_simp; done) | (go_simp; with_reducible rfl))
  (try simp only [Act.put, List.setIfInBounds_toArray, List.set_cons_zero, List.set_cons_succ])
  (refine wpAnyH_ready (rs := [3]) (by kernel_rfl) (by simp) ?_)
  (refine AllReadyH.cons (o := _) rfl (fun K hK => ?_) AllReadyH.nil)
  go_simp
  go_simp
  (with_reducible refine (in_readers q n _).mono ?_)
  rintro e w4 ⟨rfl, hm, hi4, hj4, hb4⟩
  have HM := Lib.hid (show MapIs w4 (b + 1 + 2) (rmap q (b + 1) (b + 1 + 1)) by rw [← hs0]; exact hm)
  have HX4 := Lib.hid ((HX0.out.kept (Below.refl _ _).drew).kept hb4)
  have HI4 := Lib.hid (HI0.out.drew.kept hb4)
  have HR4 := Lib.hid (HR0.out.drew.kept hb4)
  have HB4 := Lib.hid (HB0.out.drew.trans (hb4.mono (by have := HB0.out.size; simpa using this)))
  have HIM := Lib.hid (show Blk w4 (b + 1) 116 #[.pointer (some ⟨q, 0, none⟩)] by rw [← hs0]; exact hi4)
  have HJM := Lib.hid (show Blk w4 (b + 1 + 1) 3 #[.int .i64 (n : Int)] by rw [← hs0]; exact hj4)
  clear hm hi4 hj4 hb4
  go_simp
  (refine hK.out _ _ ⟨HI4.out, HX4.out.blk⟩ (fun hHeld => ?_))
  clear hK K
  have hlk := HM.out.look Tryd.underlying120 Tryd.underlying3 (k0 : Int) (.func (.func 81) #[] #[.pointer (some ⟨b + 1, 0, none⟩), .pointer (some ⟨b + 1 + 1, 0, none⟩)]) (by have hk := HKN.out; first | (subst hk; rfl) | (rcases hk with rfl | rfl <;> rfl)) true
  (refine wpAnyH_ready (rs := [6]) (by kernel_rfl) (by simp) ?_)
  (refine AllReadyH.cons (o := _) rfl (fun K hK => ?_) AllReadyH.nil)
  go_simp
  (refine hK.out _ _ ⟨HI4.out, HX4.out.blk⟩ (fun hHeld => ?_))
  clear hK K
  (refine take_q (i := 7) (d := 15) (v := ?v155) rfl rfl (by kernel_rfl) (by kernel_rfl) (by kernel_rfl) (fun _ _ _ h => h) (by kernel_rfl) ?hy155 (by assumption) ?rest155)
  case hy155 => (intro w9 hSw; first | (go_simp; done) | (go_simp; with_reducible rfl))
  (try simp only [Act.put, List.setIfInBounds_toArray, List.set_cons_zero, List.set_cons_succ])
  (refine take_q (i := 8) (d := 23) (v := ?v156) rfl rfl (by kernel_rfl) (by kernel_rfl) (by kernel_rfl) (fun _ _ _ h => h) (by kernel_rfl) ?hy156 (by assumption) ?rest156)
  case hy156 => (intro w9 hSw; first | (go_simp; done) | (go_simp; with_reducible rfl))
  (try simp only [Act.put, List.setIfInBounds_toArray, List.set_cons_zero, List.set_cons_succ])
  (refine take_q (i := 9) (d := 24) (v := ?v157) rfl rfl (by kernel_rfl) (by kernel_rfl) (by kernel_rfl) (fun _ _ _ h => h) (by kernel_rfl) ?hy157 (by assumption) ?rest157)
  case hy157 => (intro w9 hSw; first | (go_simp; done) | (go_simp; with_reducible rfl))
  (try simp only [Act.put, List.setIfInBounds_toArray, List.set_cons_zero, List.set_cons_succ])
  (refine take_q (i := 10) (d := 6) (v := ?v158) rfl rfl (by kernel_rfl) (by kernel_rfl) (by kernel_rfl) (fun _ _ _ h => h) (by kernel_rfl) ?hy158 (by assumption) ?rest158)
  case hy158 => (intro w9 hSw; first | (go_simp; done) | (go_simp; with_reducible rfl))
  (try simp only [Act.put, List.setIfInBounds_toArray, List.set_cons_zero, List.set_cons_succ])
  (refine take_q (i := 11) (d := 7) (v := ?v159) rfl rfl (by kernel_rfl) (by kernel_rfl) (by kernel_rfl) (fun _ _ _ h => h) (by kernel_rfl) ?hy159 (by assumption) ?rest159)
  case hy159 => (intro w9 hSw; first | (go_simp; done) | (go_simp; with_reducible rfl))
  (try simp only [Act.put, List.setIfInBounds_toArray, List.set_cons_zero, List.set_cons_succ])
  (refine wpAnyH_done (by kernel_rfl) ?_ _)
  have hci := HI4.out.cell
  have hRq : W.heap.size ≠ q := by omega
  have hRb : W.heap.size ≠ b := by omega
  have hIb : bI ≠ b := by omega
  clear hlk
  go_wp2_with fail
  go_at_call 58; (with_reducible refine (in_num HX4.out.rd).mono ?_); rintro e w5 ⟨rfl, fv5, hr, hf⟩
  have HX5 := Lib.hid (HX4.out.read (by omega) hr hf)
  have HI5 := Lib.hid (hf.blk HI4.out hIq)
  have HR5 := Lib.hid (hf.blk HR4.out hRq)
  have HIM5 := Lib.hid (hf.blk HIM.out (by omega))
  have HJM5 := Lib.hid (hf.blk HJM.out (by omega))
  have HB5 := Lib.hid (HB4.out.trans (hf.1.below HB4.out.size (fun k e => by omega)))
  clear hr hf hci HX4 HI4 HR4 HIM HJM HB4
  have HID := Lib.hid (show numP xs M40 s1 = numP xs M40 s1 from rfl)
  generalize hid : numP xs M40 s1 = y at *
  clear HID
  have HID := Lib.hid hid
  clear hid
  obtain ⟨id0, s2⟩ := y
  dsimp only at HX5 ⊢
  have hcb := HX5.out.blk.cell
  have hfb := HX5.out.blk.frozen
  have HX6 := Lib.hid (HX5.out.set_ (r1 := ⟨(k0 : Int), (id0 : Int), 0, [], cell0, cell0, 0⟩) 1 (.int .i64 (id0 : Int)) rfl HX5.out.cells)
  have HI6 := Lib.hid (HI5.out.far (p := ⟨b, 1, none⟩) hIb (.int .i64 (id0 : Int)))
  have HR6 := Lib.hid (HR5.out.far (p := ⟨b, 1, none⟩) hRb (.int .i64 (id0 : Int)))
  go_wp2_with fail
  (with_reducible refine (in_many (i := b + 1) (j := b + 1 + 1) HX6.out (by omega) (by omega) rfl (HIM5.out.far (p := ⟨b, 1, none⟩) (by simp) _) (HJM5.out.far (p := ⟨b, 1, none⟩) (by simp; omega) _)).mono ?_)
  rintro e w6 ⟨rfl, fv6, v6, hx⟩
  have HX7 := Lib.hid (show RqIs W0 q b A1 n c1 xs (readD xs).1 (readD xs).2 fv6 v6 w6 from by
    have e : readD xs = ((⟨(k0 : Int), (id0 : Int), ((numP xs M40 s2).1 : Int), (cellsP xs (countP xs 16 (numP xs M40 s2).2).1 ([], (countP xs 16 (numP xs M40 s2).2).2)).1, cell0, cell0, 0⟩ : Rq), (cellsP xs (countP xs 16 (numP xs M40 s2).2).1 ([], (countP xs 16 (numP xs M40 s2).2).2)).2) := by
      unfold readD bodyD
      rw [HKD.out]
      dsimp only
      rw [HID.out]
      have hk := HKN.out
      first | (subst hk; simp; done) | (rcases hk with rfl | rfl <;> simp; done)
    rw [e]
    exact hx)
  clear hx hcb hfb HX6 HX5 HI5 HR5 HI6 HR6 HIM5 HJM5
  have HDEC := Lib.hid (show decRq xs = if (checkD (checkRq (readD xs).1) (endP xs (readD xs).2)).fault.isSome then (rq0, (checkD (checkRq (readD xs).1) (endP xs (readD xs).2)).fault) else ((readD xs).1, none) by
    unfold decRq
    rw [if_neg (by rw [HKD.out]; have := HKN.out; omega)])
  have HOK := Lib.hid (readD_ok xs)
  generalize readD xs = y at *
  obtain ⟨r', s3⟩ := y
  dsimp only at HX7 HDEC HOK
  have HI7 := Lib.hid (HI0.out.tur HX7.out.tur (by omega))
  have HR7 := Lib.hid (HR0.out.tur HX7.out.tur (by omega))
  have HB7 := Lib.hid (HB0.out.trans (HX7.out.tur.below (by have := HB0.out.size; omega) (fun k e => by omega)))
  have hci := HI7.out.cell
  go_wp2_with fail
  go_at_call 62; (with_reducible refine (rd_end HX7.out.rd).mono ?_); rintro e w7 ⟨rfl, fv7, hr, hf⟩
  have HX8 := Lib.hid (HX7.out.read (by omega) hr hf)
  have HI8 := Lib.hid (HI0.out.tur HX8.out.tur (by omega))
  have HR8 := Lib.hid (HR0.out.tur HX8.out.tur (by omega))
  have HB8 := Lib.hid (HB0.out.trans (HX8.out.tur.below (by have := HB0.out.size; omega) (fun k e => by omega)))
  clear hr hf HX7 HI7 HR7 HB7 hci
  have hci := HI8.out.cell
  go_wp2_with fail
  go_at_call 61; (with_reducible refine (rd_err HX8.out.rd).mono ?_); rintro e w8 ⟨hb8, he⟩
  have HX9 := Lib.hid (HX8.out.kept hb8)
  have HI9 := Lib.hid (HI8.out.kept hb8)
  have HR9 := Lib.hid (HR8.out.kept hb8)
  have HB9 := Lib.hid (HB8.out.trans (hb8.mono HB8.out.size))
  clear hb8 HX8 HI8 HR8 HB8 hci
  have hci := HI9.out.cell
  rcases hfl : (endP xs s3).fault with _ | ⟨code, pl⟩
  · rw [hfl] at he
    obtain rfl := he
    go_wp2_with fail
    obtain ⟨As, cz, rfl, hrd, hba⟩ := HX9.out.cells.rd
    have HCR := Lib.hid hrd
    have HLE := Lib.hid (CellsOwn.le HX9.out.cells)
    clear hrd hba hci
    (refine wp_region_held_drew (S := fun w9 => Blk w9 bI 116 #[.pointer (some ⟨q, 0, none⟩)] ∧ Blk w9 b 26 (rqC (.slice As r'.cs.length cz) r')) (by kernel_rfl) ⟨HI9.out.drew, HX9.out.blk.drew⟩ (fun hHeld => ?_))
    (refine take_q (i := 0) (d := 46) (v := ?v160) rfl rfl (by kernel_rfl) (by kernel_rfl) (by kernel_rfl) (fun _ _ _ h => h) (by kernel_rfl) ?hy160 (by assumption) ?rest160)
    case hy160 => (intro w9 hSw; first | (go_simp; done) | (go_simp; with_reducible rfl))
    (try simp only [Act.put, List.setIfInBounds_toArray, List.set_cons_zero, List.set_cons_succ])
    (refine take_q (i := 1) (d := 47) (v := ?v161) rfl rfl (by kernel_rfl) (by kernel_rfl) (by kernel_rfl) (fun _ _ _ h => h) (by kernel_rfl) ?hy161 (by assumption) ?rest161)
    case hy161 => (intro w9 hSw; have hc9 := Blk.cell hSw.1; clear hSw; first | (go_simp; done) | (go_simp; with_reducible rfl))
    (try simp only [Act.put, List.setIfInBounds_toArray, List.set_cons_zero, List.set_cons_succ])
    (refine take_q (i := 2) (d := 48) (v := ?v162) rfl rfl (by kernel_rfl) (by kernel_rfl) (by kernel_rfl) (fun _ _ _ h => h) (by kernel_rfl) ?hy162 (by assumption) ?rest162)
    case hy162 => (intro w9 hSw; have hc9 := Blk.cell hSw.2; clear hSw; first | (go_simp; done) | (go_simp; with_reducible rfl))
    (try simp only [Act.put, List.setIfInBounds_toArray, List.set_cons_zero, List.set_cons_succ])
    (refine wpAnyH_ready (rs := [3]) (by kernel_rfl) (by simp) ?_)
    (refine AllReadyH.cons (o := _) rfl (fun K hK => ?_) AllReadyH.nil)
    go_simp
    go_simp
    (with_reducible refine (check_rq As r'.cs.length cz r' _ rfl (HCR.out.below (Below.refl _ _).drew) HLE.out HOK.out).mono ?_)
    rintro e w9 ⟨rfl, hb9⟩
    have HX10 := Lib.hid ((HX9.out.kept (Below.refl _ _).drew).kept hb9)
    have HI10 := Lib.hid (HI9.out.drew.kept hb9)
    clear hb9
    go_simp
    (refine hK.out _ _ ⟨HI10.out, HX10.out.blk⟩ (fun hHeld => ?_))
    clear hK K
    (try simp only [Act.put, List.setIfInBounds_toArray, List.set_cons_zero, List.set_cons_succ])
    (refine wpAnyH_ready (rs := [4]) (by kernel_rfl) (by simp) ?_)
    (refine AllReadyH.cons (o := _) rfl (fun K hK => ?_) AllReadyH.nil)
    go_simp
    go_simp
    (with_reducible refine (rd_fail HX10.out.rd (checkRq r') 0).mono ?_)
    rintro e wA ⟨rfl, fvA, hr, hf⟩
    have HX11 := Lib.hid (HX10.out.read (by omega) hr hf)
    have HI11 := Lib.hid (HI0.out.tur HX11.out.tur (by omega))
    have HR11 := Lib.hid (HR0.out.tur HX11.out.tur (by omega))
    have HB11 := Lib.hid (HB0.out.trans (HX11.out.tur.below (by have := HB0.out.size; omega) (fun k e => by omega)))
    clear hr hf
    go_simp
    (refine hK.out _ _ ⟨HI11.out, HX11.out.blk⟩ (fun hHeld => ?_))
    clear hK K
    (refine wpAnyH_done (by kernel_rfl) ?_ _)
    have HCD := Lib.hid (show checkD (checkRq r') (endP xs s3) = (endP xs s3).fail (checkRq r') 0 by unfold checkD; simp [hfl])
    have hci := HI11.out.cell
    go_wp2_with fail
    go_at_call 61; (with_reducible refine (rd_err HX11.out.rd).mono ?_); rintro e wB ⟨hbB, he⟩
    have HX12 := Lib.hid (HX11.out.kept hbB)
    have HR12 := Lib.hid (HR11.out.kept hbB)
    have HB12 := Lib.hid (HB11.out.trans (hbB.mono HB11.out.size))
    have hcR := HR12.out.cell
    have hfR := HR12.out.frozen
    clear hbB hci
    rcases hf2 : ((endP xs s3).fail (checkRq r') 0).fault with _ | ⟨code, pl⟩
    · rw [hf2] at he
      obtain rfl := he
      have HD := Lib.hid (show decRq xs = (r', none) by rw [HDEC.out, HCD.out]; simp [hf2])
      have hcb := HX12.out.blk.cell
      have HS := Lib.hid (set11 HR12.out (.int .i64 r'.kind) (.int .i64 r'.id) (.int .i64 r'.epoch) (.slice As r'.cs.length cz) (.int .i64 r'.frm.view) (.string r'.frm.key) (.int .i64 r'.frm.start) (.int .i64 r'.too.view) (.string r'.too.key) (.int .i64 r'.too.start) (.int .i64 r'.limit))
      go_wp2
      generalize (World.setCell (World.setCell (World.setCell (World.setCell (World.setCell (World.setCell (World.setCell (World.setCell (World.setCell (World.setCell (World.setCell wB ⟨W.heap.size, 0, none⟩ (.int .i64 r'.kind)) ⟨W.heap.size, 1, none⟩ (.int .i64 r'.id)) ⟨W.heap.size, 2, none⟩ (.int .i64 r'.epoch)) ⟨W.heap.size, 3, none⟩ (.slice As r'.cs.length cz)) ⟨W.heap.size, 4, none⟩ (.int .i64 r'.frm.view)) ⟨W.heap.size, 5, none⟩ (.string r'.frm.key)) ⟨W.heap.size, 6, none⟩ (.int .i64 r'.frm.start)) ⟨W.heap.size, 7, none⟩ (.int .i64 r'.too.view)) ⟨W.heap.size, 8, none⟩ (.string r'.too.key)) ⟨W.heap.size, 9, none⟩ (.int .i64 r'.too.start)) ⟨W.heap.size, 10, none⟩ (.int .i64 r'.limit)) = wC at HS ⊢
      have hc7 := HS.out.1.cell
      exact bodyPost_ret (v := .tuple #[.agg (rqC (.slice As r'.cs.length cz) r'), .nilIface]) (by simp [results, Tryd.results27, go_sem, hc7]) rfl
        ⟨HB12.out.trans (HS.out.2.below HB12.out.size (fun k e => by omega)), by rw [HD.out]; exact ⟨_, rfl, HX12.out.cells_low HS.out.2 (by omega)⟩⟩
    · rw [hf2] at he
      obtain ⟨g, rfl, hg⟩ := he
      have HG := Lib.hid hg
      have HD := Lib.hid (show decRq xs = (rq0, some (code, pl)) by rw [HDEC.out, HCD.out]; simp [hf2])
      clear hg
      have HS := Lib.hid (set11 HR12.out (.int .i64 0) (.int .i64 0) (.int .i64 0) (.slice none 0 0) (.int .i64 0) (.string ⟨#[]⟩) (.int .i64 0) (.int .i64 0) (.string ⟨#[]⟩) (.int .i64 0) (.int .i64 0))
      go_wp2
      generalize (World.setCell (World.setCell (World.setCell (World.setCell (World.setCell (World.setCell (World.setCell (World.setCell (World.setCell (World.setCell (World.setCell wB ⟨W.heap.size, 0, none⟩ (.int .i64 0)) ⟨W.heap.size, 1, none⟩ (.int .i64 0)) ⟨W.heap.size, 2, none⟩ (.int .i64 0)) ⟨W.heap.size, 3, none⟩ (.slice none 0 0)) ⟨W.heap.size, 4, none⟩ (.int .i64 0)) ⟨W.heap.size, 5, none⟩ (.string ⟨#[]⟩)) ⟨W.heap.size, 6, none⟩ (.int .i64 0)) ⟨W.heap.size, 7, none⟩ (.int .i64 0)) ⟨W.heap.size, 8, none⟩ (.string ⟨#[]⟩)) ⟨W.heap.size, 9, none⟩ (.int .i64 0)) ⟨W.heap.size, 10, none⟩ (.int .i64 0)) = wC at HS ⊢
      have hc7 := HS.out.1.cell
      exact bodyPost_ret (v := .tuple #[.agg (rqC nilS rq0), errV g]) (by simp [results, Tryd.results27, go_sem, hc7, rq0, cell0]) rfl
        ⟨HB12.out.trans (HS.out.2.below HB12.out.size (fun k e => by omega)), by rw [HD.out]; exact ⟨g, rfl, HG.out.tur HS.out.2 (fun e => by subst e; exact absurd rfl (HR12.out.ne_ HG.out (by decide)))⟩⟩
  · rw [hfl] at he
    obtain ⟨g0, rfl, _⟩ := he
    go_wp2_with fail
    go_at_call 61; (with_reducible refine (rd_err HX9.out.rd).mono ?_); rintro e w9 ⟨hb9, he⟩
    rw [hfl] at he
    obtain ⟨g, rfl, hg⟩ := he
    have HG := Lib.hid hg
    have HR10 := Lib.hid (HR9.out.kept hb9)
    have HB10 := Lib.hid (HB9.out.trans (hb9.mono HB9.out.size))
    have HD := Lib.hid (show decRq xs = (rq0, some (code, pl)) by rw [HDEC.out]; unfold checkD; simp [hfl])
    have hcR := HR10.out.cell
    have hfR := HR10.out.frozen
    clear hb9 hg hci
    have HS := Lib.hid (set11 HR10.out (.int .i64 0) (.int .i64 0) (.int .i64 0) (.slice none 0 0) (.int .i64 0) (.string ⟨#[]⟩) (.int .i64 0) (.int .i64 0) (.string ⟨#[]⟩) (.int .i64 0) (.int .i64 0))
    go_wp2
    generalize (World.setCell (World.setCell (World.setCell (World.setCell (World.setCell (World.setCell (World.setCell (World.setCell (World.setCell (World.setCell (World.setCell w9 ⟨W.heap.size, 0, none⟩ (.int .i64 0)) ⟨W.heap.size, 1, none⟩ (.int .i64 0)) ⟨W.heap.size, 2, none⟩ (.int .i64 0)) ⟨W.heap.size, 3, none⟩ (.slice none 0 0)) ⟨W.heap.size, 4, none⟩ (.int .i64 0)) ⟨W.heap.size, 5, none⟩ (.string ⟨#[]⟩)) ⟨W.heap.size, 6, none⟩ (.int .i64 0)) ⟨W.heap.size, 7, none⟩ (.int .i64 0)) ⟨W.heap.size, 8, none⟩ (.string ⟨#[]⟩)) ⟨W.heap.size, 9, none⟩ (.int .i64 0)) ⟨W.heap.size, 10, none⟩ (.int .i64 0)) = w10 at HS ⊢
    have hc7 := HS.out.1.cell
    exact bodyPost_ret (v := .tuple #[.agg (rqC nilS rq0), errV g]) (by simp [results, Tryd.results27, go_sem, hc7, rq0, cell0]) rfl
      ⟨HB10.out.trans (HS.out.2.below HB10.out.size (fun k e => by omega)), by rw [HD.out]; exact ⟨g, rfl, HG.out.tur HS.out.2 (fun e => by subst e; exact absurd rfl (HR10.out.ne_ HG.out (by decide)))⟩⟩
set_option maxHeartbeats 8000000 in
set_option maxRecDepth 100000 in
theorem decode_rq_scan (A : Option Addr) (n c : Nat) (xs : List Int) (hk : (kindD xs).1 = 3) (W : World) (hl : xs.length = n) (h : CellsAt W A (bvs xs)) (hw : ∀ x ∈ xs, (Lit.int .u8 x).wf = true) (hn : n ≤ 211106232532992) (hT : W.cell? ⟨0, 0, none⟩ = some tyErr) :
    Calls Tryd.prog 27 #[.slice A n c] W (DecQ W (decRq xs)) := by
  have HR0 := Lib.hid (Blk.new W 26 #[.int .i64 0, .int .i64 0, .int .i64 0, .slice none 0 0, .int .i64 0, .string ⟨#[]⟩, .int .i64 0, .int .i64 0, .string ⟨#[]⟩, .int .i64 0, .int .i64 0])
  have CR := Lib.hid (rd_read A n c xs (W.alloc (.cells #[.int .i64 0, .int .i64 0, .int .i64 0, .slice none 0 0, .int .i64 0, .string ⟨#[]⟩, .int .i64 0, .int .i64 0, .string ⟨#[]⟩, .int .i64 0, .int .i64 0] 26)) hl (h.below ((Below.refl _ _).alloc (Nat.le_refl _) _)) hw hn (((Below.refl W.heap.size W).alloc (Nat.le_refl _) _).cell (World.block_lt_of_cell? W _ hT) ▸ hT))
  have HTL := Lib.hid (World.block_lt_of_cell? W _ hT)
  have HKN := Lib.hid hk
  clear h hw hn hT hk
  go_enter Tryd.func27, Tryd.ntmps27
  go_wp2_with fail
  go_at_call 57; (with_reducible refine CR.out.mono ?_); rintro e w1 ⟨q, A1, c1, rfl, hq, hr, hA1, hb⟩
  have HB1 := Lib.hid (((Below.refl W.heap.size W).alloc (Nat.le_refl _) (.cells #[.int .i64 0, .int .i64 0, .int .i64 0, .slice none 0 0, .int .i64 0, .string ⟨#[]⟩, .int .i64 0, .int .i64 0, .string ⟨#[]⟩, .int .i64 0, .int .i64 0] 26)).trans (hb.mono (by simp)))
  have HR1 := Lib.hid (HR0.out.kept hb)
  have HD1 := Lib.hid hr
  have HA1 := Lib.hid hA1
  have hqR : W.heap.size < q := by have : (W.alloc (.cells #[.int .i64 0, .int .i64 0, .int .i64 0, .slice none 0 0, .int .i64 0, .string ⟨#[]⟩, .int .i64 0, .int .i64 0, .string ⟨#[]⟩, .int .i64 0, .int .i64 0] 26)).heap.size = W.heap.size + 1 := by simp
                                   omega
  have HI2 := Lib.hid (Blk.new w1 116 #[.pointer (some ⟨q, 0, none⟩)])
  have hci := HI2.out.cell
  clear hb hr hA1 HR0 CR
  go_wp2_with fail
  go_at_call 58; (with_reducible refine (in_num (HD1.out.alloc (.cells #[.pointer (some ⟨q, 0, none⟩)] 116))).mono ?_); rintro e w3 ⟨rfl, fv3, hr, hf⟩
  have hIq : w1.heap.size ≠ q := by have := HD1.out.blk.lt; omega
  have HI3 := Lib.hid (hf.blk HI2.out hIq)
  have HR3 := Lib.hid (hf.blk (HR1.out.alloc (.cells #[.pointer (some ⟨q, 0, none⟩)] 116)) (by omega))
  have HB3 := Lib.hid (HB1.out.trans (((RdFr.alloc0 w1 q .nilIface (.cells #[.pointer (some ⟨q, 0, none⟩)] 116)).trans hf).1.below HB1.out.size (fun k e => by omega)))
  have hs3 : w1.heap.size < w3.heap.size := HI3.out.lt
  have HD3 := Lib.hid hr
  have hRI : W.heap.size ≤ w1.heap.size := HB1.out.size
  have HA3 := Lib.hid (show ∀ ad, A1 = some ad → ad.block < w1.heap.size from fun ad e => (HA1.out ad e).2)
  have hq1 : q < w1.heap.size := HD1.out.blk.lt
  have hTR := HTL.out
  have HKD := Lib.hid (show kindD xs = numP xs M40 ⟨0, none⟩ from rfl)
  clear hr hf HI2 HR1 HD1 HA1 HB1 hci hq
  generalize numP xs M40 ⟨0, none⟩ = y at *
  obtain ⟨k0, s1⟩ := y
  dsimp only at HD3 ⊢
  rw [HKD.out] at HKN
  generalize hI : w1.heap.size = bI at *
  have hci := HI3.out.cell
  go_wp2_with fail
  have HK0 := Lib.hid (Blk.new w3 26 #[.int .i64 (k0 : Int), .int .i64 0, .int .i64 0, .slice none 0 0, .int .i64 0, .string ⟨#[]⟩, .int .i64 0, .int .i64 0, .string ⟨#[]⟩, .int .i64 0, .int .i64 0])
  have HI0 := Lib.hid (HI3.out.alloc (.cells #[.int .i64 (k0 : Int), .int .i64 0, .int .i64 0, .slice none 0 0, .int .i64 0, .string ⟨#[]⟩, .int .i64 0, .int .i64 0, .string ⟨#[]⟩, .int .i64 0, .int .i64 0] 26))
  have HR0 := Lib.hid (HR3.out.alloc (.cells #[.int .i64 (k0 : Int), .int .i64 0, .int .i64 0, .slice none 0 0, .int .i64 0, .string ⟨#[]⟩, .int .i64 0, .int .i64 0, .string ⟨#[]⟩, .int .i64 0, .int .i64 0] 26))
  have HB0 := Lib.hid (HB3.out.alloc (by omega) (.cells #[.int .i64 (k0 : Int), .int .i64 0, .int .i64 0, .slice none 0 0, .int .i64 0, .string ⟨#[]⟩, .int .i64 0, .int .i64 0, .string ⟨#[]⟩, .int .i64 0, .int .i64 0] 26))
  have HX0 := Lib.hid (RqIs.start (r := ⟨(k0 : Int), 0, 0, [], cell0, cell0, 0⟩) HK0.out rfl (HD3.out.alloc (.cells #[.int .i64 (k0 : Int), .int .i64 0, .int .i64 0, .slice none 0 0, .int .i64 0, .string ⟨#[]⟩, .int .i64 0, .int .i64 0, .string ⟨#[]⟩, .int .i64 0, .int .i64 0] 26)) (by omega) (fun ad e => by have := HA3.out ad e; simp; omega) (by omega))
  have hs0 : (w3.alloc (.cells #[.int .i64 (k0 : Int), .int .i64 0, .int .i64 0, .slice none 0 0, .int .i64 0, .string ⟨#[]⟩, .int .i64 0, .int .i64 0, .string ⟨#[]⟩, .int .i64 0, .int .i64 0] 26)).heap.size = w3.heap.size + 1 := by simp
  generalize hb : w3.heap.size = b at *
  generalize w3.alloc (.cells #[.int .i64 (k0 : Int), .int .i64 0, .int .i64 0, .slice none 0 0, .int .i64 0, .string ⟨#[]⟩, .int .i64 0, .int .i64 0, .string ⟨#[]⟩, .int .i64 0, .int .i64 0] 26) = W0 at *
  clear HR3 HB3 HI3 HD3 hci hb
  (refine wp_region_held_drew (S := fun w9 => Blk w9 bI 116 #[.pointer (some ⟨q, 0, none⟩)] ∧ Blk w9 b 26 #[.int .i64 (k0 : Int), .int .i64 0, .int .i64 0, .slice none 0 0, .int .i64 0, .string ⟨#[]⟩, .int .i64 0, .int .i64 0, .string ⟨#[]⟩, .int .i64 0, .int .i64 0]) (by kernel_rfl) ⟨HI0.out.drew, HX0.out.blk.drew⟩ (fun hHeld => ?_))
  (refine take_q (i := 0) (d := 16) (v := ?v163) rfl rfl (by kernel_rfl) (by kernel_rfl) (by kernel_rfl) (fun _ _ _ h => h) (by kernel_rfl) ?hy163 (by assumption) ?rest163)
  case hy163 => (intro w9 hSw; have hc9 := Blk.cell hSw.1; clear hSw; first | (go_simp; done) | (go_simp; with_reducible rfl))
  (try simp only [Act.put, List.setIfInBounds_toArray, List.set_cons_zero, List.set_cons_succ])
  (refine take_q (i := 1) (d := 17) (v := ?v164) rfl rfl (by kernel_rfl) (by kernel_rfl) (by kernel_rfl) (fun _ _ _ h => h) (by kernel_rfl) ?hy164 (by assumption) ?rest164)
  case hy164 => (intro w9 hSw; first | (go_simp; done) | (go_simp; with_reducible rfl))
  (try simp only [Act.put, List.setIfInBounds_toArray, List.set_cons_zero, List.set_cons_succ])
  (refine take_q (i := 2) (d := 18) (v := ?v165) rfl rfl (by kernel_rfl) (by kernel_rfl) (by kernel_rfl) (fun _ _ _ h => h) (by kernel_rfl) ?hy165 (by assumption) ?rest165)
  case hy165 => (intro w9 hSw; first | (go_simp; done) | (go_simp; with_reducible rfl))
  (try simp only [Act.put, List.setIfInBounds_toArray, List.set_cons_zero, List.set_cons_succ])
  (refine take_q (i := 4) (d := 20) (v := ?v166) rfl rfl (by kernel_rfl) (by kernel_rfl) (by kernel_rfl) (fun _ _ _ h => h) (by kernel_rfl) ?hy166 (by assumption) ?rest166)
  case hy166 => (intro w9 hSw; first | (go_simp; done) | (go_simp; with_reducible rfl))
  (try simp only [Act.put, List.setIfInBounds_toArray, List.set_cons_zero, List.set_cons_succ])
  (refine take_q (i := 5) (d := 21) (v := ?v167) rfl rfl (by kernel_rfl) (by kernel_rfl) (by kernel_rfl) (fun _ _ _ h => h) (by kernel_rfl) ?hy167 (by assumption) ?rest167)
  case hy167 => (intro w9 hSw; have hc9 := Blk.cell hSw.2; clear hSw; first | (go_simp; done) | (go_simp; with_reducible rfl))
  (try simp only [Act.put, List.setIfInBounds_toArray, List.set_cons_zero, List.set_cons_succ])
  (refine wpAnyH_ready (rs := [3]) (by kernel_rfl) (by simp) ?_)
  (refine AllReadyH.cons (o := _) rfl (fun K hK => ?_) AllReadyH.nil)
  go_simp
  go_simp
  (with_reducible refine (in_readers q n _).mono ?_)
  rintro e w4 ⟨rfl, hm, hi4, hj4, hb4⟩
  have HM := Lib.hid (show MapIs w4 (b + 1 + 2) (rmap q (b + 1) (b + 1 + 1)) by rw [← hs0]; exact hm)
  have HX4 := Lib.hid ((HX0.out.kept (Below.refl _ _).drew).kept hb4)
  have HI4 := Lib.hid (HI0.out.drew.kept hb4)
  have HR4 := Lib.hid (HR0.out.drew.kept hb4)
  have HB4 := Lib.hid (HB0.out.drew.trans (hb4.mono (by have := HB0.out.size; simpa using this)))
  have HIM := Lib.hid (show Blk w4 (b + 1) 116 #[.pointer (some ⟨q, 0, none⟩)] by rw [← hs0]; exact hi4)
  have HJM := Lib.hid (show Blk w4 (b + 1 + 1) 3 #[.int .i64 (n : Int)] by rw [← hs0]; exact hj4)
  clear hm hi4 hj4 hb4
  go_simp
  (refine hK.out _ _ ⟨HI4.out, HX4.out.blk⟩ (fun hHeld => ?_))
  clear hK K
  have hlk := HM.out.look Tryd.underlying120 Tryd.underlying3 (k0 : Int) (.func (.func 84) #[inV q] #[]) (by have hk := HKN.out; first | (subst hk; rfl) | (rcases hk with rfl | rfl <;> rfl)) true
  (refine wpAnyH_ready (rs := [6]) (by kernel_rfl) (by simp) ?_)
  (refine AllReadyH.cons (o := _) rfl (fun K hK => ?_) AllReadyH.nil)
  go_simp
  (refine hK.out _ _ ⟨HI4.out, HX4.out.blk⟩ (fun hHeld => ?_))
  clear hK K
  (refine take_q (i := 7) (d := 15) (v := ?v168) rfl rfl (by kernel_rfl) (by kernel_rfl) (by kernel_rfl) (fun _ _ _ h => h) (by kernel_rfl) ?hy168 (by assumption) ?rest168)
  case hy168 => (intro w9 hSw; first | (go_simp; done) | (go_simp; with_reducible rfl))
  (try simp only [Act.put, List.setIfInBounds_toArray, List.set_cons_zero, List.set_cons_succ])
  (refine take_q (i := 8) (d := 23) (v := ?v169) rfl rfl (by kernel_rfl) (by kernel_rfl) (by kernel_rfl) (fun _ _ _ h => h) (by kernel_rfl) ?hy169 (by assumption) ?rest169)
  case hy169 => (intro w9 hSw; first | (go_simp; done) | (go_simp; with_reducible rfl))
  (try simp only [Act.put, List.setIfInBounds_toArray, List.set_cons_zero, List.set_cons_succ])
  (refine take_q (i := 9) (d := 24) (v := ?v170) rfl rfl (by kernel_rfl) (by kernel_rfl) (by kernel_rfl) (fun _ _ _ h => h) (by kernel_rfl) ?hy170 (by assumption) ?rest170)
  case hy170 => (intro w9 hSw; first | (go_simp; done) | (go_simp; with_reducible rfl))
  (try simp only [Act.put, List.setIfInBounds_toArray, List.set_cons_zero, List.set_cons_succ])
  (refine take_q (i := 10) (d := 6) (v := ?v171) rfl rfl (by kernel_rfl) (by kernel_rfl) (by kernel_rfl) (fun _ _ _ h => h) (by kernel_rfl) ?hy171 (by assumption) ?rest171)
  case hy171 => (intro w9 hSw; first | (go_simp; done) | (go_simp; with_reducible rfl))
  (try simp only [Act.put, List.setIfInBounds_toArray, List.set_cons_zero, List.set_cons_succ])
  (refine take_q (i := 11) (d := 7) (v := ?v172) rfl rfl (by kernel_rfl) (by kernel_rfl) (by kernel_rfl) (fun _ _ _ h => h) (by kernel_rfl) ?hy172 (by assumption) ?rest172)
  case hy172 => (intro w9 hSw; first | (go_simp; done) | (go_simp; with_reducible rfl))
  (try simp only [Act.put, List.setIfInBounds_toArray, List.set_cons_zero, List.set_cons_succ])
  (refine wpAnyH_done (by kernel_rfl) ?_ _)
  have hci := HI4.out.cell
  have hRq : W.heap.size ≠ q := by omega
  have hRb : W.heap.size ≠ b := by omega
  have hIb : bI ≠ b := by omega
  clear hlk
  go_wp2_with fail
  go_at_call 58; (with_reducible refine (in_num HX4.out.rd).mono ?_); rintro e w5 ⟨rfl, fv5, hr, hf⟩
  have HX5 := Lib.hid (HX4.out.read (by omega) hr hf)
  have HI5 := Lib.hid (hf.blk HI4.out hIq)
  have HR5 := Lib.hid (hf.blk HR4.out hRq)
  have HIM5 := Lib.hid (hf.blk HIM.out (by omega))
  have HJM5 := Lib.hid (hf.blk HJM.out (by omega))
  have HB5 := Lib.hid (HB4.out.trans (hf.1.below HB4.out.size (fun k e => by omega)))
  clear hr hf hci HX4 HI4 HR4 HIM HJM HB4
  have HID := Lib.hid (show numP xs M40 s1 = numP xs M40 s1 from rfl)
  generalize hid : numP xs M40 s1 = y at *
  clear HID
  have HID := Lib.hid hid
  clear hid
  obtain ⟨id0, s2⟩ := y
  dsimp only at HX5 ⊢
  have hcb := HX5.out.blk.cell
  have hfb := HX5.out.blk.frozen
  have HX6 := Lib.hid (HX5.out.set_ (r1 := ⟨(k0 : Int), (id0 : Int), 0, [], cell0, cell0, 0⟩) 1 (.int .i64 (id0 : Int)) rfl HX5.out.cells)
  have HI6 := Lib.hid (HI5.out.far (p := ⟨b, 1, none⟩) hIb (.int .i64 (id0 : Int)))
  have HR6 := Lib.hid (HR5.out.far (p := ⟨b, 1, none⟩) hRb (.int .i64 (id0 : Int)))
  go_wp2_with fail
  (with_reducible refine (in_scan HX6.out (by omega)).mono ?_)
  rintro e w6 ⟨rfl, fv6, v6, hx⟩
  have HX7 := Lib.hid (show RqIs W0 q b A1 n c1 xs (readD xs).1 (readD xs).2 fv6 v6 w6 from by
    have e : readD xs = ((⟨(k0 : Int), (id0 : Int), ((numP xs M40 s2).1 : Int), [], (cellP xs (numP xs M40 s2).2).1, (cellP xs (cellP xs (numP xs M40 s2).2).2).1, ((numP xs M40 (cellP xs (cellP xs (numP xs M40 s2).2).2).2).1 : Int)⟩ : Rq), (numP xs M40 (cellP xs (cellP xs (numP xs M40 s2).2).2).2).2) := by
      unfold readD bodyD
      rw [HKD.out]
      dsimp only
      rw [HID.out]
      have hk := HKN.out
      first | (subst hk; simp; done) | (rcases hk with rfl | rfl <;> simp; done)
    rw [e]
    exact hx)
  clear hx hcb hfb HX6 HX5 HI5 HR5 HI6 HR6 HIM5 HJM5
  have HDEC := Lib.hid (show decRq xs = if (checkD (checkRq (readD xs).1) (endP xs (readD xs).2)).fault.isSome then (rq0, (checkD (checkRq (readD xs).1) (endP xs (readD xs).2)).fault) else ((readD xs).1, none) by
    unfold decRq
    rw [if_neg (by rw [HKD.out]; have := HKN.out; omega)])
  have HOK := Lib.hid (readD_ok xs)
  generalize readD xs = y at *
  obtain ⟨r', s3⟩ := y
  dsimp only at HX7 HDEC HOK
  have HI7 := Lib.hid (HI0.out.tur HX7.out.tur (by omega))
  have HR7 := Lib.hid (HR0.out.tur HX7.out.tur (by omega))
  have HB7 := Lib.hid (HB0.out.trans (HX7.out.tur.below (by have := HB0.out.size; omega) (fun k e => by omega)))
  have hci := HI7.out.cell
  go_wp2_with fail
  go_at_call 62; (with_reducible refine (rd_end HX7.out.rd).mono ?_); rintro e w7 ⟨rfl, fv7, hr, hf⟩
  have HX8 := Lib.hid (HX7.out.read (by omega) hr hf)
  have HI8 := Lib.hid (HI0.out.tur HX8.out.tur (by omega))
  have HR8 := Lib.hid (HR0.out.tur HX8.out.tur (by omega))
  have HB8 := Lib.hid (HB0.out.trans (HX8.out.tur.below (by have := HB0.out.size; omega) (fun k e => by omega)))
  clear hr hf HX7 HI7 HR7 HB7 hci
  have hci := HI8.out.cell
  go_wp2_with fail
  go_at_call 61; (with_reducible refine (rd_err HX8.out.rd).mono ?_); rintro e w8 ⟨hb8, he⟩
  have HX9 := Lib.hid (HX8.out.kept hb8)
  have HI9 := Lib.hid (HI8.out.kept hb8)
  have HR9 := Lib.hid (HR8.out.kept hb8)
  have HB9 := Lib.hid (HB8.out.trans (hb8.mono HB8.out.size))
  clear hb8 HX8 HI8 HR8 HB8 hci
  have hci := HI9.out.cell
  rcases hfl : (endP xs s3).fault with _ | ⟨code, pl⟩
  · rw [hfl] at he
    obtain rfl := he
    go_wp2_with fail
    obtain ⟨As, cz, rfl, hrd, hba⟩ := HX9.out.cells.rd
    have HCR := Lib.hid hrd
    have HLE := Lib.hid (CellsOwn.le HX9.out.cells)
    clear hrd hba hci
    (refine wp_region_held_drew (S := fun w9 => Blk w9 bI 116 #[.pointer (some ⟨q, 0, none⟩)] ∧ Blk w9 b 26 (rqC (.slice As r'.cs.length cz) r')) (by kernel_rfl) ⟨HI9.out.drew, HX9.out.blk.drew⟩ (fun hHeld => ?_))
    (refine take_q (i := 0) (d := 46) (v := ?v173) rfl rfl (by kernel_rfl) (by kernel_rfl) (by kernel_rfl) (fun _ _ _ h => h) (by kernel_rfl) ?hy173 (by assumption) ?rest173)
    case hy173 => (intro w9 hSw; first | (go_simp; done) | (go_simp; with_reducible rfl))
    (try simp only [Act.put, List.setIfInBounds_toArray, List.set_cons_zero, List.set_cons_succ])
    (refine take_q (i := 1) (d := 47) (v := ?v174) rfl rfl (by kernel_rfl) (by kernel_rfl) (by kernel_rfl) (fun _ _ _ h => h) (by kernel_rfl) ?hy174 (by assumption) ?rest174)
    case hy174 => (intro w9 hSw; have hc9 := Blk.cell hSw.1; clear hSw; first | (go_simp; done) | (go_simp; with_reducible rfl))
    (try simp only [Act.put, List.setIfInBounds_toArray, List.set_cons_zero, List.set_cons_succ])
    (refine take_q (i := 2) (d := 48) (v := ?v175) rfl rfl (by kernel_rfl) (by kernel_rfl) (by kernel_rfl) (fun _ _ _ h => h) (by kernel_rfl) ?hy175 (by assumption) ?rest175)
    case hy175 => (intro w9 hSw; have hc9 := Blk.cell hSw.2; clear hSw; first | (go_simp; done) | (go_simp; with_reducible rfl))
    (try simp only [Act.put, List.setIfInBounds_toArray, List.set_cons_zero, List.set_cons_succ])
    (refine wpAnyH_ready (rs := [3]) (by kernel_rfl) (by simp) ?_)
    (refine AllReadyH.cons (o := _) rfl (fun K hK => ?_) AllReadyH.nil)
    go_simp
    go_simp
    (with_reducible refine (check_rq As r'.cs.length cz r' _ rfl (HCR.out.below (Below.refl _ _).drew) HLE.out HOK.out).mono ?_)
    rintro e w9 ⟨rfl, hb9⟩
    have HX10 := Lib.hid ((HX9.out.kept (Below.refl _ _).drew).kept hb9)
    have HI10 := Lib.hid (HI9.out.drew.kept hb9)
    clear hb9
    go_simp
    (refine hK.out _ _ ⟨HI10.out, HX10.out.blk⟩ (fun hHeld => ?_))
    clear hK K
    (try simp only [Act.put, List.setIfInBounds_toArray, List.set_cons_zero, List.set_cons_succ])
    (refine wpAnyH_ready (rs := [4]) (by kernel_rfl) (by simp) ?_)
    (refine AllReadyH.cons (o := _) rfl (fun K hK => ?_) AllReadyH.nil)
    go_simp
    go_simp
    (with_reducible refine (rd_fail HX10.out.rd (checkRq r') 0).mono ?_)
    rintro e wA ⟨rfl, fvA, hr, hf⟩
    have HX11 := Lib.hid (HX10.out.read (by omega) hr hf)
    have HI11 := Lib.hid (HI0.out.tur HX11.out.tur (by omega))
    have HR11 := Lib.hid (HR0.out.tur HX11.out.tur (by omega))
    have HB11 := Lib.hid (HB0.out.trans (HX11.out.tur.below (by have := HB0.out.size; omega) (fun k e => by omega)))
    clear hr hf
    go_simp
    (refine hK.out _ _ ⟨HI11.out, HX11.out.blk⟩ (fun hHeld => ?_))
    clear hK K
    (refine wpAnyH_done (by kernel_rfl) ?_ _)
    have HCD := Lib.hid (show checkD (checkRq r') (endP xs s3) = (endP xs s3).fail (checkRq r') 0 by unfold checkD; simp [hfl])
    have hci := HI11.out.cell
    go_wp2_with fail
    go_at_call 61; (with_reducible refine (rd_err HX11.out.rd).mono ?_); rintro e wB ⟨hbB, he⟩
    have HX12 := Lib.hid (HX11.out.kept hbB)
    have HR12 := Lib.hid (HR11.out.kept hbB)
    have HB12 := Lib.hid (HB11.out.trans (hbB.mono HB11.out.size))
    have hcR := HR12.out.cell
    have hfR := HR12.out.frozen
    clear hbB hci
    rcases hf2 : ((endP xs s3).fail (checkRq r') 0).fault with _ | ⟨code, pl⟩
    · rw [hf2] at he
      obtain rfl := he
      have HD := Lib.hid (show decRq xs = (r', none) by rw [HDEC.out, HCD.out]; simp [hf2])
      have hcb := HX12.out.blk.cell
      have HS := Lib.hid (set11 HR12.out (.int .i64 r'.kind) (.int .i64 r'.id) (.int .i64 r'.epoch) (.slice As r'.cs.length cz) (.int .i64 r'.frm.view) (.string r'.frm.key) (.int .i64 r'.frm.start) (.int .i64 r'.too.view) (.string r'.too.key) (.int .i64 r'.too.start) (.int .i64 r'.limit))
      go_wp2
      generalize (World.setCell (World.setCell (World.setCell (World.setCell (World.setCell (World.setCell (World.setCell (World.setCell (World.setCell (World.setCell (World.setCell wB ⟨W.heap.size, 0, none⟩ (.int .i64 r'.kind)) ⟨W.heap.size, 1, none⟩ (.int .i64 r'.id)) ⟨W.heap.size, 2, none⟩ (.int .i64 r'.epoch)) ⟨W.heap.size, 3, none⟩ (.slice As r'.cs.length cz)) ⟨W.heap.size, 4, none⟩ (.int .i64 r'.frm.view)) ⟨W.heap.size, 5, none⟩ (.string r'.frm.key)) ⟨W.heap.size, 6, none⟩ (.int .i64 r'.frm.start)) ⟨W.heap.size, 7, none⟩ (.int .i64 r'.too.view)) ⟨W.heap.size, 8, none⟩ (.string r'.too.key)) ⟨W.heap.size, 9, none⟩ (.int .i64 r'.too.start)) ⟨W.heap.size, 10, none⟩ (.int .i64 r'.limit)) = wC at HS ⊢
      have hc7 := HS.out.1.cell
      exact bodyPost_ret (v := .tuple #[.agg (rqC (.slice As r'.cs.length cz) r'), .nilIface]) (by simp [results, Tryd.results27, go_sem, hc7]) rfl
        ⟨HB12.out.trans (HS.out.2.below HB12.out.size (fun k e => by omega)), by rw [HD.out]; exact ⟨_, rfl, HX12.out.cells_low HS.out.2 (by omega)⟩⟩
    · rw [hf2] at he
      obtain ⟨g, rfl, hg⟩ := he
      have HG := Lib.hid hg
      have HD := Lib.hid (show decRq xs = (rq0, some (code, pl)) by rw [HDEC.out, HCD.out]; simp [hf2])
      clear hg
      have HS := Lib.hid (set11 HR12.out (.int .i64 0) (.int .i64 0) (.int .i64 0) (.slice none 0 0) (.int .i64 0) (.string ⟨#[]⟩) (.int .i64 0) (.int .i64 0) (.string ⟨#[]⟩) (.int .i64 0) (.int .i64 0))
      go_wp2
      generalize (World.setCell (World.setCell (World.setCell (World.setCell (World.setCell (World.setCell (World.setCell (World.setCell (World.setCell (World.setCell (World.setCell wB ⟨W.heap.size, 0, none⟩ (.int .i64 0)) ⟨W.heap.size, 1, none⟩ (.int .i64 0)) ⟨W.heap.size, 2, none⟩ (.int .i64 0)) ⟨W.heap.size, 3, none⟩ (.slice none 0 0)) ⟨W.heap.size, 4, none⟩ (.int .i64 0)) ⟨W.heap.size, 5, none⟩ (.string ⟨#[]⟩)) ⟨W.heap.size, 6, none⟩ (.int .i64 0)) ⟨W.heap.size, 7, none⟩ (.int .i64 0)) ⟨W.heap.size, 8, none⟩ (.string ⟨#[]⟩)) ⟨W.heap.size, 9, none⟩ (.int .i64 0)) ⟨W.heap.size, 10, none⟩ (.int .i64 0)) = wC at HS ⊢
      have hc7 := HS.out.1.cell
      exact bodyPost_ret (v := .tuple #[.agg (rqC nilS rq0), errV g]) (by simp [results, Tryd.results27, go_sem, hc7, rq0, cell0]) rfl
        ⟨HB12.out.trans (HS.out.2.below HB12.out.size (fun k e => by omega)), by rw [HD.out]; exact ⟨g, rfl, HG.out.tur HS.out.2 (fun e => by subst e; exact absurd rfl (HR12.out.ne_ HG.out (by decide)))⟩⟩
  · rw [hfl] at he
    obtain ⟨g0, rfl, _⟩ := he
    go_wp2_with fail
    go_at_call 61; (with_reducible refine (rd_err HX9.out.rd).mono ?_); rintro e w9 ⟨hb9, he⟩
    rw [hfl] at he
    obtain ⟨g, rfl, hg⟩ := he
    have HG := Lib.hid hg
    have HR10 := Lib.hid (HR9.out.kept hb9)
    have HB10 := Lib.hid (HB9.out.trans (hb9.mono HB9.out.size))
    have HD := Lib.hid (show decRq xs = (rq0, some (code, pl)) by rw [HDEC.out]; unfold checkD; simp [hfl])
    have hcR := HR10.out.cell
    have hfR := HR10.out.frozen
    clear hb9 hg hci
    have HS := Lib.hid (set11 HR10.out (.int .i64 0) (.int .i64 0) (.int .i64 0) (.slice none 0 0) (.int .i64 0) (.string ⟨#[]⟩) (.int .i64 0) (.int .i64 0) (.string ⟨#[]⟩) (.int .i64 0) (.int .i64 0))
    go_wp2
    generalize (World.setCell (World.setCell (World.setCell (World.setCell (World.setCell (World.setCell (World.setCell (World.setCell (World.setCell (World.setCell (World.setCell w9 ⟨W.heap.size, 0, none⟩ (.int .i64 0)) ⟨W.heap.size, 1, none⟩ (.int .i64 0)) ⟨W.heap.size, 2, none⟩ (.int .i64 0)) ⟨W.heap.size, 3, none⟩ (.slice none 0 0)) ⟨W.heap.size, 4, none⟩ (.int .i64 0)) ⟨W.heap.size, 5, none⟩ (.string ⟨#[]⟩)) ⟨W.heap.size, 6, none⟩ (.int .i64 0)) ⟨W.heap.size, 7, none⟩ (.int .i64 0)) ⟨W.heap.size, 8, none⟩ (.string ⟨#[]⟩)) ⟨W.heap.size, 9, none⟩ (.int .i64 0)) ⟨W.heap.size, 10, none⟩ (.int .i64 0)) = w10 at HS ⊢
    have hc7 := HS.out.1.cell
    exact bodyPost_ret (v := .tuple #[.agg (rqC nilS rq0), errV g]) (by simp [results, Tryd.results27, go_sem, hc7, rq0, cell0]) rfl
      ⟨HB10.out.trans (HS.out.2.below HB10.out.size (fun k e => by omega)), by rw [HD.out]; exact ⟨g, rfl, HG.out.tur HS.out.2 (fun e => by subst e; exact absurd rfl (HR10.out.ne_ HG.out (by decide)))⟩⟩
theorem decode_rq (A : Option Addr) (n c : Nat) (xs : List Int) (W : World) (hl : xs.length = n) (h : CellsAt W A (bvs xs)) (hw : ∀ x ∈ xs, (Lit.int .u8 x).wf = true) (hn : n ≤ 211106232532992) (hT : W.cell? ⟨0, 0, none⟩ = some tyErr) :
    Calls Tryd.prog 27 #[.slice A n c] W (DecQ W (decRq xs)) := by
  obtain k | k | k | k | k | k : ((kindD xs).1 < 1 ∨ 7 < (kindD xs).1) ∨ (kindD xs).1 = 1 ∨ (kindD xs).1 = 2 ∨ (kindD xs).1 = 3 ∨ ((kindD xs).1 = 4 ∨ (kindD xs).1 = 7) ∨ ((kindD xs).1 = 5 ∨ (kindD xs).1 = 6) := by omega
  · exact decode_rq_none A n c xs k W hl h hw hn hT
  · exact decode_rq_get A n c xs k W hl h hw hn hT
  · exact decode_rq_many A n c xs k W hl h hw hn hT
  · exact decode_rq_scan A n c xs k W hl h hw hn hT
  · exact decode_rq_bare A n c xs k W hl h hw hn hT
  · exact decode_rq_epoch A n c xs k W hl h hw hn hT
end Go.Proofs.YteffpfgdoganpaaDoor
