/- The document's DecodeRequest: get and multi, the unknown kind; joined. -/
import Derived.Test.YtglbdbghcdoicaaGreatDoorZDocQ
namespace Go.Proofs.YtglbdbghcdoicaaGreatDoor
open Go.RowKit
set_option maxRecDepth 100000
set_option maxHeartbeats 32000000

theorem doc_rq_get (A : Option Addr) (n c : Nat) (xs : List Int) (hk : (kindD xs).1 = 1) (W : World) (hl : xs.length = n) (h : CellsAt W A (bvs xs)) (hw : ∀ x ∈ xs, (Lit.int .u8 x).wf = true) (hn : n ≤ 140737488355328) (hc : n ≤ c) :
  Calls Tryz.prog 61 #[.slice A n c] W (DocQ W (decRq xs)) := by
 have HR0 := Lh (Blk.new W 43 #[.int .i64 0, .int .i64 0, .int .i64 0, .slice none 0 0, .int .i64 0, .string ⟨#[]⟩, .int .i64 0, .int .i64 0, .string ⟨#[]⟩, .int .i64 0, .int .i64 0])
 have bl0 := (Below.refl W.heap.size W).alloc (Nat.le_refl _) (.cells #[.int .i64 0, .int .i64 0, .int .i64 0, .slice none 0 0, .int .i64 0, .string ⟨#[]⟩, .int .i64 0, .int .i64 0, .string ⟨#[]⟩, .int .i64 0, .int .i64 0] 43)
 have hs1 : (W.alloc (.cells #[.int .i64 0, .int .i64 0, .int .i64 0, .slice none 0 0, .int .i64 0, .string ⟨#[]⟩, .int .i64 0, .int .i64 0, .string ⟨#[]⟩, .int .i64 0, .int .i64 0] 43)).heap.size = W.heap.size + 1 := by simp
 have CR := Lh (dc_read A n c xs (W.alloc (.cells #[.int .i64 0, .int .i64 0, .int .i64 0, .slice none 0 0, .int .i64 0, .string ⟨#[]⟩, .int .i64 0, .int .i64 0, .string ⟨#[]⟩, .int .i64 0, .int .i64 0] 43)) hl (h.below bl0) hw hn hc)
 have HKN := Lh hk
 have HAl := Lh (show xs ≠ [] → ∀ ad, A = some ad → ad.block < W.heap.size from fun h0 ad e => by
  subst e
  obtain ⟨ad', e, h1, _⟩ := h 0 (by rw [bvs_len]; exact List.length_pos_iff.2 h0)
  cases e
  exact h1)
 have HBl := Lh bl0
 clear h hw hn hk hc bl0
 go_enter Tryz.func61, Tryz.ntmps61
 go_wp2_with fail
 go_at_call 90; (with_reducible refine CR.out.mono ?_); rintro e w1 ⟨rfl, hr, hb⟩
 have HR1 := Lh (HR0.out.kept hb)
 have HB1 := Lh (HBl.out.trans (hb.mono (by simp)))
 have hw1 : W.heap.size + 1 ≤ w1.heap.size := hs1 ▸ hb.size
 rw [hs1] at hr ⊢
 have HX := Lh (DxIs.start hr 43 #[.int .i64 0, .int .i64 0, .int .i64 0, .slice none 0 0, .int .i64 0, .string ⟨#[]⟩, .int .i64 0, .int .i64 0, .string ⟨#[]⟩, .int .i64 0, .int .i64 0] 41 3 (fun h0 ad e => by have := HAl.out h0 ad e; omega))
 have HR2 := Lh ((HR1.out.alloc (.cells #[.pointer (some ⟨W.heap.size + 1, 0, none⟩)] 187)).alloc (.cells #[.int .i64 0, .int .i64 0, .int .i64 0, .slice none 0 0, .int .i64 0, .string ⟨#[]⟩, .int .i64 0, .int .i64 0, .string ⟨#[]⟩, .int .i64 0, .int .i64 0] 43))
 have HB2 := Lh ((HB1.out.alloc (by omega) (.cells #[.pointer (some ⟨W.heap.size + 1, 0, none⟩)] 187)).alloc (by simp; omega) (.cells #[.int .i64 0, .int .i64 0, .int .i64 0, .slice none 0 0, .int .i64 0, .string ⟨#[]⟩, .int .i64 0, .int .i64 0, .string ⟨#[]⟩, .int .i64 0, .int .i64 0] 43))
 have hs2 : (w1.alloc (.cells #[.pointer (some ⟨W.heap.size + 1, 0, none⟩)] 187)).heap.size = w1.heap.size + 1 := by simp
 clear hr hb HR0 CR HAl HBl HB1 HR1 hs1
 go_wp2_with fail
 generalize hW0 : (w1.alloc (.cells #[.pointer (some ⟨W.heap.size + 1, 0, none⟩)] 187)).alloc (.cells #[.int .i64 0, .int .i64 0, .int .i64 0, .slice none 0 0, .int .i64 0, .string ⟨#[]⟩, .int .i64 0, .int .i64 0, .string ⟨#[]⟩, .int .i64 0, .int .i64 0] 43) = W0 at *
 have hRW : W.heap.size < w1.heap.size := by omega
 have hqW : W.heap.size < W.heap.size + 1 := by omega
 clear hW0 hs2
 generalize hq : W.heap.size + 1 = q at *
 generalize hj : w1.heap.size = j at *
 clear hj hq
 go_at_call 91; (with_reducible refine (show Calls Tryz.prog 91 #[.pointer (some ⟨j, 0, none⟩), .int .i64 7] W0 _ from lx_head HX.out.rd HX.out.lx HX.out.jq 7).mono ?_); rintro e w3 ⟨rfl, hr, hf⟩
 have HX3 := Lh (HX.out.read hr hf)
 have HKD := Lh (show kindD xs = numP xs M40 ⟨0, none⟩ from rfl)
 clear hr hf HX
 have HHD := Lh (show headP xs (7 : Int) ⟨0, none⟩ = (numP xs M40 ⟨0, none⟩).2 by
  unfold headP
  rw [if_neg]
  rintro ⟨_, h⟩
  have hk := HKN.out
  rw [HKD.out] at hk
  omega)
 rw [show ((7 : Nat) : Int) = (7 : Int) from rfl] at HX3
 rw [HHD.out] at HX3
 simp only [show ((7 : Nat) : Int) = (7 : Int) from rfl, HHD.out]
 rw [HKD.out] at HKN
 clear HHD
 generalize hyd : numP xs M40 ⟨0, none⟩ = y at *
 clear hyd
 obtain ⟨k0, s1⟩ := y
 dsimp only at HX3 HKN HKD ⊢
 generalize hid : numP xs M40 s1 = y at *
 have HID := Lh hid
 clear hid
 obtain ⟨id0, s2⟩ := y
 dsimp only at HX3 HID ⊢
 have hk1 : k0 = 1 := HKN.out
 subst hk1
 simp only [show ((1 : Nat) : Int) = (1 : Int) from rfl]
 have hcb := HX3.out.blk.cell
 have hfb := HX3.out.blk.frozen
 have HX4 := Lh (show DxIs W0 q j (j + 1) 43 A n c xs (rqC (.slice none 0 0) ⟨1, (id0 : Int), 0, [], cell0, cell0, 0⟩) s2 41 3 (.slice none 0 0) 0 [] ((w3.setCell ⟨j + 1, 0, none⟩ (.int .i64 1)).setCell ⟨j + 1, 1, none⟩ (.int .i64 (id0 : Int))) from (HX3.out.put (cs1 := rqC (.slice none 0 0) ⟨1, 0, 0, [], cell0, cell0, 0⟩) 0 (.int .i64 1) rfl).put 1 (.int .i64 (id0 : Int)) rfl)
 clear HX3
 go_wp2_with fail
 generalize ((w3.setCell ⟨j + 1, 0, none⟩ (.int .i64 1)).setCell ⟨j + 1, 1, none⟩ (.int .i64 (id0 : Int))) = wg5 at *
 go_at_call 92; (with_reducible refine (lx_num HX4.out.rd HX4.out.lx).mono ?_); rintro e wh5 ⟨rfl, hr, hf⟩
 have HN5 := Lh (HX4.out.read hr hf)
 clear hr hf hcb hfb HX4
 generalize hnn : numP xs M40 s2 = y at *
 have HE5 := Lh hnn
 clear hnn
 obtain ⟨ep0, s3⟩ := y
 dsimp only at HN5 HE5 ⊢
 have hcb := HN5.out.blk.cell
 have hfb := HN5.out.blk.frozen
 have HX5 := Lh (HN5.out.put (cs1 := rqC (.slice none 0 0) ⟨1, (id0 : Int), (ep0 : Int), [], cell0, cell0, 0⟩) 2 (.int .i64 (ep0 : Int)) rfl)
 have HRD := Lh (show readD xs = ((⟨1, (id0 : Int), (ep0 : Int), [(cellP xs s3).1], cell0, cell0, 0⟩ : Rq), (cellP xs s3).2) by
  unfold readD bodyD
  rw [HKD.out]
  simp [HID.out, HE5.out])
 go_wp2_with fail
 generalize (wh5.setCell ⟨j + 1, 2, none⟩ (.int .i64 (ep0 : Int))) = wl at *
 go_loopw [8] (fun t8 wz => ∃ k : Nat, t8 = .int .i64 (k : Int) ∧ k ≤ 1 ∧ Hid (∃ vz, DxIs W0 q j (j + 1) 43 A n c xs (rqC vz ⟨1, (id0 : Int), (ep0 : Int), [], cell0, cell0, 0⟩) (dcells xs k ([], s3)).2 41 3 vz (dcells xs k ([], s3)).1.length (cellCs (dcells xs k ([], s3)).1) wz)) (fun t8 _ => 1 - (intOf t8).toNat)
 case atStart => exact ⟨0, rfl, Nat.zero_le _, Lh ⟨_, HX5.out⟩⟩
 case round =>
  obtain ⟨k, rfl, hk, HP0⟩ := hrel
  obtain ⟨vz, hP⟩ := HP0.out
  have HP := Lh hP
  clear HP0 hP
  rename World => wz
  have LK := Lh (dcells_len xs ([], s3) k)
  have HSTEP := Lh (show dcells xs (k + 1) ([], s3) = ((dcells xs k ([], s3)).1 ++ [(cellP xs (dcells xs k ([], s3)).2).1], (cellP xs (dcells xs k ([], s3)).2).2) from rfl)
  have HSAME := Lh (dcells_same xs ([], s3) k)
  obtain hkn | hkn : k = 0 ∨ k = 1 := by omega
  ·generalize dcells xs k ([], s3) = st at *
   obtain ⟨l, sz⟩ := st
   dsimp only at HP LK HSTEP
   clear HSAME HRD HKD
   subst hkn
   go_wp2_with fail
   obtain ⟨ic, zc, hic, hzc, hz1, hz2, hz3⟩ := info_cell
   have h16 : (0 : Nat) ≤ 16 := by decide
   (refine wp_region_held_drew (S := fun w9 => LxB w9 j q) (by kernel_rfl) HP.out.lx.drew (fun hHeld => ?_))
   have Hd := Lh HP.out.drew
   clear HP
   (refine tq 0 56 ?_)
   (try simp only [Act.put, z1, z2, z3])
   (refine tq 2 58 ?_)
   (try simp only [Act.put, z1, z2, z3])
   (refine wpAnyH_ready (rs := [1, 3]) (by kernel_rfl) (by simp) ?_)
   refine AllReadyH.cons (o := _) rfl (fun K hK => ?_) (AllReadyH.cons (o := _) rfl (fun K hK => ?_) AllReadyH.nil)
   ·have hcb := Hd.out.blk.cell
    go_simp
    clear hcb
    (refine hK.out _ _ Hd.out.lx (fun hHeld => ?_))
    clear hK K
    (try simp only [Act.put, z1, z2, z3])
    (refine wpAnyH_ready (rs := [3]) (by kernel_rfl) (by simp) ?_)
    (refine AllReadyH.cons (o := _) rfl (fun K hK => ?_) AllReadyH.nil)
    go_simp
    (with_reducible refine (lx_cell Hd.out.rd Hd.out.lx Hd.out.jq).mono ?_)
    rintro e w5 ⟨rfl, hr, hf⟩
    have H5 := Lh (Hd.out.read hr hf)
    clear hr hf
    generalize (cellP xs sz) = y at *
    obtain ⟨x, s9⟩ := y
    dsimp only at H5 HSTEP
    go_simp
    (refine hK.out _ _ H5.out.lx (fun hHeld => ?_))
    clear hK K
    (try dsimp only)
    (refine wpAnyH_ready (rs := [4]) (by kernel_rfl) (by simp) ?_)
    (refine AllReadyH.cons (o := _) rfl (fun K hK => ?_) AllReadyH.nil)
    go_simp
    have HN6 := Lh (Blk.new w5 41 #[.int .i64 x.view, .string x.key, .int .i64 x.start])
    have H6 := Lh (H5.out.alloc (.cells #[.int .i64 x.view, .string x.key, .int .i64 x.start] 41))
    generalize hw6 : w5.alloc (.cells #[.int .i64 x.view, .string x.key, .int .i64 x.start] 41) = w6 at *
    generalize w5.heap.size = jn at *
    (refine hK.out _ _ H6.out.lx (fun hHeld => ?_))
    clear hK K
    (try simp only [Act.put, z1, z2, z3])
    (refine wpAnyH_ready (rs := [5]) (by kernel_rfl) (by simp) ?_)
    (refine AllReadyH.cons (o := _) rfl (fun K hK => ?_) AllReadyH.nil)
    refine want_ (by kernel_rfl) ?_
    refine wp_append_at _ _ _ rfl W0.heap.size _ ic zc 3 32 Tryz.underlying39 hic hzc hz1 hz2 hz3 (by decide) vz l.length (cellCs l) rfl H6.out.own ⟨jn, 0, none⟩ 1 1 x.cells rfl rfl (cells_one_c HN6.out) (cells_one1 x) (by have h := LK.out; rw [List.length_nil] at h; unfold maxLen; omega) (by have h := LK.out; rw [List.length_nil] at h; omega) H6.out.tur.size ?_
    intro v7 w7 hown hg hv
    obtain ⟨A7, c7, rfl⟩ := own_form3 hown
    have H7 := Lh ((H6.out.grown hg hown).to (m1 := (l ++ [x]).length) (ys1 := cellCs (l ++ [x])) (by simp) (by simp [cellCs]))
    clear hown hg hv
    (refine hK.out _ _ H7.out.lx (fun hHeld => ?_))
    clear hK K
    (try simp only [Act.put]); (try simp only [z1]); (try simp only [z3]); (try simp only [z2])
    (refine tq 6 62 ?_)
    (try simp only [Act.put]); (try simp only [z1]); (try simp only [z3]); (try simp only [z2])
    have hcb := H7.out.blk.cell
    have hfb := H7.out.blk.frozen
    (refine wpAnyH_ready (rs := [7]) (by kernel_rfl) (by simp) ?_)
    (refine AllReadyH.cons (o := _) rfl (fun K hK => ?_) AllReadyH.nil)
    go_simp
    have H8 := Lh (H7.out.put (cs1 := rqC (.slice A7 (l.length + 1) c7) ⟨1, (id0 : Int), (ep0 : Int), [], cell0, cell0, 0⟩) 3 (.slice A7 (l.length + 1) c7) rfl)
    clear hcb hfb
    (refine hK.out _ _ H8.out.lx (fun hHeld => ?_))
    clear hK K
    (refine wpAnyH_done (by kernel_rfl) ?_ _)
    go_wp2
    go_roundw
    case rel => exact ⟨1, by go_num, by omega, Lh ⟨_, by rw [HSTEP.out]; exact H8.out⟩⟩
    case measure => simp [intOf]
   ·go_simp
    (with_reducible refine (lx_cell Hd.out.rd Hd.out.lx Hd.out.jq).mono ?_)
    rintro e w5 ⟨rfl, hr, hf⟩
    have H5 := Lh (Hd.out.read hr hf)
    clear hr hf
    generalize (cellP xs sz) = y at *
    obtain ⟨x, s9⟩ := y
    dsimp only at H5 HSTEP
    go_simp
    (refine hK.out _ _ H5.out.lx (fun hHeld => ?_))
    clear hK K
    (try dsimp only)
    (refine wpAnyH_ready (rs := [1, 4]) (by kernel_rfl) (by simp) ?_)
    refine AllReadyH.cons (o := _) rfl (fun K hK => ?_) (AllReadyH.cons (o := _) rfl (fun K hK => ?_) AllReadyH.nil)
    ·have hcb := H5.out.blk.cell
     go_simp
     clear hcb
     (refine hK.out _ _ H5.out.lx (fun hHeld => ?_))
     clear hK K
     (try simp only [Act.put, z1, z2, z3])
     (refine wpAnyH_ready (rs := [4]) (by kernel_rfl) (by simp) ?_)
     (refine AllReadyH.cons (o := _) rfl (fun K hK => ?_) AllReadyH.nil)
     go_simp
     have HN6 := Lh (Blk.new w5 41 #[.int .i64 x.view, .string x.key, .int .i64 x.start])
     have H6 := Lh (H5.out.alloc (.cells #[.int .i64 x.view, .string x.key, .int .i64 x.start] 41))
     generalize hw6 : w5.alloc (.cells #[.int .i64 x.view, .string x.key, .int .i64 x.start] 41) = w6 at *
     generalize w5.heap.size = jn at *
     (refine hK.out _ _ H6.out.lx (fun hHeld => ?_))
     clear hK K
     (try simp only [Act.put, z1, z2, z3])
     (refine wpAnyH_ready (rs := [5]) (by kernel_rfl) (by simp) ?_)
     (refine AllReadyH.cons (o := _) rfl (fun K hK => ?_) AllReadyH.nil)
     refine want_ (by kernel_rfl) ?_
     refine wp_append_at _ _ _ rfl W0.heap.size _ ic zc 3 32 Tryz.underlying39 hic hzc hz1 hz2 hz3 (by decide) vz l.length (cellCs l) rfl H6.out.own ⟨jn, 0, none⟩ 1 1 x.cells rfl rfl (cells_one_c HN6.out) (cells_one1 x) (by have h := LK.out; rw [List.length_nil] at h; unfold maxLen; omega) (by have h := LK.out; rw [List.length_nil] at h; omega) H6.out.tur.size ?_
     intro v7 w7 hown hg hv
     obtain ⟨A7, c7, rfl⟩ := own_form3 hown
     have H7 := Lh ((H6.out.grown hg hown).to (m1 := (l ++ [x]).length) (ys1 := cellCs (l ++ [x])) (by simp) (by simp [cellCs]))
     clear hown hg hv
     (refine hK.out _ _ H7.out.lx (fun hHeld => ?_))
     clear hK K
     (try simp only [Act.put]); (try simp only [z1]); (try simp only [z3]); (try simp only [z2])
     (refine tq 6 62 ?_)
     (try simp only [Act.put]); (try simp only [z1]); (try simp only [z3]); (try simp only [z2])
     have hcb := H7.out.blk.cell
     have hfb := H7.out.blk.frozen
     (refine wpAnyH_ready (rs := [7]) (by kernel_rfl) (by simp) ?_)
     (refine AllReadyH.cons (o := _) rfl (fun K hK => ?_) AllReadyH.nil)
     go_simp
     have H8 := Lh (H7.out.put (cs1 := rqC (.slice A7 (l.length + 1) c7) ⟨1, (id0 : Int), (ep0 : Int), [], cell0, cell0, 0⟩) 3 (.slice A7 (l.length + 1) c7) rfl)
     clear hcb hfb
     (refine hK.out _ _ H8.out.lx (fun hHeld => ?_))
     clear hK K
     (refine wpAnyH_done (by kernel_rfl) ?_ _)
     go_wp2
     go_roundw
     case rel => exact ⟨1, by go_num, by omega, Lh ⟨_, by rw [HSTEP.out]; exact H8.out⟩⟩
     case measure => simp [intOf]
    ·go_simp
     have HN6 := Lh (Blk.new w5 41 #[.int .i64 x.view, .string x.key, .int .i64 x.start])
     have H6 := Lh (H5.out.alloc (.cells #[.int .i64 x.view, .string x.key, .int .i64 x.start] 41))
     generalize hw6 : w5.alloc (.cells #[.int .i64 x.view, .string x.key, .int .i64 x.start] 41) = w6 at *
     generalize w5.heap.size = jn at *
     (refine hK.out _ _ H6.out.lx (fun hHeld => ?_))
     clear hK K
     (try simp only [Act.put, z1, z2, z3])
     (refine wpAnyH_ready (rs := [1]) (by kernel_rfl) (by simp) ?_)
     (refine AllReadyH.cons (o := _) rfl (fun K hK => ?_) AllReadyH.nil)
     have hcb := H6.out.blk.cell
     go_simp
     clear hcb
     (refine hK.out _ _ H6.out.lx (fun hHeld => ?_))
     clear hK K
     (try simp only [Act.put, z1, z2, z3])
     (refine wpAnyH_ready (rs := [5]) (by kernel_rfl) (by simp) ?_)
     (refine AllReadyH.cons (o := _) rfl (fun K hK => ?_) AllReadyH.nil)
     refine want_ (by kernel_rfl) ?_
     refine wp_append_at _ _ _ rfl W0.heap.size _ ic zc 3 32 Tryz.underlying39 hic hzc hz1 hz2 hz3 (by decide) vz l.length (cellCs l) rfl H6.out.own ⟨jn, 0, none⟩ 1 1 x.cells rfl rfl (cells_one_c HN6.out) (cells_one1 x) (by have h := LK.out; rw [List.length_nil] at h; unfold maxLen; omega) (by have h := LK.out; rw [List.length_nil] at h; omega) H6.out.tur.size ?_
     intro v7 w7 hown hg hv
     obtain ⟨A7, c7, rfl⟩ := own_form3 hown
     have H7 := Lh ((H6.out.grown hg hown).to (m1 := (l ++ [x]).length) (ys1 := cellCs (l ++ [x])) (by simp) (by simp [cellCs]))
     clear hown hg hv
     (refine hK.out _ _ H7.out.lx (fun hHeld => ?_))
     clear hK K
     (try simp only [Act.put]); (try simp only [z1]); (try simp only [z3]); (try simp only [z2])
     (refine tq 6 62 ?_)
     (try simp only [Act.put]); (try simp only [z1]); (try simp only [z3]); (try simp only [z2])
     have hcb := H7.out.blk.cell
     have hfb := H7.out.blk.frozen
     (refine wpAnyH_ready (rs := [7]) (by kernel_rfl) (by simp) ?_)
     (refine AllReadyH.cons (o := _) rfl (fun K hK => ?_) AllReadyH.nil)
     go_simp
     have H8 := Lh (H7.out.put (cs1 := rqC (.slice A7 (l.length + 1) c7) ⟨1, (id0 : Int), (ep0 : Int), [], cell0, cell0, 0⟩) 3 (.slice A7 (l.length + 1) c7) rfl)
     clear hcb hfb
     (refine hK.out _ _ H8.out.lx (fun hHeld => ?_))
     clear hK K
     (refine wpAnyH_done (by kernel_rfl) ?_ _)
     go_wp2
     go_roundw
     case rel => exact ⟨1, by go_num, by omega, Lh ⟨_, by rw [HSTEP.out]; exact H8.out⟩⟩
     case measure => simp [intOf]
  ·have hkc : k = 1 := by omega
   have HK2 := Lh hkc
   have HDC := Lh (show (dcells xs k ([], s3)).2 = (readD xs).2 ∧ ((readD xs).2.fault = none → (⟨1, (id0 : Int), (ep0 : Int), (dcells xs k ([], s3)).1, cell0, cell0, 0⟩ : Rq) = (readD xs).1) by
    have h := HSAME.out
    rw [HRD.out]
    subst hkc
    have hs : cellsP xs 1 ([], s3) = (if s3.fault.isSome then ([], s3) else ([(cellP xs s3).1], (cellP xs s3).2)) := rfl
    refine ⟨rfl, fun h0 => rfl⟩)
   generalize dcells xs k ([], s3) = st at *
   obtain ⟨l, sz⟩ := st
   dsimp only at HP LK HDC
   clear HSAME HSTEP LK
   subst hkc
   obtain ⟨r0, hr0⟩ : ∃ r0 : Rq, r0 = ⟨1, (id0 : Int), (ep0 : Int), l, cell0, cell0, 0⟩ := ⟨_, rfl⟩
   have HX7 := Lh (show DxIs W0 q j (j + 1) 43 A n c xs (rqC vz r0) (readD xs).2 41 3 vz r0.cs.length (cellCs r0.cs) wz by
    rw [hr0, ← HDC.out.1]
    exact HP.out)
   have HRE := Lh (show (readD xs).2.fault = none → r0 = (readD xs).1 from fun h => by rw [hr0]; exact HDC.out.2 h)
   clear hr0 HP HDC HK2
   have HDEC := Lh (show decRq xs = if (checkD (checkRq (readD xs).1) (endP xs (readD xs).2)).fault.isSome then (rq0, (checkD (checkRq (readD xs).1) (endP xs (readD xs).2)).fault) else ((readD xs).1, none) by
    unfold decRq
    rw [if_neg (by rw [HKD.out]; dsimp only; omega)])
   have HOK := Lh (readD_ok xs)
   generalize readD xs = y at *
   obtain ⟨r', s7⟩ := y
   dsimp only at HX7 HRE HDEC HOK
   have l0 : wz.cell? ⟨j, 0, none⟩ = some (.pointer (some ⟨q, 0, none⟩)) := HX7.out.lx.cell 0
   go_wp2_with fail
   go_at_call 95; (with_reducible refine (dc_end HX7.out.rd).mono ?_); rintro e w8 ⟨rfl, hr, hf⟩
   have HX8 := Lh (HX7.out.read hr hf)
   clear hr hf l0 HX7
   have l0 : w8.cell? ⟨j, 0, none⟩ = some (.pointer (some ⟨q, 0, none⟩)) := HX8.out.lx.cell 0
   have p2 : w8.cell? ⟨q, 2, none⟩ = some (.int .i64 (endP xs s7).err) := HX8.out.rd.blk.cell 2
   rcases hfl : (endP xs s7).fault with _ | ⟨code, pl⟩
   ·have hre := HRE.out (endP_none2 hfl)
    subst hre
    rw [(DocIs.err_no hfl).1] at p2
    obtain ⟨As, cz, hvz⟩ := own_form3 HX8.out.own
    subst hvz
    have HCR := Lh (CellsOwn.rd_ (show CellsOwn w8 W0.heap.size (.slice As r0.cs.length cz) r0.cs from HX8.out.own))
    have hcb := HX8.out.blk.cell
    go_wp2_with fail
    go_at_call 79; (with_reducible refine (rcheck_rq As _ cz r0 w8 rfl HCR.out.1 HCR.out.2 HOK.out).mono ?_); rintro e w9 ⟨rfl, hb9⟩
    have HX9 := Lh (HX8.out.kept hb9)
    have HR9 := Lh (HR2.out.tur HX9.out.tur (by omega))
    have HB9 := Lh (HB2.out.trans (HX9.out.tur.below HB2.out.size (fun k e => by omega)))
    clear hb9 hcb l0 p2 HX8
    have hfR := HR9.out.frozen
    have hcR := HR9.out.cell
    by_cases hck : checkRq r0 = 0
    ·have HD := Lh (show decRq xs = (r0, none) by
      rw [HDEC.out]
      unfold checkD
      rw [hfl, hck]
      simp [RS.fail, hfl])
     rw [hck]
     have hcb := HX9.out.blk.cell
     obtain ⟨wC, HW, HS⟩ := set11e HR9.out (.int .i64 r0.kind) (.int .i64 r0.id) (.int .i64 r0.epoch) (.slice As r0.cs.length cz) (.int .i64 r0.frm.view) (.string r0.frm.key) (.int .i64 r0.frm.start) (.int .i64 r0.too.view) (.string r0.too.key) (.int .i64 r0.too.start) (.int .i64 r0.limit)
     go_wp2
     rw [HW.out]
     have hc7 := HS.out.1.cell
     exact bodyPost_ret (v := .tuple #[.agg (rqC (.slice As r0.cs.length cz) r0), .int .i64 0, .int .i64 0]) (by simp [results, Tryz.results61, go_sem, hc7]) rfl
      ⟨HB9.out.trans (HS.out.2.below HB9.out.size (fun k e => by omega)), by rw [HD.out]; exact ⟨_, rfl, own_low (show CellsOwn w9 W0.heap.size (.slice As r0.cs.length cz) r0.cs from HX9.out.own) HS.out.2 (fun k e => by subst e; have := HX9.out.jl; omega) (by have := HX9.out.jl; omega)⟩⟩
    ·have HD := Lh (show decRq xs = (rq0, some (checkRq r0, 0)) by
      rw [HDEC.out]
      unfold checkD
      rw [hfl]
      simp [RS.fail, hfl, hck])
     have hz : (checkRq r0 != 0) = true := by simpa using hck
     obtain ⟨wC, HW, HS⟩ := set11e HR9.out (.int .i64 0) (.int .i64 0) (.int .i64 0) (.slice none 0 0) (.int .i64 0) (.string ⟨#[]⟩) (.int .i64 0) (.int .i64 0) (.string ⟨#[]⟩) (.int .i64 0) (.int .i64 0)
     go_wp2
     rw [HW.out]
     have hc7 := HS.out.1.cell
     exact bodyPost_ret (v := .tuple #[.agg (rqC nilS rq0), .int .i64 (checkRq r0), .int .i64 0]) (by simp [results, Tryz.results61, go_sem, hc7, rq0, cell0]) rfl
      ⟨HB9.out.trans (HS.out.2.below HB9.out.size (fun k e => by omega)), by rw [HD.out]⟩
   ·have HD := Lh (show decRq xs = (rq0, some (code, pl)) by rw [HDEC.out]; unfold checkD; simp [hfl])
    have hne := HX8.out.rd.ok code pl hfl
    have hcode : (endP xs s7).err = code := by unfold RS.err; rw [hfl]
    have hpl : (endP xs s7).on = pl := by unfold RS.on; rw [hfl]
    rw [hcode] at p2
    have HQB := Lh (show Blk w8 q 192 (DcC (.slice A n c) ((endP xs s7).pos : Int) code pl) by have h := HX8.out.rd.blk; rw [hcode, hpl] at h; exact h)
    have HLB := Lh HX8.out.lx
    have HR8 := Lh (HR2.out.tur HX8.out.tur (by omega))
    have HB8 := Lh (HB2.out.trans (HX8.out.tur.below HB2.out.size (fun k e => by omega)))
    have hz : (code != 0) = true := by unfold bne; rw [hne]; rfl
    clear hcode hpl hne hfl HX8 HDEC HRE
    go_wp2_with fail
    clear l0 p2
    (refine wp_region_held_drew (S := fun w9 => LxB w9 j q ∧ Blk w9 q 192 (DcC (.slice A n c) ((endP xs s7).pos : Int) code pl)) (by kernel_rfl) ⟨HLB.out.drew, HQB.out.drew⟩ (fun hHeld => ?_))
    have HLd := Lh HLB.out.drew
    have HQd := Lh HQB.out.drew
    have HRd := Lh HR8.out.drew
    have HBd := Lh (HB8.out.trans (Below.refl _ _).drew)
    have hsz := HB8.out.size
    clear HLB HQB HR8 HB8
    generalize w8.drew = wd at *
    (refine tq 0 76 ?_)
    (try simp only [Act.put, z1, z2, z3])
    (refine tq 1 77 ?_)
    (try simp only [Act.put, z1, z2, z3])
    (refine tq 2 78 ?_)
    (try simp only [Act.put, z1, z2, z3])
    (refine tq 3 79 ?_)
    (try simp only [Act.put, z1, z2, z3])
    (refine tr (v := ?v195) 4 80 ?h195 ?_)
    case h195 => (intro w9 hSw; have hc9 := Blk.cell hSw.1; clear hSw; first | (go_simp; done) | (go_simp; with_reducible rfl))
    (try simp only [Act.put, z1, z2, z3])
    (refine tq 5 81 ?_)
    (try simp only [Act.put, z1, z2, z3])
    (refine tq 6 82 ?_)
    (try simp only [Act.put, z1, z2, z3])
    (refine tr (v := ?v198) 7 83 ?h198 ?_)
    case h198 => (intro w9 hSw; have hc9 := Blk.cell hSw.2; clear hSw; first | (go_simp; done) | (go_simp; with_reducible rfl))
    (try simp only [Act.put, z1, z2, z3])
    (refine tq 8 84 ?_)
    (try simp only [Act.put, z1, z2, z3])
    (refine tq 9 85 ?_)
    (try simp only [Act.put, z1, z2, z3])
    (refine tq 10 86 ?_)
    (try simp only [Act.put, z1, z2, z3])
    (refine tr (v := ?v202) 11 87 ?h202 ?_)
    case h202 => (intro w9 hSw; have hc9 := Blk.cell hSw.1; clear hSw; first | (go_simp; done) | (go_simp; with_reducible rfl))
    (try simp only [Act.put, z1, z2, z3])
    (refine tq 12 88 ?_)
    (try simp only [Act.put, z1, z2, z3])
    (refine tq 13 89 ?_)
    (try simp only [Act.put, z1, z2, z3])
    (refine tr (v := ?v205) 14 90 ?h205 ?_)
    case h205 => (intro w9 hSw; have hc9 := Blk.cell hSw.2; clear hSw; first | (go_simp; done) | (go_simp; with_reducible rfl))
    (try simp only [Act.put, z1, z2, z3])
    have hfR := HRd.out.frozen
    have hcR := HRd.out.cell
    obtain ⟨wC, HW, HS⟩ := set11e HRd.out (.int .i64 0) (.int .i64 0) (.int .i64 0) (.slice none 0 0) (.int .i64 0) (.string ⟨#[]⟩) (.int .i64 0) (.int .i64 0) (.string ⟨#[]⟩) (.int .i64 0) (.int .i64 0)
    (refine wpAnyH_ready (rs := [15]) (by kernel_rfl) (by simp) ?_)
    (refine AllReadyH.cons (o := _) rfl (fun K hK => ?_) AllReadyH.nil)
    go_simp
    rw [HW.out]
    (refine hK.out _ _ ⟨HLd.out.tur HS.out.2 (by omega), HQd.out.tur HS.out.2 (by omega)⟩ (fun hHeld => ?_))
    clear hK K
    (refine tq 16 3 ?_)
    (try simp only [Act.put, z1, z2, z3])
    (refine tq 17 4 ?_)
    (try simp only [Act.put, z1, z2, z3])
    (refine wpAnyH_done (by kernel_rfl) ?_ _)
    have hc7 := HS.out.1.cell
    go_wp2
    exact bodyPost_ret (v := .tuple #[.agg (rqC nilS rq0), .int .i64 code, .int .i64 pl]) (by simp [results, Tryz.results61, go_sem, hc7, rq0, cell0]) rfl
     ⟨HBd.out.trans (HS.out.2.below HBd.out.size (fun k e => by omega)), by rw [HD.out]⟩
theorem doc_rq_many (A : Option Addr) (n c : Nat) (xs : List Int) (hk : (kindD xs).1 = 2) (W : World) (hl : xs.length = n) (h : CellsAt W A (bvs xs)) (hw : ∀ x ∈ xs, (Lit.int .u8 x).wf = true) (hn : n ≤ 140737488355328) (hc : n ≤ c) :
  Calls Tryz.prog 61 #[.slice A n c] W (DocQ W (decRq xs)) := by
 have HR0 := Lh (Blk.new W 43 #[.int .i64 0, .int .i64 0, .int .i64 0, .slice none 0 0, .int .i64 0, .string ⟨#[]⟩, .int .i64 0, .int .i64 0, .string ⟨#[]⟩, .int .i64 0, .int .i64 0])
 have bl0 := (Below.refl W.heap.size W).alloc (Nat.le_refl _) (.cells #[.int .i64 0, .int .i64 0, .int .i64 0, .slice none 0 0, .int .i64 0, .string ⟨#[]⟩, .int .i64 0, .int .i64 0, .string ⟨#[]⟩, .int .i64 0, .int .i64 0] 43)
 have hs1 : (W.alloc (.cells #[.int .i64 0, .int .i64 0, .int .i64 0, .slice none 0 0, .int .i64 0, .string ⟨#[]⟩, .int .i64 0, .int .i64 0, .string ⟨#[]⟩, .int .i64 0, .int .i64 0] 43)).heap.size = W.heap.size + 1 := by simp
 have CR := Lh (dc_read A n c xs (W.alloc (.cells #[.int .i64 0, .int .i64 0, .int .i64 0, .slice none 0 0, .int .i64 0, .string ⟨#[]⟩, .int .i64 0, .int .i64 0, .string ⟨#[]⟩, .int .i64 0, .int .i64 0] 43)) hl (h.below bl0) hw hn hc)
 have HKN := Lh hk
 have HAl := Lh (show xs ≠ [] → ∀ ad, A = some ad → ad.block < W.heap.size from fun h0 ad e => by
  subst e
  obtain ⟨ad', e, h1, _⟩ := h 0 (by rw [bvs_len]; exact List.length_pos_iff.2 h0)
  cases e
  exact h1)
 have HBl := Lh bl0
 clear h hw hn hk hc bl0
 go_enter Tryz.func61, Tryz.ntmps61
 go_wp2_with fail
 go_at_call 90; (with_reducible refine CR.out.mono ?_); rintro e w1 ⟨rfl, hr, hb⟩
 have HR1 := Lh (HR0.out.kept hb)
 have HB1 := Lh (HBl.out.trans (hb.mono (by simp)))
 have hw1 : W.heap.size + 1 ≤ w1.heap.size := hs1 ▸ hb.size
 rw [hs1] at hr ⊢
 have HX := Lh (DxIs.start hr 43 #[.int .i64 0, .int .i64 0, .int .i64 0, .slice none 0 0, .int .i64 0, .string ⟨#[]⟩, .int .i64 0, .int .i64 0, .string ⟨#[]⟩, .int .i64 0, .int .i64 0] 41 3 (fun h0 ad e => by have := HAl.out h0 ad e; omega))
 have HR2 := Lh ((HR1.out.alloc (.cells #[.pointer (some ⟨W.heap.size + 1, 0, none⟩)] 187)).alloc (.cells #[.int .i64 0, .int .i64 0, .int .i64 0, .slice none 0 0, .int .i64 0, .string ⟨#[]⟩, .int .i64 0, .int .i64 0, .string ⟨#[]⟩, .int .i64 0, .int .i64 0] 43))
 have HB2 := Lh ((HB1.out.alloc (by omega) (.cells #[.pointer (some ⟨W.heap.size + 1, 0, none⟩)] 187)).alloc (by simp; omega) (.cells #[.int .i64 0, .int .i64 0, .int .i64 0, .slice none 0 0, .int .i64 0, .string ⟨#[]⟩, .int .i64 0, .int .i64 0, .string ⟨#[]⟩, .int .i64 0, .int .i64 0] 43))
 have hs2 : (w1.alloc (.cells #[.pointer (some ⟨W.heap.size + 1, 0, none⟩)] 187)).heap.size = w1.heap.size + 1 := by simp
 clear hr hb HR0 CR HAl HBl HB1 HR1 hs1
 go_wp2_with fail
 generalize hW0 : (w1.alloc (.cells #[.pointer (some ⟨W.heap.size + 1, 0, none⟩)] 187)).alloc (.cells #[.int .i64 0, .int .i64 0, .int .i64 0, .slice none 0 0, .int .i64 0, .string ⟨#[]⟩, .int .i64 0, .int .i64 0, .string ⟨#[]⟩, .int .i64 0, .int .i64 0] 43) = W0 at *
 have hRW : W.heap.size < w1.heap.size := by omega
 have hqW : W.heap.size < W.heap.size + 1 := by omega
 clear hW0 hs2
 generalize hq : W.heap.size + 1 = q at *
 generalize hj : w1.heap.size = j at *
 clear hj hq
 go_at_call 91; (with_reducible refine (show Calls Tryz.prog 91 #[.pointer (some ⟨j, 0, none⟩), .int .i64 7] W0 _ from lx_head HX.out.rd HX.out.lx HX.out.jq 7).mono ?_); rintro e w3 ⟨rfl, hr, hf⟩
 have HX3 := Lh (HX.out.read hr hf)
 have HKD := Lh (show kindD xs = numP xs M40 ⟨0, none⟩ from rfl)
 clear hr hf HX
 have HHD := Lh (show headP xs (7 : Int) ⟨0, none⟩ = (numP xs M40 ⟨0, none⟩).2 by
  unfold headP
  rw [if_neg]
  rintro ⟨_, h⟩
  have hk := HKN.out
  rw [HKD.out] at hk
  omega)
 rw [show ((7 : Nat) : Int) = (7 : Int) from rfl] at HX3
 rw [HHD.out] at HX3
 simp only [show ((7 : Nat) : Int) = (7 : Int) from rfl, HHD.out]
 rw [HKD.out] at HKN
 clear HHD
 generalize hyd : numP xs M40 ⟨0, none⟩ = y at *
 clear hyd
 obtain ⟨k0, s1⟩ := y
 dsimp only at HX3 HKN HKD ⊢
 generalize hid : numP xs M40 s1 = y at *
 have HID := Lh hid
 clear hid
 obtain ⟨id0, s2⟩ := y
 dsimp only at HX3 HID ⊢
 have hk1 : k0 = 2 := HKN.out
 subst hk1
 simp only [show ((2 : Nat) : Int) = (2 : Int) from rfl]
 have hcb := HX3.out.blk.cell
 have hfb := HX3.out.blk.frozen
 have HX4 := Lh (show DxIs W0 q j (j + 1) 43 A n c xs (rqC (.slice none 0 0) ⟨2, (id0 : Int), 0, [], cell0, cell0, 0⟩) s2 41 3 (.slice none 0 0) 0 [] ((w3.setCell ⟨j + 1, 0, none⟩ (.int .i64 2)).setCell ⟨j + 1, 1, none⟩ (.int .i64 (id0 : Int))) from (HX3.out.put (cs1 := rqC (.slice none 0 0) ⟨2, 0, 0, [], cell0, cell0, 0⟩) 0 (.int .i64 2) rfl).put 1 (.int .i64 (id0 : Int)) rfl)
 clear HX3
 go_wp2_with fail
 generalize ((w3.setCell ⟨j + 1, 0, none⟩ (.int .i64 2)).setCell ⟨j + 1, 1, none⟩ (.int .i64 (id0 : Int))) = wg5 at *
 go_at_call 92; (with_reducible refine (lx_num HX4.out.rd HX4.out.lx).mono ?_); rintro e wh5 ⟨rfl, hr, hf⟩
 have HN5 := Lh (HX4.out.read hr hf)
 clear hr hf hcb hfb HX4
 generalize hnn : numP xs M40 s2 = y at *
 have HE5 := Lh hnn
 clear hnn
 obtain ⟨ep0, s3⟩ := y
 dsimp only at HN5 HE5 ⊢
 have hcb := HN5.out.blk.cell
 have hfb := HN5.out.blk.frozen
 have HX5 := Lh (HN5.out.put (cs1 := rqC (.slice none 0 0) ⟨2, (id0 : Int), (ep0 : Int), [], cell0, cell0, 0⟩) 2 (.int .i64 (ep0 : Int)) rfl)
 go_wp2_with fail
 generalize (wh5.setCell ⟨j + 1, 2, none⟩ (.int .i64 (ep0 : Int))) = wg6 at *
 go_at_call 93; (with_reducible refine (show Calls Tryz.prog 93 #[.pointer (some ⟨j, 0, none⟩), .int .i64 16] wg6 _ from lx_many HX5.out.rd HX5.out.lx HX5.out.jq 16 (by decide)).mono ?_); rintro e wh6 ⟨rfl, hr, hf⟩
 have HN6 := Lh (HX5.out.read hr hf)
 have HCL := Lh (countP_le xs 16 s3)
 clear hr hf hcb hfb HX5
 simp only [show ((16 : Nat) : Int) = (16 : Int) from rfl] at HN6 HCL ⊢
 generalize hnn : countP xs 16 s3 = y at *
 have HE6 := Lh hnn
 clear hnn
 obtain ⟨cnt, s4⟩ := y
 dsimp only at HN6 HE6 HCL ⊢
 have HRD := Lh (show readD xs = ((⟨2, (id0 : Int), (ep0 : Int), (cellsP xs cnt ([], s4)).1, cell0, cell0, 0⟩ : Rq), (cellsP xs cnt ([], s4)).2) by
  unfold readD bodyD
  rw [HKD.out]
  simp [HID.out, HE5.out, HE6.out])
 go_wp2_with fail
 go_loopw [8] (fun t8 wz => ∃ k : Nat, t8 = .int .i64 (k : Int) ∧ k ≤ cnt ∧ Hid (∃ vz, DxIs W0 q j (j + 1) 43 A n c xs (rqC vz ⟨2, (id0 : Int), (ep0 : Int), [], cell0, cell0, 0⟩) (dcells xs k ([], s4)).2 41 3 vz (dcells xs k ([], s4)).1.length (cellCs (dcells xs k ([], s4)).1) wz)) (fun t8 _ => cnt - (intOf t8).toNat)
 case atStart => exact ⟨0, rfl, Nat.zero_le _, Lh ⟨_, HN6.out⟩⟩
 case round =>
  obtain ⟨k, rfl, hk, HP0⟩ := hrel
  obtain ⟨vz, hP⟩ := HP0.out
  have HP := Lh hP
  clear HP0 hP
  rename World => wz
  have LK := Lh (dcells_len xs ([], s4) k)
  have HSTEP := Lh (show dcells xs (k + 1) ([], s4) = ((dcells xs k ([], s4)).1 ++ [(cellP xs (dcells xs k ([], s4)).2).1], (cellP xs (dcells xs k ([], s4)).2).2) from rfl)
  have HSAME := Lh (dcells_same xs ([], s4) k)
  by_cases hkn : k < cnt
  ·generalize dcells xs k ([], s4) = st at *
   obtain ⟨l, sz⟩ := st
   dsimp only at HP LK HSTEP
   clear HSAME HRD HKD
   go_wp2_with fail
   obtain ⟨ic, zc, hic, hzc, hz1, hz2, hz3⟩ := info_cell
   have h16 : k ≤ 16 := by have := HCL.out; omega
   (refine wp_region_held_drew (S := fun w9 => LxB w9 j q) (by kernel_rfl) HP.out.lx.drew (fun hHeld => ?_))
   have Hd := Lh HP.out.drew
   clear HP
   (refine tq 0 56 ?_)
   (try simp only [Act.put, z1, z2, z3])
   (refine tq 2 58 ?_)
   (try simp only [Act.put, z1, z2, z3])
   (refine wpAnyH_ready (rs := [1, 3]) (by kernel_rfl) (by simp) ?_)
   refine AllReadyH.cons (o := _) rfl (fun K hK => ?_) (AllReadyH.cons (o := _) rfl (fun K hK => ?_) AllReadyH.nil)
   ·have hcb := Hd.out.blk.cell
    go_simp
    clear hcb
    (refine hK.out _ _ Hd.out.lx (fun hHeld => ?_))
    clear hK K
    (try simp only [Act.put, z1, z2, z3])
    (refine wpAnyH_ready (rs := [3]) (by kernel_rfl) (by simp) ?_)
    (refine AllReadyH.cons (o := _) rfl (fun K hK => ?_) AllReadyH.nil)
    go_simp
    (with_reducible refine (lx_cell Hd.out.rd Hd.out.lx Hd.out.jq).mono ?_)
    rintro e w5 ⟨rfl, hr, hf⟩
    have H5 := Lh (Hd.out.read hr hf)
    clear hr hf
    generalize (cellP xs sz) = y at *
    obtain ⟨x, s9⟩ := y
    dsimp only at H5 HSTEP
    go_simp
    (refine hK.out _ _ H5.out.lx (fun hHeld => ?_))
    clear hK K
    (try dsimp only)
    (refine wpAnyH_ready (rs := [4]) (by kernel_rfl) (by simp) ?_)
    (refine AllReadyH.cons (o := _) rfl (fun K hK => ?_) AllReadyH.nil)
    go_simp
    have HN6 := Lh (Blk.new w5 41 #[.int .i64 x.view, .string x.key, .int .i64 x.start])
    have H6 := Lh (H5.out.alloc (.cells #[.int .i64 x.view, .string x.key, .int .i64 x.start] 41))
    generalize hw6 : w5.alloc (.cells #[.int .i64 x.view, .string x.key, .int .i64 x.start] 41) = w6 at *
    generalize w5.heap.size = jn at *
    (refine hK.out _ _ H6.out.lx (fun hHeld => ?_))
    clear hK K
    (try simp only [Act.put, z1, z2, z3])
    (refine wpAnyH_ready (rs := [5]) (by kernel_rfl) (by simp) ?_)
    (refine AllReadyH.cons (o := _) rfl (fun K hK => ?_) AllReadyH.nil)
    refine want_ (by kernel_rfl) ?_
    refine wp_append_at _ _ _ rfl W0.heap.size _ ic zc 3 32 Tryz.underlying39 hic hzc hz1 hz2 hz3 (by decide) vz l.length (cellCs l) rfl H6.out.own ⟨jn, 0, none⟩ 1 1 x.cells rfl rfl (cells_one_c HN6.out) (cells_one1 x) (by have h := LK.out; rw [List.length_nil] at h; unfold maxLen; omega) (by have h := LK.out; rw [List.length_nil] at h; omega) H6.out.tur.size ?_
    intro v7 w7 hown hg hv
    obtain ⟨A7, c7, rfl⟩ := own_form3 hown
    have H7 := Lh ((H6.out.grown hg hown).to (m1 := (l ++ [x]).length) (ys1 := cellCs (l ++ [x])) (by simp) (by simp [cellCs]))
    clear hown hg hv
    (refine hK.out _ _ H7.out.lx (fun hHeld => ?_))
    clear hK K
    (try simp only [Act.put]); (try simp only [z1]); (try simp only [z3]); (try simp only [z2])
    (refine tq 6 62 ?_)
    (try simp only [Act.put]); (try simp only [z1]); (try simp only [z3]); (try simp only [z2])
    have hcb := H7.out.blk.cell
    have hfb := H7.out.blk.frozen
    (refine wpAnyH_ready (rs := [7]) (by kernel_rfl) (by simp) ?_)
    (refine AllReadyH.cons (o := _) rfl (fun K hK => ?_) AllReadyH.nil)
    go_simp
    have H8 := Lh (H7.out.put (cs1 := rqC (.slice A7 (l.length + 1) c7) ⟨2, (id0 : Int), (ep0 : Int), [], cell0, cell0, 0⟩) 3 (.slice A7 (l.length + 1) c7) rfl)
    clear hcb hfb
    (refine hK.out _ _ H8.out.lx (fun hHeld => ?_))
    clear hK K
    (refine wpAnyH_done (by kernel_rfl) ?_ _)
    go_wp2
    go_roundw
    case rel => exact ⟨k + 1, by go_num, by omega, Lh ⟨_, by rw [HSTEP.out]; exact H8.out⟩⟩
    case measure => simp [intOf]; omega
   ·go_simp
    (with_reducible refine (lx_cell Hd.out.rd Hd.out.lx Hd.out.jq).mono ?_)
    rintro e w5 ⟨rfl, hr, hf⟩
    have H5 := Lh (Hd.out.read hr hf)
    clear hr hf
    generalize (cellP xs sz) = y at *
    obtain ⟨x, s9⟩ := y
    dsimp only at H5 HSTEP
    go_simp
    (refine hK.out _ _ H5.out.lx (fun hHeld => ?_))
    clear hK K
    (try dsimp only)
    (refine wpAnyH_ready (rs := [1, 4]) (by kernel_rfl) (by simp) ?_)
    refine AllReadyH.cons (o := _) rfl (fun K hK => ?_) (AllReadyH.cons (o := _) rfl (fun K hK => ?_) AllReadyH.nil)
    ·have hcb := H5.out.blk.cell
     go_simp
     clear hcb
     (refine hK.out _ _ H5.out.lx (fun hHeld => ?_))
     clear hK K
     (try simp only [Act.put, z1, z2, z3])
     (refine wpAnyH_ready (rs := [4]) (by kernel_rfl) (by simp) ?_)
     (refine AllReadyH.cons (o := _) rfl (fun K hK => ?_) AllReadyH.nil)
     go_simp
     have HN6 := Lh (Blk.new w5 41 #[.int .i64 x.view, .string x.key, .int .i64 x.start])
     have H6 := Lh (H5.out.alloc (.cells #[.int .i64 x.view, .string x.key, .int .i64 x.start] 41))
     generalize hw6 : w5.alloc (.cells #[.int .i64 x.view, .string x.key, .int .i64 x.start] 41) = w6 at *
     generalize w5.heap.size = jn at *
     (refine hK.out _ _ H6.out.lx (fun hHeld => ?_))
     clear hK K
     (try simp only [Act.put, z1, z2, z3])
     (refine wpAnyH_ready (rs := [5]) (by kernel_rfl) (by simp) ?_)
     (refine AllReadyH.cons (o := _) rfl (fun K hK => ?_) AllReadyH.nil)
     refine want_ (by kernel_rfl) ?_
     refine wp_append_at _ _ _ rfl W0.heap.size _ ic zc 3 32 Tryz.underlying39 hic hzc hz1 hz2 hz3 (by decide) vz l.length (cellCs l) rfl H6.out.own ⟨jn, 0, none⟩ 1 1 x.cells rfl rfl (cells_one_c HN6.out) (cells_one1 x) (by have h := LK.out; rw [List.length_nil] at h; unfold maxLen; omega) (by have h := LK.out; rw [List.length_nil] at h; omega) H6.out.tur.size ?_
     intro v7 w7 hown hg hv
     obtain ⟨A7, c7, rfl⟩ := own_form3 hown
     have H7 := Lh ((H6.out.grown hg hown).to (m1 := (l ++ [x]).length) (ys1 := cellCs (l ++ [x])) (by simp) (by simp [cellCs]))
     clear hown hg hv
     (refine hK.out _ _ H7.out.lx (fun hHeld => ?_))
     clear hK K
     (try simp only [Act.put]); (try simp only [z1]); (try simp only [z3]); (try simp only [z2])
     (refine tq 6 62 ?_)
     (try simp only [Act.put]); (try simp only [z1]); (try simp only [z3]); (try simp only [z2])
     have hcb := H7.out.blk.cell
     have hfb := H7.out.blk.frozen
     (refine wpAnyH_ready (rs := [7]) (by kernel_rfl) (by simp) ?_)
     (refine AllReadyH.cons (o := _) rfl (fun K hK => ?_) AllReadyH.nil)
     go_simp
     have H8 := Lh (H7.out.put (cs1 := rqC (.slice A7 (l.length + 1) c7) ⟨2, (id0 : Int), (ep0 : Int), [], cell0, cell0, 0⟩) 3 (.slice A7 (l.length + 1) c7) rfl)
     clear hcb hfb
     (refine hK.out _ _ H8.out.lx (fun hHeld => ?_))
     clear hK K
     (refine wpAnyH_done (by kernel_rfl) ?_ _)
     go_wp2
     go_roundw
     case rel => exact ⟨k + 1, by go_num, by omega, Lh ⟨_, by rw [HSTEP.out]; exact H8.out⟩⟩
     case measure => simp [intOf]; omega
    ·go_simp
     have HN6 := Lh (Blk.new w5 41 #[.int .i64 x.view, .string x.key, .int .i64 x.start])
     have H6 := Lh (H5.out.alloc (.cells #[.int .i64 x.view, .string x.key, .int .i64 x.start] 41))
     generalize hw6 : w5.alloc (.cells #[.int .i64 x.view, .string x.key, .int .i64 x.start] 41) = w6 at *
     generalize w5.heap.size = jn at *
     (refine hK.out _ _ H6.out.lx (fun hHeld => ?_))
     clear hK K
     (try simp only [Act.put, z1, z2, z3])
     (refine wpAnyH_ready (rs := [1]) (by kernel_rfl) (by simp) ?_)
     (refine AllReadyH.cons (o := _) rfl (fun K hK => ?_) AllReadyH.nil)
     have hcb := H6.out.blk.cell
     go_simp
     clear hcb
     (refine hK.out _ _ H6.out.lx (fun hHeld => ?_))
     clear hK K
     (try simp only [Act.put, z1, z2, z3])
     (refine wpAnyH_ready (rs := [5]) (by kernel_rfl) (by simp) ?_)
     (refine AllReadyH.cons (o := _) rfl (fun K hK => ?_) AllReadyH.nil)
     refine want_ (by kernel_rfl) ?_
     refine wp_append_at _ _ _ rfl W0.heap.size _ ic zc 3 32 Tryz.underlying39 hic hzc hz1 hz2 hz3 (by decide) vz l.length (cellCs l) rfl H6.out.own ⟨jn, 0, none⟩ 1 1 x.cells rfl rfl (cells_one_c HN6.out) (cells_one1 x) (by have h := LK.out; rw [List.length_nil] at h; unfold maxLen; omega) (by have h := LK.out; rw [List.length_nil] at h; omega) H6.out.tur.size ?_
     intro v7 w7 hown hg hv
     obtain ⟨A7, c7, rfl⟩ := own_form3 hown
     have H7 := Lh ((H6.out.grown hg hown).to (m1 := (l ++ [x]).length) (ys1 := cellCs (l ++ [x])) (by simp) (by simp [cellCs]))
     clear hown hg hv
     (refine hK.out _ _ H7.out.lx (fun hHeld => ?_))
     clear hK K
     (try simp only [Act.put]); (try simp only [z1]); (try simp only [z3]); (try simp only [z2])
     (refine tq 6 62 ?_)
     (try simp only [Act.put]); (try simp only [z1]); (try simp only [z3]); (try simp only [z2])
     have hcb := H7.out.blk.cell
     have hfb := H7.out.blk.frozen
     (refine wpAnyH_ready (rs := [7]) (by kernel_rfl) (by simp) ?_)
     (refine AllReadyH.cons (o := _) rfl (fun K hK => ?_) AllReadyH.nil)
     go_simp
     have H8 := Lh (H7.out.put (cs1 := rqC (.slice A7 (l.length + 1) c7) ⟨2, (id0 : Int), (ep0 : Int), [], cell0, cell0, 0⟩) 3 (.slice A7 (l.length + 1) c7) rfl)
     clear hcb hfb
     (refine hK.out _ _ H8.out.lx (fun hHeld => ?_))
     clear hK K
     (refine wpAnyH_done (by kernel_rfl) ?_ _)
     go_wp2
     go_roundw
     case rel => exact ⟨k + 1, by go_num, by omega, Lh ⟨_, by rw [HSTEP.out]; exact H8.out⟩⟩
     case measure => simp [intOf]; omega
  ·have hkc : k = cnt := by omega
   have HK2 := Lh hkc
   have HDC := Lh (show (dcells xs k ([], s4)).2 = (readD xs).2 ∧ ((readD xs).2.fault = none → (⟨2, (id0 : Int), (ep0 : Int), (dcells xs k ([], s4)).1, cell0, cell0, 0⟩ : Rq) = (readD xs).1) by
    have h := HSAME.out
    rw [HRD.out]
    subst hkc
    refine ⟨h.1, fun h0 => ?_⟩
    rw [h.2 h0])
   generalize dcells xs k ([], s4) = st at *
   obtain ⟨l, sz⟩ := st
   dsimp only at HP LK HDC
   clear HSAME HSTEP LK
   obtain ⟨r0, hr0⟩ : ∃ r0 : Rq, r0 = ⟨2, (id0 : Int), (ep0 : Int), l, cell0, cell0, 0⟩ := ⟨_, rfl⟩
   have HX7 := Lh (show DxIs W0 q j (j + 1) 43 A n c xs (rqC vz r0) (readD xs).2 41 3 vz r0.cs.length (cellCs r0.cs) wz by
    rw [hr0, ← HDC.out.1]
    exact HP.out)
   have HRE := Lh (show (readD xs).2.fault = none → r0 = (readD xs).1 from fun h => by rw [hr0]; exact HDC.out.2 h)
   clear hr0 HP HDC HK2
   have HDEC := Lh (show decRq xs = if (checkD (checkRq (readD xs).1) (endP xs (readD xs).2)).fault.isSome then (rq0, (checkD (checkRq (readD xs).1) (endP xs (readD xs).2)).fault) else ((readD xs).1, none) by
    unfold decRq
    rw [if_neg (by rw [HKD.out]; dsimp only; omega)])
   have HOK := Lh (readD_ok xs)
   generalize readD xs = y at *
   obtain ⟨r', s7⟩ := y
   dsimp only at HX7 HRE HDEC HOK
   have l0 : wz.cell? ⟨j, 0, none⟩ = some (.pointer (some ⟨q, 0, none⟩)) := HX7.out.lx.cell 0
   go_wp2_with fail
   go_at_call 95; (with_reducible refine (dc_end HX7.out.rd).mono ?_); rintro e w8 ⟨rfl, hr, hf⟩
   have HX8 := Lh (HX7.out.read hr hf)
   clear hr hf l0 HX7
   have l0 : w8.cell? ⟨j, 0, none⟩ = some (.pointer (some ⟨q, 0, none⟩)) := HX8.out.lx.cell 0
   have p2 : w8.cell? ⟨q, 2, none⟩ = some (.int .i64 (endP xs s7).err) := HX8.out.rd.blk.cell 2
   rcases hfl : (endP xs s7).fault with _ | ⟨code, pl⟩
   ·have hre := HRE.out (endP_none2 hfl)
    subst hre
    rw [(DocIs.err_no hfl).1] at p2
    obtain ⟨As, cz, hvz⟩ := own_form3 HX8.out.own
    subst hvz
    have HCR := Lh (CellsOwn.rd_ (show CellsOwn w8 W0.heap.size (.slice As r0.cs.length cz) r0.cs from HX8.out.own))
    have hcb := HX8.out.blk.cell
    go_wp2_with fail
    go_at_call 79; (with_reducible refine (rcheck_rq As _ cz r0 w8 rfl HCR.out.1 HCR.out.2 HOK.out).mono ?_); rintro e w9 ⟨rfl, hb9⟩
    have HX9 := Lh (HX8.out.kept hb9)
    have HR9 := Lh (HR2.out.tur HX9.out.tur (by omega))
    have HB9 := Lh (HB2.out.trans (HX9.out.tur.below HB2.out.size (fun k e => by omega)))
    clear hb9 hcb l0 p2 HX8
    have hfR := HR9.out.frozen
    have hcR := HR9.out.cell
    by_cases hck : checkRq r0 = 0
    ·have HD := Lh (show decRq xs = (r0, none) by
      rw [HDEC.out]
      unfold checkD
      rw [hfl, hck]
      simp [RS.fail, hfl])
     rw [hck]
     have hcb := HX9.out.blk.cell
     obtain ⟨wC, HW, HS⟩ := set11e HR9.out (.int .i64 r0.kind) (.int .i64 r0.id) (.int .i64 r0.epoch) (.slice As r0.cs.length cz) (.int .i64 r0.frm.view) (.string r0.frm.key) (.int .i64 r0.frm.start) (.int .i64 r0.too.view) (.string r0.too.key) (.int .i64 r0.too.start) (.int .i64 r0.limit)
     go_wp2
     rw [HW.out]
     have hc7 := HS.out.1.cell
     exact bodyPost_ret (v := .tuple #[.agg (rqC (.slice As r0.cs.length cz) r0), .int .i64 0, .int .i64 0]) (by simp [results, Tryz.results61, go_sem, hc7]) rfl
      ⟨HB9.out.trans (HS.out.2.below HB9.out.size (fun k e => by omega)), by rw [HD.out]; exact ⟨_, rfl, own_low (show CellsOwn w9 W0.heap.size (.slice As r0.cs.length cz) r0.cs from HX9.out.own) HS.out.2 (fun k e => by subst e; have := HX9.out.jl; omega) (by have := HX9.out.jl; omega)⟩⟩
    ·have HD := Lh (show decRq xs = (rq0, some (checkRq r0, 0)) by
      rw [HDEC.out]
      unfold checkD
      rw [hfl]
      simp [RS.fail, hfl, hck])
     have hz : (checkRq r0 != 0) = true := by simpa using hck
     obtain ⟨wC, HW, HS⟩ := set11e HR9.out (.int .i64 0) (.int .i64 0) (.int .i64 0) (.slice none 0 0) (.int .i64 0) (.string ⟨#[]⟩) (.int .i64 0) (.int .i64 0) (.string ⟨#[]⟩) (.int .i64 0) (.int .i64 0)
     go_wp2
     rw [HW.out]
     have hc7 := HS.out.1.cell
     exact bodyPost_ret (v := .tuple #[.agg (rqC nilS rq0), .int .i64 (checkRq r0), .int .i64 0]) (by simp [results, Tryz.results61, go_sem, hc7, rq0, cell0]) rfl
      ⟨HB9.out.trans (HS.out.2.below HB9.out.size (fun k e => by omega)), by rw [HD.out]⟩
   ·have HD := Lh (show decRq xs = (rq0, some (code, pl)) by rw [HDEC.out]; unfold checkD; simp [hfl])
    have hne := HX8.out.rd.ok code pl hfl
    have hcode : (endP xs s7).err = code := by unfold RS.err; rw [hfl]
    have hpl : (endP xs s7).on = pl := by unfold RS.on; rw [hfl]
    rw [hcode] at p2
    have HQB := Lh (show Blk w8 q 192 (DcC (.slice A n c) ((endP xs s7).pos : Int) code pl) by have h := HX8.out.rd.blk; rw [hcode, hpl] at h; exact h)
    have HLB := Lh HX8.out.lx
    have HR8 := Lh (HR2.out.tur HX8.out.tur (by omega))
    have HB8 := Lh (HB2.out.trans (HX8.out.tur.below HB2.out.size (fun k e => by omega)))
    have hz : (code != 0) = true := by unfold bne; rw [hne]; rfl
    clear hcode hpl hne hfl HX8 HDEC HRE
    go_wp2_with fail
    clear l0 p2
    (refine wp_region_held_drew (S := fun w9 => LxB w9 j q ∧ Blk w9 q 192 (DcC (.slice A n c) ((endP xs s7).pos : Int) code pl)) (by kernel_rfl) ⟨HLB.out.drew, HQB.out.drew⟩ (fun hHeld => ?_))
    have HLd := Lh HLB.out.drew
    have HQd := Lh HQB.out.drew
    have HRd := Lh HR8.out.drew
    have HBd := Lh (HB8.out.trans (Below.refl _ _).drew)
    have hsz := HB8.out.size
    clear HLB HQB HR8 HB8
    generalize w8.drew = wd at *
    (refine tq 0 76 ?_)
    (try simp only [Act.put, z1, z2, z3])
    (refine tq 1 77 ?_)
    (try simp only [Act.put, z1, z2, z3])
    (refine tq 2 78 ?_)
    (try simp only [Act.put, z1, z2, z3])
    (refine tq 3 79 ?_)
    (try simp only [Act.put, z1, z2, z3])
    (refine tr (v := ?v217) 4 80 ?h217 ?_)
    case h217 => (intro w9 hSw; have hc9 := Blk.cell hSw.1; clear hSw; first | (go_simp; done) | (go_simp; with_reducible rfl))
    (try simp only [Act.put, z1, z2, z3])
    (refine tq 5 81 ?_)
    (try simp only [Act.put, z1, z2, z3])
    (refine tq 6 82 ?_)
    (try simp only [Act.put, z1, z2, z3])
    (refine tr (v := ?v220) 7 83 ?h220 ?_)
    case h220 => (intro w9 hSw; have hc9 := Blk.cell hSw.2; clear hSw; first | (go_simp; done) | (go_simp; with_reducible rfl))
    (try simp only [Act.put, z1, z2, z3])
    (refine tq 8 84 ?_)
    (try simp only [Act.put, z1, z2, z3])
    (refine tq 9 85 ?_)
    (try simp only [Act.put, z1, z2, z3])
    (refine tq 10 86 ?_)
    (try simp only [Act.put, z1, z2, z3])
    (refine tr (v := ?v224) 11 87 ?h224 ?_)
    case h224 => (intro w9 hSw; have hc9 := Blk.cell hSw.1; clear hSw; first | (go_simp; done) | (go_simp; with_reducible rfl))
    (try simp only [Act.put, z1, z2, z3])
    (refine tq 12 88 ?_)
    (try simp only [Act.put, z1, z2, z3])
    (refine tq 13 89 ?_)
    (try simp only [Act.put, z1, z2, z3])
    (refine tr (v := ?v227) 14 90 ?h227 ?_)
    case h227 => (intro w9 hSw; have hc9 := Blk.cell hSw.2; clear hSw; first | (go_simp; done) | (go_simp; with_reducible rfl))
    (try simp only [Act.put, z1, z2, z3])
    have hfR := HRd.out.frozen
    have hcR := HRd.out.cell
    obtain ⟨wC, HW, HS⟩ := set11e HRd.out (.int .i64 0) (.int .i64 0) (.int .i64 0) (.slice none 0 0) (.int .i64 0) (.string ⟨#[]⟩) (.int .i64 0) (.int .i64 0) (.string ⟨#[]⟩) (.int .i64 0) (.int .i64 0)
    (refine wpAnyH_ready (rs := [15]) (by kernel_rfl) (by simp) ?_)
    (refine AllReadyH.cons (o := _) rfl (fun K hK => ?_) AllReadyH.nil)
    go_simp
    rw [HW.out]
    (refine hK.out _ _ ⟨HLd.out.tur HS.out.2 (by omega), HQd.out.tur HS.out.2 (by omega)⟩ (fun hHeld => ?_))
    clear hK K
    (refine tq 16 3 ?_)
    (try simp only [Act.put, z1, z2, z3])
    (refine tq 17 4 ?_)
    (try simp only [Act.put, z1, z2, z3])
    (refine wpAnyH_done (by kernel_rfl) ?_ _)
    have hc7 := HS.out.1.cell
    go_wp2
    exact bodyPost_ret (v := .tuple #[.agg (rqC nilS rq0), .int .i64 code, .int .i64 pl]) (by simp [results, Tryz.results61, go_sem, hc7, rq0, cell0]) rfl
     ⟨HBd.out.trans (HS.out.2.below HBd.out.size (fun k e => by omega)), by rw [HD.out]⟩
theorem doc_rq_none (A : Option Addr) (n c : Nat) (xs : List Int) (hk : (kindD xs).1 < 1 ∨ 7 < (kindD xs).1) (W : World) (hl : xs.length = n) (h : CellsAt W A (bvs xs)) (hw : ∀ x ∈ xs, (Lit.int .u8 x).wf = true) (hn : n ≤ 140737488355328) (hc : n ≤ c) :
  Calls Tryz.prog 61 #[.slice A n c] W (DocQ W (decRq xs)) := by
 have HR0 := Lh (Blk.new W 43 #[.int .i64 0, .int .i64 0, .int .i64 0, .slice none 0 0, .int .i64 0, .string ⟨#[]⟩, .int .i64 0, .int .i64 0, .string ⟨#[]⟩, .int .i64 0, .int .i64 0])
 have bl0 := (Below.refl W.heap.size W).alloc (Nat.le_refl _) (.cells #[.int .i64 0, .int .i64 0, .int .i64 0, .slice none 0 0, .int .i64 0, .string ⟨#[]⟩, .int .i64 0, .int .i64 0, .string ⟨#[]⟩, .int .i64 0, .int .i64 0] 43)
 have hs1 : (W.alloc (.cells #[.int .i64 0, .int .i64 0, .int .i64 0, .slice none 0 0, .int .i64 0, .string ⟨#[]⟩, .int .i64 0, .int .i64 0, .string ⟨#[]⟩, .int .i64 0, .int .i64 0] 43)).heap.size = W.heap.size + 1 := by simp
 have CR := Lh (dc_read A n c xs (W.alloc (.cells #[.int .i64 0, .int .i64 0, .int .i64 0, .slice none 0 0, .int .i64 0, .string ⟨#[]⟩, .int .i64 0, .int .i64 0, .string ⟨#[]⟩, .int .i64 0, .int .i64 0] 43)) hl (h.below bl0) hw hn hc)
 have HKN := Lh hk
 have HAl := Lh (show xs ≠ [] → ∀ ad, A = some ad → ad.block < W.heap.size from fun h0 ad e => by
  subst e
  obtain ⟨ad', e, h1, _⟩ := h 0 (by rw [bvs_len]; exact List.length_pos_iff.2 h0)
  cases e
  exact h1)
 have HBl := Lh bl0
 clear h hw hn hk hc bl0
 go_enter Tryz.func61, Tryz.ntmps61
 go_wp2_with fail
 go_at_call 90; (with_reducible refine CR.out.mono ?_); rintro e w1 ⟨rfl, hr, hb⟩
 have HR1 := Lh (HR0.out.kept hb)
 have HB1 := Lh (HBl.out.trans (hb.mono (by simp)))
 have hw1 : W.heap.size + 1 ≤ w1.heap.size := hs1 ▸ hb.size
 rw [hs1] at hr ⊢
 have HX := Lh (DxIs.start hr 43 #[.int .i64 0, .int .i64 0, .int .i64 0, .slice none 0 0, .int .i64 0, .string ⟨#[]⟩, .int .i64 0, .int .i64 0, .string ⟨#[]⟩, .int .i64 0, .int .i64 0] 41 3 (fun h0 ad e => by have := HAl.out h0 ad e; omega))
 have HR2 := Lh ((HR1.out.alloc (.cells #[.pointer (some ⟨W.heap.size + 1, 0, none⟩)] 187)).alloc (.cells #[.int .i64 0, .int .i64 0, .int .i64 0, .slice none 0 0, .int .i64 0, .string ⟨#[]⟩, .int .i64 0, .int .i64 0, .string ⟨#[]⟩, .int .i64 0, .int .i64 0] 43))
 have HB2 := Lh ((HB1.out.alloc (by omega) (.cells #[.pointer (some ⟨W.heap.size + 1, 0, none⟩)] 187)).alloc (by simp; omega) (.cells #[.int .i64 0, .int .i64 0, .int .i64 0, .slice none 0 0, .int .i64 0, .string ⟨#[]⟩, .int .i64 0, .int .i64 0, .string ⟨#[]⟩, .int .i64 0, .int .i64 0] 43))
 have hs2 : (w1.alloc (.cells #[.pointer (some ⟨W.heap.size + 1, 0, none⟩)] 187)).heap.size = w1.heap.size + 1 := by simp
 clear hr hb HR0 CR HAl HBl HB1 HR1 hs1
 go_wp2_with fail
 generalize hW0 : (w1.alloc (.cells #[.pointer (some ⟨W.heap.size + 1, 0, none⟩)] 187)).alloc (.cells #[.int .i64 0, .int .i64 0, .int .i64 0, .slice none 0 0, .int .i64 0, .string ⟨#[]⟩, .int .i64 0, .int .i64 0, .string ⟨#[]⟩, .int .i64 0, .int .i64 0] 43) = W0 at *
 have hRW : W.heap.size < w1.heap.size := by omega
 have hqW : W.heap.size < W.heap.size + 1 := by omega
 clear hW0 hs2
 generalize hq : W.heap.size + 1 = q at *
 generalize hj : w1.heap.size = j at *
 clear hj hq
 go_at_call 91; (with_reducible refine (show Calls Tryz.prog 91 #[.pointer (some ⟨j, 0, none⟩), .int .i64 7] W0 _ from lx_head HX.out.rd HX.out.lx HX.out.jq 7).mono ?_); rintro e w3 ⟨rfl, hr, hf⟩
 have HX3 := Lh (HX.out.read hr hf)
 have HKD := Lh (show kindD xs = numP xs M40 ⟨0, none⟩ from rfl)
 clear hr hf HX
 have HHD := Lh (show headP xs (7 : Int) ⟨0, none⟩ = (kindD xs).2.fail 15 0 by
  unfold headP
  rw [HKD.out]
  have hk := HKN.out
  rw [HKD.out] at hk
  split
  ·rfl
  ·rename_i h
   rcases hf : (numP xs M40 ⟨0, none⟩).2.fault with _ | x
   ·exact absurd ⟨hf, by omega⟩ h
   ·rw [fail_same (by rw [hf]; rfl)])
 rw [show ((7 : Nat) : Int) = (7 : Int) from rfl] at HX3
 rw [HHD.out] at HX3
 simp only [show ((7 : Nat) : Int) = (7 : Int) from rfl, HHD.out]
 have HDEC0 := Lh (show decRq xs = (rq0, ((kindD xs).2.fail 15 0).fault) by unfold decRq; rw [if_pos HKN.out])
 have HSF := Lh (show ((kindD xs).2.fail 15 0).fault.isSome = true by
  rcases hf : ((kindD xs).2.fail 15 0).fault with _ | x
  ·exact absurd hf (RS.fail_some (by decide))
  ·rfl)
 have hst : numP xs M40 ((kindD xs).2.fail 15 0) = (0, (kindD xs).2.fail 15 0) := by
  have h2 := Stays.num xs _ HSF.out
  have h1 := numP_some (m := (numP xs M40 ((kindD xs).2.fail 15 0)).1) (s1 := (numP xs M40 ((kindD xs).2.fail 15 0)).2) rfl (by
   have h3 : (numP xs M40 ((kindD xs).2.fail 15 0)).2 = _ := h2
   rw [h3]
   exact HSF.out)
  exact Prod.ext h1 h2
 rw [hst] at HX3
 rw [hst]
 dsimp only at HX3 ⊢
 obtain ⟨kk, hkk⟩ : ∃ kk : Int, kk = ((numP xs M40 ⟨0, none⟩).1 : Int) := ⟨_, rfl⟩
 rw [← hkk]
 have hkb : kk < 1 ∨ (7 : Int) < kk := by have hk := HKN.out; rw [HKD.out] at hk; omega
 have d1 : (kk == 1) = false := by simp; omega
 have d2 : (kk == 2) = false := by simp; omega
 have d3 : (kk == 3) = false := by simp; omega
 have d4 : (kk == 4) = false := by simp; omega
 have d5 : (kk == 5) = false := by simp; omega
 have d7 : (kk == 7) = false := by simp; omega
 have e4 : (kk != 4) = true := by simp; omega
 have e7 : (kk != 7) = true := by simp; omega
 generalize hs7 : (kindD xs).2.fail 15 0 = s7 at *
 have HST := Lh hst
 clear hkk hkb hst HHD HKD hs7 HKN
 rw [show (((0 : Nat) : Int)) = 0 from rfl]
 have hcb := HX3.out.blk.cell
 have hfb := HX3.out.blk.frozen
 have HX4 := Lh (show DxIs W0 q j (j + 1) 43 A n c xs (rqC (.slice none 0 0) ⟨kk, 0, 0, [], cell0, cell0, 0⟩) s7 41 3 (.slice none 0 0) 0 [] ((w3.setCell ⟨j + 1, 0, none⟩ (.int .i64 kk)).setCell ⟨j + 1, 1, none⟩ (.int .i64 0)) from (HX3.out.put (cs1 := rqC (.slice none 0 0) ⟨kk, 0, 0, [], cell0, cell0, 0⟩) 0 (.int .i64 kk) rfl).put 1 (.int .i64 0) rfl)
 have l00 : w3.cell? ⟨j, 0, none⟩ = some (.pointer (some ⟨q, 0, none⟩)) := HX3.out.lx.cell 0
 clear HX3
 clear l00
 go_wp2_with fail
 generalize ((w3.setCell ⟨j + 1, 0, none⟩ (.int .i64 kk)).setCell ⟨j + 1, 1, none⟩ (.int .i64 0)) = wg5 at *
 go_at_call 92; (with_reducible refine (lx_num HX4.out.rd HX4.out.lx).mono ?_); rintro e wh5 ⟨rfl, hr, hf⟩
 have HN5 := Lh (HX4.out.read hr hf)
 clear hr hf hcb hfb HX4
 generalize hnn : numP xs M40 s7 = y at *
 have HE5 := Lh hnn
 clear hnn
 obtain ⟨ep0, s3⟩ := y
 dsimp only at HN5 HE5 ⊢
 have hcb := HN5.out.blk.cell
 have hfb := HN5.out.blk.frozen
 have HX5 := Lh (HN5.out.put (cs1 := rqC (.slice none 0 0) ⟨kk, 0, (ep0 : Int), [], cell0, cell0, 0⟩) 2 (.int .i64 (ep0 : Int)) rfl)
 have he : (ep0, s3) = (0, s7) := HST.out
 injection he with he1 he2
 have he1 := he1.symm
 have he2 := he2.symm
 subst he1
 subst he2
 go_wp2_with fail
 generalize (wh5.setCell ⟨j + 1, 2, none⟩ (.int .i64 ((0 : Nat) : Int))) = wl at *
 go_loopw [8] (fun t8 wz => t8 = .int .i64 0 ∧ Hid (DxIs W0 q j (j + 1) 43 A n c xs (rqC (.slice none 0 0) ⟨kk, 0, ((0 : Nat) : Int), [], cell0, cell0, 0⟩) s7 41 3 (.slice none 0 0) 0 [] wz)) (fun _ _ => 0)
 case atStart => exact ⟨rfl, HX5⟩
 case round =>
  obtain ⟨rfl, HX7⟩ := hrel
  rename World => wz
  clear hcb hfb
  have l0 : wz.cell? ⟨j, 0, none⟩ = some (.pointer (some ⟨q, 0, none⟩)) := HX7.out.lx.cell 0
  go_wp2_with fail
  go_at_call 95; (with_reducible refine (dc_end HX7.out.rd).mono ?_); rintro e w8 ⟨rfl, hr, hf⟩
  have HX8 := Lh (HX7.out.read hr hf)
  clear hr hf l0 HX7
  have l0 : w8.cell? ⟨j, 0, none⟩ = some (.pointer (some ⟨q, 0, none⟩)) := HX8.out.lx.cell 0
  have p2 : w8.cell? ⟨q, 2, none⟩ = some (.int .i64 (endP xs s7).err) := HX8.out.rd.blk.cell 2
  rcases hfl : (endP xs s7).fault with _ | ⟨code, pl⟩
  ·exfalso
   have := endP_none2 hfl
   have h := HSF.out
   rw [this] at h
   cases h
  ·have HD := Lh (show decRq xs = (rq0, some (code, pl)) by
    have he := endP_stay (xs := xs) HSF.out
    rw [he] at hfl
    rw [HDEC0.out, hfl])
   have hne := HX8.out.rd.ok code pl hfl
   have hcode : (endP xs s7).err = code := by unfold RS.err; rw [hfl]
   have hpl : (endP xs s7).on = pl := by unfold RS.on; rw [hfl]
   rw [hcode] at p2
   have HQB := Lh (show Blk w8 q 192 (DcC (.slice A n c) ((endP xs s7).pos : Int) code pl) by have h := HX8.out.rd.blk; rw [hcode, hpl] at h; exact h)
   have HLB := Lh HX8.out.lx
   have HR8 := Lh (HR2.out.tur HX8.out.tur (by omega))
   have HB8 := Lh (HB2.out.trans (HX8.out.tur.below HB2.out.size (fun k e => by omega)))
   have hz : (code != 0) = true := by unfold bne; rw [hne]; rfl
   clear hcode hpl hne hfl HX8 HDEC0
   go_wp2_with fail
   clear l0 p2
   (refine wp_region_held_drew (S := fun w9 => LxB w9 j q ∧ Blk w9 q 192 (DcC (.slice A n c) ((endP xs s7).pos : Int) code pl)) (by kernel_rfl) ⟨HLB.out.drew, HQB.out.drew⟩ (fun hHeld => ?_))
   have HLd := Lh HLB.out.drew
   have HQd := Lh HQB.out.drew
   have HRd := Lh HR8.out.drew
   have HBd := Lh (HB8.out.trans (Below.refl _ _).drew)
   have hsz := HB8.out.size
   clear HLB HQB HR8 HB8
   generalize w8.drew = wd at *
   (refine tq 0 76 ?_)
   (try simp only [Act.put, z1, z2, z3])
   (refine tq 1 77 ?_)
   (try simp only [Act.put, z1, z2, z3])
   (refine tq 2 78 ?_)
   (try simp only [Act.put, z1, z2, z3])
   (refine tq 3 79 ?_)
   (try simp only [Act.put, z1, z2, z3])
   (refine tr (v := ?v234) 4 80 ?h234 ?_)
   case h234 => (intro w9 hSw; have hc9 := Blk.cell hSw.1; clear hSw; first | (go_simp; done) | (go_simp; with_reducible rfl))
   (try simp only [Act.put, z1, z2, z3])
   (refine tq 5 81 ?_)
   (try simp only [Act.put, z1, z2, z3])
   (refine tq 6 82 ?_)
   (try simp only [Act.put, z1, z2, z3])
   (refine tr (v := ?v237) 7 83 ?h237 ?_)
   case h237 => (intro w9 hSw; have hc9 := Blk.cell hSw.2; clear hSw; first | (go_simp; done) | (go_simp; with_reducible rfl))
   (try simp only [Act.put, z1, z2, z3])
   (refine tq 8 84 ?_)
   (try simp only [Act.put, z1, z2, z3])
   (refine tq 9 85 ?_)
   (try simp only [Act.put, z1, z2, z3])
   (refine tq 10 86 ?_)
   (try simp only [Act.put, z1, z2, z3])
   (refine tr (v := ?v241) 11 87 ?h241 ?_)
   case h241 => (intro w9 hSw; have hc9 := Blk.cell hSw.1; clear hSw; first | (go_simp; done) | (go_simp; with_reducible rfl))
   (try simp only [Act.put, z1, z2, z3])
   (refine tq 12 88 ?_)
   (try simp only [Act.put, z1, z2, z3])
   (refine tq 13 89 ?_)
   (try simp only [Act.put, z1, z2, z3])
   (refine tr (v := ?v244) 14 90 ?h244 ?_)
   case h244 => (intro w9 hSw; have hc9 := Blk.cell hSw.2; clear hSw; first | (go_simp; done) | (go_simp; with_reducible rfl))
   (try simp only [Act.put, z1, z2, z3])
   have hfR := HRd.out.frozen
   have hcR := HRd.out.cell
   obtain ⟨wC, HW, HS⟩ := set11e HRd.out (.int .i64 0) (.int .i64 0) (.int .i64 0) (.slice none 0 0) (.int .i64 0) (.string ⟨#[]⟩) (.int .i64 0) (.int .i64 0) (.string ⟨#[]⟩) (.int .i64 0) (.int .i64 0)
   (refine wpAnyH_ready (rs := [15]) (by kernel_rfl) (by simp) ?_)
   (refine AllReadyH.cons (o := _) rfl (fun K hK => ?_) AllReadyH.nil)
   go_simp
   rw [HW.out]
   (refine hK.out _ _ ⟨HLd.out.tur HS.out.2 (by omega), HQd.out.tur HS.out.2 (by omega)⟩ (fun hHeld => ?_))
   clear hK K
   (refine tq 16 3 ?_)
   (try simp only [Act.put, z1, z2, z3])
   (refine tq 17 4 ?_)
   (try simp only [Act.put, z1, z2, z3])
   (refine wpAnyH_done (by kernel_rfl) ?_ _)
   have hc7 := HS.out.1.cell
   go_wp2
   exact bodyPost_ret (v := .tuple #[.agg (rqC nilS rq0), .int .i64 code, .int .i64 pl]) (by simp [results, Tryz.results61, go_sem, hc7, rq0, cell0]) rfl
    ⟨HBd.out.trans (HS.out.2.below HBd.out.size (fun k e => by omega)), by rw [HD.out]⟩
theorem doc_rq (A : Option Addr) (n c : Nat) (xs : List Int) (W : World) (hl : xs.length = n) (h : CellsAt W A (bvs xs)) (hw : ∀ x ∈ xs, (Lit.int .u8 x).wf = true) (hn : n ≤ 140737488355328) (hc : n ≤ c) :
  Calls Tryz.prog 61 #[.slice A n c] W (DocQ W (decRq xs)) := by
 obtain k | k | k | k | k | k | k | k : ((kindD xs).1 < 1 ∨ 7 < (kindD xs).1) ∨ (kindD xs).1 = 1 ∨ (kindD xs).1 = 2 ∨ (kindD xs).1 = 3 ∨ (kindD xs).1 = 4 ∨ (kindD xs).1 = 5 ∨ (kindD xs).1 = 6 ∨ (kindD xs).1 = 7 := by omega
 ·exact doc_rq_none A n c xs k W hl h hw hn hc
 ·exact doc_rq_get A n c xs k W hl h hw hn hc
 ·exact doc_rq_many A n c xs k W hl h hw hn hc
 ·exact doc_rq_scan A n c xs k W hl h hw hn hc
 ·exact doc_rq_pin A n c xs k W hl h hw hn hc
 ·exact doc_rq_join A n c xs k W hl h hw hn hc
 ·exact doc_rq_rel A n c xs k W hl h hw hn hc
 ·exact doc_rq_stats A n c xs k W hl h hw hn hc
end Go.Proofs.YtglbdbghcdoicaaGreatDoor
