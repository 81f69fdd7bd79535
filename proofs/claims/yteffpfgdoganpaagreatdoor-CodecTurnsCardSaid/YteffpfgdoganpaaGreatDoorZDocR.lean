/- The document's DecodeRequest: get and multi, the unknown kind; joined. -/
import Derived.Test.YteffpfgdoganpaaGreatDoorZDocQ
namespace Go.Proofs.YteffpfgdoganpaaGreatDoor
open Go.RowKit

set_option maxHeartbeats 8000000 in
set_option maxRecDepth 100000 in
theorem doc_rq_get (A : Option Addr) (n c : Nat) (xs : List Int) (hk : (kindD xs).1 = 1) (W : World) (hl : xs.length = n) (h : CellsAt W A (bvs xs)) (hw : ∀ x ∈ xs, (Lit.int .u8 x).wf = true) (hn : n ≤ 140737488355328) (hc : n ≤ c) :
    Calls Tryz.prog 11 #[.slice A n c] W (DocQ W (decRq xs)) := by
  have HR0 := Lib.hid (Blk.new W 29 #[.int .i64 0, .int .i64 0, .int .i64 0, .slice none 0 0, .int .i64 0, .string ⟨#[]⟩, .int .i64 0, .int .i64 0, .string ⟨#[]⟩, .int .i64 0, .int .i64 0])
  have bl0 := (Below.refl W.heap.size W).alloc (Nat.le_refl _) (.cells #[.int .i64 0, .int .i64 0, .int .i64 0, .slice none 0 0, .int .i64 0, .string ⟨#[]⟩, .int .i64 0, .int .i64 0, .string ⟨#[]⟩, .int .i64 0, .int .i64 0] 29)
  have hs1 : (W.alloc (.cells #[.int .i64 0, .int .i64 0, .int .i64 0, .slice none 0 0, .int .i64 0, .string ⟨#[]⟩, .int .i64 0, .int .i64 0, .string ⟨#[]⟩, .int .i64 0, .int .i64 0] 29)).heap.size = W.heap.size + 1 := by simp
  have CR := Lib.hid (dc_read A n c xs (W.alloc (.cells #[.int .i64 0, .int .i64 0, .int .i64 0, .slice none 0 0, .int .i64 0, .string ⟨#[]⟩, .int .i64 0, .int .i64 0, .string ⟨#[]⟩, .int .i64 0, .int .i64 0] 29)) hl (h.below bl0) hw hn hc)
  have HKN := Lib.hid hk
  have HAl := Lib.hid (show xs ≠ [] → ∀ ad, A = some ad → ad.block < W.heap.size from fun h0 ad e => by
    subst e
    obtain ⟨ad', e, h1, _⟩ := h 0 (by rw [bvs_len]; exact List.length_pos_iff.2 h0)
    cases e
    exact h1)
  have HBl := Lib.hid bl0
  clear h hw hn hk hc bl0
  go_enter Tryz.func11, Tryz.ntmps11
  go_wp2_with fail
  go_at_call 34; (with_reducible refine CR.out.mono ?_); rintro e w1 ⟨rfl, hr, hb⟩
  have HR1 := Lib.hid (HR0.out.kept hb)
  have HB1 := Lib.hid (HBl.out.trans (hb.mono (by simp)))
  have hw1 : W.heap.size + 1 ≤ w1.heap.size := hs1 ▸ hb.size
  rw [hs1] at hr ⊢
  have HX := Lib.hid (DxIs.start hr 29 #[.int .i64 0, .int .i64 0, .int .i64 0, .slice none 0 0, .int .i64 0, .string ⟨#[]⟩, .int .i64 0, .int .i64 0, .string ⟨#[]⟩, .int .i64 0, .int .i64 0] 27 3 (fun h0 ad e => by have := HAl.out h0 ad e; omega))
  have HR2 := Lib.hid ((HR1.out.alloc (.cells #[.pointer (some ⟨W.heap.size + 1, 0, none⟩)] 98)).alloc (.cells #[.int .i64 0, .int .i64 0, .int .i64 0, .slice none 0 0, .int .i64 0, .string ⟨#[]⟩, .int .i64 0, .int .i64 0, .string ⟨#[]⟩, .int .i64 0, .int .i64 0] 29))
  have HB2 := Lib.hid ((HB1.out.alloc (by omega) (.cells #[.pointer (some ⟨W.heap.size + 1, 0, none⟩)] 98)).alloc (by simp; omega) (.cells #[.int .i64 0, .int .i64 0, .int .i64 0, .slice none 0 0, .int .i64 0, .string ⟨#[]⟩, .int .i64 0, .int .i64 0, .string ⟨#[]⟩, .int .i64 0, .int .i64 0] 29))
  have hs2 : (w1.alloc (.cells #[.pointer (some ⟨W.heap.size + 1, 0, none⟩)] 98)).heap.size = w1.heap.size + 1 := by simp
  clear hr hb HR0 CR HAl HBl HB1 HR1 hs1
  go_wp2_with fail
  generalize hW0 : (w1.alloc (.cells #[.pointer (some ⟨W.heap.size + 1, 0, none⟩)] 98)).alloc (.cells #[.int .i64 0, .int .i64 0, .int .i64 0, .slice none 0 0, .int .i64 0, .string ⟨#[]⟩, .int .i64 0, .int .i64 0, .string ⟨#[]⟩, .int .i64 0, .int .i64 0] 29) = W0 at *
  have hRW : W.heap.size < w1.heap.size := by omega
  have hqW : W.heap.size < W.heap.size + 1 := by omega
  clear hW0 hs2
  generalize hq : W.heap.size + 1 = q at *
  generalize hj : w1.heap.size = j at *
  clear hj hq
  go_at_call 35; (with_reducible refine (show Calls Tryz.prog 35 #[.pointer (some ⟨j, 0, none⟩), .int .i64 7] W0 _ from lx_head HX.out.rd HX.out.lx HX.out.jq 7).mono ?_); rintro e w3 ⟨rfl, hr, hf⟩
  have HX3 := Lib.hid (HX.out.read hr hf)
  have HKD := Lib.hid (show kindD xs = numP xs M40 ⟨0, none⟩ from rfl)
  clear hr hf HX
  have HHD := Lib.hid (show headP xs (7 : Int) ⟨0, none⟩ = (numP xs M40 ⟨0, none⟩).2 by
    unfold headP
    rw [if_neg]
    rintro ⟨_, h⟩
    have hk := HKN.out
    rw [HKD.out] at hk
    omega)
  rw [show ((7 : Nat) : Int) = (7 : Int) from rfl] at HX3
  rw [HHD.out] at HX3
  simp only [show ((7 : Nat) : Int) = (7 : Int) from rfl, HHD.out]
  rw [HKD.out] at HKN
  clear HHD
  generalize hyd : numP xs M40 ⟨0, none⟩ = y at *
  clear hyd
  obtain ⟨k0, s1⟩ := y
  dsimp only at HX3 HKN HKD ⊢
  generalize hid : numP xs M40 s1 = y at *
  have HID := Lib.hid hid
  clear hid
  obtain ⟨id0, s2⟩ := y
  dsimp only at HX3 HID ⊢
  have hk1 : k0 = 1 := HKN.out
  subst hk1
  simp only [show ((1 : Nat) : Int) = (1 : Int) from rfl]
  have hcb := HX3.out.blk.cell
  have hfb := HX3.out.blk.frozen
  have HX4 := Lib.hid (show DxIs W0 q j (j + 1) 29 A n c xs (rqC (.slice none 0 0) ⟨1, (id0 : Int), 0, [], cell0, cell0, 0⟩) s2 27 3 (.slice none 0 0) 0 [] ((w3.setCell ⟨j + 1, 0, none⟩ (.int .i64 1)).setCell ⟨j + 1, 1, none⟩ (.int .i64 (id0 : Int))) from (HX3.out.put (cs1 := rqC (.slice none 0 0) ⟨1, 0, 0, [], cell0, cell0, 0⟩) 0 (.int .i64 1) rfl).put 1 (.int .i64 (id0 : Int)) rfl)
  clear HX3
  go_wp2_with fail
  generalize ((w3.setCell ⟨j + 1, 0, none⟩ (.int .i64 1)).setCell ⟨j + 1, 1, none⟩ (.int .i64 (id0 : Int))) = wg5 at *
  go_at_call 36; (with_reducible refine (lx_num HX4.out.rd HX4.out.lx).mono ?_); rintro e wh5 ⟨rfl, hr, hf⟩
  have HN5 := Lib.hid (HX4.out.read hr hf)
  clear hr hf hcb hfb HX4
  generalize hnn : numP xs M40 s2 = y at *
  have HE5 := Lib.hid hnn
  clear hnn
  obtain ⟨ep0, s3⟩ := y
  dsimp only at HN5 HE5 ⊢
  have hcb := HN5.out.blk.cell
  have hfb := HN5.out.blk.frozen
  have HX5 := Lib.hid (HN5.out.put (cs1 := rqC (.slice none 0 0) ⟨1, (id0 : Int), (ep0 : Int), [], cell0, cell0, 0⟩) 2 (.int .i64 (ep0 : Int)) rfl)
  have HRD := Lib.hid (show readD xs = ((⟨1, (id0 : Int), (ep0 : Int), [(cellP xs s3).1], cell0, cell0, 0⟩ : Rq), (cellP xs s3).2) by
    unfold readD bodyD
    rw [HKD.out]
    simp [HID.out, HE5.out])
  go_wp2_with fail
  generalize (wh5.setCell ⟨j + 1, 2, none⟩ (.int .i64 (ep0 : Int))) = wl at *
  go_loopw [8] (fun t8 wz => ∃ k : Nat, t8 = .int .i64 (k : Int) ∧ k ≤ 1 ∧ Hid (∃ vz, DxIs W0 q j (j + 1) 29 A n c xs (rqC vz ⟨1, (id0 : Int), (ep0 : Int), [], cell0, cell0, 0⟩) (dcells xs k ([], s3)).2 27 3 vz (dcells xs k ([], s3)).1.length (cellCs (dcells xs k ([], s3)).1) wz)) (fun t8 _ => 1 - (intOf t8).toNat)
  case atStart => exact ⟨0, rfl, Nat.zero_le _, Lib.hid ⟨_, HX5.out⟩⟩
  case round =>
    obtain ⟨k, rfl, hk, HP0⟩ := hrel
    obtain ⟨vz, hP⟩ := HP0.out
    have HP := Lib.hid hP
    clear HP0 hP
    rename World => wz
    have LK := Lib.hid (dcells_len xs ([], s3) k)
    have HSTEP := Lib.hid (show dcells xs (k + 1) ([], s3) = ((dcells xs k ([], s3)).1 ++ [(cellP xs (dcells xs k ([], s3)).2).1], (cellP xs (dcells xs k ([], s3)).2).2) from rfl)
    have HSAME := Lib.hid (dcells_same xs ([], s3) k)
    obtain hkn | hkn : k = 0 ∨ k = 1 := by omega
    · generalize dcells xs k ([], s3) = st at *
      obtain ⟨l, sz⟩ := st
      dsimp only at HP LK HSTEP
      clear HSAME HRD HKD
      subst hkn
      go_wp2_with fail
      obtain ⟨ic, zc, hic, hzc, hz1, hz2, hz3⟩ := info_cell
      have h16 : (0 : Nat) ≤ 16 := by decide
      (refine wp_region_held_drew (S := fun w9 => LxB w9 j q) (by kernel_rfl) HP.out.lx.drew (fun hHeld => ?_))
      have Hd := Lib.hid HP.out.drew
      clear HP
      (refine take_q (i := 0) (d := 56) (v := ?v186) rfl rfl (by kernel_rfl) (by kernel_rfl) (by kernel_rfl) (fun _ _ _ h => h) (by kernel_rfl) ?hy186 (by assumption) ?rest186)
      case hy186 => (intro w9 hSw; first | (go_simp; done) | (go_simp; with_reducible rfl))
      (try simp only [Act.put, List.setIfInBounds_toArray, List.set_cons_zero, List.set_cons_succ])
      (refine take_q (i := 2) (d := 58) (v := ?v187) rfl rfl (by kernel_rfl) (by kernel_rfl) (by kernel_rfl) (fun _ _ _ h => h) (by kernel_rfl) ?hy187 (by assumption) ?rest187)
      case hy187 => (intro w9 hSw; first | (go_simp; done) | (go_simp; with_reducible rfl))
      (try simp only [Act.put, List.setIfInBounds_toArray, List.set_cons_zero, List.set_cons_succ])
      (refine wpAnyH_ready (rs := [1, 3]) (by kernel_rfl) (by simp) ?_)
      refine AllReadyH.cons (o := _) rfl (fun K hK => ?_) (AllReadyH.cons (o := _) rfl (fun K hK => ?_) AllReadyH.nil)
      · have hcb := Hd.out.blk.cell
        go_simp
        clear hcb
        (refine hK.out _ _ Hd.out.lx (fun hHeld => ?_))
        clear hK K
        (try simp only [Act.put, List.setIfInBounds_toArray, List.set_cons_zero, List.set_cons_succ])
        (refine wpAnyH_ready (rs := [3]) (by kernel_rfl) (by simp) ?_)
        (refine AllReadyH.cons (o := _) rfl (fun K hK => ?_) AllReadyH.nil)
        go_simp
        (with_reducible refine (lx_cell Hd.out.rd Hd.out.lx Hd.out.jq).mono ?_)
        rintro e w5 ⟨rfl, hr, hf⟩
        have H5 := Lib.hid (Hd.out.read hr hf)
        clear hr hf
        generalize (cellP xs sz) = y at *
        obtain ⟨x, s9⟩ := y
        dsimp only at H5 HSTEP
        go_simp
        (refine hK.out _ _ H5.out.lx (fun hHeld => ?_))
        clear hK K
        (try dsimp only)
        (refine wpAnyH_ready (rs := [4]) (by kernel_rfl) (by simp) ?_)
        (refine AllReadyH.cons (o := _) rfl (fun K hK => ?_) AllReadyH.nil)
        go_simp
        have HN6 := Lib.hid (Blk.new w5 27 #[.int .i64 x.view, .string x.key, .int .i64 x.start])
        have H6 := Lib.hid (H5.out.alloc (.cells #[.int .i64 x.view, .string x.key, .int .i64 x.start] 27))
        generalize hw6 : w5.alloc (.cells #[.int .i64 x.view, .string x.key, .int .i64 x.start] 27) = w6 at *
        generalize w5.heap.size = jn at *
        (refine hK.out _ _ H6.out.lx (fun hHeld => ?_))
        clear hK K
        (try simp only [Act.put, List.setIfInBounds_toArray, List.set_cons_zero, List.set_cons_succ])
        (refine wpAnyH_ready (rs := [5]) (by kernel_rfl) (by simp) ?_)
        (refine AllReadyH.cons (o := _) rfl (fun K hK => ?_) AllReadyH.nil)
        refine want_ (by kernel_rfl) ?_
        refine wp_append_at _ _ _ rfl W0.heap.size _ ic zc 3 32 Tryz.underlying25 hic hzc hz1 hz2 hz3 (by decide) vz l.length (cellCs l) rfl H6.out.own ⟨jn, 0, none⟩ 1 1 x.cells rfl rfl (cells_one_c HN6.out) (cells_one1 x) (by have h := LK.out; rw [List.length_nil] at h; unfold maxLen; omega) (by have h := LK.out; rw [List.length_nil] at h; omega) H6.out.tur.size ?_
        intro v7 w7 hown hg hv
        obtain ⟨A7, c7, rfl⟩ := own_form3 hown
        have H7 := Lib.hid ((H6.out.grown hg hown).to (m1 := (l ++ [x]).length) (ys1 := cellCs (l ++ [x])) (by simp) (by simp [cellCs]))
        clear hown hg hv
        (refine hK.out _ _ H7.out.lx (fun hHeld => ?_))
        clear hK K
        (try simp only [Act.put]); (try simp only [List.setIfInBounds_toArray]); (try simp only [List.set_cons_succ]); (try simp only [List.set_cons_zero])
        (refine take_q (i := 6) (d := 62) (v := ?v188) rfl rfl (by kernel_rfl) (by kernel_rfl) (by kernel_rfl) (fun _ _ _ h => h) (by kernel_rfl) ?hy188 (by assumption) ?rest188)
        case hy188 => (intro w9 hSw; first | (go_simp; done) | (go_simp; with_reducible rfl))
        (try simp only [Act.put]); (try simp only [List.setIfInBounds_toArray]); (try simp only [List.set_cons_succ]); (try simp only [List.set_cons_zero])
        have hcb := H7.out.blk.cell
        have hfb := H7.out.blk.frozen
        (refine wpAnyH_ready (rs := [7]) (by kernel_rfl) (by simp) ?_)
        (refine AllReadyH.cons (o := _) rfl (fun K hK => ?_) AllReadyH.nil)
        go_simp
        have H8 := Lib.hid (H7.out.put (cs1 := rqC (.slice A7 (l.length + 1) c7) ⟨1, (id0 : Int), (ep0 : Int), [], cell0, cell0, 0⟩) 3 (.slice A7 (l.length + 1) c7) rfl)
        clear hcb hfb
        (refine hK.out _ _ H8.out.lx (fun hHeld => ?_))
        clear hK K
        (refine wpAnyH_done (by kernel_rfl) ?_ _)
        go_wp2
        go_roundw
        case rel => exact ⟨1, by go_num, by omega, Lib.hid ⟨_, by rw [HSTEP.out]; exact H8.out⟩⟩
        case measure => simp [intOf]
      · go_simp
        (with_reducible refine (lx_cell Hd.out.rd Hd.out.lx Hd.out.jq).mono ?_)
        rintro e w5 ⟨rfl, hr, hf⟩
        have H5 := Lib.hid (Hd.out.read hr hf)
        clear hr hf
        generalize (cellP xs sz) = y at *
        obtain ⟨x, s9⟩ := y
        dsimp only at H5 HSTEP
        go_simp
        (refine hK.out _ _ H5.out.lx (fun hHeld => ?_))
        clear hK K
        (try dsimp only)
        (refine wpAnyH_ready (rs := [1, 4]) (by kernel_rfl) (by simp) ?_)
        refine AllReadyH.cons (o := _) rfl (fun K hK => ?_) (AllReadyH.cons (o := _) rfl (fun K hK => ?_) AllReadyH.nil)
        · have hcb := H5.out.blk.cell
          go_simp
          clear hcb
          (refine hK.out _ _ H5.out.lx (fun hHeld => ?_))
          clear hK K
          (try simp only [Act.put, List.setIfInBounds_toArray, List.set_cons_zero, List.set_cons_succ])
          (refine wpAnyH_ready (rs := [4]) (by kernel_rfl) (by simp) ?_)
          (refine AllReadyH.cons (o := _) rfl (fun K hK => ?_) AllReadyH.nil)
          go_simp
          have HN6 := Lib.hid (Blk.new w5 27 #[.int .i64 x.view, .string x.key, .int .i64 x.start])
          have H6 := Lib.hid (H5.out.alloc (.cells #[.int .i64 x.view, .string x.key, .int .i64 x.start] 27))
          generalize hw6 : w5.alloc (.cells #[.int .i64 x.view, .string x.key, .int .i64 x.start] 27) = w6 at *
          generalize w5.heap.size = jn at *
          (refine hK.out _ _ H6.out.lx (fun hHeld => ?_))
          clear hK K
          (try simp only [Act.put, List.setIfInBounds_toArray, List.set_cons_zero, List.set_cons_succ])
          (refine wpAnyH_ready (rs := [5]) (by kernel_rfl) (by simp) ?_)
          (refine AllReadyH.cons (o := _) rfl (fun K hK => ?_) AllReadyH.nil)
          refine want_ (by kernel_rfl) ?_
          refine wp_append_at _ _ _ rfl W0.heap.size _ ic zc 3 32 Tryz.underlying25 hic hzc hz1 hz2 hz3 (by decide) vz l.length (cellCs l) rfl H6.out.own ⟨jn, 0, none⟩ 1 1 x.cells rfl rfl (cells_one_c HN6.out) (cells_one1 x) (by have h := LK.out; rw [List.length_nil] at h; unfold maxLen; omega) (by have h := LK.out; rw [List.length_nil] at h; omega) H6.out.tur.size ?_
          intro v7 w7 hown hg hv
          obtain ⟨A7, c7, rfl⟩ := own_form3 hown
          have H7 := Lib.hid ((H6.out.grown hg hown).to (m1 := (l ++ [x]).length) (ys1 := cellCs (l ++ [x])) (by simp) (by simp [cellCs]))
          clear hown hg hv
          (refine hK.out _ _ H7.out.lx (fun hHeld => ?_))
          clear hK K
          (try simp only [Act.put]); (try simp only [List.setIfInBounds_toArray]); (try simp only [List.set_cons_succ]); (try simp only [List.set_cons_zero])
          (refine take_q (i := 6) (d := 62) (v := ?v189) rfl rfl (by kernel_rfl) (by kernel_rfl) (by kernel_rfl) (fun _ _ _ h => h) (by kernel_rfl) ?hy189 (by assumption) ?rest189)
          case hy189 => (intro w9 hSw; first | (go_simp; done) | (go_simp; with_reducible rfl))
          (try simp only [Act.put]); (try simp only [List.setIfInBounds_toArray]); (try simp only [List.set_cons_succ]); (try simp only [List.set_cons_zero])
          have hcb := H7.out.blk.cell
          have hfb := H7.out.blk.frozen
          (refine wpAnyH_ready (rs := [7]) (by kernel_rfl) (by simp) ?_)
          (refine AllReadyH.cons (o := _) rfl (fun K hK => ?_) AllReadyH.nil)
          go_simp
          have H8 := Lib.hid (H7.out.put (cs1 := rqC (.slice A7 (l.length + 1) c7) ⟨1, (id0 : Int), (ep0 : Int), [], cell0, cell0, 0⟩) 3 (.slice A7 (l.length + 1) c7) rfl)
          clear hcb hfb
          (refine hK.out _ _ H8.out.lx (fun hHeld => ?_))
          clear hK K
          (refine wpAnyH_done (by kernel_rfl) ?_ _)
          go_wp2
          go_roundw
          case rel => exact ⟨1, by go_num, by omega, Lib.hid ⟨_, by rw [HSTEP.out]; exact H8.out⟩⟩
          case measure => simp [intOf]
        · go_simp
          have HN6 := Lib.hid (Blk.new w5 27 #[.int .i64 x.view, .string x.key, .int .i64 x.start])
          have H6 := Lib.hid (H5.out.alloc (.cells #[.int .i64 x.view, .string x.key, .int .i64 x.start] 27))
          generalize hw6 : w5.alloc (.cells #[.int .i64 x.view, .string x.key, .int .i64 x.start] 27) = w6 at *
          generalize w5.heap.size = jn at *
          (refine hK.out _ _ H6.out.lx (fun hHeld => ?_))
          clear hK K
          (try simp only [Act.put, List.setIfInBounds_toArray, List.set_cons_zero, List.set_cons_succ])
          (refine wpAnyH_ready (rs := [1]) (by kernel_rfl) (by simp) ?_)
          (refine AllReadyH.cons (o := _) rfl (fun K hK => ?_) AllReadyH.nil)
          have hcb := H6.out.blk.cell
          go_simp
          clear hcb
          (refine hK.out _ _ H6.out.lx (fun hHeld => ?_))
          clear hK K
          (try simp only [Act.put, List.setIfInBounds_toArray, List.set_cons_zero, List.set_cons_succ])
          (refine wpAnyH_ready (rs := [5]) (by kernel_rfl) (by simp) ?_)
          (refine AllReadyH.cons (o := _) rfl (fun K hK => ?_) AllReadyH.nil)
          refine want_ (by kernel_rfl) ?_
          refine wp_append_at _ _ _ rfl W0.heap.size _ ic zc 3 32 Tryz.underlying25 hic hzc hz1 hz2 hz3 (by decide) vz l.length (cellCs l) rfl H6.out.own ⟨jn, 0, none⟩ 1 1 x.cells rfl rfl (cells_one_c HN6.out) (cells_one1 x) (by have h := LK.out; rw [List.length_nil] at h; unfold maxLen; omega) (by have h := LK.out; rw [List.length_nil] at h; omega) H6.out.tur.size ?_
          intro v7 w7 hown hg hv
          obtain ⟨A7, c7, rfl⟩ := own_form3 hown
          have H7 := Lib.hid ((H6.out.grown hg hown).to (m1 := (l ++ [x]).length) (ys1 := cellCs (l ++ [x])) (by simp) (by simp [cellCs]))
          clear hown hg hv
          (refine hK.out _ _ H7.out.lx (fun hHeld => ?_))
          clear hK K
          (try simp only [Act.put]); (try simp only [List.setIfInBounds_toArray]); (try simp only [List.set_cons_succ]); (try simp only [List.set_cons_zero])
          (refine take_q (i := 6) (d := 62) (v := ?v190) rfl rfl (by kernel_rfl) (by kernel_rfl) (by kernel_rfl) (fun _ _ _ h => h) (by kernel_rfl) ?hy190 (by assumption) ?rest190)
          case hy190 => (intro w9 hSw; first | (go_simp; done) | (go_simp; with_reducible rfl))
          (try simp only [Act.put]); (try simp only [List.setIfInBounds_toArray]); (try simp only [List.set_cons_succ]); (try simp only [List.set_cons_zero])
          have hcb := H7.out.blk.cell
          have hfb := H7.out.blk.frozen
          (refine wpAnyH_ready (rs := [7]) (by kernel_rfl) (by simp) ?_)
          (refine AllReadyH.cons (o := _) rfl (fun K hK => ?_) AllReadyH.nil)
          go_simp
          have H8 := Lib.hid (H7.out.put (cs1 := rqC (.slice A7 (l.length + 1) c7) ⟨1, (id0 : Int), (ep0 : Int), [], cell0, cell0, 0⟩) 3 (.slice A7 (l.length + 1) c7) rfl)
          clear hcb hfb
          (refine hK.out _ _ H8.out.lx (fun hHeld => ?_))
          clear hK K
          (refine wpAnyH_done (by kernel_rfl) ?_ _)
          go_wp2
          go_roundw
          case rel => exact ⟨1, by go_num, by omega, Lib.hid ⟨_, by rw [HSTEP.out]; exact H8.out⟩⟩
          case measure => simp [intOf]
    · have hkc : k = 1 := by omega
      have HK2 := Lib.hid hkc
      have HDC := Lib.hid (show (dcells xs k ([], s3)).2 = (readD xs).2 ∧ ((readD xs).2.fault = none → (⟨1, (id0 : Int), (ep0 : Int), (dcells xs k ([], s3)).1, cell0, cell0, 0⟩ : Rq) = (readD xs).1) by
        have h := HSAME.out
        rw [HRD.out]
        subst hkc
        have hs : cellsP xs 1 ([], s3) = (if s3.fault.isSome then ([], s3) else ([(cellP xs s3).1], (cellP xs s3).2)) := rfl
        refine ⟨rfl, fun h0 => rfl⟩)
      generalize dcells xs k ([], s3) = st at *
      obtain ⟨l, sz⟩ := st
      dsimp only at HP LK HDC
      clear HSAME HSTEP LK
      subst hkc
      obtain ⟨r0, hr0⟩ : ∃ r0 : Rq, r0 = ⟨1, (id0 : Int), (ep0 : Int), l, cell0, cell0, 0⟩ := ⟨_, rfl⟩
      have HX7 := Lib.hid (show DxIs W0 q j (j + 1) 29 A n c xs (rqC vz r0) (readD xs).2 27 3 vz r0.cs.length (cellCs r0.cs) wz by
        rw [hr0, ← HDC.out.1]
        exact HP.out)
      have HRE := Lib.hid (show (readD xs).2.fault = none → r0 = (readD xs).1 from fun h => by rw [hr0]; exact HDC.out.2 h)
      clear hr0 HP HDC HK2
      have HDEC := Lib.hid (show decRq xs = if (checkD (checkRq (readD xs).1) (endP xs (readD xs).2)).fault.isSome then (rq0, (checkD (checkRq (readD xs).1) (endP xs (readD xs).2)).fault) else ((readD xs).1, none) by
        unfold decRq
        rw [if_neg (by rw [HKD.out]; dsimp only; omega)])
      have HOK := Lib.hid (readD_ok xs)
      generalize readD xs = y at *
      obtain ⟨r', s7⟩ := y
      dsimp only at HX7 HRE HDEC HOK
      have l0 : wz.cell? ⟨j, 0, none⟩ = some (.pointer (some ⟨q, 0, none⟩)) := HX7.out.lx.cell 0
      go_wp2_with fail
      go_at_call 39; (with_reducible refine (dc_end HX7.out.rd).mono ?_); rintro e w8 ⟨rfl, hr, hf⟩
      have HX8 := Lib.hid (HX7.out.read hr hf)
      clear hr hf l0 HX7
      have l0 : w8.cell? ⟨j, 0, none⟩ = some (.pointer (some ⟨q, 0, none⟩)) := HX8.out.lx.cell 0
      have p2 : w8.cell? ⟨q, 2, none⟩ = some (.int .i64 (endP xs s7).err) := HX8.out.rd.blk.cell 2
      rcases hfl : (endP xs s7).fault with _ | ⟨code, pl⟩
      · have hre := HRE.out (endP_none2 hfl)
        subst hre
        rw [(DocIs.err_no hfl).1] at p2
        obtain ⟨As, cz, hvz⟩ := own_form3 HX8.out.own
        subst hvz
        have HCR := Lib.hid (CellsOwn.rd_ (show CellsOwn w8 W0.heap.size (.slice As r0.cs.length cz) r0.cs from HX8.out.own))
        have hcb := HX8.out.blk.cell
        go_wp2_with fail
        go_at_call 40; (with_reducible refine (rcheck_rq As _ cz r0 w8 rfl HCR.out.1 HCR.out.2 HOK.out).mono ?_); rintro e w9 ⟨rfl, hb9⟩
        have HX9 := Lib.hid (HX8.out.kept hb9)
        have HR9 := Lib.hid (HR2.out.tur HX9.out.tur (by omega))
        have HB9 := Lib.hid (HB2.out.trans (HX9.out.tur.below HB2.out.size (fun k e => by omega)))
        clear hb9 hcb l0 p2 HX8
        have hfR := HR9.out.frozen
        have hcR := HR9.out.cell
        by_cases hck : checkRq r0 = 0
        · have HD := Lib.hid (show decRq xs = (r0, none) by
            rw [HDEC.out]
            unfold checkD
            rw [hfl, hck]
            simp [RS.fail, hfl])
          rw [hck]
          have hcb := HX9.out.blk.cell
          have HS := Lib.hid (set11 HR9.out (.int .i64 r0.kind) (.int .i64 r0.id) (.int .i64 r0.epoch) (.slice As r0.cs.length cz) (.int .i64 r0.frm.view) (.string r0.frm.key) (.int .i64 r0.frm.start) (.int .i64 r0.too.view) (.string r0.too.key) (.int .i64 r0.too.start) (.int .i64 r0.limit))
          go_wp2
          generalize (World.setCell (World.setCell (World.setCell (World.setCell (World.setCell (World.setCell (World.setCell (World.setCell (World.setCell (World.setCell (World.setCell w9 ⟨W.heap.size, 0, none⟩ (.int .i64 r0.kind)) ⟨W.heap.size, 1, none⟩ (.int .i64 r0.id)) ⟨W.heap.size, 2, none⟩ (.int .i64 r0.epoch)) ⟨W.heap.size, 3, none⟩ (.slice As r0.cs.length cz)) ⟨W.heap.size, 4, none⟩ (.int .i64 r0.frm.view)) ⟨W.heap.size, 5, none⟩ (.string r0.frm.key)) ⟨W.heap.size, 6, none⟩ (.int .i64 r0.frm.start)) ⟨W.heap.size, 7, none⟩ (.int .i64 r0.too.view)) ⟨W.heap.size, 8, none⟩ (.string r0.too.key)) ⟨W.heap.size, 9, none⟩ (.int .i64 r0.too.start)) ⟨W.heap.size, 10, none⟩ (.int .i64 r0.limit)) = wC at HS ⊢
          have hc7 := HS.out.1.cell
          exact bodyPost_ret (v := .tuple #[.agg (rqC (.slice As r0.cs.length cz) r0), .int .i64 0, .int .i64 0]) (by simp [results, Tryz.results11, go_sem, hc7]) rfl
            ⟨HB9.out.trans (HS.out.2.below HB9.out.size (fun k e => by omega)), by rw [HD.out]; exact ⟨_, rfl, own_low (show CellsOwn w9 W0.heap.size (.slice As r0.cs.length cz) r0.cs from HX9.out.own) HS.out.2 (fun k e => by subst e; have := HX9.out.jl; omega) (by have := HX9.out.jl; omega)⟩⟩
        · have HD := Lib.hid (show decRq xs = (rq0, some (checkRq r0, 0)) by
            rw [HDEC.out]
            unfold checkD
            rw [hfl]
            simp [RS.fail, hfl, hck])
          have hz : (checkRq r0 != 0) = true := by simpa using hck
          have HS := Lib.hid (set11 HR9.out (.int .i64 0) (.int .i64 0) (.int .i64 0) (.slice none 0 0) (.int .i64 0) (.string ⟨#[]⟩) (.int .i64 0) (.int .i64 0) (.string ⟨#[]⟩) (.int .i64 0) (.int .i64 0))
          go_wp2
          generalize (World.setCell (World.setCell (World.setCell (World.setCell (World.setCell (World.setCell (World.setCell (World.setCell (World.setCell (World.setCell (World.setCell w9 ⟨W.heap.size, 0, none⟩ (.int .i64 0)) ⟨W.heap.size, 1, none⟩ (.int .i64 0)) ⟨W.heap.size, 2, none⟩ (.int .i64 0)) ⟨W.heap.size, 3, none⟩ (.slice none 0 0)) ⟨W.heap.size, 4, none⟩ (.int .i64 0)) ⟨W.heap.size, 5, none⟩ (.string ⟨#[]⟩)) ⟨W.heap.size, 6, none⟩ (.int .i64 0)) ⟨W.heap.size, 7, none⟩ (.int .i64 0)) ⟨W.heap.size, 8, none⟩ (.string ⟨#[]⟩)) ⟨W.heap.size, 9, none⟩ (.int .i64 0)) ⟨W.heap.size, 10, none⟩ (.int .i64 0)) = wC at HS ⊢
          have hc7 := HS.out.1.cell
          exact bodyPost_ret (v := .tuple #[.agg (rqC nilS rq0), .int .i64 (checkRq r0), .int .i64 0]) (by simp [results, Tryz.results11, go_sem, hc7, rq0, cell0]) rfl
            ⟨HB9.out.trans (HS.out.2.below HB9.out.size (fun k e => by omega)), by rw [HD.out]⟩
      · have HD := Lib.hid (show decRq xs = (rq0, some (code, pl)) by rw [HDEC.out]; unfold checkD; simp [hfl])
        have hne := HX8.out.rd.ok code pl hfl
        have hcode : (endP xs s7).err = code := by unfold RS.err; rw [hfl]
        have hpl : (endP xs s7).on = pl := by unfold RS.on; rw [hfl]
        rw [hcode] at p2
        have HQB := Lib.hid (show Blk w8 q 103 (DcC (.slice A n c) ((endP xs s7).pos : Int) code pl) by have h := HX8.out.rd.blk; rw [hcode, hpl] at h; exact h)
        have HLB := Lib.hid HX8.out.lx
        have HR8 := Lib.hid (HR2.out.tur HX8.out.tur (by omega))
        have HB8 := Lib.hid (HB2.out.trans (HX8.out.tur.below HB2.out.size (fun k e => by omega)))
        have hz : (code != 0) = true := by unfold bne; rw [hne]; rfl
        clear hcode hpl hne hfl HX8 HDEC HRE
        go_wp2_with fail
        clear l0 p2
        (refine wp_region_held_drew (S := fun w9 => LxB w9 j q ∧ Blk w9 q 103 (DcC (.slice A n c) ((endP xs s7).pos : Int) code pl)) (by kernel_rfl) ⟨HLB.out.drew, HQB.out.drew⟩ (fun hHeld => ?_))
        have HLd := Lib.hid HLB.out.drew
        have HQd := Lib.hid HQB.out.drew
        have HRd := Lib.hid HR8.out.drew
        have HBd := Lib.hid (HB8.out.trans (Below.refl _ _).drew)
        have hsz := HB8.out.size
        clear HLB HQB HR8 HB8
        generalize w8.drew = wd at *
        (refine take_q (i := 0) (d := 76) (v := ?v191) rfl rfl (by kernel_rfl) (by kernel_rfl) (by kernel_rfl) (fun _ _ _ h => h) (by kernel_rfl) ?hy191 (by assumption) ?rest191)
        case hy191 => (intro w9 hSw; first | (go_simp; done) | (go_simp; with_reducible rfl))
        (try simp only [Act.put, List.setIfInBounds_toArray, List.set_cons_zero, List.set_cons_succ])
        (refine take_q (i := 1) (d := 77) (v := ?v192) rfl rfl (by kernel_rfl) (by kernel_rfl) (by kernel_rfl) (fun _ _ _ h => h) (by kernel_rfl) ?hy192 (by assumption) ?rest192)
        case hy192 => (intro w9 hSw; first | (go_simp; done) | (go_simp; with_reducible rfl))
        (try simp only [Act.put, List.setIfInBounds_toArray, List.set_cons_zero, List.set_cons_succ])
        (refine take_q (i := 2) (d := 78) (v := ?v193) rfl rfl (by kernel_rfl) (by kernel_rfl) (by kernel_rfl) (fun _ _ _ h => h) (by kernel_rfl) ?hy193 (by assumption) ?rest193)
        case hy193 => (intro w9 hSw; first | (go_simp; done) | (go_simp; with_reducible rfl))
        (try simp only [Act.put, List.setIfInBounds_toArray, List.set_cons_zero, List.set_cons_succ])
        (refine take_q (i := 3) (d := 79) (v := ?v194) rfl rfl (by kernel_rfl) (by kernel_rfl) (by kernel_rfl) (fun _ _ _ h => h) (by kernel_rfl) ?hy194 (by assumption) ?rest194)
        case hy194 => (intro w9 hSw; first | (go_simp; done) | (go_simp; with_reducible rfl))
        (try simp only [Act.put, List.setIfInBounds_toArray, List.set_cons_zero, List.set_cons_succ])
        (refine take_q (i := 4) (d := 80) (v := ?v195) rfl rfl (by kernel_rfl) (by kernel_rfl) (by kernel_rfl) (fun _ _ _ h => h) (by kernel_rfl) ?hy195 (by assumption) ?rest195)
        case hy195 => (intro w9 hSw; have hc9 := Blk.cell hSw.1; clear hSw; first | (go_simp; done) | (go_simp; with_reducible rfl))
        (try simp only [Act.put, List.setIfInBounds_toArray, List.set_cons_zero, List.set_cons_succ])
        (refine take_q (i := 5) (d := 81) (v := ?v196) rfl rfl (by kernel_rfl) (by kernel_rfl) (by kernel_rfl) (fun _ _ _ h => h) (by kernel_rfl) ?hy196 (by assumption) ?rest196)
        case hy196 => (intro w9 hSw; first | (go_simp; done) | (go_simp; with_reducible rfl))
        (try simp only [Act.put, List.setIfInBounds_toArray, List.set_cons_zero, List.set_cons_succ])
        (refine take_q (i := 6) (d := 82) (v := ?v197) rfl rfl (by kernel_rfl) (by kernel_rfl) (by kernel_rfl) (fun _ _ _ h => h) (by kernel_rfl) ?hy197 (by assumption) ?rest197)
        case hy197 => (intro w9 hSw; first | (go_simp; done) | (go_simp; with_reducible rfl))
        (try simp only [Act.put, List.setIfInBounds_toArray, List.set_cons_zero, List.set_cons_succ])
        (refine take_q (i := 7) (d := 83) (v := ?v198) rfl rfl (by kernel_rfl) (by kernel_rfl) (by kernel_rfl) (fun _ _ _ h => h) (by kernel_rfl) ?hy198 (by assumption) ?rest198)
        case hy198 => (intro w9 hSw; have hc9 := Blk.cell hSw.2; clear hSw; first | (go_simp; done) | (go_simp; with_reducible rfl))
        (try simp only [Act.put, List.setIfInBounds_toArray, List.set_cons_zero, List.set_cons_succ])
        (refine take_q (i := 8) (d := 84) (v := ?v199) rfl rfl (by kernel_rfl) (by kernel_rfl) (by kernel_rfl) (fun _ _ _ h => h) (by kernel_rfl) ?hy199 (by assumption) ?rest199)
        case hy199 => (intro w9 hSw; first | (go_simp; done) | (go_simp; with_reducible rfl))
        (try simp only [Act.put, List.setIfInBounds_toArray, List.set_cons_zero, List.set_cons_succ])
        (refine take_q (i := 9) (d := 85) (v := ?v200) rfl rfl (by kernel_rfl) (by kernel_rfl) (by kernel_rfl) (fun _ _ _ h => h) (by kernel_rfl) ?hy200 (by assumption) ?rest200)
        case hy200 => (intro w9 hSw; first | (go_simp; done) | (go_simp; with_reducible rfl))
        (try simp only [Act.put, List.setIfInBounds_toArray, List.set_cons_zero, List.set_cons_succ])
        (refine take_q (i := 10) (d := 86) (v := ?v201) rfl rfl (by kernel_rfl) (by kernel_rfl) (by kernel_rfl) (fun _ _ _ h => h) (by kernel_rfl) ?hy201 (by assumption) ?rest201)
        case hy201 => (intro w9 hSw; first | (go_simp; done) | (go_simp; with_reducible rfl))
        (try simp only [Act.put, List.setIfInBounds_toArray, List.set_cons_zero, List.set_cons_succ])
        (refine take_q (i := 11) (d := 87) (v := ?v202) rfl rfl (by kernel_rfl) (by kernel_rfl) (by kernel_rfl) (fun _ _ _ h => h) (by kernel_rfl) ?hy202 (by assumption) ?rest202)
        case hy202 => (intro w9 hSw; have hc9 := Blk.cell hSw.1; clear hSw; first | (go_simp; done) | (go_simp; with_reducible rfl))
        (try simp only [Act.put, List.setIfInBounds_toArray, List.set_cons_zero, List.set_cons_succ])
        (refine take_q (i := 12) (d := 88) (v := ?v203) rfl rfl (by kernel_rfl) (by kernel_rfl) (by kernel_rfl) (fun _ _ _ h => h) (by kernel_rfl) ?hy203 (by assumption) ?rest203)
        case hy203 => (intro w9 hSw; first | (go_simp; done) | (go_simp; with_reducible rfl))
        (try simp only [Act.put, List.setIfInBounds_toArray, List.set_cons_zero, List.set_cons_succ])
        (refine take_q (i := 13) (d := 89) (v := ?v204) rfl rfl (by kernel_rfl) (by kernel_rfl) (by kernel_rfl) (fun _ _ _ h => h) (by kernel_rfl) ?hy204 (by assumption) ?rest204)
        case hy204 => (intro w9 hSw; first | (go_simp; done) | (go_simp; with_reducible rfl))
        (try simp only [Act.put, List.setIfInBounds_toArray, List.set_cons_zero, List.set_cons_succ])
        (refine take_q (i := 14) (d := 90) (v := ?v205) rfl rfl (by kernel_rfl) (by kernel_rfl) (by kernel_rfl) (fun _ _ _ h => h) (by kernel_rfl) ?hy205 (by assumption) ?rest205)
        case hy205 => (intro w9 hSw; have hc9 := Blk.cell hSw.2; clear hSw; first | (go_simp; done) | (go_simp; with_reducible rfl))
        (try simp only [Act.put, List.setIfInBounds_toArray, List.set_cons_zero, List.set_cons_succ])
        have hfR := HRd.out.frozen
        have hcR := HRd.out.cell
        have HS := Lib.hid (set11 HRd.out (.int .i64 0) (.int .i64 0) (.int .i64 0) (.slice none 0 0) (.int .i64 0) (.string ⟨#[]⟩) (.int .i64 0) (.int .i64 0) (.string ⟨#[]⟩) (.int .i64 0) (.int .i64 0))
        (refine wpAnyH_ready (rs := [15]) (by kernel_rfl) (by simp) ?_)
        (refine AllReadyH.cons (o := _) rfl (fun K hK => ?_) AllReadyH.nil)
        go_simp
        generalize (World.setCell (World.setCell (World.setCell (World.setCell (World.setCell (World.setCell (World.setCell (World.setCell (World.setCell (World.setCell (World.setCell wd ⟨W.heap.size, 0, none⟩ (.int .i64 0)) ⟨W.heap.size, 1, none⟩ (.int .i64 0)) ⟨W.heap.size, 2, none⟩ (.int .i64 0)) ⟨W.heap.size, 3, none⟩ (.slice none 0 0)) ⟨W.heap.size, 4, none⟩ (.int .i64 0)) ⟨W.heap.size, 5, none⟩ (.string ⟨#[]⟩)) ⟨W.heap.size, 6, none⟩ (.int .i64 0)) ⟨W.heap.size, 7, none⟩ (.int .i64 0)) ⟨W.heap.size, 8, none⟩ (.string ⟨#[]⟩)) ⟨W.heap.size, 9, none⟩ (.int .i64 0)) ⟨W.heap.size, 10, none⟩ (.int .i64 0)) = wC at HS ⊢
        (refine hK.out _ _ ⟨HLd.out.tur HS.out.2 (by omega), HQd.out.tur HS.out.2 (by omega)⟩ (fun hHeld => ?_))
        clear hK K
        (refine take_q (i := 16) (d := 3) (v := ?v206) rfl rfl (by kernel_rfl) (by kernel_rfl) (by kernel_rfl) (fun _ _ _ h => h) (by kernel_rfl) ?hy206 (by assumption) ?rest206)
        case hy206 => (intro w9 hSw; first | (go_simp; done) | (go_simp; with_reducible rfl))
        (try simp only [Act.put, List.setIfInBounds_toArray, List.set_cons_zero, List.set_cons_succ])
        (refine take_q (i := 17) (d := 4) (v := ?v207) rfl rfl (by kernel_rfl) (by kernel_rfl) (by kernel_rfl) (fun _ _ _ h => h) (by kernel_rfl) ?hy207 (by assumption) ?rest207)
        case hy207 => (intro w9 hSw; first | (go_simp; done) | (go_simp; with_reducible rfl))
        (try simp only [Act.put, List.setIfInBounds_toArray, List.set_cons_zero, List.set_cons_succ])
        (refine wpAnyH_done (by kernel_rfl) ?_ _)
        have hc7 := HS.out.1.cell
        go_wp2
        exact bodyPost_ret (v := .tuple #[.agg (rqC nilS rq0), .int .i64 code, .int .i64 pl]) (by simp [results, Tryz.results11, go_sem, hc7, rq0, cell0]) rfl
          ⟨HBd.out.trans (HS.out.2.below HBd.out.size (fun k e => by omega)), by rw [HD.out]⟩
set_option maxHeartbeats 8000000 in
set_option maxRecDepth 100000 in
theorem doc_rq_many (A : Option Addr) (n c : Nat) (xs : List Int) (hk : (kindD xs).1 = 2) (W : World) (hl : xs.length = n) (h : CellsAt W A (bvs xs)) (hw : ∀ x ∈ xs, (Lit.int .u8 x).wf = true) (hn : n ≤ 140737488355328) (hc : n ≤ c) :
    Calls Tryz.prog 11 #[.slice A n c] W (DocQ W (decRq xs)) := by
  have HR0 := Lib.hid (Blk.new W 29 #[.int .i64 0, .int .i64 0, .int .i64 0, .slice none 0 0, .int .i64 0, .string ⟨#[]⟩, .int .i64 0, .int .i64 0, .string ⟨#[]⟩, .int .i64 0, .int .i64 0])
  have bl0 := (Below.refl W.heap.size W).alloc (Nat.le_refl _) (.cells #[.int .i64 0, .int .i64 0, .int .i64 0, .slice none 0 0, .int .i64 0, .string ⟨#[]⟩, .int .i64 0, .int .i64 0, .string ⟨#[]⟩, .int .i64 0, .int .i64 0] 29)
  have hs1 : (W.alloc (.cells #[.int .i64 0, .int .i64 0, .int .i64 0, .slice none 0 0, .int .i64 0, .string ⟨#[]⟩, .int .i64 0, .int .i64 0, .string ⟨#[]⟩, .int .i64 0, .int .i64 0] 29)).heap.size = W.heap.size + 1 := by simp
  have CR := Lib.hid (dc_read A n c xs (W.alloc (.cells #[.int .i64 0, .int .i64 0, .int .i64 0, .slice none 0 0, .int .i64 0, .string ⟨#[]⟩, .int .i64 0, .int .i64 0, .string ⟨#[]⟩, .int .i64 0, .int .i64 0] 29)) hl (h.below bl0) hw hn hc)
  have HKN := Lib.hid hk
  have HAl := Lib.hid (show xs ≠ [] → ∀ ad, A = some ad → ad.block < W.heap.size from fun h0 ad e => by
    subst e
    obtain ⟨ad', e, h1, _⟩ := h 0 (by rw [bvs_len]; exact List.length_pos_iff.2 h0)
    cases e
    exact h1)
  have HBl := Lib.hid bl0
  clear h hw hn hk hc bl0
  go_enter Tryz.func11, Tryz.ntmps11
  go_wp2_with fail
  go_at_call 34; (with_reducible refine CR.out.mono ?_); rintro e w1 ⟨rfl, hr, hb⟩
  have HR1 := Lib.hid (HR0.out.kept hb)
  have HB1 := Lib.hid (HBl.out.trans (hb.mono (by simp)))
  have hw1 : W.heap.size + 1 ≤ w1.heap.size := hs1 ▸ hb.size
  rw [hs1] at hr ⊢
  have HX := Lib.hid (DxIs.start hr 29 #[.int .i64 0, .int .i64 0, .int .i64 0, .slice none 0 0, .int .i64 0, .string ⟨#[]⟩, .int .i64 0, .int .i64 0, .string ⟨#[]⟩, .int .i64 0, .int .i64 0] 27 3 (fun h0 ad e => by have := HAl.out h0 ad e; omega))
  have HR2 := Lib.hid ((HR1.out.alloc (.cells #[.pointer (some ⟨W.heap.size + 1, 0, none⟩)] 98)).alloc (.cells #[.int .i64 0, .int .i64 0, .int .i64 0, .slice none 0 0, .int .i64 0, .string ⟨#[]⟩, .int .i64 0, .int .i64 0, .string ⟨#[]⟩, .int .i64 0, .int .i64 0] 29))
  have HB2 := Lib.hid ((HB1.out.alloc (by omega) (.cells #[.pointer (some ⟨W.heap.size + 1, 0, none⟩)] 98)).alloc (by simp; omega) (.cells #[.int .i64 0, .int .i64 0, .int .i64 0, .slice none 0 0, .int .i64 0, .string ⟨#[]⟩, .int .i64 0, .int .i64 0, .string ⟨#[]⟩, .int .i64 0, .int .i64 0] 29))
  have hs2 : (w1.alloc (.cells #[.pointer (some ⟨W.heap.size + 1, 0, none⟩)] 98)).heap.size = w1.heap.size + 1 := by simp
  clear hr hb HR0 CR HAl HBl HB1 HR1 hs1
  go_wp2_with fail
  generalize hW0 : (w1.alloc (.cells #[.pointer (some ⟨W.heap.size + 1, 0, none⟩)] 98)).alloc (.cells #[.int .i64 0, .int .i64 0, .int .i64 0, .slice none 0 0, .int .i64 0, .string ⟨#[]⟩, .int .i64 0, .int .i64 0, .string ⟨#[]⟩, .int .i64 0, .int .i64 0] 29) = W0 at *
  have hRW : W.heap.size < w1.heap.size := by omega
  have hqW : W.heap.size < W.heap.size + 1 := by omega
  clear hW0 hs2
  generalize hq : W.heap.size + 1 = q at *
  generalize hj : w1.heap.size = j at *
  clear hj hq
  go_at_call 35; (with_reducible refine (show Calls Tryz.prog 35 #[.pointer (some ⟨j, 0, none⟩), .int .i64 7] W0 _ from lx_head HX.out.rd HX.out.lx HX.out.jq 7).mono ?_); rintro e w3 ⟨rfl, hr, hf⟩
  have HX3 := Lib.hid (HX.out.read hr hf)
  have HKD := Lib.hid (show kindD xs = numP xs M40 ⟨0, none⟩ from rfl)
  clear hr hf HX
  have HHD := Lib.hid (show headP xs (7 : Int) ⟨0, none⟩ = (numP xs M40 ⟨0, none⟩).2 by
    unfold headP
    rw [if_neg]
    rintro ⟨_, h⟩
    have hk := HKN.out
    rw [HKD.out] at hk
    omega)
  rw [show ((7 : Nat) : Int) = (7 : Int) from rfl] at HX3
  rw [HHD.out] at HX3
  simp only [show ((7 : Nat) : Int) = (7 : Int) from rfl, HHD.out]
  rw [HKD.out] at HKN
  clear HHD
  generalize hyd : numP xs M40 ⟨0, none⟩ = y at *
  clear hyd
  obtain ⟨k0, s1⟩ := y
  dsimp only at HX3 HKN HKD ⊢
  generalize hid : numP xs M40 s1 = y at *
  have HID := Lib.hid hid
  clear hid
  obtain ⟨id0, s2⟩ := y
  dsimp only at HX3 HID ⊢
  have hk1 : k0 = 2 := HKN.out
  subst hk1
  simp only [show ((2 : Nat) : Int) = (2 : Int) from rfl]
  have hcb := HX3.out.blk.cell
  have hfb := HX3.out.blk.frozen
  have HX4 := Lib.hid (show DxIs W0 q j (j + 1) 29 A n c xs (rqC (.slice none 0 0) ⟨2, (id0 : Int), 0, [], cell0, cell0, 0⟩) s2 27 3 (.slice none 0 0) 0 [] ((w3.setCell ⟨j + 1, 0, none⟩ (.int .i64 2)).setCell ⟨j + 1, 1, none⟩ (.int .i64 (id0 : Int))) from (HX3.out.put (cs1 := rqC (.slice none 0 0) ⟨2, 0, 0, [], cell0, cell0, 0⟩) 0 (.int .i64 2) rfl).put 1 (.int .i64 (id0 : Int)) rfl)
  clear HX3
  go_wp2_with fail
  generalize ((w3.setCell ⟨j + 1, 0, none⟩ (.int .i64 2)).setCell ⟨j + 1, 1, none⟩ (.int .i64 (id0 : Int))) = wg5 at *
  go_at_call 36; (with_reducible refine (lx_num HX4.out.rd HX4.out.lx).mono ?_); rintro e wh5 ⟨rfl, hr, hf⟩
  have HN5 := Lib.hid (HX4.out.read hr hf)
  clear hr hf hcb hfb HX4
  generalize hnn : numP xs M40 s2 = y at *
  have HE5 := Lib.hid hnn
  clear hnn
  obtain ⟨ep0, s3⟩ := y
  dsimp only at HN5 HE5 ⊢
  have hcb := HN5.out.blk.cell
  have hfb := HN5.out.blk.frozen
  have HX5 := Lib.hid (HN5.out.put (cs1 := rqC (.slice none 0 0) ⟨2, (id0 : Int), (ep0 : Int), [], cell0, cell0, 0⟩) 2 (.int .i64 (ep0 : Int)) rfl)
  go_wp2_with fail
  generalize (wh5.setCell ⟨j + 1, 2, none⟩ (.int .i64 (ep0 : Int))) = wg6 at *
  go_at_call 37; (with_reducible refine (show Calls Tryz.prog 37 #[.pointer (some ⟨j, 0, none⟩), .int .i64 16] wg6 _ from lx_many HX5.out.rd HX5.out.lx HX5.out.jq 16 (by decide)).mono ?_); rintro e wh6 ⟨rfl, hr, hf⟩
  have HN6 := Lib.hid (HX5.out.read hr hf)
  have HCL := Lib.hid (countP_le xs 16 s3)
  clear hr hf hcb hfb HX5
  simp only [show ((16 : Nat) : Int) = (16 : Int) from rfl] at HN6 HCL ⊢
  generalize hnn : countP xs 16 s3 = y at *
  have HE6 := Lib.hid hnn
  clear hnn
  obtain ⟨cnt, s4⟩ := y
  dsimp only at HN6 HE6 HCL ⊢
  have HRD := Lib.hid (show readD xs = ((⟨2, (id0 : Int), (ep0 : Int), (cellsP xs cnt ([], s4)).1, cell0, cell0, 0⟩ : Rq), (cellsP xs cnt ([], s4)).2) by
    unfold readD bodyD
    rw [HKD.out]
    simp [HID.out, HE5.out, HE6.out])
  go_wp2_with fail
  go_loopw [8] (fun t8 wz => ∃ k : Nat, t8 = .int .i64 (k : Int) ∧ k ≤ cnt ∧ Hid (∃ vz, DxIs W0 q j (j + 1) 29 A n c xs (rqC vz ⟨2, (id0 : Int), (ep0 : Int), [], cell0, cell0, 0⟩) (dcells xs k ([], s4)).2 27 3 vz (dcells xs k ([], s4)).1.length (cellCs (dcells xs k ([], s4)).1) wz)) (fun t8 _ => cnt - (intOf t8).toNat)
  case atStart => exact ⟨0, rfl, Nat.zero_le _, Lib.hid ⟨_, HN6.out⟩⟩
  case round =>
    obtain ⟨k, rfl, hk, HP0⟩ := hrel
    obtain ⟨vz, hP⟩ := HP0.out
    have HP := Lib.hid hP
    clear HP0 hP
    rename World => wz
    have LK := Lib.hid (dcells_len xs ([], s4) k)
    have HSTEP := Lib.hid (show dcells xs (k + 1) ([], s4) = ((dcells xs k ([], s4)).1 ++ [(cellP xs (dcells xs k ([], s4)).2).1], (cellP xs (dcells xs k ([], s4)).2).2) from rfl)
    have HSAME := Lib.hid (dcells_same xs ([], s4) k)
    by_cases hkn : k < cnt
    · generalize dcells xs k ([], s4) = st at *
      obtain ⟨l, sz⟩ := st
      dsimp only at HP LK HSTEP
      clear HSAME HRD HKD
      go_wp2_with fail
      obtain ⟨ic, zc, hic, hzc, hz1, hz2, hz3⟩ := info_cell
      have h16 : k ≤ 16 := by have := HCL.out; omega
      (refine wp_region_held_drew (S := fun w9 => LxB w9 j q) (by kernel_rfl) HP.out.lx.drew (fun hHeld => ?_))
      have Hd := Lib.hid HP.out.drew
      clear HP
      (refine take_q (i := 0) (d := 56) (v := ?v208) rfl rfl (by kernel_rfl) (by kernel_rfl) (by kernel_rfl) (fun _ _ _ h => h) (by kernel_rfl) ?hy208 (by assumption) ?rest208)
      case hy208 => (intro w9 hSw; first | (go_simp; done) | (go_simp; with_reducible rfl))
      (try simp only [Act.put, List.setIfInBounds_toArray, List.set_cons_zero, List.set_cons_succ])
      (refine take_q (i := 2) (d := 58) (v := ?v209) rfl rfl (by kernel_rfl) (by kernel_rfl) (by kernel_rfl) (fun _ _ _ h => h) (by kernel_rfl) ?hy209 (by assumption) ?rest209)
      case hy209 => (intro w9 hSw; first | (go_simp; done) | (go_simp; with_reducible rfl))
      (try simp only [Act.put, List.setIfInBounds_toArray, List.set_cons_zero, List.set_cons_succ])
      (refine wpAnyH_ready (rs := [1, 3]) (by kernel_rfl) (by simp) ?_)
      refine AllReadyH.cons (o := _) rfl (fun K hK => ?_) (AllReadyH.cons (o := _) rfl (fun K hK => ?_) AllReadyH.nil)
      · have hcb := Hd.out.blk.cell
        go_simp
        clear hcb
        (refine hK.out _ _ Hd.out.lx (fun hHeld => ?_))
        clear hK K
        (try simp only [Act.put, List.setIfInBounds_toArray, List.set_cons_zero, List.set_cons_succ])
        (refine wpAnyH_ready (rs := [3]) (by kernel_rfl) (by simp) ?_)
        (refine AllReadyH.cons (o := _) rfl (fun K hK => ?_) AllReadyH.nil)
        go_simp
        (with_reducible refine (lx_cell Hd.out.rd Hd.out.lx Hd.out.jq).mono ?_)
        rintro e w5 ⟨rfl, hr, hf⟩
        have H5 := Lib.hid (Hd.out.read hr hf)
        clear hr hf
        generalize (cellP xs sz) = y at *
        obtain ⟨x, s9⟩ := y
        dsimp only at H5 HSTEP
        go_simp
        (refine hK.out _ _ H5.out.lx (fun hHeld => ?_))
        clear hK K
        (try dsimp only)
        (refine wpAnyH_ready (rs := [4]) (by kernel_rfl) (by simp) ?_)
        (refine AllReadyH.cons (o := _) rfl (fun K hK => ?_) AllReadyH.nil)
        go_simp
        have HN6 := Lib.hid (Blk.new w5 27 #[.int .i64 x.view, .string x.key, .int .i64 x.start])
        have H6 := Lib.hid (H5.out.alloc (.cells #[.int .i64 x.view, .string x.key, .int .i64 x.start] 27))
        generalize hw6 : w5.alloc (.cells #[.int .i64 x.view, .string x.key, .int .i64 x.start] 27) = w6 at *
        generalize w5.heap.size = jn at *
        (refine hK.out _ _ H6.out.lx (fun hHeld => ?_))
        clear hK K
        (try simp only [Act.put, List.setIfInBounds_toArray, List.set_cons_zero, List.set_cons_succ])
        (refine wpAnyH_ready (rs := [5]) (by kernel_rfl) (by simp) ?_)
        (refine AllReadyH.cons (o := _) rfl (fun K hK => ?_) AllReadyH.nil)
        refine want_ (by kernel_rfl) ?_
        refine wp_append_at _ _ _ rfl W0.heap.size _ ic zc 3 32 Tryz.underlying25 hic hzc hz1 hz2 hz3 (by decide) vz l.length (cellCs l) rfl H6.out.own ⟨jn, 0, none⟩ 1 1 x.cells rfl rfl (cells_one_c HN6.out) (cells_one1 x) (by have h := LK.out; rw [List.length_nil] at h; unfold maxLen; omega) (by have h := LK.out; rw [List.length_nil] at h; omega) H6.out.tur.size ?_
        intro v7 w7 hown hg hv
        obtain ⟨A7, c7, rfl⟩ := own_form3 hown
        have H7 := Lib.hid ((H6.out.grown hg hown).to (m1 := (l ++ [x]).length) (ys1 := cellCs (l ++ [x])) (by simp) (by simp [cellCs]))
        clear hown hg hv
        (refine hK.out _ _ H7.out.lx (fun hHeld => ?_))
        clear hK K
        (try simp only [Act.put]); (try simp only [List.setIfInBounds_toArray]); (try simp only [List.set_cons_succ]); (try simp only [List.set_cons_zero])
        (refine take_q (i := 6) (d := 62) (v := ?v210) rfl rfl (by kernel_rfl) (by kernel_rfl) (by kernel_rfl) (fun _ _ _ h => h) (by kernel_rfl) ?hy210 (by assumption) ?rest210)
        case hy210 => (intro w9 hSw; first | (go_simp; done) | (go_simp; with_reducible rfl))
        (try simp only [Act.put]); (try simp only [List.setIfInBounds_toArray]); (try simp only [List.set_cons_succ]); (try simp only [List.set_cons_zero])
        have hcb := H7.out.blk.cell
        have hfb := H7.out.blk.frozen
        (refine wpAnyH_ready (rs := [7]) (by kernel_rfl) (by simp) ?_)
        (refine AllReadyH.cons (o := _) rfl (fun K hK => ?_) AllReadyH.nil)
        go_simp
        have H8 := Lib.hid (H7.out.put (cs1 := rqC (.slice A7 (l.length + 1) c7) ⟨2, (id0 : Int), (ep0 : Int), [], cell0, cell0, 0⟩) 3 (.slice A7 (l.length + 1) c7) rfl)
        clear hcb hfb
        (refine hK.out _ _ H8.out.lx (fun hHeld => ?_))
        clear hK K
        (refine wpAnyH_done (by kernel_rfl) ?_ _)
        go_wp2
        go_roundw
        case rel => exact ⟨k + 1, by go_num, by omega, Lib.hid ⟨_, by rw [HSTEP.out]; exact H8.out⟩⟩
        case measure => simp [intOf]; omega
      · go_simp
        (with_reducible refine (lx_cell Hd.out.rd Hd.out.lx Hd.out.jq).mono ?_)
        rintro e w5 ⟨rfl, hr, hf⟩
        have H5 := Lib.hid (Hd.out.read hr hf)
        clear hr hf
        generalize (cellP xs sz) = y at *
        obtain ⟨x, s9⟩ := y
        dsimp only at H5 HSTEP
        go_simp
        (refine hK.out _ _ H5.out.lx (fun hHeld => ?_))
        clear hK K
        (try dsimp only)
        (refine wpAnyH_ready (rs := [1, 4]) (by kernel_rfl) (by simp) ?_)
        refine AllReadyH.cons (o := _) rfl (fun K hK => ?_) (AllReadyH.cons (o := _) rfl (fun K hK => ?_) AllReadyH.nil)
        · have hcb := H5.out.blk.cell
          go_simp
          clear hcb
          (refine hK.out _ _ H5.out.lx (fun hHeld => ?_))
          clear hK K
          (try simp only [Act.put, List.setIfInBounds_toArray, List.set_cons_zero, List.set_cons_succ])
          (refine wpAnyH_ready (rs := [4]) (by kernel_rfl) (by simp) ?_)
          (refine AllReadyH.cons (o := _) rfl (fun K hK => ?_) AllReadyH.nil)
          go_simp
          have HN6 := Lib.hid (Blk.new w5 27 #[.int .i64 x.view, .string x.key, .int .i64 x.start])
          have H6 := Lib.hid (H5.out.alloc (.cells #[.int .i64 x.view, .string x.key, .int .i64 x.start] 27))
          generalize hw6 : w5.alloc (.cells #[.int .i64 x.view, .string x.key, .int .i64 x.start] 27) = w6 at *
          generalize w5.heap.size = jn at *
          (refine hK.out _ _ H6.out.lx (fun hHeld => ?_))
          clear hK K
          (try simp only [Act.put, List.setIfInBounds_toArray, List.set_cons_zero, List.set_cons_succ])
          (refine wpAnyH_ready (rs := [5]) (by kernel_rfl) (by simp) ?_)
          (refine AllReadyH.cons (o := _) rfl (fun K hK => ?_) AllReadyH.nil)
          refine want_ (by kernel_rfl) ?_
          refine wp_append_at _ _ _ rfl W0.heap.size _ ic zc 3 32 Tryz.underlying25 hic hzc hz1 hz2 hz3 (by decide) vz l.length (cellCs l) rfl H6.out.own ⟨jn, 0, none⟩ 1 1 x.cells rfl rfl (cells_one_c HN6.out) (cells_one1 x) (by have h := LK.out; rw [List.length_nil] at h; unfold maxLen; omega) (by have h := LK.out; rw [List.length_nil] at h; omega) H6.out.tur.size ?_
          intro v7 w7 hown hg hv
          obtain ⟨A7, c7, rfl⟩ := own_form3 hown
          have H7 := Lib.hid ((H6.out.grown hg hown).to (m1 := (l ++ [x]).length) (ys1 := cellCs (l ++ [x])) (by simp) (by simp [cellCs]))
          clear hown hg hv
          (refine hK.out _ _ H7.out.lx (fun hHeld => ?_))
          clear hK K
          (try simp only [Act.put]); (try simp only [List.setIfInBounds_toArray]); (try simp only [List.set_cons_succ]); (try simp only [List.set_cons_zero])
          (refine take_q (i := 6) (d := 62) (v := ?v211) rfl rfl (by kernel_rfl) (by kernel_rfl) (by kernel_rfl) (fun _ _ _ h => h) (by kernel_rfl) ?hy211 (by assumption) ?rest211)
          case hy211 => (intro w9 hSw; first | (go_simp; done) | (go_simp; with_reducible rfl))
          (try simp only [Act.put]); (try simp only [List.setIfInBounds_toArray]); (try simp only [List.set_cons_succ]); (try simp only [List.set_cons_zero])
          have hcb := H7.out.blk.cell
          have hfb := H7.out.blk.frozen
          (refine wpAnyH_ready (rs := [7]) (by kernel_rfl) (by simp) ?_)
          (refine AllReadyH.cons (o := _) rfl (fun K hK => ?_) AllReadyH.nil)
          go_simp
          have H8 := Lib.hid (H7.out.put (cs1 := rqC (.slice A7 (l.length + 1) c7) ⟨2, (id0 : Int), (ep0 : Int), [], cell0, cell0, 0⟩) 3 (.slice A7 (l.length + 1) c7) rfl)
          clear hcb hfb
          (refine hK.out _ _ H8.out.lx (fun hHeld => ?_))
          clear hK K
          (refine wpAnyH_done (by kernel_rfl) ?_ _)
          go_wp2
          go_roundw
          case rel => exact ⟨k + 1, by go_num, by omega, Lib.hid ⟨_, by rw [HSTEP.out]; exact H8.out⟩⟩
          case measure => simp [intOf]; omega
        · go_simp
          have HN6 := Lib.hid (Blk.new w5 27 #[.int .i64 x.view, .string x.key, .int .i64 x.start])
          have H6 := Lib.hid (H5.out.alloc (.cells #[.int .i64 x.view, .string x.key, .int .i64 x.start] 27))
          generalize hw6 : w5.alloc (.cells #[.int .i64 x.view, .string x.key, .int .i64 x.start] 27) = w6 at *
          generalize w5.heap.size = jn at *
          (refine hK.out _ _ H6.out.lx (fun hHeld => ?_))
          clear hK K
          (try simp only [Act.put, List.setIfInBounds_toArray, List.set_cons_zero, List.set_cons_succ])
          (refine wpAnyH_ready (rs := [1]) (by kernel_rfl) (by simp) ?_)
          (refine AllReadyH.cons (o := _) rfl (fun K hK => ?_) AllReadyH.nil)
          have hcb := H6.out.blk.cell
          go_simp
          clear hcb
          (refine hK.out _ _ H6.out.lx (fun hHeld => ?_))
          clear hK K
          (try simp only [Act.put, List.setIfInBounds_toArray, List.set_cons_zero, List.set_cons_succ])
          (refine wpAnyH_ready (rs := [5]) (by kernel_rfl) (by simp) ?_)
          (refine AllReadyH.cons (o := _) rfl (fun K hK => ?_) AllReadyH.nil)
          refine want_ (by kernel_rfl) ?_
          refine wp_append_at _ _ _ rfl W0.heap.size _ ic zc 3 32 Tryz.underlying25 hic hzc hz1 hz2 hz3 (by decide) vz l.length (cellCs l) rfl H6.out.own ⟨jn, 0, none⟩ 1 1 x.cells rfl rfl (cells_one_c HN6.out) (cells_one1 x) (by have h := LK.out; rw [List.length_nil] at h; unfold maxLen; omega) (by have h := LK.out; rw [List.length_nil] at h; omega) H6.out.tur.size ?_
          intro v7 w7 hown hg hv
          obtain ⟨A7, c7, rfl⟩ := own_form3 hown
          have H7 := Lib.hid ((H6.out.grown hg hown).to (m1 := (l ++ [x]).length) (ys1 := cellCs (l ++ [x])) (by simp) (by simp [cellCs]))
          clear hown hg hv
          (refine hK.out _ _ H7.out.lx (fun hHeld => ?_))
          clear hK K
          (try simp only [Act.put]); (try simp only [List.setIfInBounds_toArray]); (try simp only [List.set_cons_succ]); (try simp only [List.set_cons_zero])
          (refine take_q (i := 6) (d := 62) (v := ?v212) rfl rfl (by kernel_rfl) (by kernel_rfl) (by kernel_rfl) (fun _ _ _ h => h) (by kernel_rfl) ?hy212 (by assumption) ?rest212)
          case hy212 => (intro w9 hSw; first | (go_simp; done) | (go_simp; with_reducible rfl))
          (try simp only [Act.put]); (try simp only [List.setIfInBounds_toArray]); (try simp only [List.set_cons_succ]); (try simp only [List.set_cons_zero])
          have hcb := H7.out.blk.cell
          have hfb := H7.out.blk.frozen
          (refine wpAnyH_ready (rs := [7]) (by kernel_rfl) (by simp) ?_)
          (refine AllReadyH.cons (o := _) rfl (fun K hK => ?_) AllReadyH.nil)
          go_simp
          have H8 := Lib.hid (H7.out.put (cs1 := rqC (.slice A7 (l.length + 1) c7) ⟨2, (id0 : Int), (ep0 : Int), [], cell0, cell0, 0⟩) 3 (.slice A7 (l.length + 1) c7) rfl)
          clear hcb hfb
          (refine hK.out _ _ H8.out.lx (fun hHeld => ?_))
          clear hK K
          (refine wpAnyH_done (by kernel_rfl) ?_ _)
          go_wp2
          go_roundw
          case rel => exact ⟨k + 1, by go_num, by omega, Lib.hid ⟨_, by rw [HSTEP.out]; exact H8.out⟩⟩
          case measure => simp [intOf]; omega
    · have hkc : k = cnt := by omega
      have HK2 := Lib.hid hkc
      have HDC := Lib.hid (show (dcells xs k ([], s4)).2 = (readD xs).2 ∧ ((readD xs).2.fault = none → (⟨2, (id0 : Int), (ep0 : Int), (dcells xs k ([], s4)).1, cell0, cell0, 0⟩ : Rq) = (readD xs).1) by
        have h := HSAME.out
        rw [HRD.out]
        subst hkc
        refine ⟨h.1, fun h0 => ?_⟩
        rw [h.2 h0])
      generalize dcells xs k ([], s4) = st at *
      obtain ⟨l, sz⟩ := st
      dsimp only at HP LK HDC
      clear HSAME HSTEP LK
      obtain ⟨r0, hr0⟩ : ∃ r0 : Rq, r0 = ⟨2, (id0 : Int), (ep0 : Int), l, cell0, cell0, 0⟩ := ⟨_, rfl⟩
      have HX7 := Lib.hid (show DxIs W0 q j (j + 1) 29 A n c xs (rqC vz r0) (readD xs).2 27 3 vz r0.cs.length (cellCs r0.cs) wz by
        rw [hr0, ← HDC.out.1]
        exact HP.out)
      have HRE := Lib.hid (show (readD xs).2.fault = none → r0 = (readD xs).1 from fun h => by rw [hr0]; exact HDC.out.2 h)
      clear hr0 HP HDC HK2
      have HDEC := Lib.hid (show decRq xs = if (checkD (checkRq (readD xs).1) (endP xs (readD xs).2)).fault.isSome then (rq0, (checkD (checkRq (readD xs).1) (endP xs (readD xs).2)).fault) else ((readD xs).1, none) by
        unfold decRq
        rw [if_neg (by rw [HKD.out]; dsimp only; omega)])
      have HOK := Lib.hid (readD_ok xs)
      generalize readD xs = y at *
      obtain ⟨r', s7⟩ := y
      dsimp only at HX7 HRE HDEC HOK
      have l0 : wz.cell? ⟨j, 0, none⟩ = some (.pointer (some ⟨q, 0, none⟩)) := HX7.out.lx.cell 0
      go_wp2_with fail
      go_at_call 39; (with_reducible refine (dc_end HX7.out.rd).mono ?_); rintro e w8 ⟨rfl, hr, hf⟩
      have HX8 := Lib.hid (HX7.out.read hr hf)
      clear hr hf l0 HX7
      have l0 : w8.cell? ⟨j, 0, none⟩ = some (.pointer (some ⟨q, 0, none⟩)) := HX8.out.lx.cell 0
      have p2 : w8.cell? ⟨q, 2, none⟩ = some (.int .i64 (endP xs s7).err) := HX8.out.rd.blk.cell 2
      rcases hfl : (endP xs s7).fault with _ | ⟨code, pl⟩
      · have hre := HRE.out (endP_none2 hfl)
        subst hre
        rw [(DocIs.err_no hfl).1] at p2
        obtain ⟨As, cz, hvz⟩ := own_form3 HX8.out.own
        subst hvz
        have HCR := Lib.hid (CellsOwn.rd_ (show CellsOwn w8 W0.heap.size (.slice As r0.cs.length cz) r0.cs from HX8.out.own))
        have hcb := HX8.out.blk.cell
        go_wp2_with fail
        go_at_call 40; (with_reducible refine (rcheck_rq As _ cz r0 w8 rfl HCR.out.1 HCR.out.2 HOK.out).mono ?_); rintro e w9 ⟨rfl, hb9⟩
        have HX9 := Lib.hid (HX8.out.kept hb9)
        have HR9 := Lib.hid (HR2.out.tur HX9.out.tur (by omega))
        have HB9 := Lib.hid (HB2.out.trans (HX9.out.tur.below HB2.out.size (fun k e => by omega)))
        clear hb9 hcb l0 p2 HX8
        have hfR := HR9.out.frozen
        have hcR := HR9.out.cell
        by_cases hck : checkRq r0 = 0
        · have HD := Lib.hid (show decRq xs = (r0, none) by
            rw [HDEC.out]
            unfold checkD
            rw [hfl, hck]
            simp [RS.fail, hfl])
          rw [hck]
          have hcb := HX9.out.blk.cell
          have HS := Lib.hid (set11 HR9.out (.int .i64 r0.kind) (.int .i64 r0.id) (.int .i64 r0.epoch) (.slice As r0.cs.length cz) (.int .i64 r0.frm.view) (.string r0.frm.key) (.int .i64 r0.frm.start) (.int .i64 r0.too.view) (.string r0.too.key) (.int .i64 r0.too.start) (.int .i64 r0.limit))
          go_wp2
          generalize (World.setCell (World.setCell (World.setCell (World.setCell (World.setCell (World.setCell (World.setCell (World.setCell (World.setCell (World.setCell (World.setCell w9 ⟨W.heap.size, 0, none⟩ (.int .i64 r0.kind)) ⟨W.heap.size, 1, none⟩ (.int .i64 r0.id)) ⟨W.heap.size, 2, none⟩ (.int .i64 r0.epoch)) ⟨W.heap.size, 3, none⟩ (.slice As r0.cs.length cz)) ⟨W.heap.size, 4, none⟩ (.int .i64 r0.frm.view)) ⟨W.heap.size, 5, none⟩ (.string r0.frm.key)) ⟨W.heap.size, 6, none⟩ (.int .i64 r0.frm.start)) ⟨W.heap.size, 7, none⟩ (.int .i64 r0.too.view)) ⟨W.heap.size, 8, none⟩ (.string r0.too.key)) ⟨W.heap.size, 9, none⟩ (.int .i64 r0.too.start)) ⟨W.heap.size, 10, none⟩ (.int .i64 r0.limit)) = wC at HS ⊢
          have hc7 := HS.out.1.cell
          exact bodyPost_ret (v := .tuple #[.agg (rqC (.slice As r0.cs.length cz) r0), .int .i64 0, .int .i64 0]) (by simp [results, Tryz.results11, go_sem, hc7]) rfl
            ⟨HB9.out.trans (HS.out.2.below HB9.out.size (fun k e => by omega)), by rw [HD.out]; exact ⟨_, rfl, own_low (show CellsOwn w9 W0.heap.size (.slice As r0.cs.length cz) r0.cs from HX9.out.own) HS.out.2 (fun k e => by subst e; have := HX9.out.jl; omega) (by have := HX9.out.jl; omega)⟩⟩
        · have HD := Lib.hid (show decRq xs = (rq0, some (checkRq r0, 0)) by
            rw [HDEC.out]
            unfold checkD
            rw [hfl]
            simp [RS.fail, hfl, hck])
          have hz : (checkRq r0 != 0) = true := by simpa using hck
          have HS := Lib.hid (set11 HR9.out (.int .i64 0) (.int .i64 0) (.int .i64 0) (.slice none 0 0) (.int .i64 0) (.string ⟨#[]⟩) (.int .i64 0) (.int .i64 0) (.string ⟨#[]⟩) (.int .i64 0) (.int .i64 0))
          go_wp2
          generalize (World.setCell (World.setCell (World.setCell (World.setCell (World.setCell (World.setCell (World.setCell (World.setCell (World.setCell (World.setCell (World.setCell w9 ⟨W.heap.size, 0, none⟩ (.int .i64 0)) ⟨W.heap.size, 1, none⟩ (.int .i64 0)) ⟨W.heap.size, 2, none⟩ (.int .i64 0)) ⟨W.heap.size, 3, none⟩ (.slice none 0 0)) ⟨W.heap.size, 4, none⟩ (.int .i64 0)) ⟨W.heap.size, 5, none⟩ (.string ⟨#[]⟩)) ⟨W.heap.size, 6, none⟩ (.int .i64 0)) ⟨W.heap.size, 7, none⟩ (.int .i64 0)) ⟨W.heap.size, 8, none⟩ (.string ⟨#[]⟩)) ⟨W.heap.size, 9, none⟩ (.int .i64 0)) ⟨W.heap.size, 10, none⟩ (.int .i64 0)) = wC at HS ⊢
          have hc7 := HS.out.1.cell
          exact bodyPost_ret (v := .tuple #[.agg (rqC nilS rq0), .int .i64 (checkRq r0), .int .i64 0]) (by simp [results, Tryz.results11, go_sem, hc7, rq0, cell0]) rfl
            ⟨HB9.out.trans (HS.out.2.below HB9.out.size (fun k e => by omega)), by rw [HD.out]⟩
      · have HD := Lib.hid (show decRq xs = (rq0, some (code, pl)) by rw [HDEC.out]; unfold checkD; simp [hfl])
        have hne := HX8.out.rd.ok code pl hfl
        have hcode : (endP xs s7).err = code := by unfold RS.err; rw [hfl]
        have hpl : (endP xs s7).on = pl := by unfold RS.on; rw [hfl]
        rw [hcode] at p2
        have HQB := Lib.hid (show Blk w8 q 103 (DcC (.slice A n c) ((endP xs s7).pos : Int) code pl) by have h := HX8.out.rd.blk; rw [hcode, hpl] at h; exact h)
        have HLB := Lib.hid HX8.out.lx
        have HR8 := Lib.hid (HR2.out.tur HX8.out.tur (by omega))
        have HB8 := Lib.hid (HB2.out.trans (HX8.out.tur.below HB2.out.size (fun k e => by omega)))
        have hz : (code != 0) = true := by unfold bne; rw [hne]; rfl
        clear hcode hpl hne hfl HX8 HDEC HRE
        go_wp2_with fail
        clear l0 p2
        (refine wp_region_held_drew (S := fun w9 => LxB w9 j q ∧ Blk w9 q 103 (DcC (.slice A n c) ((endP xs s7).pos : Int) code pl)) (by kernel_rfl) ⟨HLB.out.drew, HQB.out.drew⟩ (fun hHeld => ?_))
        have HLd := Lib.hid HLB.out.drew
        have HQd := Lib.hid HQB.out.drew
        have HRd := Lib.hid HR8.out.drew
        have HBd := Lib.hid (HB8.out.trans (Below.refl _ _).drew)
        have hsz := HB8.out.size
        clear HLB HQB HR8 HB8
        generalize w8.drew = wd at *
        (refine take_q (i := 0) (d := 76) (v := ?v213) rfl rfl (by kernel_rfl) (by kernel_rfl) (by kernel_rfl) (fun _ _ _ h => h) (by kernel_rfl) ?hy213 (by assumption) ?rest213)
        case hy213 => (intro w9 hSw; first | (go_simp; done) | (go_simp; with_reducible rfl))
        (try simp only [Act.put, List.setIfInBounds_toArray, List.set_cons_zero, List.set_cons_succ])
        (refine take_q (i := 1) (d := 77) (v := ?v214) rfl rfl (by kernel_rfl) (by kernel_rfl) (by kernel_rfl) (fun _ _ _ h => h) (by kernel_rfl) ?hy214 (by assumption) ?rest214)
        case hy214 => (intro w9 hSw; first | (go_simp; done) | (go_simp; with_reducible rfl))
        (try simp only [Act.put, List.setIfInBounds_toArray, List.set_cons_zero, List.set_cons_succ])
        (refine take_q (i := 2) (d := 78) (v := ?v215) rfl rfl (by kernel_rfl) (by kernel_rfl) (by kernel_rfl) (fun _ _ _ h => h) (by kernel_rfl) ?hy215 (by assumption) ?rest215)
        case hy215 => (intro w9 hSw; first | (go_simp; done) | (go_simp; with_reducible rfl))
        (try simp only [Act.put, List.setIfInBounds_toArray, List.set_cons_zero, List.set_cons_succ])
        (refine take_q (i := 3) (d := 79) (v := ?v216) rfl rfl (by kernel_rfl) (by kernel_rfl) (by kernel_rfl) (fun _ _ _ h => h) (by kernel_rfl) ?hy216 (by assumption) ?rest216)
        case hy216 => (intro w9 hSw; first | (go_simp; done) | (go_simp; with_reducible rfl))
        (try simp only [Act.put, List.setIfInBounds_toArray, List.set_cons_zero, List.set_cons_succ])
        (refine take_q (i := 4) (d := 80) (v := ?v217) rfl rfl (by kernel_rfl) (by kernel_rfl) (by kernel_rfl) (fun _ _ _ h => h) (by kernel_rfl) ?hy217 (by assumption) ?rest217)
        case hy217 => (intro w9 hSw; have hc9 := Blk.cell hSw.1; clear hSw; first | (go_simp; done) | (go_simp; with_reducible rfl))
        (try simp only [Act.put, List.setIfInBounds_toArray, List.set_cons_zero, List.set_cons_succ])
        (refine take_q (i := 5) (d := 81) (v := ?v218) rfl rfl (by kernel_rfl) (by kernel_rfl) (by kernel_rfl) (fun _ _ _ h => h) (by kernel_rfl) ?hy218 (by assumption) ?rest218)
        case hy218 => (intro w9 hSw; first | (go_simp; done) | (go_simp; with_reducible rfl))
        (try simp only [Act.put, List.setIfInBounds_toArray, List.set_cons_zero, List.set_cons_succ])
        (refine take_q (i := 6) (d := 82) (v := ?v219) rfl rfl (by kernel_rfl) (by kernel_rfl) (by kernel_rfl) (fun _ _ _ h => h) (by kernel_rfl) ?hy219 (by assumption) ?rest219)
        case hy219 => (intro w9 hSw; first | (go_simp; done) | (go_simp; with_reducible rfl))
        (try simp only [Act.put, List.setIfInBounds_toArray, List.set_cons_zero, List.set_cons_succ])
        (refine take_q (i := 7) (d := 83) (v := ?v220) rfl rfl (by kernel_rfl) (by kernel_rfl) (by kernel_rfl) (fun _ _ _ h => h) (by kernel_rfl) ?hy220 (by assumption) ?rest220)
        case hy220 => (intro w9 hSw; have hc9 := Blk.cell hSw.2; clear hSw; first | (go_simp; done) | (go_simp; with_reducible rfl))
        (try simp only [Act.put, List.setIfInBounds_toArray, List.set_cons_zero, List.set_cons_succ])
        (refine take_q (i := 8) (d := 84) (v := ?v221) rfl rfl (by kernel_rfl) (by kernel_rfl) (by kernel_rfl) (fun _ _ _ h => h) (by kernel_rfl) ?hy221 (by assumption) ?rest221)
        case hy221 => (intro w9 hSw; first | (go_simp; done) | (go_simp; with_reducible rfl))
        (try simp only [Act.put, List.setIfInBounds_toArray, List.set_cons_zero, List.set_cons_succ])
        (refine take_q (i := 9) (d := 85) (v := ?v222) rfl rfl (by kernel_rfl) (by kernel_rfl) (by kernel_rfl) (fun _ _ _ h => h) (by kernel_rfl) ?hy222 (by assumption) ?rest222)
        case hy222 => (intro w9 hSw; first | (go_simp; done) | (go_simp; with_reducible rfl))
        (try simp only [Act.put, List.setIfInBounds_toArray, List.set_cons_zero, List.set_cons_succ])
        (refine take_q (i := 10) (d := 86) (v := ?v223) rfl rfl (by kernel_rfl) (by kernel_rfl) (by kernel_rfl) (fun _ _ _ h => h) (by kernel_rfl) ?hy223 (by assumption) ?rest223)
        case hy223 => (intro w9 hSw; first | (go_simp; done) | (go_simp; with_reducible rfl))
        (try simp only [Act.put, List.setIfInBounds_toArray, List.set_cons_zero, List.set_cons_succ])
        (refine take_q (i := 11) (d := 87) (v := ?v224) rfl rfl (by kernel_rfl) (by kernel_rfl) (by kernel_rfl) (fun _ _ _ h => h) (by kernel_rfl) ?hy224 (by assumption) ?rest224)
        case hy224 => (intro w9 hSw; have hc9 := Blk.cell hSw.1; clear hSw; first | (go_simp; done) | (go_simp; with_reducible rfl))
        (try simp only [Act.put, List.setIfInBounds_toArray, List.set_cons_zero, List.set_cons_succ])
        (refine take_q (i := 12) (d := 88) (v := ?v225) rfl rfl (by kernel_rfl) (by kernel_rfl) (by kernel_rfl) (fun _ _ _ h => h) (by kernel_rfl) ?hy225 (by assumption) ?rest225)
        case hy225 => (intro w9 hSw; first | (go_simp; done) | (go_simp; with_reducible rfl))
        (try simp only [Act.put, List.setIfInBounds_toArray, List.set_cons_zero, List.set_cons_succ])
        (refine take_q (i := 13) (d := 89) (v := ?v226) rfl rfl (by kernel_rfl) (by kernel_rfl) (by kernel_rfl) (fun _ _ _ h => h) (by kernel_rfl) ?hy226 (by assumption) ?rest226)
        case hy226 => (intro w9 hSw; first | (go_simp; done) | (go_simp; with_reducible rfl))
        (try simp only [Act.put, List.setIfInBounds_toArray, List.set_cons_zero, List.set_cons_succ])
        (refine take_q (i := 14) (d := 90) (v := ?v227) rfl rfl (by kernel_rfl) (by kernel_rfl) (by kernel_rfl) (fun _ _ _ h => h) (by kernel_rfl) ?hy227 (by assumption) ?rest227)
        case hy227 => (intro w9 hSw; have hc9 := Blk.cell hSw.2; clear hSw; first | (go_simp; done) | (go_simp; with_reducible rfl))
        (try simp only [Act.put, List.setIfInBounds_toArray, List.set_cons_zero, List.set_cons_succ])
        have hfR := HRd.out.frozen
        have hcR := HRd.out.cell
        have HS := Lib.hid (set11 HRd.out (.int .i64 0) (.int .i64 0) (.int .i64 0) (.slice none 0 0) (.int .i64 0) (.string ⟨#[]⟩) (.int .i64 0) (.int .i64 0) (.string ⟨#[]⟩) (.int .i64 0) (.int .i64 0))
        (refine wpAnyH_ready (rs := [15]) (by kernel_rfl) (by simp) ?_)
        (refine AllReadyH.cons (o := _) rfl (fun K hK => ?_) AllReadyH.nil)
        go_simp
        generalize (World.setCell (World.setCell (World.setCell (World.setCell (World.setCell (World.setCell (World.setCell (World.setCell (World.setCell (World.setCell (World.setCell wd ⟨W.heap.size, 0, none⟩ (.int .i64 0)) ⟨W.heap.size, 1, none⟩ (.int .i64 0)) ⟨W.heap.size, 2, none⟩ (.int .i64 0)) ⟨W.heap.size, 3, none⟩ (.slice none 0 0)) ⟨W.heap.size, 4, none⟩ (.int .i64 0)) ⟨W.heap.size, 5, none⟩ (.string ⟨#[]⟩)) ⟨W.heap.size, 6, none⟩ (.int .i64 0)) ⟨W.heap.size, 7, none⟩ (.int .i64 0)) ⟨W.heap.size, 8, none⟩ (.string ⟨#[]⟩)) ⟨W.heap.size, 9, none⟩ (.int .i64 0)) ⟨W.heap.size, 10, none⟩ (.int .i64 0)) = wC at HS ⊢
        (refine hK.out _ _ ⟨HLd.out.tur HS.out.2 (by omega), HQd.out.tur HS.out.2 (by omega)⟩ (fun hHeld => ?_))
        clear hK K
        (refine take_q (i := 16) (d := 3) (v := ?v228) rfl rfl (by kernel_rfl) (by kernel_rfl) (by kernel_rfl) (fun _ _ _ h => h) (by kernel_rfl) ?hy228 (by assumption) ?rest228)
        case hy228 => (intro w9 hSw; first | (go_simp; done) | (go_simp; with_reducible rfl))
        (try simp only [Act.put, List.setIfInBounds_toArray, List.set_cons_zero, List.set_cons_succ])
        (refine take_q (i := 17) (d := 4) (v := ?v229) rfl rfl (by kernel_rfl) (by kernel_rfl) (by kernel_rfl) (fun _ _ _ h => h) (by kernel_rfl) ?hy229 (by assumption) ?rest229)
        case hy229 => (intro w9 hSw; first | (go_simp; done) | (go_simp; with_reducible rfl))
        (try simp only [Act.put, List.setIfInBounds_toArray, List.set_cons_zero, List.set_cons_succ])
        (refine wpAnyH_done (by kernel_rfl) ?_ _)
        have hc7 := HS.out.1.cell
        go_wp2
        exact bodyPost_ret (v := .tuple #[.agg (rqC nilS rq0), .int .i64 code, .int .i64 pl]) (by simp [results, Tryz.results11, go_sem, hc7, rq0, cell0]) rfl
          ⟨HBd.out.trans (HS.out.2.below HBd.out.size (fun k e => by omega)), by rw [HD.out]⟩
set_option maxHeartbeats 8000000 in
set_option maxRecDepth 100000 in
theorem doc_rq_none (A : Option Addr) (n c : Nat) (xs : List Int) (hk : (kindD xs).1 < 1 ∨ 7 < (kindD xs).1) (W : World) (hl : xs.length = n) (h : CellsAt W A (bvs xs)) (hw : ∀ x ∈ xs, (Lit.int .u8 x).wf = true) (hn : n ≤ 140737488355328) (hc : n ≤ c) :
    Calls Tryz.prog 11 #[.slice A n c] W (DocQ W (decRq xs)) := by
  have HR0 := Lib.hid (Blk.new W 29 #[.int .i64 0, .int .i64 0, .int .i64 0, .slice none 0 0, .int .i64 0, .string ⟨#[]⟩, .int .i64 0, .int .i64 0, .string ⟨#[]⟩, .int .i64 0, .int .i64 0])
  have bl0 := (Below.refl W.heap.size W).alloc (Nat.le_refl _) (.cells #[.int .i64 0, .int .i64 0, .int .i64 0, .slice none 0 0, .int .i64 0, .string ⟨#[]⟩, .int .i64 0, .int .i64 0, .string ⟨#[]⟩, .int .i64 0, .int .i64 0] 29)
  have hs1 : (W.alloc (.cells #[.int .i64 0, .int .i64 0, .int .i64 0, .slice none 0 0, .int .i64 0, .string ⟨#[]⟩, .int .i64 0, .int .i64 0, .string ⟨#[]⟩, .int .i64 0, .int .i64 0] 29)).heap.size = W.heap.size + 1 := by simp
  have CR := Lib.hid (dc_read A n c xs (W.alloc (.cells #[.int .i64 0, .int .i64 0, .int .i64 0, .slice none 0 0, .int .i64 0, .string ⟨#[]⟩, .int .i64 0, .int .i64 0, .string ⟨#[]⟩, .int .i64 0, .int .i64 0] 29)) hl (h.below bl0) hw hn hc)
  have HKN := Lib.hid hk
  have HAl := Lib.hid (show xs ≠ [] → ∀ ad, A = some ad → ad.block < W.heap.size from fun h0 ad e => by
    subst e
    obtain ⟨ad', e, h1, _⟩ := h 0 (by rw [bvs_len]; exact List.length_pos_iff.2 h0)
    cases e
    exact h1)
  have HBl := Lib.hid bl0
  clear h hw hn hk hc bl0
  go_enter Tryz.func11, Tryz.ntmps11
  go_wp2_with fail
  go_at_call 34; (with_reducible refine CR.out.mono ?_); rintro e w1 ⟨rfl, hr, hb⟩
  have HR1 := Lib.hid (HR0.out.kept hb)
  have HB1 := Lib.hid (HBl.out.trans (hb.mono (by simp)))
  have hw1 : W.heap.size + 1 ≤ w1.heap.size := hs1 ▸ hb.size
  rw [hs1] at hr ⊢
  have HX := Lib.hid (DxIs.start hr 29 #[.int .i64 0, .int .i64 0, .int .i64 0, .slice none 0 0, .int .i64 0, .string ⟨#[]⟩, .int .i64 0, .int .i64 0, .string ⟨#[]⟩, .int .i64 0, .int .i64 0] 27 3 (fun h0 ad e => by have := HAl.out h0 ad e; omega))
  have HR2 := Lib.hid ((HR1.out.alloc (.cells #[.pointer (some ⟨W.heap.size + 1, 0, none⟩)] 98)).alloc (.cells #[.int .i64 0, .int .i64 0, .int .i64 0, .slice none 0 0, .int .i64 0, .string ⟨#[]⟩, .int .i64 0, .int .i64 0, .string ⟨#[]⟩, .int .i64 0, .int .i64 0] 29))
  have HB2 := Lib.hid ((HB1.out.alloc (by omega) (.cells #[.pointer (some ⟨W.heap.size + 1, 0, none⟩)] 98)).alloc (by simp; omega) (.cells #[.int .i64 0, .int .i64 0, .int .i64 0, .slice none 0 0, .int .i64 0, .string ⟨#[]⟩, .int .i64 0, .int .i64 0, .string ⟨#[]⟩, .int .i64 0, .int .i64 0] 29))
  have hs2 : (w1.alloc (.cells #[.pointer (some ⟨W.heap.size + 1, 0, none⟩)] 98)).heap.size = w1.heap.size + 1 := by simp
  clear hr hb HR0 CR HAl HBl HB1 HR1 hs1
  go_wp2_with fail
  generalize hW0 : (w1.alloc (.cells #[.pointer (some ⟨W.heap.size + 1, 0, none⟩)] 98)).alloc (.cells #[.int .i64 0, .int .i64 0, .int .i64 0, .slice none 0 0, .int .i64 0, .string ⟨#[]⟩, .int .i64 0, .int .i64 0, .string ⟨#[]⟩, .int .i64 0, .int .i64 0] 29) = W0 at *
  have hRW : W.heap.size < w1.heap.size := by omega
  have hqW : W.heap.size < W.heap.size + 1 := by omega
  clear hW0 hs2
  generalize hq : W.heap.size + 1 = q at *
  generalize hj : w1.heap.size = j at *
  clear hj hq
  go_at_call 35; (with_reducible refine (show Calls Tryz.prog 35 #[.pointer (some ⟨j, 0, none⟩), .int .i64 7] W0 _ from lx_head HX.out.rd HX.out.lx HX.out.jq 7).mono ?_); rintro e w3 ⟨rfl, hr, hf⟩
  have HX3 := Lib.hid (HX.out.read hr hf)
  have HKD := Lib.hid (show kindD xs = numP xs M40 ⟨0, none⟩ from rfl)
  clear hr hf HX
  have HHD := Lib.hid (show headP xs (7 : Int) ⟨0, none⟩ = (kindD xs).2.fail 15 0 by
    unfold headP
    rw [HKD.out]
    have hk := HKN.out
    rw [HKD.out] at hk
    split
    · rfl
    · rename_i h
      rcases hf : (numP xs M40 ⟨0, none⟩).2.fault with _ | x
      · exact absurd ⟨hf, by omega⟩ h
      · rw [fail_same (by rw [hf]; rfl)])
  rw [show ((7 : Nat) : Int) = (7 : Int) from rfl] at HX3
  rw [HHD.out] at HX3
  simp only [show ((7 : Nat) : Int) = (7 : Int) from rfl, HHD.out]
  have HDEC0 := Lib.hid (show decRq xs = (rq0, ((kindD xs).2.fail 15 0).fault) by unfold decRq; rw [if_pos HKN.out])
  have HSF := Lib.hid (show ((kindD xs).2.fail 15 0).fault.isSome = true by
    rcases hf : ((kindD xs).2.fail 15 0).fault with _ | x
    · exact absurd hf (RS.fail_some (by decide))
    · rfl)
  have hst : numP xs M40 ((kindD xs).2.fail 15 0) = (0, (kindD xs).2.fail 15 0) := by
    have h2 := Stays.num xs _ HSF.out
    have h1 := numP_some (m := (numP xs M40 ((kindD xs).2.fail 15 0)).1) (s1 := (numP xs M40 ((kindD xs).2.fail 15 0)).2) rfl (by
      have h3 : (numP xs M40 ((kindD xs).2.fail 15 0)).2 = _ := h2
      rw [h3]
      exact HSF.out)
    exact Prod.ext h1 h2
  rw [hst] at HX3
  rw [hst]
  dsimp only at HX3 ⊢
  obtain ⟨kk, hkk⟩ : ∃ kk : Int, kk = ((numP xs M40 ⟨0, none⟩).1 : Int) := ⟨_, rfl⟩
  rw [← hkk]
  have hkb : kk < 1 ∨ (7 : Int) < kk := by have hk := HKN.out; rw [HKD.out] at hk; omega
  have d1 : (kk == 1) = false := by simp; omega
  have d2 : (kk == 2) = false := by simp; omega
  have d3 : (kk == 3) = false := by simp; omega
  have d4 : (kk == 4) = false := by simp; omega
  have d5 : (kk == 5) = false := by simp; omega
  have d7 : (kk == 7) = false := by simp; omega
  have e4 : (kk != 4) = true := by simp; omega
  have e7 : (kk != 7) = true := by simp; omega
  generalize hs7 : (kindD xs).2.fail 15 0 = s7 at *
  have HST := Lib.hid hst
  clear hkk hkb hst HHD HKD hs7 HKN
  rw [show (((0 : Nat) : Int)) = 0 from rfl]
  have hcb := HX3.out.blk.cell
  have hfb := HX3.out.blk.frozen
  have HX4 := Lib.hid (show DxIs W0 q j (j + 1) 29 A n c xs (rqC (.slice none 0 0) ⟨kk, 0, 0, [], cell0, cell0, 0⟩) s7 27 3 (.slice none 0 0) 0 [] ((w3.setCell ⟨j + 1, 0, none⟩ (.int .i64 kk)).setCell ⟨j + 1, 1, none⟩ (.int .i64 0)) from (HX3.out.put (cs1 := rqC (.slice none 0 0) ⟨kk, 0, 0, [], cell0, cell0, 0⟩) 0 (.int .i64 kk) rfl).put 1 (.int .i64 0) rfl)
  have l00 : w3.cell? ⟨j, 0, none⟩ = some (.pointer (some ⟨q, 0, none⟩)) := HX3.out.lx.cell 0
  clear HX3
  clear l00
  go_wp2_with fail
  generalize ((w3.setCell ⟨j + 1, 0, none⟩ (.int .i64 kk)).setCell ⟨j + 1, 1, none⟩ (.int .i64 0)) = wg5 at *
  go_at_call 36; (with_reducible refine (lx_num HX4.out.rd HX4.out.lx).mono ?_); rintro e wh5 ⟨rfl, hr, hf⟩
  have HN5 := Lib.hid (HX4.out.read hr hf)
  clear hr hf hcb hfb HX4
  generalize hnn : numP xs M40 s7 = y at *
  have HE5 := Lib.hid hnn
  clear hnn
  obtain ⟨ep0, s3⟩ := y
  dsimp only at HN5 HE5 ⊢
  have hcb := HN5.out.blk.cell
  have hfb := HN5.out.blk.frozen
  have HX5 := Lib.hid (HN5.out.put (cs1 := rqC (.slice none 0 0) ⟨kk, 0, (ep0 : Int), [], cell0, cell0, 0⟩) 2 (.int .i64 (ep0 : Int)) rfl)
  have he : (ep0, s3) = (0, s7) := HST.out
  injection he with he1 he2
  have he1 := he1.symm
  have he2 := he2.symm
  subst he1
  subst he2
  go_wp2_with fail
  generalize (wh5.setCell ⟨j + 1, 2, none⟩ (.int .i64 ((0 : Nat) : Int))) = wl at *
  go_loopw [8] (fun t8 wz => t8 = .int .i64 0 ∧ Hid (DxIs W0 q j (j + 1) 29 A n c xs (rqC (.slice none 0 0) ⟨kk, 0, ((0 : Nat) : Int), [], cell0, cell0, 0⟩) s7 27 3 (.slice none 0 0) 0 [] wz)) (fun _ _ => 0)
  case atStart => exact ⟨rfl, HX5⟩
  case round =>
    obtain ⟨rfl, HX7⟩ := hrel
    rename World => wz
    clear hcb hfb
    have l0 : wz.cell? ⟨j, 0, none⟩ = some (.pointer (some ⟨q, 0, none⟩)) := HX7.out.lx.cell 0
    go_wp2_with fail
    go_at_call 39; (with_reducible refine (dc_end HX7.out.rd).mono ?_); rintro e w8 ⟨rfl, hr, hf⟩
    have HX8 := Lib.hid (HX7.out.read hr hf)
    clear hr hf l0 HX7
    have l0 : w8.cell? ⟨j, 0, none⟩ = some (.pointer (some ⟨q, 0, none⟩)) := HX8.out.lx.cell 0
    have p2 : w8.cell? ⟨q, 2, none⟩ = some (.int .i64 (endP xs s7).err) := HX8.out.rd.blk.cell 2
    rcases hfl : (endP xs s7).fault with _ | ⟨code, pl⟩
    · exfalso
      have := endP_none2 hfl
      have h := HSF.out
      rw [this] at h
      cases h
    · have HD := Lib.hid (show decRq xs = (rq0, some (code, pl)) by
        have he := endP_stay (xs := xs) HSF.out
        rw [he] at hfl
        rw [HDEC0.out, hfl])
      have hne := HX8.out.rd.ok code pl hfl
      have hcode : (endP xs s7).err = code := by unfold RS.err; rw [hfl]
      have hpl : (endP xs s7).on = pl := by unfold RS.on; rw [hfl]
      rw [hcode] at p2
      have HQB := Lib.hid (show Blk w8 q 103 (DcC (.slice A n c) ((endP xs s7).pos : Int) code pl) by have h := HX8.out.rd.blk; rw [hcode, hpl] at h; exact h)
      have HLB := Lib.hid HX8.out.lx
      have HR8 := Lib.hid (HR2.out.tur HX8.out.tur (by omega))
      have HB8 := Lib.hid (HB2.out.trans (HX8.out.tur.below HB2.out.size (fun k e => by omega)))
      have hz : (code != 0) = true := by unfold bne; rw [hne]; rfl
      clear hcode hpl hne hfl HX8 HDEC0
      go_wp2_with fail
      clear l0 p2
      (refine wp_region_held_drew (S := fun w9 => LxB w9 j q ∧ Blk w9 q 103 (DcC (.slice A n c) ((endP xs s7).pos : Int) code pl)) (by kernel_rfl) ⟨HLB.out.drew, HQB.out.drew⟩ (fun hHeld => ?_))
      have HLd := Lib.hid HLB.out.drew
      have HQd := Lib.hid HQB.out.drew
      have HRd := Lib.hid HR8.out.drew
      have HBd := Lib.hid (HB8.out.trans (Below.refl _ _).drew)
      have hsz := HB8.out.size
      clear HLB HQB HR8 HB8
      generalize w8.drew = wd at *
      (refine take_q (i := 0) (d := 76) (v := ?v230) rfl rfl (by kernel_rfl) (by kernel_rfl) (by kernel_rfl) (fun _ _ _ h => h) (by kernel_rfl) ?hy230 (by assumption) ?rest230)
      case hy230 => (intro w9 hSw; first | (go_simp; done) | (go_simp; with_reducible rfl))
      (try simp only [Act.put, List.setIfInBounds_toArray, List.set_cons_zero, List.set_cons_succ])
      (refine take_q (i := 1) (d := 77) (v := ?v231) rfl rfl (by kernel_rfl) (by kernel_rfl) (by kernel_rfl) (fun _ _ _ h => h) (by kernel_rfl) ?hy231 (by assumption) ?rest231)
      case hy231 => (intro w9 hSw; first | (go_simp; done) | (go_simp; with_reducible rfl))
      (try simp only [Act.put, List.setIfInBounds_toArray, List.set_cons_zero, List.set_cons_succ])
      (refine take_q (i := 2) (d := 78) (v := ?v232) rfl rfl (by kernel_rfl) (by kernel_rfl) (by kernel_rfl) (fun _ _ _ h => h) (by kernel_rfl) ?hy232 (by assumption) ?rest232)
      case hy232 => (intro w9 hSw; first | (go_simp; done) | (go_simp; with_reducible rfl))
      (try simp only [Act.put, List.setIfInBounds_toArray, List.set_cons_zero, List.set_cons_succ])
      (refine take_q (i := 3) (d := 79) (v := ?v233) rfl rfl (by kernel_rfl) (by kernel_rfl) (by kernel_rfl) (fun _ _ _ h => h) (by kernel_rfl) ?hy233 (by assumption) ?rest233)
      case hy233 => (intro w9 hSw; first | (go_simp; done) | (go_simp; with_reducible rfl))
      (try simp only [Act.put, List.setIfInBounds_toArray, List.set_cons_zero, List.set_cons_succ])
      (refine take_q (i := 4) (d := 80) (v := ?v234) rfl rfl (by kernel_rfl) (by kernel_rfl) (by kernel_rfl) (fun _ _ _ h => h) (by kernel_rfl) ?hy234 (by assumption) ?rest234)
      case hy234 => (intro w9 hSw; have hc9 := Blk.cell hSw.1; clear hSw; first | (go_simp; done) | (go_simp; with_reducible rfl))
      (try simp only [Act.put, List.setIfInBounds_toArray, List.set_cons_zero, List.set_cons_succ])
      (refine take_q (i := 5) (d := 81) (v := ?v235) rfl rfl (by kernel_rfl) (by kernel_rfl) (by kernel_rfl) (fun _ _ _ h => h) (by kernel_rfl) ?hy235 (by assumption) ?rest235)
      case hy235 => (intro w9 hSw; first | (go_simp; done) | (go_simp; with_reducible rfl))
      (try simp only [Act.put, List.setIfInBounds_toArray, List.set_cons_zero, List.set_cons_succ])
      (refine take_q (i := 6) (d := 82) (v := ?v236) rfl rfl (by kernel_rfl) (by kernel_rfl) (by kernel_rfl) (fun _ _ _ h => h) (by kernel_rfl) ?hy236 (by assumption) ?rest236)
      case hy236 => (intro w9 hSw; first | (go_simp; done) | (go_simp; with_reducible rfl))
      (try simp only [Act.put, List.setIfInBounds_toArray, List.set_cons_zero, List.set_cons_succ])
      (refine take_q (i := 7) (d := 83) (v := ?v237) rfl rfl (by kernel_rfl) (by kernel_rfl) (by kernel_rfl) (fun _ _ _ h => h) (by kernel_rfl) ?hy237 (by assumption) ?rest237)
      case hy237 => (intro w9 hSw; have hc9 := Blk.cell hSw.2; clear hSw; first | (go_simp; done) | (go_simp; with_reducible rfl))
      (try simp only [Act.put, List.setIfInBounds_toArray, List.set_cons_zero, List.set_cons_succ])
      (refine take_q (i := 8) (d := 84) (v := ?v238) rfl rfl (by kernel_rfl) (by kernel_rfl) (by kernel_rfl) (fun _ _ _ h => h) (by kernel_rfl) ?hy238 (by assumption) ?rest238)
      case hy238 => (intro w9 hSw; first | (go_simp; done) | (go_simp; with_reducible rfl))
      (try simp only [Act.put, List.setIfInBounds_toArray, List.set_cons_zero, List.set_cons_succ])
      (refine take_q (i := 9) (d := 85) (v := ?v239) rfl rfl (by kernel_rfl) (by kernel_rfl) (by kernel_rfl) (fun _ _ _ h => h) (by kernel_rfl) ?hy239 (by assumption) ?rest239)
      case hy239 => (intro w9 hSw; first | (go_simp; done) | (go_simp; with_reducible rfl))
      (try simp only [Act.put, List.setIfInBounds_toArray, List.set_cons_zero, List.set_cons_succ])
      (refine take_q (i := 10) (d := 86) (v := ?v240) rfl rfl (by kernel_rfl) (by kernel_rfl) (by kernel_rfl) (fun _ _ _ h => h) (by kernel_rfl) ?hy240 (by assumption) ?rest240)
      case hy240 => (intro w9 hSw; first | (go_simp; done) | (go_simp; with_reducible rfl))
      (try simp only [Act.put, List.setIfInBounds_toArray, List.set_cons_zero, List.set_cons_succ])
      (refine take_q (i := 11) (d := 87) (v := ?v241) rfl rfl (by kernel_rfl) (by kernel_rfl) (by kernel_rfl) (fun _ _ _ h => h) (by kernel_rfl) ?hy241 (by assumption) ?rest241)
      case hy241 => (intro w9 hSw; have hc9 := Blk.cell hSw.1; clear hSw; first | (go_simp; done) | (go_simp; with_reducible rfl))
      (try simp only [Act.put, List.setIfInBounds_toArray, List.set_cons_zero, List.set_cons_succ])
      (refine take_q (i := 12) (d := 88) (v := ?v242) rfl rfl (by kernel_rfl) (by kernel_rfl) (by kernel_rfl) (fun _ _ _ h => h) (by kernel_rfl) ?hy242 (by assumption) ?rest242)
      case hy242 => (intro w9 hSw; first | (go_simp; done) | (go_simp; with_reducible rfl))
      (try simp only [Act.put, List.setIfInBounds_toArray, List.set_cons_zero, List.set_cons_succ])
      (refine take_q (i := 13) (d := 89) (v := ?v243) rfl rfl (by kernel_rfl) (by kernel_rfl) (by kernel_rfl) (fun _ _ _ h => h) (by kernel_rfl) ?hy243 (by assumption) ?rest243)
      case hy243 => (intro w9 hSw; first | (go_simp; done) | (go_simp; with_reducible rfl))
      (try simp only [Act.put, List.setIfInBounds_toArray, List.set_cons_zero, List.set_cons_succ])
      (refine take_q (i := 14) (d := 90) (v := ?v244) rfl rfl (by kernel_rfl) (by kernel_rfl) (by kernel_rfl) (fun _ _ _ h => h) (by kernel_rfl) ?hy244 (by assumption) ?rest244)
      case hy244 => (intro w9 hSw; have hc9 := Blk.cell hSw.2; clear hSw; first | (go_simp; done) | (go_simp; with_reducible rfl))
      (try simp only [Act.put, List.setIfInBounds_toArray, List.set_cons_zero, List.set_cons_succ])
      have hfR := HRd.out.frozen
      have hcR := HRd.out.cell
      have HS := Lib.hid (set11 HRd.out (.int .i64 0) (.int .i64 0) (.int .i64 0) (.slice none 0 0) (.int .i64 0) (.string ⟨#[]⟩) (.int .i64 0) (.int .i64 0) (.string ⟨#[]⟩) (.int .i64 0) (.int .i64 0))
      (refine wpAnyH_ready (rs := [15]) (by kernel_rfl) (by simp) ?_)
      (refine AllReadyH.cons (o := _) rfl (fun K hK => ?_) AllReadyH.nil)
      go_simp
      generalize (World.setCell (World.setCell (World.setCell (World.setCell (World.setCell (World.setCell (World.setCell (World.setCell (World.setCell (World.setCell (World.setCell wd ⟨W.heap.size, 0, none⟩ (.int .i64 0)) ⟨W.heap.size, 1, none⟩ (.int .i64 0)) ⟨W.heap.size, 2, none⟩ (.int .i64 0)) ⟨W.heap.size, 3, none⟩ (.slice none 0 0)) ⟨W.heap.size, 4, none⟩ (.int .i64 0)) ⟨W.heap.size, 5, none⟩ (.string ⟨#[]⟩)) ⟨W.heap.size, 6, none⟩ (.int .i64 0)) ⟨W.heap.size, 7, none⟩ (.int .i64 0)) ⟨W.heap.size, 8, none⟩ (.string ⟨#[]⟩)) ⟨W.heap.size, 9, none⟩ (.int .i64 0)) ⟨W.heap.size, 10, none⟩ (.int .i64 0)) = wC at HS ⊢
      (refine hK.out _ _ ⟨HLd.out.tur HS.out.2 (by omega), HQd.out.tur HS.out.2 (by omega)⟩ (fun hHeld => ?_))
      clear hK K
      (refine take_q (i := 16) (d := 3) (v := ?v245) rfl rfl (by kernel_rfl) (by kernel_rfl) (by kernel_rfl) (fun _ _ _ h => h) (by kernel_rfl) ?hy245 (by assumption) ?rest245)
      case hy245 => (intro w9 hSw; first | (go_simp; done) | (go_simp; with_reducible rfl))
      (try simp only [Act.put, List.setIfInBounds_toArray, List.set_cons_zero, List.set_cons_succ])
      (refine take_q (i := 17) (d := 4) (v := ?v246) rfl rfl (by kernel_rfl) (by kernel_rfl) (by kernel_rfl) (fun _ _ _ h => h) (by kernel_rfl) ?hy246 (by assumption) ?rest246)
      case hy246 => (intro w9 hSw; first | (go_simp; done) | (go_simp; with_reducible rfl))
      (try simp only [Act.put, List.setIfInBounds_toArray, List.set_cons_zero, List.set_cons_succ])
      (refine wpAnyH_done (by kernel_rfl) ?_ _)
      have hc7 := HS.out.1.cell
      go_wp2
      exact bodyPost_ret (v := .tuple #[.agg (rqC nilS rq0), .int .i64 code, .int .i64 pl]) (by simp [results, Tryz.results11, go_sem, hc7, rq0, cell0]) rfl
        ⟨HBd.out.trans (HS.out.2.below HBd.out.size (fun k e => by omega)), by rw [HD.out]⟩
theorem doc_rq (A : Option Addr) (n c : Nat) (xs : List Int) (W : World) (hl : xs.length = n) (h : CellsAt W A (bvs xs)) (hw : ∀ x ∈ xs, (Lit.int .u8 x).wf = true) (hn : n ≤ 140737488355328) (hc : n ≤ c) :
    Calls Tryz.prog 11 #[.slice A n c] W (DocQ W (decRq xs)) := by
  obtain k | k | k | k | k | k | k | k : ((kindD xs).1 < 1 ∨ 7 < (kindD xs).1) ∨ (kindD xs).1 = 1 ∨ (kindD xs).1 = 2 ∨ (kindD xs).1 = 3 ∨ (kindD xs).1 = 4 ∨ (kindD xs).1 = 5 ∨ (kindD xs).1 = 6 ∨ (kindD xs).1 = 7 := by omega
  · exact doc_rq_none A n c xs k W hl h hw hn hc
  · exact doc_rq_get A n c xs k W hl h hw hn hc
  · exact doc_rq_many A n c xs k W hl h hw hn hc
  · exact doc_rq_scan A n c xs k W hl h hw hn hc
  · exact doc_rq_pin A n c xs k W hl h hw hn hc
  · exact doc_rq_join A n c xs k W hl h hw hn hc
  · exact doc_rq_rel A n c xs k W hl h hw hn hc
  · exact doc_rq_stats A n c xs k W hl h hw hn hc
end Go.Proofs.YteffpfgdoganpaaGreatDoor
