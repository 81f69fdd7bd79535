/- The document's DecodeRequest: the walk. -/
import Derived.Test.YteffpfgdoganpaaGreatDoorZDoc
import Derived.Test.YteffpfgdoganpaaGreatDoorCDecKs
import Derived.Test.YteffpfgdoganpaaGreatDoorCRCheckRq
namespace Go.Proofs.YteffpfgdoganpaaGreatDoor
open Go.RowKit

theorem endP_none2 {xs : List Int} {s : RS} (h : (endP xs s).fault = none) : s.fault = none := by
  rcases hf : s.fault with _ | x
  · rfl
  · exfalso
    unfold endP at h
    split at h
    · rw [fail_same (by rw [hf]; rfl)] at h
      rw [hf] at h; cases h
    · rw [hf] at h; cases h
theorem CellsOwn.rd_ {W : World} {B : Nat} {A : Option Addr} {n c : Nat} {cs : List CellV} (h : CellsOwn W B (.slice A n c) cs) : CellsRd W A cs ∧ n ≤ 9223372036854775807 := by
  obtain ⟨A', c', e, hr, _⟩ := CellsOwn.rd h
  injection e with e1 e2 e3
  subst e1
  refine ⟨hr, ?_⟩
  have := CellsOwn.le h
  omega
theorem own_low {W W1 : World} {B B' : Nat} {v : Value} {E : TypeId} {sz m : Nat} {ys : List Value} {S : Nat → Prop} (h : W.ownsRow B E sz v m ys) (ht : Tur S W W1) (hS : ∀ k, S k → k < B) (hB : B' ≤ B) : W1.ownsRow B' E sz v m ys := by
  have h2 := ownsRow_tur h ht (fun k e hs => by have := hS k hs; have := (h.lt k e).1; omega)
  refine ⟨h2.1, ?_⟩
  rcases h2.2 with h3 | ⟨g, cap, cur, e, hg, r⟩
  · exact .inl h3
  · exact .inr ⟨g, cap, cur, e, Nat.le_trans hB hg, r⟩
set_option maxHeartbeats 8000000 in
set_option maxRecDepth 100000 in
theorem doc_rq_pin (A : Option Addr) (n c : Nat) (xs : List Int) (hk : (kindD xs).1 = 4) (W : World) (hl : xs.length = n) (h : CellsAt W A (bvs xs)) (hw : ∀ x ∈ xs, (Lit.int .u8 x).wf = true) (hn : n ≤ 140737488355328) (hc : n ≤ c) :
    Calls Tryz.prog 11 #[.slice A n c] W (DocQ W (decRq xs)) := by
  have HR0 := Lib.hid (Blk.new W 29 #[.int .i64 0, .int .i64 0, .int .i64 0, .slice none 0 0, .int .i64 0, .string ⟨#[]⟩, .int .i64 0, .int .i64 0, .string ⟨#[]⟩, .int .i64 0, .int .i64 0])
  have bl0 := (Below.refl W.heap.size W).alloc (Nat.le_refl _) (.cells #[.int .i64 0, .int .i64 0, .int .i64 0, .slice none 0 0, .int .i64 0, .string ⟨#[]⟩, .int .i64 0, .int .i64 0, .string ⟨#[]⟩, .int .i64 0, .int .i64 0] 29)
  have hs1 : (W.alloc (.cells #[.int .i64 0, .int .i64 0, .int .i64 0, .slice none 0 0, .int .i64 0, .string ⟨#[]⟩, .int .i64 0, .int .i64 0, .string ⟨#[]⟩, .int .i64 0, .int .i64 0] 29)).heap.size = W.heap.size + 1 := by simp
  have CR := Lib.hid (dc_read A n c xs (W.alloc (.cells #[.int .i64 0, .int .i64 0, .int .i64 0, .slice none 0 0, .int .i64 0, .string ⟨#[]⟩, .int .i64 0, .int .i64 0, .string ⟨#[]⟩, .int .i64 0, .int .i64 0] 29)) hl (h.below bl0) hw hn hc)
  have HKN := Lib.hid hk
  have HAl := Lib.hid (show xs ≠ [] → ∀ ad, A = some ad → ad.block < W.heap.size from fun h0 ad e => by
    subst e
    obtain ⟨ad', e, h1, _⟩ := h 0 (by rw [bvs_len]; exact List.length_pos_iff.2 h0)
    cases e
    exact h1)
  have HBl := Lib.hid bl0
  clear h hw hn hk hc bl0
  go_enter Tryz.func11, Tryz.ntmps11
  go_wp2_with fail
  go_at_call 34; (with_reducible refine CR.out.mono ?_); rintro e w1 ⟨rfl, hr, hb⟩
  have HR1 := Lib.hid (HR0.out.kept hb)
  have HB1 := Lib.hid (HBl.out.trans (hb.mono (by simp)))
  have hw1 : W.heap.size + 1 ≤ w1.heap.size := hs1 ▸ hb.size
  rw [hs1] at hr ⊢
  have HX := Lib.hid (DxIs.start hr 29 #[.int .i64 0, .int .i64 0, .int .i64 0, .slice none 0 0, .int .i64 0, .string ⟨#[]⟩, .int .i64 0, .int .i64 0, .string ⟨#[]⟩, .int .i64 0, .int .i64 0] 27 3 (fun h0 ad e => by have := HAl.out h0 ad e; omega))
  have HR2 := Lib.hid ((HR1.out.alloc (.cells #[.pointer (some ⟨W.heap.size + 1, 0, none⟩)] 98)).alloc (.cells #[.int .i64 0, .int .i64 0, .int .i64 0, .slice none 0 0, .int .i64 0, .string ⟨#[]⟩, .int .i64 0, .int .i64 0, .string ⟨#[]⟩, .int .i64 0, .int .i64 0] 29))
  have HB2 := Lib.hid ((HB1.out.alloc (by omega) (.cells #[.pointer (some ⟨W.heap.size + 1, 0, none⟩)] 98)).alloc (by simp; omega) (.cells #[.int .i64 0, .int .i64 0, .int .i64 0, .slice none 0 0, .int .i64 0, .string ⟨#[]⟩, .int .i64 0, .int .i64 0, .string ⟨#[]⟩, .int .i64 0, .int .i64 0] 29))
  have hs2 : (w1.alloc (.cells #[.pointer (some ⟨W.heap.size + 1, 0, none⟩)] 98)).heap.size = w1.heap.size + 1 := by simp
  clear hr hb HR0 CR HAl HBl HB1 HR1 hs1
  go_wp2_with fail
  generalize hW0 : (w1.alloc (.cells #[.pointer (some ⟨W.heap.size + 1, 0, none⟩)] 98)).alloc (.cells #[.int .i64 0, .int .i64 0, .int .i64 0, .slice none 0 0, .int .i64 0, .string ⟨#[]⟩, .int .i64 0, .int .i64 0, .string ⟨#[]⟩, .int .i64 0, .int .i64 0] 29) = W0 at *
  have hRW : W.heap.size < w1.heap.size := by omega
  have hqW : W.heap.size < W.heap.size + 1 := by omega
  clear hW0 hs2
  generalize hq : W.heap.size + 1 = q at *
  generalize hj : w1.heap.size = j at *
  clear hj hq
  go_at_call 35; (with_reducible refine (show Calls Tryz.prog 35 #[.pointer (some ⟨j, 0, none⟩), .int .i64 7] W0 _ from lx_head HX.out.rd HX.out.lx HX.out.jq 7).mono ?_); rintro e w3 ⟨rfl, hr, hf⟩
  have HX3 := Lib.hid (HX.out.read hr hf)
  have HKD := Lib.hid (show kindD xs = numP xs M40 ⟨0, none⟩ from rfl)
  clear hr hf HX
  have HHD := Lib.hid (show headP xs (7 : Int) ⟨0, none⟩ = (numP xs M40 ⟨0, none⟩).2 by
    unfold headP
    rw [if_neg]
    rintro ⟨_, h⟩
    have hk := HKN.out
    rw [HKD.out] at hk
    omega)
  rw [show ((7 : Nat) : Int) = (7 : Int) from rfl] at HX3
  rw [HHD.out] at HX3
  simp only [show ((7 : Nat) : Int) = (7 : Int) from rfl, HHD.out]
  rw [HKD.out] at HKN
  clear HHD
  generalize hyd : numP xs M40 ⟨0, none⟩ = y at *
  clear hyd
  obtain ⟨k0, s1⟩ := y
  dsimp only at HX3 HKN HKD ⊢
  generalize hid : numP xs M40 s1 = y at *
  have HID := Lib.hid hid
  clear hid
  obtain ⟨id0, s2⟩ := y
  dsimp only at HX3 HID ⊢
  have hk1 : k0 = 4 := HKN.out
  subst hk1
  simp only [show ((4 : Nat) : Int) = (4 : Int) from rfl]
  have hcb := HX3.out.blk.cell
  have hfb := HX3.out.blk.frozen
  have HX4 := Lib.hid (show DxIs W0 q j (j + 1) 29 A n c xs (rqC (.slice none 0 0) ⟨4, (id0 : Int), 0, [], cell0, cell0, 0⟩) s2 27 3 (.slice none 0 0) 0 [] ((w3.setCell ⟨j + 1, 0, none⟩ (.int .i64 4)).setCell ⟨j + 1, 1, none⟩ (.int .i64 (id0 : Int))) from (HX3.out.put (cs1 := rqC (.slice none 0 0) ⟨4, 0, 0, [], cell0, cell0, 0⟩) 0 (.int .i64 4) rfl).put 1 (.int .i64 (id0 : Int)) rfl)
  clear HX3
  have HRD := Lib.hid (show readD xs = ((⟨4, (id0 : Int), 0, [], cell0, cell0, 0⟩ : Rq), s2) by
    unfold readD bodyD
    rw [HKD.out]
    simp [HID.out])
  go_wp2_with fail
  generalize ((w3.setCell ⟨j + 1, 0, none⟩ (.int .i64 4)).setCell ⟨j + 1, 1, none⟩ (.int .i64 (id0 : Int))) = wl at *
  go_loopw [8] (fun t8 wz => t8 = .int .i64 0 ∧ Hid (DxIs W0 q j (j + 1) 29 A n c xs (rqC (.slice none 0 0) ⟨4, (id0 : Int), 0, [], cell0, cell0, 0⟩) s2 27 3 (.slice none 0 0) 0 [] wz)) (fun _ _ => 0)
  case atStart => exact ⟨rfl, HX4⟩
  case round =>
    obtain ⟨rfl, HP⟩ := hrel
    rename World => wz
    clear hcb hfb
    obtain ⟨r0, hr0⟩ : ∃ r0 : Rq, r0 = ⟨4, (id0 : Int), 0, [], cell0, cell0, 0⟩ := ⟨_, rfl⟩
    obtain ⟨vz, hv0⟩ : ∃ vz : Value, vz = .slice none 0 0 := ⟨_, rfl⟩
    have HX7 := Lib.hid (show DxIs W0 q j (j + 1) 29 A n c xs (rqC vz r0) (readD xs).2 27 3 vz r0.cs.length (cellCs r0.cs) wz by
      rw [hv0, hr0, HRD.out]
      exact HP.out)
    have HRE := Lib.hid (show (readD xs).2.fault = none → r0 = (readD xs).1 from fun _ => by rw [hr0, HRD.out])
    clear hr0 HP hv0
    have HDEC := Lib.hid (show decRq xs = if (checkD (checkRq (readD xs).1) (endP xs (readD xs).2)).fault.isSome then (rq0, (checkD (checkRq (readD xs).1) (endP xs (readD xs).2)).fault) else ((readD xs).1, none) by
      unfold decRq
      rw [if_neg (by rw [HKD.out]; dsimp only; omega)])
    have HOK := Lib.hid (readD_ok xs)
    generalize readD xs = y at *
    obtain ⟨r', s7⟩ := y
    dsimp only at HX7 HRE HDEC HOK
    have l0 : wz.cell? ⟨j, 0, none⟩ = some (.pointer (some ⟨q, 0, none⟩)) := HX7.out.lx.cell 0
    go_wp2_with fail
    go_at_call 39; (with_reducible refine (dc_end HX7.out.rd).mono ?_); rintro e w8 ⟨rfl, hr, hf⟩
    have HX8 := Lib.hid (HX7.out.read hr hf)
    clear hr hf l0 HX7
    have l0 : w8.cell? ⟨j, 0, none⟩ = some (.pointer (some ⟨q, 0, none⟩)) := HX8.out.lx.cell 0
    have p2 : w8.cell? ⟨q, 2, none⟩ = some (.int .i64 (endP xs s7).err) := HX8.out.rd.blk.cell 2
    rcases hfl : (endP xs s7).fault with _ | ⟨code, pl⟩
    · have hre := HRE.out (endP_none2 hfl)
      subst hre
      rw [(DocIs.err_no hfl).1] at p2
      obtain ⟨As, cz, hvz⟩ := own_form3 HX8.out.own
      subst hvz
      have HCR := Lib.hid (CellsOwn.rd_ (show CellsOwn w8 W0.heap.size (.slice As r0.cs.length cz) r0.cs from HX8.out.own))
      have hcb := HX8.out.blk.cell
      go_wp2_with fail
      go_at_call 40; (with_reducible refine (rcheck_rq As _ cz r0 w8 rfl HCR.out.1 HCR.out.2 HOK.out).mono ?_); rintro e w9 ⟨rfl, hb9⟩
      have HX9 := Lib.hid (HX8.out.kept hb9)
      have HR9 := Lib.hid (HR2.out.tur HX9.out.tur (by omega))
      have HB9 := Lib.hid (HB2.out.trans (HX9.out.tur.below HB2.out.size (fun k e => by omega)))
      clear hb9 hcb l0 p2 HX8
      have hfR := HR9.out.frozen
      have hcR := HR9.out.cell
      by_cases hck : checkRq r0 = 0
      · have HD := Lib.hid (show decRq xs = (r0, none) by
          rw [HDEC.out]
          unfold checkD
          rw [hfl, hck]
          simp [RS.fail, hfl])
        rw [hck]
        have hcb := HX9.out.blk.cell
        have HS := Lib.hid (set11 HR9.out (.int .i64 r0.kind) (.int .i64 r0.id) (.int .i64 r0.epoch) (.slice As r0.cs.length cz) (.int .i64 r0.frm.view) (.string r0.frm.key) (.int .i64 r0.frm.start) (.int .i64 r0.too.view) (.string r0.too.key) (.int .i64 r0.too.start) (.int .i64 r0.limit))
        go_wp2
        generalize (World.setCell (World.setCell (World.setCell (World.setCell (World.setCell (World.setCell (World.setCell (World.setCell (World.setCell (World.setCell (World.setCell w9 ⟨W.heap.size, 0, none⟩ (.int .i64 r0.kind)) ⟨W.heap.size, 1, none⟩ (.int .i64 r0.id)) ⟨W.heap.size, 2, none⟩ (.int .i64 r0.epoch)) ⟨W.heap.size, 3, none⟩ (.slice As r0.cs.length cz)) ⟨W.heap.size, 4, none⟩ (.int .i64 r0.frm.view)) ⟨W.heap.size, 5, none⟩ (.string r0.frm.key)) ⟨W.heap.size, 6, none⟩ (.int .i64 r0.frm.start)) ⟨W.heap.size, 7, none⟩ (.int .i64 r0.too.view)) ⟨W.heap.size, 8, none⟩ (.string r0.too.key)) ⟨W.heap.size, 9, none⟩ (.int .i64 r0.too.start)) ⟨W.heap.size, 10, none⟩ (.int .i64 r0.limit)) = wC at HS ⊢
        have hc7 := HS.out.1.cell
        exact bodyPost_ret (v := .tuple #[.agg (rqC (.slice As r0.cs.length cz) r0), .int .i64 0, .int .i64 0]) (by simp [results, Tryz.results11, go_sem, hc7]) rfl
          ⟨HB9.out.trans (HS.out.2.below HB9.out.size (fun k e => by omega)), by rw [HD.out]; exact ⟨_, rfl, own_low (show CellsOwn w9 W0.heap.size (.slice As r0.cs.length cz) r0.cs from HX9.out.own) HS.out.2 (fun k e => by subst e; have := HX9.out.jl; omega) (by have := HX9.out.jl; omega)⟩⟩
      · have HD := Lib.hid (show decRq xs = (rq0, some (checkRq r0, 0)) by
          rw [HDEC.out]
          unfold checkD
          rw [hfl]
          simp [RS.fail, hfl, hck])
        have hz : (checkRq r0 != 0) = true := by simpa using hck
        have HS := Lib.hid (set11 HR9.out (.int .i64 0) (.int .i64 0) (.int .i64 0) (.slice none 0 0) (.int .i64 0) (.string ⟨#[]⟩) (.int .i64 0) (.int .i64 0) (.string ⟨#[]⟩) (.int .i64 0) (.int .i64 0))
        go_wp2
        generalize (World.setCell (World.setCell (World.setCell (World.setCell (World.setCell (World.setCell (World.setCell (World.setCell (World.setCell (World.setCell (World.setCell w9 ⟨W.heap.size, 0, none⟩ (.int .i64 0)) ⟨W.heap.size, 1, none⟩ (.int .i64 0)) ⟨W.heap.size, 2, none⟩ (.int .i64 0)) ⟨W.heap.size, 3, none⟩ (.slice none 0 0)) ⟨W.heap.size, 4, none⟩ (.int .i64 0)) ⟨W.heap.size, 5, none⟩ (.string ⟨#[]⟩)) ⟨W.heap.size, 6, none⟩ (.int .i64 0)) ⟨W.heap.size, 7, none⟩ (.int .i64 0)) ⟨W.heap.size, 8, none⟩ (.string ⟨#[]⟩)) ⟨W.heap.size, 9, none⟩ (.int .i64 0)) ⟨W.heap.size, 10, none⟩ (.int .i64 0)) = wC at HS ⊢
        have hc7 := HS.out.1.cell
        exact bodyPost_ret (v := .tuple #[.agg (rqC nilS rq0), .int .i64 (checkRq r0), .int .i64 0]) (by simp [results, Tryz.results11, go_sem, hc7, rq0, cell0]) rfl
          ⟨HB9.out.trans (HS.out.2.below HB9.out.size (fun k e => by omega)), by rw [HD.out]⟩
    · have HD := Lib.hid (show decRq xs = (rq0, some (code, pl)) by rw [HDEC.out]; unfold checkD; simp [hfl])
      have hne := HX8.out.rd.ok code pl hfl
      have hcode : (endP xs s7).err = code := by unfold RS.err; rw [hfl]
      have hpl : (endP xs s7).on = pl := by unfold RS.on; rw [hfl]
      rw [hcode] at p2
      have HQB := Lib.hid (show Blk w8 q 103 (DcC (.slice A n c) ((endP xs s7).pos : Int) code pl) by have h := HX8.out.rd.blk; rw [hcode, hpl] at h; exact h)
      have HLB := Lib.hid HX8.out.lx
      have HR8 := Lib.hid (HR2.out.tur HX8.out.tur (by omega))
      have HB8 := Lib.hid (HB2.out.trans (HX8.out.tur.below HB2.out.size (fun k e => by omega)))
      have hz : (code != 0) = true := by unfold bne; rw [hne]; rfl
      clear hcode hpl hne hfl HX8 HDEC HRE
      go_wp2_with fail
      clear l0 p2
      (refine wp_region_held_drew (S := fun w9 => LxB w9 j q ∧ Blk w9 q 103 (DcC (.slice A n c) ((endP xs s7).pos : Int) code pl)) (by kernel_rfl) ⟨HLB.out.drew, HQB.out.drew⟩ (fun hHeld => ?_))
      have HLd := Lib.hid HLB.out.drew
      have HQd := Lib.hid HQB.out.drew
      have HRd := Lib.hid HR8.out.drew
      have HBd := Lib.hid (HB8.out.trans (Below.refl _ _).drew)
      have hsz := HB8.out.size
      clear HLB HQB HR8 HB8
      generalize w8.drew = wd at *
      (refine take_q (i := 0) (d := 76) (v := ?v101) rfl rfl (by kernel_rfl) (by kernel_rfl) (by kernel_rfl) (fun _ _ _ h => h) (by kernel_rfl) ?hy101 (by assumption) ?rest101)
      case hy101 => (intro w9 hSw; first | (go_simp; done) | (go_simp; with_reducible rfl))
      (try simp only [Act.put, List.setIfInBounds_toArray, List.set_cons_zero, List.set_cons_succ])
      (refine take_q (i := 1) (d := 77) (v := ?v102) rfl rfl (by kernel_rfl) (by kernel_rfl) (by kernel_rfl) (fun _ _ _ h => h) (by kernel_rfl) ?hy102 (by assumption) ?rest102)
      case hy102 => (intro w9 hSw; first | (go_simp; done) | (go_simp; with_reducible rfl))
      (try simp only [Act.put, List.setIfInBounds_toArray, List.set_cons_zero, List.set_cons_succ])
      (refine take_q (i := 2) (d := 78) (v := ?v103) rfl rfl (by kernel_rfl) (by kernel_rfl) (by kernel_rfl) (fun _ _ _ h => h) (by kernel_rfl) ?hy103 (by assumption) ?rest103)
      case hy103 => (intro w9 hSw; first | (go_simp; done) | (go_simp; with_reducible rfl))
      (try simp only [Act.put, List.setIfInBounds_toArray, List.set_cons_zero, List.set_cons_succ])
      (refine take_q (i := 3) (d := 79) (v := ?v104) rfl rfl (by kernel_rfl) (by kernel_rfl) (by kernel_rfl) (fun _ _ _ h => h) (by kernel_rfl) ?hy104 (by assumption) ?rest104)
      case hy104 => (intro w9 hSw; first | (go_simp; done) | (go_simp; with_reducible rfl))
      (try simp only [Act.put, List.setIfInBounds_toArray, List.set_cons_zero, List.set_cons_succ])
      (refine take_q (i := 4) (d := 80) (v := ?v105) rfl rfl (by kernel_rfl) (by kernel_rfl) (by kernel_rfl) (fun _ _ _ h => h) (by kernel_rfl) ?hy105 (by assumption) ?rest105)
      case hy105 => (intro w9 hSw; have hc9 := Blk.cell hSw.1; clear hSw; first | (go_simp; done) | (go_simp; with_reducible rfl))
      (try simp only [Act.put, List.setIfInBounds_toArray, List.set_cons_zero, List.set_cons_succ])
      (refine take_q (i := 5) (d := 81) (v := ?v106) rfl rfl (by kernel_rfl) (by kernel_rfl) (by kernel_rfl) (fun _ _ _ h => h) (by kernel_rfl) ?hy106 (by assumption) ?rest106)
      case hy106 => (intro w9 hSw; first | (go_simp; done) | (go_simp; with_reducible rfl))
      (try simp only [Act.put, List.setIfInBounds_toArray, List.set_cons_zero, List.set_cons_succ])
      (refine take_q (i := 6) (d := 82) (v := ?v107) rfl rfl (by kernel_rfl) (by kernel_rfl) (by kernel_rfl) (fun _ _ _ h => h) (by kernel_rfl) ?hy107 (by assumption) ?rest107)
      case hy107 => (intro w9 hSw; first | (go_simp; done) | (go_simp; with_reducible rfl))
      (try simp only [Act.put, List.setIfInBounds_toArray, List.set_cons_zero, List.set_cons_succ])
      (refine take_q (i := 7) (d := 83) (v := ?v108) rfl rfl (by kernel_rfl) (by kernel_rfl) (by kernel_rfl) (fun _ _ _ h => h) (by kernel_rfl) ?hy108 (by assumption) ?rest108)
      case hy108 => (intro w9 hSw; have hc9 := Blk.cell hSw.2; clear hSw; first | (go_simp; done) | (go_simp; with_reducible rfl))
      (try simp only [Act.put, List.setIfInBounds_toArray, List.set_cons_zero, List.set_cons_succ])
      (refine take_q (i := 8) (d := 84) (v := ?v109) rfl rfl (by kernel_rfl) (by kernel_rfl) (by kernel_rfl) (fun _ _ _ h => h) (by kernel_rfl) ?hy109 (by assumption) ?rest109)
      case hy109 => (intro w9 hSw; first | (go_simp; done) | (go_simp; with_reducible rfl))
      (try simp only [Act.put, List.setIfInBounds_toArray, List.set_cons_zero, List.set_cons_succ])
      (refine take_q (i := 9) (d := 85) (v := ?v110) rfl rfl (by kernel_rfl) (by kernel_rfl) (by kernel_rfl) (fun _ _ _ h => h) (by kernel_rfl) ?hy110 (by assumption) ?rest110)
      case hy110 => (intro w9 hSw; first | (go_simp; done) | (go_simp; with_reducible rfl))
      (try simp only [Act.put, List.setIfInBounds_toArray, List.set_cons_zero, List.set_cons_succ])
      (refine take_q (i := 10) (d := 86) (v := ?v111) rfl rfl (by kernel_rfl) (by kernel_rfl) (by kernel_rfl) (fun _ _ _ h => h) (by kernel_rfl) ?hy111 (by assumption) ?rest111)
      case hy111 => (intro w9 hSw; first | (go_simp; done) | (go_simp; with_reducible rfl))
      (try simp only [Act.put, List.setIfInBounds_toArray, List.set_cons_zero, List.set_cons_succ])
      (refine take_q (i := 11) (d := 87) (v := ?v112) rfl rfl (by kernel_rfl) (by kernel_rfl) (by kernel_rfl) (fun _ _ _ h => h) (by kernel_rfl) ?hy112 (by assumption) ?rest112)
      case hy112 => (intro w9 hSw; have hc9 := Blk.cell hSw.1; clear hSw; first | (go_simp; done) | (go_simp; with_reducible rfl))
      (try simp only [Act.put, List.setIfInBounds_toArray, List.set_cons_zero, List.set_cons_succ])
      (refine take_q (i := 12) (d := 88) (v := ?v113) rfl rfl (by kernel_rfl) (by kernel_rfl) (by kernel_rfl) (fun _ _ _ h => h) (by kernel_rfl) ?hy113 (by assumption) ?rest113)
      case hy113 => (intro w9 hSw; first | (go_simp; done) | (go_simp; with_reducible rfl))
      (try simp only [Act.put, List.setIfInBounds_toArray, List.set_cons_zero, List.set_cons_succ])
      (refine take_q (i := 13) (d := 89) (v := ?v114) rfl rfl (by kernel_rfl) (by kernel_rfl) (by kernel_rfl) (fun _ _ _ h => h) (by kernel_rfl) ?hy114 (by assumption) ?rest114)
      case hy114 => (intro w9 hSw; first | (go_simp; done) | (go_simp; with_reducible rfl))
      (try simp only [Act.put, List.setIfInBounds_toArray, List.set_cons_zero, List.set_cons_succ])
      (refine take_q (i := 14) (d := 90) (v := ?v115) rfl rfl (by kernel_rfl) (by kernel_rfl) (by kernel_rfl) (fun _ _ _ h => h) (by kernel_rfl) ?hy115 (by assumption) ?rest115)
      case hy115 => (intro w9 hSw; have hc9 := Blk.cell hSw.2; clear hSw; first | (go_simp; done) | (go_simp; with_reducible rfl))
      (try simp only [Act.put, List.setIfInBounds_toArray, List.set_cons_zero, List.set_cons_succ])
      have hfR := HRd.out.frozen
      have hcR := HRd.out.cell
      have HS := Lib.hid (set11 HRd.out (.int .i64 0) (.int .i64 0) (.int .i64 0) (.slice none 0 0) (.int .i64 0) (.string ⟨#[]⟩) (.int .i64 0) (.int .i64 0) (.string ⟨#[]⟩) (.int .i64 0) (.int .i64 0))
      (refine wpAnyH_ready (rs := [15]) (by kernel_rfl) (by simp) ?_)
      (refine AllReadyH.cons (o := _) rfl (fun K hK => ?_) AllReadyH.nil)
      go_simp
      generalize (World.setCell (World.setCell (World.setCell (World.setCell (World.setCell (World.setCell (World.setCell (World.setCell (World.setCell (World.setCell (World.setCell wd ⟨W.heap.size, 0, none⟩ (.int .i64 0)) ⟨W.heap.size, 1, none⟩ (.int .i64 0)) ⟨W.heap.size, 2, none⟩ (.int .i64 0)) ⟨W.heap.size, 3, none⟩ (.slice none 0 0)) ⟨W.heap.size, 4, none⟩ (.int .i64 0)) ⟨W.heap.size, 5, none⟩ (.string ⟨#[]⟩)) ⟨W.heap.size, 6, none⟩ (.int .i64 0)) ⟨W.heap.size, 7, none⟩ (.int .i64 0)) ⟨W.heap.size, 8, none⟩ (.string ⟨#[]⟩)) ⟨W.heap.size, 9, none⟩ (.int .i64 0)) ⟨W.heap.size, 10, none⟩ (.int .i64 0)) = wC at HS ⊢
      (refine hK.out _ _ ⟨HLd.out.tur HS.out.2 (by omega), HQd.out.tur HS.out.2 (by omega)⟩ (fun hHeld => ?_))
      clear hK K
      (refine take_q (i := 16) (d := 3) (v := ?v116) rfl rfl (by kernel_rfl) (by kernel_rfl) (by kernel_rfl) (fun _ _ _ h => h) (by kernel_rfl) ?hy116 (by assumption) ?rest116)
      case hy116 => (intro w9 hSw; first | (go_simp; done) | (go_simp; with_reducible rfl))
      (try simp only [Act.put, List.setIfInBounds_toArray, List.set_cons_zero, List.set_cons_succ])
      (refine take_q (i := 17) (d := 4) (v := ?v117) rfl rfl (by kernel_rfl) (by kernel_rfl) (by kernel_rfl) (fun _ _ _ h => h) (by kernel_rfl) ?hy117 (by assumption) ?rest117)
      case hy117 => (intro w9 hSw; first | (go_simp; done) | (go_simp; with_reducible rfl))
      (try simp only [Act.put, List.setIfInBounds_toArray, List.set_cons_zero, List.set_cons_succ])
      (refine wpAnyH_done (by kernel_rfl) ?_ _)
      have hc7 := HS.out.1.cell
      go_wp2
      exact bodyPost_ret (v := .tuple #[.agg (rqC nilS rq0), .int .i64 code, .int .i64 pl]) (by simp [results, Tryz.results11, go_sem, hc7, rq0, cell0]) rfl
        ⟨HBd.out.trans (HS.out.2.below HBd.out.size (fun k e => by omega)), by rw [HD.out]⟩
set_option maxHeartbeats 8000000 in
set_option maxRecDepth 100000 in
theorem doc_rq_stats (A : Option Addr) (n c : Nat) (xs : List Int) (hk : (kindD xs).1 = 7) (W : World) (hl : xs.length = n) (h : CellsAt W A (bvs xs)) (hw : ∀ x ∈ xs, (Lit.int .u8 x).wf = true) (hn : n ≤ 140737488355328) (hc : n ≤ c) :
    Calls Tryz.prog 11 #[.slice A n c] W (DocQ W (decRq xs)) := by
  have HR0 := Lib.hid (Blk.new W 29 #[.int .i64 0, .int .i64 0, .int .i64 0, .slice none 0 0, .int .i64 0, .string ⟨#[]⟩, .int .i64 0, .int .i64 0, .string ⟨#[]⟩, .int .i64 0, .int .i64 0])
  have bl0 := (Below.refl W.heap.size W).alloc (Nat.le_refl _) (.cells #[.int .i64 0, .int .i64 0, .int .i64 0, .slice none 0 0, .int .i64 0, .string ⟨#[]⟩, .int .i64 0, .int .i64 0, .string ⟨#[]⟩, .int .i64 0, .int .i64 0] 29)
  have hs1 : (W.alloc (.cells #[.int .i64 0, .int .i64 0, .int .i64 0, .slice none 0 0, .int .i64 0, .string ⟨#[]⟩, .int .i64 0, .int .i64 0, .string ⟨#[]⟩, .int .i64 0, .int .i64 0] 29)).heap.size = W.heap.size + 1 := by simp
  have CR := Lib.hid (dc_read A n c xs (W.alloc (.cells #[.int .i64 0, .int .i64 0, .int .i64 0, .slice none 0 0, .int .i64 0, .string ⟨#[]⟩, .int .i64 0, .int .i64 0, .string ⟨#[]⟩, .int .i64 0, .int .i64 0] 29)) hl (h.below bl0) hw hn hc)
  have HKN := Lib.hid hk
  have HAl := Lib.hid (show xs ≠ [] → ∀ ad, A = some ad → ad.block < W.heap.size from fun h0 ad e => by
    subst e
    obtain ⟨ad', e, h1, _⟩ := h 0 (by rw [bvs_len]; exact List.length_pos_iff.2 h0)
    cases e
    exact h1)
  have HBl := Lib.hid bl0
  clear h hw hn hk hc bl0
  go_enter Tryz.func11, Tryz.ntmps11
  go_wp2_with fail
  go_at_call 34; (with_reducible refine CR.out.mono ?_); rintro e w1 ⟨rfl, hr, hb⟩
  have HR1 := Lib.hid (HR0.out.kept hb)
  have HB1 := Lib.hid (HBl.out.trans (hb.mono (by simp)))
  have hw1 : W.heap.size + 1 ≤ w1.heap.size := hs1 ▸ hb.size
  rw [hs1] at hr ⊢
  have HX := Lib.hid (DxIs.start hr 29 #[.int .i64 0, .int .i64 0, .int .i64 0, .slice none 0 0, .int .i64 0, .string ⟨#[]⟩, .int .i64 0, .int .i64 0, .string ⟨#[]⟩, .int .i64 0, .int .i64 0] 27 3 (fun h0 ad e => by have := HAl.out h0 ad e; omega))
  have HR2 := Lib.hid ((HR1.out.alloc (.cells #[.pointer (some ⟨W.heap.size + 1, 0, none⟩)] 98)).alloc (.cells #[.int .i64 0, .int .i64 0, .int .i64 0, .slice none 0 0, .int .i64 0, .string ⟨#[]⟩, .int .i64 0, .int .i64 0, .string ⟨#[]⟩, .int .i64 0, .int .i64 0] 29))
  have HB2 := Lib.hid ((HB1.out.alloc (by omega) (.cells #[.pointer (some ⟨W.heap.size + 1, 0, none⟩)] 98)).alloc (by simp; omega) (.cells #[.int .i64 0, .int .i64 0, .int .i64 0, .slice none 0 0, .int .i64 0, .string ⟨#[]⟩, .int .i64 0, .int .i64 0, .string ⟨#[]⟩, .int .i64 0, .int .i64 0] 29))
  have hs2 : (w1.alloc (.cells #[.pointer (some ⟨W.heap.size + 1, 0, none⟩)] 98)).heap.size = w1.heap.size + 1 := by simp
  clear hr hb HR0 CR HAl HBl HB1 HR1 hs1
  go_wp2_with fail
  generalize hW0 : (w1.alloc (.cells #[.pointer (some ⟨W.heap.size + 1, 0, none⟩)] 98)).alloc (.cells #[.int .i64 0, .int .i64 0, .int .i64 0, .slice none 0 0, .int .i64 0, .string ⟨#[]⟩, .int .i64 0, .int .i64 0, .string ⟨#[]⟩, .int .i64 0, .int .i64 0] 29) = W0 at *
  have hRW : W.heap.size < w1.heap.size := by omega
  have hqW : W.heap.size < W.heap.size + 1 := by omega
  clear hW0 hs2
  generalize hq : W.heap.size + 1 = q at *
  generalize hj : w1.heap.size = j at *
  clear hj hq
  go_at_call 35; (with_reducible refine (show Calls Tryz.prog 35 #[.pointer (some ⟨j, 0, none⟩), .int .i64 7] W0 _ from lx_head HX.out.rd HX.out.lx HX.out.jq 7).mono ?_); rintro e w3 ⟨rfl, hr, hf⟩
  have HX3 := Lib.hid (HX.out.read hr hf)
  have HKD := Lib.hid (show kindD xs = numP xs M40 ⟨0, none⟩ from rfl)
  clear hr hf HX
  have HHD := Lib.hid (show headP xs (7 : Int) ⟨0, none⟩ = (numP xs M40 ⟨0, none⟩).2 by
    unfold headP
    rw [if_neg]
    rintro ⟨_, h⟩
    have hk := HKN.out
    rw [HKD.out] at hk
    omega)
  rw [show ((7 : Nat) : Int) = (7 : Int) from rfl] at HX3
  rw [HHD.out] at HX3
  simp only [show ((7 : Nat) : Int) = (7 : Int) from rfl, HHD.out]
  rw [HKD.out] at HKN
  clear HHD
  generalize hyd : numP xs M40 ⟨0, none⟩ = y at *
  clear hyd
  obtain ⟨k0, s1⟩ := y
  dsimp only at HX3 HKN HKD ⊢
  generalize hid : numP xs M40 s1 = y at *
  have HID := Lib.hid hid
  clear hid
  obtain ⟨id0, s2⟩ := y
  dsimp only at HX3 HID ⊢
  have hk1 : k0 = 7 := HKN.out
  subst hk1
  simp only [show ((7 : Nat) : Int) = (7 : Int) from rfl]
  have hcb := HX3.out.blk.cell
  have hfb := HX3.out.blk.frozen
  have HX4 := Lib.hid (show DxIs W0 q j (j + 1) 29 A n c xs (rqC (.slice none 0 0) ⟨7, (id0 : Int), 0, [], cell0, cell0, 0⟩) s2 27 3 (.slice none 0 0) 0 [] ((w3.setCell ⟨j + 1, 0, none⟩ (.int .i64 7)).setCell ⟨j + 1, 1, none⟩ (.int .i64 (id0 : Int))) from (HX3.out.put (cs1 := rqC (.slice none 0 0) ⟨7, 0, 0, [], cell0, cell0, 0⟩) 0 (.int .i64 7) rfl).put 1 (.int .i64 (id0 : Int)) rfl)
  clear HX3
  have HRD := Lib.hid (show readD xs = ((⟨7, (id0 : Int), 0, [], cell0, cell0, 0⟩ : Rq), s2) by
    unfold readD bodyD
    rw [HKD.out]
    simp [HID.out])
  go_wp2_with fail
  generalize ((w3.setCell ⟨j + 1, 0, none⟩ (.int .i64 7)).setCell ⟨j + 1, 1, none⟩ (.int .i64 (id0 : Int))) = wl at *
  go_loopw [8] (fun t8 wz => t8 = .int .i64 0 ∧ Hid (DxIs W0 q j (j + 1) 29 A n c xs (rqC (.slice none 0 0) ⟨7, (id0 : Int), 0, [], cell0, cell0, 0⟩) s2 27 3 (.slice none 0 0) 0 [] wz)) (fun _ _ => 0)
  case atStart => exact ⟨rfl, HX4⟩
  case round =>
    obtain ⟨rfl, HP⟩ := hrel
    rename World => wz
    clear hcb hfb
    obtain ⟨r0, hr0⟩ : ∃ r0 : Rq, r0 = ⟨7, (id0 : Int), 0, [], cell0, cell0, 0⟩ := ⟨_, rfl⟩
    obtain ⟨vz, hv0⟩ : ∃ vz : Value, vz = .slice none 0 0 := ⟨_, rfl⟩
    have HX7 := Lib.hid (show DxIs W0 q j (j + 1) 29 A n c xs (rqC vz r0) (readD xs).2 27 3 vz r0.cs.length (cellCs r0.cs) wz by
      rw [hv0, hr0, HRD.out]
      exact HP.out)
    have HRE := Lib.hid (show (readD xs).2.fault = none → r0 = (readD xs).1 from fun _ => by rw [hr0, HRD.out])
    clear hr0 HP hv0
    have HDEC := Lib.hid (show decRq xs = if (checkD (checkRq (readD xs).1) (endP xs (readD xs).2)).fault.isSome then (rq0, (checkD (checkRq (readD xs).1) (endP xs (readD xs).2)).fault) else ((readD xs).1, none) by
      unfold decRq
      rw [if_neg (by rw [HKD.out]; dsimp only; omega)])
    have HOK := Lib.hid (readD_ok xs)
    generalize readD xs = y at *
    obtain ⟨r', s7⟩ := y
    dsimp only at HX7 HRE HDEC HOK
    have l0 : wz.cell? ⟨j, 0, none⟩ = some (.pointer (some ⟨q, 0, none⟩)) := HX7.out.lx.cell 0
    go_wp2_with fail
    go_at_call 39; (with_reducible refine (dc_end HX7.out.rd).mono ?_); rintro e w8 ⟨rfl, hr, hf⟩
    have HX8 := Lib.hid (HX7.out.read hr hf)
    clear hr hf l0 HX7
    have l0 : w8.cell? ⟨j, 0, none⟩ = some (.pointer (some ⟨q, 0, none⟩)) := HX8.out.lx.cell 0
    have p2 : w8.cell? ⟨q, 2, none⟩ = some (.int .i64 (endP xs s7).err) := HX8.out.rd.blk.cell 2
    rcases hfl : (endP xs s7).fault with _ | ⟨code, pl⟩
    · have hre := HRE.out (endP_none2 hfl)
      subst hre
      rw [(DocIs.err_no hfl).1] at p2
      obtain ⟨As, cz, hvz⟩ := own_form3 HX8.out.own
      subst hvz
      have HCR := Lib.hid (CellsOwn.rd_ (show CellsOwn w8 W0.heap.size (.slice As r0.cs.length cz) r0.cs from HX8.out.own))
      have hcb := HX8.out.blk.cell
      go_wp2_with fail
      go_at_call 40; (with_reducible refine (rcheck_rq As _ cz r0 w8 rfl HCR.out.1 HCR.out.2 HOK.out).mono ?_); rintro e w9 ⟨rfl, hb9⟩
      have HX9 := Lib.hid (HX8.out.kept hb9)
      have HR9 := Lib.hid (HR2.out.tur HX9.out.tur (by omega))
      have HB9 := Lib.hid (HB2.out.trans (HX9.out.tur.below HB2.out.size (fun k e => by omega)))
      clear hb9 hcb l0 p2 HX8
      have hfR := HR9.out.frozen
      have hcR := HR9.out.cell
      by_cases hck : checkRq r0 = 0
      · have HD := Lib.hid (show decRq xs = (r0, none) by
          rw [HDEC.out]
          unfold checkD
          rw [hfl, hck]
          simp [RS.fail, hfl])
        rw [hck]
        have hcb := HX9.out.blk.cell
        have HS := Lib.hid (set11 HR9.out (.int .i64 r0.kind) (.int .i64 r0.id) (.int .i64 r0.epoch) (.slice As r0.cs.length cz) (.int .i64 r0.frm.view) (.string r0.frm.key) (.int .i64 r0.frm.start) (.int .i64 r0.too.view) (.string r0.too.key) (.int .i64 r0.too.start) (.int .i64 r0.limit))
        go_wp2
        generalize (World.setCell (World.setCell (World.setCell (World.setCell (World.setCell (World.setCell (World.setCell (World.setCell (World.setCell (World.setCell (World.setCell w9 ⟨W.heap.size, 0, none⟩ (.int .i64 r0.kind)) ⟨W.heap.size, 1, none⟩ (.int .i64 r0.id)) ⟨W.heap.size, 2, none⟩ (.int .i64 r0.epoch)) ⟨W.heap.size, 3, none⟩ (.slice As r0.cs.length cz)) ⟨W.heap.size, 4, none⟩ (.int .i64 r0.frm.view)) ⟨W.heap.size, 5, none⟩ (.string r0.frm.key)) ⟨W.heap.size, 6, none⟩ (.int .i64 r0.frm.start)) ⟨W.heap.size, 7, none⟩ (.int .i64 r0.too.view)) ⟨W.heap.size, 8, none⟩ (.string r0.too.key)) ⟨W.heap.size, 9, none⟩ (.int .i64 r0.too.start)) ⟨W.heap.size, 10, none⟩ (.int .i64 r0.limit)) = wC at HS ⊢
        have hc7 := HS.out.1.cell
        exact bodyPost_ret (v := .tuple #[.agg (rqC (.slice As r0.cs.length cz) r0), .int .i64 0, .int .i64 0]) (by simp [results, Tryz.results11, go_sem, hc7]) rfl
          ⟨HB9.out.trans (HS.out.2.below HB9.out.size (fun k e => by omega)), by rw [HD.out]; exact ⟨_, rfl, own_low (show CellsOwn w9 W0.heap.size (.slice As r0.cs.length cz) r0.cs from HX9.out.own) HS.out.2 (fun k e => by subst e; have := HX9.out.jl; omega) (by have := HX9.out.jl; omega)⟩⟩
      · have HD := Lib.hid (show decRq xs = (rq0, some (checkRq r0, 0)) by
          rw [HDEC.out]
          unfold checkD
          rw [hfl]
          simp [RS.fail, hfl, hck])
        have hz : (checkRq r0 != 0) = true := by simpa using hck
        have HS := Lib.hid (set11 HR9.out (.int .i64 0) (.int .i64 0) (.int .i64 0) (.slice none 0 0) (.int .i64 0) (.string ⟨#[]⟩) (.int .i64 0) (.int .i64 0) (.string ⟨#[]⟩) (.int .i64 0) (.int .i64 0))
        go_wp2
        generalize (World.setCell (World.setCell (World.setCell (World.setCell (World.setCell (World.setCell (World.setCell (World.setCell (World.setCell (World.setCell (World.setCell w9 ⟨W.heap.size, 0, none⟩ (.int .i64 0)) ⟨W.heap.size, 1, none⟩ (.int .i64 0)) ⟨W.heap.size, 2, none⟩ (.int .i64 0)) ⟨W.heap.size, 3, none⟩ (.slice none 0 0)) ⟨W.heap.size, 4, none⟩ (.int .i64 0)) ⟨W.heap.size, 5, none⟩ (.string ⟨#[]⟩)) ⟨W.heap.size, 6, none⟩ (.int .i64 0)) ⟨W.heap.size, 7, none⟩ (.int .i64 0)) ⟨W.heap.size, 8, none⟩ (.string ⟨#[]⟩)) ⟨W.heap.size, 9, none⟩ (.int .i64 0)) ⟨W.heap.size, 10, none⟩ (.int .i64 0)) = wC at HS ⊢
        have hc7 := HS.out.1.cell
        exact bodyPost_ret (v := .tuple #[.agg (rqC nilS rq0), .int .i64 (checkRq r0), .int .i64 0]) (by simp [results, Tryz.results11, go_sem, hc7, rq0, cell0]) rfl
          ⟨HB9.out.trans (HS.out.2.below HB9.out.size (fun k e => by omega)), by rw [HD.out]⟩
    · have HD := Lib.hid (show decRq xs = (rq0, some (code, pl)) by rw [HDEC.out]; unfold checkD; simp [hfl])
      have hne := HX8.out.rd.ok code pl hfl
      have hcode : (endP xs s7).err = code := by unfold RS.err; rw [hfl]
      have hpl : (endP xs s7).on = pl := by unfold RS.on; rw [hfl]
      rw [hcode] at p2
      have HQB := Lib.hid (show Blk w8 q 103 (DcC (.slice A n c) ((endP xs s7).pos : Int) code pl) by have h := HX8.out.rd.blk; rw [hcode, hpl] at h; exact h)
      have HLB := Lib.hid HX8.out.lx
      have HR8 := Lib.hid (HR2.out.tur HX8.out.tur (by omega))
      have HB8 := Lib.hid (HB2.out.trans (HX8.out.tur.below HB2.out.size (fun k e => by omega)))
      have hz : (code != 0) = true := by unfold bne; rw [hne]; rfl
      clear hcode hpl hne hfl HX8 HDEC HRE
      go_wp2_with fail
      clear l0 p2
      (refine wp_region_held_drew (S := fun w9 => LxB w9 j q ∧ Blk w9 q 103 (DcC (.slice A n c) ((endP xs s7).pos : Int) code pl)) (by kernel_rfl) ⟨HLB.out.drew, HQB.out.drew⟩ (fun hHeld => ?_))
      have HLd := Lib.hid HLB.out.drew
      have HQd := Lib.hid HQB.out.drew
      have HRd := Lib.hid HR8.out.drew
      have HBd := Lib.hid (HB8.out.trans (Below.refl _ _).drew)
      have hsz := HB8.out.size
      clear HLB HQB HR8 HB8
      generalize w8.drew = wd at *
      (refine take_q (i := 0) (d := 76) (v := ?v118) rfl rfl (by kernel_rfl) (by kernel_rfl) (by kernel_rfl) (fun _ _ _ h => h) (by kernel_rfl) ?hy118 (by assumption) ?rest118)
      case hy118 => (intro w9 hSw; first | (go_simp; done) | (go_simp; with_reducible rfl))
      (try simp only [Act.put, List.setIfInBounds_toArray, List.set_cons_zero, List.set_cons_succ])
      (refine take_q (i := 1) (d := 77) (v := ?v119) rfl rfl (by kernel_rfl) (by kernel_rfl) (by kernel_rfl) (fun _ _ _ h => h) (by kernel_rfl) ?hy119 (by assumption) ?rest119)
      case hy119 => (intro w9 hSw; first | (go_simp; done) | (go_simp; with_reducible rfl))
      (try simp only [Act.put, List.setIfInBounds_toArray, List.set_cons_zero, List.set_cons_succ])
      (refine take_q (i := 2) (d := 78) (v := ?v120) rfl rfl (by kernel_rfl) (by kernel_rfl) (by kernel_rfl) (fun _ _ _ h => h) (by kernel_rfl) ?hy120 (by assumption) ?rest120)
      case hy120 => (intro w9 hSw; first | (go_simp; done) | (go_simp; with_reducible rfl))
      (try simp only [Act.put, List.setIfInBounds_toArray, List.set_cons_zero, List.set_cons_succ])
      (refine take_q (i := 3) (d := 79) (v := ?v121) rfl rfl (by kernel_rfl) (by kernel_rfl) (by kernel_rfl) (fun _ _ _ h => h) (by kernel_rfl) ?hy121 (by assumption) ?rest121)
      case hy121 => (intro w9 hSw; first | (go_simp; done) | (go_simp; with_reducible rfl))
      (try simp only [Act.put, List.setIfInBounds_toArray, List.set_cons_zero, List.set_cons_succ])
      (refine take_q (i := 4) (d := 80) (v := ?v122) rfl rfl (by kernel_rfl) (by kernel_rfl) (by kernel_rfl) (fun _ _ _ h => h) (by kernel_rfl) ?hy122 (by assumption) ?rest122)
      case hy122 => (intro w9 hSw; have hc9 := Blk.cell hSw.1; clear hSw; first | (go_simp; done) | (go_simp; with_reducible rfl))
      (try simp only [Act.put, List.setIfInBounds_toArray, List.set_cons_zero, List.set_cons_succ])
      (refine take_q (i := 5) (d := 81) (v := ?v123) rfl rfl (by kernel_rfl) (by kernel_rfl) (by kernel_rfl) (fun _ _ _ h => h) (by kernel_rfl) ?hy123 (by assumption) ?rest123)
      case hy123 => (intro w9 hSw; first | (go_simp; done) | (go_simp; with_reducible rfl))
      (try simp only [Act.put, List.setIfInBounds_toArray, List.set_cons_zero, List.set_cons_succ])
      (refine take_q (i := 6) (d := 82) (v := ?v124) rfl rfl (by kernel_rfl) (by kernel_rfl) (by kernel_rfl) (fun _ _ _ h => h) (by kernel_rfl) ?hy124 (by assumption) ?rest124)
      case hy124 => (intro w9 hSw; first | (go_simp; done) | (go_simp; with_reducible rfl))
      (try simp only [Act.put, List.setIfInBounds_toArray, List.set_cons_zero, List.set_cons_succ])
      (refine take_q (i := 7) (d := 83) (v := ?v125) rfl rfl (by kernel_rfl) (by kernel_rfl) (by kernel_rfl) (fun _ _ _ h => h) (by kernel_rfl) ?hy125 (by assumption) ?rest125)
      case hy125 => (intro w9 hSw; have hc9 := Blk.cell hSw.2; clear hSw; first | (go_simp; done) | (go_simp; with_reducible rfl))
      (try simp only [Act.put, List.setIfInBounds_toArray, List.set_cons_zero, List.set_cons_succ])
      (refine take_q (i := 8) (d := 84) (v := ?v126) rfl rfl (by kernel_rfl) (by kernel_rfl) (by kernel_rfl) (fun _ _ _ h => h) (by kernel_rfl) ?hy126 (by assumption) ?rest126)
      case hy126 => (intro w9 hSw; first | (go_simp; done) | (go_simp; with_reducible rfl))
      (try simp only [Act.put, List.setIfInBounds_toArray, List.set_cons_zero, List.set_cons_succ])
      (refine take_q (i := 9) (d := 85) (v := ?v127) rfl rfl (by kernel_rfl) (by kernel_rfl) (by kernel_rfl) (fun _ _ _ h => h) (by kernel_rfl) ?hy127 (by assumption) ?rest127)
      case hy127 => (intro w9 hSw; first | (go_simp; done) | (go_simp; with_reducible rfl))
      (try simp only [Act.put, List.setIfInBounds_toArray, List.set_cons_zero, List.set_cons_succ])
      (refine take_q (i := 10) (d := 86) (v := ?v128) rfl rfl (by kernel_rfl) (by kernel_rfl) (by kernel_rfl) (fun _ _ _ h => h) (by kernel_rfl) ?hy128 (by assumption) ?rest128)
      case hy128 => (intro w9 hSw; first | (go_simp; done) | (go_simp; with_reducible rfl))
      (try simp only [Act.put, List.setIfInBounds_toArray, List.set_cons_zero, List.set_cons_succ])
      (refine take_q (i := 11) (d := 87) (v := ?v129) rfl rfl (by kernel_rfl) (by kernel_rfl) (by kernel_rfl) (fun _ _ _ h => h) (by kernel_rfl) ?hy129 (by assumption) ?rest129)
      case hy129 => (intro w9 hSw; have hc9 := Blk.cell hSw.1; clear hSw; first | (go_simp; done) | (go_simp; with_reducible rfl))
      (try simp only [Act.put, List.setIfInBounds_toArray, List.set_cons_zero, List.set_cons_succ])
      (refine take_q (i := 12) (d := 88) (v := ?v130) rfl rfl (by kernel_rfl) (by kernel_rfl) (by kernel_rfl) (fun _ _ _ h => h) (by kernel_rfl) ?hy130 (by assumption) ?rest130)
      case hy130 => (intro w9 hSw; first | (go_simp; done) | (go_simp; with_reducible rfl))
      (try simp only [Act.put, List.setIfInBounds_toArray, List.set_cons_zero, List.set_cons_succ])
      (refine take_q (i := 13) (d := 89) (v := ?v131) rfl rfl (by kernel_rfl) (by kernel_rfl) (by kernel_rfl) (fun _ _ _ h => h) (by kernel_rfl) ?hy131 (by assumption) ?rest131)
      case hy131 => (intro w9 hSw; first | (go_simp; done) | (go_simp; with_reducible rfl))
      (try simp only [Act.put, List.setIfInBounds_toArray, List.set_cons_zero, List.set_cons_succ])
      (refine take_q (i := 14) (d := 90) (v := ?v132) rfl rfl (by kernel_rfl) (by kernel_rfl) (by kernel_rfl) (fun _ _ _ h => h) (by kernel_rfl) ?hy132 (by assumption) ?rest132)
      case hy132 => (intro w9 hSw; have hc9 := Blk.cell hSw.2; clear hSw; first | (go_simp; done) | (go_simp; with_reducible rfl))
      (try simp only [Act.put, List.setIfInBounds_toArray, List.set_cons_zero, List.set_cons_succ])
      have hfR := HRd.out.frozen
      have hcR := HRd.out.cell
      have HS := Lib.hid (set11 HRd.out (.int .i64 0) (.int .i64 0) (.int .i64 0) (.slice none 0 0) (.int .i64 0) (.string ⟨#[]⟩) (.int .i64 0) (.int .i64 0) (.string ⟨#[]⟩) (.int .i64 0) (.int .i64 0))
      (refine wpAnyH_ready (rs := [15]) (by kernel_rfl) (by simp) ?_)
      (refine AllReadyH.cons (o := _) rfl (fun K hK => ?_) AllReadyH.nil)
      go_simp
      generalize (World.setCell (World.setCell (World.setCell (World.setCell (World.setCell (World.setCell (World.setCell (World.setCell (World.setCell (World.setCell (World.setCell wd ⟨W.heap.size, 0, none⟩ (.int .i64 0)) ⟨W.heap.size, 1, none⟩ (.int .i64 0)) ⟨W.heap.size, 2, none⟩ (.int .i64 0)) ⟨W.heap.size, 3, none⟩ (.slice none 0 0)) ⟨W.heap.size, 4, none⟩ (.int .i64 0)) ⟨W.heap.size, 5, none⟩ (.string ⟨#[]⟩)) ⟨W.heap.size, 6, none⟩ (.int .i64 0)) ⟨W.heap.size, 7, none⟩ (.int .i64 0)) ⟨W.heap.size, 8, none⟩ (.string ⟨#[]⟩)) ⟨W.heap.size, 9, none⟩ (.int .i64 0)) ⟨W.heap.size, 10, none⟩ (.int .i64 0)) = wC at HS ⊢
      (refine hK.out _ _ ⟨HLd.out.tur HS.out.2 (by omega), HQd.out.tur HS.out.2 (by omega)⟩ (fun hHeld => ?_))
      clear hK K
      (refine take_q (i := 16) (d := 3) (v := ?v133) rfl rfl (by kernel_rfl) (by kernel_rfl) (by kernel_rfl) (fun _ _ _ h => h) (by kernel_rfl) ?hy133 (by assumption) ?rest133)
      case hy133 => (intro w9 hSw; first | (go_simp; done) | (go_simp; with_reducible rfl))
      (try simp only [Act.put, List.setIfInBounds_toArray, List.set_cons_zero, List.set_cons_succ])
      (refine take_q (i := 17) (d := 4) (v := ?v134) rfl rfl (by kernel_rfl) (by kernel_rfl) (by kernel_rfl) (fun _ _ _ h => h) (by kernel_rfl) ?hy134 (by assumption) ?rest134)
      case hy134 => (intro w9 hSw; first | (go_simp; done) | (go_simp; with_reducible rfl))
      (try simp only [Act.put, List.setIfInBounds_toArray, List.set_cons_zero, List.set_cons_succ])
      (refine wpAnyH_done (by kernel_rfl) ?_ _)
      have hc7 := HS.out.1.cell
      go_wp2
      exact bodyPost_ret (v := .tuple #[.agg (rqC nilS rq0), .int .i64 code, .int .i64 pl]) (by simp [results, Tryz.results11, go_sem, hc7, rq0, cell0]) rfl
        ⟨HBd.out.trans (HS.out.2.below HBd.out.size (fun k e => by omega)), by rw [HD.out]⟩
set_option maxHeartbeats 8000000 in
set_option maxRecDepth 100000 in
theorem doc_rq_join (A : Option Addr) (n c : Nat) (xs : List Int) (hk : (kindD xs).1 = 5) (W : World) (hl : xs.length = n) (h : CellsAt W A (bvs xs)) (hw : ∀ x ∈ xs, (Lit.int .u8 x).wf = true) (hn : n ≤ 140737488355328) (hc : n ≤ c) :
    Calls Tryz.prog 11 #[.slice A n c] W (DocQ W (decRq xs)) := by
  have HR0 := Lib.hid (Blk.new W 29 #[.int .i64 0, .int .i64 0, .int .i64 0, .slice none 0 0, .int .i64 0, .string ⟨#[]⟩, .int .i64 0, .int .i64 0, .string ⟨#[]⟩, .int .i64 0, .int .i64 0])
  have bl0 := (Below.refl W.heap.size W).alloc (Nat.le_refl _) (.cells #[.int .i64 0, .int .i64 0, .int .i64 0, .slice none 0 0, .int .i64 0, .string ⟨#[]⟩, .int .i64 0, .int .i64 0, .string ⟨#[]⟩, .int .i64 0, .int .i64 0] 29)
  have hs1 : (W.alloc (.cells #[.int .i64 0, .int .i64 0, .int .i64 0, .slice none 0 0, .int .i64 0, .string ⟨#[]⟩, .int .i64 0, .int .i64 0, .string ⟨#[]⟩, .int .i64 0, .int .i64 0] 29)).heap.size = W.heap.size + 1 := by simp
  have CR := Lib.hid (dc_read A n c xs (W.alloc (.cells #[.int .i64 0, .int .i64 0, .int .i64 0, .slice none 0 0, .int .i64 0, .string ⟨#[]⟩, .int .i64 0, .int .i64 0, .string ⟨#[]⟩, .int .i64 0, .int .i64 0] 29)) hl (h.below bl0) hw hn hc)
  have HKN := Lib.hid hk
  have HAl := Lib.hid (show xs ≠ [] → ∀ ad, A = some ad → ad.block < W.heap.size from fun h0 ad e => by
    subst e
    obtain ⟨ad', e, h1, _⟩ := h 0 (by rw [bvs_len]; exact List.length_pos_iff.2 h0)
    cases e
    exact h1)
  have HBl := Lib.hid bl0
  clear h hw hn hk hc bl0
  go_enter Tryz.func11, Tryz.ntmps11
  go_wp2_with fail
  go_at_call 34; (with_reducible refine CR.out.mono ?_); rintro e w1 ⟨rfl, hr, hb⟩
  have HR1 := Lib.hid (HR0.out.kept hb)
  have HB1 := Lib.hid (HBl.out.trans (hb.mono (by simp)))
  have hw1 : W.heap.size + 1 ≤ w1.heap.size := hs1 ▸ hb.size
  rw [hs1] at hr ⊢
  have HX := Lib.hid (DxIs.start hr 29 #[.int .i64 0, .int .i64 0, .int .i64 0, .slice none 0 0, .int .i64 0, .string ⟨#[]⟩, .int .i64 0, .int .i64 0, .string ⟨#[]⟩, .int .i64 0, .int .i64 0] 27 3 (fun h0 ad e => by have := HAl.out h0 ad e; omega))
  have HR2 := Lib.hid ((HR1.out.alloc (.cells #[.pointer (some ⟨W.heap.size + 1, 0, none⟩)] 98)).alloc (.cells #[.int .i64 0, .int .i64 0, .int .i64 0, .slice none 0 0, .int .i64 0, .string ⟨#[]⟩, .int .i64 0, .int .i64 0, .string ⟨#[]⟩, .int .i64 0, .int .i64 0] 29))
  have HB2 := Lib.hid ((HB1.out.alloc (by omega) (.cells #[.pointer (some ⟨W.heap.size + 1, 0, none⟩)] 98)).alloc (by simp; omega) (.cells #[.int .i64 0, .int .i64 0, .int .i64 0, .slice none 0 0, .int .i64 0, .string ⟨#[]⟩, .int .i64 0, .int .i64 0, .string ⟨#[]⟩, .int .i64 0, .int .i64 0] 29))
  have hs2 : (w1.alloc (.cells #[.pointer (some ⟨W.heap.size + 1, 0, none⟩)] 98)).heap.size = w1.heap.size + 1 := by simp
  clear hr hb HR0 CR HAl HBl HB1 HR1 hs1
  go_wp2_with fail
  generalize hW0 : (w1.alloc (.cells #[.pointer (some ⟨W.heap.size + 1, 0, none⟩)] 98)).alloc (.cells #[.int .i64 0, .int .i64 0, .int .i64 0, .slice none 0 0, .int .i64 0, .string ⟨#[]⟩, .int .i64 0, .int .i64 0, .string ⟨#[]⟩, .int .i64 0, .int .i64 0] 29) = W0 at *
  have hRW : W.heap.size < w1.heap.size := by omega
  have hqW : W.heap.size < W.heap.size + 1 := by omega
  clear hW0 hs2
  generalize hq : W.heap.size + 1 = q at *
  generalize hj : w1.heap.size = j at *
  clear hj hq
  go_at_call 35; (with_reducible refine (show Calls Tryz.prog 35 #[.pointer (some ⟨j, 0, none⟩), .int .i64 7] W0 _ from lx_head HX.out.rd HX.out.lx HX.out.jq 7).mono ?_); rintro e w3 ⟨rfl, hr, hf⟩
  have HX3 := Lib.hid (HX.out.read hr hf)
  have HKD := Lib.hid (show kindD xs = numP xs M40 ⟨0, none⟩ from rfl)
  clear hr hf HX
  have HHD := Lib.hid (show headP xs (7 : Int) ⟨0, none⟩ = (numP xs M40 ⟨0, none⟩).2 by
    unfold headP
    rw [if_neg]
    rintro ⟨_, h⟩
    have hk := HKN.out
    rw [HKD.out] at hk
    omega)
  rw [show ((7 : Nat) : Int) = (7 : Int) from rfl] at HX3
  rw [HHD.out] at HX3
  simp only [show ((7 : Nat) : Int) = (7 : Int) from rfl, HHD.out]
  rw [HKD.out] at HKN
  clear HHD
  generalize hyd : numP xs M40 ⟨0, none⟩ = y at *
  clear hyd
  obtain ⟨k0, s1⟩ := y
  dsimp only at HX3 HKN HKD ⊢
  generalize hid : numP xs M40 s1 = y at *
  have HID := Lib.hid hid
  clear hid
  obtain ⟨id0, s2⟩ := y
  dsimp only at HX3 HID ⊢
  have hk1 : k0 = 5 := HKN.out
  subst hk1
  simp only [show ((5 : Nat) : Int) = (5 : Int) from rfl]
  have hcb := HX3.out.blk.cell
  have hfb := HX3.out.blk.frozen
  have HX4 := Lib.hid (show DxIs W0 q j (j + 1) 29 A n c xs (rqC (.slice none 0 0) ⟨5, (id0 : Int), 0, [], cell0, cell0, 0⟩) s2 27 3 (.slice none 0 0) 0 [] ((w3.setCell ⟨j + 1, 0, none⟩ (.int .i64 5)).setCell ⟨j + 1, 1, none⟩ (.int .i64 (id0 : Int))) from (HX3.out.put (cs1 := rqC (.slice none 0 0) ⟨5, 0, 0, [], cell0, cell0, 0⟩) 0 (.int .i64 5) rfl).put 1 (.int .i64 (id0 : Int)) rfl)
  clear HX3
  go_wp2_with fail
  generalize ((w3.setCell ⟨j + 1, 0, none⟩ (.int .i64 5)).setCell ⟨j + 1, 1, none⟩ (.int .i64 (id0 : Int))) = wg5 at *
  go_at_call 36; (with_reducible refine (lx_num HX4.out.rd HX4.out.lx).mono ?_); rintro e wh5 ⟨rfl, hr, hf⟩
  have HN5 := Lib.hid (HX4.out.read hr hf)
  clear hr hf hcb hfb HX4
  generalize hnn : numP xs M40 s2 = y at *
  have HE5 := Lib.hid hnn
  clear hnn
  obtain ⟨ep0, s3⟩ := y
  dsimp only at HN5 HE5 ⊢
  have hcb := HN5.out.blk.cell
  have hfb := HN5.out.blk.frozen
  have HX5 := Lib.hid (HN5.out.put (cs1 := rqC (.slice none 0 0) ⟨5, (id0 : Int), (ep0 : Int), [], cell0, cell0, 0⟩) 2 (.int .i64 (ep0 : Int)) rfl)
  have HRD := Lib.hid (show readD xs = ((⟨5, (id0 : Int), (ep0 : Int), [], cell0, cell0, 0⟩ : Rq), s3) by
    unfold readD bodyD
    rw [HKD.out]
    simp [HID.out, HE5.out])
  go_wp2_with fail
  generalize (wh5.setCell ⟨j + 1, 2, none⟩ (.int .i64 (ep0 : Int))) = wl at *
  go_loopw [8] (fun t8 wz => t8 = .int .i64 0 ∧ Hid (DxIs W0 q j (j + 1) 29 A n c xs (rqC (.slice none 0 0) ⟨5, (id0 : Int), (ep0 : Int), [], cell0, cell0, 0⟩) s3 27 3 (.slice none 0 0) 0 [] wz)) (fun _ _ => 0)
  case atStart => exact ⟨rfl, HX5⟩
  case round =>
    obtain ⟨rfl, HP⟩ := hrel
    rename World => wz
    clear hcb hfb
    obtain ⟨r0, hr0⟩ : ∃ r0 : Rq, r0 = ⟨5, (id0 : Int), (ep0 : Int), [], cell0, cell0, 0⟩ := ⟨_, rfl⟩
    obtain ⟨vz, hv0⟩ : ∃ vz : Value, vz = .slice none 0 0 := ⟨_, rfl⟩
    have HX7 := Lib.hid (show DxIs W0 q j (j + 1) 29 A n c xs (rqC vz r0) (readD xs).2 27 3 vz r0.cs.length (cellCs r0.cs) wz by
      rw [hv0, hr0, HRD.out]
      exact HP.out)
    have HRE := Lib.hid (show (readD xs).2.fault = none → r0 = (readD xs).1 from fun _ => by rw [hr0, HRD.out])
    clear hr0 HP hv0
    have HDEC := Lib.hid (show decRq xs = if (checkD (checkRq (readD xs).1) (endP xs (readD xs).2)).fault.isSome then (rq0, (checkD (checkRq (readD xs).1) (endP xs (readD xs).2)).fault) else ((readD xs).1, none) by
      unfold decRq
      rw [if_neg (by rw [HKD.out]; dsimp only; omega)])
    have HOK := Lib.hid (readD_ok xs)
    generalize readD xs = y at *
    obtain ⟨r', s7⟩ := y
    dsimp only at HX7 HRE HDEC HOK
    have l0 : wz.cell? ⟨j, 0, none⟩ = some (.pointer (some ⟨q, 0, none⟩)) := HX7.out.lx.cell 0
    go_wp2_with fail
    go_at_call 39; (with_reducible refine (dc_end HX7.out.rd).mono ?_); rintro e w8 ⟨rfl, hr, hf⟩
    have HX8 := Lib.hid (HX7.out.read hr hf)
    clear hr hf l0 HX7
    have l0 : w8.cell? ⟨j, 0, none⟩ = some (.pointer (some ⟨q, 0, none⟩)) := HX8.out.lx.cell 0
    have p2 : w8.cell? ⟨q, 2, none⟩ = some (.int .i64 (endP xs s7).err) := HX8.out.rd.blk.cell 2
    rcases hfl : (endP xs s7).fault with _ | ⟨code, pl⟩
    · have hre := HRE.out (endP_none2 hfl)
      subst hre
      rw [(DocIs.err_no hfl).1] at p2
      obtain ⟨As, cz, hvz⟩ := own_form3 HX8.out.own
      subst hvz
      have HCR := Lib.hid (CellsOwn.rd_ (show CellsOwn w8 W0.heap.size (.slice As r0.cs.length cz) r0.cs from HX8.out.own))
      have hcb := HX8.out.blk.cell
      go_wp2_with fail
      go_at_call 40; (with_reducible refine (rcheck_rq As _ cz r0 w8 rfl HCR.out.1 HCR.out.2 HOK.out).mono ?_); rintro e w9 ⟨rfl, hb9⟩
      have HX9 := Lib.hid (HX8.out.kept hb9)
      have HR9 := Lib.hid (HR2.out.tur HX9.out.tur (by omega))
      have HB9 := Lib.hid (HB2.out.trans (HX9.out.tur.below HB2.out.size (fun k e => by omega)))
      clear hb9 hcb l0 p2 HX8
      have hfR := HR9.out.frozen
      have hcR := HR9.out.cell
      by_cases hck : checkRq r0 = 0
      · have HD := Lib.hid (show decRq xs = (r0, none) by
          rw [HDEC.out]
          unfold checkD
          rw [hfl, hck]
          simp [RS.fail, hfl])
        rw [hck]
        have hcb := HX9.out.blk.cell
        have HS := Lib.hid (set11 HR9.out (.int .i64 r0.kind) (.int .i64 r0.id) (.int .i64 r0.epoch) (.slice As r0.cs.length cz) (.int .i64 r0.frm.view) (.string r0.frm.key) (.int .i64 r0.frm.start) (.int .i64 r0.too.view) (.string r0.too.key) (.int .i64 r0.too.start) (.int .i64 r0.limit))
        go_wp2
        generalize (World.setCell (World.setCell (World.setCell (World.setCell (World.setCell (World.setCell (World.setCell (World.setCell (World.setCell (World.setCell (World.setCell w9 ⟨W.heap.size, 0, none⟩ (.int .i64 r0.kind)) ⟨W.heap.size, 1, none⟩ (.int .i64 r0.id)) ⟨W.heap.size, 2, none⟩ (.int .i64 r0.epoch)) ⟨W.heap.size, 3, none⟩ (.slice As r0.cs.length cz)) ⟨W.heap.size, 4, none⟩ (.int .i64 r0.frm.view)) ⟨W.heap.size, 5, none⟩ (.string r0.frm.key)) ⟨W.heap.size, 6, none⟩ (.int .i64 r0.frm.start)) ⟨W.heap.size, 7, none⟩ (.int .i64 r0.too.view)) ⟨W.heap.size, 8, none⟩ (.string r0.too.key)) ⟨W.heap.size, 9, none⟩ (.int .i64 r0.too.start)) ⟨W.heap.size, 10, none⟩ (.int .i64 r0.limit)) = wC at HS ⊢
        have hc7 := HS.out.1.cell
        exact bodyPost_ret (v := .tuple #[.agg (rqC (.slice As r0.cs.length cz) r0), .int .i64 0, .int .i64 0]) (by simp [results, Tryz.results11, go_sem, hc7]) rfl
          ⟨HB9.out.trans (HS.out.2.below HB9.out.size (fun k e => by omega)), by rw [HD.out]; exact ⟨_, rfl, own_low (show CellsOwn w9 W0.heap.size (.slice As r0.cs.length cz) r0.cs from HX9.out.own) HS.out.2 (fun k e => by subst e; have := HX9.out.jl; omega) (by have := HX9.out.jl; omega)⟩⟩
      · have HD := Lib.hid (show decRq xs = (rq0, some (checkRq r0, 0)) by
          rw [HDEC.out]
          unfold checkD
          rw [hfl]
          simp [RS.fail, hfl, hck])
        have hz : (checkRq r0 != 0) = true := by simpa using hck
        have HS := Lib.hid (set11 HR9.out (.int .i64 0) (.int .i64 0) (.int .i64 0) (.slice none 0 0) (.int .i64 0) (.string ⟨#[]⟩) (.int .i64 0) (.int .i64 0) (.string ⟨#[]⟩) (.int .i64 0) (.int .i64 0))
        go_wp2
        generalize (World.setCell (World.setCell (World.setCell (World.setCell (World.setCell (World.setCell (World.setCell (World.setCell (World.setCell (World.setCell (World.setCell w9 ⟨W.heap.size, 0, none⟩ (.int .i64 0)) ⟨W.heap.size, 1, none⟩ (.int .i64 0)) ⟨W.heap.size, 2, none⟩ (.int .i64 0)) ⟨W.heap.size, 3, none⟩ (.slice none 0 0)) ⟨W.heap.size, 4, none⟩ (.int .i64 0)) ⟨W.heap.size, 5, none⟩ (.string ⟨#[]⟩)) ⟨W.heap.size, 6, none⟩ (.int .i64 0)) ⟨W.heap.size, 7, none⟩ (.int .i64 0)) ⟨W.heap.size, 8, none⟩ (.string ⟨#[]⟩)) ⟨W.heap.size, 9, none⟩ (.int .i64 0)) ⟨W.heap.size, 10, none⟩ (.int .i64 0)) = wC at HS ⊢
        have hc7 := HS.out.1.cell
        exact bodyPost_ret (v := .tuple #[.agg (rqC nilS rq0), .int .i64 (checkRq r0), .int .i64 0]) (by simp [results, Tryz.results11, go_sem, hc7, rq0, cell0]) rfl
          ⟨HB9.out.trans (HS.out.2.below HB9.out.size (fun k e => by omega)), by rw [HD.out]⟩
    · have HD := Lib.hid (show decRq xs = (rq0, some (code, pl)) by rw [HDEC.out]; unfold checkD; simp [hfl])
      have hne := HX8.out.rd.ok code pl hfl
      have hcode : (endP xs s7).err = code := by unfold RS.err; rw [hfl]
      have hpl : (endP xs s7).on = pl := by unfold RS.on; rw [hfl]
      rw [hcode] at p2
      have HQB := Lib.hid (show Blk w8 q 103 (DcC (.slice A n c) ((endP xs s7).pos : Int) code pl) by have h := HX8.out.rd.blk; rw [hcode, hpl] at h; exact h)
      have HLB := Lib.hid HX8.out.lx
      have HR8 := Lib.hid (HR2.out.tur HX8.out.tur (by omega))
      have HB8 := Lib.hid (HB2.out.trans (HX8.out.tur.below HB2.out.size (fun k e => by omega)))
      have hz : (code != 0) = true := by unfold bne; rw [hne]; rfl
      clear hcode hpl hne hfl HX8 HDEC HRE
      go_wp2_with fail
      clear l0 p2
      (refine wp_region_held_drew (S := fun w9 => LxB w9 j q ∧ Blk w9 q 103 (DcC (.slice A n c) ((endP xs s7).pos : Int) code pl)) (by kernel_rfl) ⟨HLB.out.drew, HQB.out.drew⟩ (fun hHeld => ?_))
      have HLd := Lib.hid HLB.out.drew
      have HQd := Lib.hid HQB.out.drew
      have HRd := Lib.hid HR8.out.drew
      have HBd := Lib.hid (HB8.out.trans (Below.refl _ _).drew)
      have hsz := HB8.out.size
      clear HLB HQB HR8 HB8
      generalize w8.drew = wd at *
      (refine take_q (i := 0) (d := 76) (v := ?v135) rfl rfl (by kernel_rfl) (by kernel_rfl) (by kernel_rfl) (fun _ _ _ h => h) (by kernel_rfl) ?hy135 (by assumption) ?rest135)
      case hy135 => (intro w9 hSw; first | (go_simp; done) | (go_simp; with_reducible rfl))
      (try simp only [Act.put, List.setIfInBounds_toArray, List.set_cons_zero, List.set_cons_succ])
      (refine take_q (i := 1) (d := 77) (v := ?v136) rfl rfl (by kernel_rfl) (by kernel_rfl) (by kernel_rfl) (fun _ _ _ h => h) (by kernel_rfl) ?hy136 (by assumption) ?rest136)
      case hy136 => (intro w9 hSw; first | (go_simp; done) | (go_simp; with_reducible rfl))
      (try simp only [Act.put, List.setIfInBounds_toArray, List.set_cons_zero, List.set_cons_succ])
      (refine take_q (i := 2) (d := 78) (v := ?v137) rfl rfl (by kernel_rfl) (by kernel_rfl) (by kernel_rfl) (fun _ _ _ h => h) (by kernel_rfl) ?hy137 (by assumption) ?rest137)
      case hy137 => (intro w9 hSw; first | (go_simp; done) | (go_simp; with_reducible rfl))
      (try simp only [Act.put, List.setIfInBounds_toArray, List.set_cons_zero, List.set_cons_succ])
      (refine take_q (i := 3) (d := 79) (v := ?v138) rfl rfl (by kernel_rfl) (by kernel_rfl) (by kernel_rfl) (fun _ _ _ h => h) (by kernel_rfl) ?hy138 (by assumption) ?rest138)
      case hy138 => (intro w9 hSw; first | (go_simp; done) | (go_simp; with_reducible rfl))
      (try simp only [Act.put, List.setIfInBounds_toArray, List.set_cons_zero, List.set_cons_succ])
      (refine take_q (i := 4) (d := 80) (v := ?v139) rfl rfl (by kernel_rfl) (by kernel_rfl) (by kernel_rfl) (fun _ _ _ h => h) (by kernel_rfl) ?hy139 (by assumption) ?rest139)
      case hy139 => (intro w9 hSw; have hc9 := Blk.cell hSw.1; clear hSw; first | (go_simp; done) | (go_simp; with_reducible rfl))
      (try simp only [Act.put, List.setIfInBounds_toArray, List.set_cons_zero, List.set_cons_succ])
      (refine take_q (i := 5) (d := 81) (v := ?v140) rfl rfl (by kernel_rfl) (by kernel_rfl) (by kernel_rfl) (fun _ _ _ h => h) (by kernel_rfl) ?hy140 (by assumption) ?rest140)
      case hy140 => (intro w9 hSw; first | (go_simp; done) | (go_simp; with_reducible rfl))
      (try simp only [Act.put, List.setIfInBounds_toArray, List.set_cons_zero, List.set_cons_succ])
      (refine take_q (i := 6) (d := 82) (v := ?v141) rfl rfl (by kernel_rfl) (by kernel_rfl) (by kernel_rfl) (fun _ _ _ h => h) (by kernel_rfl) ?hy141 (by assumption) ?rest141)
      case hy141 => (intro w9 hSw; first | (go_simp; done) | (go_simp; with_reducible rfl))
      (try simp only [Act.put, List.setIfInBounds_toArray, List.set_cons_zero, List.set_cons_succ])
      (refine take_q (i := 7) (d := 83) (v := ?v142) rfl rfl (by kernel_rfl) (by kernel_rfl) (by kernel_rfl) (fun _ _ _ h => h) (by kernel_rfl) ?hy142 (by assumption) ?rest142)
      case hy142 => (intro w9 hSw; have hc9 := Blk.cell hSw.2; clear hSw; first | (go_simp; done) | (go_simp; with_reducible rfl))
      (try simp only [Act.put, List.setIfInBounds_toArray, List.set_cons_zero, List.set_cons_succ])
      (refine take_q (i := 8) (d := 84) (v := ?v143) rfl rfl (by kernel_rfl) (by kernel_rfl) (by kernel_rfl) (fun _ _ _ h => h) (by kernel_rfl) ?hy143 (by assumption) ?rest143)
      case hy143 => (intro w9 hSw; first | (go_simp; done) | (go_simp; with_reducible rfl))
      (try simp only [Act.put, List.setIfInBounds_toArray, List.set_cons_zero, List.set_cons_succ])
      (refine take_q (i := 9) (d := 85) (v := ?v144) rfl rfl (by kernel_rfl) (by kernel_rfl) (by kernel_rfl) (fun _ _ _ h => h) (by kernel_rfl) ?hy144 (by assumption) ?rest144)
      case hy144 => (intro w9 hSw; first | (go_simp; done) | (go_simp; with_reducible rfl))
      (try simp only [Act.put, List.setIfInBounds_toArray, List.set_cons_zero, List.set_cons_succ])
      (refine take_q (i := 10) (d := 86) (v := ?v145) rfl rfl (by kernel_rfl) (by kernel_rfl) (by kernel_rfl) (fun _ _ _ h => h) (by kernel_rfl) ?hy145 (by assumption) ?rest145)
      case hy145 => (intro w9 hSw; first | (go_simp; done) | (go_simp; with_reducible rfl))
      (try simp only [Act.put, List.setIfInBounds_toArray, List.set_cons_zero, List.set_cons_succ])
      (refine take_q (i := 11) (d := 87) (v := ?v146) rfl rfl (by kernel_rfl) (by kernel_rfl) (by kernel_rfl) (fun _ _ _ h => h) (by kernel_rfl) ?hy146 (by assumption) ?rest146)
      case hy146 => (intro w9 hSw; have hc9 := Blk.cell hSw.1; clear hSw; first | (go_simp; done) | (go_simp; with_reducible rfl))
      (try simp only [Act.put, List.setIfInBounds_toArray, List.set_cons_zero, List.set_cons_succ])
      (refine take_q (i := 12) (d := 88) (v := ?v147) rfl rfl (by kernel_rfl) (by kernel_rfl) (by kernel_rfl) (fun _ _ _ h => h) (by kernel_rfl) ?hy147 (by assumption) ?rest147)
      case hy147 => (intro w9 hSw; first | (go_simp; done) | (go_simp; with_reducible rfl))
      (try simp only [Act.put, List.setIfInBounds_toArray, List.set_cons_zero, List.set_cons_succ])
      (refine take_q (i := 13) (d := 89) (v := ?v148) rfl rfl (by kernel_rfl) (by kernel_rfl) (by kernel_rfl) (fun _ _ _ h => h) (by kernel_rfl) ?hy148 (by assumption) ?rest148)
      case hy148 => (intro w9 hSw; first | (go_simp; done) | (go_simp; with_reducible rfl))
      (try simp only [Act.put, List.setIfInBounds_toArray, List.set_cons_zero, List.set_cons_succ])
      (refine take_q (i := 14) (d := 90) (v := ?v149) rfl rfl (by kernel_rfl) (by kernel_rfl) (by kernel_rfl) (fun _ _ _ h => h) (by kernel_rfl) ?hy149 (by assumption) ?rest149)
      case hy149 => (intro w9 hSw; have hc9 := Blk.cell hSw.2; clear hSw; first | (go_simp; done) | (go_simp; with_reducible rfl))
      (try simp only [Act.put, List.setIfInBounds_toArray, List.set_cons_zero, List.set_cons_succ])
      have hfR := HRd.out.frozen
      have hcR := HRd.out.cell
      have HS := Lib.hid (set11 HRd.out (.int .i64 0) (.int .i64 0) (.int .i64 0) (.slice none 0 0) (.int .i64 0) (.string ⟨#[]⟩) (.int .i64 0) (.int .i64 0) (.string ⟨#[]⟩) (.int .i64 0) (.int .i64 0))
      (refine wpAnyH_ready (rs := [15]) (by kernel_rfl) (by simp) ?_)
      (refine AllReadyH.cons (o := _) rfl (fun K hK => ?_) AllReadyH.nil)
      go_simp
      generalize (World.setCell (World.setCell (World.setCell (World.setCell (World.setCell (World.setCell (World.setCell (World.setCell (World.setCell (World.setCell (World.setCell wd ⟨W.heap.size, 0, none⟩ (.int .i64 0)) ⟨W.heap.size, 1, none⟩ (.int .i64 0)) ⟨W.heap.size, 2, none⟩ (.int .i64 0)) ⟨W.heap.size, 3, none⟩ (.slice none 0 0)) ⟨W.heap.size, 4, none⟩ (.int .i64 0)) ⟨W.heap.size, 5, none⟩ (.string ⟨#[]⟩)) ⟨W.heap.size, 6, none⟩ (.int .i64 0)) ⟨W.heap.size, 7, none⟩ (.int .i64 0)) ⟨W.heap.size, 8, none⟩ (.string ⟨#[]⟩)) ⟨W.heap.size, 9, none⟩ (.int .i64 0)) ⟨W.heap.size, 10, none⟩ (.int .i64 0)) = wC at HS ⊢
      (refine hK.out _ _ ⟨HLd.out.tur HS.out.2 (by omega), HQd.out.tur HS.out.2 (by omega)⟩ (fun hHeld => ?_))
      clear hK K
      (refine take_q (i := 16) (d := 3) (v := ?v150) rfl rfl (by kernel_rfl) (by kernel_rfl) (by kernel_rfl) (fun _ _ _ h => h) (by kernel_rfl) ?hy150 (by assumption) ?rest150)
      case hy150 => (intro w9 hSw; first | (go_simp; done) | (go_simp; with_reducible rfl))
      (try simp only [Act.put, List.setIfInBounds_toArray, List.set_cons_zero, List.set_cons_succ])
      (refine take_q (i := 17) (d := 4) (v := ?v151) rfl rfl (by kernel_rfl) (by kernel_rfl) (by kernel_rfl) (fun _ _ _ h => h) (by kernel_rfl) ?hy151 (by assumption) ?rest151)
      case hy151 => (intro w9 hSw; first | (go_simp; done) | (go_simp; with_reducible rfl))
      (try simp only [Act.put, List.setIfInBounds_toArray, List.set_cons_zero, List.set_cons_succ])
      (refine wpAnyH_done (by kernel_rfl) ?_ _)
      have hc7 := HS.out.1.cell
      go_wp2
      exact bodyPost_ret (v := .tuple #[.agg (rqC nilS rq0), .int .i64 code, .int .i64 pl]) (by simp [results, Tryz.results11, go_sem, hc7, rq0, cell0]) rfl
        ⟨HBd.out.trans (HS.out.2.below HBd.out.size (fun k e => by omega)), by rw [HD.out]⟩
set_option maxHeartbeats 8000000 in
set_option maxRecDepth 100000 in
theorem doc_rq_rel (A : Option Addr) (n c : Nat) (xs : List Int) (hk : (kindD xs).1 = 6) (W : World) (hl : xs.length = n) (h : CellsAt W A (bvs xs)) (hw : ∀ x ∈ xs, (Lit.int .u8 x).wf = true) (hn : n ≤ 140737488355328) (hc : n ≤ c) :
    Calls Tryz.prog 11 #[.slice A n c] W (DocQ W (decRq xs)) := by
  have HR0 := Lib.hid (Blk.new W 29 #[.int .i64 0, .int .i64 0, .int .i64 0, .slice none 0 0, .int .i64 0, .string ⟨#[]⟩, .int .i64 0, .int .i64 0, .string ⟨#[]⟩, .int .i64 0, .int .i64 0])
  have bl0 := (Below.refl W.heap.size W).alloc (Nat.le_refl _) (.cells #[.int .i64 0, .int .i64 0, .int .i64 0, .slice none 0 0, .int .i64 0, .string ⟨#[]⟩, .int .i64 0, .int .i64 0, .string ⟨#[]⟩, .int .i64 0, .int .i64 0] 29)
  have hs1 : (W.alloc (.cells #[.int .i64 0, .int .i64 0, .int .i64 0, .slice none 0 0, .int .i64 0, .string ⟨#[]⟩, .int .i64 0, .int .i64 0, .string ⟨#[]⟩, .int .i64 0, .int .i64 0] 29)).heap.size = W.heap.size + 1 := by simp
  have CR := Lib.hid (dc_read A n c xs (W.alloc (.cells #[.int .i64 0, .int .i64 0, .int .i64 0, .slice none 0 0, .int .i64 0, .string ⟨#[]⟩, .int .i64 0, .int .i64 0, .string ⟨#[]⟩, .int .i64 0, .int .i64 0] 29)) hl (h.below bl0) hw hn hc)
  have HKN := Lib.hid hk
  have HAl := Lib.hid (show xs ≠ [] → ∀ ad, A = some ad → ad.block < W.heap.size from fun h0 ad e => by
    subst e
    obtain ⟨ad', e, h1, _⟩ := h 0 (by rw [bvs_len]; exact List.length_pos_iff.2 h0)
    cases e
    exact h1)
  have HBl := Lib.hid bl0
  clear h hw hn hk hc bl0
  go_enter Tryz.func11, Tryz.ntmps11
  go_wp2_with fail
  go_at_call 34; (with_reducible refine CR.out.mono ?_); rintro e w1 ⟨rfl, hr, hb⟩
  have HR1 := Lib.hid (HR0.out.kept hb)
  have HB1 := Lib.hid (HBl.out.trans (hb.mono (by simp)))
  have hw1 : W.heap.size + 1 ≤ w1.heap.size := hs1 ▸ hb.size
  rw [hs1] at hr ⊢
  have HX := Lib.hid (DxIs.start hr 29 #[.int .i64 0, .int .i64 0, .int .i64 0, .slice none 0 0, .int .i64 0, .string ⟨#[]⟩, .int .i64 0, .int .i64 0, .string ⟨#[]⟩, .int .i64 0, .int .i64 0] 27 3 (fun h0 ad e => by have := HAl.out h0 ad e; omega))
  have HR2 := Lib.hid ((HR1.out.alloc (.cells #[.pointer (some ⟨W.heap.size + 1, 0, none⟩)] 98)).alloc (.cells #[.int .i64 0, .int .i64 0, .int .i64 0, .slice none 0 0, .int .i64 0, .string ⟨#[]⟩, .int .i64 0, .int .i64 0, .string ⟨#[]⟩, .int .i64 0, .int .i64 0] 29))
  have HB2 := Lib.hid ((HB1.out.alloc (by omega) (.cells #[.pointer (some ⟨W.heap.size + 1, 0, none⟩)] 98)).alloc (by simp; omega) (.cells #[.int .i64 0, .int .i64 0, .int .i64 0, .slice none 0 0, .int .i64 0, .string ⟨#[]⟩, .int .i64 0, .int .i64 0, .string ⟨#[]⟩, .int .i64 0, .int .i64 0] 29))
  have hs2 : (w1.alloc (.cells #[.pointer (some ⟨W.heap.size + 1, 0, none⟩)] 98)).heap.size = w1.heap.size + 1 := by simp
  clear hr hb HR0 CR HAl HBl HB1 HR1 hs1
  go_wp2_with fail
  generalize hW0 : (w1.alloc (.cells #[.pointer (some ⟨W.heap.size + 1, 0, none⟩)] 98)).alloc (.cells #[.int .i64 0, .int .i64 0, .int .i64 0, .slice none 0 0, .int .i64 0, .string ⟨#[]⟩, .int .i64 0, .int .i64 0, .string ⟨#[]⟩, .int .i64 0, .int .i64 0] 29) = W0 at *
  have hRW : W.heap.size < w1.heap.size := by omega
  have hqW : W.heap.size < W.heap.size + 1 := by omega
  clear hW0 hs2
  generalize hq : W.heap.size + 1 = q at *
  generalize hj : w1.heap.size = j at *
  clear hj hq
  go_at_call 35; (with_reducible refine (show Calls Tryz.prog 35 #[.pointer (some ⟨j, 0, none⟩), .int .i64 7] W0 _ from lx_head HX.out.rd HX.out.lx HX.out.jq 7).mono ?_); rintro e w3 ⟨rfl, hr, hf⟩
  have HX3 := Lib.hid (HX.out.read hr hf)
  have HKD := Lib.hid (show kindD xs = numP xs M40 ⟨0, none⟩ from rfl)
  clear hr hf HX
  have HHD := Lib.hid (show headP xs (7 : Int) ⟨0, none⟩ = (numP xs M40 ⟨0, none⟩).2 by
    unfold headP
    rw [if_neg]
    rintro ⟨_, h⟩
    have hk := HKN.out
    rw [HKD.out] at hk
    omega)
  rw [show ((7 : Nat) : Int) = (7 : Int) from rfl] at HX3
  rw [HHD.out] at HX3
  simp only [show ((7 : Nat) : Int) = (7 : Int) from rfl, HHD.out]
  rw [HKD.out] at HKN
  clear HHD
  generalize hyd : numP xs M40 ⟨0, none⟩ = y at *
  clear hyd
  obtain ⟨k0, s1⟩ := y
  dsimp only at HX3 HKN HKD ⊢
  generalize hid : numP xs M40 s1 = y at *
  have HID := Lib.hid hid
  clear hid
  obtain ⟨id0, s2⟩ := y
  dsimp only at HX3 HID ⊢
  have hk1 : k0 = 6 := HKN.out
  subst hk1
  simp only [show ((6 : Nat) : Int) = (6 : Int) from rfl]
  have hcb := HX3.out.blk.cell
  have hfb := HX3.out.blk.frozen
  have HX4 := Lib.hid (show DxIs W0 q j (j + 1) 29 A n c xs (rqC (.slice none 0 0) ⟨6, (id0 : Int), 0, [], cell0, cell0, 0⟩) s2 27 3 (.slice none 0 0) 0 [] ((w3.setCell ⟨j + 1, 0, none⟩ (.int .i64 6)).setCell ⟨j + 1, 1, none⟩ (.int .i64 (id0 : Int))) from (HX3.out.put (cs1 := rqC (.slice none 0 0) ⟨6, 0, 0, [], cell0, cell0, 0⟩) 0 (.int .i64 6) rfl).put 1 (.int .i64 (id0 : Int)) rfl)
  clear HX3
  go_wp2_with fail
  generalize ((w3.setCell ⟨j + 1, 0, none⟩ (.int .i64 6)).setCell ⟨j + 1, 1, none⟩ (.int .i64 (id0 : Int))) = wg5 at *
  go_at_call 36; (with_reducible refine (lx_num HX4.out.rd HX4.out.lx).mono ?_); rintro e wh5 ⟨rfl, hr, hf⟩
  have HN5 := Lib.hid (HX4.out.read hr hf)
  clear hr hf hcb hfb HX4
  generalize hnn : numP xs M40 s2 = y at *
  have HE5 := Lib.hid hnn
  clear hnn
  obtain ⟨ep0, s3⟩ := y
  dsimp only at HN5 HE5 ⊢
  have hcb := HN5.out.blk.cell
  have hfb := HN5.out.blk.frozen
  have HX5 := Lib.hid (HN5.out.put (cs1 := rqC (.slice none 0 0) ⟨6, (id0 : Int), (ep0 : Int), [], cell0, cell0, 0⟩) 2 (.int .i64 (ep0 : Int)) rfl)
  have HRD := Lib.hid (show readD xs = ((⟨6, (id0 : Int), (ep0 : Int), [], cell0, cell0, 0⟩ : Rq), s3) by
    unfold readD bodyD
    rw [HKD.out]
    simp [HID.out, HE5.out])
  go_wp2_with fail
  generalize (wh5.setCell ⟨j + 1, 2, none⟩ (.int .i64 (ep0 : Int))) = wl at *
  go_loopw [8] (fun t8 wz => t8 = .int .i64 0 ∧ Hid (DxIs W0 q j (j + 1) 29 A n c xs (rqC (.slice none 0 0) ⟨6, (id0 : Int), (ep0 : Int), [], cell0, cell0, 0⟩) s3 27 3 (.slice none 0 0) 0 [] wz)) (fun _ _ => 0)
  case atStart => exact ⟨rfl, HX5⟩
  case round =>
    obtain ⟨rfl, HP⟩ := hrel
    rename World => wz
    clear hcb hfb
    obtain ⟨r0, hr0⟩ : ∃ r0 : Rq, r0 = ⟨6, (id0 : Int), (ep0 : Int), [], cell0, cell0, 0⟩ := ⟨_, rfl⟩
    obtain ⟨vz, hv0⟩ : ∃ vz : Value, vz = .slice none 0 0 := ⟨_, rfl⟩
    have HX7 := Lib.hid (show DxIs W0 q j (j + 1) 29 A n c xs (rqC vz r0) (readD xs).2 27 3 vz r0.cs.length (cellCs r0.cs) wz by
      rw [hv0, hr0, HRD.out]
      exact HP.out)
    have HRE := Lib.hid (show (readD xs).2.fault = none → r0 = (readD xs).1 from fun _ => by rw [hr0, HRD.out])
    clear hr0 HP hv0
    have HDEC := Lib.hid (show decRq xs = if (checkD (checkRq (readD xs).1) (endP xs (readD xs).2)).fault.isSome then (rq0, (checkD (checkRq (readD xs).1) (endP xs (readD xs).2)).fault) else ((readD xs).1, none) by
      unfold decRq
      rw [if_neg (by rw [HKD.out]; dsimp only; omega)])
    have HOK := Lib.hid (readD_ok xs)
    generalize readD xs = y at *
    obtain ⟨r', s7⟩ := y
    dsimp only at HX7 HRE HDEC HOK
    have l0 : wz.cell? ⟨j, 0, none⟩ = some (.pointer (some ⟨q, 0, none⟩)) := HX7.out.lx.cell 0
    go_wp2_with fail
    go_at_call 39; (with_reducible refine (dc_end HX7.out.rd).mono ?_); rintro e w8 ⟨rfl, hr, hf⟩
    have HX8 := Lib.hid (HX7.out.read hr hf)
    clear hr hf l0 HX7
    have l0 : w8.cell? ⟨j, 0, none⟩ = some (.pointer (some ⟨q, 0, none⟩)) := HX8.out.lx.cell 0
    have p2 : w8.cell? ⟨q, 2, none⟩ = some (.int .i64 (endP xs s7).err) := HX8.out.rd.blk.cell 2
    rcases hfl : (endP xs s7).fault with _ | ⟨code, pl⟩
    · have hre := HRE.out (endP_none2 hfl)
      subst hre
      rw [(DocIs.err_no hfl).1] at p2
      obtain ⟨As, cz, hvz⟩ := own_form3 HX8.out.own
      subst hvz
      have HCR := Lib.hid (CellsOwn.rd_ (show CellsOwn w8 W0.heap.size (.slice As r0.cs.length cz) r0.cs from HX8.out.own))
      have hcb := HX8.out.blk.cell
      go_wp2_with fail
      go_at_call 40; (with_reducible refine (rcheck_rq As _ cz r0 w8 rfl HCR.out.1 HCR.out.2 HOK.out).mono ?_); rintro e w9 ⟨rfl, hb9⟩
      have HX9 := Lib.hid (HX8.out.kept hb9)
      have HR9 := Lib.hid (HR2.out.tur HX9.out.tur (by omega))
      have HB9 := Lib.hid (HB2.out.trans (HX9.out.tur.below HB2.out.size (fun k e => by omega)))
      clear hb9 hcb l0 p2 HX8
      have hfR := HR9.out.frozen
      have hcR := HR9.out.cell
      by_cases hck : checkRq r0 = 0
      · have HD := Lib.hid (show decRq xs = (r0, none) by
          rw [HDEC.out]
          unfold checkD
          rw [hfl, hck]
          simp [RS.fail, hfl])
        rw [hck]
        have hcb := HX9.out.blk.cell
        have HS := Lib.hid (set11 HR9.out (.int .i64 r0.kind) (.int .i64 r0.id) (.int .i64 r0.epoch) (.slice As r0.cs.length cz) (.int .i64 r0.frm.view) (.string r0.frm.key) (.int .i64 r0.frm.start) (.int .i64 r0.too.view) (.string r0.too.key) (.int .i64 r0.too.start) (.int .i64 r0.limit))
        go_wp2
        generalize (World.setCell (World.setCell (World.setCell (World.setCell (World.setCell (World.setCell (World.setCell (World.setCell (World.setCell (World.setCell (World.setCell w9 ⟨W.heap.size, 0, none⟩ (.int .i64 r0.kind)) ⟨W.heap.size, 1, none⟩ (.int .i64 r0.id)) ⟨W.heap.size, 2, none⟩ (.int .i64 r0.epoch)) ⟨W.heap.size, 3, none⟩ (.slice As r0.cs.length cz)) ⟨W.heap.size, 4, none⟩ (.int .i64 r0.frm.view)) ⟨W.heap.size, 5, none⟩ (.string r0.frm.key)) ⟨W.heap.size, 6, none⟩ (.int .i64 r0.frm.start)) ⟨W.heap.size, 7, none⟩ (.int .i64 r0.too.view)) ⟨W.heap.size, 8, none⟩ (.string r0.too.key)) ⟨W.heap.size, 9, none⟩ (.int .i64 r0.too.start)) ⟨W.heap.size, 10, none⟩ (.int .i64 r0.limit)) = wC at HS ⊢
        have hc7 := HS.out.1.cell
        exact bodyPost_ret (v := .tuple #[.agg (rqC (.slice As r0.cs.length cz) r0), .int .i64 0, .int .i64 0]) (by simp [results, Tryz.results11, go_sem, hc7]) rfl
          ⟨HB9.out.trans (HS.out.2.below HB9.out.size (fun k e => by omega)), by rw [HD.out]; exact ⟨_, rfl, own_low (show CellsOwn w9 W0.heap.size (.slice As r0.cs.length cz) r0.cs from HX9.out.own) HS.out.2 (fun k e => by subst e; have := HX9.out.jl; omega) (by have := HX9.out.jl; omega)⟩⟩
      · have HD := Lib.hid (show decRq xs = (rq0, some (checkRq r0, 0)) by
          rw [HDEC.out]
          unfold checkD
          rw [hfl]
          simp [RS.fail, hfl, hck])
        have hz : (checkRq r0 != 0) = true := by simpa using hck
        have HS := Lib.hid (set11 HR9.out (.int .i64 0) (.int .i64 0) (.int .i64 0) (.slice none 0 0) (.int .i64 0) (.string ⟨#[]⟩) (.int .i64 0) (.int .i64 0) (.string ⟨#[]⟩) (.int .i64 0) (.int .i64 0))
        go_wp2
        generalize (World.setCell (World.setCell (World.setCell (World.setCell (World.setCell (World.setCell (World.setCell (World.setCell (World.setCell (World.setCell (World.setCell w9 ⟨W.heap.size, 0, none⟩ (.int .i64 0)) ⟨W.heap.size, 1, none⟩ (.int .i64 0)) ⟨W.heap.size, 2, none⟩ (.int .i64 0)) ⟨W.heap.size, 3, none⟩ (.slice none 0 0)) ⟨W.heap.size, 4, none⟩ (.int .i64 0)) ⟨W.heap.size, 5, none⟩ (.string ⟨#[]⟩)) ⟨W.heap.size, 6, none⟩ (.int .i64 0)) ⟨W.heap.size, 7, none⟩ (.int .i64 0)) ⟨W.heap.size, 8, none⟩ (.string ⟨#[]⟩)) ⟨W.heap.size, 9, none⟩ (.int .i64 0)) ⟨W.heap.size, 10, none⟩ (.int .i64 0)) = wC at HS ⊢
        have hc7 := HS.out.1.cell
        exact bodyPost_ret (v := .tuple #[.agg (rqC nilS rq0), .int .i64 (checkRq r0), .int .i64 0]) (by simp [results, Tryz.results11, go_sem, hc7, rq0, cell0]) rfl
          ⟨HB9.out.trans (HS.out.2.below HB9.out.size (fun k e => by omega)), by rw [HD.out]⟩
    · have HD := Lib.hid (show decRq xs = (rq0, some (code, pl)) by rw [HDEC.out]; unfold checkD; simp [hfl])
      have hne := HX8.out.rd.ok code pl hfl
      have hcode : (endP xs s7).err = code := by unfold RS.err; rw [hfl]
      have hpl : (endP xs s7).on = pl := by unfold RS.on; rw [hfl]
      rw [hcode] at p2
      have HQB := Lib.hid (show Blk w8 q 103 (DcC (.slice A n c) ((endP xs s7).pos : Int) code pl) by have h := HX8.out.rd.blk; rw [hcode, hpl] at h; exact h)
      have HLB := Lib.hid HX8.out.lx
      have HR8 := Lib.hid (HR2.out.tur HX8.out.tur (by omega))
      have HB8 := Lib.hid (HB2.out.trans (HX8.out.tur.below HB2.out.size (fun k e => by omega)))
      have hz : (code != 0) = true := by unfold bne; rw [hne]; rfl
      clear hcode hpl hne hfl HX8 HDEC HRE
      go_wp2_with fail
      clear l0 p2
      (refine wp_region_held_drew (S := fun w9 => LxB w9 j q ∧ Blk w9 q 103 (DcC (.slice A n c) ((endP xs s7).pos : Int) code pl)) (by kernel_rfl) ⟨HLB.out.drew, HQB.out.drew⟩ (fun hHeld => ?_))
      have HLd := Lib.hid HLB.out.drew
      have HQd := Lib.hid HQB.out.drew
      have HRd := Lib.hid HR8.out.drew
      have HBd := Lib.hid (HB8.out.trans (Below.refl _ _).drew)
      have hsz := HB8.out.size
      clear HLB HQB HR8 HB8
      generalize w8.drew = wd at *
      (refine take_q (i := 0) (d := 76) (v := ?v152) rfl rfl (by kernel_rfl) (by kernel_rfl) (by kernel_rfl) (fun _ _ _ h => h) (by kernel_rfl) ?hy152 (by assumption) ?rest152)
      case hy152 => (intro w9 hSw; first | (go_simp; done) | (go_simp; with_reducible rfl))
      (try simp only [Act.put, List.setIfInBounds_toArray, List.set_cons_zero, List.set_cons_succ])
      (refine take_q (i := 1) (d := 77) (v := ?v153) rfl rfl (by kernel_rfl) (by kernel_rfl) (by kernel_rfl) (fun _ _ _ h => h) (by kernel_rfl) ?hy153 (by assumption) ?rest153)
      case hy153 => (intro w9 hSw; first | (go_simp; done) | (go_simp; with_reducible rfl))
      (try simp only [Act.put, List.setIfInBounds_toArray, List.set_cons_zero, List.set_cons_succ])
      (refine take_q (i := 2) (d := 78) (v := ?v154) rfl rfl (by kernel_rfl) (by kernel_rfl) (by kernel_rfl) (fun _ _ _ h => h) (by kernel_rfl) ?hy154 (by assumption) ?rest154)
      case hy154 => (intro w9 hSw; first | (go_simp; done) | (go_simp; with_reducible rfl))
      (try simp only [Act.put, List.setIfInBounds_toArray, List.set_cons_zero, List.set_cons_succ])
      (refine take_q (i := 3) (d := 79) (v := ?v155) rfl rfl (by kernel_rfl) (by kernel_rfl) (by kernel_rfl) (fun _ _ _ h => h) (by kernel_rfl) ?hy155 (by assumption) ?rest155)
      case hy155 => (intro w9 hSw; first | (go_simp; done) | (go_simp; with_reducible rfl))
      (try simp only [Act.put, List.setIfInBounds_toArray, List.set_cons_zero, List.set_cons_succ])
      (refine take_q (i := 4) (d := 80) (v := ?v156) rfl rfl (by kernel_rfl) (by kernel_rfl) (by kernel_rfl) (fun _ _ _ h => h) (by kernel_rfl) ?hy156 (by assumption) ?rest156)
      case hy156 => (intro w9 hSw; have hc9 := Blk.cell hSw.1; clear hSw; first | (go_simp; done) | (go_simp; with_reducible rfl))
      (try simp only [Act.put, List.setIfInBounds_toArray, List.set_cons_zero, List.set_cons_succ])
      (refine take_q (i := 5) (d := 81) (v := ?v157) rfl rfl (by kernel_rfl) (by kernel_rfl) (by kernel_rfl) (fun _ _ _ h => h) (by kernel_rfl) ?hy157 (by assumption) ?rest157)
      case hy157 => (intro w9 hSw; first | (go_simp; done) | (go_simp; with_reducible rfl))
      (try simp only [Act.put, List.setIfInBounds_toArray, List.set_cons_zero, List.set_cons_succ])
      (refine take_q (i := 6) (d := 82) (v := ?v158) rfl rfl (by kernel_rfl) (by kernel_rfl) (by kernel_rfl) (fun _ _ _ h => h) (by kernel_rfl) ?hy158 (by assumption) ?rest158)
      case hy158 => (intro w9 hSw; first | (go_simp; done) | (go_simp; with_reducible rfl))
      (try simp only [Act.put, List.setIfInBounds_toArray, List.set_cons_zero, List.set_cons_succ])
      (refine take_q (i := 7) (d := 83) (v := ?v159) rfl rfl (by kernel_rfl) (by kernel_rfl) (by kernel_rfl) (fun _ _ _ h => h) (by kernel_rfl) ?hy159 (by assumption) ?rest159)
      case hy159 => (intro w9 hSw; have hc9 := Blk.cell hSw.2; clear hSw; first | (go_simp; done) | (go_simp; with_reducible rfl))
      (try simp only [Act.put, List.setIfInBounds_toArray, List.set_cons_zero, List.set_cons_succ])
      (refine take_q (i := 8) (d := 84) (v := ?v160) rfl rfl (by kernel_rfl) (by kernel_rfl) (by kernel_rfl) (fun _ _ _ h => h) (by kernel_rfl) ?hy160 (by assumption) ?rest160)
      case hy160 => (intro w9 hSw; first | (go_simp; done) | (go_simp; with_reducible rfl))
      (try simp only [Act.put, List.setIfInBounds_toArray, List.set_cons_zero, List.set_cons_succ])
      (refine take_q (i := 9) (d := 85) (v := ?v161) rfl rfl (by kernel_rfl) (by kernel_rfl) (by kernel_rfl) (fun _ _ _ h => h) (by kernel_rfl) ?hy161 (by assumption) ?rest161)
      case hy161 => (intro w9 hSw; first | (go_simp; done) | (go_simp; with_reducible rfl))
      (try simp only [Act.put, List.setIfInBounds_toArray, List.set_cons_zero, List.set_cons_succ])
      (refine take_q (i := 10) (d := 86) (v := ?v162) rfl rfl (by kernel_rfl) (by kernel_rfl) (by kernel_rfl) (fun _ _ _ h => h) (by kernel_rfl) ?hy162 (by assumption) ?rest162)
      case hy162 => (intro w9 hSw; first | (go_simp; done) | (go_simp; with_reducible rfl))
      (try simp only [Act.put, List.setIfInBounds_toArray, List.set_cons_zero, List.set_cons_succ])
      (refine take_q (i := 11) (d := 87) (v := ?v163) rfl rfl (by kernel_rfl) (by kernel_rfl) (by kernel_rfl) (fun _ _ _ h => h) (by kernel_rfl) ?hy163 (by assumption) ?rest163)
      case hy163 => (intro w9 hSw; have hc9 := Blk.cell hSw.1; clear hSw; first | (go_simp; done) | (go_simp; with_reducible rfl))
      (try simp only [Act.put, List.setIfInBounds_toArray, List.set_cons_zero, List.set_cons_succ])
      (refine take_q (i := 12) (d := 88) (v := ?v164) rfl rfl (by kernel_rfl) (by kernel_rfl) (by kernel_rfl) (fun _ _ _ h => h) (by kernel_rfl) ?hy164 (by assumption) ?rest164)
      case hy164 => (intro w9 hSw; first | (go_simp; done) | (go_simp; with_reducible rfl))
      (try simp only [Act.put, List.setIfInBounds_toArray, List.set_cons_zero, List.set_cons_succ])
      (refine take_q (i := 13) (d := 89) (v := ?v165) rfl rfl (by kernel_rfl) (by kernel_rfl) (by kernel_rfl) (fun _ _ _ h => h) (by kernel_rfl) ?hy165 (by assumption) ?rest165)
      case hy165 => (intro w9 hSw; first | (go_simp; done) | (go_simp; with_reducible rfl))
      (try simp only [Act.put, List.setIfInBounds_toArray, List.set_cons_zero, List.set_cons_succ])
      (refine take_q (i := 14) (d := 90) (v := ?v166) rfl rfl (by kernel_rfl) (by kernel_rfl) (by kernel_rfl) (fun _ _ _ h => h) (by kernel_rfl) ?hy166 (by assumption) ?rest166)
      case hy166 => (intro w9 hSw; have hc9 := Blk.cell hSw.2; clear hSw; first | (go_simp; done) | (go_simp; with_reducible rfl))
      (try simp only [Act.put, List.setIfInBounds_toArray, List.set_cons_zero, List.set_cons_succ])
      have hfR := HRd.out.frozen
      have hcR := HRd.out.cell
      have HS := Lib.hid (set11 HRd.out (.int .i64 0) (.int .i64 0) (.int .i64 0) (.slice none 0 0) (.int .i64 0) (.string ⟨#[]⟩) (.int .i64 0) (.int .i64 0) (.string ⟨#[]⟩) (.int .i64 0) (.int .i64 0))
      (refine wpAnyH_ready (rs := [15]) (by kernel_rfl) (by simp) ?_)
      (refine AllReadyH.cons (o := _) rfl (fun K hK => ?_) AllReadyH.nil)
      go_simp
      generalize (World.setCell (World.setCell (World.setCell (World.setCell (World.setCell (World.setCell (World.setCell (World.setCell (World.setCell (World.setCell (World.setCell wd ⟨W.heap.size, 0, none⟩ (.int .i64 0)) ⟨W.heap.size, 1, none⟩ (.int .i64 0)) ⟨W.heap.size, 2, none⟩ (.int .i64 0)) ⟨W.heap.size, 3, none⟩ (.slice none 0 0)) ⟨W.heap.size, 4, none⟩ (.int .i64 0)) ⟨W.heap.size, 5, none⟩ (.string ⟨#[]⟩)) ⟨W.heap.size, 6, none⟩ (.int .i64 0)) ⟨W.heap.size, 7, none⟩ (.int .i64 0)) ⟨W.heap.size, 8, none⟩ (.string ⟨#[]⟩)) ⟨W.heap.size, 9, none⟩ (.int .i64 0)) ⟨W.heap.size, 10, none⟩ (.int .i64 0)) = wC at HS ⊢
      (refine hK.out _ _ ⟨HLd.out.tur HS.out.2 (by omega), HQd.out.tur HS.out.2 (by omega)⟩ (fun hHeld => ?_))
      clear hK K
      (refine take_q (i := 16) (d := 3) (v := ?v167) rfl rfl (by kernel_rfl) (by kernel_rfl) (by kernel_rfl) (fun _ _ _ h => h) (by kernel_rfl) ?hy167 (by assumption) ?rest167)
      case hy167 => (intro w9 hSw; first | (go_simp; done) | (go_simp; with_reducible rfl))
      (try simp only [Act.put, List.setIfInBounds_toArray, List.set_cons_zero, List.set_cons_succ])
      (refine take_q (i := 17) (d := 4) (v := ?v168) rfl rfl (by kernel_rfl) (by kernel_rfl) (by kernel_rfl) (fun _ _ _ h => h) (by kernel_rfl) ?hy168 (by assumption) ?rest168)
      case hy168 => (intro w9 hSw; first | (go_simp; done) | (go_simp; with_reducible rfl))
      (try simp only [Act.put, List.setIfInBounds_toArray, List.set_cons_zero, List.set_cons_succ])
      (refine wpAnyH_done (by kernel_rfl) ?_ _)
      have hc7 := HS.out.1.cell
      go_wp2
      exact bodyPost_ret (v := .tuple #[.agg (rqC nilS rq0), .int .i64 code, .int .i64 pl]) (by simp [results, Tryz.results11, go_sem, hc7, rq0, cell0]) rfl
        ⟨HBd.out.trans (HS.out.2.below HBd.out.size (fun k e => by omega)), by rw [HD.out]⟩
set_option maxHeartbeats 8000000 in
set_option maxRecDepth 100000 in
theorem doc_rq_scan (A : Option Addr) (n c : Nat) (xs : List Int) (hk : (kindD xs).1 = 3) (W : World) (hl : xs.length = n) (h : CellsAt W A (bvs xs)) (hw : ∀ x ∈ xs, (Lit.int .u8 x).wf = true) (hn : n ≤ 140737488355328) (hc : n ≤ c) :
    Calls Tryz.prog 11 #[.slice A n c] W (DocQ W (decRq xs)) := by
  have HR0 := Lib.hid (Blk.new W 29 #[.int .i64 0, .int .i64 0, .int .i64 0, .slice none 0 0, .int .i64 0, .string ⟨#[]⟩, .int .i64 0, .int .i64 0, .string ⟨#[]⟩, .int .i64 0, .int .i64 0])
  have bl0 := (Below.refl W.heap.size W).alloc (Nat.le_refl _) (.cells #[.int .i64 0, .int .i64 0, .int .i64 0, .slice none 0 0, .int .i64 0, .string ⟨#[]⟩, .int .i64 0, .int .i64 0, .string ⟨#[]⟩, .int .i64 0, .int .i64 0] 29)
  have hs1 : (W.alloc (.cells #[.int .i64 0, .int .i64 0, .int .i64 0, .slice none 0 0, .int .i64 0, .string ⟨#[]⟩, .int .i64 0, .int .i64 0, .string ⟨#[]⟩, .int .i64 0, .int .i64 0] 29)).heap.size = W.heap.size + 1 := by simp
  have CR := Lib.hid (dc_read A n c xs (W.alloc (.cells #[.int .i64 0, .int .i64 0, .int .i64 0, .slice none 0 0, .int .i64 0, .string ⟨#[]⟩, .int .i64 0, .int .i64 0, .string ⟨#[]⟩, .int .i64 0, .int .i64 0] 29)) hl (h.below bl0) hw hn hc)
  have HKN := Lib.hid hk
  have HAl := Lib.hid (show xs ≠ [] → ∀ ad, A = some ad → ad.block < W.heap.size from fun h0 ad e => by
    subst e
    obtain ⟨ad', e, h1, _⟩ := h 0 (by rw [bvs_len]; exact List.length_pos_iff.2 h0)
    cases e
    exact h1)
  have HBl := Lib.hid bl0
  clear h hw hn hk hc bl0
  go_enter Tryz.func11, Tryz.ntmps11
  go_wp2_with fail
  go_at_call 34; (with_reducible refine CR.out.mono ?_); rintro e w1 ⟨rfl, hr, hb⟩
  have HR1 := Lib.hid (HR0.out.kept hb)
  have HB1 := Lib.hid (HBl.out.trans (hb.mono (by simp)))
  have hw1 : W.heap.size + 1 ≤ w1.heap.size := hs1 ▸ hb.size
  rw [hs1] at hr ⊢
  have HX := Lib.hid (DxIs.start hr 29 #[.int .i64 0, .int .i64 0, .int .i64 0, .slice none 0 0, .int .i64 0, .string ⟨#[]⟩, .int .i64 0, .int .i64 0, .string ⟨#[]⟩, .int .i64 0, .int .i64 0] 27 3 (fun h0 ad e => by have := HAl.out h0 ad e; omega))
  have HR2 := Lib.hid ((HR1.out.alloc (.cells #[.pointer (some ⟨W.heap.size + 1, 0, none⟩)] 98)).alloc (.cells #[.int .i64 0, .int .i64 0, .int .i64 0, .slice none 0 0, .int .i64 0, .string ⟨#[]⟩, .int .i64 0, .int .i64 0, .string ⟨#[]⟩, .int .i64 0, .int .i64 0] 29))
  have HB2 := Lib.hid ((HB1.out.alloc (by omega) (.cells #[.pointer (some ⟨W.heap.size + 1, 0, none⟩)] 98)).alloc (by simp; omega) (.cells #[.int .i64 0, .int .i64 0, .int .i64 0, .slice none 0 0, .int .i64 0, .string ⟨#[]⟩, .int .i64 0, .int .i64 0, .string ⟨#[]⟩, .int .i64 0, .int .i64 0] 29))
  have hs2 : (w1.alloc (.cells #[.pointer (some ⟨W.heap.size + 1, 0, none⟩)] 98)).heap.size = w1.heap.size + 1 := by simp
  clear hr hb HR0 CR HAl HBl HB1 HR1 hs1
  go_wp2_with fail
  generalize hW0 : (w1.alloc (.cells #[.pointer (some ⟨W.heap.size + 1, 0, none⟩)] 98)).alloc (.cells #[.int .i64 0, .int .i64 0, .int .i64 0, .slice none 0 0, .int .i64 0, .string ⟨#[]⟩, .int .i64 0, .int .i64 0, .string ⟨#[]⟩, .int .i64 0, .int .i64 0] 29) = W0 at *
  have hRW : W.heap.size < w1.heap.size := by omega
  have hqW : W.heap.size < W.heap.size + 1 := by omega
  clear hW0 hs2
  generalize hq : W.heap.size + 1 = q at *
  generalize hj : w1.heap.size = j at *
  clear hj hq
  go_at_call 35; (with_reducible refine (show Calls Tryz.prog 35 #[.pointer (some ⟨j, 0, none⟩), .int .i64 7] W0 _ from lx_head HX.out.rd HX.out.lx HX.out.jq 7).mono ?_); rintro e w3 ⟨rfl, hr, hf⟩
  have HX3 := Lib.hid (HX.out.read hr hf)
  have HKD := Lib.hid (show kindD xs = numP xs M40 ⟨0, none⟩ from rfl)
  clear hr hf HX
  have HHD := Lib.hid (show headP xs (7 : Int) ⟨0, none⟩ = (numP xs M40 ⟨0, none⟩).2 by
    unfold headP
    rw [if_neg]
    rintro ⟨_, h⟩
    have hk := HKN.out
    rw [HKD.out] at hk
    omega)
  rw [show ((7 : Nat) : Int) = (7 : Int) from rfl] at HX3
  rw [HHD.out] at HX3
  simp only [show ((7 : Nat) : Int) = (7 : Int) from rfl, HHD.out]
  rw [HKD.out] at HKN
  clear HHD
  generalize hyd : numP xs M40 ⟨0, none⟩ = y at *
  clear hyd
  obtain ⟨k0, s1⟩ := y
  dsimp only at HX3 HKN HKD ⊢
  generalize hid : numP xs M40 s1 = y at *
  have HID := Lib.hid hid
  clear hid
  obtain ⟨id0, s2⟩ := y
  dsimp only at HX3 HID ⊢
  have hk1 : k0 = 3 := HKN.out
  subst hk1
  simp only [show ((3 : Nat) : Int) = (3 : Int) from rfl]
  have hcb := HX3.out.blk.cell
  have hfb := HX3.out.blk.frozen
  have HX4 := Lib.hid (show DxIs W0 q j (j + 1) 29 A n c xs (rqC (.slice none 0 0) ⟨3, (id0 : Int), 0, [], cell0, cell0, 0⟩) s2 27 3 (.slice none 0 0) 0 [] ((w3.setCell ⟨j + 1, 0, none⟩ (.int .i64 3)).setCell ⟨j + 1, 1, none⟩ (.int .i64 (id0 : Int))) from (HX3.out.put (cs1 := rqC (.slice none 0 0) ⟨3, 0, 0, [], cell0, cell0, 0⟩) 0 (.int .i64 3) rfl).put 1 (.int .i64 (id0 : Int)) rfl)
  clear HX3
  go_wp2_with fail
  generalize ((w3.setCell ⟨j + 1, 0, none⟩ (.int .i64 3)).setCell ⟨j + 1, 1, none⟩ (.int .i64 (id0 : Int))) = wg5 at *
  go_at_call 36; (with_reducible refine (lx_num HX4.out.rd HX4.out.lx).mono ?_); rintro e wh5 ⟨rfl, hr, hf⟩
  have HN5 := Lib.hid (HX4.out.read hr hf)
  clear hr hf hcb hfb HX4
  generalize hnn : numP xs M40 s2 = y at *
  have HE5 := Lib.hid hnn
  clear hnn
  obtain ⟨ep0, s3⟩ := y
  dsimp only at HN5 HE5 ⊢
  have hcb := HN5.out.blk.cell
  have hfb := HN5.out.blk.frozen
  have HX5 := Lib.hid (HN5.out.put (cs1 := rqC (.slice none 0 0) ⟨3, (id0 : Int), (ep0 : Int), [], cell0, cell0, 0⟩) 2 (.int .i64 (ep0 : Int)) rfl)
  go_wp2_with fail
  generalize (wh5.setCell ⟨j + 1, 2, none⟩ (.int .i64 (ep0 : Int))) = wg6 at *
  go_at_call 38; (with_reducible refine (lx_cell HX5.out.rd HX5.out.lx HX5.out.jq).mono ?_); rintro e wh6 ⟨rfl, hr, hf⟩
  have HN6 := Lib.hid (HX5.out.read hr hf)
  clear hr hf hcb hfb HX5
  generalize hnn : cellP xs s3 = y at *
  have HE6 := Lib.hid hnn
  clear hnn
  obtain ⟨x1, s4⟩ := y
  dsimp only at HN6 HE6 ⊢
  have hcb := HN6.out.blk.cell
  have hfb := HN6.out.blk.frozen
  have HX6 := Lib.hid (((HN6.out.put (cs1 := rqC (.slice none 0 0) ⟨3, (id0 : Int), (ep0 : Int), [], ⟨x1.view, cell0.key, cell0.start⟩, cell0, 0⟩) 4 (.int .i64 x1.view) rfl).put (cs1 := rqC (.slice none 0 0) ⟨3, (id0 : Int), (ep0 : Int), [], ⟨x1.view, x1.key, cell0.start⟩, cell0, 0⟩) 5 (.string x1.key) rfl).put (cs1 := rqC (.slice none 0 0) ⟨3, (id0 : Int), (ep0 : Int), [], x1, cell0, 0⟩) 6 (.int .i64 x1.start) rfl)
  go_wp2_with fail
  generalize (World.setCell (World.setCell (World.setCell wh6 ⟨j + 1, 4, none⟩ (.int .i64 x1.view)) ⟨j + 1, 5, none⟩ (.string x1.key)) ⟨j + 1, 6, none⟩ (.int .i64 x1.start)) = wg7 at *
  go_at_call 38; (with_reducible refine (lx_cell HX6.out.rd HX6.out.lx HX6.out.jq).mono ?_); rintro e wh7 ⟨rfl, hr, hf⟩
  have HN7 := Lib.hid (HX6.out.read hr hf)
  clear hr hf hcb hfb HX6
  generalize hnn : cellP xs s4 = y at *
  have HE7 := Lib.hid hnn
  clear hnn
  obtain ⟨x2, s5⟩ := y
  dsimp only at HN7 HE7 ⊢
  have hcb := HN7.out.blk.cell
  have hfb := HN7.out.blk.frozen
  have HX7 := Lib.hid (((HN7.out.put (cs1 := rqC (.slice none 0 0) ⟨3, (id0 : Int), (ep0 : Int), [], x1, ⟨x2.view, cell0.key, cell0.start⟩, 0⟩) 7 (.int .i64 x2.view) rfl).put (cs1 := rqC (.slice none 0 0) ⟨3, (id0 : Int), (ep0 : Int), [], x1, ⟨x2.view, x2.key, cell0.start⟩, 0⟩) 8 (.string x2.key) rfl).put (cs1 := rqC (.slice none 0 0) ⟨3, (id0 : Int), (ep0 : Int), [], x1, x2, 0⟩) 9 (.int .i64 x2.start) rfl)
  go_wp2_with fail
  generalize (World.setCell (World.setCell (World.setCell wh7 ⟨j + 1, 7, none⟩ (.int .i64 x2.view)) ⟨j + 1, 8, none⟩ (.string x2.key)) ⟨j + 1, 9, none⟩ (.int .i64 x2.start)) = wg8 at *
  go_at_call 36; (with_reducible refine (lx_num HX7.out.rd HX7.out.lx).mono ?_); rintro e wh8 ⟨rfl, hr, hf⟩
  have HN8 := Lib.hid (HX7.out.read hr hf)
  clear hr hf hcb hfb HX7
  generalize hnn : numP xs M40 s5 = y at *
  have HE8 := Lib.hid hnn
  clear hnn
  obtain ⟨lim, s6⟩ := y
  dsimp only at HN8 HE8 ⊢
  have hcb := HN8.out.blk.cell
  have hfb := HN8.out.blk.frozen
  have HX8 := Lib.hid (HN8.out.put (cs1 := rqC (.slice none 0 0) ⟨3, (id0 : Int), (ep0 : Int), [], x1, x2, (lim : Int)⟩) 10 (.int .i64 (lim : Int)) rfl)
  have HRD := Lib.hid (show readD xs = ((⟨3, (id0 : Int), (ep0 : Int), [], x1, x2, (lim : Int)⟩ : Rq), s6) by
    unfold readD bodyD
    rw [HKD.out]
    simp [HID.out, HE5.out, HE6.out, HE7.out, HE8.out])
  go_wp2_with fail
  generalize (wh8.setCell ⟨j + 1, 10, none⟩ (.int .i64 (lim : Int))) = wl at *
  go_loopw [8] (fun t8 wz => t8 = .int .i64 0 ∧ Hid (DxIs W0 q j (j + 1) 29 A n c xs (rqC (.slice none 0 0) ⟨3, (id0 : Int), (ep0 : Int), [], x1, x2, (lim : Int)⟩) s6 27 3 (.slice none 0 0) 0 [] wz)) (fun _ _ => 0)
  case atStart => exact ⟨rfl, HX8⟩
  case round =>
    obtain ⟨rfl, HP⟩ := hrel
    rename World => wz
    clear hcb hfb
    obtain ⟨r0, hr0⟩ : ∃ r0 : Rq, r0 = ⟨3, (id0 : Int), (ep0 : Int), [], x1, x2, (lim : Int)⟩ := ⟨_, rfl⟩
    obtain ⟨vz, hv0⟩ : ∃ vz : Value, vz = .slice none 0 0 := ⟨_, rfl⟩
    have HX7 := Lib.hid (show DxIs W0 q j (j + 1) 29 A n c xs (rqC vz r0) (readD xs).2 27 3 vz r0.cs.length (cellCs r0.cs) wz by
      rw [hv0, hr0, HRD.out]
      exact HP.out)
    have HRE := Lib.hid (show (readD xs).2.fault = none → r0 = (readD xs).1 from fun _ => by rw [hr0, HRD.out])
    clear hr0 HP hv0
    have HDEC := Lib.hid (show decRq xs = if (checkD (checkRq (readD xs).1) (endP xs (readD xs).2)).fault.isSome then (rq0, (checkD (checkRq (readD xs).1) (endP xs (readD xs).2)).fault) else ((readD xs).1, none) by
      unfold decRq
      rw [if_neg (by rw [HKD.out]; dsimp only; omega)])
    have HOK := Lib.hid (readD_ok xs)
    generalize readD xs = y at *
    obtain ⟨r', s7⟩ := y
    dsimp only at HX7 HRE HDEC HOK
    have l0 : wz.cell? ⟨j, 0, none⟩ = some (.pointer (some ⟨q, 0, none⟩)) := HX7.out.lx.cell 0
    go_wp2_with fail
    go_at_call 39; (with_reducible refine (dc_end HX7.out.rd).mono ?_); rintro e w8 ⟨rfl, hr, hf⟩
    have HX8 := Lib.hid (HX7.out.read hr hf)
    clear hr hf l0 HX7
    have l0 : w8.cell? ⟨j, 0, none⟩ = some (.pointer (some ⟨q, 0, none⟩)) := HX8.out.lx.cell 0
    have p2 : w8.cell? ⟨q, 2, none⟩ = some (.int .i64 (endP xs s7).err) := HX8.out.rd.blk.cell 2
    rcases hfl : (endP xs s7).fault with _ | ⟨code, pl⟩
    · have hre := HRE.out (endP_none2 hfl)
      subst hre
      rw [(DocIs.err_no hfl).1] at p2
      obtain ⟨As, cz, hvz⟩ := own_form3 HX8.out.own
      subst hvz
      have HCR := Lib.hid (CellsOwn.rd_ (show CellsOwn w8 W0.heap.size (.slice As r0.cs.length cz) r0.cs from HX8.out.own))
      have hcb := HX8.out.blk.cell
      go_wp2_with fail
      go_at_call 40; (with_reducible refine (rcheck_rq As _ cz r0 w8 rfl HCR.out.1 HCR.out.2 HOK.out).mono ?_); rintro e w9 ⟨rfl, hb9⟩
      have HX9 := Lib.hid (HX8.out.kept hb9)
      have HR9 := Lib.hid (HR2.out.tur HX9.out.tur (by omega))
      have HB9 := Lib.hid (HB2.out.trans (HX9.out.tur.below HB2.out.size (fun k e => by omega)))
      clear hb9 hcb l0 p2 HX8
      have hfR := HR9.out.frozen
      have hcR := HR9.out.cell
      by_cases hck : checkRq r0 = 0
      · have HD := Lib.hid (show decRq xs = (r0, none) by
          rw [HDEC.out]
          unfold checkD
          rw [hfl, hck]
          simp [RS.fail, hfl])
        rw [hck]
        have hcb := HX9.out.blk.cell
        have HS := Lib.hid (set11 HR9.out (.int .i64 r0.kind) (.int .i64 r0.id) (.int .i64 r0.epoch) (.slice As r0.cs.length cz) (.int .i64 r0.frm.view) (.string r0.frm.key) (.int .i64 r0.frm.start) (.int .i64 r0.too.view) (.string r0.too.key) (.int .i64 r0.too.start) (.int .i64 r0.limit))
        go_wp2
        generalize (World.setCell (World.setCell (World.setCell (World.setCell (World.setCell (World.setCell (World.setCell (World.setCell (World.setCell (World.setCell (World.setCell w9 ⟨W.heap.size, 0, none⟩ (.int .i64 r0.kind)) ⟨W.heap.size, 1, none⟩ (.int .i64 r0.id)) ⟨W.heap.size, 2, none⟩ (.int .i64 r0.epoch)) ⟨W.heap.size, 3, none⟩ (.slice As r0.cs.length cz)) ⟨W.heap.size, 4, none⟩ (.int .i64 r0.frm.view)) ⟨W.heap.size, 5, none⟩ (.string r0.frm.key)) ⟨W.heap.size, 6, none⟩ (.int .i64 r0.frm.start)) ⟨W.heap.size, 7, none⟩ (.int .i64 r0.too.view)) ⟨W.heap.size, 8, none⟩ (.string r0.too.key)) ⟨W.heap.size, 9, none⟩ (.int .i64 r0.too.start)) ⟨W.heap.size, 10, none⟩ (.int .i64 r0.limit)) = wC at HS ⊢
        have hc7 := HS.out.1.cell
        exact bodyPost_ret (v := .tuple #[.agg (rqC (.slice As r0.cs.length cz) r0), .int .i64 0, .int .i64 0]) (by simp [results, Tryz.results11, go_sem, hc7]) rfl
          ⟨HB9.out.trans (HS.out.2.below HB9.out.size (fun k e => by omega)), by rw [HD.out]; exact ⟨_, rfl, own_low (show CellsOwn w9 W0.heap.size (.slice As r0.cs.length cz) r0.cs from HX9.out.own) HS.out.2 (fun k e => by subst e; have := HX9.out.jl; omega) (by have := HX9.out.jl; omega)⟩⟩
      · have HD := Lib.hid (show decRq xs = (rq0, some (checkRq r0, 0)) by
          rw [HDEC.out]
          unfold checkD
          rw [hfl]
          simp [RS.fail, hfl, hck])
        have hz : (checkRq r0 != 0) = true := by simpa using hck
        have HS := Lib.hid (set11 HR9.out (.int .i64 0) (.int .i64 0) (.int .i64 0) (.slice none 0 0) (.int .i64 0) (.string ⟨#[]⟩) (.int .i64 0) (.int .i64 0) (.string ⟨#[]⟩) (.int .i64 0) (.int .i64 0))
        go_wp2
        generalize (World.setCell (World.setCell (World.setCell (World.setCell (World.setCell (World.setCell (World.setCell (World.setCell (World.setCell (World.setCell (World.setCell w9 ⟨W.heap.size, 0, none⟩ (.int .i64 0)) ⟨W.heap.size, 1, none⟩ (.int .i64 0)) ⟨W.heap.size, 2, none⟩ (.int .i64 0)) ⟨W.heap.size, 3, none⟩ (.slice none 0 0)) ⟨W.heap.size, 4, none⟩ (.int .i64 0)) ⟨W.heap.size, 5, none⟩ (.string ⟨#[]⟩)) ⟨W.heap.size, 6, none⟩ (.int .i64 0)) ⟨W.heap.size, 7, none⟩ (.int .i64 0)) ⟨W.heap.size, 8, none⟩ (.string ⟨#[]⟩)) ⟨W.heap.size, 9, none⟩ (.int .i64 0)) ⟨W.heap.size, 10, none⟩ (.int .i64 0)) = wC at HS ⊢
        have hc7 := HS.out.1.cell
        exact bodyPost_ret (v := .tuple #[.agg (rqC nilS rq0), .int .i64 (checkRq r0), .int .i64 0]) (by simp [results, Tryz.results11, go_sem, hc7, rq0, cell0]) rfl
          ⟨HB9.out.trans (HS.out.2.below HB9.out.size (fun k e => by omega)), by rw [HD.out]⟩
    · have HD := Lib.hid (show decRq xs = (rq0, some (code, pl)) by rw [HDEC.out]; unfold checkD; simp [hfl])
      have hne := HX8.out.rd.ok code pl hfl
      have hcode : (endP xs s7).err = code := by unfold RS.err; rw [hfl]
      have hpl : (endP xs s7).on = pl := by unfold RS.on; rw [hfl]
      rw [hcode] at p2
      have HQB := Lib.hid (show Blk w8 q 103 (DcC (.slice A n c) ((endP xs s7).pos : Int) code pl) by have h := HX8.out.rd.blk; rw [hcode, hpl] at h; exact h)
      have HLB := Lib.hid HX8.out.lx
      have HR8 := Lib.hid (HR2.out.tur HX8.out.tur (by omega))
      have HB8 := Lib.hid (HB2.out.trans (HX8.out.tur.below HB2.out.size (fun k e => by omega)))
      have hz : (code != 0) = true := by unfold bne; rw [hne]; rfl
      clear hcode hpl hne hfl HX8 HDEC HRE
      go_wp2_with fail
      clear l0 p2
      (refine wp_region_held_drew (S := fun w9 => LxB w9 j q ∧ Blk w9 q 103 (DcC (.slice A n c) ((endP xs s7).pos : Int) code pl)) (by kernel_rfl) ⟨HLB.out.drew, HQB.out.drew⟩ (fun hHeld => ?_))
      have HLd := Lib.hid HLB.out.drew
      have HQd := Lib.hid HQB.out.drew
      have HRd := Lib.hid HR8.out.drew
      have HBd := Lib.hid (HB8.out.trans (Below.refl _ _).drew)
      have hsz := HB8.out.size
      clear HLB HQB HR8 HB8
      generalize w8.drew = wd at *
      (refine take_q (i := 0) (d := 76) (v := ?v169) rfl rfl (by kernel_rfl) (by kernel_rfl) (by kernel_rfl) (fun _ _ _ h => h) (by kernel_rfl) ?hy169 (by assumption) ?rest169)
      case hy169 => (intro w9 hSw; first | (go_simp; done) | (go_simp; with_reducible rfl))
      (try simp only [Act.put, List.setIfInBounds_toArray, List.set_cons_zero, List.set_cons_succ])
      (refine take_q (i := 1) (d := 77) (v := ?v170) rfl rfl (by kernel_rfl) (by kernel_rfl) (by kernel_rfl) (fun _ _ _ h => h) (by kernel_rfl) ?hy170 (by assumption) ?rest170)
      case hy170 => (intro w9 hSw; first | (go_simp; done) | (go_simp; with_reducible rfl))
      (try simp only [Act.put, List.setIfInBounds_toArray, List.set_cons_zero, List.set_cons_succ])
      (refine take_q (i := 2) (d := 78) (v := ?v171) rfl rfl (by kernel_rfl) (by kernel_rfl) (by kernel_rfl) (fun _ _ _ h => h) (by kernel_rfl) ?hy171 (by assumption) ?rest171)
      case hy171 => (intro w9 hSw; first | (go_simp; done) | (go_simp; with_reducible rfl))
      (try simp only [Act.put, List.setIfInBounds_toArray, List.set_cons_zero, List.set_cons_succ])
      (refine take_q (i := 3) (d := 79) (v := ?v172) rfl rfl (by kernel_rfl) (by kernel_rfl) (by kernel_rfl) (fun _ _ _ h => h) (by kernel_rfl) ?hy172 (by assumption) ?rest172)
      case hy172 => (intro w9 hSw; first | (go_simp; done) | (go_simp; with_reducible rfl))
      (try simp only [Act.put, List.setIfInBounds_toArray, List.set_cons_zero, List.set_cons_succ])
      (refine take_q (i := 4) (d := 80) (v := ?v173) rfl rfl (by kernel_rfl) (by kernel_rfl) (by kernel_rfl) (fun _ _ _ h => h) (by kernel_rfl) ?hy173 (by assumption) ?rest173)
      case hy173 => (intro w9 hSw; have hc9 := Blk.cell hSw.1; clear hSw; first | (go_simp; done) | (go_simp; with_reducible rfl))
      (try simp only [Act.put, List.setIfInBounds_toArray, List.set_cons_zero, List.set_cons_succ])
      (refine take_q (i := 5) (d := 81) (v := ?v174) rfl rfl (by kernel_rfl) (by kernel_rfl) (by kernel_rfl) (fun _ _ _ h => h) (by kernel_rfl) ?hy174 (by assumption) ?rest174)
      case hy174 => (intro w9 hSw; first | (go_simp; done) | (go_simp; with_reducible rfl))
      (try simp only [Act.put, List.setIfInBounds_toArray, List.set_cons_zero, List.set_cons_succ])
      (refine take_q (i := 6) (d := 82) (v := ?v175) rfl rfl (by kernel_rfl) (by kernel_rfl) (by kernel_rfl) (fun _ _ _ h => h) (by kernel_rfl) ?hy175 (by assumption) ?rest175)
      case hy175 => (intro w9 hSw; first | (go_simp; done) | (go_simp; with_reducible rfl))
      (try simp only [Act.put, List.setIfInBounds_toArray, List.set_cons_zero, List.set_cons_succ])
      (refine take_q (i := 7) (d := 83) (v := ?v176) rfl rfl (by kernel_rfl) (by kernel_rfl) (by kernel_rfl) (fun _ _ _ h => h) (by kernel_rfl) ?hy176 (by assumption) ?rest176)
      case hy176 => (intro w9 hSw; have hc9 := Blk.cell hSw.2; clear hSw; first | (go_simp; done) | (go_simp; with_reducible rfl))
      (try simp only [Act.put, List.setIfInBounds_toArray, List.set_cons_zero, List.set_cons_succ])
      (refine take_q (i := 8) (d := 84) (v := ?v177) rfl rfl (by kernel_rfl) (by kernel_rfl) (by kernel_rfl) (fun _ _ _ h => h) (by kernel_rfl) ?hy177 (by assumption) ?rest177)
      case hy177 => (intro w9 hSw; first | (go_simp; done) | (go_simp; with_reducible rfl))
      (try simp only [Act.put, List.setIfInBounds_toArray, List.set_cons_zero, List.set_cons_succ])
      (refine take_q (i := 9) (d := 85) (v := ?v178) rfl rfl (by kernel_rfl) (by kernel_rfl) (by kernel_rfl) (fun _ _ _ h => h) (by kernel_rfl) ?hy178 (by assumption) ?rest178)
      case hy178 => (intro w9 hSw; first | (go_simp; done) | (go_simp; with_reducible rfl))
      (try simp only [Act.put, List.setIfInBounds_toArray, List.set_cons_zero, List.set_cons_succ])
      (refine take_q (i := 10) (d := 86) (v := ?v179) rfl rfl (by kernel_rfl) (by kernel_rfl) (by kernel_rfl) (fun _ _ _ h => h) (by kernel_rfl) ?hy179 (by assumption) ?rest179)
      case hy179 => (intro w9 hSw; first | (go_simp; done) | (go_simp; with_reducible rfl))
      (try simp only [Act.put, List.setIfInBounds_toArray, List.set_cons_zero, List.set_cons_succ])
      (refine take_q (i := 11) (d := 87) (v := ?v180) rfl rfl (by kernel_rfl) (by kernel_rfl) (by kernel_rfl) (fun _ _ _ h => h) (by kernel_rfl) ?hy180 (by assumption) ?rest180)
      case hy180 => (intro w9 hSw; have hc9 := Blk.cell hSw.1; clear hSw; first | (go_simp; done) | (go_simp; with_reducible rfl))
      (try simp only [Act.put, List.setIfInBounds_toArray, List.set_cons_zero, List.set_cons_succ])
      (refine take_q (i := 12) (d := 88) (v := ?v181) rfl rfl (by kernel_rfl) (by kernel_rfl) (by kernel_rfl) (fun _ _ _ h => h) (by kernel_rfl) ?hy181 (by assumption) ?rest181)
      case hy181 => (intro w9 hSw; first | (go_simp; done) | (go_simp; with_reducible rfl))
      (try simp only [Act.put, List.setIfInBounds_toArray, List.set_cons_zero, List.set_cons_succ])
      (refine take_q (i := 13) (d := 89) (v := ?v182) rfl rfl (by kernel_rfl) (by kernel_rfl) (by kernel_rfl) (fun _ _ _ h => h) (by kernel_rfl) ?hy182 (by assumption) ?rest182)
      case hy182 => (intro w9 hSw; first | (go_simp; done) | (go_simp; with_reducible rfl))
      (try simp only [Act.put, List.setIfInBounds_toArray, List.set_cons_zero, List.set_cons_succ])
      (refine take_q (i := 14) (d := 90) (v := ?v183) rfl rfl (by kernel_rfl) (by kernel_rfl) (by kernel_rfl) (fun _ _ _ h => h) (by kernel_rfl) ?hy183 (by assumption) ?rest183)
      case hy183 => (intro w9 hSw; have hc9 := Blk.cell hSw.2; clear hSw; first | (go_simp; done) | (go_simp; with_reducible rfl))
      (try simp only [Act.put, List.setIfInBounds_toArray, List.set_cons_zero, List.set_cons_succ])
      have hfR := HRd.out.frozen
      have hcR := HRd.out.cell
      have HS := Lib.hid (set11 HRd.out (.int .i64 0) (.int .i64 0) (.int .i64 0) (.slice none 0 0) (.int .i64 0) (.string ⟨#[]⟩) (.int .i64 0) (.int .i64 0) (.string ⟨#[]⟩) (.int .i64 0) (.int .i64 0))
      (refine wpAnyH_ready (rs := [15]) (by kernel_rfl) (by simp) ?_)
      (refine AllReadyH.cons (o := _) rfl (fun K hK => ?_) AllReadyH.nil)
      go_simp
      generalize (World.setCell (World.setCell (World.setCell (World.setCell (World.setCell (World.setCell (World.setCell (World.setCell (World.setCell (World.setCell (World.setCell wd ⟨W.heap.size, 0, none⟩ (.int .i64 0)) ⟨W.heap.size, 1, none⟩ (.int .i64 0)) ⟨W.heap.size, 2, none⟩ (.int .i64 0)) ⟨W.heap.size, 3, none⟩ (.slice none 0 0)) ⟨W.heap.size, 4, none⟩ (.int .i64 0)) ⟨W.heap.size, 5, none⟩ (.string ⟨#[]⟩)) ⟨W.heap.size, 6, none⟩ (.int .i64 0)) ⟨W.heap.size, 7, none⟩ (.int .i64 0)) ⟨W.heap.size, 8, none⟩ (.string ⟨#[]⟩)) ⟨W.heap.size, 9, none⟩ (.int .i64 0)) ⟨W.heap.size, 10, none⟩ (.int .i64 0)) = wC at HS ⊢
      (refine hK.out _ _ ⟨HLd.out.tur HS.out.2 (by omega), HQd.out.tur HS.out.2 (by omega)⟩ (fun hHeld => ?_))
      clear hK K
      (refine take_q (i := 16) (d := 3) (v := ?v184) rfl rfl (by kernel_rfl) (by kernel_rfl) (by kernel_rfl) (fun _ _ _ h => h) (by kernel_rfl) ?hy184 (by assumption) ?rest184)
      case hy184 => (intro w9 hSw; first | (go_simp; done) | (go_simp; with_reducible rfl))
      (try simp only [Act.put, List.setIfInBounds_toArray, List.set_cons_zero, List.set_cons_succ])
      (refine take_q (i := 17) (d := 4) (v := ?v185) rfl rfl (by kernel_rfl) (by kernel_rfl) (by kernel_rfl) (fun _ _ _ h => h) (by kernel_rfl) ?hy185 (by assumption) ?rest185)
      case hy185 => (intro w9 hSw; first | (go_simp; done) | (go_simp; with_reducible rfl))
      (try simp only [Act.put, List.setIfInBounds_toArray, List.set_cons_zero, List.set_cons_succ])
      (refine wpAnyH_done (by kernel_rfl) ?_ _)
      have hc7 := HS.out.1.cell
      go_wp2
      exact bodyPost_ret (v := .tuple #[.agg (rqC nilS rq0), .int .i64 code, .int .i64 pl]) (by simp [results, Tryz.results11, go_sem, hc7, rq0, cell0]) rfl
        ⟨HBd.out.trans (HS.out.2.below HBd.out.size (fun k e => by omega)), by rw [HD.out]⟩
end Go.Proofs.YteffpfgdoganpaaGreatDoor
