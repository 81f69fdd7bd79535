/- The document's DecodeRequest: the walk. -/
import Derived.Test.YtglbdbghcdoicaaGreatDoorZDoc
import Derived.Test.YtglbdbghcdoicaaGreatDoorCDecKs
import Derived.Test.YtglbdbghcdoicaaGreatDoorCRCheckRq
namespace Go.Proofs.YtglbdbghcdoicaaGreatDoor
open Go.RowKit
set_option maxRecDepth 100000
set_option maxHeartbeats 32000000

theorem endP_none2 {xs : List Int} {s : RS} (h : (endP xs s).fault = none) : s.fault = none := by
 rcases hf : s.fault with _ | x
 ·rfl
 ·exfalso
  unfold endP at h
  split at h
  ·rw [fail_same (by rw [hf]; rfl)] at h
   rw [hf] at h; cases h
  ·rw [hf] at h; cases h
theorem CellsOwn.rd_ {W : World} {B : Nat} {A : Option Addr} {n c : Nat} {cs : List CellV} (h : CellsOwn W B (.slice A n c) cs) : CellsRd W A cs ∧ n ≤ 9223372036854775807 := by
 obtain ⟨A', c', e, hr, _⟩ := CellsOwn.rd h
 injection e with e1 e2 e3
 subst e1
 refine ⟨hr, ?_⟩
 have := CellsOwn.le h
 omega
theorem own_low {W W1 : World} {B B' : Nat} {v : Value} {E : TypeId} {sz m : Nat} {ys : List Value} {S : Nat → Prop} (h : W.ownsRow B E sz v m ys) (ht : Tur S W W1) (hS : ∀ k, S k → k < B) (hB : B' ≤ B) : W1.ownsRow B' E sz v m ys := by
 have h2 := ownsRow_tur h ht (fun k e hs => by have := hS k hs; have := (h.lt k e).1; omega)
 refine ⟨h2.1, ?_⟩
 rcases h2.2 with h3 | ⟨g, cap, cur, e, hg, r⟩
 ·exact .inl h3
 ·exact .inr ⟨g, cap, cur, e, Nat.le_trans hB hg, r⟩
theorem doc_rq_pin (A : Option Addr) (n c : Nat) (xs : List Int) (hk : (kindD xs).1 = 4) (W : World) (hl : xs.length = n) (h : CellsAt W A (bvs xs)) (hw : ∀ x ∈ xs, (Lit.int .u8 x).wf = true) (hn : n ≤ 140737488355328) (hc : n ≤ c) :
  Calls Tryz.prog 61 #[.slice A n c] W (DocQ W (decRq xs)) := by
 have HR0 := Lh (Blk.new W 43 #[.int .i64 0, .int .i64 0, .int .i64 0, .slice none 0 0, .int .i64 0, .string ⟨#[]⟩, .int .i64 0, .int .i64 0, .string ⟨#[]⟩, .int .i64 0, .int .i64 0])
 have bl0 := (Below.refl W.heap.size W).alloc (Nat.le_refl _) (.cells #[.int .i64 0, .int .i64 0, .int .i64 0, .slice none 0 0, .int .i64 0, .string ⟨#[]⟩, .int .i64 0, .int .i64 0, .string ⟨#[]⟩, .int .i64 0, .int .i64 0] 43)
 have hs1 : (W.alloc (.cells #[.int .i64 0, .int .i64 0, .int .i64 0, .slice none 0 0, .int .i64 0, .string ⟨#[]⟩, .int .i64 0, .int .i64 0, .string ⟨#[]⟩, .int .i64 0, .int .i64 0] 43)).heap.size = W.heap.size + 1 := by simp
 have CR := Lh (dc_read A n c xs (W.alloc (.cells #[.int .i64 0, .int .i64 0, .int .i64 0, .slice none 0 0, .int .i64 0, .string ⟨#[]⟩, .int .i64 0, .int .i64 0, .string ⟨#[]⟩, .int .i64 0, .int .i64 0] 43)) hl (h.below bl0) hw hn hc)
 have HKN := Lh hk
 have HAl := Lh (show xs ≠ [] → ∀ ad, A = some ad → ad.block < W.heap.size from fun h0 ad e => by
  subst e
  obtain ⟨ad', e, h1, _⟩ := h 0 (by rw [bvs_len]; exact List.length_pos_iff.2 h0)
  cases e
  exact h1)
 have HBl := Lh bl0
 clear h hw hn hk hc bl0
 go_enter Tryz.func61, Tryz.ntmps61
 go_wp2_with fail
 go_at_call 90; (with_reducible refine CR.out.mono ?_); rintro e w1 ⟨rfl, hr, hb⟩
 have HR1 := Lh (HR0.out.kept hb)
 have HB1 := Lh (HBl.out.trans (hb.mono (by simp)))
 have hw1 : W.heap.size + 1 ≤ w1.heap.size := hs1 ▸ hb.size
 rw [hs1] at hr ⊢
 have HX := Lh (DxIs.start hr 43 #[.int .i64 0, .int .i64 0, .int .i64 0, .slice none 0 0, .int .i64 0, .string ⟨#[]⟩, .int .i64 0, .int .i64 0, .string ⟨#[]⟩, .int .i64 0, .int .i64 0] 41 3 (fun h0 ad e => by have := HAl.out h0 ad e; omega))
 have HR2 := Lh ((HR1.out.alloc (.cells #[.pointer (some ⟨W.heap.size + 1, 0, none⟩)] 187)).alloc (.cells #[.int .i64 0, .int .i64 0, .int .i64 0, .slice none 0 0, .int .i64 0, .string ⟨#[]⟩, .int .i64 0, .int .i64 0, .string ⟨#[]⟩, .int .i64 0, .int .i64 0] 43))
 have HB2 := Lh ((HB1.out.alloc (by omega) (.cells #[.pointer (some ⟨W.heap.size + 1, 0, none⟩)] 187)).alloc (by simp; omega) (.cells #[.int .i64 0, .int .i64 0, .int .i64 0, .slice none 0 0, .int .i64 0, .string ⟨#[]⟩, .int .i64 0, .int .i64 0, .string ⟨#[]⟩, .int .i64 0, .int .i64 0] 43))
 have hs2 : (w1.alloc (.cells #[.pointer (some ⟨W.heap.size + 1, 0, none⟩)] 187)).heap.size = w1.heap.size + 1 := by simp
 clear hr hb HR0 CR HAl HBl HB1 HR1 hs1
 go_wp2_with fail
 generalize hW0 : (w1.alloc (.cells #[.pointer (some ⟨W.heap.size + 1, 0, none⟩)] 187)).alloc (.cells #[.int .i64 0, .int .i64 0, .int .i64 0, .slice none 0 0, .int .i64 0, .string ⟨#[]⟩, .int .i64 0, .int .i64 0, .string ⟨#[]⟩, .int .i64 0, .int .i64 0] 43) = W0 at *
 have hRW : W.heap.size < w1.heap.size := by omega
 have hqW : W.heap.size < W.heap.size + 1 := by omega
 clear hW0 hs2
 generalize hq : W.heap.size + 1 = q at *
 generalize hj : w1.heap.size = j at *
 clear hj hq
 go_at_call 91; (with_reducible refine (show Calls Tryz.prog 91 #[.pointer (some ⟨j, 0, none⟩), .int .i64 7] W0 _ from lx_head HX.out.rd HX.out.lx HX.out.jq 7).mono ?_); rintro e w3 ⟨rfl, hr, hf⟩
 have HX3 := Lh (HX.out.read hr hf)
 have HKD := Lh (show kindD xs = numP xs M40 ⟨0, none⟩ from rfl)
 clear hr hf HX
 have HHD := Lh (show headP xs (7 : Int) ⟨0, none⟩ = (numP xs M40 ⟨0, none⟩).2 by
  unfold headP
  rw [if_neg]
  rintro ⟨_, h⟩
  have hk := HKN.out
  rw [HKD.out] at hk
  omega)
 rw [show ((7 : Nat) : Int) = (7 : Int) from rfl] at HX3
 rw [HHD.out] at HX3
 simp only [show ((7 : Nat) : Int) = (7 : Int) from rfl, HHD.out]
 rw [HKD.out] at HKN
 clear HHD
 generalize hyd : numP xs M40 ⟨0, none⟩ = y at *
 clear hyd
 obtain ⟨k0, s1⟩ := y
 dsimp only at HX3 HKN HKD ⊢
 generalize hid : numP xs M40 s1 = y at *
 have HID := Lh hid
 clear hid
 obtain ⟨id0, s2⟩ := y
 dsimp only at HX3 HID ⊢
 have hk1 : k0 = 4 := HKN.out
 subst hk1
 simp only [show ((4 : Nat) : Int) = (4 : Int) from rfl]
 have hcb := HX3.out.blk.cell
 have hfb := HX3.out.blk.frozen
 have HX4 := Lh (show DxIs W0 q j (j + 1) 43 A n c xs (rqC (.slice none 0 0) ⟨4, (id0 : Int), 0, [], cell0, cell0, 0⟩) s2 41 3 (.slice none 0 0) 0 [] ((w3.setCell ⟨j + 1, 0, none⟩ (.int .i64 4)).setCell ⟨j + 1, 1, none⟩ (.int .i64 (id0 : Int))) from (HX3.out.put (cs1 := rqC (.slice none 0 0) ⟨4, 0, 0, [], cell0, cell0, 0⟩) 0 (.int .i64 4) rfl).put 1 (.int .i64 (id0 : Int)) rfl)
 clear HX3
 have HRD := Lh (show readD xs = ((⟨4, (id0 : Int), 0, [], cell0, cell0, 0⟩ : Rq), s2) by
  unfold readD bodyD
  rw [HKD.out]
  simp [HID.out])
 go_wp2_with fail
 generalize ((w3.setCell ⟨j + 1, 0, none⟩ (.int .i64 4)).setCell ⟨j + 1, 1, none⟩ (.int .i64 (id0 : Int))) = wl at *
 go_loopw [8] (fun t8 wz => t8 = .int .i64 0 ∧ Hid (DxIs W0 q j (j + 1) 43 A n c xs (rqC (.slice none 0 0) ⟨4, (id0 : Int), 0, [], cell0, cell0, 0⟩) s2 41 3 (.slice none 0 0) 0 [] wz)) (fun _ _ => 0)
 case atStart => exact ⟨rfl, HX4⟩
 case round =>
  obtain ⟨rfl, HP⟩ := hrel
  rename World => wz
  clear hcb hfb
  obtain ⟨r0, hr0⟩ : ∃ r0 : Rq, r0 = ⟨4, (id0 : Int), 0, [], cell0, cell0, 0⟩ := ⟨_, rfl⟩
  obtain ⟨vz, hv0⟩ : ∃ vz : Value, vz = .slice none 0 0 := ⟨_, rfl⟩
  have HX7 := Lh (show DxIs W0 q j (j + 1) 43 A n c xs (rqC vz r0) (readD xs).2 41 3 vz r0.cs.length (cellCs r0.cs) wz by
   rw [hv0, hr0, HRD.out]
   exact HP.out)
  have HRE := Lh (show (readD xs).2.fault = none → r0 = (readD xs).1 from fun _ => by rw [hr0, HRD.out])
  clear hr0 HP hv0
  have HDEC := Lh (show decRq xs = if (checkD (checkRq (readD xs).1) (endP xs (readD xs).2)).fault.isSome then (rq0, (checkD (checkRq (readD xs).1) (endP xs (readD xs).2)).fault) else ((readD xs).1, none) by
   unfold decRq
   rw [if_neg (by rw [HKD.out]; dsimp only; omega)])
  have HOK := Lh (readD_ok xs)
  generalize readD xs = y at *
  obtain ⟨r', s7⟩ := y
  dsimp only at HX7 HRE HDEC HOK
  have l0 : wz.cell? ⟨j, 0, none⟩ = some (.pointer (some ⟨q, 0, none⟩)) := HX7.out.lx.cell 0
  go_wp2_with fail
  go_at_call 95; (with_reducible refine (dc_end HX7.out.rd).mono ?_); rintro e w8 ⟨rfl, hr, hf⟩
  have HX8 := Lh (HX7.out.read hr hf)
  clear hr hf l0 HX7
  have l0 : w8.cell? ⟨j, 0, none⟩ = some (.pointer (some ⟨q, 0, none⟩)) := HX8.out.lx.cell 0
  have p2 : w8.cell? ⟨q, 2, none⟩ = some (.int .i64 (endP xs s7).err) := HX8.out.rd.blk.cell 2
  rcases hfl : (endP xs s7).fault with _ | ⟨code, pl⟩
  ·have hre := HRE.out (endP_none2 hfl)
   subst hre
   rw [(DocIs.err_no hfl).1] at p2
   obtain ⟨As, cz, hvz⟩ := own_form3 HX8.out.own
   subst hvz
   have HCR := Lh (CellsOwn.rd_ (show CellsOwn w8 W0.heap.size (.slice As r0.cs.length cz) r0.cs from HX8.out.own))
   have hcb := HX8.out.blk.cell
   go_wp2_with fail
   go_at_call 79; (with_reducible refine (rcheck_rq As _ cz r0 w8 rfl HCR.out.1 HCR.out.2 HOK.out).mono ?_); rintro e w9 ⟨rfl, hb9⟩
   have HX9 := Lh (HX8.out.kept hb9)
   have HR9 := Lh (HR2.out.tur HX9.out.tur (by omega))
   have HB9 := Lh (HB2.out.trans (HX9.out.tur.below HB2.out.size (fun k e => by omega)))
   clear hb9 hcb l0 p2 HX8
   have hfR := HR9.out.frozen
   have hcR := HR9.out.cell
   by_cases hck : checkRq r0 = 0
   ·have HD := Lh (show decRq xs = (r0, none) by
     rw [HDEC.out]
     unfold checkD
     rw [hfl, hck]
     simp [RS.fail, hfl])
    rw [hck]
    have hcb := HX9.out.blk.cell
    obtain ⟨wC, HW, HS⟩ := set11e HR9.out (.int .i64 r0.kind) (.int .i64 r0.id) (.int .i64 r0.epoch) (.slice As r0.cs.length cz) (.int .i64 r0.frm.view) (.string r0.frm.key) (.int .i64 r0.frm.start) (.int .i64 r0.too.view) (.string r0.too.key) (.int .i64 r0.too.start) (.int .i64 r0.limit)
    go_wp2
    rw [HW.out]
    have hc7 := HS.out.1.cell
    exact bodyPost_ret (v := .tuple #[.agg (rqC (.slice As r0.cs.length cz) r0), .int .i64 0, .int .i64 0]) (by simp [results, Tryz.results61, go_sem, hc7]) rfl
     ⟨HB9.out.trans (HS.out.2.below HB9.out.size (fun k e => by omega)), by rw [HD.out]; exact ⟨_, rfl, own_low (show CellsOwn w9 W0.heap.size (.slice As r0.cs.length cz) r0.cs from HX9.out.own) HS.out.2 (fun k e => by subst e; have := HX9.out.jl; omega) (by have := HX9.out.jl; omega)⟩⟩
   ·have HD := Lh (show decRq xs = (rq0, some (checkRq r0, 0)) by
     rw [HDEC.out]
     unfold checkD
     rw [hfl]
     simp [RS.fail, hfl, hck])
    have hz : (checkRq r0 != 0) = true := by simpa using hck
    obtain ⟨wC, HW, HS⟩ := set11e HR9.out (.int .i64 0) (.int .i64 0) (.int .i64 0) (.slice none 0 0) (.int .i64 0) (.string ⟨#[]⟩) (.int .i64 0) (.int .i64 0) (.string ⟨#[]⟩) (.int .i64 0) (.int .i64 0)
    go_wp2
    rw [HW.out]
    have hc7 := HS.out.1.cell
    exact bodyPost_ret (v := .tuple #[.agg (rqC nilS rq0), .int .i64 (checkRq r0), .int .i64 0]) (by simp [results, Tryz.results61, go_sem, hc7, rq0, cell0]) rfl
     ⟨HB9.out.trans (HS.out.2.below HB9.out.size (fun k e => by omega)), by rw [HD.out]⟩
  ·have HD := Lh (show decRq xs = (rq0, some (code, pl)) by rw [HDEC.out]; unfold checkD; simp [hfl])
   have hne := HX8.out.rd.ok code pl hfl
   have hcode : (endP xs s7).err = code := by unfold RS.err; rw [hfl]
   have hpl : (endP xs s7).on = pl := by unfold RS.on; rw [hfl]
   rw [hcode] at p2
   have HQB := Lh (show Blk w8 q 192 (DcC (.slice A n c) ((endP xs s7).pos : Int) code pl) by have h := HX8.out.rd.blk; rw [hcode, hpl] at h; exact h)
   have HLB := Lh HX8.out.lx
   have HR8 := Lh (HR2.out.tur HX8.out.tur (by omega))
   have HB8 := Lh (HB2.out.trans (HX8.out.tur.below HB2.out.size (fun k e => by omega)))
   have hz : (code != 0) = true := by unfold bne; rw [hne]; rfl
   clear hcode hpl hne hfl HX8 HDEC HRE
   go_wp2_with fail
   clear l0 p2
   (refine wp_region_held_drew (S := fun w9 => LxB w9 j q ∧ Blk w9 q 192 (DcC (.slice A n c) ((endP xs s7).pos : Int) code pl)) (by kernel_rfl) ⟨HLB.out.drew, HQB.out.drew⟩ (fun hHeld => ?_))
   have HLd := Lh HLB.out.drew
   have HQd := Lh HQB.out.drew
   have HRd := Lh HR8.out.drew
   have HBd := Lh (HB8.out.trans (Below.refl _ _).drew)
   have hsz := HB8.out.size
   clear HLB HQB HR8 HB8
   generalize w8.drew = wd at *
   (refine tq 0 76 ?_)
   (try simp only [Act.put, z1, z2, z3])
   (refine tq 1 77 ?_)
   (try simp only [Act.put, z1, z2, z3])
   (refine tq 2 78 ?_)
   (try simp only [Act.put, z1, z2, z3])
   (refine tq 3 79 ?_)
   (try simp only [Act.put, z1, z2, z3])
   (refine tr (v := ?v105) 4 80 ?h105 ?_)
   case h105 => (intro w9 hSw; have hc9 := Blk.cell hSw.1; clear hSw; first | (go_simp; done) | (go_simp; with_reducible rfl))
   (try simp only [Act.put, z1, z2, z3])
   (refine tq 5 81 ?_)
   (try simp only [Act.put, z1, z2, z3])
   (refine tq 6 82 ?_)
   (try simp only [Act.put, z1, z2, z3])
   (refine tr (v := ?v108) 7 83 ?h108 ?_)
   case h108 => (intro w9 hSw; have hc9 := Blk.cell hSw.2; clear hSw; first | (go_simp; done) | (go_simp; with_reducible rfl))
   (try simp only [Act.put, z1, z2, z3])
   (refine tq 8 84 ?_)
   (try simp only [Act.put, z1, z2, z3])
   (refine tq 9 85 ?_)
   (try simp only [Act.put, z1, z2, z3])
   (refine tq 10 86 ?_)
   (try simp only [Act.put, z1, z2, z3])
   (refine tr (v := ?v112) 11 87 ?h112 ?_)
   case h112 => (intro w9 hSw; have hc9 := Blk.cell hSw.1; clear hSw; first | (go_simp; done) | (go_simp; with_reducible rfl))
   (try simp only [Act.put, z1, z2, z3])
   (refine tq 12 88 ?_)
   (try simp only [Act.put, z1, z2, z3])
   (refine tq 13 89 ?_)
   (try simp only [Act.put, z1, z2, z3])
   (refine tr (v := ?v115) 14 90 ?h115 ?_)
   case h115 => (intro w9 hSw; have hc9 := Blk.cell hSw.2; clear hSw; first | (go_simp; done) | (go_simp; with_reducible rfl))
   (try simp only [Act.put, z1, z2, z3])
   have hfR := HRd.out.frozen
   have hcR := HRd.out.cell
   obtain ⟨wC, HW, HS⟩ := set11e HRd.out (.int .i64 0) (.int .i64 0) (.int .i64 0) (.slice none 0 0) (.int .i64 0) (.string ⟨#[]⟩) (.int .i64 0) (.int .i64 0) (.string ⟨#[]⟩) (.int .i64 0) (.int .i64 0)
   (refine wpAnyH_ready (rs := [15]) (by kernel_rfl) (by simp) ?_)
   (refine AllReadyH.cons (o := _) rfl (fun K hK => ?_) AllReadyH.nil)
   go_simp
   rw [HW.out]
   (refine hK.out _ _ ⟨HLd.out.tur HS.out.2 (by omega), HQd.out.tur HS.out.2 (by omega)⟩ (fun hHeld => ?_))
   clear hK K
   (refine tq 16 3 ?_)
   (try simp only [Act.put, z1, z2, z3])
   (refine tq 17 4 ?_)
   (try simp only [Act.put, z1, z2, z3])
   (refine wpAnyH_done (by kernel_rfl) ?_ _)
   have hc7 := HS.out.1.cell
   go_wp2
   exact bodyPost_ret (v := .tuple #[.agg (rqC nilS rq0), .int .i64 code, .int .i64 pl]) (by simp [results, Tryz.results61, go_sem, hc7, rq0, cell0]) rfl
    ⟨HBd.out.trans (HS.out.2.below HBd.out.size (fun k e => by omega)), by rw [HD.out]⟩
theorem doc_rq_stats (A : Option Addr) (n c : Nat) (xs : List Int) (hk : (kindD xs).1 = 7) (W : World) (hl : xs.length = n) (h : CellsAt W A (bvs xs)) (hw : ∀ x ∈ xs, (Lit.int .u8 x).wf = true) (hn : n ≤ 140737488355328) (hc : n ≤ c) :
  Calls Tryz.prog 61 #[.slice A n c] W (DocQ W (decRq xs)) := by
 have HR0 := Lh (Blk.new W 43 #[.int .i64 0, .int .i64 0, .int .i64 0, .slice none 0 0, .int .i64 0, .string ⟨#[]⟩, .int .i64 0, .int .i64 0, .string ⟨#[]⟩, .int .i64 0, .int .i64 0])
 have bl0 := (Below.refl W.heap.size W).alloc (Nat.le_refl _) (.cells #[.int .i64 0, .int .i64 0, .int .i64 0, .slice none 0 0, .int .i64 0, .string ⟨#[]⟩, .int .i64 0, .int .i64 0, .string ⟨#[]⟩, .int .i64 0, .int .i64 0] 43)
 have hs1 : (W.alloc (.cells #[.int .i64 0, .int .i64 0, .int .i64 0, .slice none 0 0, .int .i64 0, .string ⟨#[]⟩, .int .i64 0, .int .i64 0, .string ⟨#[]⟩, .int .i64 0, .int .i64 0] 43)).heap.size = W.heap.size + 1 := by simp
 have CR := Lh (dc_read A n c xs (W.alloc (.cells #[.int .i64 0, .int .i64 0, .int .i64 0, .slice none 0 0, .int .i64 0, .string ⟨#[]⟩, .int .i64 0, .int .i64 0, .string ⟨#[]⟩, .int .i64 0, .int .i64 0] 43)) hl (h.below bl0) hw hn hc)
 have HKN := Lh hk
 have HAl := Lh (show xs ≠ [] → ∀ ad, A = some ad → ad.block < W.heap.size from fun h0 ad e => by
  subst e
  obtain ⟨ad', e, h1, _⟩ := h 0 (by rw [bvs_len]; exact List.length_pos_iff.2 h0)
  cases e
  exact h1)
 have HBl := Lh bl0
 clear h hw hn hk hc bl0
 go_enter Tryz.func61, Tryz.ntmps61
 go_wp2_with fail
 go_at_call 90; (with_reducible refine CR.out.mono ?_); rintro e w1 ⟨rfl, hr, hb⟩
 have HR1 := Lh (HR0.out.kept hb)
 have HB1 := Lh (HBl.out.trans (hb.mono (by simp)))
 have hw1 : W.heap.size + 1 ≤ w1.heap.size := hs1 ▸ hb.size
 rw [hs1] at hr ⊢
 have HX := Lh (DxIs.start hr 43 #[.int .i64 0, .int .i64 0, .int .i64 0, .slice none 0 0, .int .i64 0, .string ⟨#[]⟩, .int .i64 0, .int .i64 0, .string ⟨#[]⟩, .int .i64 0, .int .i64 0] 41 3 (fun h0 ad e => by have := HAl.out h0 ad e; omega))
 have HR2 := Lh ((HR1.out.alloc (.cells #[.pointer (some ⟨W.heap.size + 1, 0, none⟩)] 187)).alloc (.cells #[.int .i64 0, .int .i64 0, .int .i64 0, .slice none 0 0, .int .i64 0, .string ⟨#[]⟩, .int .i64 0, .int .i64 0, .string ⟨#[]⟩, .int .i64 0, .int .i64 0] 43))
 have HB2 := Lh ((HB1.out.alloc (by omega) (.cells #[.pointer (some ⟨W.heap.size + 1, 0, none⟩)] 187)).alloc (by simp; omega) (.cells #[.int .i64 0, .int .i64 0, .int .i64 0, .slice none 0 0, .int .i64 0, .string ⟨#[]⟩, .int .i64 0, .int .i64 0, .string ⟨#[]⟩, .int .i64 0, .int .i64 0] 43))
 have hs2 : (w1.alloc (.cells #[.pointer (some ⟨W.heap.size + 1, 0, none⟩)] 187)).heap.size = w1.heap.size + 1 := by simp
 clear hr hb HR0 CR HAl HBl HB1 HR1 hs1
 go_wp2_with fail
 generalize hW0 : (w1.alloc (.cells #[.pointer (some ⟨W.heap.size + 1, 0, none⟩)] 187)).alloc (.cells #[.int .i64 0, .int .i64 0, .int .i64 0, .slice none 0 0, .int .i64 0, .string ⟨#[]⟩, .int .i64 0, .int .i64 0, .string ⟨#[]⟩, .int .i64 0, .int .i64 0] 43) = W0 at *
 have hRW : W.heap.size < w1.heap.size := by omega
 have hqW : W.heap.size < W.heap.size + 1 := by omega
 clear hW0 hs2
 generalize hq : W.heap.size + 1 = q at *
 generalize hj : w1.heap.size = j at *
 clear hj hq
 go_at_call 91; (with_reducible refine (show Calls Tryz.prog 91 #[.pointer (some ⟨j, 0, none⟩), .int .i64 7] W0 _ from lx_head HX.out.rd HX.out.lx HX.out.jq 7).mono ?_); rintro e w3 ⟨rfl, hr, hf⟩
 have HX3 := Lh (HX.out.read hr hf)
 have HKD := Lh (show kindD xs = numP xs M40 ⟨0, none⟩ from rfl)
 clear hr hf HX
 have HHD := Lh (show headP xs (7 : Int) ⟨0, none⟩ = (numP xs M40 ⟨0, none⟩).2 by
  unfold headP
  rw [if_neg]
  rintro ⟨_, h⟩
  have hk := HKN.out
  rw [HKD.out] at hk
  omega)
 rw [show ((7 : Nat) : Int) = (7 : Int) from rfl] at HX3
 rw [HHD.out] at HX3
 simp only [show ((7 : Nat) : Int) = (7 : Int) from rfl, HHD.out]
 rw [HKD.out] at HKN
 clear HHD
 generalize hyd : numP xs M40 ⟨0, none⟩ = y at *
 clear hyd
 obtain ⟨k0, s1⟩ := y
 dsimp only at HX3 HKN HKD ⊢
 generalize hid : numP xs M40 s1 = y at *
 have HID := Lh hid
 clear hid
 obtain ⟨id0, s2⟩ := y
 dsimp only at HX3 HID ⊢
 have hk1 : k0 = 7 := HKN.out
 subst hk1
 simp only [show ((7 : Nat) : Int) = (7 : Int) from rfl]
 have hcb := HX3.out.blk.cell
 have hfb := HX3.out.blk.frozen
 have HX4 := Lh (show DxIs W0 q j (j + 1) 43 A n c xs (rqC (.slice none 0 0) ⟨7, (id0 : Int), 0, [], cell0, cell0, 0⟩) s2 41 3 (.slice none 0 0) 0 [] ((w3.setCell ⟨j + 1, 0, none⟩ (.int .i64 7)).setCell ⟨j + 1, 1, none⟩ (.int .i64 (id0 : Int))) from (HX3.out.put (cs1 := rqC (.slice none 0 0) ⟨7, 0, 0, [], cell0, cell0, 0⟩) 0 (.int .i64 7) rfl).put 1 (.int .i64 (id0 : Int)) rfl)
 clear HX3
 have HRD := Lh (show readD xs = ((⟨7, (id0 : Int), 0, [], cell0, cell0, 0⟩ : Rq), s2) by
  unfold readD bodyD
  rw [HKD.out]
  simp [HID.out])
 go_wp2_with fail
 generalize ((w3.setCell ⟨j + 1, 0, none⟩ (.int .i64 7)).setCell ⟨j + 1, 1, none⟩ (.int .i64 (id0 : Int))) = wl at *
 go_loopw [8] (fun t8 wz => t8 = .int .i64 0 ∧ Hid (DxIs W0 q j (j + 1) 43 A n c xs (rqC (.slice none 0 0) ⟨7, (id0 : Int), 0, [], cell0, cell0, 0⟩) s2 41 3 (.slice none 0 0) 0 [] wz)) (fun _ _ => 0)
 case atStart => exact ⟨rfl, HX4⟩
 case round =>
  obtain ⟨rfl, HP⟩ := hrel
  rename World => wz
  clear hcb hfb
  obtain ⟨r0, hr0⟩ : ∃ r0 : Rq, r0 = ⟨7, (id0 : Int), 0, [], cell0, cell0, 0⟩ := ⟨_, rfl⟩
  obtain ⟨vz, hv0⟩ : ∃ vz : Value, vz = .slice none 0 0 := ⟨_, rfl⟩
  have HX7 := Lh (show DxIs W0 q j (j + 1) 43 A n c xs (rqC vz r0) (readD xs).2 41 3 vz r0.cs.length (cellCs r0.cs) wz by
   rw [hv0, hr0, HRD.out]
   exact HP.out)
  have HRE := Lh (show (readD xs).2.fault = none → r0 = (readD xs).1 from fun _ => by rw [hr0, HRD.out])
  clear hr0 HP hv0
  have HDEC := Lh (show decRq xs = if (checkD (checkRq (readD xs).1) (endP xs (readD xs).2)).fault.isSome then (rq0, (checkD (checkRq (readD xs).1) (endP xs (readD xs).2)).fault) else ((readD xs).1, none) by
   unfold decRq
   rw [if_neg (by rw [HKD.out]; dsimp only; omega)])
  have HOK := Lh (readD_ok xs)
  generalize readD xs = y at *
  obtain ⟨r', s7⟩ := y
  dsimp only at HX7 HRE HDEC HOK
  have l0 : wz.cell? ⟨j, 0, none⟩ = some (.pointer (some ⟨q, 0, none⟩)) := HX7.out.lx.cell 0
  go_wp2_with fail
  go_at_call 95; (with_reducible refine (dc_end HX7.out.rd).mono ?_); rintro e w8 ⟨rfl, hr, hf⟩
  have HX8 := Lh (HX7.out.read hr hf)
  clear hr hf l0 HX7
  have l0 : w8.cell? ⟨j, 0, none⟩ = some (.pointer (some ⟨q, 0, none⟩)) := HX8.out.lx.cell 0
  have p2 : w8.cell? ⟨q, 2, none⟩ = some (.int .i64 (endP xs s7).err) := HX8.out.rd.blk.cell 2
  rcases hfl : (endP xs s7).fault with _ | ⟨code, pl⟩
  ·have hre := HRE.out (endP_none2 hfl)
   subst hre
   rw [(DocIs.err_no hfl).1] at p2
   obtain ⟨As, cz, hvz⟩ := own_form3 HX8.out.own
   subst hvz
   have HCR := Lh (CellsOwn.rd_ (show CellsOwn w8 W0.heap.size (.slice As r0.cs.length cz) r0.cs from HX8.out.own))
   have hcb := HX8.out.blk.cell
   go_wp2_with fail
   go_at_call 79; (with_reducible refine (rcheck_rq As _ cz r0 w8 rfl HCR.out.1 HCR.out.2 HOK.out).mono ?_); rintro e w9 ⟨rfl, hb9⟩
   have HX9 := Lh (HX8.out.kept hb9)
   have HR9 := Lh (HR2.out.tur HX9.out.tur (by omega))
   have HB9 := Lh (HB2.out.trans (HX9.out.tur.below HB2.out.size (fun k e => by omega)))
   clear hb9 hcb l0 p2 HX8
   have hfR := HR9.out.frozen
   have hcR := HR9.out.cell
   by_cases hck : checkRq r0 = 0
   ·have HD := Lh (show decRq xs = (r0, none) by
     rw [HDEC.out]
     unfold checkD
     rw [hfl, hck]
     simp [RS.fail, hfl])
    rw [hck]
    have hcb := HX9.out.blk.cell
    obtain ⟨wC, HW, HS⟩ := set11e HR9.out (.int .i64 r0.kind) (.int .i64 r0.id) (.int .i64 r0.epoch) (.slice As r0.cs.length cz) (.int .i64 r0.frm.view) (.string r0.frm.key) (.int .i64 r0.frm.start) (.int .i64 r0.too.view) (.string r0.too.key) (.int .i64 r0.too.start) (.int .i64 r0.limit)
    go_wp2
    rw [HW.out]
    have hc7 := HS.out.1.cell
    exact bodyPost_ret (v := .tuple #[.agg (rqC (.slice As r0.cs.length cz) r0), .int .i64 0, .int .i64 0]) (by simp [results, Tryz.results61, go_sem, hc7]) rfl
     ⟨HB9.out.trans (HS.out.2.below HB9.out.size (fun k e => by omega)), by rw [HD.out]; exact ⟨_, rfl, own_low (show CellsOwn w9 W0.heap.size (.slice As r0.cs.length cz) r0.cs from HX9.out.own) HS.out.2 (fun k e => by subst e; have := HX9.out.jl; omega) (by have := HX9.out.jl; omega)⟩⟩
   ·have HD := Lh (show decRq xs = (rq0, some (checkRq r0, 0)) by
     rw [HDEC.out]
     unfold checkD
     rw [hfl]
     simp [RS.fail, hfl, hck])
    have hz : (checkRq r0 != 0) = true := by simpa using hck
    obtain ⟨wC, HW, HS⟩ := set11e HR9.out (.int .i64 0) (.int .i64 0) (.int .i64 0) (.slice none 0 0) (.int .i64 0) (.string ⟨#[]⟩) (.int .i64 0) (.int .i64 0) (.string ⟨#[]⟩) (.int .i64 0) (.int .i64 0)
    go_wp2
    rw [HW.out]
    have hc7 := HS.out.1.cell
    exact bodyPost_ret (v := .tuple #[.agg (rqC nilS rq0), .int .i64 (checkRq r0), .int .i64 0]) (by simp [results, Tryz.results61, go_sem, hc7, rq0, cell0]) rfl
     ⟨HB9.out.trans (HS.out.2.below HB9.out.size (fun k e => by omega)), by rw [HD.out]⟩
  ·have HD := Lh (show decRq xs = (rq0, some (code, pl)) by rw [HDEC.out]; unfold checkD; simp [hfl])
   have hne := HX8.out.rd.ok code pl hfl
   have hcode : (endP xs s7).err = code := by unfold RS.err; rw [hfl]
   have hpl : (endP xs s7).on = pl := by unfold RS.on; rw [hfl]
   rw [hcode] at p2
   have HQB := Lh (show Blk w8 q 192 (DcC (.slice A n c) ((endP xs s7).pos : Int) code pl) by have h := HX8.out.rd.blk; rw [hcode, hpl] at h; exact h)
   have HLB := Lh HX8.out.lx
   have HR8 := Lh (HR2.out.tur HX8.out.tur (by omega))
   have HB8 := Lh (HB2.out.trans (HX8.out.tur.below HB2.out.size (fun k e => by omega)))
   have hz : (code != 0) = true := by unfold bne; rw [hne]; rfl
   clear hcode hpl hne hfl HX8 HDEC HRE
   go_wp2_with fail
   clear l0 p2
   (refine wp_region_held_drew (S := fun w9 => LxB w9 j q ∧ Blk w9 q 192 (DcC (.slice A n c) ((endP xs s7).pos : Int) code pl)) (by kernel_rfl) ⟨HLB.out.drew, HQB.out.drew⟩ (fun hHeld => ?_))
   have HLd := Lh HLB.out.drew
   have HQd := Lh HQB.out.drew
   have HRd := Lh HR8.out.drew
   have HBd := Lh (HB8.out.trans (Below.refl _ _).drew)
   have hsz := HB8.out.size
   clear HLB HQB HR8 HB8
   generalize w8.drew = wd at *
   (refine tq 0 76 ?_)
   (try simp only [Act.put, z1, z2, z3])
   (refine tq 1 77 ?_)
   (try simp only [Act.put, z1, z2, z3])
   (refine tq 2 78 ?_)
   (try simp only [Act.put, z1, z2, z3])
   (refine tq 3 79 ?_)
   (try simp only [Act.put, z1, z2, z3])
   (refine tr (v := ?v122) 4 80 ?h122 ?_)
   case h122 => (intro w9 hSw; have hc9 := Blk.cell hSw.1; clear hSw; first | (go_simp; done) | (go_simp; with_reducible rfl))
   (try simp only [Act.put, z1, z2, z3])
   (refine tq 5 81 ?_)
   (try simp only [Act.put, z1, z2, z3])
   (refine tq 6 82 ?_)
   (try simp only [Act.put, z1, z2, z3])
   (refine tr (v := ?v125) 7 83 ?h125 ?_)
   case h125 => (intro w9 hSw; have hc9 := Blk.cell hSw.2; clear hSw; first | (go_simp; done) | (go_simp; with_reducible rfl))
   (try simp only [Act.put, z1, z2, z3])
   (refine tq 8 84 ?_)
   (try simp only [Act.put, z1, z2, z3])
   (refine tq 9 85 ?_)
   (try simp only [Act.put, z1, z2, z3])
   (refine tq 10 86 ?_)
   (try simp only [Act.put, z1, z2, z3])
   (refine tr (v := ?v129) 11 87 ?h129 ?_)
   case h129 => (intro w9 hSw; have hc9 := Blk.cell hSw.1; clear hSw; first | (go_simp; done) | (go_simp; with_reducible rfl))
   (try simp only [Act.put, z1, z2, z3])
   (refine tq 12 88 ?_)
   (try simp only [Act.put, z1, z2, z3])
   (refine tq 13 89 ?_)
   (try simp only [Act.put, z1, z2, z3])
   (refine tr (v := ?v132) 14 90 ?h132 ?_)
   case h132 => (intro w9 hSw; have hc9 := Blk.cell hSw.2; clear hSw; first | (go_simp; done) | (go_simp; with_reducible rfl))
   (try simp only [Act.put, z1, z2, z3])
   have hfR := HRd.out.frozen
   have hcR := HRd.out.cell
   obtain ⟨wC, HW, HS⟩ := set11e HRd.out (.int .i64 0) (.int .i64 0) (.int .i64 0) (.slice none 0 0) (.int .i64 0) (.string ⟨#[]⟩) (.int .i64 0) (.int .i64 0) (.string ⟨#[]⟩) (.int .i64 0) (.int .i64 0)
   (refine wpAnyH_ready (rs := [15]) (by kernel_rfl) (by simp) ?_)
   (refine AllReadyH.cons (o := _) rfl (fun K hK => ?_) AllReadyH.nil)
   go_simp
   rw [HW.out]
   (refine hK.out _ _ ⟨HLd.out.tur HS.out.2 (by omega), HQd.out.tur HS.out.2 (by omega)⟩ (fun hHeld => ?_))
   clear hK K
   (refine tq 16 3 ?_)
   (try simp only [Act.put, z1, z2, z3])
   (refine tq 17 4 ?_)
   (try simp only [Act.put, z1, z2, z3])
   (refine wpAnyH_done (by kernel_rfl) ?_ _)
   have hc7 := HS.out.1.cell
   go_wp2
   exact bodyPost_ret (v := .tuple #[.agg (rqC nilS rq0), .int .i64 code, .int .i64 pl]) (by simp [results, Tryz.results61, go_sem, hc7, rq0, cell0]) rfl
    ⟨HBd.out.trans (HS.out.2.below HBd.out.size (fun k e => by omega)), by rw [HD.out]⟩
theorem doc_rq_join (A : Option Addr) (n c : Nat) (xs : List Int) (hk : (kindD xs).1 = 5) (W : World) (hl : xs.length = n) (h : CellsAt W A (bvs xs)) (hw : ∀ x ∈ xs, (Lit.int .u8 x).wf = true) (hn : n ≤ 140737488355328) (hc : n ≤ c) :
  Calls Tryz.prog 61 #[.slice A n c] W (DocQ W (decRq xs)) := by
 have HR0 := Lh (Blk.new W 43 #[.int .i64 0, .int .i64 0, .int .i64 0, .slice none 0 0, .int .i64 0, .string ⟨#[]⟩, .int .i64 0, .int .i64 0, .string ⟨#[]⟩, .int .i64 0, .int .i64 0])
 have bl0 := (Below.refl W.heap.size W).alloc (Nat.le_refl _) (.cells #[.int .i64 0, .int .i64 0, .int .i64 0, .slice none 0 0, .int .i64 0, .string ⟨#[]⟩, .int .i64 0, .int .i64 0, .string ⟨#[]⟩, .int .i64 0, .int .i64 0] 43)
 have hs1 : (W.alloc (.cells #[.int .i64 0, .int .i64 0, .int .i64 0, .slice none 0 0, .int .i64 0, .string ⟨#[]⟩, .int .i64 0, .int .i64 0, .string ⟨#[]⟩, .int .i64 0, .int .i64 0] 43)).heap.size = W.heap.size + 1 := by simp
 have CR := Lh (dc_read A n c xs (W.alloc (.cells #[.int .i64 0, .int .i64 0, .int .i64 0, .slice none 0 0, .int .i64 0, .string ⟨#[]⟩, .int .i64 0, .int .i64 0, .string ⟨#[]⟩, .int .i64 0, .int .i64 0] 43)) hl (h.below bl0) hw hn hc)
 have HKN := Lh hk
 have HAl := Lh (show xs ≠ [] → ∀ ad, A = some ad → ad.block < W.heap.size from fun h0 ad e => by
  subst e
  obtain ⟨ad', e, h1, _⟩ := h 0 (by rw [bvs_len]; exact List.length_pos_iff.2 h0)
  cases e
  exact h1)
 have HBl := Lh bl0
 clear h hw hn hk hc bl0
 go_enter Tryz.func61, Tryz.ntmps61
 go_wp2_with fail
 go_at_call 90; (with_reducible refine CR.out.mono ?_); rintro e w1 ⟨rfl, hr, hb⟩
 have HR1 := Lh (HR0.out.kept hb)
 have HB1 := Lh (HBl.out.trans (hb.mono (by simp)))
 have hw1 : W.heap.size + 1 ≤ w1.heap.size := hs1 ▸ hb.size
 rw [hs1] at hr ⊢
 have HX := Lh (DxIs.start hr 43 #[.int .i64 0, .int .i64 0, .int .i64 0, .slice none 0 0, .int .i64 0, .string ⟨#[]⟩, .int .i64 0, .int .i64 0, .string ⟨#[]⟩, .int .i64 0, .int .i64 0] 41 3 (fun h0 ad e => by have := HAl.out h0 ad e; omega))
 have HR2 := Lh ((HR1.out.alloc (.cells #[.pointer (some ⟨W.heap.size + 1, 0, none⟩)] 187)).alloc (.cells #[.int .i64 0, .int .i64 0, .int .i64 0, .slice none 0 0, .int .i64 0, .string ⟨#[]⟩, .int .i64 0, .int .i64 0, .string ⟨#[]⟩, .int .i64 0, .int .i64 0] 43))
 have HB2 := Lh ((HB1.out.alloc (by omega) (.cells #[.pointer (some ⟨W.heap.size + 1, 0, none⟩)] 187)).alloc (by simp; omega) (.cells #[.int .i64 0, .int .i64 0, .int .i64 0, .slice none 0 0, .int .i64 0, .string ⟨#[]⟩, .int .i64 0, .int .i64 0, .string ⟨#[]⟩, .int .i64 0, .int .i64 0] 43))
 have hs2 : (w1.alloc (.cells #[.pointer (some ⟨W.heap.size + 1, 0, none⟩)] 187)).heap.size = w1.heap.size + 1 := by simp
 clear hr hb HR0 CR HAl HBl HB1 HR1 hs1
 go_wp2_with fail
 generalize hW0 : (w1.alloc (.cells #[.pointer (some ⟨W.heap.size + 1, 0, none⟩)] 187)).alloc (.cells #[.int .i64 0, .int .i64 0, .int .i64 0, .slice none 0 0, .int .i64 0, .string ⟨#[]⟩, .int .i64 0, .int .i64 0, .string ⟨#[]⟩, .int .i64 0, .int .i64 0] 43) = W0 at *
 have hRW : W.heap.size < w1.heap.size := by omega
 have hqW : W.heap.size < W.heap.size + 1 := by omega
 clear hW0 hs2
 generalize hq : W.heap.size + 1 = q at *
 generalize hj : w1.heap.size = j at *
 clear hj hq
 go_at_call 91; (with_reducible refine (show Calls Tryz.prog 91 #[.pointer (some ⟨j, 0, none⟩), .int .i64 7] W0 _ from lx_head HX.out.rd HX.out.lx HX.out.jq 7).mono ?_); rintro e w3 ⟨rfl, hr, hf⟩
 have HX3 := Lh (HX.out.read hr hf)
 have HKD := Lh (show kindD xs = numP xs M40 ⟨0, none⟩ from rfl)
 clear hr hf HX
 have HHD := Lh (show headP xs (7 : Int) ⟨0, none⟩ = (numP xs M40 ⟨0, none⟩).2 by
  unfold headP
  rw [if_neg]
  rintro ⟨_, h⟩
  have hk := HKN.out
  rw [HKD.out] at hk
  omega)
 rw [show ((7 : Nat) : Int) = (7 : Int) from rfl] at HX3
 rw [HHD.out] at HX3
 simp only [show ((7 : Nat) : Int) = (7 : Int) from rfl, HHD.out]
 rw [HKD.out] at HKN
 clear HHD
 generalize hyd : numP xs M40 ⟨0, none⟩ = y at *
 clear hyd
 obtain ⟨k0, s1⟩ := y
 dsimp only at HX3 HKN HKD ⊢
 generalize hid : numP xs M40 s1 = y at *
 have HID := Lh hid
 clear hid
 obtain ⟨id0, s2⟩ := y
 dsimp only at HX3 HID ⊢
 have hk1 : k0 = 5 := HKN.out
 subst hk1
 simp only [show ((5 : Nat) : Int) = (5 : Int) from rfl]
 have hcb := HX3.out.blk.cell
 have hfb := HX3.out.blk.frozen
 have HX4 := Lh (show DxIs W0 q j (j + 1) 43 A n c xs (rqC (.slice none 0 0) ⟨5, (id0 : Int), 0, [], cell0, cell0, 0⟩) s2 41 3 (.slice none 0 0) 0 [] ((w3.setCell ⟨j + 1, 0, none⟩ (.int .i64 5)).setCell ⟨j + 1, 1, none⟩ (.int .i64 (id0 : Int))) from (HX3.out.put (cs1 := rqC (.slice none 0 0) ⟨5, 0, 0, [], cell0, cell0, 0⟩) 0 (.int .i64 5) rfl).put 1 (.int .i64 (id0 : Int)) rfl)
 clear HX3
 go_wp2_with fail
 generalize ((w3.setCell ⟨j + 1, 0, none⟩ (.int .i64 5)).setCell ⟨j + 1, 1, none⟩ (.int .i64 (id0 : Int))) = wg5 at *
 go_at_call 92; (with_reducible refine (lx_num HX4.out.rd HX4.out.lx).mono ?_); rintro e wh5 ⟨rfl, hr, hf⟩
 have HN5 := Lh (HX4.out.read hr hf)
 clear hr hf hcb hfb HX4
 generalize hnn : numP xs M40 s2 = y at *
 have HE5 := Lh hnn
 clear hnn
 obtain ⟨ep0, s3⟩ := y
 dsimp only at HN5 HE5 ⊢
 have hcb := HN5.out.blk.cell
 have hfb := HN5.out.blk.frozen
 have HX5 := Lh (HN5.out.put (cs1 := rqC (.slice none 0 0) ⟨5, (id0 : Int), (ep0 : Int), [], cell0, cell0, 0⟩) 2 (.int .i64 (ep0 : Int)) rfl)
 have HRD := Lh (show readD xs = ((⟨5, (id0 : Int), (ep0 : Int), [], cell0, cell0, 0⟩ : Rq), s3) by
  unfold readD bodyD
  rw [HKD.out]
  simp [HID.out, HE5.out])
 go_wp2_with fail
 generalize (wh5.setCell ⟨j + 1, 2, none⟩ (.int .i64 (ep0 : Int))) = wl at *
 go_loopw [8] (fun t8 wz => t8 = .int .i64 0 ∧ Hid (DxIs W0 q j (j + 1) 43 A n c xs (rqC (.slice none 0 0) ⟨5, (id0 : Int), (ep0 : Int), [], cell0, cell0, 0⟩) s3 41 3 (.slice none 0 0) 0 [] wz)) (fun _ _ => 0)
 case atStart => exact ⟨rfl, HX5⟩
 case round =>
  obtain ⟨rfl, HP⟩ := hrel
  rename World => wz
  clear hcb hfb
  obtain ⟨r0, hr0⟩ : ∃ r0 : Rq, r0 = ⟨5, (id0 : Int), (ep0 : Int), [], cell0, cell0, 0⟩ := ⟨_, rfl⟩
  obtain ⟨vz, hv0⟩ : ∃ vz : Value, vz = .slice none 0 0 := ⟨_, rfl⟩
  have HX7 := Lh (show DxIs W0 q j (j + 1) 43 A n c xs (rqC vz r0) (readD xs).2 41 3 vz r0.cs.length (cellCs r0.cs) wz by
   rw [hv0, hr0, HRD.out]
   exact HP.out)
  have HRE := Lh (show (readD xs).2.fault = none → r0 = (readD xs).1 from fun _ => by rw [hr0, HRD.out])
  clear hr0 HP hv0
  have HDEC := Lh (show decRq xs = if (checkD (checkRq (readD xs).1) (endP xs (readD xs).2)).fault.isSome then (rq0, (checkD (checkRq (readD xs).1) (endP xs (readD xs).2)).fault) else ((readD xs).1, none) by
   unfold decRq
   rw [if_neg (by rw [HKD.out]; dsimp only; omega)])
  have HOK := Lh (readD_ok xs)
  generalize readD xs = y at *
  obtain ⟨r', s7⟩ := y
  dsimp only at HX7 HRE HDEC HOK
  have l0 : wz.cell? ⟨j, 0, none⟩ = some (.pointer (some ⟨q, 0, none⟩)) := HX7.out.lx.cell 0
  go_wp2_with fail
  go_at_call 95; (with_reducible refine (dc_end HX7.out.rd).mono ?_); rintro e w8 ⟨rfl, hr, hf⟩
  have HX8 := Lh (HX7.out.read hr hf)
  clear hr hf l0 HX7
  have l0 : w8.cell? ⟨j, 0, none⟩ = some (.pointer (some ⟨q, 0, none⟩)) := HX8.out.lx.cell 0
  have p2 : w8.cell? ⟨q, 2, none⟩ = some (.int .i64 (endP xs s7).err) := HX8.out.rd.blk.cell 2
  rcases hfl : (endP xs s7).fault with _ | ⟨code, pl⟩
  ·have hre := HRE.out (endP_none2 hfl)
   subst hre
   rw [(DocIs.err_no hfl).1] at p2
   obtain ⟨As, cz, hvz⟩ := own_form3 HX8.out.own
   subst hvz
   have HCR := Lh (CellsOwn.rd_ (show CellsOwn w8 W0.heap.size (.slice As r0.cs.length cz) r0.cs from HX8.out.own))
   have hcb := HX8.out.blk.cell
   go_wp2_with fail
   go_at_call 79; (with_reducible refine (rcheck_rq As _ cz r0 w8 rfl HCR.out.1 HCR.out.2 HOK.out).mono ?_); rintro e w9 ⟨rfl, hb9⟩
   have HX9 := Lh (HX8.out.kept hb9)
   have HR9 := Lh (HR2.out.tur HX9.out.tur (by omega))
   have HB9 := Lh (HB2.out.trans (HX9.out.tur.below HB2.out.size (fun k e => by omega)))
   clear hb9 hcb l0 p2 HX8
   have hfR := HR9.out.frozen
   have hcR := HR9.out.cell
   by_cases hck : checkRq r0 = 0
   ·have HD := Lh (show decRq xs = (r0, none) by
     rw [HDEC.out]
     unfold checkD
     rw [hfl, hck]
     simp [RS.fail, hfl])
    rw [hck]
    have hcb := HX9.out.blk.cell
    obtain ⟨wC, HW, HS⟩ := set11e HR9.out (.int .i64 r0.kind) (.int .i64 r0.id) (.int .i64 r0.epoch) (.slice As r0.cs.length cz) (.int .i64 r0.frm.view) (.string r0.frm.key) (.int .i64 r0.frm.start) (.int .i64 r0.too.view) (.string r0.too.key) (.int .i64 r0.too.start) (.int .i64 r0.limit)
    go_wp2
    rw [HW.out]
    have hc7 := HS.out.1.cell
    exact bodyPost_ret (v := .tuple #[.agg (rqC (.slice As r0.cs.length cz) r0), .int .i64 0, .int .i64 0]) (by simp [results, Tryz.results61, go_sem, hc7]) rfl
     ⟨HB9.out.trans (HS.out.2.below HB9.out.size (fun k e => by omega)), by rw [HD.out]; exact ⟨_, rfl, own_low (show CellsOwn w9 W0.heap.size (.slice As r0.cs.length cz) r0.cs from HX9.out.own) HS.out.2 (fun k e => by subst e; have := HX9.out.jl; omega) (by have := HX9.out.jl; omega)⟩⟩
   ·have HD := Lh (show decRq xs = (rq0, some (checkRq r0, 0)) by
     rw [HDEC.out]
     unfold checkD
     rw [hfl]
     simp [RS.fail, hfl, hck])
    have hz : (checkRq r0 != 0) = true := by simpa using hck
    obtain ⟨wC, HW, HS⟩ := set11e HR9.out (.int .i64 0) (.int .i64 0) (.int .i64 0) (.slice none 0 0) (.int .i64 0) (.string ⟨#[]⟩) (.int .i64 0) (.int .i64 0) (.string ⟨#[]⟩) (.int .i64 0) (.int .i64 0)
    go_wp2
    rw [HW.out]
    have hc7 := HS.out.1.cell
    exact bodyPost_ret (v := .tuple #[.agg (rqC nilS rq0), .int .i64 (checkRq r0), .int .i64 0]) (by simp [results, Tryz.results61, go_sem, hc7, rq0, cell0]) rfl
     ⟨HB9.out.trans (HS.out.2.below HB9.out.size (fun k e => by omega)), by rw [HD.out]⟩
  ·have HD := Lh (show decRq xs = (rq0, some (code, pl)) by rw [HDEC.out]; unfold checkD; simp [hfl])
   have hne := HX8.out.rd.ok code pl hfl
   have hcode : (endP xs s7).err = code := by unfold RS.err; rw [hfl]
   have hpl : (endP xs s7).on = pl := by unfold RS.on; rw [hfl]
   rw [hcode] at p2
   have HQB := Lh (show Blk w8 q 192 (DcC (.slice A n c) ((endP xs s7).pos : Int) code pl) by have h := HX8.out.rd.blk; rw [hcode, hpl] at h; exact h)
   have HLB := Lh HX8.out.lx
   have HR8 := Lh (HR2.out.tur HX8.out.tur (by omega))
   have HB8 := Lh (HB2.out.trans (HX8.out.tur.below HB2.out.size (fun k e => by omega)))
   have hz : (code != 0) = true := by unfold bne; rw [hne]; rfl
   clear hcode hpl hne hfl HX8 HDEC HRE
   go_wp2_with fail
   clear l0 p2
   (refine wp_region_held_drew (S := fun w9 => LxB w9 j q ∧ Blk w9 q 192 (DcC (.slice A n c) ((endP xs s7).pos : Int) code pl)) (by kernel_rfl) ⟨HLB.out.drew, HQB.out.drew⟩ (fun hHeld => ?_))
   have HLd := Lh HLB.out.drew
   have HQd := Lh HQB.out.drew
   have HRd := Lh HR8.out.drew
   have HBd := Lh (HB8.out.trans (Below.refl _ _).drew)
   have hsz := HB8.out.size
   clear HLB HQB HR8 HB8
   generalize w8.drew = wd at *
   (refine tq 0 76 ?_)
   (try simp only [Act.put, z1, z2, z3])
   (refine tq 1 77 ?_)
   (try simp only [Act.put, z1, z2, z3])
   (refine tq 2 78 ?_)
   (try simp only [Act.put, z1, z2, z3])
   (refine tq 3 79 ?_)
   (try simp only [Act.put, z1, z2, z3])
   (refine tr (v := ?v139) 4 80 ?h139 ?_)
   case h139 => (intro w9 hSw; have hc9 := Blk.cell hSw.1; clear hSw; first | (go_simp; done) | (go_simp; with_reducible rfl))
   (try simp only [Act.put, z1, z2, z3])
   (refine tq 5 81 ?_)
   (try simp only [Act.put, z1, z2, z3])
   (refine tq 6 82 ?_)
   (try simp only [Act.put, z1, z2, z3])
   (refine tr (v := ?v142) 7 83 ?h142 ?_)
   case h142 => (intro w9 hSw; have hc9 := Blk.cell hSw.2; clear hSw; first | (go_simp; done) | (go_simp; with_reducible rfl))
   (try simp only [Act.put, z1, z2, z3])
   (refine tq 8 84 ?_)
   (try simp only [Act.put, z1, z2, z3])
   (refine tq 9 85 ?_)
   (try simp only [Act.put, z1, z2, z3])
   (refine tq 10 86 ?_)
   (try simp only [Act.put, z1, z2, z3])
   (refine tr (v := ?v146) 11 87 ?h146 ?_)
   case h146 => (intro w9 hSw; have hc9 := Blk.cell hSw.1; clear hSw; first | (go_simp; done) | (go_simp; with_reducible rfl))
   (try simp only [Act.put, z1, z2, z3])
   (refine tq 12 88 ?_)
   (try simp only [Act.put, z1, z2, z3])
   (refine tq 13 89 ?_)
   (try simp only [Act.put, z1, z2, z3])
   (refine tr (v := ?v149) 14 90 ?h149 ?_)
   case h149 => (intro w9 hSw; have hc9 := Blk.cell hSw.2; clear hSw; first | (go_simp; done) | (go_simp; with_reducible rfl))
   (try simp only [Act.put, z1, z2, z3])
   have hfR := HRd.out.frozen
   have hcR := HRd.out.cell
   obtain ⟨wC, HW, HS⟩ := set11e HRd.out (.int .i64 0) (.int .i64 0) (.int .i64 0) (.slice none 0 0) (.int .i64 0) (.string ⟨#[]⟩) (.int .i64 0) (.int .i64 0) (.string ⟨#[]⟩) (.int .i64 0) (.int .i64 0)
   (refine wpAnyH_ready (rs := [15]) (by kernel_rfl) (by simp) ?_)
   (refine AllReadyH.cons (o := _) rfl (fun K hK => ?_) AllReadyH.nil)
   go_simp
   rw [HW.out]
   (refine hK.out _ _ ⟨HLd.out.tur HS.out.2 (by omega), HQd.out.tur HS.out.2 (by omega)⟩ (fun hHeld => ?_))
   clear hK K
   (refine tq 16 3 ?_)
   (try simp only [Act.put, z1, z2, z3])
   (refine tq 17 4 ?_)
   (try simp only [Act.put, z1, z2, z3])
   (refine wpAnyH_done (by kernel_rfl) ?_ _)
   have hc7 := HS.out.1.cell
   go_wp2
   exact bodyPost_ret (v := .tuple #[.agg (rqC nilS rq0), .int .i64 code, .int .i64 pl]) (by simp [results, Tryz.results61, go_sem, hc7, rq0, cell0]) rfl
    ⟨HBd.out.trans (HS.out.2.below HBd.out.size (fun k e => by omega)), by rw [HD.out]⟩
theorem doc_rq_rel (A : Option Addr) (n c : Nat) (xs : List Int) (hk : (kindD xs).1 = 6) (W : World) (hl : xs.length = n) (h : CellsAt W A (bvs xs)) (hw : ∀ x ∈ xs, (Lit.int .u8 x).wf = true) (hn : n ≤ 140737488355328) (hc : n ≤ c) :
  Calls Tryz.prog 61 #[.slice A n c] W (DocQ W (decRq xs)) := by
 have HR0 := Lh (Blk.new W 43 #[.int .i64 0, .int .i64 0, .int .i64 0, .slice none 0 0, .int .i64 0, .string ⟨#[]⟩, .int .i64 0, .int .i64 0, .string ⟨#[]⟩, .int .i64 0, .int .i64 0])
 have bl0 := (Below.refl W.heap.size W).alloc (Nat.le_refl _) (.cells #[.int .i64 0, .int .i64 0, .int .i64 0, .slice none 0 0, .int .i64 0, .string ⟨#[]⟩, .int .i64 0, .int .i64 0, .string ⟨#[]⟩, .int .i64 0, .int .i64 0] 43)
 have hs1 : (W.alloc (.cells #[.int .i64 0, .int .i64 0, .int .i64 0, .slice none 0 0, .int .i64 0, .string ⟨#[]⟩, .int .i64 0, .int .i64 0, .string ⟨#[]⟩, .int .i64 0, .int .i64 0] 43)).heap.size = W.heap.size + 1 := by simp
 have CR := Lh (dc_read A n c xs (W.alloc (.cells #[.int .i64 0, .int .i64 0, .int .i64 0, .slice none 0 0, .int .i64 0, .string ⟨#[]⟩, .int .i64 0, .int .i64 0, .string ⟨#[]⟩, .int .i64 0, .int .i64 0] 43)) hl (h.below bl0) hw hn hc)
 have HKN := Lh hk
 have HAl := Lh (show xs ≠ [] → ∀ ad, A = some ad → ad.block < W.heap.size from fun h0 ad e => by
  subst e
  obtain ⟨ad', e, h1, _⟩ := h 0 (by rw [bvs_len]; exact List.length_pos_iff.2 h0)
  cases e
  exact h1)
 have HBl := Lh bl0
 clear h hw hn hk hc bl0
 go_enter Tryz.func61, Tryz.ntmps61
 go_wp2_with fail
 go_at_call 90; (with_reducible refine CR.out.mono ?_); rintro e w1 ⟨rfl, hr, hb⟩
 have HR1 := Lh (HR0.out.kept hb)
 have HB1 := Lh (HBl.out.trans (hb.mono (by simp)))
 have hw1 : W.heap.size + 1 ≤ w1.heap.size := hs1 ▸ hb.size
 rw [hs1] at hr ⊢
 have HX := Lh (DxIs.start hr 43 #[.int .i64 0, .int .i64 0, .int .i64 0, .slice none 0 0, .int .i64 0, .string ⟨#[]⟩, .int .i64 0, .int .i64 0, .string ⟨#[]⟩, .int .i64 0, .int .i64 0] 41 3 (fun h0 ad e => by have := HAl.out h0 ad e; omega))
 have HR2 := Lh ((HR1.out.alloc (.cells #[.pointer (some ⟨W.heap.size + 1, 0, none⟩)] 187)).alloc (.cells #[.int .i64 0, .int .i64 0, .int .i64 0, .slice none 0 0, .int .i64 0, .string ⟨#[]⟩, .int .i64 0, .int .i64 0, .string ⟨#[]⟩, .int .i64 0, .int .i64 0] 43))
 have HB2 := Lh ((HB1.out.alloc (by omega) (.cells #[.pointer (some ⟨W.heap.size + 1, 0, none⟩)] 187)).alloc (by simp; omega) (.cells #[.int .i64 0, .int .i64 0, .int .i64 0, .slice none 0 0, .int .i64 0, .string ⟨#[]⟩, .int .i64 0, .int .i64 0, .string ⟨#[]⟩, .int .i64 0, .int .i64 0] 43))
 have hs2 : (w1.alloc (.cells #[.pointer (some ⟨W.heap.size + 1, 0, none⟩)] 187)).heap.size = w1.heap.size + 1 := by simp
 clear hr hb HR0 CR HAl HBl HB1 HR1 hs1
 go_wp2_with fail
 generalize hW0 : (w1.alloc (.cells #[.pointer (some ⟨W.heap.size + 1, 0, none⟩)] 187)).alloc (.cells #[.int .i64 0, .int .i64 0, .int .i64 0, .slice none 0 0, .int .i64 0, .string ⟨#[]⟩, .int .i64 0, .int .i64 0, .string ⟨#[]⟩, .int .i64 0, .int .i64 0] 43) = W0 at *
 have hRW : W.heap.size < w1.heap.size := by omega
 have hqW : W.heap.size < W.heap.size + 1 := by omega
 clear hW0 hs2
 generalize hq : W.heap.size + 1 = q at *
 generalize hj : w1.heap.size = j at *
 clear hj hq
 go_at_call 91; (with_reducible refine (show Calls Tryz.prog 91 #[.pointer (some ⟨j, 0, none⟩), .int .i64 7] W0 _ from lx_head HX.out.rd HX.out.lx HX.out.jq 7).mono ?_); rintro e w3 ⟨rfl, hr, hf⟩
 have HX3 := Lh (HX.out.read hr hf)
 have HKD := Lh (show kindD xs = numP xs M40 ⟨0, none⟩ from rfl)
 clear hr hf HX
 have HHD := Lh (show headP xs (7 : Int) ⟨0, none⟩ = (numP xs M40 ⟨0, none⟩).2 by
  unfold headP
  rw [if_neg]
  rintro ⟨_, h⟩
  have hk := HKN.out
  rw [HKD.out] at hk
  omega)
 rw [show ((7 : Nat) : Int) = (7 : Int) from rfl] at HX3
 rw [HHD.out] at HX3
 simp only [show ((7 : Nat) : Int) = (7 : Int) from rfl, HHD.out]
 rw [HKD.out] at HKN
 clear HHD
 generalize hyd : numP xs M40 ⟨0, none⟩ = y at *
 clear hyd
 obtain ⟨k0, s1⟩ := y
 dsimp only at HX3 HKN HKD ⊢
 generalize hid : numP xs M40 s1 = y at *
 have HID := Lh hid
 clear hid
 obtain ⟨id0, s2⟩ := y
 dsimp only at HX3 HID ⊢
 have hk1 : k0 = 6 := HKN.out
 subst hk1
 simp only [show ((6 : Nat) : Int) = (6 : Int) from rfl]
 have hcb := HX3.out.blk.cell
 have hfb := HX3.out.blk.frozen
 have HX4 := Lh (show DxIs W0 q j (j + 1) 43 A n c xs (rqC (.slice none 0 0) ⟨6, (id0 : Int), 0, [], cell0, cell0, 0⟩) s2 41 3 (.slice none 0 0) 0 [] ((w3.setCell ⟨j + 1, 0, none⟩ (.int .i64 6)).setCell ⟨j + 1, 1, none⟩ (.int .i64 (id0 : Int))) from (HX3.out.put (cs1 := rqC (.slice none 0 0) ⟨6, 0, 0, [], cell0, cell0, 0⟩) 0 (.int .i64 6) rfl).put 1 (.int .i64 (id0 : Int)) rfl)
 clear HX3
 go_wp2_with fail
 generalize ((w3.setCell ⟨j + 1, 0, none⟩ (.int .i64 6)).setCell ⟨j + 1, 1, none⟩ (.int .i64 (id0 : Int))) = wg5 at *
 go_at_call 92; (with_reducible refine (lx_num HX4.out.rd HX4.out.lx).mono ?_); rintro e wh5 ⟨rfl, hr, hf⟩
 have HN5 := Lh (HX4.out.read hr hf)
 clear hr hf hcb hfb HX4
 generalize hnn : numP xs M40 s2 = y at *
 have HE5 := Lh hnn
 clear hnn
 obtain ⟨ep0, s3⟩ := y
 dsimp only at HN5 HE5 ⊢
 have hcb := HN5.out.blk.cell
 have hfb := HN5.out.blk.frozen
 have HX5 := Lh (HN5.out.put (cs1 := rqC (.slice none 0 0) ⟨6, (id0 : Int), (ep0 : Int), [], cell0, cell0, 0⟩) 2 (.int .i64 (ep0 : Int)) rfl)
 have HRD := Lh (show readD xs = ((⟨6, (id0 : Int), (ep0 : Int), [], cell0, cell0, 0⟩ : Rq), s3) by
  unfold readD bodyD
  rw [HKD.out]
  simp [HID.out, HE5.out])
 go_wp2_with fail
 generalize (wh5.setCell ⟨j + 1, 2, none⟩ (.int .i64 (ep0 : Int))) = wl at *
 go_loopw [8] (fun t8 wz => t8 = .int .i64 0 ∧ Hid (DxIs W0 q j (j + 1) 43 A n c xs (rqC (.slice none 0 0) ⟨6, (id0 : Int), (ep0 : Int), [], cell0, cell0, 0⟩) s3 41 3 (.slice none 0 0) 0 [] wz)) (fun _ _ => 0)
 case atStart => exact ⟨rfl, HX5⟩
 case round =>
  obtain ⟨rfl, HP⟩ := hrel
  rename World => wz
  clear hcb hfb
  obtain ⟨r0, hr0⟩ : ∃ r0 : Rq, r0 = ⟨6, (id0 : Int), (ep0 : Int), [], cell0, cell0, 0⟩ := ⟨_, rfl⟩
  obtain ⟨vz, hv0⟩ : ∃ vz : Value, vz = .slice none 0 0 := ⟨_, rfl⟩
  have HX7 := Lh (show DxIs W0 q j (j + 1) 43 A n c xs (rqC vz r0) (readD xs).2 41 3 vz r0.cs.length (cellCs r0.cs) wz by
   rw [hv0, hr0, HRD.out]
   exact HP.out)
  have HRE := Lh (show (readD xs).2.fault = none → r0 = (readD xs).1 from fun _ => by rw [hr0, HRD.out])
  clear hr0 HP hv0
  have HDEC := Lh (show decRq xs = if (checkD (checkRq (readD xs).1) (endP xs (readD xs).2)).fault.isSome then (rq0, (checkD (checkRq (readD xs).1) (endP xs (readD xs).2)).fault) else ((readD xs).1, none) by
   unfold decRq
   rw [if_neg (by rw [HKD.out]; dsimp only; omega)])
  have HOK := Lh (readD_ok xs)
  generalize readD xs = y at *
  obtain ⟨r', s7⟩ := y
  dsimp only at HX7 HRE HDEC HOK
  have l0 : wz.cell? ⟨j, 0, none⟩ = some (.pointer (some ⟨q, 0, none⟩)) := HX7.out.lx.cell 0
  go_wp2_with fail
  go_at_call 95; (with_reducible refine (dc_end HX7.out.rd).mono ?_); rintro e w8 ⟨rfl, hr, hf⟩
  have HX8 := Lh (HX7.out.read hr hf)
  clear hr hf l0 HX7
  have l0 : w8.cell? ⟨j, 0, none⟩ = some (.pointer (some ⟨q, 0, none⟩)) := HX8.out.lx.cell 0
  have p2 : w8.cell? ⟨q, 2, none⟩ = some (.int .i64 (endP xs s7).err) := HX8.out.rd.blk.cell 2
  rcases hfl : (endP xs s7).fault with _ | ⟨code, pl⟩
  ·have hre := HRE.out (endP_none2 hfl)
   subst hre
   rw [(DocIs.err_no hfl).1] at p2
   obtain ⟨As, cz, hvz⟩ := own_form3 HX8.out.own
   subst hvz
   have HCR := Lh (CellsOwn.rd_ (show CellsOwn w8 W0.heap.size (.slice As r0.cs.length cz) r0.cs from HX8.out.own))
   have hcb := HX8.out.blk.cell
   go_wp2_with fail
   go_at_call 79; (with_reducible refine (rcheck_rq As _ cz r0 w8 rfl HCR.out.1 HCR.out.2 HOK.out).mono ?_); rintro e w9 ⟨rfl, hb9⟩
   have HX9 := Lh (HX8.out.kept hb9)
   have HR9 := Lh (HR2.out.tur HX9.out.tur (by omega))
   have HB9 := Lh (HB2.out.trans (HX9.out.tur.below HB2.out.size (fun k e => by omega)))
   clear hb9 hcb l0 p2 HX8
   have hfR := HR9.out.frozen
   have hcR := HR9.out.cell
   by_cases hck : checkRq r0 = 0
   ·have HD := Lh (show decRq xs = (r0, none) by
     rw [HDEC.out]
     unfold checkD
     rw [hfl, hck]
     simp [RS.fail, hfl])
    rw [hck]
    have hcb := HX9.out.blk.cell
    obtain ⟨wC, HW, HS⟩ := set11e HR9.out (.int .i64 r0.kind) (.int .i64 r0.id) (.int .i64 r0.epoch) (.slice As r0.cs.length cz) (.int .i64 r0.frm.view) (.string r0.frm.key) (.int .i64 r0.frm.start) (.int .i64 r0.too.view) (.string r0.too.key) (.int .i64 r0.too.start) (.int .i64 r0.limit)
    go_wp2
    rw [HW.out]
    have hc7 := HS.out.1.cell
    exact bodyPost_ret (v := .tuple #[.agg (rqC (.slice As r0.cs.length cz) r0), .int .i64 0, .int .i64 0]) (by simp [results, Tryz.results61, go_sem, hc7]) rfl
     ⟨HB9.out.trans (HS.out.2.below HB9.out.size (fun k e => by omega)), by rw [HD.out]; exact ⟨_, rfl, own_low (show CellsOwn w9 W0.heap.size (.slice As r0.cs.length cz) r0.cs from HX9.out.own) HS.out.2 (fun k e => by subst e; have := HX9.out.jl; omega) (by have := HX9.out.jl; omega)⟩⟩
   ·have HD := Lh (show decRq xs = (rq0, some (checkRq r0, 0)) by
     rw [HDEC.out]
     unfold checkD
     rw [hfl]
     simp [RS.fail, hfl, hck])
    have hz : (checkRq r0 != 0) = true := by simpa using hck
    obtain ⟨wC, HW, HS⟩ := set11e HR9.out (.int .i64 0) (.int .i64 0) (.int .i64 0) (.slice none 0 0) (.int .i64 0) (.string ⟨#[]⟩) (.int .i64 0) (.int .i64 0) (.string ⟨#[]⟩) (.int .i64 0) (.int .i64 0)
    go_wp2
    rw [HW.out]
    have hc7 := HS.out.1.cell
    exact bodyPost_ret (v := .tuple #[.agg (rqC nilS rq0), .int .i64 (checkRq r0), .int .i64 0]) (by simp [results, Tryz.results61, go_sem, hc7, rq0, cell0]) rfl
     ⟨HB9.out.trans (HS.out.2.below HB9.out.size (fun k e => by omega)), by rw [HD.out]⟩
  ·have HD := Lh (show decRq xs = (rq0, some (code, pl)) by rw [HDEC.out]; unfold checkD; simp [hfl])
   have hne := HX8.out.rd.ok code pl hfl
   have hcode : (endP xs s7).err = code := by unfold RS.err; rw [hfl]
   have hpl : (endP xs s7).on = pl := by unfold RS.on; rw [hfl]
   rw [hcode] at p2
   have HQB := Lh (show Blk w8 q 192 (DcC (.slice A n c) ((endP xs s7).pos : Int) code pl) by have h := HX8.out.rd.blk; rw [hcode, hpl] at h; exact h)
   have HLB := Lh HX8.out.lx
   have HR8 := Lh (HR2.out.tur HX8.out.tur (by omega))
   have HB8 := Lh (HB2.out.trans (HX8.out.tur.below HB2.out.size (fun k e => by omega)))
   have hz : (code != 0) = true := by unfold bne; rw [hne]; rfl
   clear hcode hpl hne hfl HX8 HDEC HRE
   go_wp2_with fail
   clear l0 p2
   (refine wp_region_held_drew (S := fun w9 => LxB w9 j q ∧ Blk w9 q 192 (DcC (.slice A n c) ((endP xs s7).pos : Int) code pl)) (by kernel_rfl) ⟨HLB.out.drew, HQB.out.drew⟩ (fun hHeld => ?_))
   have HLd := Lh HLB.out.drew
   have HQd := Lh HQB.out.drew
   have HRd := Lh HR8.out.drew
   have HBd := Lh (HB8.out.trans (Below.refl _ _).drew)
   have hsz := HB8.out.size
   clear HLB HQB HR8 HB8
   generalize w8.drew = wd at *
   (refine tq 0 76 ?_)
   (try simp only [Act.put, z1, z2, z3])
   (refine tq 1 77 ?_)
   (try simp only [Act.put, z1, z2, z3])
   (refine tq 2 78 ?_)
   (try simp only [Act.put, z1, z2, z3])
   (refine tq 3 79 ?_)
   (try simp only [Act.put, z1, z2, z3])
   (refine tr (v := ?v156) 4 80 ?h156 ?_)
   case h156 => (intro w9 hSw; have hc9 := Blk.cell hSw.1; clear hSw; first | (go_simp; done) | (go_simp; with_reducible rfl))
   (try simp only [Act.put, z1, z2, z3])
   (refine tq 5 81 ?_)
   (try simp only [Act.put, z1, z2, z3])
   (refine tq 6 82 ?_)
   (try simp only [Act.put, z1, z2, z3])
   (refine tr (v := ?v159) 7 83 ?h159 ?_)
   case h159 => (intro w9 hSw; have hc9 := Blk.cell hSw.2; clear hSw; first | (go_simp; done) | (go_simp; with_reducible rfl))
   (try simp only [Act.put, z1, z2, z3])
   (refine tq 8 84 ?_)
   (try simp only [Act.put, z1, z2, z3])
   (refine tq 9 85 ?_)
   (try simp only [Act.put, z1, z2, z3])
   (refine tq 10 86 ?_)
   (try simp only [Act.put, z1, z2, z3])
   (refine tr (v := ?v163) 11 87 ?h163 ?_)
   case h163 => (intro w9 hSw; have hc9 := Blk.cell hSw.1; clear hSw; first | (go_simp; done) | (go_simp; with_reducible rfl))
   (try simp only [Act.put, z1, z2, z3])
   (refine tq 12 88 ?_)
   (try simp only [Act.put, z1, z2, z3])
   (refine tq 13 89 ?_)
   (try simp only [Act.put, z1, z2, z3])
   (refine tr (v := ?v166) 14 90 ?h166 ?_)
   case h166 => (intro w9 hSw; have hc9 := Blk.cell hSw.2; clear hSw; first | (go_simp; done) | (go_simp; with_reducible rfl))
   (try simp only [Act.put, z1, z2, z3])
   have hfR := HRd.out.frozen
   have hcR := HRd.out.cell
   obtain ⟨wC, HW, HS⟩ := set11e HRd.out (.int .i64 0) (.int .i64 0) (.int .i64 0) (.slice none 0 0) (.int .i64 0) (.string ⟨#[]⟩) (.int .i64 0) (.int .i64 0) (.string ⟨#[]⟩) (.int .i64 0) (.int .i64 0)
   (refine wpAnyH_ready (rs := [15]) (by kernel_rfl) (by simp) ?_)
   (refine AllReadyH.cons (o := _) rfl (fun K hK => ?_) AllReadyH.nil)
   go_simp
   rw [HW.out]
   (refine hK.out _ _ ⟨HLd.out.tur HS.out.2 (by omega), HQd.out.tur HS.out.2 (by omega)⟩ (fun hHeld => ?_))
   clear hK K
   (refine tq 16 3 ?_)
   (try simp only [Act.put, z1, z2, z3])
   (refine tq 17 4 ?_)
   (try simp only [Act.put, z1, z2, z3])
   (refine wpAnyH_done (by kernel_rfl) ?_ _)
   have hc7 := HS.out.1.cell
   go_wp2
   exact bodyPost_ret (v := .tuple #[.agg (rqC nilS rq0), .int .i64 code, .int .i64 pl]) (by simp [results, Tryz.results61, go_sem, hc7, rq0, cell0]) rfl
    ⟨HBd.out.trans (HS.out.2.below HBd.out.size (fun k e => by omega)), by rw [HD.out]⟩
theorem doc_rq_scan (A : Option Addr) (n c : Nat) (xs : List Int) (hk : (kindD xs).1 = 3) (W : World) (hl : xs.length = n) (h : CellsAt W A (bvs xs)) (hw : ∀ x ∈ xs, (Lit.int .u8 x).wf = true) (hn : n ≤ 140737488355328) (hc : n ≤ c) :
  Calls Tryz.prog 61 #[.slice A n c] W (DocQ W (decRq xs)) := by
 have HR0 := Lh (Blk.new W 43 #[.int .i64 0, .int .i64 0, .int .i64 0, .slice none 0 0, .int .i64 0, .string ⟨#[]⟩, .int .i64 0, .int .i64 0, .string ⟨#[]⟩, .int .i64 0, .int .i64 0])
 have bl0 := (Below.refl W.heap.size W).alloc (Nat.le_refl _) (.cells #[.int .i64 0, .int .i64 0, .int .i64 0, .slice none 0 0, .int .i64 0, .string ⟨#[]⟩, .int .i64 0, .int .i64 0, .string ⟨#[]⟩, .int .i64 0, .int .i64 0] 43)
 have hs1 : (W.alloc (.cells #[.int .i64 0, .int .i64 0, .int .i64 0, .slice none 0 0, .int .i64 0, .string ⟨#[]⟩, .int .i64 0, .int .i64 0, .string ⟨#[]⟩, .int .i64 0, .int .i64 0] 43)).heap.size = W.heap.size + 1 := by simp
 have CR := Lh (dc_read A n c xs (W.alloc (.cells #[.int .i64 0, .int .i64 0, .int .i64 0, .slice none 0 0, .int .i64 0, .string ⟨#[]⟩, .int .i64 0, .int .i64 0, .string ⟨#[]⟩, .int .i64 0, .int .i64 0] 43)) hl (h.below bl0) hw hn hc)
 have HKN := Lh hk
 have HAl := Lh (show xs ≠ [] → ∀ ad, A = some ad → ad.block < W.heap.size from fun h0 ad e => by
  subst e
  obtain ⟨ad', e, h1, _⟩ := h 0 (by rw [bvs_len]; exact List.length_pos_iff.2 h0)
  cases e
  exact h1)
 have HBl := Lh bl0
 clear h hw hn hk hc bl0
 go_enter Tryz.func61, Tryz.ntmps61
 go_wp2_with fail
 go_at_call 90; (with_reducible refine CR.out.mono ?_); rintro e w1 ⟨rfl, hr, hb⟩
 have HR1 := Lh (HR0.out.kept hb)
 have HB1 := Lh (HBl.out.trans (hb.mono (by simp)))
 have hw1 : W.heap.size + 1 ≤ w1.heap.size := hs1 ▸ hb.size
 rw [hs1] at hr ⊢
 have HX := Lh (DxIs.start hr 43 #[.int .i64 0, .int .i64 0, .int .i64 0, .slice none 0 0, .int .i64 0, .string ⟨#[]⟩, .int .i64 0, .int .i64 0, .string ⟨#[]⟩, .int .i64 0, .int .i64 0] 41 3 (fun h0 ad e => by have := HAl.out h0 ad e; omega))
 have HR2 := Lh ((HR1.out.alloc (.cells #[.pointer (some ⟨W.heap.size + 1, 0, none⟩)] 187)).alloc (.cells #[.int .i64 0, .int .i64 0, .int .i64 0, .slice none 0 0, .int .i64 0, .string ⟨#[]⟩, .int .i64 0, .int .i64 0, .string ⟨#[]⟩, .int .i64 0, .int .i64 0] 43))
 have HB2 := Lh ((HB1.out.alloc (by omega) (.cells #[.pointer (some ⟨W.heap.size + 1, 0, none⟩)] 187)).alloc (by simp; omega) (.cells #[.int .i64 0, .int .i64 0, .int .i64 0, .slice none 0 0, .int .i64 0, .string ⟨#[]⟩, .int .i64 0, .int .i64 0, .string ⟨#[]⟩, .int .i64 0, .int .i64 0] 43))
 have hs2 : (w1.alloc (.cells #[.pointer (some ⟨W.heap.size + 1, 0, none⟩)] 187)).heap.size = w1.heap.size + 1 := by simp
 clear hr hb HR0 CR HAl HBl HB1 HR1 hs1
 go_wp2_with fail
 generalize hW0 : (w1.alloc (.cells #[.pointer (some ⟨W.heap.size + 1, 0, none⟩)] 187)).alloc (.cells #[.int .i64 0, .int .i64 0, .int .i64 0, .slice none 0 0, .int .i64 0, .string ⟨#[]⟩, .int .i64 0, .int .i64 0, .string ⟨#[]⟩, .int .i64 0, .int .i64 0] 43) = W0 at *
 have hRW : W.heap.size < w1.heap.size := by omega
 have hqW : W.heap.size < W.heap.size + 1 := by omega
 clear hW0 hs2
 generalize hq : W.heap.size + 1 = q at *
 generalize hj : w1.heap.size = j at *
 clear hj hq
 go_at_call 91; (with_reducible refine (show Calls Tryz.prog 91 #[.pointer (some ⟨j, 0, none⟩), .int .i64 7] W0 _ from lx_head HX.out.rd HX.out.lx HX.out.jq 7).mono ?_); rintro e w3 ⟨rfl, hr, hf⟩
 have HX3 := Lh (HX.out.read hr hf)
 have HKD := Lh (show kindD xs = numP xs M40 ⟨0, none⟩ from rfl)
 clear hr hf HX
 have HHD := Lh (show headP xs (7 : Int) ⟨0, none⟩ = (numP xs M40 ⟨0, none⟩).2 by
  unfold headP
  rw [if_neg]
  rintro ⟨_, h⟩
  have hk := HKN.out
  rw [HKD.out] at hk
  omega)
 rw [show ((7 : Nat) : Int) = (7 : Int) from rfl] at HX3
 rw [HHD.out] at HX3
 simp only [show ((7 : Nat) : Int) = (7 : Int) from rfl, HHD.out]
 rw [HKD.out] at HKN
 clear HHD
 generalize hyd : numP xs M40 ⟨0, none⟩ = y at *
 clear hyd
 obtain ⟨k0, s1⟩ := y
 dsimp only at HX3 HKN HKD ⊢
 generalize hid : numP xs M40 s1 = y at *
 have HID := Lh hid
 clear hid
 obtain ⟨id0, s2⟩ := y
 dsimp only at HX3 HID ⊢
 have hk1 : k0 = 3 := HKN.out
 subst hk1
 simp only [show ((3 : Nat) : Int) = (3 : Int) from rfl]
 have hcb := HX3.out.blk.cell
 have hfb := HX3.out.blk.frozen
 have HX4 := Lh (show DxIs W0 q j (j + 1) 43 A n c xs (rqC (.slice none 0 0) ⟨3, (id0 : Int), 0, [], cell0, cell0, 0⟩) s2 41 3 (.slice none 0 0) 0 [] ((w3.setCell ⟨j + 1, 0, none⟩ (.int .i64 3)).setCell ⟨j + 1, 1, none⟩ (.int .i64 (id0 : Int))) from (HX3.out.put (cs1 := rqC (.slice none 0 0) ⟨3, 0, 0, [], cell0, cell0, 0⟩) 0 (.int .i64 3) rfl).put 1 (.int .i64 (id0 : Int)) rfl)
 clear HX3
 go_wp2_with fail
 generalize ((w3.setCell ⟨j + 1, 0, none⟩ (.int .i64 3)).setCell ⟨j + 1, 1, none⟩ (.int .i64 (id0 : Int))) = wg5 at *
 go_at_call 92; (with_reducible refine (lx_num HX4.out.rd HX4.out.lx).mono ?_); rintro e wh5 ⟨rfl, hr, hf⟩
 have HN5 := Lh (HX4.out.read hr hf)
 clear hr hf hcb hfb HX4
 generalize hnn : numP xs M40 s2 = y at *
 have HE5 := Lh hnn
 clear hnn
 obtain ⟨ep0, s3⟩ := y
 dsimp only at HN5 HE5 ⊢
 have hcb := HN5.out.blk.cell
 have hfb := HN5.out.blk.frozen
 have HX5 := Lh (HN5.out.put (cs1 := rqC (.slice none 0 0) ⟨3, (id0 : Int), (ep0 : Int), [], cell0, cell0, 0⟩) 2 (.int .i64 (ep0 : Int)) rfl)
 go_wp2_with fail
 generalize (wh5.setCell ⟨j + 1, 2, none⟩ (.int .i64 (ep0 : Int))) = wg6 at *
 go_at_call 94; (with_reducible refine (lx_cell HX5.out.rd HX5.out.lx HX5.out.jq).mono ?_); rintro e wh6 ⟨rfl, hr, hf⟩
 have HN6 := Lh (HX5.out.read hr hf)
 clear hr hf hcb hfb HX5
 generalize hnn : cellP xs s3 = y at *
 have HE6 := Lh hnn
 clear hnn
 obtain ⟨x1, s4⟩ := y
 dsimp only at HN6 HE6 ⊢
 have hcb := HN6.out.blk.cell
 have hfb := HN6.out.blk.frozen
 have HX6 := Lh (((HN6.out.put (cs1 := rqC (.slice none 0 0) ⟨3, (id0 : Int), (ep0 : Int), [], ⟨x1.view, cell0.key, cell0.start⟩, cell0, 0⟩) 4 (.int .i64 x1.view) rfl).put (cs1 := rqC (.slice none 0 0) ⟨3, (id0 : Int), (ep0 : Int), [], ⟨x1.view, x1.key, cell0.start⟩, cell0, 0⟩) 5 (.string x1.key) rfl).put (cs1 := rqC (.slice none 0 0) ⟨3, (id0 : Int), (ep0 : Int), [], x1, cell0, 0⟩) 6 (.int .i64 x1.start) rfl)
 go_wp2_with fail
 generalize (World.setCell (World.setCell (World.setCell wh6 ⟨j + 1, 4, none⟩ (.int .i64 x1.view)) ⟨j + 1, 5, none⟩ (.string x1.key)) ⟨j + 1, 6, none⟩ (.int .i64 x1.start)) = wg7 at *
 go_at_call 94; (with_reducible refine (lx_cell HX6.out.rd HX6.out.lx HX6.out.jq).mono ?_); rintro e wh7 ⟨rfl, hr, hf⟩
 have HN7 := Lh (HX6.out.read hr hf)
 clear hr hf hcb hfb HX6
 generalize hnn : cellP xs s4 = y at *
 have HE7 := Lh hnn
 clear hnn
 obtain ⟨x2, s5⟩ := y
 dsimp only at HN7 HE7 ⊢
 have hcb := HN7.out.blk.cell
 have hfb := HN7.out.blk.frozen
 have HX7 := Lh (((HN7.out.put (cs1 := rqC (.slice none 0 0) ⟨3, (id0 : Int), (ep0 : Int), [], x1, ⟨x2.view, cell0.key, cell0.start⟩, 0⟩) 7 (.int .i64 x2.view) rfl).put (cs1 := rqC (.slice none 0 0) ⟨3, (id0 : Int), (ep0 : Int), [], x1, ⟨x2.view, x2.key, cell0.start⟩, 0⟩) 8 (.string x2.key) rfl).put (cs1 := rqC (.slice none 0 0) ⟨3, (id0 : Int), (ep0 : Int), [], x1, x2, 0⟩) 9 (.int .i64 x2.start) rfl)
 go_wp2_with fail
 generalize (World.setCell (World.setCell (World.setCell wh7 ⟨j + 1, 7, none⟩ (.int .i64 x2.view)) ⟨j + 1, 8, none⟩ (.string x2.key)) ⟨j + 1, 9, none⟩ (.int .i64 x2.start)) = wg8 at *
 go_at_call 92; (with_reducible refine (lx_num HX7.out.rd HX7.out.lx).mono ?_); rintro e wh8 ⟨rfl, hr, hf⟩
 have HN8 := Lh (HX7.out.read hr hf)
 clear hr hf hcb hfb HX7
 generalize hnn : numP xs M40 s5 = y at *
 have HE8 := Lh hnn
 clear hnn
 obtain ⟨lim, s6⟩ := y
 dsimp only at HN8 HE8 ⊢
 have hcb := HN8.out.blk.cell
 have hfb := HN8.out.blk.frozen
 have HX8 := Lh (HN8.out.put (cs1 := rqC (.slice none 0 0) ⟨3, (id0 : Int), (ep0 : Int), [], x1, x2, (lim : Int)⟩) 10 (.int .i64 (lim : Int)) rfl)
 have HRD := Lh (show readD xs = ((⟨3, (id0 : Int), (ep0 : Int), [], x1, x2, (lim : Int)⟩ : Rq), s6) by
  unfold readD bodyD
  rw [HKD.out]
  simp [HID.out, HE5.out, HE6.out, HE7.out, HE8.out])
 go_wp2_with fail
 generalize (wh8.setCell ⟨j + 1, 10, none⟩ (.int .i64 (lim : Int))) = wl at *
 go_loopw [8] (fun t8 wz => t8 = .int .i64 0 ∧ Hid (DxIs W0 q j (j + 1) 43 A n c xs (rqC (.slice none 0 0) ⟨3, (id0 : Int), (ep0 : Int), [], x1, x2, (lim : Int)⟩) s6 41 3 (.slice none 0 0) 0 [] wz)) (fun _ _ => 0)
 case atStart => exact ⟨rfl, HX8⟩
 case round =>
  obtain ⟨rfl, HP⟩ := hrel
  rename World => wz
  clear hcb hfb
  obtain ⟨r0, hr0⟩ : ∃ r0 : Rq, r0 = ⟨3, (id0 : Int), (ep0 : Int), [], x1, x2, (lim : Int)⟩ := ⟨_, rfl⟩
  obtain ⟨vz, hv0⟩ : ∃ vz : Value, vz = .slice none 0 0 := ⟨_, rfl⟩
  have HX7 := Lh (show DxIs W0 q j (j + 1) 43 A n c xs (rqC vz r0) (readD xs).2 41 3 vz r0.cs.length (cellCs r0.cs) wz by
   rw [hv0, hr0, HRD.out]
   exact HP.out)
  have HRE := Lh (show (readD xs).2.fault = none → r0 = (readD xs).1 from fun _ => by rw [hr0, HRD.out])
  clear hr0 HP hv0
  have HDEC := Lh (show decRq xs = if (checkD (checkRq (readD xs).1) (endP xs (readD xs).2)).fault.isSome then (rq0, (checkD (checkRq (readD xs).1) (endP xs (readD xs).2)).fault) else ((readD xs).1, none) by
   unfold decRq
   rw [if_neg (by rw [HKD.out]; dsimp only; omega)])
  have HOK := Lh (readD_ok xs)
  generalize readD xs = y at *
  obtain ⟨r', s7⟩ := y
  dsimp only at HX7 HRE HDEC HOK
  have l0 : wz.cell? ⟨j, 0, none⟩ = some (.pointer (some ⟨q, 0, none⟩)) := HX7.out.lx.cell 0
  go_wp2_with fail
  go_at_call 95; (with_reducible refine (dc_end HX7.out.rd).mono ?_); rintro e w8 ⟨rfl, hr, hf⟩
  have HX8 := Lh (HX7.out.read hr hf)
  clear hr hf l0 HX7
  have l0 : w8.cell? ⟨j, 0, none⟩ = some (.pointer (some ⟨q, 0, none⟩)) := HX8.out.lx.cell 0
  have p2 : w8.cell? ⟨q, 2, none⟩ = some (.int .i64 (endP xs s7).err) := HX8.out.rd.blk.cell 2
  rcases hfl : (endP xs s7).fault with _ | ⟨code, pl⟩
  ·have hre := HRE.out (endP_none2 hfl)
   subst hre
   rw [(DocIs.err_no hfl).1] at p2
   obtain ⟨As, cz, hvz⟩ := own_form3 HX8.out.own
   subst hvz
   have HCR := Lh (CellsOwn.rd_ (show CellsOwn w8 W0.heap.size (.slice As r0.cs.length cz) r0.cs from HX8.out.own))
   have hcb := HX8.out.blk.cell
   go_wp2_with fail
   go_at_call 79; (with_reducible refine (rcheck_rq As _ cz r0 w8 rfl HCR.out.1 HCR.out.2 HOK.out).mono ?_); rintro e w9 ⟨rfl, hb9⟩
   have HX9 := Lh (HX8.out.kept hb9)
   have HR9 := Lh (HR2.out.tur HX9.out.tur (by omega))
   have HB9 := Lh (HB2.out.trans (HX9.out.tur.below HB2.out.size (fun k e => by omega)))
   clear hb9 hcb l0 p2 HX8
   have hfR := HR9.out.frozen
   have hcR := HR9.out.cell
   by_cases hck : checkRq r0 = 0
   ·have HD := Lh (show decRq xs = (r0, none) by
     rw [HDEC.out]
     unfold checkD
     rw [hfl, hck]
     simp [RS.fail, hfl])
    rw [hck]
    have hcb := HX9.out.blk.cell
    obtain ⟨wC, HW, HS⟩ := set11e HR9.out (.int .i64 r0.kind) (.int .i64 r0.id) (.int .i64 r0.epoch) (.slice As r0.cs.length cz) (.int .i64 r0.frm.view) (.string r0.frm.key) (.int .i64 r0.frm.start) (.int .i64 r0.too.view) (.string r0.too.key) (.int .i64 r0.too.start) (.int .i64 r0.limit)
    go_wp2
    rw [HW.out]
    have hc7 := HS.out.1.cell
    exact bodyPost_ret (v := .tuple #[.agg (rqC (.slice As r0.cs.length cz) r0), .int .i64 0, .int .i64 0]) (by simp [results, Tryz.results61, go_sem, hc7]) rfl
     ⟨HB9.out.trans (HS.out.2.below HB9.out.size (fun k e => by omega)), by rw [HD.out]; exact ⟨_, rfl, own_low (show CellsOwn w9 W0.heap.size (.slice As r0.cs.length cz) r0.cs from HX9.out.own) HS.out.2 (fun k e => by subst e; have := HX9.out.jl; omega) (by have := HX9.out.jl; omega)⟩⟩
   ·have HD := Lh (show decRq xs = (rq0, some (checkRq r0, 0)) by
     rw [HDEC.out]
     unfold checkD
     rw [hfl]
     simp [RS.fail, hfl, hck])
    have hz : (checkRq r0 != 0) = true := by simpa using hck
    obtain ⟨wC, HW, HS⟩ := set11e HR9.out (.int .i64 0) (.int .i64 0) (.int .i64 0) (.slice none 0 0) (.int .i64 0) (.string ⟨#[]⟩) (.int .i64 0) (.int .i64 0) (.string ⟨#[]⟩) (.int .i64 0) (.int .i64 0)
    go_wp2
    rw [HW.out]
    have hc7 := HS.out.1.cell
    exact bodyPost_ret (v := .tuple #[.agg (rqC nilS rq0), .int .i64 (checkRq r0), .int .i64 0]) (by simp [results, Tryz.results61, go_sem, hc7, rq0, cell0]) rfl
     ⟨HB9.out.trans (HS.out.2.below HB9.out.size (fun k e => by omega)), by rw [HD.out]⟩
  ·have HD := Lh (show decRq xs = (rq0, some (code, pl)) by rw [HDEC.out]; unfold checkD; simp [hfl])
   have hne := HX8.out.rd.ok code pl hfl
   have hcode : (endP xs s7).err = code := by unfold RS.err; rw [hfl]
   have hpl : (endP xs s7).on = pl := by unfold RS.on; rw [hfl]
   rw [hcode] at p2
   have HQB := Lh (show Blk w8 q 192 (DcC (.slice A n c) ((endP xs s7).pos : Int) code pl) by have h := HX8.out.rd.blk; rw [hcode, hpl] at h; exact h)
   have HLB := Lh HX8.out.lx
   have HR8 := Lh (HR2.out.tur HX8.out.tur (by omega))
   have HB8 := Lh (HB2.out.trans (HX8.out.tur.below HB2.out.size (fun k e => by omega)))
   have hz : (code != 0) = true := by unfold bne; rw [hne]; rfl
   clear hcode hpl hne hfl HX8 HDEC HRE
   go_wp2_with fail
   clear l0 p2
   (refine wp_region_held_drew (S := fun w9 => LxB w9 j q ∧ Blk w9 q 192 (DcC (.slice A n c) ((endP xs s7).pos : Int) code pl)) (by kernel_rfl) ⟨HLB.out.drew, HQB.out.drew⟩ (fun hHeld => ?_))
   have HLd := Lh HLB.out.drew
   have HQd := Lh HQB.out.drew
   have HRd := Lh HR8.out.drew
   have HBd := Lh (HB8.out.trans (Below.refl _ _).drew)
   have hsz := HB8.out.size
   clear HLB HQB HR8 HB8
   generalize w8.drew = wd at *
   (refine tq 0 76 ?_)
   (try simp only [Act.put, z1, z2, z3])
   (refine tq 1 77 ?_)
   (try simp only [Act.put, z1, z2, z3])
   (refine tq 2 78 ?_)
   (try simp only [Act.put, z1, z2, z3])
   (refine tq 3 79 ?_)
   (try simp only [Act.put, z1, z2, z3])
   (refine tr (v := ?v173) 4 80 ?h173 ?_)
   case h173 => (intro w9 hSw; have hc9 := Blk.cell hSw.1; clear hSw; first | (go_simp; done) | (go_simp; with_reducible rfl))
   (try simp only [Act.put, z1, z2, z3])
   (refine tq 5 81 ?_)
   (try simp only [Act.put, z1, z2, z3])
   (refine tq 6 82 ?_)
   (try simp only [Act.put, z1, z2, z3])
   (refine tr (v := ?v176) 7 83 ?h176 ?_)
   case h176 => (intro w9 hSw; have hc9 := Blk.cell hSw.2; clear hSw; first | (go_simp; done) | (go_simp; with_reducible rfl))
   (try simp only [Act.put, z1, z2, z3])
   (refine tq 8 84 ?_)
   (try simp only [Act.put, z1, z2, z3])
   (refine tq 9 85 ?_)
   (try simp only [Act.put, z1, z2, z3])
   (refine tq 10 86 ?_)
   (try simp only [Act.put, z1, z2, z3])
   (refine tr (v := ?v180) 11 87 ?h180 ?_)
   case h180 => (intro w9 hSw; have hc9 := Blk.cell hSw.1; clear hSw; first | (go_simp; done) | (go_simp; with_reducible rfl))
   (try simp only [Act.put, z1, z2, z3])
   (refine tq 12 88 ?_)
   (try simp only [Act.put, z1, z2, z3])
   (refine tq 13 89 ?_)
   (try simp only [Act.put, z1, z2, z3])
   (refine tr (v := ?v183) 14 90 ?h183 ?_)
   case h183 => (intro w9 hSw; have hc9 := Blk.cell hSw.2; clear hSw; first | (go_simp; done) | (go_simp; with_reducible rfl))
   (try simp only [Act.put, z1, z2, z3])
   have hfR := HRd.out.frozen
   have hcR := HRd.out.cell
   obtain ⟨wC, HW, HS⟩ := set11e HRd.out (.int .i64 0) (.int .i64 0) (.int .i64 0) (.slice none 0 0) (.int .i64 0) (.string ⟨#[]⟩) (.int .i64 0) (.int .i64 0) (.string ⟨#[]⟩) (.int .i64 0) (.int .i64 0)
   (refine wpAnyH_ready (rs := [15]) (by kernel_rfl) (by simp) ?_)
   (refine AllReadyH.cons (o := _) rfl (fun K hK => ?_) AllReadyH.nil)
   go_simp
   rw [HW.out]
   (refine hK.out _ _ ⟨HLd.out.tur HS.out.2 (by omega), HQd.out.tur HS.out.2 (by omega)⟩ (fun hHeld => ?_))
   clear hK K
   (refine tq 16 3 ?_)
   (try simp only [Act.put, z1, z2, z3])
   (refine tq 17 4 ?_)
   (try simp only [Act.put, z1, z2, z3])
   (refine wpAnyH_done (by kernel_rfl) ?_ _)
   have hc7 := HS.out.1.cell
   go_wp2
   exact bodyPost_ret (v := .tuple #[.agg (rqC nilS rq0), .int .i64 code, .int .i64 pl]) (by simp [results, Tryz.results61, go_sem, hc7, rq0, cell0]) rfl
    ⟨HBd.out.trans (HS.out.2.below HBd.out.size (fun k e => by omega)), by rw [HD.out]⟩
end Go.Proofs.YtglbdbghcdoicaaGreatDoor
