/- The document's DecodeResponse: the walk. -/
import Derived.Test.YteffpfgdoganpaaGreatDoorZDocR
import Derived.Test.YteffpfgdoganpaaGreatDoorCRCheckRs
namespace Go.Proofs.YteffpfgdoganpaaGreatDoor
open Go.RowKit
set_option maxRecDepth 100000
set_option maxHeartbeats 32000000

section
variable {W0 W W1 : World} {q j b n c : Nat} {T : TypeId} {A : Option Addr} {xs : List Int} {cs : Array Value} {s : RS} {E : TypeId} {sz m : Nat} {v : Value} {ys : List Value}
theorem DxIs.side {x : Nat} (h : DxIs W0 q j b T A n c xs cs s E sz v m ys W) (ht : Tur (· = x) W W1) (hx : W0.heap.size ≤ x) (hv : ∀ k, v.ownBlock = some k → k ≠ x) : DxIs W0 q j b T A n c xs cs s E sz v m ys W1 :=
 ⟨h.blk.tur ht (fun e => by have := h.bl; omega), ownsRow_tur h.own ht (fun k e hs => hv k e hs), h.rd.tur ht (fun e => by have := h.ql; omega) (fun h0 ad e e2 => by have := (h.bA h0 ad e).2; omega),
  h.lx.tur ht (fun e => by have := h.jl; omega), h.tur.trans ht (fun k e => .inr (by omega)), h.bq, h.jq, h.jb, h.bl, h.ql, h.jl, h.bA⟩
end
theorem RowsOwn.rd_ {W : World} {B : Nat} {A : Option Addr} {n c : Nat} {cs : List RowV} (h : RowsOwn W B (.slice A n c) cs) : RowsRd W A cs ∧ n ≤ 9223372036854775807 := by
 obtain ⟨A', c', e, hr, _⟩ := RowsOwn.rd h
 injection e with e1 e2 e3
 subst e1
 refine ⟨hr, ?_⟩
 have := RowsOwn.le h
 omega
theorem doc_rs_done (A : Option Addr) (n c : Nat) (xs : List Int) (hk : (kindD xs).1 = 3) (W : World) (hl : xs.length = n) (h : CellsAt W A (bvs xs)) (hw : ∀ x ∈ xs, (Lit.int .u8 x).wf = true) (hn : n ≤ 140737488355328) (hc : n ≤ c) :
  Calls Tryz.prog 12 #[.slice A n c] W (DocS W (decRs xs)) := by
 have HR0 := Lh (Blk.new W 39 #[.int .i64 0, .int .i64 0, .int .i64 0, .int .i64 0, .slice none 0 0, .int .i64 0, .int .i64 0, .int .i64 0, .int .i64 0, .int .i64 0, .int .i64 0])
 have bl0 := (Below.refl W.heap.size W).alloc (Nat.le_refl _) (.cells #[.int .i64 0, .int .i64 0, .int .i64 0, .int .i64 0, .slice none 0 0, .int .i64 0, .int .i64 0, .int .i64 0, .int .i64 0, .int .i64 0, .int .i64 0] 39)
 have hs1 : (W.alloc (.cells #[.int .i64 0, .int .i64 0, .int .i64 0, .int .i64 0, .slice none 0 0, .int .i64 0, .int .i64 0, .int .i64 0, .int .i64 0, .int .i64 0, .int .i64 0] 39)).heap.size = W.heap.size + 1 := by simp
 have CR := Lh (dc_read A n c xs (W.alloc (.cells #[.int .i64 0, .int .i64 0, .int .i64 0, .int .i64 0, .slice none 0 0, .int .i64 0, .int .i64 0, .int .i64 0, .int .i64 0, .int .i64 0, .int .i64 0] 39)) hl (h.below bl0) hw hn hc)
 have HKN := Lh hk
 have HAl := Lh (show xs ≠ [] → ∀ ad, A = some ad → ad.block < W.heap.size from fun h0 ad e => by
  subst e
  obtain ⟨ad', e, h1, _⟩ := h 0 (by rw [bvs_len]; exact List.length_pos_iff.2 h0)
  cases e
  exact h1)
 have HBl := Lh bl0
 clear h hw hn hk hc bl0
 go_enter Tryz.func12, Tryz.ntmps12
 go_wp2_with fail
 go_at_call 34; (with_reducible refine CR.out.mono ?_); rintro e w1 ⟨rfl, hr, hb⟩
 have HR1 := Lh (HR0.out.kept hb)
 have HB1 := Lh (HBl.out.trans (hb.mono (by simp)))
 have hw1 : W.heap.size + 1 ≤ w1.heap.size := hs1 ▸ hb.size
 rw [hs1] at hr ⊢
 have HX := Lh (DxIs.start hr 39 #[.int .i64 0, .int .i64 0, .int .i64 0, .int .i64 0, .slice none 0 0, .int .i64 0, .int .i64 0, .int .i64 0, .int .i64 0, .int .i64 0, .int .i64 0] 84 7 (fun h0 ad e => by have := HAl.out h0 ad e; omega))
 have HR2 := Lh ((HR1.out.alloc (.cells #[.pointer (some ⟨W.heap.size + 1, 0, none⟩)] 98)).alloc (.cells #[.int .i64 0, .int .i64 0, .int .i64 0, .int .i64 0, .slice none 0 0, .int .i64 0, .int .i64 0, .int .i64 0, .int .i64 0, .int .i64 0, .int .i64 0] 39))
 have HB2 := Lh ((HB1.out.alloc (by omega) (.cells #[.pointer (some ⟨W.heap.size + 1, 0, none⟩)] 98)).alloc (by simp; omega) (.cells #[.int .i64 0, .int .i64 0, .int .i64 0, .int .i64 0, .slice none 0 0, .int .i64 0, .int .i64 0, .int .i64 0, .int .i64 0, .int .i64 0, .int .i64 0] 39))
 have hs2 : (w1.alloc (.cells #[.pointer (some ⟨W.heap.size + 1, 0, none⟩)] 98)).heap.size = w1.heap.size + 1 := by simp
 clear hr hb HR0 CR HAl HBl HB1 HR1 hs1
 go_wp2_with fail
 generalize hW0 : (w1.alloc (.cells #[.pointer (some ⟨W.heap.size + 1, 0, none⟩)] 98)).alloc (.cells #[.int .i64 0, .int .i64 0, .int .i64 0, .int .i64 0, .slice none 0 0, .int .i64 0, .int .i64 0, .int .i64 0, .int .i64 0, .int .i64 0, .int .i64 0] 39) = W0 at *
 have hRW : W.heap.size < w1.heap.size := by omega
 have hqW : W.heap.size < W.heap.size + 1 := by omega
 clear hW0 hs2
 generalize hq : W.heap.size + 1 = q at *
 generalize hj : w1.heap.size = j at *
 clear hj hq
 go_at_call 35; (with_reducible refine (show Calls Tryz.prog 35 #[.pointer (some ⟨j, 0, none⟩), .int .i64 5] W0 _ from lx_head HX.out.rd HX.out.lx HX.out.jq 5).mono ?_); rintro e w3 ⟨rfl, hr, hf⟩
 have HX3 := Lh (HX.out.read hr hf)
 have HKD := Lh (show kindD xs = numP xs M40 ⟨0, none⟩ from rfl)
 clear hr hf HX
 have HHD := Lh (show headP xs (5 : Int) ⟨0, none⟩ = (numP xs M40 ⟨0, none⟩).2 by
  unfold headP
  rw [if_neg]
  rintro ⟨_, h⟩
  have hk := HKN.out
  rw [HKD.out] at hk
  omega)
 rw [show ((5 : Nat) : Int) = (5 : Int) from rfl] at HX3
 rw [HHD.out] at HX3
 simp only [show ((5 : Nat) : Int) = (5 : Int) from rfl, HHD.out]
 rw [HKD.out] at HKN
 clear HHD
 generalize hyd : numP xs M40 ⟨0, none⟩ = y at *
 clear hyd
 obtain ⟨k0, s1⟩ := y
 dsimp only at HX3 HKN HKD ⊢
 generalize hid : numP xs M40 s1 = y at *
 have HID := Lh hid
 clear hid
 obtain ⟨id0, s2⟩ := y
 dsimp only at HX3 HID ⊢
 have hk1 : k0 = 3 := HKN.out
 subst hk1
 simp only [show ((3 : Nat) : Int) = (3 : Int) from rfl]
 have hcb := HX3.out.blk.cell
 have hfb := HX3.out.blk.frozen
 have HX4 := Lh (show DxIs W0 q j (j + 1) 39 A n c xs (rsC (.slice none 0 0) ⟨3, (id0 : Int), 0, 0, [], st0⟩) s2 84 7 (.slice none 0 0) 0 [] ((w3.setCell ⟨j + 1, 0, none⟩ (.int .i64 3)).setCell ⟨j + 1, 1, none⟩ (.int .i64 (id0 : Int))) from (HX3.out.put (cs1 := rsC (.slice none 0 0) ⟨3, 0, 0, 0, [], st0⟩) 0 (.int .i64 3) rfl).put 1 (.int .i64 (id0 : Int)) rfl)
 have l00 : w3.cell? ⟨j, 0, none⟩ = some (.pointer (some ⟨q, 0, none⟩)) := HX3.out.lx.cell 0
 clear HX3
 have HRD := Lh (show readS xs = ((⟨3, (id0 : Int), 0, 0, [], st0⟩ : Rs), s2) by
  unfold readS bodyS
  rw [HKD.out]
  simp [HID.out])
 go_wp2_with fail
 generalize ((w3.setCell ⟨j + 1, 0, none⟩ (.int .i64 3)).setCell ⟨j + 1, 1, none⟩ (.int .i64 (id0 : Int))) = wz at *
 clear hcb hfb l00
 obtain ⟨r0, hr0⟩ : ∃ r0 : Rs, r0 = ⟨3, (id0 : Int), 0, 0, [], st0⟩ := ⟨_, rfl⟩
 obtain ⟨vz, hv0⟩ : ∃ vz : Value, vz = .slice none 0 0 := ⟨_, rfl⟩
 have HX7 := Lh (show DxIs W0 q j (j + 1) 39 A n c xs (rsC vz r0) (readS xs).2 84 7 vz r0.rows.length (rowCs r0.rows) wz by
  rw [hv0, hr0, HRD.out]
  exact HX4.out)
 have HRE := Lh (show (readS xs).2.fault = none → r0 = (readS xs).1 from fun _ => by rw [hr0, HRD.out])
 clear hr0 hv0 HX4 HRD
 have HDEC := Lh (show decRs xs = if (checkD (checkRs (readS xs).1) (endP xs (readS xs).2)).fault.isSome then (rs0, (checkD (checkRs (readS xs).1) (endP xs (readS xs).2)).fault) else ((readS xs).1, none) by
  unfold decRs
  rw [if_neg (by rw [HKD.out]; dsimp only; omega)])
 have HOK := Lh (readS_ok xs)
 generalize readS xs = y at *
 obtain ⟨r', s7⟩ := y
 dsimp only at HX7 HRE HDEC HOK
 go_at_call 39; (with_reducible refine (dc_end HX7.out.rd).mono ?_); rintro e w8 ⟨rfl, hr, hf⟩
 have HX8 := Lh (HX7.out.read hr hf)
 clear hr hf HX7
 have l0 : w8.cell? ⟨j, 0, none⟩ = some (.pointer (some ⟨q, 0, none⟩)) := HX8.out.lx.cell 0
 have p2 : w8.cell? ⟨q, 2, none⟩ = some (.int .i64 (endP xs s7).err) := HX8.out.rd.blk.cell 2
 rcases hfl : (endP xs s7).fault with _ | ⟨code, pl⟩
 ·have hre := HRE.out (endP_none2 hfl)
  subst hre
  rw [(DocIs.err_no hfl).1] at p2
  obtain ⟨As, cz, hvz⟩ := own_form3 HX8.out.own
  subst hvz
  have HCR := Lh (RowsOwn.rd_ (show RowsOwn w8 W0.heap.size (.slice As r0.rows.length cz) r0.rows from HX8.out.own))
  have hcb := HX8.out.blk.cell
  go_wp2_with fail
  go_at_call 42; (with_reducible refine (rcheck_rs As _ cz r0 w8 rfl HCR.out.1 HCR.out.2 HOK.out).mono ?_); rintro e w9 ⟨rfl, hb9⟩
  have HX9 := Lh (HX8.out.kept hb9)
  have HR9 := Lh (HR2.out.tur HX9.out.tur (by omega))
  have HB9 := Lh (HB2.out.trans (HX9.out.tur.below HB2.out.size (fun k e => by omega)))
  clear hb9 hcb l0 p2 HX8
  have hfR := HR9.out.frozen
  have hcR := HR9.out.cell
  by_cases hck : checkRs r0 = 0
  ·have HD := Lh (show decRs xs = (r0, none) by
    rw [HDEC.out]
    unfold checkD
    rw [hfl, hck]
    simp [RS.fail, hfl])
   rw [hck]
   have hcb := HX9.out.blk.cell
   obtain ⟨wC, HW, HS⟩ := set11e HR9.out (.int .i64 r0.kind) (.int .i64 r0.id) (.int .i64 r0.err) (.int .i64 r0.epoch) (.slice As r0.rows.length cz) (.int .i64 r0.st.taken) (.int .i64 r0.st.late) (.int .i64 r0.st.over) (.int .i64 r0.st.full) (.int .i64 r0.st.cells) (.int .i64 r0.st.now)
   go_wp2
   rw [HW.out]
   have hc7 := HS.out.1.cell
   exact bodyPost_ret (v := .tuple #[.agg (rsC (.slice As r0.rows.length cz) r0), .int .i64 0, .int .i64 0]) (by simp [results, Tryz.results12, go_sem, hc7]) rfl
    ⟨HB9.out.trans (HS.out.2.below HB9.out.size (fun k e => by omega)), by rw [HD.out]; exact ⟨_, rfl, own_low (show RowsOwn w9 W0.heap.size (.slice As r0.rows.length cz) r0.rows from HX9.out.own) HS.out.2 (fun k e => by subst e; have := HX9.out.jl; omega) (by have := HX9.out.jl; omega)⟩⟩
  ·have HD := Lh (show decRs xs = (rs0, some (checkRs r0, 0)) by
    rw [HDEC.out]
    unfold checkD
    rw [hfl]
    simp [RS.fail, hfl, hck])
   have hz : (checkRs r0 != 0) = true := by simpa using hck
   obtain ⟨wC, HW, HS⟩ := set11e HR9.out (.int .i64 0) (.int .i64 0) (.int .i64 0) (.int .i64 0) (.slice none 0 0) (.int .i64 0) (.int .i64 0) (.int .i64 0) (.int .i64 0) (.int .i64 0) (.int .i64 0)
   go_wp2
   rw [HW.out]
   have hc7 := HS.out.1.cell
   exact bodyPost_ret (v := .tuple #[.agg (rsC nilS rs0), .int .i64 (checkRs r0), .int .i64 0]) (by simp [results, Tryz.results12, go_sem, hc7, rs0, st0]) rfl
    ⟨HB9.out.trans (HS.out.2.below HB9.out.size (fun k e => by omega)), by rw [HD.out]⟩
 ·have HD := Lh (show decRs xs = (rs0, some (code, pl)) by rw [HDEC.out]; unfold checkD; simp [hfl])
  have hne := HX8.out.rd.ok code pl hfl
  have hcode : (endP xs s7).err = code := by unfold RS.err; rw [hfl]
  have hpl : (endP xs s7).on = pl := by unfold RS.on; rw [hfl]
  rw [hcode] at p2
  have HQB := Lh (show Blk w8 q 103 (DcC (.slice A n c) ((endP xs s7).pos : Int) code pl) by have h := HX8.out.rd.blk; rw [hcode, hpl] at h; exact h)
  have HLB := Lh HX8.out.lx
  have HR8 := Lh (HR2.out.tur HX8.out.tur (by omega))
  have HB8 := Lh (HB2.out.trans (HX8.out.tur.below HB2.out.size (fun k e => by omega)))
  have hz : (code != 0) = true := by unfold bne; rw [hne]; rfl
  clear hcode hpl hne hfl HX8 HDEC HRE
  go_wp2_with fail
  clear l0 p2
  (refine wp_region_held_drew (S := fun w9 => LxB w9 j q ∧ Blk w9 q 103 (DcC (.slice A n c) ((endP xs s7).pos : Int) code pl)) (by kernel_rfl) ⟨HLB.out.drew, HQB.out.drew⟩ (fun hHeld => ?_))
  have HLd := Lh HLB.out.drew
  have HQd := Lh HQB.out.drew
  have HRd := Lh HR8.out.drew
  have HBd := Lh (HB8.out.trans (Below.refl _ _).drew)
  have hsz := HB8.out.size
  clear HLB HQB HR8 HB8
  generalize w8.drew = wd at *
  (refine tq 0 119 ?_)
  (try simp only [Act.put, z1, z2, z3])
  (refine tq 1 120 ?_)
  (try simp only [Act.put, z1, z2, z3])
  (refine tq 2 121 ?_)
  (try simp only [Act.put, z1, z2, z3])
  (refine tq 3 122 ?_)
  (try simp only [Act.put, z1, z2, z3])
  (refine tr (v := ?v251) 4 123 ?h251 ?_)
  case h251 => (intro w9 hSw; have hc9 := Blk.cell hSw.1; clear hSw; first | (go_simp; done) | (go_simp; with_reducible rfl))
  (try simp only [Act.put, z1, z2, z3])
  (refine tq 5 124 ?_)
  (try simp only [Act.put, z1, z2, z3])
  (refine tq 6 125 ?_)
  (try simp only [Act.put, z1, z2, z3])
  (refine tr (v := ?v254) 7 126 ?h254 ?_)
  case h254 => (intro w9 hSw; have hc9 := Blk.cell hSw.2; clear hSw; first | (go_simp; done) | (go_simp; with_reducible rfl))
  (try simp only [Act.put, z1, z2, z3])
  (refine tq 8 127 ?_)
  (try simp only [Act.put, z1, z2, z3])
  (refine tq 9 128 ?_)
  (try simp only [Act.put, z1, z2, z3])
  (refine tq 10 129 ?_)
  (try simp only [Act.put, z1, z2, z3])
  (refine tr (v := ?v258) 11 130 ?h258 ?_)
  case h258 => (intro w9 hSw; have hc9 := Blk.cell hSw.1; clear hSw; first | (go_simp; done) | (go_simp; with_reducible rfl))
  (try simp only [Act.put, z1, z2, z3])
  (refine tq 12 131 ?_)
  (try simp only [Act.put, z1, z2, z3])
  (refine tq 13 132 ?_)
  (try simp only [Act.put, z1, z2, z3])
  (refine tr (v := ?v261) 14 133 ?h261 ?_)
  case h261 => (intro w9 hSw; have hc9 := Blk.cell hSw.2; clear hSw; first | (go_simp; done) | (go_simp; with_reducible rfl))
  (try simp only [Act.put, z1, z2, z3])
  have hfR := HRd.out.frozen
  have hcR := HRd.out.cell
  obtain ⟨wC, HW, HS⟩ := set11e HRd.out (.int .i64 0) (.int .i64 0) (.int .i64 0) (.int .i64 0) (.slice none 0 0) (.int .i64 0) (.int .i64 0) (.int .i64 0) (.int .i64 0) (.int .i64 0) (.int .i64 0)
  (refine wpAnyH_ready (rs := [15]) (by kernel_rfl) (by simp) ?_)
  (refine AllReadyH.cons (o := _) rfl (fun K hK => ?_) AllReadyH.nil)
  go_simp
  rw [HW.out]
  (refine hK.out _ _ ⟨HLd.out.tur HS.out.2 (by omega), HQd.out.tur HS.out.2 (by omega)⟩ (fun hHeld => ?_))
  clear hK K
  (refine tq 16 3 ?_)
  (try simp only [Act.put, z1, z2, z3])
  (refine tq 17 4 ?_)
  (try simp only [Act.put, z1, z2, z3])
  (refine wpAnyH_done (by kernel_rfl) ?_ _)
  have hc7 := HS.out.1.cell
  go_wp2
  exact bodyPost_ret (v := .tuple #[.agg (rsC nilS rs0), .int .i64 code, .int .i64 pl]) (by simp [results, Tryz.results12, go_sem, hc7, rs0, st0]) rfl
   ⟨HBd.out.trans (HS.out.2.below HBd.out.size (fun k e => by omega)), by rw [HD.out]⟩
theorem doc_rs_epoch (A : Option Addr) (n c : Nat) (xs : List Int) (hk : (kindD xs).1 = 2) (W : World) (hl : xs.length = n) (h : CellsAt W A (bvs xs)) (hw : ∀ x ∈ xs, (Lit.int .u8 x).wf = true) (hn : n ≤ 140737488355328) (hc : n ≤ c) :
  Calls Tryz.prog 12 #[.slice A n c] W (DocS W (decRs xs)) := by
 have HR0 := Lh (Blk.new W 39 #[.int .i64 0, .int .i64 0, .int .i64 0, .int .i64 0, .slice none 0 0, .int .i64 0, .int .i64 0, .int .i64 0, .int .i64 0, .int .i64 0, .int .i64 0])
 have bl0 := (Below.refl W.heap.size W).alloc (Nat.le_refl _) (.cells #[.int .i64 0, .int .i64 0, .int .i64 0, .int .i64 0, .slice none 0 0, .int .i64 0, .int .i64 0, .int .i64 0, .int .i64 0, .int .i64 0, .int .i64 0] 39)
 have hs1 : (W.alloc (.cells #[.int .i64 0, .int .i64 0, .int .i64 0, .int .i64 0, .slice none 0 0, .int .i64 0, .int .i64 0, .int .i64 0, .int .i64 0, .int .i64 0, .int .i64 0] 39)).heap.size = W.heap.size + 1 := by simp
 have CR := Lh (dc_read A n c xs (W.alloc (.cells #[.int .i64 0, .int .i64 0, .int .i64 0, .int .i64 0, .slice none 0 0, .int .i64 0, .int .i64 0, .int .i64 0, .int .i64 0, .int .i64 0, .int .i64 0] 39)) hl (h.below bl0) hw hn hc)
 have HKN := Lh hk
 have HAl := Lh (show xs ≠ [] → ∀ ad, A = some ad → ad.block < W.heap.size from fun h0 ad e => by
  subst e
  obtain ⟨ad', e, h1, _⟩ := h 0 (by rw [bvs_len]; exact List.length_pos_iff.2 h0)
  cases e
  exact h1)
 have HBl := Lh bl0
 clear h hw hn hk hc bl0
 go_enter Tryz.func12, Tryz.ntmps12
 go_wp2_with fail
 go_at_call 34; (with_reducible refine CR.out.mono ?_); rintro e w1 ⟨rfl, hr, hb⟩
 have HR1 := Lh (HR0.out.kept hb)
 have HB1 := Lh (HBl.out.trans (hb.mono (by simp)))
 have hw1 : W.heap.size + 1 ≤ w1.heap.size := hs1 ▸ hb.size
 rw [hs1] at hr ⊢
 have HX := Lh (DxIs.start hr 39 #[.int .i64 0, .int .i64 0, .int .i64 0, .int .i64 0, .slice none 0 0, .int .i64 0, .int .i64 0, .int .i64 0, .int .i64 0, .int .i64 0, .int .i64 0] 84 7 (fun h0 ad e => by have := HAl.out h0 ad e; omega))
 have HR2 := Lh ((HR1.out.alloc (.cells #[.pointer (some ⟨W.heap.size + 1, 0, none⟩)] 98)).alloc (.cells #[.int .i64 0, .int .i64 0, .int .i64 0, .int .i64 0, .slice none 0 0, .int .i64 0, .int .i64 0, .int .i64 0, .int .i64 0, .int .i64 0, .int .i64 0] 39))
 have HB2 := Lh ((HB1.out.alloc (by omega) (.cells #[.pointer (some ⟨W.heap.size + 1, 0, none⟩)] 98)).alloc (by simp; omega) (.cells #[.int .i64 0, .int .i64 0, .int .i64 0, .int .i64 0, .slice none 0 0, .int .i64 0, .int .i64 0, .int .i64 0, .int .i64 0, .int .i64 0, .int .i64 0] 39))
 have hs2 : (w1.alloc (.cells #[.pointer (some ⟨W.heap.size + 1, 0, none⟩)] 98)).heap.size = w1.heap.size + 1 := by simp
 clear hr hb HR0 CR HAl HBl HB1 HR1 hs1
 go_wp2_with fail
 generalize hW0 : (w1.alloc (.cells #[.pointer (some ⟨W.heap.size + 1, 0, none⟩)] 98)).alloc (.cells #[.int .i64 0, .int .i64 0, .int .i64 0, .int .i64 0, .slice none 0 0, .int .i64 0, .int .i64 0, .int .i64 0, .int .i64 0, .int .i64 0, .int .i64 0] 39) = W0 at *
 have hRW : W.heap.size < w1.heap.size := by omega
 have hqW : W.heap.size < W.heap.size + 1 := by omega
 clear hW0 hs2
 generalize hq : W.heap.size + 1 = q at *
 generalize hj : w1.heap.size = j at *
 clear hj hq
 go_at_call 35; (with_reducible refine (show Calls Tryz.prog 35 #[.pointer (some ⟨j, 0, none⟩), .int .i64 5] W0 _ from lx_head HX.out.rd HX.out.lx HX.out.jq 5).mono ?_); rintro e w3 ⟨rfl, hr, hf⟩
 have HX3 := Lh (HX.out.read hr hf)
 have HKD := Lh (show kindD xs = numP xs M40 ⟨0, none⟩ from rfl)
 clear hr hf HX
 have HHD := Lh (show headP xs (5 : Int) ⟨0, none⟩ = (numP xs M40 ⟨0, none⟩).2 by
  unfold headP
  rw [if_neg]
  rintro ⟨_, h⟩
  have hk := HKN.out
  rw [HKD.out] at hk
  omega)
 rw [show ((5 : Nat) : Int) = (5 : Int) from rfl] at HX3
 rw [HHD.out] at HX3
 simp only [show ((5 : Nat) : Int) = (5 : Int) from rfl, HHD.out]
 rw [HKD.out] at HKN
 clear HHD
 generalize hyd : numP xs M40 ⟨0, none⟩ = y at *
 clear hyd
 obtain ⟨k0, s1⟩ := y
 dsimp only at HX3 HKN HKD ⊢
 generalize hid : numP xs M40 s1 = y at *
 have HID := Lh hid
 clear hid
 obtain ⟨id0, s2⟩ := y
 dsimp only at HX3 HID ⊢
 have hk1 : k0 = 2 := HKN.out
 subst hk1
 simp only [show ((2 : Nat) : Int) = (2 : Int) from rfl]
 have hcb := HX3.out.blk.cell
 have hfb := HX3.out.blk.frozen
 have HX4 := Lh (show DxIs W0 q j (j + 1) 39 A n c xs (rsC (.slice none 0 0) ⟨2, (id0 : Int), 0, 0, [], st0⟩) s2 84 7 (.slice none 0 0) 0 [] ((w3.setCell ⟨j + 1, 0, none⟩ (.int .i64 2)).setCell ⟨j + 1, 1, none⟩ (.int .i64 (id0 : Int))) from (HX3.out.put (cs1 := rsC (.slice none 0 0) ⟨2, 0, 0, 0, [], st0⟩) 0 (.int .i64 2) rfl).put 1 (.int .i64 (id0 : Int)) rfl)
 have l00 : w3.cell? ⟨j, 0, none⟩ = some (.pointer (some ⟨q, 0, none⟩)) := HX3.out.lx.cell 0
 clear HX3
 clear l00
 go_wp2_with fail
 generalize ((w3.setCell ⟨j + 1, 0, none⟩ (.int .i64 2)).setCell ⟨j + 1, 1, none⟩ (.int .i64 (id0 : Int))) = wg5 at *
 go_at_call 36; (with_reducible refine (lx_num HX4.out.rd HX4.out.lx).mono ?_); rintro e wh5 ⟨rfl, hr, hf⟩
 have HN5 := Lh (HX4.out.read hr hf)
 clear hr hf hcb hfb HX4
 generalize hnn : numP xs M40 s2 = y at *
 have HE5 := Lh hnn
 clear hnn
 obtain ⟨ep0, s3⟩ := y
 dsimp only at HN5 HE5 ⊢
 have hcb := HN5.out.blk.cell
 have hfb := HN5.out.blk.frozen
 have HX5 := Lh (HN5.out.put (cs1 := rsC (.slice none 0 0) ⟨2, (id0 : Int), 0, (ep0 : Int), [], st0⟩) 3 (.int .i64 (ep0 : Int)) rfl)
 have l00 : wh5.cell? ⟨j, 0, none⟩ = some (.pointer (some ⟨q, 0, none⟩)) := HN5.out.lx.cell 0
 have HRD := Lh (show readS xs = ((⟨2, (id0 : Int), 0, (ep0 : Int), [], st0⟩ : Rs), s3) by
  unfold readS bodyS
  rw [HKD.out]
  simp [HID.out, HE5.out])
 go_wp2_with fail
 generalize (wh5.setCell ⟨j + 1, 3, none⟩ (.int .i64 (ep0 : Int))) = wz at *
 clear hcb hfb l00
 obtain ⟨r0, hr0⟩ : ∃ r0 : Rs, r0 = ⟨2, (id0 : Int), 0, (ep0 : Int), [], st0⟩ := ⟨_, rfl⟩
 obtain ⟨vz, hv0⟩ : ∃ vz : Value, vz = .slice none 0 0 := ⟨_, rfl⟩
 have HX7 := Lh (show DxIs W0 q j (j + 1) 39 A n c xs (rsC vz r0) (readS xs).2 84 7 vz r0.rows.length (rowCs r0.rows) wz by
  rw [hv0, hr0, HRD.out]
  exact HX5.out)
 have HRE := Lh (show (readS xs).2.fault = none → r0 = (readS xs).1 from fun _ => by rw [hr0, HRD.out])
 clear hr0 hv0 HX5 HRD
 have HDEC := Lh (show decRs xs = if (checkD (checkRs (readS xs).1) (endP xs (readS xs).2)).fault.isSome then (rs0, (checkD (checkRs (readS xs).1) (endP xs (readS xs).2)).fault) else ((readS xs).1, none) by
  unfold decRs
  rw [if_neg (by rw [HKD.out]; dsimp only; omega)])
 have HOK := Lh (readS_ok xs)
 generalize readS xs = y at *
 obtain ⟨r', s7⟩ := y
 dsimp only at HX7 HRE HDEC HOK
 go_at_call 39; (with_reducible refine (dc_end HX7.out.rd).mono ?_); rintro e w8 ⟨rfl, hr, hf⟩
 have HX8 := Lh (HX7.out.read hr hf)
 clear hr hf HX7
 have l0 : w8.cell? ⟨j, 0, none⟩ = some (.pointer (some ⟨q, 0, none⟩)) := HX8.out.lx.cell 0
 have p2 : w8.cell? ⟨q, 2, none⟩ = some (.int .i64 (endP xs s7).err) := HX8.out.rd.blk.cell 2
 rcases hfl : (endP xs s7).fault with _ | ⟨code, pl⟩
 ·have hre := HRE.out (endP_none2 hfl)
  subst hre
  rw [(DocIs.err_no hfl).1] at p2
  obtain ⟨As, cz, hvz⟩ := own_form3 HX8.out.own
  subst hvz
  have HCR := Lh (RowsOwn.rd_ (show RowsOwn w8 W0.heap.size (.slice As r0.rows.length cz) r0.rows from HX8.out.own))
  have hcb := HX8.out.blk.cell
  go_wp2_with fail
  go_at_call 42; (with_reducible refine (rcheck_rs As _ cz r0 w8 rfl HCR.out.1 HCR.out.2 HOK.out).mono ?_); rintro e w9 ⟨rfl, hb9⟩
  have HX9 := Lh (HX8.out.kept hb9)
  have HR9 := Lh (HR2.out.tur HX9.out.tur (by omega))
  have HB9 := Lh (HB2.out.trans (HX9.out.tur.below HB2.out.size (fun k e => by omega)))
  clear hb9 hcb l0 p2 HX8
  have hfR := HR9.out.frozen
  have hcR := HR9.out.cell
  by_cases hck : checkRs r0 = 0
  ·have HD := Lh (show decRs xs = (r0, none) by
    rw [HDEC.out]
    unfold checkD
    rw [hfl, hck]
    simp [RS.fail, hfl])
   rw [hck]
   have hcb := HX9.out.blk.cell
   obtain ⟨wC, HW, HS⟩ := set11e HR9.out (.int .i64 r0.kind) (.int .i64 r0.id) (.int .i64 r0.err) (.int .i64 r0.epoch) (.slice As r0.rows.length cz) (.int .i64 r0.st.taken) (.int .i64 r0.st.late) (.int .i64 r0.st.over) (.int .i64 r0.st.full) (.int .i64 r0.st.cells) (.int .i64 r0.st.now)
   go_wp2
   rw [HW.out]
   have hc7 := HS.out.1.cell
   exact bodyPost_ret (v := .tuple #[.agg (rsC (.slice As r0.rows.length cz) r0), .int .i64 0, .int .i64 0]) (by simp [results, Tryz.results12, go_sem, hc7]) rfl
    ⟨HB9.out.trans (HS.out.2.below HB9.out.size (fun k e => by omega)), by rw [HD.out]; exact ⟨_, rfl, own_low (show RowsOwn w9 W0.heap.size (.slice As r0.rows.length cz) r0.rows from HX9.out.own) HS.out.2 (fun k e => by subst e; have := HX9.out.jl; omega) (by have := HX9.out.jl; omega)⟩⟩
  ·have HD := Lh (show decRs xs = (rs0, some (checkRs r0, 0)) by
    rw [HDEC.out]
    unfold checkD
    rw [hfl]
    simp [RS.fail, hfl, hck])
   have hz : (checkRs r0 != 0) = true := by simpa using hck
   obtain ⟨wC, HW, HS⟩ := set11e HR9.out (.int .i64 0) (.int .i64 0) (.int .i64 0) (.int .i64 0) (.slice none 0 0) (.int .i64 0) (.int .i64 0) (.int .i64 0) (.int .i64 0) (.int .i64 0) (.int .i64 0)
   go_wp2
   rw [HW.out]
   have hc7 := HS.out.1.cell
   exact bodyPost_ret (v := .tuple #[.agg (rsC nilS rs0), .int .i64 (checkRs r0), .int .i64 0]) (by simp [results, Tryz.results12, go_sem, hc7, rs0, st0]) rfl
    ⟨HB9.out.trans (HS.out.2.below HB9.out.size (fun k e => by omega)), by rw [HD.out]⟩
 ·have HD := Lh (show decRs xs = (rs0, some (code, pl)) by rw [HDEC.out]; unfold checkD; simp [hfl])
  have hne := HX8.out.rd.ok code pl hfl
  have hcode : (endP xs s7).err = code := by unfold RS.err; rw [hfl]
  have hpl : (endP xs s7).on = pl := by unfold RS.on; rw [hfl]
  rw [hcode] at p2
  have HQB := Lh (show Blk w8 q 103 (DcC (.slice A n c) ((endP xs s7).pos : Int) code pl) by have h := HX8.out.rd.blk; rw [hcode, hpl] at h; exact h)
  have HLB := Lh HX8.out.lx
  have HR8 := Lh (HR2.out.tur HX8.out.tur (by omega))
  have HB8 := Lh (HB2.out.trans (HX8.out.tur.below HB2.out.size (fun k e => by omega)))
  have hz : (code != 0) = true := by unfold bne; rw [hne]; rfl
  clear hcode hpl hne hfl HX8 HDEC HRE
  go_wp2_with fail
  clear l0 p2
  (refine wp_region_held_drew (S := fun w9 => LxB w9 j q ∧ Blk w9 q 103 (DcC (.slice A n c) ((endP xs s7).pos : Int) code pl)) (by kernel_rfl) ⟨HLB.out.drew, HQB.out.drew⟩ (fun hHeld => ?_))
  have HLd := Lh HLB.out.drew
  have HQd := Lh HQB.out.drew
  have HRd := Lh HR8.out.drew
  have HBd := Lh (HB8.out.trans (Below.refl _ _).drew)
  have hsz := HB8.out.size
  clear HLB HQB HR8 HB8
  generalize w8.drew = wd at *
  (refine tq 0 119 ?_)
  (try simp only [Act.put, z1, z2, z3])
  (refine tq 1 120 ?_)
  (try simp only [Act.put, z1, z2, z3])
  (refine tq 2 121 ?_)
  (try simp only [Act.put, z1, z2, z3])
  (refine tq 3 122 ?_)
  (try simp only [Act.put, z1, z2, z3])
  (refine tr (v := ?v268) 4 123 ?h268 ?_)
  case h268 => (intro w9 hSw; have hc9 := Blk.cell hSw.1; clear hSw; first | (go_simp; done) | (go_simp; with_reducible rfl))
  (try simp only [Act.put, z1, z2, z3])
  (refine tq 5 124 ?_)
  (try simp only [Act.put, z1, z2, z3])
  (refine tq 6 125 ?_)
  (try simp only [Act.put, z1, z2, z3])
  (refine tr (v := ?v271) 7 126 ?h271 ?_)
  case h271 => (intro w9 hSw; have hc9 := Blk.cell hSw.2; clear hSw; first | (go_simp; done) | (go_simp; with_reducible rfl))
  (try simp only [Act.put, z1, z2, z3])
  (refine tq 8 127 ?_)
  (try simp only [Act.put, z1, z2, z3])
  (refine tq 9 128 ?_)
  (try simp only [Act.put, z1, z2, z3])
  (refine tq 10 129 ?_)
  (try simp only [Act.put, z1, z2, z3])
  (refine tr (v := ?v275) 11 130 ?h275 ?_)
  case h275 => (intro w9 hSw; have hc9 := Blk.cell hSw.1; clear hSw; first | (go_simp; done) | (go_simp; with_reducible rfl))
  (try simp only [Act.put, z1, z2, z3])
  (refine tq 12 131 ?_)
  (try simp only [Act.put, z1, z2, z3])
  (refine tq 13 132 ?_)
  (try simp only [Act.put, z1, z2, z3])
  (refine tr (v := ?v278) 14 133 ?h278 ?_)
  case h278 => (intro w9 hSw; have hc9 := Blk.cell hSw.2; clear hSw; first | (go_simp; done) | (go_simp; with_reducible rfl))
  (try simp only [Act.put, z1, z2, z3])
  have hfR := HRd.out.frozen
  have hcR := HRd.out.cell
  obtain ⟨wC, HW, HS⟩ := set11e HRd.out (.int .i64 0) (.int .i64 0) (.int .i64 0) (.int .i64 0) (.slice none 0 0) (.int .i64 0) (.int .i64 0) (.int .i64 0) (.int .i64 0) (.int .i64 0) (.int .i64 0)
  (refine wpAnyH_ready (rs := [15]) (by kernel_rfl) (by simp) ?_)
  (refine AllReadyH.cons (o := _) rfl (fun K hK => ?_) AllReadyH.nil)
  go_simp
  rw [HW.out]
  (refine hK.out _ _ ⟨HLd.out.tur HS.out.2 (by omega), HQd.out.tur HS.out.2 (by omega)⟩ (fun hHeld => ?_))
  clear hK K
  (refine tq 16 3 ?_)
  (try simp only [Act.put, z1, z2, z3])
  (refine tq 17 4 ?_)
  (try simp only [Act.put, z1, z2, z3])
  (refine wpAnyH_done (by kernel_rfl) ?_ _)
  have hc7 := HS.out.1.cell
  go_wp2
  exact bodyPost_ret (v := .tuple #[.agg (rsC nilS rs0), .int .i64 code, .int .i64 pl]) (by simp [results, Tryz.results12, go_sem, hc7, rs0, st0]) rfl
   ⟨HBd.out.trans (HS.out.2.below HBd.out.size (fun k e => by omega)), by rw [HD.out]⟩
theorem doc_rs_error (A : Option Addr) (n c : Nat) (xs : List Int) (hk : (kindD xs).1 = 5) (W : World) (hl : xs.length = n) (h : CellsAt W A (bvs xs)) (hw : ∀ x ∈ xs, (Lit.int .u8 x).wf = true) (hn : n ≤ 140737488355328) (hc : n ≤ c) :
  Calls Tryz.prog 12 #[.slice A n c] W (DocS W (decRs xs)) := by
 have HR0 := Lh (Blk.new W 39 #[.int .i64 0, .int .i64 0, .int .i64 0, .int .i64 0, .slice none 0 0, .int .i64 0, .int .i64 0, .int .i64 0, .int .i64 0, .int .i64 0, .int .i64 0])
 have bl0 := (Below.refl W.heap.size W).alloc (Nat.le_refl _) (.cells #[.int .i64 0, .int .i64 0, .int .i64 0, .int .i64 0, .slice none 0 0, .int .i64 0, .int .i64 0, .int .i64 0, .int .i64 0, .int .i64 0, .int .i64 0] 39)
 have hs1 : (W.alloc (.cells #[.int .i64 0, .int .i64 0, .int .i64 0, .int .i64 0, .slice none 0 0, .int .i64 0, .int .i64 0, .int .i64 0, .int .i64 0, .int .i64 0, .int .i64 0] 39)).heap.size = W.heap.size + 1 := by simp
 have CR := Lh (dc_read A n c xs (W.alloc (.cells #[.int .i64 0, .int .i64 0, .int .i64 0, .int .i64 0, .slice none 0 0, .int .i64 0, .int .i64 0, .int .i64 0, .int .i64 0, .int .i64 0, .int .i64 0] 39)) hl (h.below bl0) hw hn hc)
 have HKN := Lh hk
 have HAl := Lh (show xs ≠ [] → ∀ ad, A = some ad → ad.block < W.heap.size from fun h0 ad e => by
  subst e
  obtain ⟨ad', e, h1, _⟩ := h 0 (by rw [bvs_len]; exact List.length_pos_iff.2 h0)
  cases e
  exact h1)
 have HBl := Lh bl0
 clear h hw hn hk hc bl0
 go_enter Tryz.func12, Tryz.ntmps12
 go_wp2_with fail
 go_at_call 34; (with_reducible refine CR.out.mono ?_); rintro e w1 ⟨rfl, hr, hb⟩
 have HR1 := Lh (HR0.out.kept hb)
 have HB1 := Lh (HBl.out.trans (hb.mono (by simp)))
 have hw1 : W.heap.size + 1 ≤ w1.heap.size := hs1 ▸ hb.size
 rw [hs1] at hr ⊢
 have HX := Lh (DxIs.start hr 39 #[.int .i64 0, .int .i64 0, .int .i64 0, .int .i64 0, .slice none 0 0, .int .i64 0, .int .i64 0, .int .i64 0, .int .i64 0, .int .i64 0, .int .i64 0] 84 7 (fun h0 ad e => by have := HAl.out h0 ad e; omega))
 have HR2 := Lh ((HR1.out.alloc (.cells #[.pointer (some ⟨W.heap.size + 1, 0, none⟩)] 98)).alloc (.cells #[.int .i64 0, .int .i64 0, .int .i64 0, .int .i64 0, .slice none 0 0, .int .i64 0, .int .i64 0, .int .i64 0, .int .i64 0, .int .i64 0, .int .i64 0] 39))
 have HB2 := Lh ((HB1.out.alloc (by omega) (.cells #[.pointer (some ⟨W.heap.size + 1, 0, none⟩)] 98)).alloc (by simp; omega) (.cells #[.int .i64 0, .int .i64 0, .int .i64 0, .int .i64 0, .slice none 0 0, .int .i64 0, .int .i64 0, .int .i64 0, .int .i64 0, .int .i64 0, .int .i64 0] 39))
 have hs2 : (w1.alloc (.cells #[.pointer (some ⟨W.heap.size + 1, 0, none⟩)] 98)).heap.size = w1.heap.size + 1 := by simp
 clear hr hb HR0 CR HAl HBl HB1 HR1 hs1
 go_wp2_with fail
 generalize hW0 : (w1.alloc (.cells #[.pointer (some ⟨W.heap.size + 1, 0, none⟩)] 98)).alloc (.cells #[.int .i64 0, .int .i64 0, .int .i64 0, .int .i64 0, .slice none 0 0, .int .i64 0, .int .i64 0, .int .i64 0, .int .i64 0, .int .i64 0, .int .i64 0] 39) = W0 at *
 have hRW : W.heap.size < w1.heap.size := by omega
 have hqW : W.heap.size < W.heap.size + 1 := by omega
 clear hW0 hs2
 generalize hq : W.heap.size + 1 = q at *
 generalize hj : w1.heap.size = j at *
 clear hj hq
 go_at_call 35; (with_reducible refine (show Calls Tryz.prog 35 #[.pointer (some ⟨j, 0, none⟩), .int .i64 5] W0 _ from lx_head HX.out.rd HX.out.lx HX.out.jq 5).mono ?_); rintro e w3 ⟨rfl, hr, hf⟩
 have HX3 := Lh (HX.out.read hr hf)
 have HKD := Lh (show kindD xs = numP xs M40 ⟨0, none⟩ from rfl)
 clear hr hf HX
 have HHD := Lh (show headP xs (5 : Int) ⟨0, none⟩ = (numP xs M40 ⟨0, none⟩).2 by
  unfold headP
  rw [if_neg]
  rintro ⟨_, h⟩
  have hk := HKN.out
  rw [HKD.out] at hk
  omega)
 rw [show ((5 : Nat) : Int) = (5 : Int) from rfl] at HX3
 rw [HHD.out] at HX3
 simp only [show ((5 : Nat) : Int) = (5 : Int) from rfl, HHD.out]
 rw [HKD.out] at HKN
 clear HHD
 generalize hyd : numP xs M40 ⟨0, none⟩ = y at *
 clear hyd
 obtain ⟨k0, s1⟩ := y
 dsimp only at HX3 HKN HKD ⊢
 generalize hid : numP xs M40 s1 = y at *
 have HID := Lh hid
 clear hid
 obtain ⟨id0, s2⟩ := y
 dsimp only at HX3 HID ⊢
 have hk1 : k0 = 5 := HKN.out
 subst hk1
 simp only [show ((5 : Nat) : Int) = (5 : Int) from rfl]
 have hcb := HX3.out.blk.cell
 have hfb := HX3.out.blk.frozen
 have HX4 := Lh (show DxIs W0 q j (j + 1) 39 A n c xs (rsC (.slice none 0 0) ⟨5, (id0 : Int), 0, 0, [], st0⟩) s2 84 7 (.slice none 0 0) 0 [] ((w3.setCell ⟨j + 1, 0, none⟩ (.int .i64 5)).setCell ⟨j + 1, 1, none⟩ (.int .i64 (id0 : Int))) from (HX3.out.put (cs1 := rsC (.slice none 0 0) ⟨5, 0, 0, 0, [], st0⟩) 0 (.int .i64 5) rfl).put 1 (.int .i64 (id0 : Int)) rfl)
 have l00 : w3.cell? ⟨j, 0, none⟩ = some (.pointer (some ⟨q, 0, none⟩)) := HX3.out.lx.cell 0
 clear HX3
 clear l00
 go_wp2_with fail
 generalize ((w3.setCell ⟨j + 1, 0, none⟩ (.int .i64 5)).setCell ⟨j + 1, 1, none⟩ (.int .i64 (id0 : Int))) = wg5 at *
 go_at_call 36; (with_reducible refine (lx_num HX4.out.rd HX4.out.lx).mono ?_); rintro e wh5 ⟨rfl, hr, hf⟩
 have HN5 := Lh (HX4.out.read hr hf)
 clear hr hf hcb hfb HX4
 generalize hnn : numP xs M40 s2 = y at *
 have HE5 := Lh hnn
 clear hnn
 obtain ⟨ep0, s3⟩ := y
 dsimp only at HN5 HE5 ⊢
 have hcb := HN5.out.blk.cell
 have hfb := HN5.out.blk.frozen
 have HX5 := Lh (HN5.out.put (cs1 := rsC (.slice none 0 0) ⟨5, (id0 : Int), (ep0 : Int), 0, [], st0⟩) 2 (.int .i64 (ep0 : Int)) rfl)
 have l00 : wh5.cell? ⟨j, 0, none⟩ = some (.pointer (some ⟨q, 0, none⟩)) := HN5.out.lx.cell 0
 have HRD := Lh (show readS xs = ((⟨5, (id0 : Int), (ep0 : Int), 0, [], st0⟩ : Rs), s3) by
  unfold readS bodyS
  rw [HKD.out]
  simp [HID.out, HE5.out])
 go_wp2_with fail
 generalize (wh5.setCell ⟨j + 1, 2, none⟩ (.int .i64 (ep0 : Int))) = wz at *
 clear hcb hfb l00
 obtain ⟨r0, hr0⟩ : ∃ r0 : Rs, r0 = ⟨5, (id0 : Int), (ep0 : Int), 0, [], st0⟩ := ⟨_, rfl⟩
 obtain ⟨vz, hv0⟩ : ∃ vz : Value, vz = .slice none 0 0 := ⟨_, rfl⟩
 have HX7 := Lh (show DxIs W0 q j (j + 1) 39 A n c xs (rsC vz r0) (readS xs).2 84 7 vz r0.rows.length (rowCs r0.rows) wz by
  rw [hv0, hr0, HRD.out]
  exact HX5.out)
 have HRE := Lh (show (readS xs).2.fault = none → r0 = (readS xs).1 from fun _ => by rw [hr0, HRD.out])
 clear hr0 hv0 HX5 HRD
 have HDEC := Lh (show decRs xs = if (checkD (checkRs (readS xs).1) (endP xs (readS xs).2)).fault.isSome then (rs0, (checkD (checkRs (readS xs).1) (endP xs (readS xs).2)).fault) else ((readS xs).1, none) by
  unfold decRs
  rw [if_neg (by rw [HKD.out]; dsimp only; omega)])
 have HOK := Lh (readS_ok xs)
 generalize readS xs = y at *
 obtain ⟨r', s7⟩ := y
 dsimp only at HX7 HRE HDEC HOK
 go_at_call 39; (with_reducible refine (dc_end HX7.out.rd).mono ?_); rintro e w8 ⟨rfl, hr, hf⟩
 have HX8 := Lh (HX7.out.read hr hf)
 clear hr hf HX7
 have l0 : w8.cell? ⟨j, 0, none⟩ = some (.pointer (some ⟨q, 0, none⟩)) := HX8.out.lx.cell 0
 have p2 : w8.cell? ⟨q, 2, none⟩ = some (.int .i64 (endP xs s7).err) := HX8.out.rd.blk.cell 2
 rcases hfl : (endP xs s7).fault with _ | ⟨code, pl⟩
 ·have hre := HRE.out (endP_none2 hfl)
  subst hre
  rw [(DocIs.err_no hfl).1] at p2
  obtain ⟨As, cz, hvz⟩ := own_form3 HX8.out.own
  subst hvz
  have HCR := Lh (RowsOwn.rd_ (show RowsOwn w8 W0.heap.size (.slice As r0.rows.length cz) r0.rows from HX8.out.own))
  have hcb := HX8.out.blk.cell
  go_wp2_with fail
  go_at_call 42; (with_reducible refine (rcheck_rs As _ cz r0 w8 rfl HCR.out.1 HCR.out.2 HOK.out).mono ?_); rintro e w9 ⟨rfl, hb9⟩
  have HX9 := Lh (HX8.out.kept hb9)
  have HR9 := Lh (HR2.out.tur HX9.out.tur (by omega))
  have HB9 := Lh (HB2.out.trans (HX9.out.tur.below HB2.out.size (fun k e => by omega)))
  clear hb9 hcb l0 p2 HX8
  have hfR := HR9.out.frozen
  have hcR := HR9.out.cell
  by_cases hck : checkRs r0 = 0
  ·have HD := Lh (show decRs xs = (r0, none) by
    rw [HDEC.out]
    unfold checkD
    rw [hfl, hck]
    simp [RS.fail, hfl])
   rw [hck]
   have hcb := HX9.out.blk.cell
   obtain ⟨wC, HW, HS⟩ := set11e HR9.out (.int .i64 r0.kind) (.int .i64 r0.id) (.int .i64 r0.err) (.int .i64 r0.epoch) (.slice As r0.rows.length cz) (.int .i64 r0.st.taken) (.int .i64 r0.st.late) (.int .i64 r0.st.over) (.int .i64 r0.st.full) (.int .i64 r0.st.cells) (.int .i64 r0.st.now)
   go_wp2
   rw [HW.out]
   have hc7 := HS.out.1.cell
   exact bodyPost_ret (v := .tuple #[.agg (rsC (.slice As r0.rows.length cz) r0), .int .i64 0, .int .i64 0]) (by simp [results, Tryz.results12, go_sem, hc7]) rfl
    ⟨HB9.out.trans (HS.out.2.below HB9.out.size (fun k e => by omega)), by rw [HD.out]; exact ⟨_, rfl, own_low (show RowsOwn w9 W0.heap.size (.slice As r0.rows.length cz) r0.rows from HX9.out.own) HS.out.2 (fun k e => by subst e; have := HX9.out.jl; omega) (by have := HX9.out.jl; omega)⟩⟩
  ·have HD := Lh (show decRs xs = (rs0, some (checkRs r0, 0)) by
    rw [HDEC.out]
    unfold checkD
    rw [hfl]
    simp [RS.fail, hfl, hck])
   have hz : (checkRs r0 != 0) = true := by simpa using hck
   obtain ⟨wC, HW, HS⟩ := set11e HR9.out (.int .i64 0) (.int .i64 0) (.int .i64 0) (.int .i64 0) (.slice none 0 0) (.int .i64 0) (.int .i64 0) (.int .i64 0) (.int .i64 0) (.int .i64 0) (.int .i64 0)
   go_wp2
   rw [HW.out]
   have hc7 := HS.out.1.cell
   exact bodyPost_ret (v := .tuple #[.agg (rsC nilS rs0), .int .i64 (checkRs r0), .int .i64 0]) (by simp [results, Tryz.results12, go_sem, hc7, rs0, st0]) rfl
    ⟨HB9.out.trans (HS.out.2.below HB9.out.size (fun k e => by omega)), by rw [HD.out]⟩
 ·have HD := Lh (show decRs xs = (rs0, some (code, pl)) by rw [HDEC.out]; unfold checkD; simp [hfl])
  have hne := HX8.out.rd.ok code pl hfl
  have hcode : (endP xs s7).err = code := by unfold RS.err; rw [hfl]
  have hpl : (endP xs s7).on = pl := by unfold RS.on; rw [hfl]
  rw [hcode] at p2
  have HQB := Lh (show Blk w8 q 103 (DcC (.slice A n c) ((endP xs s7).pos : Int) code pl) by have h := HX8.out.rd.blk; rw [hcode, hpl] at h; exact h)
  have HLB := Lh HX8.out.lx
  have HR8 := Lh (HR2.out.tur HX8.out.tur (by omega))
  have HB8 := Lh (HB2.out.trans (HX8.out.tur.below HB2.out.size (fun k e => by omega)))
  have hz : (code != 0) = true := by unfold bne; rw [hne]; rfl
  clear hcode hpl hne hfl HX8 HDEC HRE
  go_wp2_with fail
  clear l0 p2
  (refine wp_region_held_drew (S := fun w9 => LxB w9 j q ∧ Blk w9 q 103 (DcC (.slice A n c) ((endP xs s7).pos : Int) code pl)) (by kernel_rfl) ⟨HLB.out.drew, HQB.out.drew⟩ (fun hHeld => ?_))
  have HLd := Lh HLB.out.drew
  have HQd := Lh HQB.out.drew
  have HRd := Lh HR8.out.drew
  have HBd := Lh (HB8.out.trans (Below.refl _ _).drew)
  have hsz := HB8.out.size
  clear HLB HQB HR8 HB8
  generalize w8.drew = wd at *
  (refine tq 0 119 ?_)
  (try simp only [Act.put, z1, z2, z3])
  (refine tq 1 120 ?_)
  (try simp only [Act.put, z1, z2, z3])
  (refine tq 2 121 ?_)
  (try simp only [Act.put, z1, z2, z3])
  (refine tq 3 122 ?_)
  (try simp only [Act.put, z1, z2, z3])
  (refine tr (v := ?v285) 4 123 ?h285 ?_)
  case h285 => (intro w9 hSw; have hc9 := Blk.cell hSw.1; clear hSw; first | (go_simp; done) | (go_simp; with_reducible rfl))
  (try simp only [Act.put, z1, z2, z3])
  (refine tq 5 124 ?_)
  (try simp only [Act.put, z1, z2, z3])
  (refine tq 6 125 ?_)
  (try simp only [Act.put, z1, z2, z3])
  (refine tr (v := ?v288) 7 126 ?h288 ?_)
  case h288 => (intro w9 hSw; have hc9 := Blk.cell hSw.2; clear hSw; first | (go_simp; done) | (go_simp; with_reducible rfl))
  (try simp only [Act.put, z1, z2, z3])
  (refine tq 8 127 ?_)
  (try simp only [Act.put, z1, z2, z3])
  (refine tq 9 128 ?_)
  (try simp only [Act.put, z1, z2, z3])
  (refine tq 10 129 ?_)
  (try simp only [Act.put, z1, z2, z3])
  (refine tr (v := ?v292) 11 130 ?h292 ?_)
  case h292 => (intro w9 hSw; have hc9 := Blk.cell hSw.1; clear hSw; first | (go_simp; done) | (go_simp; with_reducible rfl))
  (try simp only [Act.put, z1, z2, z3])
  (refine tq 12 131 ?_)
  (try simp only [Act.put, z1, z2, z3])
  (refine tq 13 132 ?_)
  (try simp only [Act.put, z1, z2, z3])
  (refine tr (v := ?v295) 14 133 ?h295 ?_)
  case h295 => (intro w9 hSw; have hc9 := Blk.cell hSw.2; clear hSw; first | (go_simp; done) | (go_simp; with_reducible rfl))
  (try simp only [Act.put, z1, z2, z3])
  have hfR := HRd.out.frozen
  have hcR := HRd.out.cell
  obtain ⟨wC, HW, HS⟩ := set11e HRd.out (.int .i64 0) (.int .i64 0) (.int .i64 0) (.int .i64 0) (.slice none 0 0) (.int .i64 0) (.int .i64 0) (.int .i64 0) (.int .i64 0) (.int .i64 0) (.int .i64 0)
  (refine wpAnyH_ready (rs := [15]) (by kernel_rfl) (by simp) ?_)
  (refine AllReadyH.cons (o := _) rfl (fun K hK => ?_) AllReadyH.nil)
  go_simp
  rw [HW.out]
  (refine hK.out _ _ ⟨HLd.out.tur HS.out.2 (by omega), HQd.out.tur HS.out.2 (by omega)⟩ (fun hHeld => ?_))
  clear hK K
  (refine tq 16 3 ?_)
  (try simp only [Act.put, z1, z2, z3])
  (refine tq 17 4 ?_)
  (try simp only [Act.put, z1, z2, z3])
  (refine wpAnyH_done (by kernel_rfl) ?_ _)
  have hc7 := HS.out.1.cell
  go_wp2
  exact bodyPost_ret (v := .tuple #[.agg (rsC nilS rs0), .int .i64 code, .int .i64 pl]) (by simp [results, Tryz.results12, go_sem, hc7, rs0, st0]) rfl
   ⟨HBd.out.trans (HS.out.2.below HBd.out.size (fun k e => by omega)), by rw [HD.out]⟩
theorem doc_rs_stats (A : Option Addr) (n c : Nat) (xs : List Int) (hk : (kindD xs).1 = 4) (W : World) (hl : xs.length = n) (h : CellsAt W A (bvs xs)) (hw : ∀ x ∈ xs, (Lit.int .u8 x).wf = true) (hn : n ≤ 140737488355328) (hc : n ≤ c) :
  Calls Tryz.prog 12 #[.slice A n c] W (DocS W (decRs xs)) := by
 have HR0 := Lh (Blk.new W 39 #[.int .i64 0, .int .i64 0, .int .i64 0, .int .i64 0, .slice none 0 0, .int .i64 0, .int .i64 0, .int .i64 0, .int .i64 0, .int .i64 0, .int .i64 0])
 have bl0 := (Below.refl W.heap.size W).alloc (Nat.le_refl _) (.cells #[.int .i64 0, .int .i64 0, .int .i64 0, .int .i64 0, .slice none 0 0, .int .i64 0, .int .i64 0, .int .i64 0, .int .i64 0, .int .i64 0, .int .i64 0] 39)
 have hs1 : (W.alloc (.cells #[.int .i64 0, .int .i64 0, .int .i64 0, .int .i64 0, .slice none 0 0, .int .i64 0, .int .i64 0, .int .i64 0, .int .i64 0, .int .i64 0, .int .i64 0] 39)).heap.size = W.heap.size + 1 := by simp
 have CR := Lh (dc_read A n c xs (W.alloc (.cells #[.int .i64 0, .int .i64 0, .int .i64 0, .int .i64 0, .slice none 0 0, .int .i64 0, .int .i64 0, .int .i64 0, .int .i64 0, .int .i64 0, .int .i64 0] 39)) hl (h.below bl0) hw hn hc)
 have HKN := Lh hk
 have HAl := Lh (show xs ≠ [] → ∀ ad, A = some ad → ad.block < W.heap.size from fun h0 ad e => by
  subst e
  obtain ⟨ad', e, h1, _⟩ := h 0 (by rw [bvs_len]; exact List.length_pos_iff.2 h0)
  cases e
  exact h1)
 have HBl := Lh bl0
 clear h hw hn hk hc bl0
 go_enter Tryz.func12, Tryz.ntmps12
 go_wp2_with fail
 go_at_call 34; (with_reducible refine CR.out.mono ?_); rintro e w1 ⟨rfl, hr, hb⟩
 have HR1 := Lh (HR0.out.kept hb)
 have HB1 := Lh (HBl.out.trans (hb.mono (by simp)))
 have hw1 : W.heap.size + 1 ≤ w1.heap.size := hs1 ▸ hb.size
 rw [hs1] at hr ⊢
 have HX := Lh (DxIs.start hr 39 #[.int .i64 0, .int .i64 0, .int .i64 0, .int .i64 0, .slice none 0 0, .int .i64 0, .int .i64 0, .int .i64 0, .int .i64 0, .int .i64 0, .int .i64 0] 84 7 (fun h0 ad e => by have := HAl.out h0 ad e; omega))
 have HR2 := Lh ((HR1.out.alloc (.cells #[.pointer (some ⟨W.heap.size + 1, 0, none⟩)] 98)).alloc (.cells #[.int .i64 0, .int .i64 0, .int .i64 0, .int .i64 0, .slice none 0 0, .int .i64 0, .int .i64 0, .int .i64 0, .int .i64 0, .int .i64 0, .int .i64 0] 39))
 have HB2 := Lh ((HB1.out.alloc (by omega) (.cells #[.pointer (some ⟨W.heap.size + 1, 0, none⟩)] 98)).alloc (by simp; omega) (.cells #[.int .i64 0, .int .i64 0, .int .i64 0, .int .i64 0, .slice none 0 0, .int .i64 0, .int .i64 0, .int .i64 0, .int .i64 0, .int .i64 0, .int .i64 0] 39))
 have hs2 : (w1.alloc (.cells #[.pointer (some ⟨W.heap.size + 1, 0, none⟩)] 98)).heap.size = w1.heap.size + 1 := by simp
 clear hr hb HR0 CR HAl HBl HB1 HR1 hs1
 go_wp2_with fail
 generalize hW0 : (w1.alloc (.cells #[.pointer (some ⟨W.heap.size + 1, 0, none⟩)] 98)).alloc (.cells #[.int .i64 0, .int .i64 0, .int .i64 0, .int .i64 0, .slice none 0 0, .int .i64 0, .int .i64 0, .int .i64 0, .int .i64 0, .int .i64 0, .int .i64 0] 39) = W0 at *
 have hRW : W.heap.size < w1.heap.size := by omega
 have hqW : W.heap.size < W.heap.size + 1 := by omega
 clear hW0 hs2
 generalize hq : W.heap.size + 1 = q at *
 generalize hj : w1.heap.size = j at *
 clear hj hq
 go_at_call 35; (with_reducible refine (show Calls Tryz.prog 35 #[.pointer (some ⟨j, 0, none⟩), .int .i64 5] W0 _ from lx_head HX.out.rd HX.out.lx HX.out.jq 5).mono ?_); rintro e w3 ⟨rfl, hr, hf⟩
 have HX3 := Lh (HX.out.read hr hf)
 have HKD := Lh (show kindD xs = numP xs M40 ⟨0, none⟩ from rfl)
 clear hr hf HX
 have HHD := Lh (show headP xs (5 : Int) ⟨0, none⟩ = (numP xs M40 ⟨0, none⟩).2 by
  unfold headP
  rw [if_neg]
  rintro ⟨_, h⟩
  have hk := HKN.out
  rw [HKD.out] at hk
  omega)
 rw [show ((5 : Nat) : Int) = (5 : Int) from rfl] at HX3
 rw [HHD.out] at HX3
 simp only [show ((5 : Nat) : Int) = (5 : Int) from rfl, HHD.out]
 rw [HKD.out] at HKN
 clear HHD
 generalize hyd : numP xs M40 ⟨0, none⟩ = y at *
 clear hyd
 obtain ⟨k0, s1⟩ := y
 dsimp only at HX3 HKN HKD ⊢
 generalize hid : numP xs M40 s1 = y at *
 have HID := Lh hid
 clear hid
 obtain ⟨id0, s2⟩ := y
 dsimp only at HX3 HID ⊢
 have hk1 : k0 = 4 := HKN.out
 subst hk1
 simp only [show ((4 : Nat) : Int) = (4 : Int) from rfl]
 have hcb := HX3.out.blk.cell
 have hfb := HX3.out.blk.frozen
 have HX4 := Lh (show DxIs W0 q j (j + 1) 39 A n c xs (rsC (.slice none 0 0) ⟨4, (id0 : Int), 0, 0, [], st0⟩) s2 84 7 (.slice none 0 0) 0 [] ((w3.setCell ⟨j + 1, 0, none⟩ (.int .i64 4)).setCell ⟨j + 1, 1, none⟩ (.int .i64 (id0 : Int))) from (HX3.out.put (cs1 := rsC (.slice none 0 0) ⟨4, 0, 0, 0, [], st0⟩) 0 (.int .i64 4) rfl).put 1 (.int .i64 (id0 : Int)) rfl)
 have l00 : w3.cell? ⟨j, 0, none⟩ = some (.pointer (some ⟨q, 0, none⟩)) := HX3.out.lx.cell 0
 clear HX3
 clear l00
 go_wp2_with fail
 generalize ((w3.setCell ⟨j + 1, 0, none⟩ (.int .i64 4)).setCell ⟨j + 1, 1, none⟩ (.int .i64 (id0 : Int))) = wg10 at *
 go_at_call 36; (with_reducible refine (lx_num HX4.out.rd HX4.out.lx).mono ?_); rintro e wh10 ⟨rfl, hr, hf⟩
 have HN10 := Lh (HX4.out.read hr hf)
 clear hr hf hcb hfb HX4
 generalize hnn : numP xs M40 s2 = y at *
 have HE10 := Lh hnn
 clear hnn
 obtain ⟨t00, sq0⟩ := y
 dsimp only at HN10 HE10 ⊢
 have hcb := HN10.out.blk.cell
 have hfb := HN10.out.blk.frozen
 have HX10 := Lh (HN10.out.put (cs1 := rsC (.slice none 0 0) ⟨4, (id0 : Int), 0, 0, [], ⟨(t00 : Int), 0, 0, 0, 0, 0⟩⟩) 5 (.int .i64 (t00 : Int)) rfl)
 go_wp2_with fail
 generalize (wh10.setCell ⟨j + 1, 5, none⟩ (.int .i64 (t00 : Int))) = wg11 at *
 go_at_call 36; (with_reducible refine (lx_num HX10.out.rd HX10.out.lx).mono ?_); rintro e wh11 ⟨rfl, hr, hf⟩
 have HN11 := Lh (HX10.out.read hr hf)
 clear hr hf hcb hfb HX10
 generalize hnn : numP xs M40 sq0 = y at *
 have HE11 := Lh hnn
 clear hnn
 obtain ⟨t10, sq1⟩ := y
 dsimp only at HN11 HE11 ⊢
 have hcb := HN11.out.blk.cell
 have hfb := HN11.out.blk.frozen
 have HX11 := Lh (HN11.out.put (cs1 := rsC (.slice none 0 0) ⟨4, (id0 : Int), 0, 0, [], ⟨(t00 : Int), (t10 : Int), 0, 0, 0, 0⟩⟩) 6 (.int .i64 (t10 : Int)) rfl)
 go_wp2_with fail
 generalize (wh11.setCell ⟨j + 1, 6, none⟩ (.int .i64 (t10 : Int))) = wg12 at *
 go_at_call 36; (with_reducible refine (lx_num HX11.out.rd HX11.out.lx).mono ?_); rintro e wh12 ⟨rfl, hr, hf⟩
 have HN12 := Lh (HX11.out.read hr hf)
 clear hr hf hcb hfb HX11
 generalize hnn : numP xs M40 sq1 = y at *
 have HE12 := Lh hnn
 clear hnn
 obtain ⟨t20, sq2⟩ := y
 dsimp only at HN12 HE12 ⊢
 have hcb := HN12.out.blk.cell
 have hfb := HN12.out.blk.frozen
 have HX12 := Lh (HN12.out.put (cs1 := rsC (.slice none 0 0) ⟨4, (id0 : Int), 0, 0, [], ⟨(t00 : Int), (t10 : Int), (t20 : Int), 0, 0, 0⟩⟩) 7 (.int .i64 (t20 : Int)) rfl)
 go_wp2_with fail
 generalize (wh12.setCell ⟨j + 1, 7, none⟩ (.int .i64 (t20 : Int))) = wg13 at *
 go_at_call 36; (with_reducible refine (lx_num HX12.out.rd HX12.out.lx).mono ?_); rintro e wh13 ⟨rfl, hr, hf⟩
 have HN13 := Lh (HX12.out.read hr hf)
 clear hr hf hcb hfb HX12
 generalize hnn : numP xs M40 sq2 = y at *
 have HE13 := Lh hnn
 clear hnn
 obtain ⟨t30, sq3⟩ := y
 dsimp only at HN13 HE13 ⊢
 have hcb := HN13.out.blk.cell
 have hfb := HN13.out.blk.frozen
 have HX13 := Lh (HN13.out.put (cs1 := rsC (.slice none 0 0) ⟨4, (id0 : Int), 0, 0, [], ⟨(t00 : Int), (t10 : Int), (t20 : Int), (t30 : Int), 0, 0⟩⟩) 8 (.int .i64 (t30 : Int)) rfl)
 go_wp2_with fail
 generalize (wh13.setCell ⟨j + 1, 8, none⟩ (.int .i64 (t30 : Int))) = wg14 at *
 go_at_call 36; (with_reducible refine (lx_num HX13.out.rd HX13.out.lx).mono ?_); rintro e wh14 ⟨rfl, hr, hf⟩
 have HN14 := Lh (HX13.out.read hr hf)
 clear hr hf hcb hfb HX13
 generalize hnn : numP xs M40 sq3 = y at *
 have HE14 := Lh hnn
 clear hnn
 obtain ⟨t40, sq4⟩ := y
 dsimp only at HN14 HE14 ⊢
 have hcb := HN14.out.blk.cell
 have hfb := HN14.out.blk.frozen
 have HX14 := Lh (HN14.out.put (cs1 := rsC (.slice none 0 0) ⟨4, (id0 : Int), 0, 0, [], ⟨(t00 : Int), (t10 : Int), (t20 : Int), (t30 : Int), (t40 : Int), 0⟩⟩) 9 (.int .i64 (t40 : Int)) rfl)
 go_wp2_with fail
 generalize (wh14.setCell ⟨j + 1, 9, none⟩ (.int .i64 (t40 : Int))) = wg15 at *
 go_at_call 36; (with_reducible refine (lx_num HX14.out.rd HX14.out.lx).mono ?_); rintro e wh15 ⟨rfl, hr, hf⟩
 have HN15 := Lh (HX14.out.read hr hf)
 clear hr hf hcb hfb HX14
 generalize hnn : numP xs M40 sq4 = y at *
 have HE15 := Lh hnn
 clear hnn
 obtain ⟨t50, sq5⟩ := y
 dsimp only at HN15 HE15 ⊢
 have hcb := HN15.out.blk.cell
 have hfb := HN15.out.blk.frozen
 have HX15 := Lh (HN15.out.put (cs1 := rsC (.slice none 0 0) ⟨4, (id0 : Int), 0, 0, [], ⟨(t00 : Int), (t10 : Int), (t20 : Int), (t30 : Int), (t40 : Int), (t50 : Int)⟩⟩) 10 (.int .i64 (t50 : Int)) rfl)
 have l00 : wh15.cell? ⟨j, 0, none⟩ = some (.pointer (some ⟨q, 0, none⟩)) := HN15.out.lx.cell 0
 have HRD := Lh (show readS xs = ((⟨4, (id0 : Int), 0, 0, [], ⟨(t00 : Int), (t10 : Int), (t20 : Int), (t30 : Int), (t40 : Int), (t50 : Int)⟩⟩ : Rs), sq5) by
  unfold readS bodyS
  rw [HKD.out]
  simp [HID.out, HE10.out, HE11.out, HE12.out, HE13.out, HE14.out, HE15.out, stD, n1P, n2P, n3P, n4P, n5P, n6P])
 go_wp2_with fail
 generalize (wh15.setCell ⟨j + 1, 10, none⟩ (.int .i64 (t50 : Int))) = wz at *
 clear hcb hfb l00
 obtain ⟨r0, hr0⟩ : ∃ r0 : Rs, r0 = ⟨4, (id0 : Int), 0, 0, [], ⟨(t00 : Int), (t10 : Int), (t20 : Int), (t30 : Int), (t40 : Int), (t50 : Int)⟩⟩ := ⟨_, rfl⟩
 obtain ⟨vz, hv0⟩ : ∃ vz : Value, vz = .slice none 0 0 := ⟨_, rfl⟩
 have HX7 := Lh (show DxIs W0 q j (j + 1) 39 A n c xs (rsC vz r0) (readS xs).2 84 7 vz r0.rows.length (rowCs r0.rows) wz by
  rw [hv0, hr0, HRD.out]
  exact HX15.out)
 have HRE := Lh (show (readS xs).2.fault = none → r0 = (readS xs).1 from fun _ => by rw [hr0, HRD.out])
 clear hr0 hv0 HX15 HRD
 have HDEC := Lh (show decRs xs = if (checkD (checkRs (readS xs).1) (endP xs (readS xs).2)).fault.isSome then (rs0, (checkD (checkRs (readS xs).1) (endP xs (readS xs).2)).fault) else ((readS xs).1, none) by
  unfold decRs
  rw [if_neg (by rw [HKD.out]; dsimp only; omega)])
 have HOK := Lh (readS_ok xs)
 generalize readS xs = y at *
 obtain ⟨r', s7⟩ := y
 dsimp only at HX7 HRE HDEC HOK
 go_at_call 39; (with_reducible refine (dc_end HX7.out.rd).mono ?_); rintro e w8 ⟨rfl, hr, hf⟩
 have HX8 := Lh (HX7.out.read hr hf)
 clear hr hf HX7
 have l0 : w8.cell? ⟨j, 0, none⟩ = some (.pointer (some ⟨q, 0, none⟩)) := HX8.out.lx.cell 0
 have p2 : w8.cell? ⟨q, 2, none⟩ = some (.int .i64 (endP xs s7).err) := HX8.out.rd.blk.cell 2
 rcases hfl : (endP xs s7).fault with _ | ⟨code, pl⟩
 ·have hre := HRE.out (endP_none2 hfl)
  subst hre
  rw [(DocIs.err_no hfl).1] at p2
  obtain ⟨As, cz, hvz⟩ := own_form3 HX8.out.own
  subst hvz
  have HCR := Lh (RowsOwn.rd_ (show RowsOwn w8 W0.heap.size (.slice As r0.rows.length cz) r0.rows from HX8.out.own))
  have hcb := HX8.out.blk.cell
  go_wp2_with fail
  go_at_call 42; (with_reducible refine (rcheck_rs As _ cz r0 w8 rfl HCR.out.1 HCR.out.2 HOK.out).mono ?_); rintro e w9 ⟨rfl, hb9⟩
  have HX9 := Lh (HX8.out.kept hb9)
  have HR9 := Lh (HR2.out.tur HX9.out.tur (by omega))
  have HB9 := Lh (HB2.out.trans (HX9.out.tur.below HB2.out.size (fun k e => by omega)))
  clear hb9 hcb l0 p2 HX8
  have hfR := HR9.out.frozen
  have hcR := HR9.out.cell
  by_cases hck : checkRs r0 = 0
  ·have HD := Lh (show decRs xs = (r0, none) by
    rw [HDEC.out]
    unfold checkD
    rw [hfl, hck]
    simp [RS.fail, hfl])
   rw [hck]
   have hcb := HX9.out.blk.cell
   obtain ⟨wC, HW, HS⟩ := set11e HR9.out (.int .i64 r0.kind) (.int .i64 r0.id) (.int .i64 r0.err) (.int .i64 r0.epoch) (.slice As r0.rows.length cz) (.int .i64 r0.st.taken) (.int .i64 r0.st.late) (.int .i64 r0.st.over) (.int .i64 r0.st.full) (.int .i64 r0.st.cells) (.int .i64 r0.st.now)
   go_wp2
   rw [HW.out]
   have hc7 := HS.out.1.cell
   exact bodyPost_ret (v := .tuple #[.agg (rsC (.slice As r0.rows.length cz) r0), .int .i64 0, .int .i64 0]) (by simp [results, Tryz.results12, go_sem, hc7]) rfl
    ⟨HB9.out.trans (HS.out.2.below HB9.out.size (fun k e => by omega)), by rw [HD.out]; exact ⟨_, rfl, own_low (show RowsOwn w9 W0.heap.size (.slice As r0.rows.length cz) r0.rows from HX9.out.own) HS.out.2 (fun k e => by subst e; have := HX9.out.jl; omega) (by have := HX9.out.jl; omega)⟩⟩
  ·have HD := Lh (show decRs xs = (rs0, some (checkRs r0, 0)) by
    rw [HDEC.out]
    unfold checkD
    rw [hfl]
    simp [RS.fail, hfl, hck])
   have hz : (checkRs r0 != 0) = true := by simpa using hck
   obtain ⟨wC, HW, HS⟩ := set11e HR9.out (.int .i64 0) (.int .i64 0) (.int .i64 0) (.int .i64 0) (.slice none 0 0) (.int .i64 0) (.int .i64 0) (.int .i64 0) (.int .i64 0) (.int .i64 0) (.int .i64 0)
   go_wp2
   rw [HW.out]
   have hc7 := HS.out.1.cell
   exact bodyPost_ret (v := .tuple #[.agg (rsC nilS rs0), .int .i64 (checkRs r0), .int .i64 0]) (by simp [results, Tryz.results12, go_sem, hc7, rs0, st0]) rfl
    ⟨HB9.out.trans (HS.out.2.below HB9.out.size (fun k e => by omega)), by rw [HD.out]⟩
 ·have HD := Lh (show decRs xs = (rs0, some (code, pl)) by rw [HDEC.out]; unfold checkD; simp [hfl])
  have hne := HX8.out.rd.ok code pl hfl
  have hcode : (endP xs s7).err = code := by unfold RS.err; rw [hfl]
  have hpl : (endP xs s7).on = pl := by unfold RS.on; rw [hfl]
  rw [hcode] at p2
  have HQB := Lh (show Blk w8 q 103 (DcC (.slice A n c) ((endP xs s7).pos : Int) code pl) by have h := HX8.out.rd.blk; rw [hcode, hpl] at h; exact h)
  have HLB := Lh HX8.out.lx
  have HR8 := Lh (HR2.out.tur HX8.out.tur (by omega))
  have HB8 := Lh (HB2.out.trans (HX8.out.tur.below HB2.out.size (fun k e => by omega)))
  have hz : (code != 0) = true := by unfold bne; rw [hne]; rfl
  clear hcode hpl hne hfl HX8 HDEC HRE
  go_wp2_with fail
  clear l0 p2
  (refine wp_region_held_drew (S := fun w9 => LxB w9 j q ∧ Blk w9 q 103 (DcC (.slice A n c) ((endP xs s7).pos : Int) code pl)) (by kernel_rfl) ⟨HLB.out.drew, HQB.out.drew⟩ (fun hHeld => ?_))
  have HLd := Lh HLB.out.drew
  have HQd := Lh HQB.out.drew
  have HRd := Lh HR8.out.drew
  have HBd := Lh (HB8.out.trans (Below.refl _ _).drew)
  have hsz := HB8.out.size
  clear HLB HQB HR8 HB8
  generalize w8.drew = wd at *
  (refine tq 0 119 ?_)
  (try simp only [Act.put, z1, z2, z3])
  (refine tq 1 120 ?_)
  (try simp only [Act.put, z1, z2, z3])
  (refine tq 2 121 ?_)
  (try simp only [Act.put, z1, z2, z3])
  (refine tq 3 122 ?_)
  (try simp only [Act.put, z1, z2, z3])
  (refine tr (v := ?v302) 4 123 ?h302 ?_)
  case h302 => (intro w9 hSw; have hc9 := Blk.cell hSw.1; clear hSw; first | (go_simp; done) | (go_simp; with_reducible rfl))
  (try simp only [Act.put, z1, z2, z3])
  (refine tq 5 124 ?_)
  (try simp only [Act.put, z1, z2, z3])
  (refine tq 6 125 ?_)
  (try simp only [Act.put, z1, z2, z3])
  (refine tr (v := ?v305) 7 126 ?h305 ?_)
  case h305 => (intro w9 hSw; have hc9 := Blk.cell hSw.2; clear hSw; first | (go_simp; done) | (go_simp; with_reducible rfl))
  (try simp only [Act.put, z1, z2, z3])
  (refine tq 8 127 ?_)
  (try simp only [Act.put, z1, z2, z3])
  (refine tq 9 128 ?_)
  (try simp only [Act.put, z1, z2, z3])
  (refine tq 10 129 ?_)
  (try simp only [Act.put, z1, z2, z3])
  (refine tr (v := ?v309) 11 130 ?h309 ?_)
  case h309 => (intro w9 hSw; have hc9 := Blk.cell hSw.1; clear hSw; first | (go_simp; done) | (go_simp; with_reducible rfl))
  (try simp only [Act.put, z1, z2, z3])
  (refine tq 12 131 ?_)
  (try simp only [Act.put, z1, z2, z3])
  (refine tq 13 132 ?_)
  (try simp only [Act.put, z1, z2, z3])
  (refine tr (v := ?v312) 14 133 ?h312 ?_)
  case h312 => (intro w9 hSw; have hc9 := Blk.cell hSw.2; clear hSw; first | (go_simp; done) | (go_simp; with_reducible rfl))
  (try simp only [Act.put, z1, z2, z3])
  have hfR := HRd.out.frozen
  have hcR := HRd.out.cell
  obtain ⟨wC, HW, HS⟩ := set11e HRd.out (.int .i64 0) (.int .i64 0) (.int .i64 0) (.int .i64 0) (.slice none 0 0) (.int .i64 0) (.int .i64 0) (.int .i64 0) (.int .i64 0) (.int .i64 0) (.int .i64 0)
  (refine wpAnyH_ready (rs := [15]) (by kernel_rfl) (by simp) ?_)
  (refine AllReadyH.cons (o := _) rfl (fun K hK => ?_) AllReadyH.nil)
  go_simp
  rw [HW.out]
  (refine hK.out _ _ ⟨HLd.out.tur HS.out.2 (by omega), HQd.out.tur HS.out.2 (by omega)⟩ (fun hHeld => ?_))
  clear hK K
  (refine tq 16 3 ?_)
  (try simp only [Act.put, z1, z2, z3])
  (refine tq 17 4 ?_)
  (try simp only [Act.put, z1, z2, z3])
  (refine wpAnyH_done (by kernel_rfl) ?_ _)
  have hc7 := HS.out.1.cell
  go_wp2
  exact bodyPost_ret (v := .tuple #[.agg (rsC nilS rs0), .int .i64 code, .int .i64 pl]) (by simp [results, Tryz.results12, go_sem, hc7, rs0, st0]) rfl
   ⟨HBd.out.trans (HS.out.2.below HBd.out.size (fun k e => by omega)), by rw [HD.out]⟩
theorem doc_rs_rows (A : Option Addr) (n c : Nat) (xs : List Int) (hk : (kindD xs).1 = 1) (W : World) (hl : xs.length = n) (h : CellsAt W A (bvs xs)) (hw : ∀ x ∈ xs, (Lit.int .u8 x).wf = true) (hn : n ≤ 140737488355328) (hc : n ≤ c) :
  Calls Tryz.prog 12 #[.slice A n c] W (DocS W (decRs xs)) := by
 have HR0 := Lh (Blk.new W 39 #[.int .i64 0, .int .i64 0, .int .i64 0, .int .i64 0, .slice none 0 0, .int .i64 0, .int .i64 0, .int .i64 0, .int .i64 0, .int .i64 0, .int .i64 0])
 have bl0 := (Below.refl W.heap.size W).alloc (Nat.le_refl _) (.cells #[.int .i64 0, .int .i64 0, .int .i64 0, .int .i64 0, .slice none 0 0, .int .i64 0, .int .i64 0, .int .i64 0, .int .i64 0, .int .i64 0, .int .i64 0] 39)
 have hs1 : (W.alloc (.cells #[.int .i64 0, .int .i64 0, .int .i64 0, .int .i64 0, .slice none 0 0, .int .i64 0, .int .i64 0, .int .i64 0, .int .i64 0, .int .i64 0, .int .i64 0] 39)).heap.size = W.heap.size + 1 := by simp
 have CR := Lh (dc_read A n c xs (W.alloc (.cells #[.int .i64 0, .int .i64 0, .int .i64 0, .int .i64 0, .slice none 0 0, .int .i64 0, .int .i64 0, .int .i64 0, .int .i64 0, .int .i64 0, .int .i64 0] 39)) hl (h.below bl0) hw hn hc)
 have HKN := Lh hk
 have HAl := Lh (show xs ≠ [] → ∀ ad, A = some ad → ad.block < W.heap.size from fun h0 ad e => by
  subst e
  obtain ⟨ad', e, h1, _⟩ := h 0 (by rw [bvs_len]; exact List.length_pos_iff.2 h0)
  cases e
  exact h1)
 have HBl := Lh bl0
 clear h hw hn hk hc bl0
 go_enter Tryz.func12, Tryz.ntmps12
 go_wp2_with fail
 go_at_call 34; (with_reducible refine CR.out.mono ?_); rintro e w1 ⟨rfl, hr, hb⟩
 have HR1 := Lh (HR0.out.kept hb)
 have HB1 := Lh (HBl.out.trans (hb.mono (by simp)))
 have hw1 : W.heap.size + 1 ≤ w1.heap.size := hs1 ▸ hb.size
 rw [hs1] at hr ⊢
 have HX := Lh (DxIs.start hr 39 #[.int .i64 0, .int .i64 0, .int .i64 0, .int .i64 0, .slice none 0 0, .int .i64 0, .int .i64 0, .int .i64 0, .int .i64 0, .int .i64 0, .int .i64 0] 84 7 (fun h0 ad e => by have := HAl.out h0 ad e; omega))
 have HR2 := Lh ((HR1.out.alloc (.cells #[.pointer (some ⟨W.heap.size + 1, 0, none⟩)] 98)).alloc (.cells #[.int .i64 0, .int .i64 0, .int .i64 0, .int .i64 0, .slice none 0 0, .int .i64 0, .int .i64 0, .int .i64 0, .int .i64 0, .int .i64 0, .int .i64 0] 39))
 have HB2 := Lh ((HB1.out.alloc (by omega) (.cells #[.pointer (some ⟨W.heap.size + 1, 0, none⟩)] 98)).alloc (by simp; omega) (.cells #[.int .i64 0, .int .i64 0, .int .i64 0, .int .i64 0, .slice none 0 0, .int .i64 0, .int .i64 0, .int .i64 0, .int .i64 0, .int .i64 0, .int .i64 0] 39))
 have hs2 : (w1.alloc (.cells #[.pointer (some ⟨W.heap.size + 1, 0, none⟩)] 98)).heap.size = w1.heap.size + 1 := by simp
 clear hr hb HR0 CR HAl HBl HB1 HR1 hs1
 go_wp2_with fail
 generalize hW0 : (w1.alloc (.cells #[.pointer (some ⟨W.heap.size + 1, 0, none⟩)] 98)).alloc (.cells #[.int .i64 0, .int .i64 0, .int .i64 0, .int .i64 0, .slice none 0 0, .int .i64 0, .int .i64 0, .int .i64 0, .int .i64 0, .int .i64 0, .int .i64 0] 39) = W0 at *
 have hRW : W.heap.size < w1.heap.size := by omega
 have hqW : W.heap.size < W.heap.size + 1 := by omega
 clear hW0 hs2
 generalize hq : W.heap.size + 1 = q at *
 generalize hj : w1.heap.size = j at *
 clear hj hq
 go_at_call 35; (with_reducible refine (show Calls Tryz.prog 35 #[.pointer (some ⟨j, 0, none⟩), .int .i64 5] W0 _ from lx_head HX.out.rd HX.out.lx HX.out.jq 5).mono ?_); rintro e w3 ⟨rfl, hr, hf⟩
 have HX3 := Lh (HX.out.read hr hf)
 have HKD := Lh (show kindD xs = numP xs M40 ⟨0, none⟩ from rfl)
 clear hr hf HX
 have HHD := Lh (show headP xs (5 : Int) ⟨0, none⟩ = (numP xs M40 ⟨0, none⟩).2 by
  unfold headP
  rw [if_neg]
  rintro ⟨_, h⟩
  have hk := HKN.out
  rw [HKD.out] at hk
  omega)
 rw [show ((5 : Nat) : Int) = (5 : Int) from rfl] at HX3
 rw [HHD.out] at HX3
 simp only [show ((5 : Nat) : Int) = (5 : Int) from rfl, HHD.out]
 rw [HKD.out] at HKN
 clear HHD
 generalize hyd : numP xs M40 ⟨0, none⟩ = y at *
 clear hyd
 obtain ⟨k0, s1⟩ := y
 dsimp only at HX3 HKN HKD ⊢
 generalize hid : numP xs M40 s1 = y at *
 have HID := Lh hid
 clear hid
 obtain ⟨id0, s2⟩ := y
 dsimp only at HX3 HID ⊢
 have hk1 : k0 = 1 := HKN.out
 subst hk1
 simp only [show ((1 : Nat) : Int) = (1 : Int) from rfl]
 have hcb := HX3.out.blk.cell
 have hfb := HX3.out.blk.frozen
 have HX4 := Lh (show DxIs W0 q j (j + 1) 39 A n c xs (rsC (.slice none 0 0) ⟨1, (id0 : Int), 0, 0, [], st0⟩) s2 84 7 (.slice none 0 0) 0 [] ((w3.setCell ⟨j + 1, 0, none⟩ (.int .i64 1)).setCell ⟨j + 1, 1, none⟩ (.int .i64 (id0 : Int))) from (HX3.out.put (cs1 := rsC (.slice none 0 0) ⟨1, 0, 0, 0, [], st0⟩) 0 (.int .i64 1) rfl).put 1 (.int .i64 (id0 : Int)) rfl)
 have l00 : w3.cell? ⟨j, 0, none⟩ = some (.pointer (some ⟨q, 0, none⟩)) := HX3.out.lx.cell 0
 clear HX3
 clear l00
 go_wp2_with fail
 generalize ((w3.setCell ⟨j + 1, 0, none⟩ (.int .i64 1)).setCell ⟨j + 1, 1, none⟩ (.int .i64 (id0 : Int))) = wg6 at *
 go_at_call 37; (with_reducible refine (show Calls Tryz.prog 37 #[.pointer (some ⟨j, 0, none⟩), .int .i64 256] wg6 _ from lx_many HX4.out.rd HX4.out.lx HX4.out.jq 256 (by decide)).mono ?_); rintro e wh6 ⟨rfl, hr, hf⟩
 have HN6 := Lh (HX4.out.read hr hf)
 have HCL := Lh (countP_le xs 256 s2)
 clear hr hf hcb hfb HX4
 simp only [show ((256 : Nat) : Int) = (256 : Int) from rfl] at HN6 HCL ⊢
 generalize hnn : countP xs 256 s2 = y at *
 have HE6 := Lh hnn
 clear hnn
 obtain ⟨cnt, s4⟩ := y
 dsimp only at HN6 HE6 HCL ⊢
 have HRD := Lh (show readS xs = ((⟨1, (id0 : Int), 0, 0, (iterG rowD xs cnt ([], s4)).1, st0⟩ : Rs), (iterG rowD xs cnt ([], s4)).2) by
  unfold readS bodyS
  rw [HKD.out]
  simp [HID.out, HE6.out])
 go_wp2_with fail
 go_loopw [8] (fun t8 wz => ∃ k : Nat, t8 = .int .i64 (k : Int) ∧ k ≤ cnt ∧ Hid (∃ vz, DxIs W0 q j (j + 1) 39 A n c xs (rsC vz ⟨1, (id0 : Int), 0, 0, [], st0⟩) (drows xs k ([], s4)).2 84 7 vz (drows xs k ([], s4)).1.length (rowCs (drows xs k ([], s4)).1) wz)) (fun t8 _ => cnt - (intOf t8).toNat)
 case atStart => exact ⟨0, rfl, Nat.zero_le _, Lh ⟨_, HN6.out⟩⟩
 case round =>
  obtain ⟨k, rfl, hk, HP0⟩ := hrel
  obtain ⟨vz, hP⟩ := HP0.out
  have HP := Lh hP
  clear HP0 hP
  rename World => wz
  have LK := Lh (drows_len xs ([], s4) k)
  have HSTEP := Lh (show drows xs (k + 1) ([], s4) = ((drows xs k ([], s4)).1 ++ [(rowD xs (drows xs k ([], s4)).2).1], (rowD xs (drows xs k ([], s4)).2).2) from rfl)
  have HSAME := Lh (drows_same xs ([], s4) k)
  by_cases hkn : k < cnt
  ·generalize drows xs k ([], s4) = st at *
   obtain ⟨l, sz⟩ := st
   dsimp only at HP LK HSTEP
   clear HSAME HRD HKD
   have h256 : k ≤ 256 := by have := HCL.out; omega
   have HROW := Lh (show rowD xs sz = (⟨(cellP xs sz).1, (intP xs (cellP xs sz).2).1, (intP xs (intP xs (cellP xs sz).2).2).1, (intP xs (intP xs (intP xs (cellP xs sz).2).2).2).1, (intP xs (intP xs (intP xs (intP xs (cellP xs sz).2).2).2).2).1⟩, (intP xs (intP xs (intP xs (intP xs (cellP xs sz).2).2).2).2).2) from rfl)
   have hxq : W0.heap.size ≤ wz.heap.size := HP.out.tur.size
   go_wp2_with fail
   go_at_call 38; (with_reducible refine (lx_cell HP.out.rd HP.out.lx HP.out.jq).mono ?_); rintro e wa ⟨rfl, hr, hf⟩
   have HA := Lh (HP.out.read hr hf)
   have hxw : W0.heap.size ≤ wa.heap.size := Nat.le_trans hxq hf.size
   clear hr hf HP
   generalize cellP xs sz = y at *
   obtain ⟨x, sa1⟩ := y
   dsimp only at HA HROW ⊢
   have HV := Lh (show ∀ k, vz.ownBlock = some k → k ≠ wa.heap.size from fun k e => by have := (HA.out.own.lt k e).2; omega)
   have HB1 := Lh (HA.out.alloc (.cells #[.int .i64 x.view, .string x.key, .int .i64 x.start, .int .i64 0, .int .i64 0, .int .i64 0, .int .i64 0] 84))
   have HN1 := Lh (Blk.new wa 84 #[.int .i64 x.view, .string x.key, .int .i64 x.start, .int .i64 0, .int .i64 0, .int .i64 0, .int .i64 0])
   have l0 : (wa.alloc (.cells #[.int .i64 x.view, .string x.key, .int .i64 x.start, .int .i64 0, .int .i64 0, .int .i64 0, .int .i64 0] 84)).cell? ⟨j, 0, none⟩ = some (.pointer (some ⟨q, 0, none⟩)) := HB1.out.lx.cell 0
   have hjx : j ≠ wa.heap.size := by have := HA.out.jl; omega
   have hqx : wa.heap.size ≠ q := by have := HA.out.ql; omega
   clear HA
   go_wp2_with fail
   generalize wa.alloc (.cells #[.int .i64 x.view, .string x.key, .int .i64 x.start, .int .i64 0, .int .i64 0, .int .i64 0, .int .i64 0] 84) = wb1 at *
   generalize wa.heap.size = xb at *
   go_at_call 41; (with_reducible refine (dc_int HB1.out.rd).mono ?_); rintro e wc1 ⟨rfl, hr, hf⟩
   have HC1 := Lh (HB1.out.read hr hf)
   have HM1 := Lh (HN1.out.tur hf hqx)
   clear hr hf HB1 HN1 l0
   generalize intP xs sa1 = y at *
   obtain ⟨y1, sa2⟩ := y
   dsimp only at HC1 HROW ⊢
   have hcx := HM1.out.cell
   have hfx := HM1.out.frozen
   have l0 : wc1.cell? ⟨j, 0, none⟩ = some (.pointer (some ⟨q, 0, none⟩)) := HC1.out.lx.cell 0
   have hcb := HC1.out.blk.cell
   have HB2 := Lh (HC1.out.side (x := xb) ((Tur.refl (· = xb) wc1).setCell (p := ⟨xb, 3, none⟩) (.inl rfl) (.int .i64 y1)) hxw HV.out)
   have HN2 := Lh (show Blk (wc1.setCell ⟨xb, 3, none⟩ (.int .i64 y1)) xb 84 #[.int .i64 x.view, .string x.key, .int .i64 x.start, .int .i64 y1, .int .i64 0, .int .i64 0, .int .i64 0] from HM1.out.set_ 3 (.int .i64 y1))
   go_wp2_with fail
   generalize wc1.setCell ⟨xb, 3, none⟩ (.int .i64 y1) = wb2 at *
   clear hcx hfx hcb HC1 HM1 l0
   have l0 : wb2.cell? ⟨j, 0, none⟩ = some (.pointer (some ⟨q, 0, none⟩)) := HB2.out.lx.cell 0
   go_at_call 41; (with_reducible refine (dc_int HB2.out.rd).mono ?_); rintro e wc2 ⟨rfl, hr, hf⟩
   have HC2 := Lh (HB2.out.read hr hf)
   have HM2 := Lh (HN2.out.tur hf hqx)
   clear hr hf HB2 HN2 l0
   generalize intP xs sa2 = y at *
   obtain ⟨y2, sa3⟩ := y
   dsimp only at HC2 HROW ⊢
   have hcx := HM2.out.cell
   have hfx := HM2.out.frozen
   have l0 : wc2.cell? ⟨j, 0, none⟩ = some (.pointer (some ⟨q, 0, none⟩)) := HC2.out.lx.cell 0
   have hcb := HC2.out.blk.cell
   have HB3 := Lh (HC2.out.side (x := xb) ((Tur.refl (· = xb) wc2).setCell (p := ⟨xb, 4, none⟩) (.inl rfl) (.int .i64 y2)) hxw HV.out)
   have HN3 := Lh (show Blk (wc2.setCell ⟨xb, 4, none⟩ (.int .i64 y2)) xb 84 #[.int .i64 x.view, .string x.key, .int .i64 x.start, .int .i64 y1, .int .i64 y2, .int .i64 0, .int .i64 0] from HM2.out.set_ 4 (.int .i64 y2))
   go_wp2_with fail
   generalize wc2.setCell ⟨xb, 4, none⟩ (.int .i64 y2) = wb3 at *
   clear hcx hfx hcb HC2 HM2 l0
   have l0 : wb3.cell? ⟨j, 0, none⟩ = some (.pointer (some ⟨q, 0, none⟩)) := HB3.out.lx.cell 0
   go_at_call 41; (with_reducible refine (dc_int HB3.out.rd).mono ?_); rintro e wc3 ⟨rfl, hr, hf⟩
   have HC3 := Lh (HB3.out.read hr hf)
   have HM3 := Lh (HN3.out.tur hf hqx)
   clear hr hf HB3 HN3 l0
   generalize intP xs sa3 = y at *
   obtain ⟨y3, sa4⟩ := y
   dsimp only at HC3 HROW ⊢
   have hcx := HM3.out.cell
   have hfx := HM3.out.frozen
   have l0 : wc3.cell? ⟨j, 0, none⟩ = some (.pointer (some ⟨q, 0, none⟩)) := HC3.out.lx.cell 0
   have hcb := HC3.out.blk.cell
   have HB4 := Lh (HC3.out.side (x := xb) ((Tur.refl (· = xb) wc3).setCell (p := ⟨xb, 5, none⟩) (.inl rfl) (.int .i64 y3)) hxw HV.out)
   have HN4 := Lh (show Blk (wc3.setCell ⟨xb, 5, none⟩ (.int .i64 y3)) xb 84 #[.int .i64 x.view, .string x.key, .int .i64 x.start, .int .i64 y1, .int .i64 y2, .int .i64 y3, .int .i64 0] from HM3.out.set_ 5 (.int .i64 y3))
   go_wp2_with fail
   generalize wc3.setCell ⟨xb, 5, none⟩ (.int .i64 y3) = wb4 at *
   clear hcx hfx hcb HC3 HM3 l0
   have l0 : wb4.cell? ⟨j, 0, none⟩ = some (.pointer (some ⟨q, 0, none⟩)) := HB4.out.lx.cell 0
   go_at_call 41; (with_reducible refine (dc_int HB4.out.rd).mono ?_); rintro e wc4 ⟨rfl, hr, hf⟩
   have HC4 := Lh (HB4.out.read hr hf)
   have HM4 := Lh (HN4.out.tur hf hqx)
   clear hr hf HB4 HN4 l0
   generalize intP xs sa4 = y at *
   obtain ⟨y4, sa5⟩ := y
   dsimp only at HC4 HROW ⊢
   have hcx := HM4.out.cell
   have hfx := HM4.out.frozen
   have l0 : wc4.cell? ⟨j, 0, none⟩ = some (.pointer (some ⟨q, 0, none⟩)) := HC4.out.lx.cell 0
   have hcb := HC4.out.blk.cell
   have HB5 := Lh (HC4.out.side (x := xb) ((Tur.refl (· = xb) wc4).setCell (p := ⟨xb, 6, none⟩) (.inl rfl) (.int .i64 y4)) hxw HV.out)
   have HN5 := Lh (show Blk (wc4.setCell ⟨xb, 6, none⟩ (.int .i64 y4)) xb 84 #[.int .i64 x.view, .string x.key, .int .i64 x.start, .int .i64 y1, .int .i64 y2, .int .i64 y3, .int .i64 y4] from HM4.out.set_ 6 (.int .i64 y4))
   obtain ⟨ic, zc, hic, hzc, hz1, hz2, hz3⟩ := info_row
   have H6 := Lh (HB5.out.alloc (.cells #[.int .i64 x.view, .string x.key, .int .i64 x.start, .int .i64 y1, .int .i64 y2, .int .i64 y3, .int .i64 y4] 84))
   have HN6 := Lh (Blk.new (wc4.setCell ⟨xb, 6, none⟩ (.int .i64 y4)) 84 #[.int .i64 x.view, .string x.key, .int .i64 x.start, .int .i64 y1, .int .i64 y2, .int .i64 y3, .int .i64 y4])
   have hs6 : (wc4.setCell ⟨xb, 6, none⟩ (.int .i64 y4)).heap.size = wc4.heap.size := by simp [World.setCell]
   rw [hs6] at HN6
   go_wp2_with (at_builtin; refine wpList_append_own_at _ rfl _ _ _ rfl W0.heap.size _ ic zc 7 64 Tryz.underlying35 hic hzc hz1 hz2 hz3 (by decide) vz l.length (rowCs l) rfl H6.out.own ⟨wc4.heap.size, 0, none⟩ 1 1 (RowV.cells ⟨x, y1, y2, y3, y4⟩) rfl rfl (rows_one_c (x := ⟨x, y1, y2, y3, y4⟩) HN6.out) (rows_one1 _) (by have h := LK.out; rw [List.length_nil] at h; unfold maxLen; omega) (by have h := LK.out; rw [List.length_nil] at h; omega) H6.out.tur.size ?_
                intro v7 w7 hown hg _ hv
                obtain ⟨A7, c7, rfl⟩ := own_form3 hown
                have H7 := Lh ((H6.out.grown hg hown).to (m1 := (l ++ [(⟨x, y1, y2, y3, y4⟩ : RowV)]).length) (ys1 := rowCs (l ++ [(⟨x, y1, y2, y3, y4⟩ : RowV)])) (by simp) (by simp [rowCs]))
                clear hown hg hv
                have hcb7 := H7.out.blk.cell
                have hfb7 := H7.out.blk.frozen)
   have H8 := Lh (H7.out.put (cs1 := rsC (.slice A7 (l.length + 1) c7) ⟨1, (id0 : Int), 0, 0, [], st0⟩) 4 (.slice A7 (l.length + 1) c7) rfl)
   go_roundw
   case rel => exact ⟨k + 1, by go_num, by omega, Lh ⟨_, by rw [HSTEP.out, HROW.out]; exact H8.out⟩⟩
   case measure => simp [intOf]; omega
  ·have hkc : k = cnt := by omega
   have HDC := Lh (show (drows xs k ([], s4)).2 = (readS xs).2 ∧ ((readS xs).2.fault = none → (⟨1, (id0 : Int), 0, 0, (drows xs k ([], s4)).1, st0⟩ : Rs) = (readS xs).1) by
    have h := HSAME.out
    rw [HRD.out]
    subst hkc
    refine ⟨h.1, fun h0 => ?_⟩
    rw [h.2 h0])
   generalize drows xs k ([], s4) = st at *
   obtain ⟨l, sz⟩ := st
   dsimp only at HP LK HDC
   clear HSAME HSTEP LK
   obtain ⟨r0, hr0⟩ : ∃ r0 : Rs, r0 = ⟨1, (id0 : Int), 0, 0, l, st0⟩ := ⟨_, rfl⟩
   have HX7 := Lh (show DxIs W0 q j (j + 1) 39 A n c xs (rsC vz r0) (readS xs).2 84 7 vz r0.rows.length (rowCs r0.rows) wz by
    rw [hr0, ← HDC.out.1]
    exact HP.out)
   have HRE := Lh (show (readS xs).2.fault = none → r0 = (readS xs).1 from fun h => by rw [hr0]; exact HDC.out.2 h)
   clear hr0 HP HDC
   have HDEC := Lh (show decRs xs = if (checkD (checkRs (readS xs).1) (endP xs (readS xs).2)).fault.isSome then (rs0, (checkD (checkRs (readS xs).1) (endP xs (readS xs).2)).fault) else ((readS xs).1, none) by
    unfold decRs
    rw [if_neg (by rw [HKD.out]; dsimp only; omega)])
   have HOK := Lh (readS_ok xs)
   generalize readS xs = y at *
   obtain ⟨r', s7⟩ := y
   dsimp only at HX7 HRE HDEC HOK
   have l0 : wz.cell? ⟨j, 0, none⟩ = some (.pointer (some ⟨q, 0, none⟩)) := HX7.out.lx.cell 0
   go_wp2_with fail
   go_at_call 39; (with_reducible refine (dc_end HX7.out.rd).mono ?_); rintro e w8 ⟨rfl, hr, hf⟩
   have HX8 := Lh (HX7.out.read hr hf)
   clear hr hf l0 HX7
   have l0 : w8.cell? ⟨j, 0, none⟩ = some (.pointer (some ⟨q, 0, none⟩)) := HX8.out.lx.cell 0
   have p2 : w8.cell? ⟨q, 2, none⟩ = some (.int .i64 (endP xs s7).err) := HX8.out.rd.blk.cell 2
   rcases hfl : (endP xs s7).fault with _ | ⟨code, pl⟩
   ·have hre := HRE.out (endP_none2 hfl)
    subst hre
    rw [(DocIs.err_no hfl).1] at p2
    obtain ⟨As, cz, hvz⟩ := own_form3 HX8.out.own
    subst hvz
    have HCR := Lh (RowsOwn.rd_ (show RowsOwn w8 W0.heap.size (.slice As r0.rows.length cz) r0.rows from HX8.out.own))
    have hcb := HX8.out.blk.cell
    go_wp2_with fail
    go_at_call 42; (with_reducible refine (rcheck_rs As _ cz r0 w8 rfl HCR.out.1 HCR.out.2 HOK.out).mono ?_); rintro e w9 ⟨rfl, hb9⟩
    have HX9 := Lh (HX8.out.kept hb9)
    have HR9 := Lh (HR2.out.tur HX9.out.tur (by omega))
    have HB9 := Lh (HB2.out.trans (HX9.out.tur.below HB2.out.size (fun k e => by omega)))
    clear hb9 hcb l0 p2 HX8
    have hfR := HR9.out.frozen
    have hcR := HR9.out.cell
    by_cases hck : checkRs r0 = 0
    ·have HD := Lh (show decRs xs = (r0, none) by
      rw [HDEC.out]
      unfold checkD
      rw [hfl, hck]
      simp [RS.fail, hfl])
     rw [hck]
     have hcb := HX9.out.blk.cell
     obtain ⟨wC, HW, HS⟩ := set11e HR9.out (.int .i64 r0.kind) (.int .i64 r0.id) (.int .i64 r0.err) (.int .i64 r0.epoch) (.slice As r0.rows.length cz) (.int .i64 r0.st.taken) (.int .i64 r0.st.late) (.int .i64 r0.st.over) (.int .i64 r0.st.full) (.int .i64 r0.st.cells) (.int .i64 r0.st.now)
     go_wp2
     rw [HW.out]
     have hc7 := HS.out.1.cell
     exact bodyPost_ret (v := .tuple #[.agg (rsC (.slice As r0.rows.length cz) r0), .int .i64 0, .int .i64 0]) (by simp [results, Tryz.results12, go_sem, hc7]) rfl
      ⟨HB9.out.trans (HS.out.2.below HB9.out.size (fun k e => by omega)), by rw [HD.out]; exact ⟨_, rfl, own_low (show RowsOwn w9 W0.heap.size (.slice As r0.rows.length cz) r0.rows from HX9.out.own) HS.out.2 (fun k e => by subst e; have := HX9.out.jl; omega) (by have := HX9.out.jl; omega)⟩⟩
    ·have HD := Lh (show decRs xs = (rs0, some (checkRs r0, 0)) by
      rw [HDEC.out]
      unfold checkD
      rw [hfl]
      simp [RS.fail, hfl, hck])
     have hz : (checkRs r0 != 0) = true := by simpa using hck
     obtain ⟨wC, HW, HS⟩ := set11e HR9.out (.int .i64 0) (.int .i64 0) (.int .i64 0) (.int .i64 0) (.slice none 0 0) (.int .i64 0) (.int .i64 0) (.int .i64 0) (.int .i64 0) (.int .i64 0) (.int .i64 0)
     go_wp2
     rw [HW.out]
     have hc7 := HS.out.1.cell
     exact bodyPost_ret (v := .tuple #[.agg (rsC nilS rs0), .int .i64 (checkRs r0), .int .i64 0]) (by simp [results, Tryz.results12, go_sem, hc7, rs0, st0]) rfl
      ⟨HB9.out.trans (HS.out.2.below HB9.out.size (fun k e => by omega)), by rw [HD.out]⟩
   ·have HD := Lh (show decRs xs = (rs0, some (code, pl)) by rw [HDEC.out]; unfold checkD; simp [hfl])
    have hne := HX8.out.rd.ok code pl hfl
    have hcode : (endP xs s7).err = code := by unfold RS.err; rw [hfl]
    have hpl : (endP xs s7).on = pl := by unfold RS.on; rw [hfl]
    rw [hcode] at p2
    have HQB := Lh (show Blk w8 q 103 (DcC (.slice A n c) ((endP xs s7).pos : Int) code pl) by have h := HX8.out.rd.blk; rw [hcode, hpl] at h; exact h)
    have HLB := Lh HX8.out.lx
    have HR8 := Lh (HR2.out.tur HX8.out.tur (by omega))
    have HB8 := Lh (HB2.out.trans (HX8.out.tur.below HB2.out.size (fun k e => by omega)))
    have hz : (code != 0) = true := by unfold bne; rw [hne]; rfl
    clear hcode hpl hne hfl HX8 HDEC HRE
    go_wp2_with fail
    clear l0 p2
    (refine wp_region_held_drew (S := fun w9 => LxB w9 j q ∧ Blk w9 q 103 (DcC (.slice A n c) ((endP xs s7).pos : Int) code pl)) (by kernel_rfl) ⟨HLB.out.drew, HQB.out.drew⟩ (fun hHeld => ?_))
    have HLd := Lh HLB.out.drew
    have HQd := Lh HQB.out.drew
    have HRd := Lh HR8.out.drew
    have HBd := Lh (HB8.out.trans (Below.refl _ _).drew)
    have hsz := HB8.out.size
    clear HLB HQB HR8 HB8
    generalize w8.drew = wd at *
    (refine tq 0 119 ?_)
    (try simp only [Act.put, z1, z2, z3])
    (refine tq 1 120 ?_)
    (try simp only [Act.put, z1, z2, z3])
    (refine tq 2 121 ?_)
    (try simp only [Act.put, z1, z2, z3])
    (refine tq 3 122 ?_)
    (try simp only [Act.put, z1, z2, z3])
    (refine tr (v := ?v319) 4 123 ?h319 ?_)
    case h319 => (intro w9 hSw; have hc9 := Blk.cell hSw.1; clear hSw; first | (go_simp; done) | (go_simp; with_reducible rfl))
    (try simp only [Act.put, z1, z2, z3])
    (refine tq 5 124 ?_)
    (try simp only [Act.put, z1, z2, z3])
    (refine tq 6 125 ?_)
    (try simp only [Act.put, z1, z2, z3])
    (refine tr (v := ?v322) 7 126 ?h322 ?_)
    case h322 => (intro w9 hSw; have hc9 := Blk.cell hSw.2; clear hSw; first | (go_simp; done) | (go_simp; with_reducible rfl))
    (try simp only [Act.put, z1, z2, z3])
    (refine tq 8 127 ?_)
    (try simp only [Act.put, z1, z2, z3])
    (refine tq 9 128 ?_)
    (try simp only [Act.put, z1, z2, z3])
    (refine tq 10 129 ?_)
    (try simp only [Act.put, z1, z2, z3])
    (refine tr (v := ?v326) 11 130 ?h326 ?_)
    case h326 => (intro w9 hSw; have hc9 := Blk.cell hSw.1; clear hSw; first | (go_simp; done) | (go_simp; with_reducible rfl))
    (try simp only [Act.put, z1, z2, z3])
    (refine tq 12 131 ?_)
    (try simp only [Act.put, z1, z2, z3])
    (refine tq 13 132 ?_)
    (try simp only [Act.put, z1, z2, z3])
    (refine tr (v := ?v329) 14 133 ?h329 ?_)
    case h329 => (intro w9 hSw; have hc9 := Blk.cell hSw.2; clear hSw; first | (go_simp; done) | (go_simp; with_reducible rfl))
    (try simp only [Act.put, z1, z2, z3])
    have hfR := HRd.out.frozen
    have hcR := HRd.out.cell
    obtain ⟨wC, HW, HS⟩ := set11e HRd.out (.int .i64 0) (.int .i64 0) (.int .i64 0) (.int .i64 0) (.slice none 0 0) (.int .i64 0) (.int .i64 0) (.int .i64 0) (.int .i64 0) (.int .i64 0) (.int .i64 0)
    (refine wpAnyH_ready (rs := [15]) (by kernel_rfl) (by simp) ?_)
    (refine AllReadyH.cons (o := _) rfl (fun K hK => ?_) AllReadyH.nil)
    go_simp
    rw [HW.out]
    (refine hK.out _ _ ⟨HLd.out.tur HS.out.2 (by omega), HQd.out.tur HS.out.2 (by omega)⟩ (fun hHeld => ?_))
    clear hK K
    (refine tq 16 3 ?_)
    (try simp only [Act.put, z1, z2, z3])
    (refine tq 17 4 ?_)
    (try simp only [Act.put, z1, z2, z3])
    (refine wpAnyH_done (by kernel_rfl) ?_ _)
    have hc7 := HS.out.1.cell
    go_wp2
    exact bodyPost_ret (v := .tuple #[.agg (rsC nilS rs0), .int .i64 code, .int .i64 pl]) (by simp [results, Tryz.results12, go_sem, hc7, rs0, st0]) rfl
     ⟨HBd.out.trans (HS.out.2.below HBd.out.size (fun k e => by omega)), by rw [HD.out]⟩
theorem doc_rs_none (A : Option Addr) (n c : Nat) (xs : List Int) (hk : (kindD xs).1 < 1 ∨ 5 < (kindD xs).1) (W : World) (hl : xs.length = n) (h : CellsAt W A (bvs xs)) (hw : ∀ x ∈ xs, (Lit.int .u8 x).wf = true) (hn : n ≤ 140737488355328) (hc : n ≤ c) :
  Calls Tryz.prog 12 #[.slice A n c] W (DocS W (decRs xs)) := by
 have HR0 := Lh (Blk.new W 39 #[.int .i64 0, .int .i64 0, .int .i64 0, .int .i64 0, .slice none 0 0, .int .i64 0, .int .i64 0, .int .i64 0, .int .i64 0, .int .i64 0, .int .i64 0])
 have bl0 := (Below.refl W.heap.size W).alloc (Nat.le_refl _) (.cells #[.int .i64 0, .int .i64 0, .int .i64 0, .int .i64 0, .slice none 0 0, .int .i64 0, .int .i64 0, .int .i64 0, .int .i64 0, .int .i64 0, .int .i64 0] 39)
 have hs1 : (W.alloc (.cells #[.int .i64 0, .int .i64 0, .int .i64 0, .int .i64 0, .slice none 0 0, .int .i64 0, .int .i64 0, .int .i64 0, .int .i64 0, .int .i64 0, .int .i64 0] 39)).heap.size = W.heap.size + 1 := by simp
 have CR := Lh (dc_read A n c xs (W.alloc (.cells #[.int .i64 0, .int .i64 0, .int .i64 0, .int .i64 0, .slice none 0 0, .int .i64 0, .int .i64 0, .int .i64 0, .int .i64 0, .int .i64 0, .int .i64 0] 39)) hl (h.below bl0) hw hn hc)
 have HKN := Lh hk
 have HAl := Lh (show xs ≠ [] → ∀ ad, A = some ad → ad.block < W.heap.size from fun h0 ad e => by
  subst e
  obtain ⟨ad', e, h1, _⟩ := h 0 (by rw [bvs_len]; exact List.length_pos_iff.2 h0)
  cases e
  exact h1)
 have HBl := Lh bl0
 clear h hw hn hk hc bl0
 go_enter Tryz.func12, Tryz.ntmps12
 go_wp2_with fail
 go_at_call 34; (with_reducible refine CR.out.mono ?_); rintro e w1 ⟨rfl, hr, hb⟩
 have HR1 := Lh (HR0.out.kept hb)
 have HB1 := Lh (HBl.out.trans (hb.mono (by simp)))
 have hw1 : W.heap.size + 1 ≤ w1.heap.size := hs1 ▸ hb.size
 rw [hs1] at hr ⊢
 have HX := Lh (DxIs.start hr 39 #[.int .i64 0, .int .i64 0, .int .i64 0, .int .i64 0, .slice none 0 0, .int .i64 0, .int .i64 0, .int .i64 0, .int .i64 0, .int .i64 0, .int .i64 0] 84 7 (fun h0 ad e => by have := HAl.out h0 ad e; omega))
 have HR2 := Lh ((HR1.out.alloc (.cells #[.pointer (some ⟨W.heap.size + 1, 0, none⟩)] 98)).alloc (.cells #[.int .i64 0, .int .i64 0, .int .i64 0, .int .i64 0, .slice none 0 0, .int .i64 0, .int .i64 0, .int .i64 0, .int .i64 0, .int .i64 0, .int .i64 0] 39))
 have HB2 := Lh ((HB1.out.alloc (by omega) (.cells #[.pointer (some ⟨W.heap.size + 1, 0, none⟩)] 98)).alloc (by simp; omega) (.cells #[.int .i64 0, .int .i64 0, .int .i64 0, .int .i64 0, .slice none 0 0, .int .i64 0, .int .i64 0, .int .i64 0, .int .i64 0, .int .i64 0, .int .i64 0] 39))
 have hs2 : (w1.alloc (.cells #[.pointer (some ⟨W.heap.size + 1, 0, none⟩)] 98)).heap.size = w1.heap.size + 1 := by simp
 clear hr hb HR0 CR HAl HBl HB1 HR1 hs1
 go_wp2_with fail
 generalize hW0 : (w1.alloc (.cells #[.pointer (some ⟨W.heap.size + 1, 0, none⟩)] 98)).alloc (.cells #[.int .i64 0, .int .i64 0, .int .i64 0, .int .i64 0, .slice none 0 0, .int .i64 0, .int .i64 0, .int .i64 0, .int .i64 0, .int .i64 0, .int .i64 0] 39) = W0 at *
 have hRW : W.heap.size < w1.heap.size := by omega
 have hqW : W.heap.size < W.heap.size + 1 := by omega
 clear hW0 hs2
 generalize hq : W.heap.size + 1 = q at *
 generalize hj : w1.heap.size = j at *
 clear hj hq
 go_at_call 35; (with_reducible refine (show Calls Tryz.prog 35 #[.pointer (some ⟨j, 0, none⟩), .int .i64 5] W0 _ from lx_head HX.out.rd HX.out.lx HX.out.jq 5).mono ?_); rintro e w3 ⟨rfl, hr, hf⟩
 have HX3 := Lh (HX.out.read hr hf)
 have HKD := Lh (show kindD xs = numP xs M40 ⟨0, none⟩ from rfl)
 clear hr hf HX
 have HHD := Lh (show headP xs (5 : Int) ⟨0, none⟩ = (kindD xs).2.fail 15 0 by
  unfold headP
  rw [HKD.out]
  have hk := HKN.out
  rw [HKD.out] at hk
  split
  ·rfl
  ·rename_i h
   rcases hf : (numP xs M40 ⟨0, none⟩).2.fault with _ | x
   ·exact absurd ⟨hf, by omega⟩ h
   ·rw [fail_same (by rw [hf]; rfl)])
 rw [show ((5 : Nat) : Int) = (5 : Int) from rfl] at HX3
 rw [HHD.out] at HX3
 simp only [show ((5 : Nat) : Int) = (5 : Int) from rfl, HHD.out]
 have HDEC0 := Lh (show decRs xs = (rs0, ((kindD xs).2.fail 15 0).fault) by unfold decRs; rw [if_pos HKN.out])
 have HSF := Lh (show ((kindD xs).2.fail 15 0).fault.isSome = true by
  rcases hf : ((kindD xs).2.fail 15 0).fault with _ | x
  ·exact absurd hf (RS.fail_some (by decide))
  ·rfl)
 have hst : numP xs M40 ((kindD xs).2.fail 15 0) = (0, (kindD xs).2.fail 15 0) := by
  have h2 := Stays.num xs _ HSF.out
  have h1 := numP_some (m := (numP xs M40 ((kindD xs).2.fail 15 0)).1) (s1 := (numP xs M40 ((kindD xs).2.fail 15 0)).2) rfl (by
   have h3 : (numP xs M40 ((kindD xs).2.fail 15 0)).2 = _ := h2
   rw [h3]
   exact HSF.out)
  exact Prod.ext h1 h2
 rw [hst] at HX3
 rw [hst]
 dsimp only at HX3 ⊢
 obtain ⟨kk, hkk⟩ : ∃ kk : Int, kk = ((numP xs M40 ⟨0, none⟩).1 : Int) := ⟨_, rfl⟩
 rw [← hkk]
 have hkb : kk < 1 ∨ (5 : Int) < kk := by have hk := HKN.out; rw [HKD.out] at hk; omega
 have d1 : (kk == 1) = false := by simp; omega
 have d2 : (kk == 2) = false := by simp; omega
 have d3 : (kk == 3) = false := by simp; omega
 have d4 : (kk == 4) = false := by simp; omega
 have d5 : (kk == 5) = false := by simp; omega
 have _d := d4
 generalize hs7 : (kindD xs).2.fail 15 0 = s7 at *
 have HST := Lh hst
 clear hkk hkb hst HHD HKD hs7 HKN
 rw [show (((0 : Nat) : Int)) = 0 from rfl]
 have hcb := HX3.out.blk.cell
 have hfb := HX3.out.blk.frozen
 have HX4 := Lh (show DxIs W0 q j (j + 1) 39 A n c xs (rsC (.slice none 0 0) ⟨kk, 0, 0, 0, [], st0⟩) s7 84 7 (.slice none 0 0) 0 [] ((w3.setCell ⟨j + 1, 0, none⟩ (.int .i64 kk)).setCell ⟨j + 1, 1, none⟩ (.int .i64 0)) from (HX3.out.put (cs1 := rsC (.slice none 0 0) ⟨kk, 0, 0, 0, [], st0⟩) 0 (.int .i64 kk) rfl).put 1 (.int .i64 0) rfl)
 have l00 : w3.cell? ⟨j, 0, none⟩ = some (.pointer (some ⟨q, 0, none⟩)) := HX3.out.lx.cell 0
 clear HX3
 go_wp2_with fail
 generalize ((w3.setCell ⟨j + 1, 0, none⟩ (.int .i64 kk)).setCell ⟨j + 1, 1, none⟩ (.int .i64 0)) = wz at *
 have HX7 := HX4
 have l0 := l00
 clear HX4 hcb hfb l00
 go_at_call 39; (with_reducible refine (dc_end HX7.out.rd).mono ?_); rintro e w8 ⟨rfl, hr, hf⟩
 have HX8 := Lh (HX7.out.read hr hf)
 clear hr hf l0 HX7
 have l0 : w8.cell? ⟨j, 0, none⟩ = some (.pointer (some ⟨q, 0, none⟩)) := HX8.out.lx.cell 0
 have p2 : w8.cell? ⟨q, 2, none⟩ = some (.int .i64 (endP xs s7).err) := HX8.out.rd.blk.cell 2
 rcases hfl : (endP xs s7).fault with _ | ⟨code, pl⟩
 ·exfalso
  have := endP_none2 hfl
  have h := HSF.out
  rw [this] at h
  cases h
 ·have HD := Lh (show decRs xs = (rs0, some (code, pl)) by
   have he := endP_stay (xs := xs) HSF.out
   rw [he] at hfl
   rw [HDEC0.out, hfl])
  have hne := HX8.out.rd.ok code pl hfl
  have hcode : (endP xs s7).err = code := by unfold RS.err; rw [hfl]
  have hpl : (endP xs s7).on = pl := by unfold RS.on; rw [hfl]
  rw [hcode] at p2
  have HQB := Lh (show Blk w8 q 103 (DcC (.slice A n c) ((endP xs s7).pos : Int) code pl) by have h := HX8.out.rd.blk; rw [hcode, hpl] at h; exact h)
  have HLB := Lh HX8.out.lx
  have HR8 := Lh (HR2.out.tur HX8.out.tur (by omega))
  have HB8 := Lh (HB2.out.trans (HX8.out.tur.below HB2.out.size (fun k e => by omega)))
  have hz : (code != 0) = true := by unfold bne; rw [hne]; rfl
  clear hcode hpl hne hfl HX8 HDEC0
  go_wp2_with fail
  clear l0 p2
  (refine wp_region_held_drew (S := fun w9 => LxB w9 j q ∧ Blk w9 q 103 (DcC (.slice A n c) ((endP xs s7).pos : Int) code pl)) (by kernel_rfl) ⟨HLB.out.drew, HQB.out.drew⟩ (fun hHeld => ?_))
  have HLd := Lh HLB.out.drew
  have HQd := Lh HQB.out.drew
  have HRd := Lh HR8.out.drew
  have HBd := Lh (HB8.out.trans (Below.refl _ _).drew)
  have hsz := HB8.out.size
  clear HLB HQB HR8 HB8
  generalize w8.drew = wd at *
  (refine tq 0 119 ?_)
  (try simp only [Act.put, z1, z2, z3])
  (refine tq 1 120 ?_)
  (try simp only [Act.put, z1, z2, z3])
  (refine tq 2 121 ?_)
  (try simp only [Act.put, z1, z2, z3])
  (refine tq 3 122 ?_)
  (try simp only [Act.put, z1, z2, z3])
  (refine tr (v := ?v336) 4 123 ?h336 ?_)
  case h336 => (intro w9 hSw; have hc9 := Blk.cell hSw.1; clear hSw; first | (go_simp; done) | (go_simp; with_reducible rfl))
  (try simp only [Act.put, z1, z2, z3])
  (refine tq 5 124 ?_)
  (try simp only [Act.put, z1, z2, z3])
  (refine tq 6 125 ?_)
  (try simp only [Act.put, z1, z2, z3])
  (refine tr (v := ?v339) 7 126 ?h339 ?_)
  case h339 => (intro w9 hSw; have hc9 := Blk.cell hSw.2; clear hSw; first | (go_simp; done) | (go_simp; with_reducible rfl))
  (try simp only [Act.put, z1, z2, z3])
  (refine tq 8 127 ?_)
  (try simp only [Act.put, z1, z2, z3])
  (refine tq 9 128 ?_)
  (try simp only [Act.put, z1, z2, z3])
  (refine tq 10 129 ?_)
  (try simp only [Act.put, z1, z2, z3])
  (refine tr (v := ?v343) 11 130 ?h343 ?_)
  case h343 => (intro w9 hSw; have hc9 := Blk.cell hSw.1; clear hSw; first | (go_simp; done) | (go_simp; with_reducible rfl))
  (try simp only [Act.put, z1, z2, z3])
  (refine tq 12 131 ?_)
  (try simp only [Act.put, z1, z2, z3])
  (refine tq 13 132 ?_)
  (try simp only [Act.put, z1, z2, z3])
  (refine tr (v := ?v346) 14 133 ?h346 ?_)
  case h346 => (intro w9 hSw; have hc9 := Blk.cell hSw.2; clear hSw; first | (go_simp; done) | (go_simp; with_reducible rfl))
  (try simp only [Act.put, z1, z2, z3])
  have hfR := HRd.out.frozen
  have hcR := HRd.out.cell
  obtain ⟨wC, HW, HS⟩ := set11e HRd.out (.int .i64 0) (.int .i64 0) (.int .i64 0) (.int .i64 0) (.slice none 0 0) (.int .i64 0) (.int .i64 0) (.int .i64 0) (.int .i64 0) (.int .i64 0) (.int .i64 0)
  (refine wpAnyH_ready (rs := [15]) (by kernel_rfl) (by simp) ?_)
  (refine AllReadyH.cons (o := _) rfl (fun K hK => ?_) AllReadyH.nil)
  go_simp
  rw [HW.out]
  (refine hK.out _ _ ⟨HLd.out.tur HS.out.2 (by omega), HQd.out.tur HS.out.2 (by omega)⟩ (fun hHeld => ?_))
  clear hK K
  (refine tq 16 3 ?_)
  (try simp only [Act.put, z1, z2, z3])
  (refine tq 17 4 ?_)
  (try simp only [Act.put, z1, z2, z3])
  (refine wpAnyH_done (by kernel_rfl) ?_ _)
  have hc7 := HS.out.1.cell
  go_wp2
  exact bodyPost_ret (v := .tuple #[.agg (rsC nilS rs0), .int .i64 code, .int .i64 pl]) (by simp [results, Tryz.results12, go_sem, hc7, rs0, st0]) rfl
   ⟨HBd.out.trans (HS.out.2.below HBd.out.size (fun k e => by omega)), by rw [HD.out]⟩
theorem doc_rs (A : Option Addr) (n c : Nat) (xs : List Int) (W : World) (hl : xs.length = n) (h : CellsAt W A (bvs xs)) (hw : ∀ x ∈ xs, (Lit.int .u8 x).wf = true) (hn : n ≤ 140737488355328) (hc : n ≤ c) :
  Calls Tryz.prog 12 #[.slice A n c] W (DocS W (decRs xs)) := by
 obtain k | k | k | k | k | k : ((kindD xs).1 < 1 ∨ 5 < (kindD xs).1) ∨ (kindD xs).1 = 1 ∨ (kindD xs).1 = 2 ∨ (kindD xs).1 = 3 ∨ (kindD xs).1 = 4 ∨ (kindD xs).1 = 5 := by omega
 ·exact doc_rs_none A n c xs k W hl h hw hn hc
 ·exact doc_rs_rows A n c xs k W hl h hw hn hc
 ·exact doc_rs_epoch A n c xs k W hl h hw hn hc
 ·exact doc_rs_done A n c xs k W hl h hw hn hc
 ·exact doc_rs_stats A n c xs k W hl h hw hn hc
 ·exact doc_rs_error A n c xs k W hl h hw hn hc
end Go.Proofs.YteffpfgdoganpaaGreatDoor
