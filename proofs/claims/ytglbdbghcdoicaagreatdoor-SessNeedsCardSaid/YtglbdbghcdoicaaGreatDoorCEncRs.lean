/- EncodeResponse: the walk. -/
import Derived.Test.YtglbdbghcdoicaaGreatDoorCEncRq
namespace Go.Proofs.YtglbdbghcdoicaaGreatDoor
open Go.RowKit
set_option maxRecDepth 100000
set_option maxHeartbeats 32000000

def rowE (r : RowV) : List Int := cellE r.cell ++ (sev (zz r.count) ++ (sev (zz r.sum) ++ (sev (zz r.min) ++ sev (zz r.max))))
def aggL (r : RowV) : List Int := [r.count, r.sum, r.min, r.max]
def rowsE (rs : List RowV) : List Int := rs.flatMap rowE
def numsE (l : List Int) : List Int := l.flatMap (fun n => sev n.toNat)
def intsE (l : List Int) : List Int := l.flatMap (fun n => sev (zz n))
theorem rowE_eq (r : RowV) : rowE r = cellE r.cell ++ intsE (aggL r) := by simp [rowE, intsE, aggL]
def bodyRs (r : Rs) : List Int :=
 if r.kind = 1 then sev r.rows.length ++ rowsE r.rows
 else if r.kind = 2 then sev r.epoch.toNat
 else if r.kind = 4 then numsE (stL r.st)
 else if r.kind = 5 then sev r.err.toNat
 else []
def encRs (r : Rs) : List Int := sev r.kind.toNat ++ (sev r.id.toNat ++ bodyRs r)
structure RowI (r : RowV) : Prop where
 count : I64C r.count
 sum : I64C r.sum
 min : I64C r.min
 max : I64C r.max
theorem numsE_len : ∀ (l : List Int), (∀ x ∈ l, x ≤ 9223372036854775807) → (numsE l).length ≤ 10 * l.length
 | [], _ => by simp [numsE]
 | c :: cs, h => by
  have h1 := sev_len10 c.toNat (by have := h c (List.mem_cons_self ..); omega)
  have h2 := numsE_len cs (fun x hx => h x (List.mem_cons_of_mem _ hx))
  simp only [numsE, List.flatMap_cons, List.length_append, List.length_cons] at h2 ⊢
  omega
theorem intsE_len : ∀ (l : List Int), (∀ x ∈ l, I64C x) → (intsE l).length ≤ 10 * l.length
 | [], _ => by simp [intsE]
 | c :: cs, h => by
  have h1 := sev_len10 (zz c) (zz_lt (h c (List.mem_cons_self ..)))
  have h2 := intsE_len cs (fun x hx => h x (List.mem_cons_of_mem _ hx))
  simp only [intsE, List.flatMap_cons, List.length_append, List.length_cons] at h2 ⊢
  omega
theorem aggL_I {r : RowV} (h : RowI r) : ∀ x ∈ aggL r, I64C x := by
 intro x hx
 simp only [aggL, List.mem_cons, List.not_mem_nil, or_false] at hx
 rcases hx with rfl | rfl | rfl | rfl
 ·exact h.count
 ·exact h.sum
 ·exact h.min
 ·exact h.max
theorem rowE_len {r : RowV} (h : CellS r.cell) (hi : RowI r) : (rowE r).length ≤ 102 := by
 have h1 := cellE_len h
 have h2 := intsE_len (aggL r) (aggL_I hi)
 rw [rowE_eq, List.length_append]
 have : (aggL r).length = 4 := rfl
 omega
theorem rowsE_len : ∀ (cs : List RowV), (∀ c ∈ cs, CellS c.cell ∧ RowI c) → (rowsE cs).length ≤ 102 * cs.length
 | [], _ => by simp [rowsE]
 | c :: cs, h => by
  have h1 := rowE_len (h c (List.mem_cons_self ..)).1 (h c (List.mem_cons_self ..)).2
  have h2 := rowsE_len cs (fun x hx => h x (List.mem_cons_of_mem _ hx))
  simp only [rowsE, List.flatMap_cons, List.length_append, List.length_cons] at h2 ⊢
  omega
theorem fm_take {α : Type} (f : α → List Int) (cs : List α) (k : Nat) (hk : k < cs.length) : (cs.take (k + 1)).flatMap f = (cs.take k).flatMap f ++ f cs[k] := by
 rw [List.take_succ_eq_append_getElem hk, List.flatMap_append]
 simp
theorem Oc.swap {W W' : World} {p base i : Nat} {v0 v : Value} {t : TypeId} {cs : Array Value} {bs : List Int} (h : Oc W p base v0 i t cs v bs W') (t' : TypeId) (cs' : Array Value) : Oc W p base v0 W'.heap.size t' cs' v bs (W'.alloc (.cells cs' t')) :=
 ⟨Blk.new W' t' cs', (h.alloc _).wr, (h.alloc _).fr, fun e => absurd (h.wr.own.lt _ e).2 (Nat.lt_irrefl _), fun e => absurd h.wr.blk.lt (by omega)⟩

theorem Oc.to {W W' : World} {p base i : Nat} {v0 v : Value} {t : TypeId} {cs : Array Value} {bs bs' : List Int} (h : Oc W p base v0 i t cs v bs W') (e : bs = bs') : Oc W p base v0 i t cs v bs' W' := e ▸ h
theorem stL_small {s : StV} (h : StOk s) : ∀ x ∈ stL s, 0 ≤ x ∧ x ≤ 1099511627776 := by
 intro x hx
 simp only [stL, List.mem_cons, List.not_mem_nil, or_false] at hx
 rcases hx with rfl | rfl | rfl | rfl | rfl | rfl
 ·exact h.a
 ·exact h.b
 ·exact h.c
 ·exact h.d
 ·exact h.e
 ·exact h.f
theorem stC_at (s : StV) (k : Nat) (h : k < 6) : (#[.int .i64 s.taken, .int .i64 s.late, .int .i64 s.over, .int .i64 s.full, .int .i64 s.cells, .int .i64 s.now] : Array Value)[k]? = some (.int .i64 ((stL s)[k]'h)) := by
 match k, h with
 | 0, _ => rfl
 | 1, _ => rfl
 | 2, _ => rfl
 | 3, _ => rfl
 | 4, _ => rfl
 | 5, _ => rfl
theorem agC_at (x : RowV) (k : Nat) (h : k < 4) : (#[.int .i64 x.count, .int .i64 x.sum, .int .i64 x.min, .int .i64 x.max] : Array Value)[k]? = some (.int .i64 ((aggL x)[k]'h)) := by
 match k, h with
 | 0, _ => rfl
 | 1, _ => rfl
 | 2, _ => rfl
 | 3, _ => rfl

theorem encode_rs_no (A : Option Addr) (n c : Nat) (r : Rs) (W : World) (hl : r.rows.length = n) (hr : RowsRd W A r.rows) (hn : n ≤ 9223372036854775807) (hok : RsOk r) (h0 : checkRs r ≠ 0) :
  Calls Tryz.prog 59 #[.agg (rsC (.slice A n c) r)] W fun e w' => e = .returned (.tuple #[.slice none 0 0, .int .i64 (checkRs r)]) ∧ Below W.heap.size W w' := by
 have hz : (checkRs r != 0) = true := by simpa using h0
 have HR := Lib.hid hr
 have HL := Lib.hid hl
 have HOK := Lib.hid hok
 clear h0 hr hl hok
 have hc := (Blk.new W 71 (rsC (.slice A n c) r)).cell
 go_enter Tryz.func59, Tryz.ntmps59
 go_wp2_with fail
 go_at_call 84; (with_reducible refine (check_rs A n c r _ HL.out (HR.out.below ((Below.refl _ _).alloc (Nat.le_refl _) _)) hn HOK.out).mono ?_); rintro e w1 ⟨rfl, hb⟩
 have HB := Lib.hid (((Below.refl W.heap.size W).alloc (Nat.le_refl _) (.cells (rsC (.slice A n c) r) 71)).trans (hb.mono (by simp)))
 clear hb
 go_wp2
 go_ret2
 exact ⟨rfl, HB.out⟩

theorem encode_rs_epoch (A : Option Addr) (n c : Nat) (r : Rs) (W : World) (hk : r.kind = 2) (hl : r.rows.length = n) (hr : RowsRd W A r.rows) (hn : n ≤ 9223372036854775807) (hok : RsOk r) (h0 : checkRs r = 0) (hri : ∀ x ∈ r.rows, RowI x) :
  Calls Tryz.prog 59 #[.agg (rsC (.slice A n c) r)] W (EncQ W (encRs r)) := by
 have hg := rs_good h0
 have HBODY := Lib.hid (show encRs r = sev r.kind.toNat ++ (sev r.id.toNat ++ sev r.epoch.toNat) by unfold encRs bodyRs; simp [hk])
 have CT := Lib.hid (fun W' => tells_epoch A n c r hk W')
 have hz : (checkRs r != 0) = false := by simpa using h0
 have HG := Lib.hid hg
 have HR := Lib.hid hr
 have HL := Lib.hid hl
 have HOK := Lib.hid hok
 have HRI := Lib.hid hri
 have L1 := Lib.hid (sev_len10 r.kind.toNat (by have := hg.k5; omega))
 have L2 := Lib.hid (sev_len10 r.id.toNat (by have := hg.id1; omega))
 have t1 := ta_epoch_rows
 have t2 := ta_epoch
 have L3 := Lib.hid (sev_len10 r.epoch.toNat (by have := (hg.ep hk).2; omega))
 have HEP := Lib.hid (hg.ep hk)
 clear h0 hr hl hok hg hk hri
 have hc := (Blk.new W 71 (rsC (.slice A n c) r)).cell
 go_enter Tryz.func59, Tryz.ntmps59
 go_wp2_with fail
 go_at_call 84; (with_reducible refine (check_rs A n c r _ HL.out (HR.out.below ((Below.refl _ _).alloc (Nat.le_refl _) _)) hn HOK.out).mono ?_); rintro e w1 ⟨rfl, hb⟩
 have HK1 := Lib.hid ((Blk.new W 71 (rsC (.slice A n c) r)).kept hb)
 have HB1 := Lib.hid (((Below.refl W.heap.size W).alloc (Nat.le_refl _) (.cells (rsC (.slice A n c) r) 71)).trans (hb.mono (by simp)))
 clear hb hc
 generalize hi : W.heap.size = i at *
 have hlt := HK1.out.lt
 go_wp2_with fail
 obtain ⟨p, hp⟩ : ∃ p, p = w1.heap.size := ⟨_, rfl⟩
 obtain ⟨w2, hw2⟩ : ∃ w2, w2 = w1.alloc (.cells #[.slice none 0 0] 167) := ⟨_, rfl⟩
 have HO2 := Lib.hid (show Oc w2 p p (.slice none 0 0) i 71 (rsC (.slice A n c) r) (.slice none 0 0) [] w2 from by
  subst hw2 hp
  exact ⟨HK1.out.alloc _, out_new w1, WrFr.refl _ _ _, by simp [Value.ownBlock], by omega⟩)
 have HB2 := Lib.hid (show Below i W w2 by subst hw2; exact HB1.out.alloc (by have := HB1.out.size; omega) _)
 have HCL := Lib.hid (show RowsB p w2 A r.rows from by
  have h := hi ▸ HR.out.B
  exact (h.below HB2.out).mono (by omega))
 rw [← hw2, ← hp]
 have hip : i < p := by omega
 clear hw2 hp HK1 HB1 hlt HR
 refine wp_region_put 5 (by kernel_rfl) (by kernel_rfl) (HO2.out) (fun _ h => h.drew) ?_
 simp only [List.take_succ_cons, List.take_zero, List.drop_succ_cons, List.drop_zero]
 intro w3 h3
 have c0 := h3.blk.cell 0
 have H3 := Lib.hid h3
 simp at c0
 clear h3
 repeat still_step
 try refine wpStill_nil ?_
 go_wp2_with fail
 go_at_call 85; (with_reducible refine (w_num r.kind (by have := HG.out.k5; omega) p p _ [] w3 H3.out.wr (by simp)).mono ?_); rintro e w4 ⟨rfl, v4, hr4, hf4⟩
 have H4 := Lib.hid (H3.out.step hr4 hf4)
 clear hr4 hf4 c0 H3
 go_wp2_with fail
 refine wp_region_put 5 (by kernel_rfl) (by kernel_rfl) (H4.out) (fun _ h => h.drew) ?_
 simp only [List.take_succ_cons, List.take_zero, List.drop_succ_cons, List.drop_zero]
 intro w5 h5
 have c0 := h5.blk.cell 1
 have H5 := Lib.hid h5
 simp at c0
 clear h5
 repeat still_step
 try refine wpStill_nil ?_
 go_wp2_with fail
 go_at_call 85; (with_reducible refine (w_num r.id (by have := HG.out.id1; omega) p p _ _ w5 H5.out.wr (by have := L1.out; simp; omega)).mono ?_); rintro e w6 ⟨rfl, v6, hr6, hf6⟩
 have H6 := Lib.hid (H5.out.step hr6 hf6)
 clear hr6 hf6 c0 H5
 have hc := H6.out.blk.cell
 go_wp2_with fail
 go_at_call 86; (with_reducible refine (CT.out _).mono ?_); rintro e w7 ⟨rfl, hb⟩
 have HX7 := Lib.hid ((H6.out.kept hb).alloc (.cells (rsC nilS ⟨r.kind, r.id, 0, r.epoch, [], st0⟩) 71))
 clear hb hc
 have HY := Lib.hid (HX7.out.swap 177 #[.int .i64 r.epoch])
 generalize hx7 : w7.alloc (.cells (rsC (nilS) ⟨r.kind, r.id, 0, r.epoch, [], st0⟩) 71) = w8 at *
 go_wp2_with fail
 refine wp_region_put 5 (by kernel_rfl) (by kernel_rfl) (HY.out) (fun _ h => h.drew) ?_
 simp only [List.take_succ_cons, List.take_zero, List.drop_succ_cons, List.drop_zero]
 intro w9 h9
 have c0 := h9.blk.cell 0
 have HZ := Lib.hid h9
 simp at c0
 clear h9
 repeat still_step
 try refine wpStill_nil ?_
 go_wp2_with fail
 go_at_call 85; (with_reducible refine (w_num r.epoch (by have := HEP.out.2; omega) p p _ _ w9 HZ.out.wr (by have := L1.out; have := L2.out; simp; omega)).mono ?_); rintro e wa ⟨rfl, va, hra, hfa⟩
 have H8 := Lib.hid (HZ.out.step hra hfa)
 clear hra hfa c0 HZ
 have H9 := Lib.hid (H8.out.to (show _ = encRs r by rw [HBODY.out]; simp))
 have HLEN := Lib.hid (show (encRs r).length ≤ 40000 by
  have := L1.out
  have := L2.out
  rw [HBODY.out]
  have := L3.out; simp; omega)
 have HB8 := Lib.hid (HB2.out.trans ((H9.out.below HO2.out.wr).mono (by omega)))
 go_wp2_with fail
 go_at_call 89; (with_reducible refine (w_bytes p p _ (encRs r) _ H9.out.wr (by have := HLEN.out; omega)).mono ?_); rintro e wb ⟨A9, rfl, hr9, hb9⟩
 have H10 := Lib.hid (show EncQ W (encRs r) (.returned (.tuple #[.slice A9 (encRs r).length (encRs r).length, .int .i64 0])) wb from
  ⟨A9, rfl, hr9.lower (by have := HB8.out.size; omega), by rw [hi]; exact HB8.out.trans (hb9.mono (by have := HB8.out.size; omega))⟩)
 clear hr9 hb9
 generalize (encRs r).length = m at *
 go_wp2
 go_ret2
 exact H10.out

theorem encode_rs_done (A : Option Addr) (n c : Nat) (r : Rs) (W : World) (hk : r.kind = 3) (hl : r.rows.length = n) (hr : RowsRd W A r.rows) (hn : n ≤ 9223372036854775807) (hok : RsOk r) (h0 : checkRs r = 0) (hri : ∀ x ∈ r.rows, RowI x) :
  Calls Tryz.prog 59 #[.agg (rsC (.slice A n c) r)] W (EncQ W (encRs r)) := by
 have hg := rs_good h0
 have HBODY := Lib.hid (show encRs r = sev r.kind.toNat ++ (sev r.id.toNat ++ []) by unfold encRs bodyRs; simp [hk])
 have CT := Lib.hid (fun W' => tells_done A n c r hk W')
 have hz : (checkRs r != 0) = false := by simpa using h0
 have HG := Lib.hid hg
 have HR := Lib.hid hr
 have HL := Lib.hid hl
 have HOK := Lib.hid hok
 have HRI := Lib.hid hri
 have L1 := Lib.hid (sev_len10 r.kind.toNat (by have := hg.k5; omega))
 have L2 := Lib.hid (sev_len10 r.id.toNat (by have := hg.id1; omega))
 have t1 := ta_bare_rows
 have t2 := ta_bare_epoch
 have t3 := ta_bare_stats
 have t4 := ta_bare_failed
 clear h0 hr hl hok hg hk hri
 have hc := (Blk.new W 71 (rsC (.slice A n c) r)).cell
 go_enter Tryz.func59, Tryz.ntmps59
 go_wp2_with fail
 go_at_call 84; (with_reducible refine (check_rs A n c r _ HL.out (HR.out.below ((Below.refl _ _).alloc (Nat.le_refl _) _)) hn HOK.out).mono ?_); rintro e w1 ⟨rfl, hb⟩
 have HK1 := Lib.hid ((Blk.new W 71 (rsC (.slice A n c) r)).kept hb)
 have HB1 := Lib.hid (((Below.refl W.heap.size W).alloc (Nat.le_refl _) (.cells (rsC (.slice A n c) r) 71)).trans (hb.mono (by simp)))
 clear hb hc
 generalize hi : W.heap.size = i at *
 have hlt := HK1.out.lt
 go_wp2_with fail
 obtain ⟨p, hp⟩ : ∃ p, p = w1.heap.size := ⟨_, rfl⟩
 obtain ⟨w2, hw2⟩ : ∃ w2, w2 = w1.alloc (.cells #[.slice none 0 0] 167) := ⟨_, rfl⟩
 have HO2 := Lib.hid (show Oc w2 p p (.slice none 0 0) i 71 (rsC (.slice A n c) r) (.slice none 0 0) [] w2 from by
  subst hw2 hp
  exact ⟨HK1.out.alloc _, out_new w1, WrFr.refl _ _ _, by simp [Value.ownBlock], by omega⟩)
 have HB2 := Lib.hid (show Below i W w2 by subst hw2; exact HB1.out.alloc (by have := HB1.out.size; omega) _)
 have HCL := Lib.hid (show RowsB p w2 A r.rows from by
  have h := hi ▸ HR.out.B
  exact (h.below HB2.out).mono (by omega))
 rw [← hw2, ← hp]
 have hip : i < p := by omega
 clear hw2 hp HK1 HB1 hlt HR
 refine wp_region_put 5 (by kernel_rfl) (by kernel_rfl) (HO2.out) (fun _ h => h.drew) ?_
 simp only [List.take_succ_cons, List.take_zero, List.drop_succ_cons, List.drop_zero]
 intro w3 h3
 have c0 := h3.blk.cell 0
 have H3 := Lib.hid h3
 simp at c0
 clear h3
 repeat still_step
 try refine wpStill_nil ?_
 go_wp2_with fail
 go_at_call 85; (with_reducible refine (w_num r.kind (by have := HG.out.k5; omega) p p _ [] w3 H3.out.wr (by simp)).mono ?_); rintro e w4 ⟨rfl, v4, hr4, hf4⟩
 have H4 := Lib.hid (H3.out.step hr4 hf4)
 clear hr4 hf4 c0 H3
 go_wp2_with fail
 refine wp_region_put 5 (by kernel_rfl) (by kernel_rfl) (H4.out) (fun _ h => h.drew) ?_
 simp only [List.take_succ_cons, List.take_zero, List.drop_succ_cons, List.drop_zero]
 intro w5 h5
 have c0 := h5.blk.cell 1
 have H5 := Lib.hid h5
 simp at c0
 clear h5
 repeat still_step
 try refine wpStill_nil ?_
 go_wp2_with fail
 go_at_call 85; (with_reducible refine (w_num r.id (by have := HG.out.id1; omega) p p _ _ w5 H5.out.wr (by have := L1.out; simp; omega)).mono ?_); rintro e w6 ⟨rfl, v6, hr6, hf6⟩
 have H6 := Lib.hid (H5.out.step hr6 hf6)
 clear hr6 hf6 c0 H5
 have hc := H6.out.blk.cell
 go_wp2_with fail
 go_at_call 86; (with_reducible refine (CT.out _).mono ?_); rintro e w7 ⟨rfl, hb⟩
 have HX7 := Lib.hid ((H6.out.kept hb).alloc (.cells (rsC nilS ⟨r.kind, r.id, 0, 0, [], st0⟩) 71))
 clear hb hc
 have H9 := Lib.hid (HX7.out.to (show _ = encRs r by rw [HBODY.out]; simp))
 have HLEN := Lib.hid (show (encRs r).length ≤ 40000 by
  have := L1.out
  have := L2.out
  rw [HBODY.out]
  simp; omega)
 have HB8 := Lib.hid (HB2.out.trans ((H9.out.below HO2.out.wr).mono (by omega)))
 go_wp2_with fail
 go_at_call 89; (with_reducible refine (w_bytes p p _ (encRs r) _ H9.out.wr (by have := HLEN.out; omega)).mono ?_); rintro e wb ⟨A9, rfl, hr9, hb9⟩
 have H10 := Lib.hid (show EncQ W (encRs r) (.returned (.tuple #[.slice A9 (encRs r).length (encRs r).length, .int .i64 0])) wb from
  ⟨A9, rfl, hr9.lower (by have := HB8.out.size; omega), by rw [hi]; exact HB8.out.trans (hb9.mono (by have := HB8.out.size; omega))⟩)
 clear hr9 hb9
 generalize (encRs r).length = m at *
 go_wp2
 go_ret2
 exact H10.out

theorem encode_rs_error (A : Option Addr) (n c : Nat) (r : Rs) (W : World) (hk : r.kind = 5) (hl : r.rows.length = n) (hr : RowsRd W A r.rows) (hn : n ≤ 9223372036854775807) (hok : RsOk r) (h0 : checkRs r = 0) (hri : ∀ x ∈ r.rows, RowI x) :
  Calls Tryz.prog 59 #[.agg (rsC (.slice A n c) r)] W (EncQ W (encRs r)) := by
 have hg := rs_good h0
 have HBODY := Lib.hid (show encRs r = sev r.kind.toNat ++ (sev r.id.toNat ++ sev r.err.toNat) by unfold encRs bodyRs; simp [hk])
 have CT := Lib.hid (fun W' => tells_error A n c r hk W')
 have hz : (checkRs r != 0) = false := by simpa using h0
 have HG := Lib.hid hg
 have HR := Lib.hid hr
 have HL := Lib.hid hl
 have HOK := Lib.hid hok
 have HRI := Lib.hid hri
 have L1 := Lib.hid (sev_len10 r.kind.toNat (by have := hg.k5; omega))
 have L2 := Lib.hid (sev_len10 r.id.toNat (by have := hg.id1; omega))
 have t1 := ta_failed_rows
 have t2 := ta_failed_epoch
 have t3 := ta_failed_stats
 have t4 := ta_failed
 have L3 := Lib.hid (sev_len10 r.err.toNat (by have := (hg.err hk).2; omega))
 have HEP := Lib.hid (hg.err hk)
 clear h0 hr hl hok hg hk hri
 have hc := (Blk.new W 71 (rsC (.slice A n c) r)).cell
 go_enter Tryz.func59, Tryz.ntmps59
 go_wp2_with fail
 go_at_call 84; (with_reducible refine (check_rs A n c r _ HL.out (HR.out.below ((Below.refl _ _).alloc (Nat.le_refl _) _)) hn HOK.out).mono ?_); rintro e w1 ⟨rfl, hb⟩
 have HK1 := Lib.hid ((Blk.new W 71 (rsC (.slice A n c) r)).kept hb)
 have HB1 := Lib.hid (((Below.refl W.heap.size W).alloc (Nat.le_refl _) (.cells (rsC (.slice A n c) r) 71)).trans (hb.mono (by simp)))
 clear hb hc
 generalize hi : W.heap.size = i at *
 have hlt := HK1.out.lt
 go_wp2_with fail
 obtain ⟨p, hp⟩ : ∃ p, p = w1.heap.size := ⟨_, rfl⟩
 obtain ⟨w2, hw2⟩ : ∃ w2, w2 = w1.alloc (.cells #[.slice none 0 0] 167) := ⟨_, rfl⟩
 have HO2 := Lib.hid (show Oc w2 p p (.slice none 0 0) i 71 (rsC (.slice A n c) r) (.slice none 0 0) [] w2 from by
  subst hw2 hp
  exact ⟨HK1.out.alloc _, out_new w1, WrFr.refl _ _ _, by simp [Value.ownBlock], by omega⟩)
 have HB2 := Lib.hid (show Below i W w2 by subst hw2; exact HB1.out.alloc (by have := HB1.out.size; omega) _)
 have HCL := Lib.hid (show RowsB p w2 A r.rows from by
  have h := hi ▸ HR.out.B
  exact (h.below HB2.out).mono (by omega))
 rw [← hw2, ← hp]
 have hip : i < p := by omega
 clear hw2 hp HK1 HB1 hlt HR
 refine wp_region_put 5 (by kernel_rfl) (by kernel_rfl) (HO2.out) (fun _ h => h.drew) ?_
 simp only [List.take_succ_cons, List.take_zero, List.drop_succ_cons, List.drop_zero]
 intro w3 h3
 have c0 := h3.blk.cell 0
 have H3 := Lib.hid h3
 simp at c0
 clear h3
 repeat still_step
 try refine wpStill_nil ?_
 go_wp2_with fail
 go_at_call 85; (with_reducible refine (w_num r.kind (by have := HG.out.k5; omega) p p _ [] w3 H3.out.wr (by simp)).mono ?_); rintro e w4 ⟨rfl, v4, hr4, hf4⟩
 have H4 := Lib.hid (H3.out.step hr4 hf4)
 clear hr4 hf4 c0 H3
 go_wp2_with fail
 refine wp_region_put 5 (by kernel_rfl) (by kernel_rfl) (H4.out) (fun _ h => h.drew) ?_
 simp only [List.take_succ_cons, List.take_zero, List.drop_succ_cons, List.drop_zero]
 intro w5 h5
 have c0 := h5.blk.cell 1
 have H5 := Lib.hid h5
 simp at c0
 clear h5
 repeat still_step
 try refine wpStill_nil ?_
 go_wp2_with fail
 go_at_call 85; (with_reducible refine (w_num r.id (by have := HG.out.id1; omega) p p _ _ w5 H5.out.wr (by have := L1.out; simp; omega)).mono ?_); rintro e w6 ⟨rfl, v6, hr6, hf6⟩
 have H6 := Lib.hid (H5.out.step hr6 hf6)
 clear hr6 hf6 c0 H5
 have hc := H6.out.blk.cell
 go_wp2_with fail
 go_at_call 86; (with_reducible refine (CT.out _).mono ?_); rintro e w7 ⟨rfl, hb⟩
 have HX7 := Lib.hid ((H6.out.kept hb).alloc (.cells (rsC nilS ⟨r.kind, r.id, r.err, 0, [], st0⟩) 71))
 clear hb hc
 have HY := Lib.hid (HX7.out.swap 181 #[.int .i64 r.err])
 generalize hx7 : w7.alloc (.cells (rsC (nilS) ⟨r.kind, r.id, r.err, 0, [], st0⟩) 71) = w8 at *
 go_wp2_with fail
 refine wp_region_put 5 (by kernel_rfl) (by kernel_rfl) (HY.out) (fun _ h => h.drew) ?_
 simp only [List.take_succ_cons, List.take_zero, List.drop_succ_cons, List.drop_zero]
 intro w9 h9
 have c0 := h9.blk.cell 0
 have HZ := Lib.hid h9
 simp at c0
 clear h9
 repeat still_step
 try refine wpStill_nil ?_
 go_wp2_with fail
 go_at_call 85; (with_reducible refine (w_num r.err (by have := HEP.out.2; omega) p p _ _ w9 HZ.out.wr (by have := L1.out; have := L2.out; simp; omega)).mono ?_); rintro e wa ⟨rfl, va, hra, hfa⟩
 have H8 := Lib.hid (HZ.out.step hra hfa)
 clear hra hfa c0 HZ
 have H9 := Lib.hid (H8.out.to (show _ = encRs r by rw [HBODY.out]; simp))
 have HLEN := Lib.hid (show (encRs r).length ≤ 40000 by
  have := L1.out
  have := L2.out
  rw [HBODY.out]
  have := L3.out; simp; omega)
 have HB8 := Lib.hid (HB2.out.trans ((H9.out.below HO2.out.wr).mono (by omega)))
 go_wp2_with fail
 go_at_call 89; (with_reducible refine (w_bytes p p _ (encRs r) _ H9.out.wr (by have := HLEN.out; omega)).mono ?_); rintro e wb ⟨A9, rfl, hr9, hb9⟩
 have H10 := Lib.hid (show EncQ W (encRs r) (.returned (.tuple #[.slice A9 (encRs r).length (encRs r).length, .int .i64 0])) wb from
  ⟨A9, rfl, hr9.lower (by have := HB8.out.size; omega), by rw [hi]; exact HB8.out.trans (hb9.mono (by have := HB8.out.size; omega))⟩)
 clear hr9 hb9
 generalize (encRs r).length = m at *
 go_wp2
 go_ret2
 exact H10.out

theorem encode_rs_stats (A : Option Addr) (n c : Nat) (r : Rs) (W : World) (hk : r.kind = 4) (hl : r.rows.length = n) (hr : RowsRd W A r.rows) (hn : n ≤ 9223372036854775807) (hok : RsOk r) (h0 : checkRs r = 0) (hri : ∀ x ∈ r.rows, RowI x) :
  Calls Tryz.prog 59 #[.agg (rsC (.slice A n c) r)] W (EncQ W (encRs r)) := by
 have hg := rs_good h0
 have HBODY := Lib.hid (show encRs r = sev r.kind.toNat ++ (sev r.id.toNat ++ numsE (stL r.st)) by unfold encRs bodyRs; simp [hk])
 have CT := Lib.hid (fun W' => tells_stats A n c r hk W')
 have hz : (checkRs r != 0) = false := by simpa using h0
 have HG := Lib.hid hg
 have HR := Lib.hid hr
 have HL := Lib.hid hl
 have HOK := Lib.hid hok
 have HRI := Lib.hid hri
 have L1 := Lib.hid (sev_len10 r.kind.toNat (by have := hg.k5; omega))
 have L2 := Lib.hid (sev_len10 r.id.toNat (by have := hg.id1; omega))
 have t1 := ta_stats_rows
 have t2 := ta_stats_epoch
 have t3 := ta_stats
 have HST := Lib.hid (stL_small (hg.st hk))
 clear h0 hr hl hok hg hk hri
 have hc := (Blk.new W 71 (rsC (.slice A n c) r)).cell
 go_enter Tryz.func59, Tryz.ntmps59
 go_wp2_with fail
 go_at_call 84; (with_reducible refine (check_rs A n c r _ HL.out (HR.out.below ((Below.refl _ _).alloc (Nat.le_refl _) _)) hn HOK.out).mono ?_); rintro e w1 ⟨rfl, hb⟩
 have HK1 := Lib.hid ((Blk.new W 71 (rsC (.slice A n c) r)).kept hb)
 have HB1 := Lib.hid (((Below.refl W.heap.size W).alloc (Nat.le_refl _) (.cells (rsC (.slice A n c) r) 71)).trans (hb.mono (by simp)))
 clear hb hc
 generalize hi : W.heap.size = i at *
 have hlt := HK1.out.lt
 go_wp2_with fail
 obtain ⟨p, hp⟩ : ∃ p, p = w1.heap.size := ⟨_, rfl⟩
 obtain ⟨w2, hw2⟩ : ∃ w2, w2 = w1.alloc (.cells #[.slice none 0 0] 167) := ⟨_, rfl⟩
 have HO2 := Lib.hid (show Oc w2 p p (.slice none 0 0) i 71 (rsC (.slice A n c) r) (.slice none 0 0) [] w2 from by
  subst hw2 hp
  exact ⟨HK1.out.alloc _, out_new w1, WrFr.refl _ _ _, by simp [Value.ownBlock], by omega⟩)
 have HB2 := Lib.hid (show Below i W w2 by subst hw2; exact HB1.out.alloc (by have := HB1.out.size; omega) _)
 have HCL := Lib.hid (show RowsB p w2 A r.rows from by
  have h := hi ▸ HR.out.B
  exact (h.below HB2.out).mono (by omega))
 rw [← hw2, ← hp]
 have hip : i < p := by omega
 clear hw2 hp HK1 HB1 hlt HR
 refine wp_region_put 5 (by kernel_rfl) (by kernel_rfl) (HO2.out) (fun _ h => h.drew) ?_
 simp only [List.take_succ_cons, List.take_zero, List.drop_succ_cons, List.drop_zero]
 intro w3 h3
 have c0 := h3.blk.cell 0
 have H3 := Lib.hid h3
 simp at c0
 clear h3
 repeat still_step
 try refine wpStill_nil ?_
 go_wp2_with fail
 go_at_call 85; (with_reducible refine (w_num r.kind (by have := HG.out.k5; omega) p p _ [] w3 H3.out.wr (by simp)).mono ?_); rintro e w4 ⟨rfl, v4, hr4, hf4⟩
 have H4 := Lib.hid (H3.out.step hr4 hf4)
 clear hr4 hf4 c0 H3
 go_wp2_with fail
 refine wp_region_put 5 (by kernel_rfl) (by kernel_rfl) (H4.out) (fun _ h => h.drew) ?_
 simp only [List.take_succ_cons, List.take_zero, List.drop_succ_cons, List.drop_zero]
 intro w5 h5
 have c0 := h5.blk.cell 1
 have H5 := Lib.hid h5
 simp at c0
 clear h5
 repeat still_step
 try refine wpStill_nil ?_
 go_wp2_with fail
 go_at_call 85; (with_reducible refine (w_num r.id (by have := HG.out.id1; omega) p p _ _ w5 H5.out.wr (by have := L1.out; simp; omega)).mono ?_); rintro e w6 ⟨rfl, v6, hr6, hf6⟩
 have H6 := Lib.hid (H5.out.step hr6 hf6)
 clear hr6 hf6 c0 H5
 have hc := H6.out.blk.cell
 go_wp2_with fail
 go_at_call 86; (with_reducible refine (CT.out _).mono ?_); rintro e w7 ⟨rfl, hb⟩
 have HX7 := Lib.hid ((H6.out.kept hb).alloc (.cells (rsC nilS ⟨r.kind, r.id, 0, 0, [], r.st⟩) 71))
 clear hb hc
 have HY := Lib.hid (HX7.out.swap 179 #[.int .i64 r.st.taken, .int .i64 r.st.late, .int .i64 r.st.over, .int .i64 r.st.full, .int .i64 r.st.cells, .int .i64 r.st.now])
 generalize hx7 : w7.alloc (.cells (rsC (nilS) ⟨r.kind, r.id, 0, 0, [], r.st⟩) 71) = w8 at *
 go_wp2
 have HY2 := Lib.hid (HY.out.swap 3 #[.int .i64 r.st.taken, .int .i64 r.st.late, .int .i64 r.st.over, .int .i64 r.st.full, .int .i64 r.st.cells, .int .i64 r.st.now])
 have hsz : (w8.alloc (.cells #[.int .i64 r.st.taken, .int .i64 r.st.late, .int .i64 r.st.over, .int .i64 r.st.full, .int .i64 r.st.cells, .int .i64 r.st.now] 179)).heap.size = w8.heap.size + 1 := by simp
 rw [hsz] at HY2
 clear hsz
 generalize (w8.alloc (.cells #[.int .i64 r.st.taken, .int .i64 r.st.late, .int .i64 r.st.over, .int .i64 r.st.full, .int .i64 r.st.cells, .int .i64 r.st.now] 179)).alloc (.cells #[.int .i64 r.st.taken, .int .i64 r.st.late, .int .i64 r.st.over, .int .i64 r.st.full, .int .i64 r.st.cells, .int .i64 r.st.now] 3) = w9 at HY2 ⊢
 go_loopw [121] (fun t121 wz => ∃ k : Nat, t121 = .int .i64 (k : Int) ∧ k ≤ 6 ∧ Hid (∃ vz, Oc w2 p p (.slice none 0 0) (w8.heap.size + 1) 3 #[.int .i64 r.st.taken, .int .i64 r.st.late, .int .i64 r.st.over, .int .i64 r.st.full, .int .i64 r.st.cells, .int .i64 r.st.now] vz ([] ++ sev r.kind.toNat ++ sev r.id.toNat ++ numsE ((stL r.st).take k)) wz)) (fun t121 _ => 6 - (intOf t121).toNat)
 case atStart => exact ⟨0, rfl, Nat.zero_le _, Lib.hid ⟨v6, by simpa [numsE] using HY2.out⟩⟩
 case round =>
  obtain ⟨k, rfl, hk, HP0⟩ := hrel
  obtain ⟨vz, hP⟩ := HP0.out
  have HP := Lib.hid hP
  clear HP0 hP
  rename World => wz
  by_cases hk6 : k < 6
  ·have hkl : k < (stL r.st).length := hk6
   have hx0 : wz.cell? ⟨w8.heap.size + 1, k, none⟩ = some (.int .i64 (stL r.st)[k]) := (HP.out.blk.cell k).trans (stC_at r.st k hk6)
   have HT := Lib.hid (fm_take (fun n => sev n.toNat) (stL r.st) k hkl)
   have HM := Lib.hid (HST.out _ (List.getElem_mem hkl))
   have LK := Lib.hid (numsE_len ((stL r.st).take k) (fun x hx => by have := HST.out x (List.mem_of_mem_take hx); omega))
   generalize (stL r.st)[k] = x at *
   go_wp2_with fail
   go_at_call 85; (with_reducible refine (w_num x (by have := HM.out; omega) p p vz _ _ HP.out.wr (by have := L1.out; have := L2.out; have := LK.out; simp at this; simp; omega)).mono ?_); rintro e wa ⟨rfl, va, hra, hfa⟩
   have H8 := Lib.hid (HP.out.step hra hfa)
   clear hra hfa
   go_wp2
   go_roundw
   case rel => exact ⟨k + 1, by go_num, by omega, Lib.hid ⟨va, by unfold numsE; rw [HT.out]; simpa [numsE] using H8.out⟩⟩
   case measure => simp [intOf]; omega
  ·have HE := Lib.hid (show (stL r.st).take k = stL r.st from List.take_of_length_le (by show 6 ≤ k; omega))
   rw [HE.out] at HP
   have LK := Lib.hid (numsE_len (stL r.st) (fun x hx => by have := HST.out x hx; omega))
   have h6 : (stL r.st).length = 6 := rfl
   have H9 := Lib.hid (HP.out.to (show _ = encRs r by rw [HBODY.out]; simp))
   have HLEN := Lib.hid (show (encRs r).length ≤ 40000 by
    have := L1.out
    have := L2.out
    rw [HBODY.out]
    have := LK.out; simp; omega)
   have HB8 := Lib.hid (HB2.out.trans ((H9.out.below HO2.out.wr).mono (by omega)))
   go_wp2_with fail
   go_at_call 89; (with_reducible refine (w_bytes p p _ (encRs r) _ H9.out.wr (by have := HLEN.out; omega)).mono ?_); rintro e wb ⟨A9, rfl, hr9, hb9⟩
   have H10 := Lib.hid (show EncQ W (encRs r) (.returned (.tuple #[.slice A9 (encRs r).length (encRs r).length, .int .i64 0])) wb from
    ⟨A9, rfl, hr9.lower (by have := HB8.out.size; omega), by rw [hi]; exact HB8.out.trans (hb9.mono (by have := HB8.out.size; omega))⟩)
   clear hr9 hb9
   generalize (encRs r).length = m at *
   go_wp2
   go_ret2
   exact H10.out

theorem encode_rs_rows (A : Option Addr) (n c : Nat) (r : Rs) (W : World) (hk : r.kind = 1) (hl : r.rows.length = n) (hr : RowsRd W A r.rows) (hn : n ≤ 9223372036854775807) (hok : RsOk r) (h0 : checkRs r = 0) (hri : ∀ x ∈ r.rows, RowI x) :
  Calls Tryz.prog 59 #[.agg (rsC (.slice A n c) r)] W (EncQ W (encRs r)) := by
 have hg := rs_good h0
 have HBODY := Lib.hid (show encRs r = sev r.kind.toNat ++ (sev r.id.toNat ++ (sev n ++ rowsE r.rows)) by unfold encRs bodyRs; simp [hk, hl])
 have CT := Lib.hid (fun W' => tells_rows A n c r hk W')
 have hz : (checkRs r != 0) = false := by simpa using h0
 have HG := Lib.hid hg
 have HR := Lib.hid hr
 have HL := Lib.hid hl
 have HOK := Lib.hid hok
 have HRI := Lib.hid hri
 have L1 := Lib.hid (sev_len10 r.kind.toNat (by have := hg.k5; omega))
 have L2 := Lib.hid (sev_len10 r.id.toNat (by have := hg.id1; omega))
 have t1 := ta_rows
 have LN := Lib.hid (sev_len10 n (by have := hg.len; omega))
 have HXS := Lib.hid (fun x (hx : x ∈ r.rows) => (show CellS x.cell ∧ RowI x from ⟨((hg.rows x hx).cell).S (by omega), hri x hx⟩))
 clear h0 hr hl hok hg hk hri
 have hc := (Blk.new W 71 (rsC (.slice A n c) r)).cell
 go_enter Tryz.func59, Tryz.ntmps59
 go_wp2_with fail
 go_at_call 84; (with_reducible refine (check_rs A n c r _ HL.out (HR.out.below ((Below.refl _ _).alloc (Nat.le_refl _) _)) hn HOK.out).mono ?_); rintro e w1 ⟨rfl, hb⟩
 have HK1 := Lib.hid ((Blk.new W 71 (rsC (.slice A n c) r)).kept hb)
 have HB1 := Lib.hid (((Below.refl W.heap.size W).alloc (Nat.le_refl _) (.cells (rsC (.slice A n c) r) 71)).trans (hb.mono (by simp)))
 clear hb hc
 generalize hi : W.heap.size = i at *
 have hlt := HK1.out.lt
 go_wp2_with fail
 obtain ⟨p, hp⟩ : ∃ p, p = w1.heap.size := ⟨_, rfl⟩
 obtain ⟨w2, hw2⟩ : ∃ w2, w2 = w1.alloc (.cells #[.slice none 0 0] 167) := ⟨_, rfl⟩
 have HO2 := Lib.hid (show Oc w2 p p (.slice none 0 0) i 71 (rsC (.slice A n c) r) (.slice none 0 0) [] w2 from by
  subst hw2 hp
  exact ⟨HK1.out.alloc _, out_new w1, WrFr.refl _ _ _, by simp [Value.ownBlock], by omega⟩)
 have HB2 := Lib.hid (show Below i W w2 by subst hw2; exact HB1.out.alloc (by have := HB1.out.size; omega) _)
 have HCL := Lib.hid (show RowsB p w2 A r.rows from by
  have h := hi ▸ HR.out.B
  exact (h.below HB2.out).mono (by omega))
 rw [← hw2, ← hp]
 have hip : i < p := by omega
 clear hw2 hp HK1 HB1 hlt HR
 refine wp_region_put 5 (by kernel_rfl) (by kernel_rfl) (HO2.out) (fun _ h => h.drew) ?_
 simp only [List.take_succ_cons, List.take_zero, List.drop_succ_cons, List.drop_zero]
 intro w3 h3
 have c0 := h3.blk.cell 0
 have H3 := Lib.hid h3
 simp at c0
 clear h3
 repeat still_step
 try refine wpStill_nil ?_
 go_wp2_with fail
 go_at_call 85; (with_reducible refine (w_num r.kind (by have := HG.out.k5; omega) p p _ [] w3 H3.out.wr (by simp)).mono ?_); rintro e w4 ⟨rfl, v4, hr4, hf4⟩
 have H4 := Lib.hid (H3.out.step hr4 hf4)
 clear hr4 hf4 c0 H3
 go_wp2_with fail
 refine wp_region_put 5 (by kernel_rfl) (by kernel_rfl) (H4.out) (fun _ h => h.drew) ?_
 simp only [List.take_succ_cons, List.take_zero, List.drop_succ_cons, List.drop_zero]
 intro w5 h5
 have c0 := h5.blk.cell 1
 have H5 := Lib.hid h5
 simp at c0
 clear h5
 repeat still_step
 try refine wpStill_nil ?_
 go_wp2_with fail
 go_at_call 85; (with_reducible refine (w_num r.id (by have := HG.out.id1; omega) p p _ _ w5 H5.out.wr (by have := L1.out; simp; omega)).mono ?_); rintro e w6 ⟨rfl, v6, hr6, hf6⟩
 have H6 := Lib.hid (H5.out.step hr6 hf6)
 clear hr6 hf6 c0 H5
 have hc := H6.out.blk.cell
 go_wp2_with fail
 go_at_call 86; (with_reducible refine (CT.out _).mono ?_); rintro e w7 ⟨rfl, hb⟩
 have HX7 := Lib.hid ((H6.out.kept hb).alloc (.cells (rsC (.slice A n c) ⟨r.kind, r.id, 0, 0, r.rows, st0⟩) 71))
 clear hb hc
 have HY := Lib.hid (HX7.out.swap 172 #[.slice A n c])
 generalize hx7 : w7.alloc (.cells (rsC (.slice A n c) ⟨r.kind, r.id, 0, 0, r.rows, st0⟩) 71) = w8 at *
 go_wp2_with fail
 refine wp_region_put 6 (by kernel_rfl) (by kernel_rfl) (HY.out) (fun _ h => h.drew) ?_
 simp only [List.take_succ_cons, List.take_zero, List.drop_succ_cons, List.drop_zero]
 intro w9 h9
 have c0 := h9.blk.cell 0
 have HZ := Lib.hid h9
 simp at c0
 clear h9
 repeat still_step
 try refine wpStill_nil ?_
 go_wp2_with fail
 go_at_call 85; (with_reducible refine (w_num_nat n (by have := HG.out.len; have := HL.out; omega) p p _ _ w9 HZ.out.wr (by have := L1.out; have := L2.out; simp; omega)).mono ?_); rintro e wa ⟨rfl, va, hra, hfa⟩
 have HA := Lib.hid (HZ.out.step hra hfa)
 clear hra hfa c0 HZ
 have c0 := HA.out.blk.cell 0
 simp at c0
 go_wp2_with fail
 go_loopw [56] (fun t56 wz => ∃ k : Nat, t56 = .int .i64 (k : Int) ∧ k ≤ n ∧ Hid (∃ vz j T cs, Oc w2 p p (.slice none 0 0) j T cs vz ([] ++ sev r.kind.toNat ++ sev r.id.toNat ++ sev n ++ rowsE (r.rows.take k)) wz)) (fun t56 _ => n - (intOf t56).toNat)
 case atStart => exact ⟨0, rfl, Nat.zero_le _, Lib.hid ⟨va, _, _, _, by simpa [rowsE] using HA.out⟩⟩
 case round =>
  obtain ⟨k, rfl, hk, HP0⟩ := hrel
  obtain ⟨vz, j, T, cs, hP⟩ := HP0.out
  have HP := Lib.hid hP
  clear HP0 hP
  rename World => wz
  have h256 : n ≤ 256 := by have := HG.out.len; have := HL.out; omega
  by_cases hkn : k < n
  ·have hkx : k < r.rows.length := by rw [HL.out]; exact hkn
   obtain ⟨ad, rfl, a0, a1, a2, a3, a4, a5, a6⟩ := HCL.out.at (HP.out.below HO2.out.wr) k hkx
   have HX := Lib.hid (HXS.out _ (List.getElem_mem hkx))
   have HT := Lib.hid (fm_take rowE r.rows k hkx)
   have LK := Lib.hid (rowsE_len (r.rows.take k) (fun x hx => HXS.out x (List.mem_of_mem_take hx)))
   have LK2 := Lib.hid (show (r.rows.take k).length ≤ 256 by simp; omega)
   have HPA := Lib.hid (HP.out.swap 123 #[.int .i64 r.rows[k].cell.view, .string r.rows[k].cell.key, .int .i64 r.rows[k].cell.start, .int .i64 r.rows[k].count, .int .i64 r.rows[k].sum, .int .i64 r.rows[k].min, .int .i64 r.rows[k].max])
   generalize r.rows[k] = x at *
   go_wp2_with fail
   go_at_call 87; (with_reducible refine (oc_cell x.cell HX.out.1.ok p p vz _ _ HPA.out.wr (by have := L1.out; have := L2.out; have := LN.out; have := LK.out; have := LK2.out; have := HX.out.1.key; simp only [List.length_append, List.length_nil]; omega)).mono ?_); rintro e wb ⟨rfl, vb, hrb, hfb⟩
   have HB := Lib.hid (HPA.out.step hrb hfb)
   clear hrb hfb
   have hcb := HB.out.blk.cell
   go_wp2_with fail
   have HC := Lib.hid (HB.out.swap 2 #[.int .i64 x.count, .int .i64 x.sum, .int .i64 x.min, .int .i64 x.max])
   clear hcb a0 a1 a2 a3 a4 a5 a6
   generalize hjc : wb.heap.size = jc at *
   generalize wb.alloc (.cells #[.int .i64 x.count, .int .i64 x.sum, .int .i64 x.min, .int .i64 x.max] 2) = wc at HC ⊢
   go_loopw [78] (fun t78 wy => ∃ i2 : Nat, t78 = .int .i64 (i2 : Int) ∧ i2 ≤ 4 ∧ Hid (∃ vy, Oc w2 p p (.slice none 0 0) jc 2 #[.int .i64 x.count, .int .i64 x.sum, .int .i64 x.min, .int .i64 x.max] vy ([] ++ sev r.kind.toNat ++ sev r.id.toNat ++ sev n ++ rowsE (r.rows.take k) ++ cellE x.cell ++ intsE ((aggL x).take i2)) wy)) (fun t78 _ => 4 - (intOf t78).toNat)
   case atStart => exact ⟨0, rfl, Nat.zero_le _, Lib.hid ⟨vb, by simpa [intsE] using HC.out⟩⟩
   case round =>
    obtain ⟨i2, rfl, hi2, HQ0⟩ := hrel
    obtain ⟨vy, hQ⟩ := HQ0.out
    have HQ := Lib.hid hQ
    clear HQ0 hQ
    rename World => wy
    by_cases hi4 : i2 < 4
    ·have hil : i2 < (aggL x).length := hi4
     have hx0 : wy.cell? ⟨jc, i2, none⟩ = some (.int .i64 (aggL x)[i2]) := (HQ.out.blk.cell i2).trans (agC_at x i2 hi4)
     have HT2 := Lib.hid (fm_take (fun n => sev (zz n)) (aggL x) i2 hil)
     have HM := Lib.hid (aggL_I HX.out.2 _ (List.getElem_mem hil))
     have LI := Lib.hid (intsE_len ((aggL x).take i2) (fun y hy => aggL_I HX.out.2 y (List.mem_of_mem_take hy)))
     have LC := Lib.hid (cellE_len HX.out.1)
     have LI2 := Lib.hid (show ((aggL x).take i2).length ≤ 4 by simp [aggL]; omega)
     generalize (aggL x)[i2] = y at *
     go_wp2_with fail
     go_at_call 88; (with_reducible refine (w_int y HM.out.lo HM.out.hi p p vy _ _ HQ.out.wr (by have := L1.out; have := L2.out; have := LN.out; have := LK.out; have := LK2.out; have := LI.out; have := LC.out; have := LI2.out; simp only [List.length_append, List.length_nil]; omega)).mono ?_); rintro e wd ⟨rfl, vd, hrd, hfd⟩
     have HD := Lib.hid (HQ.out.step hrd hfd)
     clear hrd hfd
     go_wp2
     go_roundw
     case rel => exact ⟨i2 + 1, by go_num, by omega, Lib.hid ⟨vd, by unfold intsE; rw [HT2.out]; simpa [intsE] using HD.out⟩⟩
     case measure => simp [intOf]; omega
    ·have HE := Lib.hid (show (aggL x).take i2 = aggL x from List.take_of_length_le (by show 4 ≤ i2; omega))
     have HF := HQ.out
     rw [HE.out] at HF
     have HG2 := Lib.hid HF
     clear HF
     go_wp2
     go_roundw
     case rel => exact ⟨k + 1, by go_num, by omega, Lib.hid ⟨vy, _, _, _, by unfold rowsE; rw [HT.out, rowE_eq]; simpa [rowsE] using HG2.out⟩⟩
     case measure => simp [intOf]; omega
  ·have HE := Lib.hid (show r.rows.take k = r.rows from List.take_of_length_le (by rw [HL.out]; omega))
   rw [HE.out] at HP
   have LK := Lib.hid (rowsE_len r.rows HXS.out)
   have H9 := Lib.hid (HP.out.to (show _ = encRs r by rw [HBODY.out]; simp))
   have HLEN := Lib.hid (show (encRs r).length ≤ 40000 by
    have := L1.out
    have := L2.out
    rw [HBODY.out]
    have := LK.out; have := LN.out; have := HG.out.len; simp; omega)
   have HB8 := Lib.hid (HB2.out.trans ((H9.out.below HO2.out.wr).mono (by omega)))
   go_wp2_with fail
   go_at_call 89; (with_reducible refine (w_bytes p p _ (encRs r) _ H9.out.wr (by have := HLEN.out; omega)).mono ?_); rintro e wb ⟨A9, rfl, hr9, hb9⟩
   have H10 := Lib.hid (show EncQ W (encRs r) (.returned (.tuple #[.slice A9 (encRs r).length (encRs r).length, .int .i64 0])) wb from
    ⟨A9, rfl, hr9.lower (by have := HB8.out.size; omega), by rw [hi]; exact HB8.out.trans (hb9.mono (by have := HB8.out.size; omega))⟩)
   clear hr9 hb9
   generalize (encRs r).length = m at *
   go_wp2
   go_ret2
   exact H10.out

theorem encode_rs (A : Option Addr) (n c : Nat) (r : Rs) (W : World) (hl : r.rows.length = n) (hr : RowsRd W A r.rows) (hn : n ≤ 9223372036854775807) (hok : RsOk r) (h0 : checkRs r = 0) (hri : ∀ x ∈ r.rows, RowI x) :
  Calls Tryz.prog 59 #[.agg (rsC (.slice A n c) r)] W (EncQ W (encRs r)) := by
 have hg := rs_good h0
 obtain h | h | h | h | h : r.kind = 1 ∨ r.kind = 2 ∨ r.kind = 3 ∨ r.kind = 4 ∨ r.kind = 5 := by have := hg.k1; have := hg.k5; omega
 ·exact encode_rs_rows A n c r W h hl hr hn hok h0 hri
 ·exact encode_rs_epoch A n c r W h hl hr hn hok h0 hri
 ·exact encode_rs_done A n c r W h hl hr hn hok h0 hri
 ·exact encode_rs_stats A n c r W h hl hr hn hok h0 hri
 ·exact encode_rs_error A n c r W h hl hr hn hok h0 hri
end Go.Proofs.YtglbdbghcdoicaaGreatDoor
