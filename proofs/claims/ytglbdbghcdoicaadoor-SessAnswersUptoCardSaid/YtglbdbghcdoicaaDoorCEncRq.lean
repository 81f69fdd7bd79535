/- EncodeRequest: the walk. -/
import Derived.Test.YtglbdbghcdoicaaDoorCEncs
import Derived.Deep.RegionHeld3
namespace Go.Proofs.YtglbdbghcdoicaaDoor
open Go.RowKit
set_option maxRecDepth 100000
set_option maxHeartbeats 32000000

theorem take_q {P : Program} {ops : Array Oper} {md : Region.Mode} {Q : Exit → Act → World → Prop} {S : World → Prop} {i : Nat} {oi : Oper} {d : Tmp} {v : Value} {fuel : Nat} {listed : Array Bool} {a : Act} {w : World} (hi : ops[i]? = some oi) (hd : oi.dst = some d)
  (hs : Region.noSelect ops = true) (hf : Region.free md ops listed i = true) (hr : (Region.ready md ops listed).contains i = true)
  (hQ : ∀ c a w, Q (.panic c) (a.put oi.dst v) w → Q (.panic c) a w) (hw : Region.wanted oi (yielded ops a.tmps) = true) (hy : ∀ w, S w → (execOp a.eval oi).run P w = .ok (.value v) w) (hS : S w)
  (h : wpAnyH P md ops Q S fuel (listed.setIfInBounds i true) (a.put (some d) v) w) : wpAnyH P md ops Q S (fuel + 1) listed a w :=
 wpAnyH_take hi hs hf hr hQ (.inl ⟨hw, hy⟩) hS (hd ▸ h)
theorem Lh {P : Prop} (h : P) : Hid P := Lib.hid h
theorem z1 {α : Type} (l : List α) (i : Nat) (a : α) : l.toArray.setIfInBounds i a = (l.set i a).toArray := List.setIfInBounds_toArray l i a
theorem z2 {α : Type} (a b : α) (l : List α) : (a :: l).set 0 b = b :: l := List.set_cons_zero
theorem z3 {α : Type} (a b : α) (l : List α) (n : Nat) : (a :: l).set (n + 1) b = a :: l.set n b := List.set_cons_succ
theorem tr {P : Program} {ops : Array Oper} {md : Region.Mode} {Q : Exit → Act → World → Prop} {S : World → Prop} {oi : Oper} {v : Value} {fuel : Nat} {listed : Array Bool} {a : Act} {w : World} (i : Nat) (d : Tmp)
  (hy : ∀ w, S w → (execOp a.eval oi).run P w = .ok (.value v) w) (h : wpAnyH P md ops Q S fuel (listed.setIfInBounds i true) (a.put (some d) v) w)
  (hi : ops[i]? = some oi := by rfl) (hd : oi.dst = some d := by rfl) (hs : Region.noSelect ops = true := by kernel_rfl) (hf : Region.free md ops listed i = true := by kernel_rfl) (hr : (Region.ready md ops listed).contains i = true := by kernel_rfl)
  (hQ : ∀ c a w, Q (.panic c) (a.put oi.dst v) w → Q (.panic c) a w := by exact fun _ _ _ h => h) (hw : Region.wanted oi (yielded ops a.tmps) = true := by kernel_rfl) (hS : S w := by assumption) : wpAnyH P md ops Q S (fuel + 1) listed a w :=
 take_q hi hd hs hf hr hQ hw hy hS h
theorem tq {P : Program} {ops : Array Oper} {md : Region.Mode} {Q : Exit → Act → World → Prop} {S : World → Prop} {oi : Oper} {v : Value} {fuel : Nat} {listed : Array Bool} {a : Act} {w : World} (i : Nat) (d : Tmp)
  (h : wpAnyH P md ops Q S fuel (listed.setIfInBounds i true) (a.put (some d) v) w)
  (hi : ops[i]? = some oi := by rfl) (hd : oi.dst = some d := by rfl) (hs : Region.noSelect ops = true := by kernel_rfl) (hf : Region.free md ops listed i = true := by kernel_rfl) (hr : (Region.ready md ops listed).contains i = true := by kernel_rfl)
  (hQ : ∀ c a w, Q (.panic c) (a.put oi.dst v) w → Q (.panic c) a w := by exact fun _ _ _ h => h) (hw : Region.wanted oi (yielded ops a.tmps) = true := by kernel_rfl) (hS : S w := by assumption)
  (hy : ∀ w, S w → (execOp a.eval oi).run P w = .ok (.value v) w := by intro w9 hSw; first | (go_simp; done) | (go_simp; with_reducible rfl)) : wpAnyH P md ops Q S (fuel + 1) listed a w :=
 take_q hi hd hs hf hr hQ hw hy hS h
theorem out_new (W : World) : Wr (W.alloc (.cells #[.slice none 0 0] 98)) W.heap.size W.heap.size (.slice none 0 0) [] :=
 ⟨Blk.new W _ _, ⟨rfl, .inl ⟨rfl, rfl⟩⟩, by simp [Value.ownBlock], Nat.le_refl _⟩
theorem RowAt.lower {W : World} {A : Option Addr} {n lo lo' : Nat} {xs : List Int} (h : RowAt W A n lo xs) (hl : lo' ≤ lo) : RowAt W A n lo' xs := by
 rcases h with h | ⟨g, cur, rfl, h1, r⟩
 ·exact .inl h
 ·exact .inr ⟨g, cur, rfl, by omega, r⟩
theorem Oc.kept {W W' W'' : World} {p base i : Nat} {v0 v : Value} {t : TypeId} {cs : Array Value} {bs : List Int} (h : Oc W p base v0 i t cs v bs W') (hb : Below W'.heap.size W' W'') : Oc W p base v0 i t cs v bs W'' :=
 h.step (h.wr.kept hb) ⟨Tur.of_below hb, .inl rfl⟩
/-- What an Encode that goes through tells. -/
def EncQ (W : World) (bs : List Int) (e : Ending) (w' : World) : Prop := ∃ A, e = .returned (.tuple #[.slice A bs.length bs.length, .int .i64 0]) ∧ RowAt w' A bs.length W.heap.size bs ∧ Below W.heap.size W w'

theorem encode_rq_no (A : Option Addr) (n c : Nat) (q : Rq) (W : World) (hl : q.cs.length = n) (hr : CellsRd W A q.cs) (hn : n ≤ 9223372036854775807) (hok : RqOk q) (h0 : checkRq q ≠ 0) :
  Calls Tryd.prog 22 #[.agg (rqC (.slice A n c) q)] W fun e w' => e = .returned (.tuple #[.slice none 0 0, .int .i64 (checkRq q)]) ∧ Below W.heap.size W w' := by
 have hz : (checkRq q != 0) = true := by simpa using h0
 have HR := Lib.hid hr
 have HL := Lib.hid hl
 have HOK := Lib.hid hok
 clear h0 hr hl hok
 have hc := (Blk.new W 63 (rqC (.slice A n c) q)).cell
 go_enter Tryd.func22, Tryd.ntmps22
 go_wp2_with fail
 go_at_call 40; (with_reducible refine (check_rq A n c q _ HL.out (HR.out.below ((Below.refl _ _).alloc (Nat.le_refl _) _)) hn HOK.out).mono ?_); rintro e w1 ⟨rfl, hb⟩
 have HB := Lib.hid (((Below.refl W.heap.size W).alloc (Nat.le_refl _) (.cells (rqC (.slice A n c) q) 63)).trans (hb.mono (by simp)))
 clear hb
 go_wp2
 go_ret2
 exact ⟨rfl, HB.out⟩

theorem encode_rq_epoch (A : Option Addr) (n c : Nat) (q : Rq) (W : World) (hk : q.kind = 5 ∨ q.kind = 6) (hl : q.cs.length = n) (hr : CellsRd W A q.cs) (hn : n ≤ 9223372036854775807) (hok : RqOk q) (h0 : checkRq q = 0) :
  Calls Tryd.prog 22 #[.agg (rqC (.slice A n c) q)] W (EncQ W (encRq q)) := by
 have hg := rq_good h0
 have HBODY := Lib.hid (show encRq q = sev q.kind.toNat ++ (sev q.id.toNat ++ sev q.epoch.toNat) by unfold encRq bodyRq; rcases hk with e | e <;> simp [e])
 have HF := Lib.hid (fun (p : Nat) => show (wmap p).find? (fun x => x.1 == q.kind) = some (q.kind, .func (.func 77) #[.pointer (some ⟨p, 0, none⟩)] #[]) by rcases hk with e | e <;> simp [wmap, e])
 have hz : (checkRq q != 0) = false := by simpa using h0
 have hz0 := h0
 have HG := Lib.hid hg
 have HR := Lib.hid hr
 have HL := Lib.hid hl
 have HOK := Lib.hid hok
 have L1 := Lib.hid (sev_len10 q.kind.toNat (by have := hg.k7; omega))
 have L2 := Lib.hid (sev_len10 q.id.toNat (by have := hg.id1; omega))
 have L3 := Lib.hid (sev_len10 q.epoch.toNat (by have := hg.ep1; omega))

 clear h0 hr hl hok hg hk
 have hc := (Blk.new W 63 (rqC (.slice A n c) q)).cell
 go_enter Tryd.func22, Tryd.ntmps22
 go_wp2_with fail
 go_at_call 40; (with_reducible refine (check_rq A n c q _ HL.out (HR.out.below ((Below.refl _ _).alloc (Nat.le_refl _) _)) hn HOK.out).mono ?_); rintro e w1 ⟨rfl, hb⟩
 have HK1 := Lib.hid ((Blk.new W 63 (rqC (.slice A n c) q)).kept hb)
 have HB1 := Lib.hid (((Below.refl W.heap.size W).alloc (Nat.le_refl _) (.cells (rqC (.slice A n c) q) 63)).trans (hb.mono (by simp)))
 clear hb hc
 generalize hi : W.heap.size = i at *
 have hlt := HK1.out.lt
 go_wp2_with fail
 obtain ⟨p, hp⟩ : ∃ p, p = w1.heap.size := ⟨_, rfl⟩
 obtain ⟨w2, hw2⟩ : ∃ w2, w2 = w1.alloc (.cells #[.slice none 0 0] 98) := ⟨_, rfl⟩
 have HO2 := Lib.hid (show Oc w2 p p (.slice none 0 0) i 63 (rqC (.slice A n c) q) (.slice none 0 0) [] w2 from by
  subst hw2 hp
  exact ⟨HK1.out.alloc _, out_new w1, WrFr.refl _ _ _, by simp [Value.ownBlock], by omega⟩)
 have HB2 := Lib.hid (show Below i W w2 by subst hw2; exact HB1.out.alloc (by have := HB1.out.size; omega) _)
 have HCL := Lib.hid (show CellsB p w2 A q.cs from by
  have h := hi ▸ HR.out.B
  exact (h.below HB2.out).mono (by omega))
 rw [← hw2, ← hp]
 have hip : i < p := by omega
 clear hw2 hp HK1 HB1 hlt HR
 refine wp_region_put 5 (by kernel_rfl) (by kernel_rfl) (HO2.out) (fun _ h => h.drew) ?_
 simp only [List.take_succ_cons, List.take_zero, List.drop_succ_cons, List.drop_zero]
 intro w3 h3
 have c0 := h3.blk.cell 0
 have H3 := Lib.hid h3
 simp at c0
 clear h3
 repeat still_step
 try refine wpStill_nil ?_
 go_wp2_with fail
 go_at_call 41; (with_reducible refine (w_num q.kind (by have := HG.out.k7; omega) p p _ [] w3 H3.out.wr (by simp)).mono ?_); rintro e w4 ⟨rfl, v4, hr4, hf4⟩
 have H4 := Lib.hid (H3.out.step hr4 hf4)
 clear hr4 hf4 c0 H3
 go_wp2_with fail
 refine wp_region_put 5 (by kernel_rfl) (by kernel_rfl) (H4.out) (fun _ h => h.drew) ?_
 simp only [List.take_succ_cons, List.take_zero, List.drop_succ_cons, List.drop_zero]
 intro w5 h5
 have c0 := h5.blk.cell 1
 have H5 := Lib.hid h5
 simp at c0
 clear h5
 repeat still_step
 try refine wpStill_nil ?_
 go_wp2_with fail
 go_at_call 41; (with_reducible refine (w_num q.id (by have := HG.out.id1; omega) p p _ _ w5 H5.out.wr (by have := L1.out; simp; omega)).mono ?_); rintro e w6 ⟨rfl, v6, hr6, hf6⟩
 have H6 := Lib.hid (H5.out.step hr6 hf6)
 clear hr6 hf6 c0 H5
 go_wp2_with fail
 (refine wp_region_held_drew (S := fun w9 => Blk w9 i 63 (rqC (.slice A n c) q)) (by kernel_rfl) H6.out.drew.blk (fun hHeld => ?_))
 (refine tq 0 25 ?_)
 (try simp only [Act.put, z1, z2, z3])
 (refine tr (v := ?v102) 2 27 ?h102 ?_)
 case h102 => (intro w9 hSw; have hc9 := Blk.cell hSw; clear hSw; first | (go_simp; done) | (go_simp; with_reducible rfl))
 (try simp only [Act.put, z1, z2, z3])
 (refine tr (v := ?v103) 3 28 ?h103 ?_)
 case h103 => (intro w9 hSw; have hc9 := Blk.cell hSw; clear hSw; first | (go_simp; done) | (go_simp; with_reducible rfl))
 (try simp only [Act.put, z1, z2, z3])
 (refine tr (v := ?v104) 5 30 ?h104 ?_)
 case h104 => (intro w9 hSw; have hc9 := Blk.cell hSw; clear hSw; first | (go_simp; done) | (go_simp; with_reducible rfl))
 (try simp only [Act.put, z1, z2, z3])
 (refine wpAnyH_ready (rs := [1]) (by kernel_rfl) (by simp) ?_)
 (refine AllReadyH.cons (o := _) rfl (fun K hK => ?_) AllReadyH.nil)
 go_simp
 (with_reducible refine (oc_writers p _).mono ?_)
 rintro e w7 ⟨rfl, hm, hb⟩
 have hm : MapIs w7 w6.heap.size (wmap p) := hm
 have H7 := Lib.hid (H6.out.drew.kept hb)
 have hlk := hm.look Tryd.underlying101 Tryd.underlying3 q.kind _ (HF.out p) false
 clear hm hb
 go_simp
 (refine hK.out _ _ H7.out.blk (fun hHeld => ?_))
 clear hK K
 (try simp only [Act.put, z1, z2, z3])
 (refine wpAnyH_ready (rs := [4]) (by kernel_rfl) (by simp) ?_)
 (refine AllReadyH.cons (o := _) rfl (fun K hK => ?_) AllReadyH.nil)
 go_simp
 (refine hK.out _ _ H7.out.blk (fun hHeld => ?_))
 clear hK K
 (try simp only [Act.put, z1, z2, z3])
 (refine wpAnyH_ready (rs := [6]) (by kernel_rfl) (by simp) ?_)
 (refine AllReadyH.cons (o := _) rfl (fun K hK => ?_) AllReadyH.nil)
 go_simp
 (with_reducible refine (oc_epoch (.slice A n c) q (by have := HG.out.ep1; omega) p p v6 _ w7 H7.out.wr (by have := L1.out; have := L2.out; simp; omega)).mono ?_)
 rintro e w8 ⟨rfl, v8, hr8, hf8⟩
 have H8 := Lib.hid (H7.out.step hr8 hf8)
 clear hr8 hf8
 go_simp
 (refine hK.out _ _ H8.out.blk (fun hHeld => ?_))
 clear hK K
 (try simp only [Act.put, z1, z2, z3])
 (refine wpAnyH_done (by kernel_rfl) ?_ _)
 have H9 := Lib.hid (show Oc w2 p p (.slice none 0 0) i 63 (rqC (.slice A n c) q) v8 (encRq q) w8 by
  have h := H8.out
  rw [HBODY.out]
  simpa using h)
 have HLEN := Lib.hid (show (encRq q).length ≤ 2000 by
  have := L1.out
  have := L2.out
  have := L3.out
  rw [HBODY.out]
  simp; omega)
 have HB8 := Lib.hid (HB2.out.trans ((H9.out.below HO2.out.wr).mono (by omega)))
 clear H8 hlk hm
 go_wp2_with fail
 go_at_call 43; (with_reducible refine (w_bytes p p v8 (encRq q) w8 H9.out.wr (by have := HLEN.out; omega)).mono ?_); rintro e w9 ⟨A9, rfl, hr9, hb9⟩
 have H10 := Lib.hid (show EncQ W (encRq q) (.returned (.tuple #[.slice A9 (encRq q).length (encRq q).length, .int .i64 0])) w9 from
  ⟨A9, rfl, hr9.lower (by have := HB8.out.size; omega), by rw [hi]; exact HB8.out.trans (hb9.mono (by have := HB8.out.size; omega))⟩)
 clear hr9 hb9
 generalize (encRq q).length = m at *
 go_wp2
 go_ret2
 exact H10.out

theorem encode_rq_bare (A : Option Addr) (n c : Nat) (q : Rq) (W : World) (hk : q.kind = 4 ∨ q.kind = 7) (hl : q.cs.length = n) (hr : CellsRd W A q.cs) (hn : n ≤ 9223372036854775807) (hok : RqOk q) (h0 : checkRq q = 0) :
  Calls Tryd.prog 22 #[.agg (rqC (.slice A n c) q)] W (EncQ W (encRq q)) := by
 have hg := rq_good h0
 have HBODY := Lib.hid (show encRq q = sev q.kind.toNat ++ (sev q.id.toNat ++ []) by unfold encRq bodyRq; rcases hk with e | e <;> simp [e])
 have HF := Lib.hid (fun (p : Nat) => show (wmap p).find? (fun x => x.1 == q.kind) = some (q.kind, .func (.func 76) #[.pointer (some ⟨p, 0, none⟩)] #[]) by rcases hk with e | e <;> simp [wmap, e])
 have hz : (checkRq q != 0) = false := by simpa using h0
 have hz0 := h0
 have HG := Lib.hid hg
 have HR := Lib.hid hr
 have HL := Lib.hid hl
 have HOK := Lib.hid hok
 have L1 := Lib.hid (sev_len10 q.kind.toNat (by have := hg.k7; omega))
 have L2 := Lib.hid (sev_len10 q.id.toNat (by have := hg.id1; omega))
 have L3 := Lib.hid (sev_len10 q.epoch.toNat (by have := hg.ep1; omega))

 clear h0 hr hl hok hg hk
 have hc := (Blk.new W 63 (rqC (.slice A n c) q)).cell
 go_enter Tryd.func22, Tryd.ntmps22
 go_wp2_with fail
 go_at_call 40; (with_reducible refine (check_rq A n c q _ HL.out (HR.out.below ((Below.refl _ _).alloc (Nat.le_refl _) _)) hn HOK.out).mono ?_); rintro e w1 ⟨rfl, hb⟩
 have HK1 := Lib.hid ((Blk.new W 63 (rqC (.slice A n c) q)).kept hb)
 have HB1 := Lib.hid (((Below.refl W.heap.size W).alloc (Nat.le_refl _) (.cells (rqC (.slice A n c) q) 63)).trans (hb.mono (by simp)))
 clear hb hc
 generalize hi : W.heap.size = i at *
 have hlt := HK1.out.lt
 go_wp2_with fail
 obtain ⟨p, hp⟩ : ∃ p, p = w1.heap.size := ⟨_, rfl⟩
 obtain ⟨w2, hw2⟩ : ∃ w2, w2 = w1.alloc (.cells #[.slice none 0 0] 98) := ⟨_, rfl⟩
 have HO2 := Lib.hid (show Oc w2 p p (.slice none 0 0) i 63 (rqC (.slice A n c) q) (.slice none 0 0) [] w2 from by
  subst hw2 hp
  exact ⟨HK1.out.alloc _, out_new w1, WrFr.refl _ _ _, by simp [Value.ownBlock], by omega⟩)
 have HB2 := Lib.hid (show Below i W w2 by subst hw2; exact HB1.out.alloc (by have := HB1.out.size; omega) _)
 have HCL := Lib.hid (show CellsB p w2 A q.cs from by
  have h := hi ▸ HR.out.B
  exact (h.below HB2.out).mono (by omega))
 rw [← hw2, ← hp]
 have hip : i < p := by omega
 clear hw2 hp HK1 HB1 hlt HR
 refine wp_region_put 5 (by kernel_rfl) (by kernel_rfl) (HO2.out) (fun _ h => h.drew) ?_
 simp only [List.take_succ_cons, List.take_zero, List.drop_succ_cons, List.drop_zero]
 intro w3 h3
 have c0 := h3.blk.cell 0
 have H3 := Lib.hid h3
 simp at c0
 clear h3
 repeat still_step
 try refine wpStill_nil ?_
 go_wp2_with fail
 go_at_call 41; (with_reducible refine (w_num q.kind (by have := HG.out.k7; omega) p p _ [] w3 H3.out.wr (by simp)).mono ?_); rintro e w4 ⟨rfl, v4, hr4, hf4⟩
 have H4 := Lib.hid (H3.out.step hr4 hf4)
 clear hr4 hf4 c0 H3
 go_wp2_with fail
 refine wp_region_put 5 (by kernel_rfl) (by kernel_rfl) (H4.out) (fun _ h => h.drew) ?_
 simp only [List.take_succ_cons, List.take_zero, List.drop_succ_cons, List.drop_zero]
 intro w5 h5
 have c0 := h5.blk.cell 1
 have H5 := Lib.hid h5
 simp at c0
 clear h5
 repeat still_step
 try refine wpStill_nil ?_
 go_wp2_with fail
 go_at_call 41; (with_reducible refine (w_num q.id (by have := HG.out.id1; omega) p p _ _ w5 H5.out.wr (by have := L1.out; simp; omega)).mono ?_); rintro e w6 ⟨rfl, v6, hr6, hf6⟩
 have H6 := Lib.hid (H5.out.step hr6 hf6)
 clear hr6 hf6 c0 H5
 go_wp2_with fail
 (refine wp_region_held_drew (S := fun w9 => Blk w9 i 63 (rqC (.slice A n c) q)) (by kernel_rfl) H6.out.drew.blk (fun hHeld => ?_))
 (refine tq 0 25 ?_)
 (try simp only [Act.put, z1, z2, z3])
 (refine tr (v := ?v106) 2 27 ?h106 ?_)
 case h106 => (intro w9 hSw; have hc9 := Blk.cell hSw; clear hSw; first | (go_simp; done) | (go_simp; with_reducible rfl))
 (try simp only [Act.put, z1, z2, z3])
 (refine tr (v := ?v107) 3 28 ?h107 ?_)
 case h107 => (intro w9 hSw; have hc9 := Blk.cell hSw; clear hSw; first | (go_simp; done) | (go_simp; with_reducible rfl))
 (try simp only [Act.put, z1, z2, z3])
 (refine tr (v := ?v108) 5 30 ?h108 ?_)
 case h108 => (intro w9 hSw; have hc9 := Blk.cell hSw; clear hSw; first | (go_simp; done) | (go_simp; with_reducible rfl))
 (try simp only [Act.put, z1, z2, z3])
 (refine wpAnyH_ready (rs := [1]) (by kernel_rfl) (by simp) ?_)
 (refine AllReadyH.cons (o := _) rfl (fun K hK => ?_) AllReadyH.nil)
 go_simp
 (with_reducible refine (oc_writers p _).mono ?_)
 rintro e w7 ⟨rfl, hm, hb⟩
 have hm : MapIs w7 w6.heap.size (wmap p) := hm
 have H7 := Lib.hid (H6.out.drew.kept hb)
 have hlk := hm.look Tryd.underlying101 Tryd.underlying3 q.kind _ (HF.out p) false
 clear hm hb
 go_simp
 (refine hK.out _ _ H7.out.blk (fun hHeld => ?_))
 clear hK K
 (try simp only [Act.put, z1, z2, z3])
 (refine wpAnyH_ready (rs := [4]) (by kernel_rfl) (by simp) ?_)
 (refine AllReadyH.cons (o := _) rfl (fun K hK => ?_) AllReadyH.nil)
 go_simp
 (refine hK.out _ _ H7.out.blk (fun hHeld => ?_))
 clear hK K
 (try simp only [Act.put, z1, z2, z3])
 (refine wpAnyH_ready (rs := [6]) (by kernel_rfl) (by simp) ?_)
 (refine AllReadyH.cons (o := _) rfl (fun K hK => ?_) AllReadyH.nil)
 go_simp
 (with_reducible refine (oc_bare (.slice A n c) q p p v6 _ w7 H7.out.wr).mono ?_)
 rintro e w8 ⟨rfl, v8, hr8, hf8⟩
 have H8 := Lib.hid (H7.out.step hr8 hf8)
 clear hr8 hf8
 go_simp
 (refine hK.out _ _ H8.out.blk (fun hHeld => ?_))
 clear hK K
 (try simp only [Act.put, z1, z2, z3])
 (refine wpAnyH_done (by kernel_rfl) ?_ _)
 have H9 := Lib.hid (show Oc w2 p p (.slice none 0 0) i 63 (rqC (.slice A n c) q) v8 (encRq q) w8 by
  have h := H8.out
  rw [HBODY.out]
  simpa using h)
 have HLEN := Lib.hid (show (encRq q).length ≤ 2000 by
  have := L1.out
  have := L2.out
  have := L3.out
  rw [HBODY.out]
  simp; omega)
 have HB8 := Lib.hid (HB2.out.trans ((H9.out.below HO2.out.wr).mono (by omega)))
 clear H8 hlk hm
 go_wp2_with fail
 go_at_call 43; (with_reducible refine (w_bytes p p v8 (encRq q) w8 H9.out.wr (by have := HLEN.out; omega)).mono ?_); rintro e w9 ⟨A9, rfl, hr9, hb9⟩
 have H10 := Lib.hid (show EncQ W (encRq q) (.returned (.tuple #[.slice A9 (encRq q).length (encRq q).length, .int .i64 0])) w9 from
  ⟨A9, rfl, hr9.lower (by have := HB8.out.size; omega), by rw [hi]; exact HB8.out.trans (hb9.mono (by have := HB8.out.size; omega))⟩)
 clear hr9 hb9
 generalize (encRq q).length = m at *
 go_wp2
 go_ret2
 exact H10.out

theorem encode_rq_get (A : Option Addr) (n c : Nat) (q : Rq) (W : World) (hk : q.kind = 1) (hl : q.cs.length = n) (hr : CellsRd W A q.cs) (hn : n ≤ 9223372036854775807) (hok : RqOk q) (h0 : checkRq q = 0) :
  Calls Tryd.prog 22 #[.agg (rqC (.slice A n c) q)] W (EncQ W (encRq q)) := by
 have hg := rq_good h0
 have HBODY := Lib.hid (show encRq q = sev q.kind.toNat ++ (sev q.id.toNat ++ (sev q.epoch.toNat ++ cellsE q.cs)) by unfold encRq bodyRq; simp [hk])
 have HF := Lib.hid (fun (p : Nat) => show (wmap p).find? (fun x => x.1 == q.kind) = some (q.kind, .func (.func 73) #[.pointer (some ⟨p, 0, none⟩)] #[]) by simp [wmap, hk])
 have hz : (checkRq q != 0) = false := by simpa using h0
 have hz0 := h0
 have HG := Lib.hid hg
 have HR := Lib.hid hr
 have HL := Lib.hid hl
 have HOK := Lib.hid hok
 have L1 := Lib.hid (sev_len10 q.kind.toNat (by have := hg.k7; omega))
 have L2 := Lib.hid (sev_len10 q.id.toNat (by have := hg.id1; omega))
 have L3 := Lib.hid (sev_len10 q.epoch.toNat (by have := hg.ep1; omega))
 have LB := Lib.hid (cellsE_len q.cs (fun x hx => (hg.cells x hx).S (by omega)))
 have HN1 := Lib.hid (hg.one hk)
 clear h0 hr hl hok hg hk
 have hc := (Blk.new W 63 (rqC (.slice A n c) q)).cell
 go_enter Tryd.func22, Tryd.ntmps22
 go_wp2_with fail
 go_at_call 40; (with_reducible refine (check_rq A n c q _ HL.out (HR.out.below ((Below.refl _ _).alloc (Nat.le_refl _) _)) hn HOK.out).mono ?_); rintro e w1 ⟨rfl, hb⟩
 have HK1 := Lib.hid ((Blk.new W 63 (rqC (.slice A n c) q)).kept hb)
 have HB1 := Lib.hid (((Below.refl W.heap.size W).alloc (Nat.le_refl _) (.cells (rqC (.slice A n c) q) 63)).trans (hb.mono (by simp)))
 clear hb hc
 generalize hi : W.heap.size = i at *
 have hlt := HK1.out.lt
 go_wp2_with fail
 obtain ⟨p, hp⟩ : ∃ p, p = w1.heap.size := ⟨_, rfl⟩
 obtain ⟨w2, hw2⟩ : ∃ w2, w2 = w1.alloc (.cells #[.slice none 0 0] 98) := ⟨_, rfl⟩
 have HO2 := Lib.hid (show Oc w2 p p (.slice none 0 0) i 63 (rqC (.slice A n c) q) (.slice none 0 0) [] w2 from by
  subst hw2 hp
  exact ⟨HK1.out.alloc _, out_new w1, WrFr.refl _ _ _, by simp [Value.ownBlock], by omega⟩)
 have HB2 := Lib.hid (show Below i W w2 by subst hw2; exact HB1.out.alloc (by have := HB1.out.size; omega) _)
 have HCL := Lib.hid (show CellsB p w2 A q.cs from by
  have h := hi ▸ HR.out.B
  exact (h.below HB2.out).mono (by omega))
 rw [← hw2, ← hp]
 have hip : i < p := by omega
 clear hw2 hp HK1 HB1 hlt HR
 refine wp_region_put 5 (by kernel_rfl) (by kernel_rfl) (HO2.out) (fun _ h => h.drew) ?_
 simp only [List.take_succ_cons, List.take_zero, List.drop_succ_cons, List.drop_zero]
 intro w3 h3
 have c0 := h3.blk.cell 0
 have H3 := Lib.hid h3
 simp at c0
 clear h3
 repeat still_step
 try refine wpStill_nil ?_
 go_wp2_with fail
 go_at_call 41; (with_reducible refine (w_num q.kind (by have := HG.out.k7; omega) p p _ [] w3 H3.out.wr (by simp)).mono ?_); rintro e w4 ⟨rfl, v4, hr4, hf4⟩
 have H4 := Lib.hid (H3.out.step hr4 hf4)
 clear hr4 hf4 c0 H3
 go_wp2_with fail
 refine wp_region_put 5 (by kernel_rfl) (by kernel_rfl) (H4.out) (fun _ h => h.drew) ?_
 simp only [List.take_succ_cons, List.take_zero, List.drop_succ_cons, List.drop_zero]
 intro w5 h5
 have c0 := h5.blk.cell 1
 have H5 := Lib.hid h5
 simp at c0
 clear h5
 repeat still_step
 try refine wpStill_nil ?_
 go_wp2_with fail
 go_at_call 41; (with_reducible refine (w_num q.id (by have := HG.out.id1; omega) p p _ _ w5 H5.out.wr (by have := L1.out; simp; omega)).mono ?_); rintro e w6 ⟨rfl, v6, hr6, hf6⟩
 have H6 := Lib.hid (H5.out.step hr6 hf6)
 clear hr6 hf6 c0 H5
 go_wp2_with fail
 (refine wp_region_held_drew (S := fun w9 => Blk w9 i 63 (rqC (.slice A n c) q)) (by kernel_rfl) H6.out.drew.blk (fun hHeld => ?_))
 (refine tq 0 25 ?_)
 (try simp only [Act.put, z1, z2, z3])
 (refine tr (v := ?v110) 2 27 ?h110 ?_)
 case h110 => (intro w9 hSw; have hc9 := Blk.cell hSw; clear hSw; first | (go_simp; done) | (go_simp; with_reducible rfl))
 (try simp only [Act.put, z1, z2, z3])
 (refine tr (v := ?v111) 3 28 ?h111 ?_)
 case h111 => (intro w9 hSw; have hc9 := Blk.cell hSw; clear hSw; first | (go_simp; done) | (go_simp; with_reducible rfl))
 (try simp only [Act.put, z1, z2, z3])
 (refine tr (v := ?v112) 5 30 ?h112 ?_)
 case h112 => (intro w9 hSw; have hc9 := Blk.cell hSw; clear hSw; first | (go_simp; done) | (go_simp; with_reducible rfl))
 (try simp only [Act.put, z1, z2, z3])
 (refine wpAnyH_ready (rs := [1]) (by kernel_rfl) (by simp) ?_)
 (refine AllReadyH.cons (o := _) rfl (fun K hK => ?_) AllReadyH.nil)
 go_simp
 (with_reducible refine (oc_writers p _).mono ?_)
 rintro e w7 ⟨rfl, hm, hb⟩
 have hm : MapIs w7 w6.heap.size (wmap p) := hm
 have H7 := Lib.hid (H6.out.drew.kept hb)
 have hlk := hm.look Tryd.underlying101 Tryd.underlying3 q.kind _ (HF.out p) false
 clear hm hb
 go_simp
 (refine hK.out _ _ H7.out.blk (fun hHeld => ?_))
 clear hK K
 (try simp only [Act.put, z1, z2, z3])
 (refine wpAnyH_ready (rs := [4]) (by kernel_rfl) (by simp) ?_)
 (refine AllReadyH.cons (o := _) rfl (fun K hK => ?_) AllReadyH.nil)
 go_simp
 (refine hK.out _ _ H7.out.blk (fun hHeld => ?_))
 clear hK K
 (try simp only [Act.put, z1, z2, z3])
 (refine wpAnyH_ready (rs := [6]) (by kernel_rfl) (by simp) ?_)
 (refine AllReadyH.cons (o := _) rfl (fun K hK => ?_) AllReadyH.nil)
 go_simp
 (with_reducible refine (oc_get A n c q HL.out (by have := HN1.out; have := HL.out; omega) (by have := HG.out.ep1; omega) (fun x hx => (HG.out.cells x hx).S (by omega)) p p v6 _ w7 (HCL.out.below (H7.out.below HO2.out.wr)) H7.out.wr (by have := L1.out; have := L2.out; simp; omega)).mono ?_)
 rintro e w8 ⟨rfl, v8, hr8, hf8⟩
 have H8 := Lib.hid (H7.out.step hr8 hf8)
 clear hr8 hf8
 go_simp
 (refine hK.out _ _ H8.out.blk (fun hHeld => ?_))
 clear hK K
 (try simp only [Act.put, z1, z2, z3])
 (refine wpAnyH_done (by kernel_rfl) ?_ _)
 have H9 := Lib.hid (show Oc w2 p p (.slice none 0 0) i 63 (rqC (.slice A n c) q) v8 (encRq q) w8 by
  have h := H8.out
  rw [HBODY.out]
  simpa using h)
 have HLEN := Lib.hid (show (encRq q).length ≤ 2000 by
  have := L1.out
  have := L2.out
  have := L3.out
  rw [HBODY.out]
  have := LB.out; have := HN1.out; simp; omega)
 have HB8 := Lib.hid (HB2.out.trans ((H9.out.below HO2.out.wr).mono (by omega)))
 clear H8 hlk hm
 go_wp2_with fail
 go_at_call 43; (with_reducible refine (w_bytes p p v8 (encRq q) w8 H9.out.wr (by have := HLEN.out; omega)).mono ?_); rintro e w9 ⟨A9, rfl, hr9, hb9⟩
 have H10 := Lib.hid (show EncQ W (encRq q) (.returned (.tuple #[.slice A9 (encRq q).length (encRq q).length, .int .i64 0])) w9 from
  ⟨A9, rfl, hr9.lower (by have := HB8.out.size; omega), by rw [hi]; exact HB8.out.trans (hb9.mono (by have := HB8.out.size; omega))⟩)
 clear hr9 hb9
 generalize (encRq q).length = m at *
 go_wp2
 go_ret2
 exact H10.out

theorem encode_rq_multi (A : Option Addr) (n c : Nat) (q : Rq) (W : World) (hk : q.kind = 2) (hl : q.cs.length = n) (hr : CellsRd W A q.cs) (hn : n ≤ 9223372036854775807) (hok : RqOk q) (h0 : checkRq q = 0) :
  Calls Tryd.prog 22 #[.agg (rqC (.slice A n c) q)] W (EncQ W (encRq q)) := by
 have hg := rq_good h0
 have HBODY := Lib.hid (show encRq q = sev q.kind.toNat ++ (sev q.id.toNat ++ (sev q.epoch.toNat ++ (sev q.cs.length ++ cellsE q.cs))) by unfold encRq bodyRq; simp [hk])
 have HF := Lib.hid (fun (p : Nat) => show (wmap p).find? (fun x => x.1 == q.kind) = some (q.kind, .func (.func 74) #[.pointer (some ⟨p, 0, none⟩)] #[]) by simp [wmap, hk])
 have hz : (checkRq q != 0) = false := by simpa using h0
 have hz0 := h0
 have HG := Lib.hid hg
 have HR := Lib.hid hr
 have HL := Lib.hid hl
 have HOK := Lib.hid hok
 have L1 := Lib.hid (sev_len10 q.kind.toNat (by have := hg.k7; omega))
 have L2 := Lib.hid (sev_len10 q.id.toNat (by have := hg.id1; omega))
 have L3 := Lib.hid (sev_len10 q.epoch.toNat (by have := hg.ep1; omega))
 have LB := Lib.hid (cellsE_len q.cs (fun x hx => (hg.cells x hx).S (by omega)))
 have LC := Lib.hid (sev_len10 q.cs.length (by have := hg.len; omega))
 clear h0 hr hl hok hg hk
 have hc := (Blk.new W 63 (rqC (.slice A n c) q)).cell
 go_enter Tryd.func22, Tryd.ntmps22
 go_wp2_with fail
 go_at_call 40; (with_reducible refine (check_rq A n c q _ HL.out (HR.out.below ((Below.refl _ _).alloc (Nat.le_refl _) _)) hn HOK.out).mono ?_); rintro e w1 ⟨rfl, hb⟩
 have HK1 := Lib.hid ((Blk.new W 63 (rqC (.slice A n c) q)).kept hb)
 have HB1 := Lib.hid (((Below.refl W.heap.size W).alloc (Nat.le_refl _) (.cells (rqC (.slice A n c) q) 63)).trans (hb.mono (by simp)))
 clear hb hc
 generalize hi : W.heap.size = i at *
 have hlt := HK1.out.lt
 go_wp2_with fail
 obtain ⟨p, hp⟩ : ∃ p, p = w1.heap.size := ⟨_, rfl⟩
 obtain ⟨w2, hw2⟩ : ∃ w2, w2 = w1.alloc (.cells #[.slice none 0 0] 98) := ⟨_, rfl⟩
 have HO2 := Lib.hid (show Oc w2 p p (.slice none 0 0) i 63 (rqC (.slice A n c) q) (.slice none 0 0) [] w2 from by
  subst hw2 hp
  exact ⟨HK1.out.alloc _, out_new w1, WrFr.refl _ _ _, by simp [Value.ownBlock], by omega⟩)
 have HB2 := Lib.hid (show Below i W w2 by subst hw2; exact HB1.out.alloc (by have := HB1.out.size; omega) _)
 have HCL := Lib.hid (show CellsB p w2 A q.cs from by
  have h := hi ▸ HR.out.B
  exact (h.below HB2.out).mono (by omega))
 rw [← hw2, ← hp]
 have hip : i < p := by omega
 clear hw2 hp HK1 HB1 hlt HR
 refine wp_region_put 5 (by kernel_rfl) (by kernel_rfl) (HO2.out) (fun _ h => h.drew) ?_
 simp only [List.take_succ_cons, List.take_zero, List.drop_succ_cons, List.drop_zero]
 intro w3 h3
 have c0 := h3.blk.cell 0
 have H3 := Lib.hid h3
 simp at c0
 clear h3
 repeat still_step
 try refine wpStill_nil ?_
 go_wp2_with fail
 go_at_call 41; (with_reducible refine (w_num q.kind (by have := HG.out.k7; omega) p p _ [] w3 H3.out.wr (by simp)).mono ?_); rintro e w4 ⟨rfl, v4, hr4, hf4⟩
 have H4 := Lib.hid (H3.out.step hr4 hf4)
 clear hr4 hf4 c0 H3
 go_wp2_with fail
 refine wp_region_put 5 (by kernel_rfl) (by kernel_rfl) (H4.out) (fun _ h => h.drew) ?_
 simp only [List.take_succ_cons, List.take_zero, List.drop_succ_cons, List.drop_zero]
 intro w5 h5
 have c0 := h5.blk.cell 1
 have H5 := Lib.hid h5
 simp at c0
 clear h5
 repeat still_step
 try refine wpStill_nil ?_
 go_wp2_with fail
 go_at_call 41; (with_reducible refine (w_num q.id (by have := HG.out.id1; omega) p p _ _ w5 H5.out.wr (by have := L1.out; simp; omega)).mono ?_); rintro e w6 ⟨rfl, v6, hr6, hf6⟩
 have H6 := Lib.hid (H5.out.step hr6 hf6)
 clear hr6 hf6 c0 H5
 go_wp2_with fail
 (refine wp_region_held_drew (S := fun w9 => Blk w9 i 63 (rqC (.slice A n c) q)) (by kernel_rfl) H6.out.drew.blk (fun hHeld => ?_))
 (refine tq 0 25 ?_)
 (try simp only [Act.put, z1, z2, z3])
 (refine tr (v := ?v114) 2 27 ?h114 ?_)
 case h114 => (intro w9 hSw; have hc9 := Blk.cell hSw; clear hSw; first | (go_simp; done) | (go_simp; with_reducible rfl))
 (try simp only [Act.put, z1, z2, z3])
 (refine tr (v := ?v115) 3 28 ?h115 ?_)
 case h115 => (intro w9 hSw; have hc9 := Blk.cell hSw; clear hSw; first | (go_simp; done) | (go_simp; with_reducible rfl))
 (try simp only [Act.put, z1, z2, z3])
 (refine tr (v := ?v116) 5 30 ?h116 ?_)
 case h116 => (intro w9 hSw; have hc9 := Blk.cell hSw; clear hSw; first | (go_simp; done) | (go_simp; with_reducible rfl))
 (try simp only [Act.put, z1, z2, z3])
 (refine wpAnyH_ready (rs := [1]) (by kernel_rfl) (by simp) ?_)
 (refine AllReadyH.cons (o := _) rfl (fun K hK => ?_) AllReadyH.nil)
 go_simp
 (with_reducible refine (oc_writers p _).mono ?_)
 rintro e w7 ⟨rfl, hm, hb⟩
 have hm : MapIs w7 w6.heap.size (wmap p) := hm
 have H7 := Lib.hid (H6.out.drew.kept hb)
 have hlk := hm.look Tryd.underlying101 Tryd.underlying3 q.kind _ (HF.out p) false
 clear hm hb
 go_simp
 (refine hK.out _ _ H7.out.blk (fun hHeld => ?_))
 clear hK K
 (try simp only [Act.put, z1, z2, z3])
 (refine wpAnyH_ready (rs := [4]) (by kernel_rfl) (by simp) ?_)
 (refine AllReadyH.cons (o := _) rfl (fun K hK => ?_) AllReadyH.nil)
 go_simp
 (refine hK.out _ _ H7.out.blk (fun hHeld => ?_))
 clear hK K
 (try simp only [Act.put, z1, z2, z3])
 (refine wpAnyH_ready (rs := [6]) (by kernel_rfl) (by simp) ?_)
 (refine AllReadyH.cons (o := _) rfl (fun K hK => ?_) AllReadyH.nil)
 go_simp
 (with_reducible refine (oc_multi A n c q HL.out (by have := HG.out.len; have := HL.out; omega) (by have := HG.out.ep1; omega) (fun x hx => (HG.out.cells x hx).S (by omega)) p p v6 _ w7 (HCL.out.below (H7.out.below HO2.out.wr)) H7.out.wr (by have := L1.out; have := L2.out; simp; omega)).mono ?_)
 rintro e w8 ⟨rfl, v8, hr8, hf8⟩
 have H8 := Lib.hid (H7.out.step hr8 hf8)
 clear hr8 hf8
 go_simp
 (refine hK.out _ _ H8.out.blk (fun hHeld => ?_))
 clear hK K
 (try simp only [Act.put, z1, z2, z3])
 (refine wpAnyH_done (by kernel_rfl) ?_ _)
 have H9 := Lib.hid (show Oc w2 p p (.slice none 0 0) i 63 (rqC (.slice A n c) q) v8 (encRq q) w8 by
  have h := H8.out
  rw [HBODY.out]
  simpa using h)
 have HLEN := Lib.hid (show (encRq q).length ≤ 2000 by
  have := L1.out
  have := L2.out
  have := L3.out
  rw [HBODY.out]
  have := LB.out; have := LC.out; have := HG.out.len; simp; omega)
 have HB8 := Lib.hid (HB2.out.trans ((H9.out.below HO2.out.wr).mono (by omega)))
 clear H8 hlk hm
 go_wp2_with fail
 go_at_call 43; (with_reducible refine (w_bytes p p v8 (encRq q) w8 H9.out.wr (by have := HLEN.out; omega)).mono ?_); rintro e w9 ⟨A9, rfl, hr9, hb9⟩
 have H10 := Lib.hid (show EncQ W (encRq q) (.returned (.tuple #[.slice A9 (encRq q).length (encRq q).length, .int .i64 0])) w9 from
  ⟨A9, rfl, hr9.lower (by have := HB8.out.size; omega), by rw [hi]; exact HB8.out.trans (hb9.mono (by have := HB8.out.size; omega))⟩)
 clear hr9 hb9
 generalize (encRq q).length = m at *
 go_wp2
 go_ret2
 exact H10.out

theorem encode_rq_scan (A : Option Addr) (n c : Nat) (q : Rq) (W : World) (hk : q.kind = 3) (hl : q.cs.length = n) (hr : CellsRd W A q.cs) (hn : n ≤ 9223372036854775807) (hok : RqOk q) (h0 : checkRq q = 0) :
  Calls Tryd.prog 22 #[.agg (rqC (.slice A n c) q)] W (EncQ W (encRq q)) := by
 have hg := rq_good h0
 have HBODY := Lib.hid (show encRq q = sev q.kind.toNat ++ (sev q.id.toNat ++ (sev q.epoch.toNat ++ (cellE q.frm ++ (cellE q.too ++ sev q.limit.toNat)))) by unfold encRq bodyRq; simp [hk])
 have HF := Lib.hid (fun (p : Nat) => show (wmap p).find? (fun x => x.1 == q.kind) = some (q.kind, .func (.func 75) #[.pointer (some ⟨p, 0, none⟩)] #[]) by simp [wmap, hk])
 have hz : (checkRq q != 0) = false := by simpa using h0
 have hz0 := h0
 have HG := Lib.hid hg
 have HR := Lib.hid hr
 have HL := Lib.hid hl
 have HOK := Lib.hid hok
 have L1 := Lib.hid (sev_len10 q.kind.toNat (by have := hg.k7; omega))
 have L2 := Lib.hid (sev_len10 q.id.toNat (by have := hg.id1; omega))
 have L3 := Lib.hid (sev_len10 q.epoch.toNat (by have := hg.ep1; omega))
 have LB := Lib.hid (cellE_len ((hg.scan hk).1.S (by omega)))
 have LC := Lib.hid (cellE_len ((hg.scan hk).2.1.S (by omega)))
 have LD := Lib.hid (sev_len10 q.limit.toNat (by have := (hg.scan hk).2.2; omega))
 have HSC := Lib.hid (hg.scan hk)
 clear h0 hr hl hok hg hk
 have hc := (Blk.new W 63 (rqC (.slice A n c) q)).cell
 go_enter Tryd.func22, Tryd.ntmps22
 go_wp2_with fail
 go_at_call 40; (with_reducible refine (check_rq A n c q _ HL.out (HR.out.below ((Below.refl _ _).alloc (Nat.le_refl _) _)) hn HOK.out).mono ?_); rintro e w1 ⟨rfl, hb⟩
 have HK1 := Lib.hid ((Blk.new W 63 (rqC (.slice A n c) q)).kept hb)
 have HB1 := Lib.hid (((Below.refl W.heap.size W).alloc (Nat.le_refl _) (.cells (rqC (.slice A n c) q) 63)).trans (hb.mono (by simp)))
 clear hb hc
 generalize hi : W.heap.size = i at *
 have hlt := HK1.out.lt
 go_wp2_with fail
 obtain ⟨p, hp⟩ : ∃ p, p = w1.heap.size := ⟨_, rfl⟩
 obtain ⟨w2, hw2⟩ : ∃ w2, w2 = w1.alloc (.cells #[.slice none 0 0] 98) := ⟨_, rfl⟩
 have HO2 := Lib.hid (show Oc w2 p p (.slice none 0 0) i 63 (rqC (.slice A n c) q) (.slice none 0 0) [] w2 from by
  subst hw2 hp
  exact ⟨HK1.out.alloc _, out_new w1, WrFr.refl _ _ _, by simp [Value.ownBlock], by omega⟩)
 have HB2 := Lib.hid (show Below i W w2 by subst hw2; exact HB1.out.alloc (by have := HB1.out.size; omega) _)
 have HCL := Lib.hid (show CellsB p w2 A q.cs from by
  have h := hi ▸ HR.out.B
  exact (h.below HB2.out).mono (by omega))
 rw [← hw2, ← hp]
 have hip : i < p := by omega
 clear hw2 hp HK1 HB1 hlt HR
 refine wp_region_put 5 (by kernel_rfl) (by kernel_rfl) (HO2.out) (fun _ h => h.drew) ?_
 simp only [List.take_succ_cons, List.take_zero, List.drop_succ_cons, List.drop_zero]
 intro w3 h3
 have c0 := h3.blk.cell 0
 have H3 := Lib.hid h3
 simp at c0
 clear h3
 repeat still_step
 try refine wpStill_nil ?_
 go_wp2_with fail
 go_at_call 41; (with_reducible refine (w_num q.kind (by have := HG.out.k7; omega) p p _ [] w3 H3.out.wr (by simp)).mono ?_); rintro e w4 ⟨rfl, v4, hr4, hf4⟩
 have H4 := Lib.hid (H3.out.step hr4 hf4)
 clear hr4 hf4 c0 H3
 go_wp2_with fail
 refine wp_region_put 5 (by kernel_rfl) (by kernel_rfl) (H4.out) (fun _ h => h.drew) ?_
 simp only [List.take_succ_cons, List.take_zero, List.drop_succ_cons, List.drop_zero]
 intro w5 h5
 have c0 := h5.blk.cell 1
 have H5 := Lib.hid h5
 simp at c0
 clear h5
 repeat still_step
 try refine wpStill_nil ?_
 go_wp2_with fail
 go_at_call 41; (with_reducible refine (w_num q.id (by have := HG.out.id1; omega) p p _ _ w5 H5.out.wr (by have := L1.out; simp; omega)).mono ?_); rintro e w6 ⟨rfl, v6, hr6, hf6⟩
 have H6 := Lib.hid (H5.out.step hr6 hf6)
 clear hr6 hf6 c0 H5
 go_wp2_with fail
 (refine wp_region_held_drew (S := fun w9 => Blk w9 i 63 (rqC (.slice A n c) q)) (by kernel_rfl) H6.out.drew.blk (fun hHeld => ?_))
 (refine tq 0 25 ?_)
 (try simp only [Act.put, z1, z2, z3])
 (refine tr (v := ?v118) 2 27 ?h118 ?_)
 case h118 => (intro w9 hSw; have hc9 := Blk.cell hSw; clear hSw; first | (go_simp; done) | (go_simp; with_reducible rfl))
 (try simp only [Act.put, z1, z2, z3])
 (refine tr (v := ?v119) 3 28 ?h119 ?_)
 case h119 => (intro w9 hSw; have hc9 := Blk.cell hSw; clear hSw; first | (go_simp; done) | (go_simp; with_reducible rfl))
 (try simp only [Act.put, z1, z2, z3])
 (refine tr (v := ?v120) 5 30 ?h120 ?_)
 case h120 => (intro w9 hSw; have hc9 := Blk.cell hSw; clear hSw; first | (go_simp; done) | (go_simp; with_reducible rfl))
 (try simp only [Act.put, z1, z2, z3])
 (refine wpAnyH_ready (rs := [1]) (by kernel_rfl) (by simp) ?_)
 (refine AllReadyH.cons (o := _) rfl (fun K hK => ?_) AllReadyH.nil)
 go_simp
 (with_reducible refine (oc_writers p _).mono ?_)
 rintro e w7 ⟨rfl, hm, hb⟩
 have hm : MapIs w7 w6.heap.size (wmap p) := hm
 have H7 := Lib.hid (H6.out.drew.kept hb)
 have hlk := hm.look Tryd.underlying101 Tryd.underlying3 q.kind _ (HF.out p) false
 clear hm hb
 go_simp
 (refine hK.out _ _ H7.out.blk (fun hHeld => ?_))
 clear hK K
 (try simp only [Act.put, z1, z2, z3])
 (refine wpAnyH_ready (rs := [4]) (by kernel_rfl) (by simp) ?_)
 (refine AllReadyH.cons (o := _) rfl (fun K hK => ?_) AllReadyH.nil)
 go_simp
 (refine hK.out _ _ H7.out.blk (fun hHeld => ?_))
 clear hK K
 (try simp only [Act.put, z1, z2, z3])
 (refine wpAnyH_ready (rs := [6]) (by kernel_rfl) (by simp) ?_)
 (refine AllReadyH.cons (o := _) rfl (fun K hK => ?_) AllReadyH.nil)
 go_simp
 (with_reducible refine (oc_scan (.slice A n c) q (by have := HG.out.ep1; omega) (by have := HSC.out.2.2; omega) (HSC.out.1.S (by omega)) (HSC.out.2.1.S (by omega)) p p v6 _ w7 H7.out.wr (by have := L1.out; have := L2.out; simp; omega)).mono ?_)
 rintro e w8 ⟨rfl, v8, hr8, hf8⟩
 have H8 := Lib.hid (H7.out.step hr8 hf8)
 clear hr8 hf8
 go_simp
 (refine hK.out _ _ H8.out.blk (fun hHeld => ?_))
 clear hK K
 (try simp only [Act.put, z1, z2, z3])
 (refine wpAnyH_done (by kernel_rfl) ?_ _)
 have H9 := Lib.hid (show Oc w2 p p (.slice none 0 0) i 63 (rqC (.slice A n c) q) v8 (encRq q) w8 by
  have h := H8.out
  rw [HBODY.out]
  simpa using h)
 have HLEN := Lib.hid (show (encRq q).length ≤ 2000 by
  have := L1.out
  have := L2.out
  have := L3.out
  rw [HBODY.out]
  have := LB.out; have := LC.out; have := LD.out; simp; omega)
 have HB8 := Lib.hid (HB2.out.trans ((H9.out.below HO2.out.wr).mono (by omega)))
 clear H8 hlk hm
 go_wp2_with fail
 go_at_call 43; (with_reducible refine (w_bytes p p v8 (encRq q) w8 H9.out.wr (by have := HLEN.out; omega)).mono ?_); rintro e w9 ⟨A9, rfl, hr9, hb9⟩
 have H10 := Lib.hid (show EncQ W (encRq q) (.returned (.tuple #[.slice A9 (encRq q).length (encRq q).length, .int .i64 0])) w9 from
  ⟨A9, rfl, hr9.lower (by have := HB8.out.size; omega), by rw [hi]; exact HB8.out.trans (hb9.mono (by have := HB8.out.size; omega))⟩)
 clear hr9 hb9
 generalize (encRq q).length = m at *
 go_wp2
 go_ret2
 exact H10.out

theorem encode_rq (A : Option Addr) (n c : Nat) (q : Rq) (W : World) (hl : q.cs.length = n) (hr : CellsRd W A q.cs) (hn : n ≤ 9223372036854775807) (hok : RqOk q) (h0 : checkRq q = 0) :
  Calls Tryd.prog 22 #[.agg (rqC (.slice A n c) q)] W (EncQ W (encRq q)) := by
 have hg := rq_good h0
 obtain h | h | h | h | h : q.kind = 1 ∨ q.kind = 2 ∨ q.kind = 3 ∨ (q.kind = 4 ∨ q.kind = 7) ∨ (q.kind = 5 ∨ q.kind = 6) := by have := hg.k1; have := hg.k7; omega
 ·exact encode_rq_get A n c q W h hl hr hn hok h0
 ·exact encode_rq_multi A n c q W h hl hr hn hok h0
 ·exact encode_rq_scan A n c q W h hl hr hn hok h0
 ·exact encode_rq_bare A n c q W h hl hr hn hok h0
 ·exact encode_rq_epoch A n c q W h hl hr hn hok h0
end Go.Proofs.YtglbdbghcdoicaaDoor
