/- The document's EncodeRequest. The document's EncodeResponse. -/
import Derived.Test.YtglbdbghcdoicaaGreatDoorWRef
import Derived.Test.YtglbdbghcdoicaaGreatDoorCFrs
import Derived.Test.YtglbdbghcdoicaaGreatDoorCRCheckRq
import Derived.Test.YtglbdbghcdoicaaGreatDoorCRCheckRs
namespace Go.Proofs.YtglbdbghcdoicaaGreatDoor
open Go.RowKit
set_option maxRecDepth 100000
set_option maxHeartbeats 32000000

/-- A row of the caller's own behind Wb, with a bound on its length. -/
structure OwL (Wb w : World) (v : Value) (bs : List Int) (N : Nat) : Prop where
 ow : Ow w Wb.heap.size v bs
 below : Below Wb.heap.size Wb w
 len : bs.length ≤ N
section
variable {Wb w w1 : World} {v : Value} {bs : List Int} {N : Nat}
theorem OwL.start (hb : Below Wb.heap.size Wb w) : OwL Wb w (.slice none 0 0) [] 0 := ⟨Ow.nil _ _, hb, Nat.le_refl _⟩
theorem OwL.kept (h : OwL Wb w v bs N) (hb : Below w.heap.size w w1) : OwL Wb w1 v bs N := ⟨h.ow.kept hb, below_step h.below hb (Nat.le_refl _), h.len⟩
theorem OwL.step {v' : Value} {more : List Int} {K : Nat} (h : OwL Wb w v bs N) (ho : Ow w1 Wb.heap.size v' (bs ++ more)) (hf : OwFr w v w1 v') (hl : more.length ≤ K) : OwL Wb w1 v' (bs ++ more) (N + K) :=
 ⟨ho, h.below.trans (h.ow.fr_below hf h.below.size), by rw [List.length_append]; have := h.len; omega⟩
theorem OwL.to {bs' : List Int} {N' : Nat} (h : OwL Wb w v bs N) (e : bs = bs') (hn : N ≤ N') : OwL Wb w v bs' N' := ⟨e ▸ h.ow, h.below, by rw [← e]; exact Nat.le_trans h.len hn⟩
end
theorem owl_num {Wb w : World} {v : Value} {bs : List Int} {N : Nat} (h : OwL Wb w v bs N) (x : Int) (hx : x ≤ 9223372036854775807) (hN : N ≤ 10000000) :
  Calls Tryz.prog 80 #[v, .int .i64 x] w fun e w' => ∃ v', e = .returned v' ∧ OwL Wb w' v' (bs ++ sev x.toNat) (N + 10) ∧ OwFr w v w' v' := by
 refine (ref_num x hx Wb.heap.size v bs w h.ow h.below.size (by have := h.len; omega)).mono ?_
 rintro e w' ⟨v', rfl, ho, hf⟩
 exact ⟨v', rfl, h.step ho hf (sev_len10 _ (by omega)), hf⟩
theorem owl_int {Wb w : World} {v : Value} {bs : List Int} {N : Nat} (h : OwL Wb w v bs N) (x : Int) (hx : I64C x) (hN : N ≤ 10000000) :
  Calls Tryz.prog 83 #[v, .int .i64 x] w fun e w' => ∃ v', e = .returned v' ∧ OwL Wb w' v' (bs ++ sev (zz x)) (N + 10) ∧ OwFr w v w' v' := by
 refine (ref_int x hx.lo hx.hi Wb.heap.size v bs w h.ow h.below.size (by have := h.len; omega)).mono ?_
 rintro e w' ⟨v', rfl, ho, hf⟩
 exact ⟨v', rfl, h.step ho hf (sev_len10 _ (zz_lt hx)), hf⟩
theorem owl_text {Wb w : World} {v : Value} {bs : List Int} {N : Nat} (h : OwL Wb w v bs N) (s : ByteArray) (hs : s.size ≤ 32) (hN : N ≤ 10000000) :
  Calls Tryz.prog 125 #[v, .string s] w fun e w' => ∃ v', e = .returned v' ∧ OwL Wb w' v' (bs ++ (sev s.size ++ strB s)) (N + 42) ∧ OwFr w v w' v' := by
 refine (ref_text s Wb.heap.size v bs w h.ow h.below.size (by have := h.len; omega)).mono ?_
 rintro e w' ⟨v', rfl, ho, hf⟩
 refine ⟨v', rfl, h.step (by rw [← List.append_assoc]; exact ho) hf ?_, hf⟩
 rw [List.length_append, strB_len]
 have := sev_len10 s.size (by omega)
 omega
theorem owl_cell {Wb w : World} {v : Value} {bs : List Int} {N : Nat} (h : OwL Wb w v bs N) (x : CellV) (hx : CellS x) (hN : N ≤ 1000000) :
  Calls Tryz.prog 81 #[v, cellV x] w fun e w' => ∃ v', e = .returned v' ∧ OwL Wb w' v' (bs ++ cellE x) (N + 62) ∧ OwFr w v w' v' := by
 have HX := Lib.hid hx
 have H0 := Lib.hid (h.kept ((Below.refl w.heap.size w).alloc (Nat.le_refl _) (.cells #[.int .i64 x.view, .string x.key, .int .i64 x.start] 41)))
 have HN := Lib.hid hN
 have K0 := Lib.hid (Blk.new w 41 #[.int .i64 x.view, .string x.key, .int .i64 x.start])
 have hc0 := K0.out.cell
 have NE := Lib.hid (show ∀ k, v.ownBlock = some k → w.heap.size ≠ k from fun k e => by have := (h.ow.lt k e).2; omega)
 have F0 := Lib.hid (OwFr.of_below ((Below.refl w.heap.size w).alloc (Nat.le_refl _) (.cells #[.int .i64 x.view, .string x.key, .int .i64 x.start] 41)) v)
 clear h hx hN
 go_enter Tryz.func81, Tryz.ntmps81
 go_wp2_with fail
 generalize w.alloc (.cells #[.int .i64 x.view, .string x.key, .int .i64 x.start] 41) = w0 at *
 go_at_call 80; (with_reducible refine (owl_num H0.out x.view HX.out.view.hi (by have := HN.out; omega)).mono ?_); rintro e w1 ⟨v1, rfl, h1, hf1⟩
 have H1 := Lib.hid h1
 have F1 := Lib.hid hf1
 have hc1 := (K0.out.tur F1.out.1 (fun e => NE.out _ e rfl)).cell
 clear h1 hf1 hc0
 go_wp2_with fail
 go_at_call 125; (with_reducible refine (owl_text H1.out x.key HX.out.key (by have := HN.out; omega)).mono ?_); rintro e w2 ⟨v2, rfl, h2, hf2⟩
 have H2 := Lib.hid h2
 have F2 := Lib.hid (F1.out.trans hf2)
 have hc2 := (K0.out.tur F2.out.1 (fun e => NE.out _ e rfl)).cell
 clear h2 hf2 hc1 F1
 go_wp2_with fail
 go_at_call 83; (with_reducible refine (owl_int H2.out x.start HX.out.start (by have := HN.out; omega)).mono ?_); rintro e w3 ⟨v3, rfl, h3, hf3⟩
 have H3 := Lib.hid h3
 have F3 := Lib.hid (F0.out.trans (F2.out.trans hf3))
 clear h3 hf3 hc2 F2
 go_wp2
 go_ret
 exact ⟨v3, rfl, H3.out.to (by unfold cellE; simp only [List.append_assoc]) (by omega), F3.out⟩
def RefQ (W : World) (bs : List Int) (e : Ending) (w' : World) : Prop := ∃ v, e = .returned (.tuple #[v, .int .i64 0]) ∧ Ow w' W.heap.size v bs ∧ Below W.heap.size W w'
theorem OwL.fin {W Wb w : World} {v : Value} {bs : List Int} {N : Nat} (h : OwL Wb w v bs N) (hb : Below W.heap.size W Wb) : Ow w W.heap.size v bs ∧ Below W.heap.size W w := by
 refine ⟨⟨h.ow.1, ?_⟩, hb.trans (h.below.mono hb.size)⟩
 rcases h.ow.2 with h2 | ⟨g, cap, cur, e, hg, r⟩
 ·exact .inl h2
 ·exact .inr ⟨g, cap, cur, e, Nat.le_trans hb.size hg, r⟩
theorem ref_rq_get (A : Option Addr) (n c : Nat) (q : Rq) (W : World) (hk : q.kind = 1) (hq : RqA W A n q) (h0 : checkRq q = 0) :
  Calls Tryz.prog 55 #[.agg (rqC (.slice A n c) q)] W (RefQ W (encRq q)) := by
 have hg := rq_good h0
 have BW := Lib.hid ((Below.refl W.heap.size W).alloc (Nat.le_refl _) (.cells (rqC (.slice A n c) q) 43))
 have K := Lib.hid (Blk.new W 43 (rqC (.slice A n c) q))
 have CC := Lib.hid (rcheck_rq A n c q _ hq.len (hq.below BW.out).rd hq.big hq.ok)
 rw [h0] at CC
 have HR := Lib.hid (hq.below BW.out).rd
 have HL := Lib.hid hq.len
 have hE : encRq q = sev q.kind.toNat ++ (sev q.id.toNat ++ bodyRq q) := rfl
 have HE := Lib.hid hE
 clear hE hq h0
 obtain ⟨kind, id, ep, cs, ⟨fv, fk, fs⟩, ⟨tv, tk, ts⟩, lim⟩ := q
 have HG := Lib.hid hg
 have hk0 : kind = 1 := hk
 have hid : 0 ≤ id ∧ id ≤ 1099511627776 := ⟨hg.id0, hg.id1⟩
 have hep : 0 ≤ ep ∧ ep ≤ 1099511627776 := ⟨hg.ep0, hg.ep1⟩
 clear hg hk
 subst hk0
 have hcb := K.out.cell
 go_enter Tryz.func55, Tryz.ntmps55
 go_wp2_with fail
 generalize hWb : W.alloc (.cells (rqC (.slice A n c) ⟨1, id, ep, cs, ⟨fv, fk, fs⟩, ⟨tv, tk, ts⟩, lim⟩) 43) = Wb at *
 clear hWb
 go_at_call 79; (with_reducible refine CC.out.mono ?_); rintro e w1 ⟨rfl, hb1⟩
 have H1 := Lib.hid (OwL.start hb1)
 have hcb := (K.out.kept H1.out.below).cell
 clear hb1 CC
 go_wp2_with fail
 go_at_call 80; (with_reducible refine (owl_num H1.out 1 (by decide) (by omega)).mono ?_); rintro e w2 ⟨v2, rfl, h, _⟩
 have H2 := Lib.hid h
 clear h hcb H1
 have hcb := (K.out.kept H2.out.below).cell
 go_wp2_with fail
 go_at_call 80; (with_reducible refine (owl_num H2.out id (by omega) (by omega)).mono ?_); rintro e w3 ⟨v3, rfl, h, _⟩
 have H3 := Lib.hid h
 clear h hcb H2
 have hcb := (K.out.kept H3.out.below).cell
 go_wp2_with fail
 go_at_call 80; (with_reducible refine (owl_num H3.out ep (by omega) (by omega)).mono ?_); rintro e w4 ⟨v4, rfl, h, _⟩
 have H4 := Lib.hid h
 clear h hcb H3
 have hcb := (K.out.kept H4.out.below).cell
 go_wp2_with fail
 obtain ⟨pre, HPRE, H10⟩ : ∃ pre, Hid (pre = [] ++ sev (1 : Int).toNat ++ sev (id : Int).toNat ++ sev (ep : Int).toNat) ∧ Hid (OwL Wb w4 v4 pre 30) := ⟨_, Lib.hid rfl, H4⟩
 clear hcb H4
 go_loopw [5, 6] (fun t5 t6 wz => ∃ k : Nat, t6 = .int .i64 (k : Int) ∧ k ≤ n ∧ Hid (OwL Wb wz t5 (pre ++ cellsE (cs.take k)) (30 + 62 * k))) (fun _ t6 _ => n - (intOf t6).toNat)
 case atStart => exact ⟨0, rfl, Nat.zero_le _, Lib.hid (H10.out.to (by simp [cellsE]) (by omega))⟩
 case round =>
  obtain ⟨k, rfl, hkn, HP⟩ := hrel
  rename World => wz
  have hcb := (K.out.kept HP.out.below).cell
  have h16 : n ≤ 16 := by have h := HG.out.len; have h2 := HL.out; dsimp only at h; omega
  by_cases hlt : k < n
  ·have hkx : k < cs.length := by have h2 := HL.out; omega
   obtain ⟨ad, rfl, a0, a1, a2⟩ := CellsB.at HR.out HP.out.below k hkx
   have HS := Lib.hid (show cellsE (cs.take (k + 1)) = cellsE (cs.take k) ++ cellE cs[k] from fm_take cellE cs k hkx)
   have HX := Lib.hid ((HG.out.cells cs[k] (List.getElem_mem _)).S (by decide))
   generalize cs[k] = x at *
   go_wp2_with fail
   go_at_call 81; (with_reducible refine (owl_cell HP.out x HX.out (by omega)).mono ?_); rintro e wy ⟨vy, rfl, h, _⟩
   have HY := Lib.hid h
   clear h hcb a0 a1 a2
   go_wp2
   go_roundw
   case rel => exact ⟨k + 1, by go_num, by omega, Lib.hid (HY.out.to (by rw [HS.out, List.append_assoc]) (by omega))⟩
   case measure => simp [intOf]; omega
  ·have HT := Lib.hid (show cs.take k = cs by rw [List.take_of_length_le (by have h2 := HL.out; omega)])
   have H20 := Lib.hid (HP.out.to (bs' := pre ++ cellsE cs) (N' := 2000) (by rw [HT.out]) (by omega))
   clear HP HT
   go_wp2
   go_ret2
   have hf := H20.out.fin BW.out
   refine ⟨_, rfl, ?_, hf.2⟩
   have h := hf.1
   rw [HE.out]
   rw [HPRE.out] at h
   simpa [bodyRq, cellsE, HL.out, List.append_assoc] using h
theorem ref_rq_multi (A : Option Addr) (n c : Nat) (q : Rq) (W : World) (hk : q.kind = 2) (hq : RqA W A n q) (h0 : checkRq q = 0) :
  Calls Tryz.prog 55 #[.agg (rqC (.slice A n c) q)] W (RefQ W (encRq q)) := by
 have hg := rq_good h0
 have BW := Lib.hid ((Below.refl W.heap.size W).alloc (Nat.le_refl _) (.cells (rqC (.slice A n c) q) 43))
 have K := Lib.hid (Blk.new W 43 (rqC (.slice A n c) q))
 have CC := Lib.hid (rcheck_rq A n c q _ hq.len (hq.below BW.out).rd hq.big hq.ok)
 rw [h0] at CC
 have HR := Lib.hid (hq.below BW.out).rd
 have HL := Lib.hid hq.len
 have hE : encRq q = sev q.kind.toNat ++ (sev q.id.toNat ++ bodyRq q) := rfl
 have HE := Lib.hid hE
 clear hE hq h0
 obtain ⟨kind, id, ep, cs, ⟨fv, fk, fs⟩, ⟨tv, tk, ts⟩, lim⟩ := q
 have HG := Lib.hid hg
 have hk0 : kind = 2 := hk
 have hid : 0 ≤ id ∧ id ≤ 1099511627776 := ⟨hg.id0, hg.id1⟩
 have hep : 0 ≤ ep ∧ ep ≤ 1099511627776 := ⟨hg.ep0, hg.ep1⟩
 clear hg hk
 subst hk0
 have hcb := K.out.cell
 go_enter Tryz.func55, Tryz.ntmps55
 go_wp2_with fail
 generalize hWb : W.alloc (.cells (rqC (.slice A n c) ⟨2, id, ep, cs, ⟨fv, fk, fs⟩, ⟨tv, tk, ts⟩, lim⟩) 43) = Wb at *
 clear hWb
 go_at_call 79; (with_reducible refine CC.out.mono ?_); rintro e w1 ⟨rfl, hb1⟩
 have H1 := Lib.hid (OwL.start hb1)
 have hcb := (K.out.kept H1.out.below).cell
 clear hb1 CC
 go_wp2_with fail
 go_at_call 80; (with_reducible refine (owl_num H1.out 2 (by decide) (by omega)).mono ?_); rintro e w2 ⟨v2, rfl, h, _⟩
 have H2 := Lib.hid h
 clear h hcb H1
 have hcb := (K.out.kept H2.out.below).cell
 go_wp2_with fail
 go_at_call 80; (with_reducible refine (owl_num H2.out id (by omega) (by omega)).mono ?_); rintro e w3 ⟨v3, rfl, h, _⟩
 have H3 := Lib.hid h
 clear h hcb H2
 have hcb := (K.out.kept H3.out.below).cell
 go_wp2_with fail
 go_at_call 80; (with_reducible refine (owl_num H3.out ep (by omega) (by omega)).mono ?_); rintro e w4 ⟨v4, rfl, h, _⟩
 have H4 := Lib.hid h
 clear h hcb H3
 have hcb := (K.out.kept H4.out.below).cell
 go_wp2_with fail
 go_at_call 80; (with_reducible refine (owl_num H4.out (n : Int) (by have h := HG.out.len; have h2 := HL.out; dsimp only at h; omega) (by omega)).mono ?_); rintro e w5 ⟨v5, rfl, h, _⟩
 have H5 := Lib.hid h
 clear h hcb H4
 have hcb := (K.out.kept H5.out.below).cell
 go_wp2_with fail
 obtain ⟨pre, HPRE, H10⟩ : ∃ pre, Hid (pre = [] ++ sev (2 : Int).toNat ++ sev (id : Int).toNat ++ sev (ep : Int).toNat ++ sev ((n : Int) : Int).toNat) ∧ Hid (OwL Wb w5 v5 pre 40) := ⟨_, Lib.hid rfl, H5⟩
 clear hcb H5
 go_loopw [5, 6] (fun t5 t6 wz => ∃ k : Nat, t6 = .int .i64 (k : Int) ∧ k ≤ n ∧ Hid (OwL Wb wz t5 (pre ++ cellsE (cs.take k)) (40 + 62 * k))) (fun _ t6 _ => n - (intOf t6).toNat)
 case atStart => exact ⟨0, rfl, Nat.zero_le _, Lib.hid (H10.out.to (by simp [cellsE]) (by omega))⟩
 case round =>
  obtain ⟨k, rfl, hkn, HP⟩ := hrel
  rename World => wz
  have hcb := (K.out.kept HP.out.below).cell
  have h16 : n ≤ 16 := by have h := HG.out.len; have h2 := HL.out; dsimp only at h; omega
  by_cases hlt : k < n
  ·have hkx : k < cs.length := by have h2 := HL.out; omega
   obtain ⟨ad, rfl, a0, a1, a2⟩ := CellsB.at HR.out HP.out.below k hkx
   have HS := Lib.hid (show cellsE (cs.take (k + 1)) = cellsE (cs.take k) ++ cellE cs[k] from fm_take cellE cs k hkx)
   have HX := Lib.hid ((HG.out.cells cs[k] (List.getElem_mem _)).S (by decide))
   generalize cs[k] = x at *
   go_wp2_with fail
   go_at_call 81; (with_reducible refine (owl_cell HP.out x HX.out (by omega)).mono ?_); rintro e wy ⟨vy, rfl, h, _⟩
   have HY := Lib.hid h
   clear h hcb a0 a1 a2
   go_wp2
   go_roundw
   case rel => exact ⟨k + 1, by go_num, by omega, Lib.hid (HY.out.to (by rw [HS.out, List.append_assoc]) (by omega))⟩
   case measure => simp [intOf]; omega
  ·have HT := Lib.hid (show cs.take k = cs by rw [List.take_of_length_le (by have h2 := HL.out; omega)])
   have H20 := Lib.hid (HP.out.to (bs' := pre ++ cellsE cs) (N' := 2000) (by rw [HT.out]) (by omega))
   clear HP HT
   go_wp2
   go_ret2
   have hf := H20.out.fin BW.out
   refine ⟨_, rfl, ?_, hf.2⟩
   have h := hf.1
   rw [HE.out]
   rw [HPRE.out] at h
   simpa [bodyRq, cellsE, HL.out, List.append_assoc] using h
theorem ref_rq_scan (A : Option Addr) (n c : Nat) (q : Rq) (W : World) (hk : q.kind = 3) (hq : RqA W A n q) (h0 : checkRq q = 0) :
  Calls Tryz.prog 55 #[.agg (rqC (.slice A n c) q)] W (RefQ W (encRq q)) := by
 have hg := rq_good h0
 have BW := Lib.hid ((Below.refl W.heap.size W).alloc (Nat.le_refl _) (.cells (rqC (.slice A n c) q) 43))
 have K := Lib.hid (Blk.new W 43 (rqC (.slice A n c) q))
 have CC := Lib.hid (rcheck_rq A n c q _ hq.len (hq.below BW.out).rd hq.big hq.ok)
 rw [h0] at CC
 have HR := Lib.hid (hq.below BW.out).rd
 have HL := Lib.hid hq.len
 have hE : encRq q = sev q.kind.toNat ++ (sev q.id.toNat ++ bodyRq q) := rfl
 have HE := Lib.hid hE
 clear hE hq h0
 obtain ⟨kind, id, ep, cs, ⟨fv, fk, fs⟩, ⟨tv, tk, ts⟩, lim⟩ := q
 have HG := Lib.hid hg
 have hk0 : kind = 3 := hk
 have hid : 0 ≤ id ∧ id ≤ 1099511627776 := ⟨hg.id0, hg.id1⟩
 have hep : 0 ≤ ep ∧ ep ≤ 1099511627776 := ⟨hg.ep0, hg.ep1⟩
 clear hg hk
 subst hk0
 have hcb := K.out.cell
 go_enter Tryz.func55, Tryz.ntmps55
 go_wp2_with fail
 generalize hWb : W.alloc (.cells (rqC (.slice A n c) ⟨3, id, ep, cs, ⟨fv, fk, fs⟩, ⟨tv, tk, ts⟩, lim⟩) 43) = Wb at *
 clear hWb
 go_at_call 79; (with_reducible refine CC.out.mono ?_); rintro e w1 ⟨rfl, hb1⟩
 have H1 := Lib.hid (OwL.start hb1)
 have hcb := (K.out.kept H1.out.below).cell
 clear hb1 CC
 go_wp2_with fail
 go_at_call 80; (with_reducible refine (owl_num H1.out 3 (by decide) (by omega)).mono ?_); rintro e w2 ⟨v2, rfl, h, _⟩
 have H2 := Lib.hid h
 clear h hcb H1
 have hcb := (K.out.kept H2.out.below).cell
 go_wp2_with fail
 go_at_call 80; (with_reducible refine (owl_num H2.out id (by omega) (by omega)).mono ?_); rintro e w3 ⟨v3, rfl, h, _⟩
 have H3 := Lib.hid h
 clear h hcb H2
 have hcb := (K.out.kept H3.out.below).cell
 go_wp2_with fail
 go_at_call 80; (with_reducible refine (owl_num H3.out ep (by omega) (by omega)).mono ?_); rintro e w4 ⟨v4, rfl, h, _⟩
 have H4 := Lib.hid h
 clear h hcb H3
 have hcb := (K.out.kept H4.out.below).cell
 go_wp2_with fail
 obtain ⟨pre, HPRE, H10⟩ : ∃ pre, Hid (pre = [] ++ sev (3 : Int).toNat ++ sev (id : Int).toNat ++ sev (ep : Int).toNat) ∧ Hid (OwL Wb w4 v4 pre 30) := ⟨_, Lib.hid rfl, H4⟩
 clear hcb H4
 go_loopw [5, 6] (fun t5 t6 wz => ∃ k : Nat, t6 = .int .i64 (k : Int) ∧ k ≤ n ∧ Hid (OwL Wb wz t5 (pre ++ cellsE (cs.take k)) (30 + 62 * k))) (fun _ t6 _ => n - (intOf t6).toNat)
 case atStart => exact ⟨0, rfl, Nat.zero_le _, Lib.hid (H10.out.to (by simp [cellsE]) (by omega))⟩
 case round =>
  obtain ⟨k, rfl, hkn, HP⟩ := hrel
  rename World => wz
  have hcb := (K.out.kept HP.out.below).cell
  have h16 : n ≤ 16 := by have h := HG.out.len; have h2 := HL.out; dsimp only at h; omega
  by_cases hlt : k < n
  ·have hkx : k < cs.length := by have h2 := HL.out; omega
   obtain ⟨ad, rfl, a0, a1, a2⟩ := CellsB.at HR.out HP.out.below k hkx
   have HS := Lib.hid (show cellsE (cs.take (k + 1)) = cellsE (cs.take k) ++ cellE cs[k] from fm_take cellE cs k hkx)
   have HX := Lib.hid ((HG.out.cells cs[k] (List.getElem_mem _)).S (by decide))
   generalize cs[k] = x at *
   go_wp2_with fail
   go_at_call 81; (with_reducible refine (owl_cell HP.out x HX.out (by omega)).mono ?_); rintro e wy ⟨vy, rfl, h, _⟩
   have HY := Lib.hid h
   clear h hcb a0 a1 a2
   go_wp2
   go_roundw
   case rel => exact ⟨k + 1, by go_num, by omega, Lib.hid (HY.out.to (by rw [HS.out, List.append_assoc]) (by omega))⟩
   case measure => simp [intOf]; omega
  ·have HT := Lib.hid (show cs.take k = cs by rw [List.take_of_length_le (by have h2 := HL.out; omega)])
   have H20 := Lib.hid (HP.out.to (bs' := pre ++ cellsE cs) (N' := 2000) (by rw [HT.out]) (by omega))
   clear HP HT
   have hcb := (K.out.kept H20.out.below).cell
   have HC3 := Lib.hid (HG.out.scan rfl)
   go_wp2_with fail
   go_at_call 81; (with_reducible refine (owl_cell H20.out ⟨fv, fk, fs⟩ (HC3.out.1.S (by decide)) (by omega)).mono ?_); rintro e w21 ⟨v21, rfl, h, _⟩
   have H21 := Lib.hid h
   clear h hcb H20
   have hcb := (K.out.kept H21.out.below).cell
   go_wp2_with fail
   go_at_call 81; (with_reducible refine (owl_cell H21.out ⟨tv, tk, ts⟩ (HC3.out.2.1.S (by decide)) (by omega)).mono ?_); rintro e w22 ⟨v22, rfl, h, _⟩
   have H22 := Lib.hid h
   clear h hcb H21
   have hcb := (K.out.kept H22.out.below).cell
   go_wp2_with fail
   go_at_call 80; (with_reducible refine (owl_num H22.out lim (by have h := HC3.out.2.2.2; omega) (by omega)).mono ?_); rintro e w23 ⟨v23, rfl, h, _⟩
   have H23 := Lib.hid h
   clear h hcb H22
   have hcb := (K.out.kept H23.out.below).cell
   go_wp2
   go_ret2
   have hf := H23.out.fin BW.out
   refine ⟨_, rfl, ?_, hf.2⟩
   have h := hf.1
   rw [HE.out]
   rw [HPRE.out] at h
   have hcs := HG.out.nocs (show (3 : Int) ≠ 1 by decide) (show (3 : Int) ≠ 2 by decide)
   subst hcs
   simpa [bodyRq, cellsE, HL.out, List.append_assoc] using h
theorem ref_rq_pin (A : Option Addr) (n c : Nat) (q : Rq) (W : World) (hk : q.kind = 4) (hq : RqA W A n q) (h0 : checkRq q = 0) :
  Calls Tryz.prog 55 #[.agg (rqC (.slice A n c) q)] W (RefQ W (encRq q)) := by
 have hg := rq_good h0
 have BW := Lib.hid ((Below.refl W.heap.size W).alloc (Nat.le_refl _) (.cells (rqC (.slice A n c) q) 43))
 have K := Lib.hid (Blk.new W 43 (rqC (.slice A n c) q))
 have CC := Lib.hid (rcheck_rq A n c q _ hq.len (hq.below BW.out).rd hq.big hq.ok)
 rw [h0] at CC
 have HR := Lib.hid (hq.below BW.out).rd
 have HL := Lib.hid hq.len
 have hE : encRq q = sev q.kind.toNat ++ (sev q.id.toNat ++ bodyRq q) := rfl
 have HE := Lib.hid hE
 clear hE hq h0
 obtain ⟨kind, id, ep, cs, ⟨fv, fk, fs⟩, ⟨tv, tk, ts⟩, lim⟩ := q
 have HG := Lib.hid hg
 have hk0 : kind = 4 := hk
 have hid : 0 ≤ id ∧ id ≤ 1099511627776 := ⟨hg.id0, hg.id1⟩
 have hep : 0 ≤ ep ∧ ep ≤ 1099511627776 := ⟨hg.ep0, hg.ep1⟩
 clear hg hk
 subst hk0
 have hcb := K.out.cell
 go_enter Tryz.func55, Tryz.ntmps55
 go_wp2_with fail
 generalize hWb : W.alloc (.cells (rqC (.slice A n c) ⟨4, id, ep, cs, ⟨fv, fk, fs⟩, ⟨tv, tk, ts⟩, lim⟩) 43) = Wb at *
 clear hWb
 go_at_call 79; (with_reducible refine CC.out.mono ?_); rintro e w1 ⟨rfl, hb1⟩
 have H1 := Lib.hid (OwL.start hb1)
 have hcb := (K.out.kept H1.out.below).cell
 clear hb1 CC
 go_wp2_with fail
 go_at_call 80; (with_reducible refine (owl_num H1.out 4 (by decide) (by omega)).mono ?_); rintro e w2 ⟨v2, rfl, h, _⟩
 have H2 := Lib.hid h
 clear h hcb H1
 have hcb := (K.out.kept H2.out.below).cell
 go_wp2_with fail
 go_at_call 80; (with_reducible refine (owl_num H2.out id (by omega) (by omega)).mono ?_); rintro e w3 ⟨v3, rfl, h, _⟩
 have H3 := Lib.hid h
 clear h hcb H2
 have hcb := (K.out.kept H3.out.below).cell
 go_wp2_with fail
 obtain ⟨pre, HPRE, H10⟩ : ∃ pre, Hid (pre = [] ++ sev (4 : Int).toNat ++ sev (id : Int).toNat) ∧ Hid (OwL Wb w3 v3 pre 20) := ⟨_, Lib.hid rfl, H3⟩
 clear hcb H3
 go_loopw [5, 6] (fun t5 t6 wz => ∃ k : Nat, t6 = .int .i64 (k : Int) ∧ k ≤ n ∧ Hid (OwL Wb wz t5 (pre ++ cellsE (cs.take k)) (20 + 62 * k))) (fun _ t6 _ => n - (intOf t6).toNat)
 case atStart => exact ⟨0, rfl, Nat.zero_le _, Lib.hid (H10.out.to (by simp [cellsE]) (by omega))⟩
 case round =>
  obtain ⟨k, rfl, hkn, HP⟩ := hrel
  rename World => wz
  have hcb := (K.out.kept HP.out.below).cell
  have h16 : n ≤ 16 := by have h := HG.out.len; have h2 := HL.out; dsimp only at h; omega
  by_cases hlt : k < n
  ·have hkx : k < cs.length := by have h2 := HL.out; omega
   obtain ⟨ad, rfl, a0, a1, a2⟩ := CellsB.at HR.out HP.out.below k hkx
   have HS := Lib.hid (show cellsE (cs.take (k + 1)) = cellsE (cs.take k) ++ cellE cs[k] from fm_take cellE cs k hkx)
   have HX := Lib.hid ((HG.out.cells cs[k] (List.getElem_mem _)).S (by decide))
   generalize cs[k] = x at *
   go_wp2_with fail
   go_at_call 81; (with_reducible refine (owl_cell HP.out x HX.out (by omega)).mono ?_); rintro e wy ⟨vy, rfl, h, _⟩
   have HY := Lib.hid h
   clear h hcb a0 a1 a2
   go_wp2
   go_roundw
   case rel => exact ⟨k + 1, by go_num, by omega, Lib.hid (HY.out.to (by rw [HS.out, List.append_assoc]) (by omega))⟩
   case measure => simp [intOf]; omega
  ·have HT := Lib.hid (show cs.take k = cs by rw [List.take_of_length_le (by have h2 := HL.out; omega)])
   have H20 := Lib.hid (HP.out.to (bs' := pre ++ cellsE cs) (N' := 2000) (by rw [HT.out]) (by omega))
   clear HP HT
   go_wp2
   go_ret2
   have hf := H20.out.fin BW.out
   refine ⟨_, rfl, ?_, hf.2⟩
   have h := hf.1
   rw [HE.out]
   rw [HPRE.out] at h
   have hcs := HG.out.nocs (show (4 : Int) ≠ 1 by decide) (show (4 : Int) ≠ 2 by decide)
   subst hcs
   simpa [bodyRq, cellsE, HL.out, List.append_assoc] using h
theorem ref_rq_join (A : Option Addr) (n c : Nat) (q : Rq) (W : World) (hk : q.kind = 5) (hq : RqA W A n q) (h0 : checkRq q = 0) :
  Calls Tryz.prog 55 #[.agg (rqC (.slice A n c) q)] W (RefQ W (encRq q)) := by
 have hg := rq_good h0
 have BW := Lib.hid ((Below.refl W.heap.size W).alloc (Nat.le_refl _) (.cells (rqC (.slice A n c) q) 43))
 have K := Lib.hid (Blk.new W 43 (rqC (.slice A n c) q))
 have CC := Lib.hid (rcheck_rq A n c q _ hq.len (hq.below BW.out).rd hq.big hq.ok)
 rw [h0] at CC
 have HR := Lib.hid (hq.below BW.out).rd
 have HL := Lib.hid hq.len
 have hE : encRq q = sev q.kind.toNat ++ (sev q.id.toNat ++ bodyRq q) := rfl
 have HE := Lib.hid hE
 clear hE hq h0
 obtain ⟨kind, id, ep, cs, ⟨fv, fk, fs⟩, ⟨tv, tk, ts⟩, lim⟩ := q
 have HG := Lib.hid hg
 have hk0 : kind = 5 := hk
 have hid : 0 ≤ id ∧ id ≤ 1099511627776 := ⟨hg.id0, hg.id1⟩
 have hep : 0 ≤ ep ∧ ep ≤ 1099511627776 := ⟨hg.ep0, hg.ep1⟩
 clear hg hk
 subst hk0
 have hcb := K.out.cell
 go_enter Tryz.func55, Tryz.ntmps55
 go_wp2_with fail
 generalize hWb : W.alloc (.cells (rqC (.slice A n c) ⟨5, id, ep, cs, ⟨fv, fk, fs⟩, ⟨tv, tk, ts⟩, lim⟩) 43) = Wb at *
 clear hWb
 go_at_call 79; (with_reducible refine CC.out.mono ?_); rintro e w1 ⟨rfl, hb1⟩
 have H1 := Lib.hid (OwL.start hb1)
 have hcb := (K.out.kept H1.out.below).cell
 clear hb1 CC
 go_wp2_with fail
 go_at_call 80; (with_reducible refine (owl_num H1.out 5 (by decide) (by omega)).mono ?_); rintro e w2 ⟨v2, rfl, h, _⟩
 have H2 := Lib.hid h
 clear h hcb H1
 have hcb := (K.out.kept H2.out.below).cell
 go_wp2_with fail
 go_at_call 80; (with_reducible refine (owl_num H2.out id (by omega) (by omega)).mono ?_); rintro e w3 ⟨v3, rfl, h, _⟩
 have H3 := Lib.hid h
 clear h hcb H2
 have hcb := (K.out.kept H3.out.below).cell
 go_wp2_with fail
 go_at_call 80; (with_reducible refine (owl_num H3.out ep (by omega) (by omega)).mono ?_); rintro e w4 ⟨v4, rfl, h, _⟩
 have H4 := Lib.hid h
 clear h hcb H3
 have hcb := (K.out.kept H4.out.below).cell
 go_wp2_with fail
 obtain ⟨pre, HPRE, H10⟩ : ∃ pre, Hid (pre = [] ++ sev (5 : Int).toNat ++ sev (id : Int).toNat ++ sev (ep : Int).toNat) ∧ Hid (OwL Wb w4 v4 pre 30) := ⟨_, Lib.hid rfl, H4⟩
 clear hcb H4
 go_loopw [5, 6] (fun t5 t6 wz => ∃ k : Nat, t6 = .int .i64 (k : Int) ∧ k ≤ n ∧ Hid (OwL Wb wz t5 (pre ++ cellsE (cs.take k)) (30 + 62 * k))) (fun _ t6 _ => n - (intOf t6).toNat)
 case atStart => exact ⟨0, rfl, Nat.zero_le _, Lib.hid (H10.out.to (by simp [cellsE]) (by omega))⟩
 case round =>
  obtain ⟨k, rfl, hkn, HP⟩ := hrel
  rename World => wz
  have hcb := (K.out.kept HP.out.below).cell
  have h16 : n ≤ 16 := by have h := HG.out.len; have h2 := HL.out; dsimp only at h; omega
  by_cases hlt : k < n
  ·have hkx : k < cs.length := by have h2 := HL.out; omega
   obtain ⟨ad, rfl, a0, a1, a2⟩ := CellsB.at HR.out HP.out.below k hkx
   have HS := Lib.hid (show cellsE (cs.take (k + 1)) = cellsE (cs.take k) ++ cellE cs[k] from fm_take cellE cs k hkx)
   have HX := Lib.hid ((HG.out.cells cs[k] (List.getElem_mem _)).S (by decide))
   generalize cs[k] = x at *
   go_wp2_with fail
   go_at_call 81; (with_reducible refine (owl_cell HP.out x HX.out (by omega)).mono ?_); rintro e wy ⟨vy, rfl, h, _⟩
   have HY := Lib.hid h
   clear h hcb a0 a1 a2
   go_wp2
   go_roundw
   case rel => exact ⟨k + 1, by go_num, by omega, Lib.hid (HY.out.to (by rw [HS.out, List.append_assoc]) (by omega))⟩
   case measure => simp [intOf]; omega
  ·have HT := Lib.hid (show cs.take k = cs by rw [List.take_of_length_le (by have h2 := HL.out; omega)])
   have H20 := Lib.hid (HP.out.to (bs' := pre ++ cellsE cs) (N' := 2000) (by rw [HT.out]) (by omega))
   clear HP HT
   go_wp2
   go_ret2
   have hf := H20.out.fin BW.out
   refine ⟨_, rfl, ?_, hf.2⟩
   have h := hf.1
   rw [HE.out]
   rw [HPRE.out] at h
   have hcs := HG.out.nocs (show (5 : Int) ≠ 1 by decide) (show (5 : Int) ≠ 2 by decide)
   subst hcs
   simpa [bodyRq, cellsE, HL.out, List.append_assoc] using h
theorem ref_rq_rel (A : Option Addr) (n c : Nat) (q : Rq) (W : World) (hk : q.kind = 6) (hq : RqA W A n q) (h0 : checkRq q = 0) :
  Calls Tryz.prog 55 #[.agg (rqC (.slice A n c) q)] W (RefQ W (encRq q)) := by
 have hg := rq_good h0
 have BW := Lib.hid ((Below.refl W.heap.size W).alloc (Nat.le_refl _) (.cells (rqC (.slice A n c) q) 43))
 have K := Lib.hid (Blk.new W 43 (rqC (.slice A n c) q))
 have CC := Lib.hid (rcheck_rq A n c q _ hq.len (hq.below BW.out).rd hq.big hq.ok)
 rw [h0] at CC
 have HR := Lib.hid (hq.below BW.out).rd
 have HL := Lib.hid hq.len
 have hE : encRq q = sev q.kind.toNat ++ (sev q.id.toNat ++ bodyRq q) := rfl
 have HE := Lib.hid hE
 clear hE hq h0
 obtain ⟨kind, id, ep, cs, ⟨fv, fk, fs⟩, ⟨tv, tk, ts⟩, lim⟩ := q
 have HG := Lib.hid hg
 have hk0 : kind = 6 := hk
 have hid : 0 ≤ id ∧ id ≤ 1099511627776 := ⟨hg.id0, hg.id1⟩
 have hep : 0 ≤ ep ∧ ep ≤ 1099511627776 := ⟨hg.ep0, hg.ep1⟩
 clear hg hk
 subst hk0
 have hcb := K.out.cell
 go_enter Tryz.func55, Tryz.ntmps55
 go_wp2_with fail
 generalize hWb : W.alloc (.cells (rqC (.slice A n c) ⟨6, id, ep, cs, ⟨fv, fk, fs⟩, ⟨tv, tk, ts⟩, lim⟩) 43) = Wb at *
 clear hWb
 go_at_call 79; (with_reducible refine CC.out.mono ?_); rintro e w1 ⟨rfl, hb1⟩
 have H1 := Lib.hid (OwL.start hb1)
 have hcb := (K.out.kept H1.out.below).cell
 clear hb1 CC
 go_wp2_with fail
 go_at_call 80; (with_reducible refine (owl_num H1.out 6 (by decide) (by omega)).mono ?_); rintro e w2 ⟨v2, rfl, h, _⟩
 have H2 := Lib.hid h
 clear h hcb H1
 have hcb := (K.out.kept H2.out.below).cell
 go_wp2_with fail
 go_at_call 80; (with_reducible refine (owl_num H2.out id (by omega) (by omega)).mono ?_); rintro e w3 ⟨v3, rfl, h, _⟩
 have H3 := Lib.hid h
 clear h hcb H2
 have hcb := (K.out.kept H3.out.below).cell
 go_wp2_with fail
 go_at_call 80; (with_reducible refine (owl_num H3.out ep (by omega) (by omega)).mono ?_); rintro e w4 ⟨v4, rfl, h, _⟩
 have H4 := Lib.hid h
 clear h hcb H3
 have hcb := (K.out.kept H4.out.below).cell
 go_wp2_with fail
 obtain ⟨pre, HPRE, H10⟩ : ∃ pre, Hid (pre = [] ++ sev (6 : Int).toNat ++ sev (id : Int).toNat ++ sev (ep : Int).toNat) ∧ Hid (OwL Wb w4 v4 pre 30) := ⟨_, Lib.hid rfl, H4⟩
 clear hcb H4
 go_loopw [5, 6] (fun t5 t6 wz => ∃ k : Nat, t6 = .int .i64 (k : Int) ∧ k ≤ n ∧ Hid (OwL Wb wz t5 (pre ++ cellsE (cs.take k)) (30 + 62 * k))) (fun _ t6 _ => n - (intOf t6).toNat)
 case atStart => exact ⟨0, rfl, Nat.zero_le _, Lib.hid (H10.out.to (by simp [cellsE]) (by omega))⟩
 case round =>
  obtain ⟨k, rfl, hkn, HP⟩ := hrel
  rename World => wz
  have hcb := (K.out.kept HP.out.below).cell
  have h16 : n ≤ 16 := by have h := HG.out.len; have h2 := HL.out; dsimp only at h; omega
  by_cases hlt : k < n
  ·have hkx : k < cs.length := by have h2 := HL.out; omega
   obtain ⟨ad, rfl, a0, a1, a2⟩ := CellsB.at HR.out HP.out.below k hkx
   have HS := Lib.hid (show cellsE (cs.take (k + 1)) = cellsE (cs.take k) ++ cellE cs[k] from fm_take cellE cs k hkx)
   have HX := Lib.hid ((HG.out.cells cs[k] (List.getElem_mem _)).S (by decide))
   generalize cs[k] = x at *
   go_wp2_with fail
   go_at_call 81; (with_reducible refine (owl_cell HP.out x HX.out (by omega)).mono ?_); rintro e wy ⟨vy, rfl, h, _⟩
   have HY := Lib.hid h
   clear h hcb a0 a1 a2
   go_wp2
   go_roundw
   case rel => exact ⟨k + 1, by go_num, by omega, Lib.hid (HY.out.to (by rw [HS.out, List.append_assoc]) (by omega))⟩
   case measure => simp [intOf]; omega
  ·have HT := Lib.hid (show cs.take k = cs by rw [List.take_of_length_le (by have h2 := HL.out; omega)])
   have H20 := Lib.hid (HP.out.to (bs' := pre ++ cellsE cs) (N' := 2000) (by rw [HT.out]) (by omega))
   clear HP HT
   go_wp2
   go_ret2
   have hf := H20.out.fin BW.out
   refine ⟨_, rfl, ?_, hf.2⟩
   have h := hf.1
   rw [HE.out]
   rw [HPRE.out] at h
   have hcs := HG.out.nocs (show (6 : Int) ≠ 1 by decide) (show (6 : Int) ≠ 2 by decide)
   subst hcs
   simpa [bodyRq, cellsE, HL.out, List.append_assoc] using h
theorem ref_rq_stats (A : Option Addr) (n c : Nat) (q : Rq) (W : World) (hk : q.kind = 7) (hq : RqA W A n q) (h0 : checkRq q = 0) :
  Calls Tryz.prog 55 #[.agg (rqC (.slice A n c) q)] W (RefQ W (encRq q)) := by
 have hg := rq_good h0
 have BW := Lib.hid ((Below.refl W.heap.size W).alloc (Nat.le_refl _) (.cells (rqC (.slice A n c) q) 43))
 have K := Lib.hid (Blk.new W 43 (rqC (.slice A n c) q))
 have CC := Lib.hid (rcheck_rq A n c q _ hq.len (hq.below BW.out).rd hq.big hq.ok)
 rw [h0] at CC
 have HR := Lib.hid (hq.below BW.out).rd
 have HL := Lib.hid hq.len
 have hE : encRq q = sev q.kind.toNat ++ (sev q.id.toNat ++ bodyRq q) := rfl
 have HE := Lib.hid hE
 clear hE hq h0
 obtain ⟨kind, id, ep, cs, ⟨fv, fk, fs⟩, ⟨tv, tk, ts⟩, lim⟩ := q
 have HG := Lib.hid hg
 have hk0 : kind = 7 := hk
 have hid : 0 ≤ id ∧ id ≤ 1099511627776 := ⟨hg.id0, hg.id1⟩
 have hep : 0 ≤ ep ∧ ep ≤ 1099511627776 := ⟨hg.ep0, hg.ep1⟩
 clear hg hk
 subst hk0
 have hcb := K.out.cell
 go_enter Tryz.func55, Tryz.ntmps55
 go_wp2_with fail
 generalize hWb : W.alloc (.cells (rqC (.slice A n c) ⟨7, id, ep, cs, ⟨fv, fk, fs⟩, ⟨tv, tk, ts⟩, lim⟩) 43) = Wb at *
 clear hWb
 go_at_call 79; (with_reducible refine CC.out.mono ?_); rintro e w1 ⟨rfl, hb1⟩
 have H1 := Lib.hid (OwL.start hb1)
 have hcb := (K.out.kept H1.out.below).cell
 clear hb1 CC
 go_wp2_with fail
 go_at_call 80; (with_reducible refine (owl_num H1.out 7 (by decide) (by omega)).mono ?_); rintro e w2 ⟨v2, rfl, h, _⟩
 have H2 := Lib.hid h
 clear h hcb H1
 have hcb := (K.out.kept H2.out.below).cell
 go_wp2_with fail
 go_at_call 80; (with_reducible refine (owl_num H2.out id (by omega) (by omega)).mono ?_); rintro e w3 ⟨v3, rfl, h, _⟩
 have H3 := Lib.hid h
 clear h hcb H2
 have hcb := (K.out.kept H3.out.below).cell
 go_wp2_with fail
 obtain ⟨pre, HPRE, H10⟩ : ∃ pre, Hid (pre = [] ++ sev (7 : Int).toNat ++ sev (id : Int).toNat) ∧ Hid (OwL Wb w3 v3 pre 20) := ⟨_, Lib.hid rfl, H3⟩
 clear hcb H3
 go_loopw [5, 6] (fun t5 t6 wz => ∃ k : Nat, t6 = .int .i64 (k : Int) ∧ k ≤ n ∧ Hid (OwL Wb wz t5 (pre ++ cellsE (cs.take k)) (20 + 62 * k))) (fun _ t6 _ => n - (intOf t6).toNat)
 case atStart => exact ⟨0, rfl, Nat.zero_le _, Lib.hid (H10.out.to (by simp [cellsE]) (by omega))⟩
 case round =>
  obtain ⟨k, rfl, hkn, HP⟩ := hrel
  rename World => wz
  have hcb := (K.out.kept HP.out.below).cell
  have h16 : n ≤ 16 := by have h := HG.out.len; have h2 := HL.out; dsimp only at h; omega
  by_cases hlt : k < n
  ·have hkx : k < cs.length := by have h2 := HL.out; omega
   obtain ⟨ad, rfl, a0, a1, a2⟩ := CellsB.at HR.out HP.out.below k hkx
   have HS := Lib.hid (show cellsE (cs.take (k + 1)) = cellsE (cs.take k) ++ cellE cs[k] from fm_take cellE cs k hkx)
   have HX := Lib.hid ((HG.out.cells cs[k] (List.getElem_mem _)).S (by decide))
   generalize cs[k] = x at *
   go_wp2_with fail
   go_at_call 81; (with_reducible refine (owl_cell HP.out x HX.out (by omega)).mono ?_); rintro e wy ⟨vy, rfl, h, _⟩
   have HY := Lib.hid h
   clear h hcb a0 a1 a2
   go_wp2
   go_roundw
   case rel => exact ⟨k + 1, by go_num, by omega, Lib.hid (HY.out.to (by rw [HS.out, List.append_assoc]) (by omega))⟩
   case measure => simp [intOf]; omega
  ·have HT := Lib.hid (show cs.take k = cs by rw [List.take_of_length_le (by have h2 := HL.out; omega)])
   have H20 := Lib.hid (HP.out.to (bs' := pre ++ cellsE cs) (N' := 2000) (by rw [HT.out]) (by omega))
   clear HP HT
   go_wp2
   go_ret2
   have hf := H20.out.fin BW.out
   refine ⟨_, rfl, ?_, hf.2⟩
   have h := hf.1
   rw [HE.out]
   rw [HPRE.out] at h
   have hcs := HG.out.nocs (show (7 : Int) ≠ 1 by decide) (show (7 : Int) ≠ 2 by decide)
   subst hcs
   simpa [bodyRq, cellsE, HL.out, List.append_assoc] using h
theorem ref_rq (A : Option Addr) (n c : Nat) (q : Rq) (W : World) (hq : RqA W A n q) (h0 : checkRq q = 0) :
  Calls Tryz.prog 55 #[.agg (rqC (.slice A n c) q)] W (RefQ W (encRq q)) := by
 have hg := rq_good h0
 obtain h | h | h | h | h | h | h : q.kind = 1 ∨ q.kind = 2 ∨ q.kind = 3 ∨ q.kind = 4 ∨ q.kind = 5 ∨ q.kind = 6 ∨ q.kind = 7 := by have := hg.k1; have := hg.k7; omega
 ·exact ref_rq_get A n c q W h hq h0
 ·exact ref_rq_multi A n c q W h hq h0
 ·exact ref_rq_scan A n c q W h hq h0
 ·exact ref_rq_pin A n c q W h hq h0
 ·exact ref_rq_join A n c q W h hq h0
 ·exact ref_rq_rel A n c q W h hq h0
 ·exact ref_rq_stats A n c q W h hq h0
theorem ref_rq_no (A : Option Addr) (n c : Nat) (q : Rq) (W : World) (hq : RqA W A n q) (h0 : checkRq q ≠ 0) :
  Calls Tryz.prog 55 #[.agg (rqC (.slice A n c) q)] W fun e w' => e = .returned (.tuple #[.slice none 0 0, .int .i64 (checkRq q)]) ∧ Below W.heap.size W w' := by
 have hz : (checkRq q != 0) = true := by simpa using h0
 have BW := Lib.hid ((Below.refl W.heap.size W).alloc (Nat.le_refl _) (.cells (rqC (.slice A n c) q) 43))
 have CC := Lib.hid (rcheck_rq A n c q _ hq.len (hq.below BW.out).rd hq.big hq.ok)
 have hcb := (Blk.new W 43 (rqC (.slice A n c) q)).cell
 clear hq h0
 go_enter Tryz.func55, Tryz.ntmps55
 go_wp2_with fail
 go_at_call 79; (with_reducible refine CC.out.mono ?_); rintro e w1 ⟨rfl, hb1⟩
 have HB := Lib.hid (BW.out.trans (hb1.mono BW.out.size))
 clear hb1
 go_wp2
 go_ret2
 exact ⟨rfl, HB.out⟩
end Go.Proofs.YtglbdbghcdoicaaGreatDoor

namespace Go.Proofs.YtglbdbghcdoicaaGreatDoor
open Go.RowKit

/-- A row of the caller's own, and a block beside it. -/
structure OwB (Wb w : World) (g : Nat) (t : TypeId) (cs : Array Value) (v : Value) (bs : List Int) (N : Nat) : Prop where
 own : OwL Wb w v bs N
 blk : Blk w g t cs
 ne : v.ownBlock ≠ some g
theorem OwB.new {Wb w : World} {v : Value} {bs : List Int} {N : Nat} (h : OwL Wb w v bs N) (t : TypeId) (cs : Array Value) : OwB Wb (w.alloc (.cells cs t)) w.heap.size t cs v bs N :=
 ⟨h.kept ((Below.refl _ _).alloc (Nat.le_refl _) _), Blk.new _ _ _, fun e => absurd (h.ow.lt _ e).2 (Nat.lt_irrefl _)⟩
theorem OwB.step {Wb w w' : World} {g : Nat} {t : TypeId} {cs : Array Value} {v v' : Value} {bs bs' : List Int} {N N' : Nat} (h : OwB Wb w g t cs v bs N) (ho : OwL Wb w' v' bs' N') (hf : OwFr w v w' v') : OwB Wb w' g t cs v' bs' N' := by
 refine ⟨ho, h.blk.tur hf.1 h.ne, fun e => ?_⟩
 rcases hf.2 with e2 | ⟨k, e2, hk⟩
 ·exact h.ne (e2 ▸ e)
 ·rw [e2] at e
  cases e
  exact absurd h.blk.lt (by omega)
theorem OwB.to {Wb w : World} {g : Nat} {t : TypeId} {cs : Array Value} {v : Value} {bs bs' : List Int} {N N' : Nat} (h : OwB Wb w g t cs v bs N) (e : bs = bs') (hn : N ≤ N') : OwB Wb w g t cs v bs' N' := ⟨h.own.to e hn, h.blk, h.ne⟩
def RefS (W : World) (bs : List Int) (e : Ending) (w' : World) : Prop := RefQ W bs e w'
theorem ref_rs_rows (A : Option Addr) (n c : Nat) (r : Rs) (W : World) (hk : r.kind = 1) (hr : RsA W A n r) (h0 : checkRs r = 0) :
  Calls Tryz.prog 57 #[.agg (rsC (.slice A n c) r)] W (RefQ W (encRs r)) := by
 have hg := rs_good h0
 have BW := Lib.hid ((Below.refl W.heap.size W).alloc (Nat.le_refl _) (.cells (rsC (.slice A n c) r) 71))
 have K := Lib.hid (Blk.new W 71 (rsC (.slice A n c) r))
 have CC := Lib.hid (rcheck_rs A n c r _ hr.len (hr.below BW.out).rd hr.big hr.ok)
 rw [h0] at CC
 have HR := Lib.hid (hr.below BW.out).rd
 have HL := Lib.hid hr.len
 have HI := Lib.hid hr.rows
 have HE := Lib.hid (show encRs r = sev r.kind.toNat ++ (sev r.id.toNat ++ bodyRs r) from rfl)
 clear hr h0
 obtain ⟨kind, id, er, ep, rs, ⟨s0, s1, s2, s3, s4, s5⟩⟩ := r
 have HG := Lib.hid hg
 have hk0 : kind = 1 := hk
 have hid : 0 ≤ id ∧ id ≤ 1099511627776 := ⟨hg.id0, hg.id1⟩
 clear hg hk
 subst hk0
 have hcb := K.out.cell
 go_enter Tryz.func57, Tryz.ntmps57
 go_wp2_with fail
 generalize hWb : W.alloc (.cells (rsC (.slice A n c) ⟨1, id, er, ep, rs, ⟨s0, s1, s2, s3, s4, s5⟩⟩) 71) = Wb at *
 clear hWb
 go_at_call 82; (with_reducible refine CC.out.mono ?_); rintro e w1 ⟨rfl, hb1⟩
 have H1 := Lib.hid (OwL.start hb1)
 have hcb := (K.out.kept H1.out.below).cell
 clear hb1 CC
 go_wp2_with fail
 go_at_call 80; (with_reducible refine (owl_num H1.out 1 (by decide) (by omega)).mono ?_); rintro e w2 ⟨v2, rfl, h, _⟩
 have H2 := Lib.hid h
 clear h hcb H1
 have hcb := (K.out.kept H2.out.below).cell
 go_wp2_with fail
 go_at_call 80; (with_reducible refine (owl_num H2.out id (by omega) (by omega)).mono ?_); rintro e w3 ⟨v3, rfl, h, _⟩
 have H3 := Lib.hid h
 clear h hcb H2
 have hcb := (K.out.kept H3.out.below).cell
 go_wp2_with fail
 go_at_call 80; (with_reducible refine (owl_num H3.out (n : Int) (by have h := HG.out.len; have h2 := HL.out; dsimp only at h; omega) (by omega)).mono ?_); rintro e w4 ⟨v4, rfl, h, _⟩
 have H4 := Lib.hid h
 clear h hcb H3
 have hcb := (K.out.kept H4.out.below).cell
 go_wp2_with fail
 obtain ⟨pre, HPRE, H10⟩ : ∃ pre, Hid (pre = [] ++ sev (1 : Int).toNat ++ sev (id : Int).toNat ++ sev (n : Int).toNat) ∧ Hid (OwL Wb w4 v4 pre 30) := ⟨_, Lib.hid rfl, H4⟩
 clear hcb H4
 go_loopw [5, 6] (fun t5 t6 wz => ∃ k : Nat, t6 = .int .i64 (k : Int) ∧ k ≤ n ∧ Hid (OwL Wb wz t5 (pre ++ rowsE (rs.take k)) (30 + 102 * k))) (fun _ t6 _ => n - (intOf t6).toNat)
 case atStart => exact ⟨0, rfl, Nat.zero_le _, Lib.hid (H10.out.to (by simp [rowsE]) (by omega))⟩
 case round =>
  obtain ⟨k, rfl, hkn, HP⟩ := hrel
  rename World => wz
  have hcb := (K.out.kept HP.out.below).cell
  have h256 : n ≤ 256 := by have h := HG.out.len; have h2 := HL.out; dsimp only at h; omega
  by_cases hlt : k < n
  ·have hkx : k < rs.length := by have h2 := HL.out; omega
   obtain ⟨ad, rfl, a0, a1, a2, a3, a4, a5, a6⟩ := RowsB.at HR.out HP.out.below k hkx
   have HS := Lib.hid (show rowsE (rs.take (k + 1)) = rowsE (rs.take k) ++ rowE rs[k] from fm_take rowE rs k hkx)
   have HX := Lib.hid ((HG.out.rows rs[k] (List.getElem_mem _)).cell.S (by decide))
   have HY := Lib.hid (HI.out rs[k] (List.getElem_mem _))
   generalize rs[k] = x at *
   have HA := Lib.hid (OwB.new HP.out 123 #[.int .i64 x.cell.view, .string x.cell.key, .int .i64 x.cell.start, .int .i64 x.count, .int .i64 x.sum, .int .i64 x.min, .int .i64 x.max])
   go_wp2_with fail
   go_at_call 81; (with_reducible refine (owl_cell HA.out.own x.cell HX.out (by omega)).mono ?_); rintro e wy ⟨vy, rfl, h, hf⟩
   have HA0 := Lib.hid (HA.out.step h hf)
   clear h hf hcb a0 a1 a2 a3 a4 a5 a6 HA
   have hcb := HA0.out.blk.cell
   go_wp2_with fail
   go_at_call 83; (with_reducible refine (owl_int HA0.out.own x.count HY.out.count (by omega)).mono ?_); rintro e wy ⟨vy, rfl, h, hf⟩
   have HA1 := Lib.hid (HA0.out.step h hf)
   clear h hf hcb HA0
   have hcb := HA1.out.blk.cell
   go_wp2_with fail
   go_at_call 83; (with_reducible refine (owl_int HA1.out.own x.sum HY.out.sum (by omega)).mono ?_); rintro e wy ⟨vy, rfl, h, hf⟩
   have HA2 := Lib.hid (HA1.out.step h hf)
   clear h hf hcb HA1
   have hcb := HA2.out.blk.cell
   go_wp2_with fail
   go_at_call 83; (with_reducible refine (owl_int HA2.out.own x.min HY.out.min (by omega)).mono ?_); rintro e wy ⟨vy, rfl, h, hf⟩
   have HA3 := Lib.hid (HA2.out.step h hf)
   clear h hf hcb HA2
   have hcb := HA3.out.blk.cell
   go_wp2_with fail
   go_at_call 83; (with_reducible refine (owl_int HA3.out.own x.max HY.out.max (by omega)).mono ?_); rintro e wy ⟨vy, rfl, h, hf⟩
   have HA4 := Lib.hid (HA3.out.step h hf)
   clear h hf hcb HA3
   have hcb := HA4.out.blk.cell
   go_wp2
   go_roundw
   case rel => exact ⟨k + 1, by go_num, by omega, Lib.hid (HA4.out.own.to (by rw [HS.out, rowE]; simp only [List.append_assoc]) (by omega))⟩
   case measure => simp [intOf]; omega
  ·have HT := Lib.hid (show rs.take k = rs by rw [List.take_of_length_le (by have h2 := HL.out; omega)])
   have H20 := Lib.hid (HP.out.to (bs' := pre ++ rowsE rs) (N' := 40000) (by rw [HT.out]) (by omega))
   clear HP HT
   go_wp2
   go_ret2
   have hf := OwL.fin H20.out BW.out
   refine ⟨_, rfl, ?_, hf.2⟩
   have h := hf.1
   rw [HE.out]
   rw [HPRE.out] at h
   simpa [bodyRs, rowsE, numsE, HL.out, List.append_assoc] using h
theorem ref_rs_epoch (A : Option Addr) (n c : Nat) (r : Rs) (W : World) (hk : r.kind = 2) (hr : RsA W A n r) (h0 : checkRs r = 0) :
  Calls Tryz.prog 57 #[.agg (rsC (.slice A n c) r)] W (RefQ W (encRs r)) := by
 have hg := rs_good h0
 have BW := Lib.hid ((Below.refl W.heap.size W).alloc (Nat.le_refl _) (.cells (rsC (.slice A n c) r) 71))
 have K := Lib.hid (Blk.new W 71 (rsC (.slice A n c) r))
 have CC := Lib.hid (rcheck_rs A n c r _ hr.len (hr.below BW.out).rd hr.big hr.ok)
 rw [h0] at CC
 have HR := Lib.hid (hr.below BW.out).rd
 have HL := Lib.hid hr.len
 have HI := Lib.hid hr.rows
 have HE := Lib.hid (show encRs r = sev r.kind.toNat ++ (sev r.id.toNat ++ bodyRs r) from rfl)
 clear hr h0
 obtain ⟨kind, id, er, ep, rs, ⟨s0, s1, s2, s3, s4, s5⟩⟩ := r
 have HG := Lib.hid hg
 have hk0 : kind = 2 := hk
 have hid : 0 ≤ id ∧ id ≤ 1099511627776 := ⟨hg.id0, hg.id1⟩
 clear hg hk
 subst hk0
 have hcb := K.out.cell
 go_enter Tryz.func57, Tryz.ntmps57
 go_wp2_with fail
 generalize hWb : W.alloc (.cells (rsC (.slice A n c) ⟨2, id, er, ep, rs, ⟨s0, s1, s2, s3, s4, s5⟩⟩) 71) = Wb at *
 clear hWb
 go_at_call 82; (with_reducible refine CC.out.mono ?_); rintro e w1 ⟨rfl, hb1⟩
 have H1 := Lib.hid (OwL.start hb1)
 have hcb := (K.out.kept H1.out.below).cell
 clear hb1 CC
 go_wp2_with fail
 go_at_call 80; (with_reducible refine (owl_num H1.out 2 (by decide) (by omega)).mono ?_); rintro e w2 ⟨v2, rfl, h, _⟩
 have H2 := Lib.hid h
 clear h hcb H1
 have hcb := (K.out.kept H2.out.below).cell
 go_wp2_with fail
 go_at_call 80; (with_reducible refine (owl_num H2.out id (by omega) (by omega)).mono ?_); rintro e w3 ⟨v3, rfl, h, _⟩
 have H3 := Lib.hid h
 clear h hcb H2
 have hcb := (K.out.kept H3.out.below).cell
 have hep := HG.out.ep rfl
 dsimp only at hep
 go_wp2_with fail
 go_at_call 80; (with_reducible refine (owl_num H3.out ep (by omega) (by omega)).mono ?_); rintro e w4 ⟨v4, rfl, h, _⟩
 have H4 := Lib.hid h
 clear h hcb H3
 have hcb := (K.out.kept H4.out.below).cell
 go_wp2
 go_ret2
 have hf := OwL.fin H4.out BW.out
 refine ⟨_, rfl, ?_, hf.2⟩
 have h := hf.1
 rw [HE.out]
 simpa [bodyRs, rowsE, numsE, HL.out, List.append_assoc] using h
theorem ref_rs_done (A : Option Addr) (n c : Nat) (r : Rs) (W : World) (hk : r.kind = 3) (hr : RsA W A n r) (h0 : checkRs r = 0) :
  Calls Tryz.prog 57 #[.agg (rsC (.slice A n c) r)] W (RefQ W (encRs r)) := by
 have hg := rs_good h0
 have BW := Lib.hid ((Below.refl W.heap.size W).alloc (Nat.le_refl _) (.cells (rsC (.slice A n c) r) 71))
 have K := Lib.hid (Blk.new W 71 (rsC (.slice A n c) r))
 have CC := Lib.hid (rcheck_rs A n c r _ hr.len (hr.below BW.out).rd hr.big hr.ok)
 rw [h0] at CC
 have HR := Lib.hid (hr.below BW.out).rd
 have HL := Lib.hid hr.len
 have HI := Lib.hid hr.rows
 have HE := Lib.hid (show encRs r = sev r.kind.toNat ++ (sev r.id.toNat ++ bodyRs r) from rfl)
 clear hr h0
 obtain ⟨kind, id, er, ep, rs, ⟨s0, s1, s2, s3, s4, s5⟩⟩ := r
 have HG := Lib.hid hg
 have hk0 : kind = 3 := hk
 have hid : 0 ≤ id ∧ id ≤ 1099511627776 := ⟨hg.id0, hg.id1⟩
 clear hg hk
 subst hk0
 have hcb := K.out.cell
 go_enter Tryz.func57, Tryz.ntmps57
 go_wp2_with fail
 generalize hWb : W.alloc (.cells (rsC (.slice A n c) ⟨3, id, er, ep, rs, ⟨s0, s1, s2, s3, s4, s5⟩⟩) 71) = Wb at *
 clear hWb
 go_at_call 82; (with_reducible refine CC.out.mono ?_); rintro e w1 ⟨rfl, hb1⟩
 have H1 := Lib.hid (OwL.start hb1)
 have hcb := (K.out.kept H1.out.below).cell
 clear hb1 CC
 go_wp2_with fail
 go_at_call 80; (with_reducible refine (owl_num H1.out 3 (by decide) (by omega)).mono ?_); rintro e w2 ⟨v2, rfl, h, _⟩
 have H2 := Lib.hid h
 clear h hcb H1
 have hcb := (K.out.kept H2.out.below).cell
 go_wp2_with fail
 go_at_call 80; (with_reducible refine (owl_num H2.out id (by omega) (by omega)).mono ?_); rintro e w3 ⟨v3, rfl, h, _⟩
 have H3 := Lib.hid h
 clear h hcb H2
 have hcb := (K.out.kept H3.out.below).cell
 go_wp2
 go_ret2
 have hf := OwL.fin H3.out BW.out
 refine ⟨_, rfl, ?_, hf.2⟩
 have h := hf.1
 rw [HE.out]
 simpa [bodyRs, rowsE, numsE, HL.out, List.append_assoc] using h
theorem ref_rs_stats (A : Option Addr) (n c : Nat) (r : Rs) (W : World) (hk : r.kind = 4) (hr : RsA W A n r) (h0 : checkRs r = 0) :
  Calls Tryz.prog 57 #[.agg (rsC (.slice A n c) r)] W (RefQ W (encRs r)) := by
 have hg := rs_good h0
 have BW := Lib.hid ((Below.refl W.heap.size W).alloc (Nat.le_refl _) (.cells (rsC (.slice A n c) r) 71))
 have K := Lib.hid (Blk.new W 71 (rsC (.slice A n c) r))
 have CC := Lib.hid (rcheck_rs A n c r _ hr.len (hr.below BW.out).rd hr.big hr.ok)
 rw [h0] at CC
 have HR := Lib.hid (hr.below BW.out).rd
 have HL := Lib.hid hr.len
 have HI := Lib.hid hr.rows
 have HE := Lib.hid (show encRs r = sev r.kind.toNat ++ (sev r.id.toNat ++ bodyRs r) from rfl)
 clear hr h0
 obtain ⟨kind, id, er, ep, rs, ⟨s0, s1, s2, s3, s4, s5⟩⟩ := r
 have HG := Lib.hid hg
 have hk0 : kind = 4 := hk
 have hid : 0 ≤ id ∧ id ≤ 1099511627776 := ⟨hg.id0, hg.id1⟩
 clear hg hk
 subst hk0
 have hcb := K.out.cell
 go_enter Tryz.func57, Tryz.ntmps57
 go_wp2_with fail
 generalize hWb : W.alloc (.cells (rsC (.slice A n c) ⟨4, id, er, ep, rs, ⟨s0, s1, s2, s3, s4, s5⟩⟩) 71) = Wb at *
 clear hWb
 go_at_call 82; (with_reducible refine CC.out.mono ?_); rintro e w1 ⟨rfl, hb1⟩
 have H1 := Lib.hid (OwL.start hb1)
 have hcb := (K.out.kept H1.out.below).cell
 clear hb1 CC
 go_wp2_with fail
 go_at_call 80; (with_reducible refine (owl_num H1.out 4 (by decide) (by omega)).mono ?_); rintro e w2 ⟨v2, rfl, h, _⟩
 have H2 := Lib.hid h
 clear h hcb H1
 have hcb := (K.out.kept H2.out.below).cell
 go_wp2_with fail
 go_at_call 80; (with_reducible refine (owl_num H2.out id (by omega) (by omega)).mono ?_); rintro e w3 ⟨v3, rfl, h, _⟩
 have H3 := Lib.hid h
 clear h hcb H2
 have hcb := (K.out.kept H3.out.below).cell
 have HST := Lib.hid (stL_small (HG.out.st rfl))
 have h6 : (stL ⟨s0, s1, s2, s3, s4, s5⟩).length = 6 := rfl
 have HA := Lib.hid (OwB.new (OwB.new H3.out 69 #[.int .i64 s0, .int .i64 s1, .int .i64 s2, .int .i64 s3, .int .i64 s4, .int .i64 s5]).own 3 #[.int .i64 s0, .int .i64 s1, .int .i64 s2, .int .i64 s3, .int .i64 s4, .int .i64 s5])
 rw [show (w3.alloc (.cells #[.int .i64 s0, .int .i64 s1, .int .i64 s2, .int .i64 s3, .int .i64 s4, .int .i64 s5] 69)).heap.size = w3.heap.size + 1 by simp] at HA
 go_wp2_with fail
 obtain ⟨pre, HPRE, HB⟩ : ∃ pre, Hid (pre = [] ++ sev (4 : Int).toNat ++ sev (id : Int).toNat) ∧ Hid (OwB Wb _ (w3.heap.size + 1) 3 #[.int .i64 s0, .int .i64 s1, .int .i64 s2, .int .i64 s3, .int .i64 s4, .int .i64 s5] v3 pre 20) := ⟨_, Lib.hid rfl, HA⟩
 clear hcb HA
 go_loopw [5, 10] (fun t5 t10 wz => ∃ k : Nat, t10 = .int .i64 (k : Int) ∧ k ≤ 6 ∧ Hid (OwB Wb wz (w3.heap.size + 1) 3 #[.int .i64 s0, .int .i64 s1, .int .i64 s2, .int .i64 s3, .int .i64 s4, .int .i64 s5] t5 (pre ++ numsE ((stL ⟨s0, s1, s2, s3, s4, s5⟩).take k)) (20 + 10 * k))) (fun _ t10 _ => 6 - (intOf t10).toNat)
 case atStart => exact ⟨0, rfl, Nat.zero_le _, Lib.hid (HB.out.to (by simp [numsE]) (by omega))⟩
 case round =>
  obtain ⟨k, rfl, hkn, HP⟩ := hrel
  rename World => wz
  by_cases hlt : k < 6
  ·have hkx : k < (stL ⟨s0, s1, s2, s3, s4, s5⟩).length := hlt
   have hx0 : wz.cell? ⟨w3.heap.size + 1, k, none⟩ = some (.int .i64 (stL ⟨s0, s1, s2, s3, s4, s5⟩)[k]) := (HP.out.blk.cell k).trans (stC_at ⟨s0, s1, s2, s3, s4, s5⟩ k hlt)
   have HS := Lib.hid (fm_take (fun n => sev n.toNat) (stL ⟨s0, s1, s2, s3, s4, s5⟩) k hkx)
   have HM := Lib.hid (HST.out _ (List.getElem_mem hkx))
   generalize (stL ⟨s0, s1, s2, s3, s4, s5⟩)[k] = x at *
   go_wp2_with fail
   go_at_call 80; (with_reducible refine (owl_num HP.out.own x (by have := HM.out; omega) (by omega)).mono ?_); rintro e wy ⟨vy, rfl, h, hf⟩
   have HY := Lib.hid (HP.out.step h hf)
   clear h hf hx0
   go_wp2
   go_roundw
   case rel => exact ⟨k + 1, by go_num, by omega, Lib.hid (HY.out.to (by unfold numsE; rw [HS.out, List.append_assoc]) (by omega))⟩
   case measure => simp [intOf]; omega
  ·have HT := Lib.hid (show (stL ⟨s0, s1, s2, s3, s4, s5⟩).take k = stL ⟨s0, s1, s2, s3, s4, s5⟩ by rw [List.take_of_length_le (by omega)])
   have H20 := Lib.hid (HP.out.own.to (bs' := pre ++ numsE (stL ⟨s0, s1, s2, s3, s4, s5⟩)) (N' := 2000) (by rw [HT.out]) (by omega))
   clear HP HT
   go_wp2
   go_ret2
   have hf := OwL.fin H20.out BW.out
   refine ⟨_, rfl, ?_, hf.2⟩
   have h := hf.1
   rw [HE.out]
   rw [HPRE.out] at h
   simpa [bodyRs, rowsE, numsE, HL.out, List.append_assoc] using h
theorem ref_rs_error (A : Option Addr) (n c : Nat) (r : Rs) (W : World) (hk : r.kind = 5) (hr : RsA W A n r) (h0 : checkRs r = 0) :
  Calls Tryz.prog 57 #[.agg (rsC (.slice A n c) r)] W (RefQ W (encRs r)) := by
 have hg := rs_good h0
 have BW := Lib.hid ((Below.refl W.heap.size W).alloc (Nat.le_refl _) (.cells (rsC (.slice A n c) r) 71))
 have K := Lib.hid (Blk.new W 71 (rsC (.slice A n c) r))
 have CC := Lib.hid (rcheck_rs A n c r _ hr.len (hr.below BW.out).rd hr.big hr.ok)
 rw [h0] at CC
 have HR := Lib.hid (hr.below BW.out).rd
 have HL := Lib.hid hr.len
 have HI := Lib.hid hr.rows
 have HE := Lib.hid (show encRs r = sev r.kind.toNat ++ (sev r.id.toNat ++ bodyRs r) from rfl)
 clear hr h0
 obtain ⟨kind, id, er, ep, rs, ⟨s0, s1, s2, s3, s4, s5⟩⟩ := r
 have HG := Lib.hid hg
 have hk0 : kind = 5 := hk
 have hid : 0 ≤ id ∧ id ≤ 1099511627776 := ⟨hg.id0, hg.id1⟩
 clear hg hk
 subst hk0
 have hcb := K.out.cell
 go_enter Tryz.func57, Tryz.ntmps57
 go_wp2_with fail
 generalize hWb : W.alloc (.cells (rsC (.slice A n c) ⟨5, id, er, ep, rs, ⟨s0, s1, s2, s3, s4, s5⟩⟩) 71) = Wb at *
 clear hWb
 go_at_call 82; (with_reducible refine CC.out.mono ?_); rintro e w1 ⟨rfl, hb1⟩
 have H1 := Lib.hid (OwL.start hb1)
 have hcb := (K.out.kept H1.out.below).cell
 clear hb1 CC
 go_wp2_with fail
 go_at_call 80; (with_reducible refine (owl_num H1.out 5 (by decide) (by omega)).mono ?_); rintro e w2 ⟨v2, rfl, h, _⟩
 have H2 := Lib.hid h
 clear h hcb H1
 have hcb := (K.out.kept H2.out.below).cell
 go_wp2_with fail
 go_at_call 80; (with_reducible refine (owl_num H2.out id (by omega) (by omega)).mono ?_); rintro e w3 ⟨v3, rfl, h, _⟩
 have H3 := Lib.hid h
 clear h hcb H2
 have hcb := (K.out.kept H3.out.below).cell
 have her := HG.out.err rfl
 dsimp only at her
 go_wp2_with fail
 go_at_call 80; (with_reducible refine (owl_num H3.out er (by omega) (by omega)).mono ?_); rintro e w4 ⟨v4, rfl, h, _⟩
 have H4 := Lib.hid h
 clear h hcb H3
 have hcb := (K.out.kept H4.out.below).cell
 go_wp2
 go_ret2
 have hf := OwL.fin H4.out BW.out
 refine ⟨_, rfl, ?_, hf.2⟩
 have h := hf.1
 rw [HE.out]
 simpa [bodyRs, rowsE, numsE, HL.out, List.append_assoc] using h
theorem ref_rs (A : Option Addr) (n c : Nat) (r : Rs) (W : World) (hr : RsA W A n r) (h0 : checkRs r = 0) :
  Calls Tryz.prog 57 #[.agg (rsC (.slice A n c) r)] W (RefQ W (encRs r)) := by
 have hg := rs_good h0
 obtain h | h | h | h | h : r.kind = 1 ∨ r.kind = 2 ∨ r.kind = 3 ∨ r.kind = 4 ∨ r.kind = 5 := by have := hg.k1; have := hg.k5; omega
 ·exact ref_rs_rows A n c r W h hr h0
 ·exact ref_rs_epoch A n c r W h hr h0
 ·exact ref_rs_done A n c r W h hr h0
 ·exact ref_rs_stats A n c r W h hr h0
 ·exact ref_rs_error A n c r W h hr h0
theorem ref_rs_no (A : Option Addr) (n c : Nat) (r : Rs) (W : World) (hr : RsA W A n r) (h0 : checkRs r ≠ 0) :
  Calls Tryz.prog 57 #[.agg (rsC (.slice A n c) r)] W fun e w' => e = .returned (.tuple #[.slice none 0 0, .int .i64 (checkRs r)]) ∧ Below W.heap.size W w' := by
 have hz : (checkRs r != 0) = true := by simpa using h0
 have BW := Lib.hid ((Below.refl W.heap.size W).alloc (Nat.le_refl _) (.cells (rsC (.slice A n c) r) 71))
 have CC := Lib.hid (rcheck_rs A n c r _ hr.len (hr.below BW.out).rd hr.big hr.ok)
 have hcb := (Blk.new W 71 (rsC (.slice A n c) r)).cell
 clear hr h0
 go_enter Tryz.func57, Tryz.ntmps57
 go_wp2_with fail
 go_at_call 82; (with_reducible refine CC.out.mono ?_); rintro e w1 ⟨rfl, hb1⟩
 have HB := Lib.hid (BW.out.trans (hb1.mono BW.out.size))
 clear hb1
 go_wp2
 go_ret2
 exact ⟨rfl, HB.out⟩
/-- The document's Encode of any. -/
def RefA (W : World) (bs : List Int) (code : Int) (e : Ending) (w' : World) : Prop := ∃ v, e = .returned (.tuple #[v, .int .i64 code]) ∧ Ow w' W.heap.size v bs ∧ Below W.heap.size W w'
theorem refenc_rq {A : Option Addr} {n : Nat} {q : Rq} {W : World} (h : RqA W A n q) (c : Nat) :
  Calls Tryz.prog 55 #[.agg (rqC (.slice A n c) q)] W (RefA W (encB q) (checkRq q)) := by
 unfold encB
 by_cases h0 : checkRq q = 0
 ·rw [if_pos h0, h0]
  exact ref_rq A n c q W h h0
 ·rw [if_neg h0]
  refine (ref_rq_no A n c q W h h0).mono ?_
  rintro e w' ⟨rfl, hb⟩
  exact ⟨_, rfl, Ow.nil _ _, hb⟩
theorem refenc_rs {A : Option Addr} {n : Nat} {r : Rs} {W : World} (h : RsA W A n r) (c : Nat) :
  Calls Tryz.prog 57 #[.agg (rsC (.slice A n c) r)] W (RefA W (encS r) (checkRs r)) := by
 unfold encS
 by_cases h0 : checkRs r = 0
 ·rw [if_pos h0, h0]
  exact ref_rs A n c r W h h0
 ·rw [if_neg h0]
  refine (ref_rs_no A n c r W h h0).mono ?_
  rintro e w' ⟨rfl, hb⟩
  exact ⟨_, rfl, Ow.nil _ _, hb⟩
end Go.Proofs.YtglbdbghcdoicaaGreatDoor
