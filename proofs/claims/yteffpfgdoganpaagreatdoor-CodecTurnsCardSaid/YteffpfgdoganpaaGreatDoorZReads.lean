/- CodecReads: the walk. -/
import Derived.Test.YteffpfgdoganpaaGreatDoorZPl
import Derived.Test.YteffpfgdoganpaaGreatDoorZDocS
import Derived.Test.YteffpfgdoganpaaGreatDoorCKn
import Derived.Test.YteffpfgdoganpaaGreatDoorWLB
import Derived.Test.YteffpfgdoganpaaGreatDoorCSameRq
namespace Go.Proofs.YteffpfgdoganpaaGreatDoor
open Go.RowKit

theorem bytes_cap {H : Type} {enc : TypeId × Value → H} {P : Program} {W : World} {t e : TypeId} {A : Option Addr} {n c : Nat} {d : DataW H} {p : List MemPlace}
    (ht : P.underlying t = some (.slice e)) (he : P.underlying e = some (.int .u8)) (hc : P.cellsOf e = 1) (h : DataW.Trod enc P W 0 (fun _ => true) true t (.slice A n c) d p) : n ≤ c := by
  obtain ⟨fuel, hf⟩ := h
  rcases Go.ChangeShapes.open_ints ht he hc hf with ⟨hcs, _⟩ | ⟨a, len, cap, zs, hcs, _, hl, _⟩
  · simp [Value.cells] at hcs
    obtain ⟨rfl, rfl, rfl⟩ := hcs
    exact Nat.le_refl _
  · simp [Value.cells] at hcs
    obtain ⟨rfl, rfl, rfl⟩ := hcs
    exact hl
/-- An error that says so. -/
def FV (W : World) (ev : Value) : Option (Int × Int) → Prop
  | none => ev = .nilIface
  | some (e, p) => (e == 0) = false ∧ ∃ g, ev = errV g ∧ Blk W g 110 #[.int .i64 e, .int .i64 p]
def fcode : Option (Int × Int) → Int
  | none => 0
  | some (e, _) => e
def fplace : Option (Int × Int) → Int
  | none => 0
  | some (_, p) => p
section
variable {W W' : World} {ev : Value} {f : Option (Int × Int)}
theorem FV.kept (h : FV W ev f) (hb : Below W.heap.size W W') : FV W' ev f := by
  rcases f with _ | ⟨e, p⟩
  · exact h
  · obtain ⟨h0, g, h1, h2⟩ := h
    exact ⟨h0, g, h1, h2.kept hb⟩
theorem FV.tur {k : Nat} {t : TypeId} {cs : Array Value} (h : FV W ev f) (ht : Tur (· = k) W W') (hk : Blk W k t cs) (hne : 110 ≠ t) : FV W' ev f := by
  rcases f with _ | ⟨e, p⟩
  · exact h
  · obtain ⟨h0, g, h1, h2⟩ := h
    exact ⟨h0, g, h1, h2.tur ht (fun e => (h2.ne_ hk hne) e)⟩
theorem fault_any (h : FV W ev f) (hT : W.cell? ⟨0, 0, none⟩ = some tyErr) :
    Calls Tryz.prog 13 #[ev, .int .i64 (fcode f), .int .i64 (fplace f)] W fun e w' => e = .returned (.bool true) ∧ Below W.heap.size W w' := by
  rcases f with _ | ⟨e, p⟩
  · obtain rfl := h
    exact fault_no 0 W
  · obtain ⟨h0, g, rfl, h2⟩ := h
    exact fault_yes g e p W hT h0 h2
end
section
variable {W w' : World} {e : Ending} {xs : List Int}
theorem DecQ.open_ (h : DecQ W (decRq xs) e w') : ∃ v ev, e = .returned (.tuple #[.agg (rqC v (decRq xs).1), ev]) ∧ CellsOwn w' W.heap.size v (decRq xs).1.cs ∧ FV w' ev (decRq xs).2 ∧ Below W.heap.size W w' := by
  obtain ⟨hb, h⟩ := h
  rcases hd : decRq xs with ⟨q, _ | ⟨c, p⟩⟩
  · rw [hd] at h
    obtain ⟨v, h1, h2⟩ := h
    exact ⟨v, _, h1, h2, rfl, hb⟩
  · obtain ⟨rfl, h0⟩ := decRq_fault hd
    rw [hd] at h
    obtain ⟨g, h1, h2⟩ := h
    exact ⟨nilS, _, h1, World.ownsRow_nil _ _ _ _, ⟨h0, g, rfl, h2⟩, hb⟩
theorem DesQ.open_ (h : DesQ W (decRs xs) e w') : ∃ v ev, e = .returned (.tuple #[.agg (rsC v (decRs xs).1), ev]) ∧ RowsOwn w' W.heap.size v (decRs xs).1.rows ∧ FV w' ev (decRs xs).2 ∧ Below W.heap.size W w' := by
  obtain ⟨hb, h⟩ := h
  rcases hd : decRs xs with ⟨q, _ | ⟨c, p⟩⟩
  · rw [hd] at h
    obtain ⟨v, h1, h2⟩ := h
    exact ⟨v, _, h1, h2, rfl, hb⟩
  · obtain ⟨rfl, h0⟩ := decRs_fault hd
    rw [hd] at h
    obtain ⟨g, h1, h2⟩ := h
    exact ⟨nilS, _, h1, World.ownsRow_nil _ _ _ _, ⟨h0, g, rfl, h2⟩, hb⟩
theorem DocQ.open_ (h : DocQ W (decRq xs) e w') : ∃ v, e = .returned (.tuple #[.agg (rqC v (decRq xs).1), .int .i64 (fcode (decRq xs).2), .int .i64 (fplace (decRq xs).2)]) ∧ CellsOwn w' W.heap.size v (decRq xs).1.cs ∧ Below W.heap.size W w' := by
  obtain ⟨hb, h⟩ := h
  rcases hd : decRq xs with ⟨q, _ | ⟨c, p⟩⟩
  · rw [hd] at h
    obtain ⟨v, h1, h2⟩ := h
    exact ⟨v, h1, h2, hb⟩
  · obtain ⟨rfl, h0⟩ := decRq_fault hd
    rw [hd] at h
    exact ⟨nilS, h, World.ownsRow_nil _ _ _ _, hb⟩
theorem DocS.open_ (h : DocS W (decRs xs) e w') : ∃ v, e = .returned (.tuple #[.agg (rsC v (decRs xs).1), .int .i64 (fcode (decRs xs).2), .int .i64 (fplace (decRs xs).2)]) ∧ RowsOwn w' W.heap.size v (decRs xs).1.rows ∧ Below W.heap.size W w' := by
  obtain ⟨hb, h⟩ := h
  rcases hd : decRs xs with ⟨q, _ | ⟨c, p⟩⟩
  · rw [hd] at h
    obtain ⟨v, h1, h2⟩ := h
    exact ⟨v, h1, h2, hb⟩
  · obtain ⟨rfl, h0⟩ := decRs_fault hd
    rw [hd] at h
    exact ⟨nilS, h, World.ownsRow_nil _ _ _ _, hb⟩
end
theorem same_self (q : Rq) : decide (sameRq q q) = true := by rw [decide_eq_true_eq, sameRq_eq]
theorem same_selfS (q : Rs) : decide (sameRs q q) = true := by rw [decide_eq_true_eq, sameRs_eq]
theorem CellsOwn.kept_ {W W1 : World} {B : Nat} {v : Value} {cs : List CellV} (h : CellsOwn W B v cs) (hb : Below W.heap.size W W1) : CellsOwn W1 B v cs := ownsRow_tur h (Tur.of_below (S := fun _ => False) hb) (fun _ _ h => h)
theorem RowsOwn.kept_ {W W1 : World} {B : Nat} {v : Value} {cs : List RowV} (h : RowsOwn W B v cs) (hb : Below W.heap.size W W1) : RowsOwn W1 B v cs := ownsRow_tur h (Tur.of_below (S := fun _ => False) hb) (fun _ _ h => h)
set_option maxHeartbeats 16000000 in
set_option maxRecDepth 100000 in
theorem law_reads (CK : KnownOk) (A : Option Addr) (n c : Nat) (xs : List Int) (W : World) (hT : W.cell? ⟨0, 0, none⟩ = some tyErr) (hl : xs.length = n) (hx : CellsAt W A (bvs xs)) (hw : ∀ x ∈ xs, (Lit.int .u8 x).wf = true) (hn : n ≤ 140737488355328) (hc : n ≤ c) :
    Calls Tryz.prog 3 #[.slice A n c] W fun e w' => e = .returned (.bool true) ∧ Below W.heap.size W w' := by
  have HT := Lib.hid (fun (W9 : World) (h : Below W.heap.size W W9) => (h.cell (p := ⟨0, 0, none⟩) (World.block_lt_of_cell? W _ hT)).trans hT)
  have HX := Lib.hid (fun (W9 : World) (h : Below W.heap.size W W9) => hx.below h)
  have HL := Lib.hid hl
  have HW := Lib.hid hw
  have HN := Lib.hid hn
  have HC := Lib.hid hc
  have CK := Lib.hid CK
  clear hT hl hx hw hn hc
  go_enter Tryz.func3, Tryz.ntmps3
  go_wp2_with fail
  go_at_call 6; (with_reducible refine (CK.out _ (HT.out _ (Below.refl _ _))).mono ?_); rintro e w1 ⟨rfl, hb1⟩
  have B1 := Lib.hid hb1
  clear hb1
  go_wp2_with fail
  go_at_call 7; (with_reducible refine (lend_any A n c xs w1 HL.out (HX.out _ B1.out) (by have := HN.out; omega)).mono ?_); rintro e w2 ⟨g, cur, rfl, hg, hgb, hcu, hb2⟩
  have B2 := Lib.hid (below_step B1.out hb2 (Nat.le_refl _))
  have HG0 := Lib.hid (Nat.le_trans B1.out.size hg)
  have G2 := Lib.hid hgb
  have HCU := Lib.hid hcu
  have HGL := Lib.hid hgb.lt
  clear hg hgb hcu hb2
  go_wp2_with fail
  go_at_call 8; (with_reducible refine (decode_rq (some ⟨g, 0, none⟩) n (n + 37) xs w2 HL.out (cells_of_blk G2.out HCU.out) HW.out (by have := HN.out; omega) (HT.out _ B2.out)).mono ?_); rintro e w3 hq
  obtain ⟨vq, ev, rfl, hqo, hqf, hb3⟩ := DecQ.open_ hq
  obtain ⟨Aq, cq, rfl⟩ := own_form3 hqo
  have B3 := Lib.hid (below_step B2.out hb3 (Nat.le_refl _))
  have bo3 := (Below.refl w3.heap.size w3).alloc (Nat.le_refl _) (.cells (rqC (.slice Aq (decRq xs).1.cs.length cq) (decRq xs).1) 29)
  have B4 := Lib.hid (below_step B3.out bo3 (Nat.le_refl _))
  have G4 := Lib.hid ((G2.out.kept hb3).kept bo3)
  have K4 := Lib.hid (Blk.new w3 29 (rqC (.slice Aq (decRq xs).1.cs.length cq) (decRq xs).1))
  have O4 := Lib.hid (hqo.kept_ bo3)
  have F4 := Lib.hid (hqf.kept bo3)
  have L23 := Lib.hid hb3.size
  clear hq hqo hqf hb3 bo3 G2 B3
  generalize hyq : decRq xs = yq at *
  have HYQ := Lib.hid hyq
  clear hyq
  go_wp2_with fail
  generalize w3.alloc (.cells (rqC (.slice Aq yq.1.cs.length cq) yq.1) 29) = w4 at *
  go_at_call 9; (with_reducible refine (decode_rs (some ⟨g, 0, none⟩) n (n + 37) xs w4 HL.out (cells_of_blk G4.out HCU.out) HW.out (by have := HN.out; omega) (HT.out _ B4.out)).mono ?_); rintro e w5 hq
  obtain ⟨vs, es, rfl, hqo, hqf, hb3⟩ := DesQ.open_ hq
  obtain ⟨Ar, cr, rfl⟩ := own_form3 hqo
  have B5 := Lib.hid (below_step B4.out hb3 (Nat.le_refl _))
  have bo3 := (Below.refl w5.heap.size w5).alloc (Nat.le_refl _) (.cells (rsC (.slice Ar (decRs xs).1.rows.length cr) (decRs xs).1) 39)
  have B6 := Lib.hid (below_step B5.out bo3 (Nat.le_refl _))
  have G6 := Lib.hid ((G4.out.kept hb3).kept bo3)
  have K6 := Lib.hid ((K4.out.kept hb3).kept bo3)
  have O6 := Lib.hid ((O4.out.kept_ hb3).kept_ bo3)
  have F6 := Lib.hid ((F4.out.kept hb3).kept bo3)
  have M6 := Lib.hid (Blk.new w5 39 (rsC (.slice Ar (decRs xs).1.rows.length cr) (decRs xs).1))
  have P6 := Lib.hid (hqo.kept_ bo3)
  have E6 := Lib.hid (hqf.kept bo3)
  have L45 := Lib.hid hb3.size
  have L34 := Lib.hid K4.out.lt
  clear hq hqo hqf hb3 bo3 G4 B4 B5 K4 O4 F4
  generalize hys : decRs xs = ys at *
  have HYS := Lib.hid hys
  clear hys
  go_wp2_with fail
  generalize w5.alloc (.cells (rsC (.slice Ar ys.1.rows.length cr) ys.1) 39) = w6 at *
  go_at_call 10; (with_reducible refine (back_any g cur A n c xs w6 HL.out (HX.out _ B6.out) G6.out HCU.out (by have := HN.out; omega)).mono ?_); rintro e w7 ⟨rfl, ht⟩
  have B7 := Lib.hid (B6.out.trans (ht.below B6.out.size (fun k e => by subst e; exact HG0.out)))
  have K7 := Lib.hid (K6.out.tur ht (by have := HGL.out; have := L23.out; omega))
  have M7 := Lib.hid (M6.out.tur ht (by have := HGL.out; have := L23.out; have := L34.out; have := L45.out; omega))
  have O7 := Lib.hid (show CellsOwn w7 w2.heap.size (.slice Aq yq.1.cs.length cq) yq.1.cs from ownsRow_tur O6.out ht (fun k e hs => by have := (O6.out.lt k e).1; have := HGL.out; omega))
  have P7 := Lib.hid (show RowsOwn w7 w4.heap.size (.slice Ar ys.1.rows.length cr) ys.1.rows from ownsRow_tur P6.out ht (fun k e hs => by have := (P6.out.lt k e).1; have := HGL.out; have := L23.out; have := L34.out; omega))
  have F7 := Lib.hid (F6.out.tur ht G6.out (by decide))
  have E7 := Lib.hid (E6.out.tur ht G6.out (by decide))
  clear ht B6 K6 M6 O6 P6 F6 E6 G6 HCU HGL HG0 L23
  go_wp2_with fail
  go_at_call 11; (with_reducible refine (doc_rq A n c xs w7 HL.out (HX.out _ B7.out) HW.out HN.out HC.out).mono ?_); rintro e w8 hq
  obtain ⟨vx, rfl, hqo, hb3⟩ := DocQ.open_ hq
  rw [HYQ.out] at hqo ⊢
  obtain ⟨Ax, cx, rfl⟩ := own_form3 hqo
  have B8 := Lib.hid (below_step B7.out hb3 (Nat.le_refl _))
  have bo3 := (Below.refl w8.heap.size w8).alloc (Nat.le_refl _) (.cells (rqC (.slice Ax yq.1.cs.length cx) yq.1) 29)
  have B9 := Lib.hid (below_step B8.out bo3 (Nat.le_refl _))
  have K9 := Lib.hid ((K7.out.kept hb3).kept bo3)
  have M9 := Lib.hid ((M7.out.kept hb3).kept bo3)
  have O9 := Lib.hid ((O7.out.kept_ hb3).kept_ bo3)
  have P9 := Lib.hid ((P7.out.kept_ hb3).kept_ bo3)
  have F9 := Lib.hid ((F7.out.kept hb3).kept bo3)
  have E9 := Lib.hid ((E7.out.kept hb3).kept bo3)
  have I9 := Lib.hid (Blk.new w8 29 (rqC (.slice Ax yq.1.cs.length cx) yq.1))
  have Q9 := Lib.hid (hqo.kept_ bo3)
  clear hq hqo hb3 bo3 B7 B8 K7 M7 O7 P7 F7 E7
  go_wp2_with fail
  generalize w8.alloc (.cells (rqC (.slice Ax yq.1.cs.length cx) yq.1) 29) = w9 at *
  go_at_call 12; (with_reducible refine (doc_rs A n c xs w9 HL.out (HX.out _ B9.out) HW.out HN.out HC.out).mono ?_); rintro e wa hq
  obtain ⟨vy, rfl, hqo, hb3⟩ := DocS.open_ hq
  rw [HYS.out] at hqo ⊢
  obtain ⟨Ay, cy, rfl⟩ := own_form3 hqo
  have Ba := Lib.hid (below_step B9.out hb3 (Nat.le_refl _))
  have bo3 := (Below.refl wa.heap.size wa).alloc (Nat.le_refl _) (.cells (rsC (.slice Ay ys.1.rows.length cy) ys.1) 39)
  have Bb := Lib.hid (below_step Ba.out bo3 (Nat.le_refl _))
  have Kb := Lib.hid ((K9.out.kept hb3).kept bo3)
  have Mb := Lib.hid ((M9.out.kept hb3).kept bo3)
  have Ob := Lib.hid ((O9.out.kept_ hb3).kept_ bo3)
  have Pb := Lib.hid ((P9.out.kept_ hb3).kept_ bo3)
  have Fb := Lib.hid ((F9.out.kept hb3).kept bo3)
  have Eb := Lib.hid ((E9.out.kept hb3).kept bo3)
  have Ib := Lib.hid ((I9.out.kept hb3).kept bo3)
  have Qb := Lib.hid ((Q9.out.kept_ hb3).kept_ bo3)
  have Jb := Lib.hid (Blk.new wa 39 (rsC (.slice Ay ys.1.rows.length cy) ys.1))
  have Rb := Lib.hid (hqo.kept_ bo3)
  clear hq hqo hb3 bo3 B9 Ba K9 M9 O9 P9 F9 E9 I9 Q9 HYQ HYS
  go_wp2_with fail
  generalize wa.alloc (.cells (rsC (.slice Ay ys.1.rows.length cy) ys.1) 39) = wb at *
  go_at_call 13; (with_reducible refine (fault_any Fb.out (HT.out _ Bb.out)).mono ?_); rintro e wc ⟨rfl, hb3⟩
  have Bc := Lib.hid (below_step Bb.out hb3 (Nat.le_refl _))
  have Kc := Lib.hid (Kb.out.kept hb3)
  have Mc := Lib.hid (Mb.out.kept hb3)
  have Oc := Lib.hid (Ob.out.kept_ hb3)
  have Pc := Lib.hid (Pb.out.kept_ hb3)
  have Ec := Lib.hid (Eb.out.kept hb3)
  have Ic := Lib.hid (Ib.out.kept hb3)
  have Qc := Lib.hid (Qb.out.kept_ hb3)
  have Jc := Lib.hid (Jb.out.kept hb3)
  have Rc := Lib.hid (Rb.out.kept_ hb3)
  clear hb3 Bb Kb Mb Ob Pb Fb Eb Ib Qb Jb Rb
  go_wp2_with fail
  go_at_call 13; (with_reducible refine (fault_any Ec.out (HT.out _ Bc.out)).mono ?_); rintro e wd ⟨rfl, hb3⟩
  have Bd := Lib.hid (below_step Bc.out hb3 (Nat.le_refl _))
  have Kd := Lib.hid (Kc.out.kept hb3)
  have Md := Lib.hid (Mc.out.kept hb3)
  have Od := Lib.hid (Oc.out.kept_ hb3)
  have Pd := Lib.hid (Pc.out.kept_ hb3)
  have Id := Lib.hid (Ic.out.kept hb3)
  have Qd := Lib.hid (Qc.out.kept_ hb3)
  have Jd := Lib.hid (Jc.out.kept hb3)
  have Rd := Lib.hid (Rc.out.kept_ hb3)
  clear hb3 Bc Kc Mc Oc Pc Ec Ic Qc Jc Rc
  have hck := Kd.out.cell
  have hci := Id.out.cell
  have HQ := Lib.hid (Od.out.rd_)
  have HR := Lib.hid (Qd.out.rd_)
  clear Od Qd Kd Id
  go_wp2_with fail
  go_at_call 14; (with_reducible refine (rsame_rq Aq Ax _ _ cq cx yq.1 yq.1 wd rfl rfl HQ.out.1 HR.out.1 HQ.out.2 HR.out.2).mono ?_); rintro e we ⟨rfl, hb3⟩
  rw [same_self]
  have Be := Lib.hid (below_step Bd.out hb3 (Nat.le_refl _))
  have Me := Lib.hid (Md.out.kept hb3)
  have Pe := Lib.hid (Pd.out.kept_ hb3)
  have Je := Lib.hid (Jd.out.kept hb3)
  have Re := Lib.hid (Rd.out.kept_ hb3)
  clear hb3 Bd Md Pd Jd Rd hck hci HQ HR
  have hck := Me.out.cell
  have hci := Je.out.cell
  have HQ := Lib.hid (Pe.out.rd_)
  have HR := Lib.hid (Re.out.rd_)
  clear Pe Re Me Je
  go_wp2_with fail
  go_at_call 15; (with_reducible refine (rsame_rs Ar Ay _ _ cr cy ys.1 ys.1 we rfl rfl HQ.out.1 HR.out.1 HQ.out.2 HR.out.2).mono ?_); rintro e wf ⟨rfl, hb3⟩
  rw [same_selfS]
  have Bf := Lib.hid (below_step Be.out hb3 (Nat.le_refl _))
  clear hb3 Be
  go_wp2
  go_ret
  exact ⟨rfl, Bf.out⟩
end Go.Proofs.YteffpfgdoganpaaGreatDoor
