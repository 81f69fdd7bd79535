/- SessPlays: the walk. -/
import Derived.Test.YtglbdbghcdoicaaGreatDoorSKnown
import Derived.Test.YtglbdbghcdoicaaGreatDoorSDoc
import Derived.Test.YtglbdbghcdoicaaGreatDoorWLB
namespace Go.Proofs.YtglbdbghcdoicaaGreatDoor
open Go.RowKit

/-- Both sessions, apart from one another, in memory that is newer than W0. -/
structure Two (W0 W : World) (s r : Nat) (most : Int) (st : Ses) (K : Nat) (S R : Nat → Prop) : Prop where
  sx : Sx W S s most st
  rx : Rx W R r most st K
  ap : ∀ k, S k → ¬ R k
  sB : ∀ k, S k → W0.heap.size ≤ k
  rB : ∀ k, R k → W0.heap.size ≤ k
  bel : Below W0.heap.size W0 W
theorem Two.kept {W0 W W' : World} {s r : Nat} {most : Int} {st : Ses} {K : Nat} {S R : Nat → Prop} (h : Two W0 W s r most st K S R) (hb : Below W.heap.size W W') : Two W0 W' s r most st K S R :=
  ⟨h.sx.kept hb, h.rx.kept hb, h.ap, h.sB, h.rB, below_step h.bel hb (Nat.le_refl _)⟩
def TwoQ (W0 : World) (s r : Nat) (most : Int) (st : Ses) (K : Nat) (W : World) : Prop := ∃ S R, Two W0 W s r most st K S R
theorem TwoQ.kept {W0 W W' : World} {s r : Nat} {most : Int} {st : Ses} {K : Nat} (h : TwoQ W0 s r most st K W) (hb : Below W.heap.size W W') : TwoQ W0 s r most st K W' := by
  obtain ⟨S, R, h⟩ := h
  exact ⟨S, R, h.kept hb⟩
set_option maxHeartbeats 16000000 in
set_option maxRecDepth 100000 in
theorem next_any {W0 W : World} {s r : Nat} {most : Int} {st : Ses} {K : Nat} (hT : W0.cell? ⟨0, 0, none⟩ = some tyErr) (h : TwoQ W0 s r most st K W) (hst : st.bs.length ≤ K) (hK : K ≤ 140737488355328) (hnn : st.n < 4611686018427387904) :
    Calls Tryz.prog 16 #[.pointer (some ⟨s, 0, none⟩), .pointer (some ⟨r, 0, none⟩)] W fun e w' => e = .returned (.bool true) ∧ TwoQ W0 s r most (sNext most st).2 K w' := by
  obtain ⟨S, R, h⟩ := h
  have HT := Lib.hid (fun (W9 : World) (h : Below W0.heap.size W0 W9) => (h.cell (p := ⟨0, 0, none⟩) (World.block_lt_of_cell? W0 _ hT)).trans hT)
  have H := Lib.hid h
  have C1 := s_next h.sx (HT.out _ h.bel) (by omega) hnn
  have C2 : ∀ w, Rx w R r most st K → Calls Tryz.prog 41 #[.pointer (some ⟨r, 0, none⟩)] w (RxQ w R r most st K) := fun w hw => r_next hw hK hnn
  unfold NxQ at C1
  unfold RxQ at C2
  have HSW := Lib.hid h.bel.size
  generalize (sNext most st).2 = st' at *
  generalize (sNext most st).1.getD rq0 = q at *
  generalize (sNext most st).1.isSome = bl at *
  have C1 := Lib.hid C1
  have C2 := Lib.hid C2
  clear hT h hst hK hnn
  go_enter Tryz.func16, Tryz.ntmps16
  go_wp2_with fail
  go_at_call 28; (with_reducible refine C1.out.mono ?_); rintro e w1 ⟨S1, A1, c1, ev, rfl, hx1, hS1, ht1, hk1, hf1, ho1, hv1⟩
  have bo2 := (Below.refl w1.heap.size w1).alloc (Nat.le_refl _) (.cells (rqC (.slice A1 q.cs.length c1) q) 43)
  have B1 := Lib.hid (show Below W0.heap.size W0 w1 from H.out.bel.trans (ht1.below HSW.out H.out.sB))
  have B2 := Lib.hid (below_step B1.out bo2 (Nat.le_refl _))
  have X2 := Lib.hid (hx1.kept bo2)
  have F2 := Lib.hid (hf1.kept bo2)
  have O2 := Lib.hid (ho1.kept_ bo2)
  have R2 := Lib.hid ((H.out.rx.turn ht1 H.out.ap).kept bo2)
  have K2 := Lib.hid (Blk.new w1 43 (rqC (.slice A1 q.cs.length c1) q))
  have HS1 := Lib.hid hS1
  have L1 := Lib.hid ht1.size
  clear hx1 hS1 ht1 hk1 hf1 ho1 hv1 bo2 C1
  go_wp2_with fail
  generalize hk5 : w1.heap.size = k5 at K2 L1 ⊢
  generalize w1.alloc (.cells (rqC (.slice A1 q.cs.length c1) q) 43) = w2 at *
  go_at_call 41; (with_reducible refine (C2.out w2 R2.out).mono ?_); rintro e w3 ⟨R3, A3, c3, rfl, hx3, hR3, ht3, hk3, ho3⟩
  have bo4 := (Below.refl w3.heap.size w3).alloc (Nat.le_refl _) (.cells (rqC (.slice A3 q.cs.length c3) q) 43)
  have HRl := Lib.hid H.out.rx.lt
  have hRW : ∀ k, R k → k < W.heap.size := HRl.out
  have B3 := Lib.hid (show Below W0.heap.size W0 w3 from B2.out.trans (ht3.below B2.out.size H.out.rB))
  have B4 := Lib.hid (below_step B3.out bo4 (Nat.le_refl _))
  have X4 := Lib.hid ((X2.out.turn ht3 hk3 (fun k hk hs => by
    rcases HS1.out k hs with h | h
    · exact H.out.ap k h hk
    · have := hRW k hk; omega)).kept bo4)
  have F4 := Lib.hid ((F2.out.keep hk3).kept bo4)
  have O4 := Lib.hid (CellsOwn.kept_ (show CellsOwn w3 W.heap.size (.slice A1 q.cs.length c1) q.cs from ownsRow_tur O2.out ht3 (fun k hk hs => by have := (O2.out.lt k hk).1; have := hRW k hs; omega)) bo4)
  have P4 := Lib.hid (ho3.kept_ bo4)
  have R4 := Lib.hid (hx3.kept bo4)
  have K4 := Lib.hid ((K2.out.tur ht3 (fun hs => by have := hRW k5 hs; have := L1.out; omega)).kept bo4)
  have J4 := Lib.hid (Blk.new w3 43 (rqC (.slice A3 q.cs.length c3) q))
  have AP := Lib.hid (show ∀ k, S1 k → ¬ R3 k from fun k hs hr => by
    have hkl := (X2.out.lt k hs)
    rcases hR3 k hr with h | h
    · rcases HS1.out k hs with h2 | h2
      · exact H.out.ap k h2 h
      · have := hRW k h; omega
    · omega)
  have SB := Lib.hid (show ∀ k, S1 k → W0.heap.size ≤ k from fun k hs => by
    rcases HS1.out k hs with h2 | h2
    · exact H.out.sB k h2
    · have := HSW.out; omega)
  have RB := Lib.hid (show ∀ k, R3 k → W0.heap.size ≤ k from fun k hs => by
    rcases hR3 k hs with h2 | h2
    · exact H.out.rB k h2
    · have := B2.out.size; omega)
  clear hx3 hR3 ht3 hk3 ho3 bo4 C2 hRW B2 X2 F2 O2 R2 K2
  have hr4 := R4.out.cells.2
  rcases hbd : st'.bad with _ | ⟨fe, fp⟩
  · rw [hbd] at F4 hr4
    rw [show fcode (none : Option (Int × Int)) = 0 from rfl]
    go_wp2_with fail
    generalize hk8 : w3.heap.size = k8 at J4 ⊢
    generalize w3.alloc (.cells (rqC (.slice A3 q.cs.length c3) q) 43) = w4 at *
    have HTW := Lib.hid (show TwoQ W0 s r most st' K w4 from ⟨S1, R3, X4.out, R4.out, AP.out, SB.out, RB.out, B4.out⟩)
    have hr2 := R4.out.cells.1
    have hkp5 := K4.out.lt
    have hkp8 := J4.out.lt
    have hrl := R4.out.lt r R4.out.at_
    have hc5 := K4.out.cell
    have hc8 := J4.out.cell
    have HRD1 := Lib.hid O4.out.rd_
    have HRD2 := Lib.hid P4.out.rd_
    have CA := Lib.hid (s_asked S1 s most st')
    clear hk5 hk8
    have CF := Lib.hid (fun (W9 : World) (hb : Below w4.heap.size w4 W9) => show Calls Tryz.prog 30 #[ev, .int .i64 0, .int .i64 0] W9 fun e w' => e = .returned (.bool true) ∧ Below W9.heap.size W9 w' from fault_any (f := none) (F4.out.kept hb) (HT.out _ (below_step B4.out hb (Nat.le_refl _))))
    refine wp_region_heldq (B := w4.heap.size) (w1 := w4) (by kernel_rfl) (by kernel_rfl) (Held.of (Below.refl _ _).drew (Nat.le_refl _)) ?_
    repeat
      (with_reducible refine wpQuiet_step (fun K hK => ?_))
      first
        | ((with_reducible refine ite_pos_ ?_ ?_); (focus (go_simp; done)); apply Exists.intro; refine ⟨fun wz hzC => ?_, hK _ ?_⟩; (have hz := HeldC.out hzC; clear hzC; unfold Oper.quietAt; go_simp; (first | done | (first | (go_at_call 42; (with_reducible refine (rsame_rq A1 A3 _ _ c1 c3 q q _ rfl rfl (HRD1.out.1.below hz.2.2.2) (HRD2.out.1.below hz.2.2.2) HRD1.out.2 HRD2.out.2).mono ?_); rintro e w' ⟨rfl, hb⟩; (rw [same_self]); exact ⟨rfl, HeldC.step hz hb⟩) | (go_at_call 30; (with_reducible refine (CF.out _ hz.2.2.2).mono ?_); rintro e w' ⟨rfl, hb⟩; exact ⟨rfl, HeldC.step hz hb⟩) | (go_at_call 29; (with_reducible refine (CA.out _ (X4.out.kept hz.2.2.2)).mono ?_); rintro e w' ⟨rfl, rfl⟩; exact ⟨rfl, HeldC.mk hz⟩) | ((have h0 := fun i => (hz.1 k5 i hkp5).trans (hc5 i)); (have h1 := fun i => (hz.1 k8 i hkp8).trans (hc8 i)); (have h2 := (hz.1 r 2 hrl).trans hr2); go_simp; (first | done | (with_reducible rfl)))) | (with_reducible rfl))); clear hK K; (try simp only [Act.put, List.setIfInBounds_toArray, List.set_cons_zero, List.set_cons_succ]))
        | ((with_reducible refine ite_neg_ ?_ ?_); (focus (go_simp; done)); refine hK _ ?_; clear hK K; (try simp only [Act.put, List.setIfInBounds_toArray, List.set_cons_zero, List.set_cons_succ]))
    (with_reducible refine wpQuiet_nil ?_)
    intro wz hz
    go_wp2
    go_ret
    exact ⟨rfl, HTW.out.kept hz.2.2.2⟩
  · have hf0 := X4.out.fault hbd
    rw [hbd] at F4 hr4
    have hf0 : (fe == 0) = false := hf0
    rw [show fcode (some (fe, fp)) = fe from rfl]
    rw [show fplace (some (fe, fp)) = fp from rfl] at hr4
    go_wp2_with fail
    generalize hk8 : w3.heap.size = k8 at J4 ⊢
    generalize w3.alloc (.cells (rqC (.slice A3 q.cs.length c3) q) 43) = w4 at *
    have HTW := Lib.hid (show TwoQ W0 s r most st' K w4 from ⟨S1, R3, X4.out, R4.out, AP.out, SB.out, RB.out, B4.out⟩)
    have hr2 := R4.out.cells.1
    have hkp5 := K4.out.lt
    have hkp8 := J4.out.lt
    have hrl := R4.out.lt r R4.out.at_
    have hc5 := K4.out.cell
    have hc8 := J4.out.cell
    have HRD1 := Lib.hid O4.out.rd_
    have HRD2 := Lib.hid P4.out.rd_
    have CA := Lib.hid (s_asked S1 s most st')
    clear hk5 hk8
    have CF := Lib.hid (fun (W9 : World) (hb : Below w4.heap.size w4 W9) => show Calls Tryz.prog 30 #[ev, .int .i64 fe, .int .i64 fp] W9 fun e w' => e = .returned (.bool true) ∧ Below W9.heap.size W9 w' from fault_any (f := some (fe, fp)) (F4.out.kept hb) (HT.out _ (below_step B4.out hb (Nat.le_refl _))))
    refine wp_region_heldq (B := w4.heap.size) (w1 := w4) (by kernel_rfl) (by kernel_rfl) (Held.of (Below.refl _ _).drew (Nat.le_refl _)) ?_
    repeat
      (with_reducible refine wpQuiet_step (fun K hK => ?_))
      first
        | ((with_reducible refine ite_pos_ ?_ ?_); (focus (go_simp; done)); apply Exists.intro; refine ⟨fun wz hzC => ?_, hK _ ?_⟩; (have hz := HeldC.out hzC; clear hzC; unfold Oper.quietAt; go_simp; (first | done | (first | (go_at_call 42; (with_reducible refine (rsame_rq A1 A3 _ _ c1 c3 q q _ rfl rfl (HRD1.out.1.below hz.2.2.2) (HRD2.out.1.below hz.2.2.2) HRD1.out.2 HRD2.out.2).mono ?_); rintro e w' ⟨rfl, hb⟩; (rw [same_self]); exact ⟨rfl, HeldC.step hz hb⟩) | (go_at_call 30; (with_reducible refine (CF.out _ hz.2.2.2).mono ?_); rintro e w' ⟨rfl, hb⟩; exact ⟨rfl, HeldC.step hz hb⟩) | (go_at_call 29; (with_reducible refine (CA.out _ (X4.out.kept hz.2.2.2)).mono ?_); rintro e w' ⟨rfl, rfl⟩; exact ⟨rfl, HeldC.mk hz⟩) | ((have h0 := fun i => (hz.1 k5 i hkp5).trans (hc5 i)); (have h1 := fun i => (hz.1 k8 i hkp8).trans (hc8 i)); (have h2 := (hz.1 r 2 hrl).trans hr2); go_simp; (first | done | (with_reducible rfl)))) | (with_reducible rfl))); clear hK K; (try simp only [Act.put, List.setIfInBounds_toArray, List.set_cons_zero, List.set_cons_succ]))
        | ((with_reducible refine ite_neg_ ?_ ?_); (focus (go_simp; done)); refine hK _ ?_; clear hK K; (try simp only [Act.put, List.setIfInBounds_toArray, List.set_cons_zero, List.set_cons_succ]))
    (with_reducible refine wpQuiet_nil ?_)
    intro wz hz
    go_wp2
    go_ret
    exact ⟨rfl, HTW.out.kept hz.2.2.2⟩
end Go.Proofs.YtglbdbghcdoicaaGreatDoor
