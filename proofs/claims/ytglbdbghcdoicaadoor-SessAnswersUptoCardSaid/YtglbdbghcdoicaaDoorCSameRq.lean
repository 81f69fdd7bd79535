/- SameRequest, SameResponse: the program's and the document's: the walks. -/
import Derived.Test.YtglbdbghcdoicaaDoorCSm
namespace Go.Proofs.YtglbdbghcdoicaaDoor
open Go.RowKit

theorem bcell {W w1 : World} (hb : Below W.heap.size W w1) : (∀ b o, b < W.heap.size → w1.cell? ⟨b, o, none⟩ = W.cell? ⟨b, o, none⟩) ∧ (∀ b o, b < W.heap.size → w1.frozen? ⟨b, o, none⟩ = W.frozen? ⟨b, o, none⟩) :=
  ⟨fun b o h => hb.cell (p := ⟨b, o, none⟩) h, fun b o h => hb.frozen (p := ⟨b, o, none⟩) h⟩
set_option maxHeartbeats 2000000 in
set_option maxRecDepth 100000 in
theorem same_rq (A B : Option Addr) (n m c d : Nat) (a b : Rq) (W : World) (hla : a.cs.length = n) (hlb : b.cs.length = m) (ha : CellsRd W A a.cs) (hb : CellsRd W B b.cs) (hn : n ≤ 9223372036854775807) (hm : m ≤ 9223372036854775807) :
    Calls Tryd.prog 39 #[.agg (rqC (.slice A n c) a), .agg (rqC (.slice B m d) b)] W fun e w' => e = .returned (.bool (decide (sameRq a b))) ∧ Below W.heap.size W w' := by
  obtain ⟨k, i, ep, cs, ⟨fv, fk, fs⟩, ⟨tv, tk, ts⟩, l⟩ := a
  obtain ⟨k', i', ep', cs', ⟨fv', fk', fs'⟩, ⟨tv', tk', ts'⟩, l'⟩ := b
  have C := Lib.hid (fun W' (hb' : Below W.heap.size W W') => equal_cells A B n m c d cs cs' W' hla hlb (ha.below hb') (hb.below hb') hn hm)
  have HB := Lib.hid (show ∀ o1 o2, Below W.heap.size W ((W.alloc o1).alloc o2) from fun _ _ => ((Below.refl _ _).alloc (Nat.le_refl _) _).alloc (by simp) _)
  clear hla hlb ha hb hn hm
  go_enter Tryd.func39, Tryd.ntmps39
  go_wp2_with (go_at_call 69; (with_reducible refine (C.out _ (HB.out _ _)).mono ?_); rintro e w1 ⟨rfl, hb⟩; have hc := (bcell hb).1; have HB2 := Lib.hid ((HB.out _ _).trans (hb.mono (HB.out _ _).size)); clear hb)
  all_goals go_ret
  all_goals (try clear hc)
  all_goals
    refine ⟨ret_bool ?_, ?_⟩
    · clear C
      rw [Bool.eq_iff_iff]
      simp [sameRq, CellV.ext_iff_, ← key_iff, *]
    · first | exact HB.out _ _ | exact HB2.out
set_option maxHeartbeats 2000000 in
set_option maxRecDepth 100000 in
theorem same_rs (A B : Option Addr) (n m c d : Nat) (a b : Rs) (W : World) (hla : a.rows.length = n) (hlb : b.rows.length = m) (ha : RowsRd W A a.rows) (hb : RowsRd W B b.rows) (hn : n ≤ 9223372036854775807) (hm : m ≤ 9223372036854775807) :
    Calls Tryd.prog 30 #[.agg (rsC (.slice A n c) a), .agg (rsC (.slice B m d) b)] W fun e w' => e = .returned (.bool (decide (sameRs a b))) ∧ Below W.heap.size W w' := by
  obtain ⟨k, i, er, ep, cs, ⟨s0, s1, s2, s3, s4, s5⟩⟩ := a
  obtain ⟨k', i', er', ep', cs', ⟨t0, t1, t2, t3, t4, t5⟩⟩ := b
  have C := Lib.hid (fun W' (hb' : Below W.heap.size W W') => equal_rows A B n m c d cs cs' W' hla hlb (ha.below hb') (hb.below hb') hn hm)
  have HB := Lib.hid (show ∀ o1 o2, Below W.heap.size W ((W.alloc o1).alloc o2) from fun _ _ => ((Below.refl _ _).alloc (Nat.le_refl _) _).alloc (by simp) _)
  clear hla hlb ha hb hn hm
  go_enter Tryd.func30, Tryd.ntmps30
  go_wp2_with (go_at_call 58; (with_reducible refine (C.out _ (HB.out _ _)).mono ?_); rintro e w1 ⟨rfl, hb⟩; have hc := (bcell hb).1; have HB2 := Lib.hid ((HB.out _ _).trans (hb.mono (HB.out _ _).size)); clear hb)
  all_goals go_ret
  all_goals (try clear hc)
  all_goals
    refine ⟨ret_bool ?_, ?_⟩
    · clear C
      rw [Bool.eq_iff_iff]
      simp [sameRs, StV.ext_iff_, *]
    · first | exact HB.out _ _ | exact HB2.out
end Go.Proofs.YtglbdbghcdoicaaDoor
