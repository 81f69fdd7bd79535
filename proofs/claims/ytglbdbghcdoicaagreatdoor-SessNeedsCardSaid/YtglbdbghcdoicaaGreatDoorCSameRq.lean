/- SameRequest, SameResponse: the program's and the document's: the walks. -/
import Derived.Test.YtglbdbghcdoicaaGreatDoorCSm
namespace Go.Proofs.YtglbdbghcdoicaaGreatDoor
open Go.RowKit

theorem bcell {W w1 : World} (hb : Below W.heap.size W w1) : (∀ b o, b < W.heap.size → w1.cell? ⟨b, o, none⟩ = W.cell? ⟨b, o, none⟩) ∧ (∀ b o, b < W.heap.size → w1.frozen? ⟨b, o, none⟩ = W.frozen? ⟨b, o, none⟩) :=
  ⟨fun b o h => hb.cell (p := ⟨b, o, none⟩) h, fun b o h => hb.frozen (p := ⟨b, o, none⟩) h⟩
set_option maxHeartbeats 2000000 in
set_option maxRecDepth 100000 in
theorem same_rq (A B : Option Addr) (n m c d : Nat) (a b : Rq) (W : World) (hla : a.cs.length = n) (hlb : b.cs.length = m) (ha : CellsRd W A a.cs) (hb : CellsRd W B b.cs) (hn : n ≤ 9223372036854775807) (hm : m ≤ 9223372036854775807) :
    Calls Tryz.prog 50 #[.agg (rqC (.slice A n c) a), .agg (rqC (.slice B m d) b)] W fun e w' => e = .returned (.bool (decide (sameRq a b))) ∧ Below W.heap.size W w' := by
  obtain ⟨k, i, ep, cs, ⟨fv, fk, fs⟩, ⟨tv, tk, ts⟩, l⟩ := a
  obtain ⟨k', i', ep', cs', ⟨fv', fk', fs'⟩, ⟨tv', tk', ts'⟩, l'⟩ := b
  have C := Lib.hid (fun W' (hb' : Below W.heap.size W W') => equal_cells A B n m c d cs cs' W' hla hlb (ha.below hb') (hb.below hb') hn hm)
  have HB := Lib.hid (show ∀ o1 o2, Below W.heap.size W ((W.alloc o1).alloc o2) from fun _ _ => ((Below.refl _ _).alloc (Nat.le_refl _) _).alloc (by simp) _)
  clear hla hlb ha hb hn hm
  go_enter Tryz.func50, Tryz.ntmps50
  go_wp2_with (go_at_call 64; (with_reducible refine (C.out _ (HB.out _ _)).mono ?_); rintro e w1 ⟨rfl, hb⟩; have hc := (bcell hb).1; have HB2 := Lib.hid ((HB.out _ _).trans (hb.mono (HB.out _ _).size)); clear hb)
  all_goals go_ret
  all_goals (try clear hc)
  all_goals
    refine ⟨ret_bool ?_, ?_⟩
    · clear C
      rw [Bool.eq_iff_iff]
      simp [sameRq, CellV.ext_iff_, ← key_iff, *]
    · first | exact HB.out _ _ | exact HB2.out
set_option maxHeartbeats 2000000 in
set_option maxRecDepth 100000 in
theorem same_rs (A B : Option Addr) (n m c d : Nat) (a b : Rs) (W : World) (hla : a.rows.length = n) (hlb : b.rows.length = m) (ha : RowsRd W A a.rows) (hb : RowsRd W B b.rows) (hn : n ≤ 9223372036854775807) (hm : m ≤ 9223372036854775807) :
    Calls Tryz.prog 128 #[.agg (rsC (.slice A n c) a), .agg (rsC (.slice B m d) b)] W fun e w' => e = .returned (.bool (decide (sameRs a b))) ∧ Below W.heap.size W w' := by
  obtain ⟨k, i, er, ep, cs, ⟨s0, s1, s2, s3, s4, s5⟩⟩ := a
  obtain ⟨k', i', er', ep', cs', ⟨t0, t1, t2, t3, t4, t5⟩⟩ := b
  have C := Lib.hid (fun W' (hb' : Below W.heap.size W W') => equal_rows A B n m c d cs cs' W' hla hlb (ha.below hb') (hb.below hb') hn hm)
  have HB := Lib.hid (show ∀ o1 o2, Below W.heap.size W ((W.alloc o1).alloc o2) from fun _ _ => ((Below.refl _ _).alloc (Nat.le_refl _) _).alloc (by simp) _)
  clear hla hlb ha hb hn hm
  go_enter Tryz.func128, Tryz.ntmps128
  go_wp2_with (go_at_call 146; (with_reducible refine (C.out _ (HB.out _ _)).mono ?_); rintro e w1 ⟨rfl, hb⟩; have hc := (bcell hb).1; have HB2 := Lib.hid ((HB.out _ _).trans (hb.mono (HB.out _ _).size)); clear hb)
  all_goals go_ret
  all_goals (try clear hc)
  all_goals
    refine ⟨ret_bool ?_, ?_⟩
    · clear C
      rw [Bool.eq_iff_iff]
      simp [sameRs, StV.ext_iff_, *]
    · first | exact HB.out _ _ | exact HB2.out
set_option maxHeartbeats 4000000 in
set_option maxRecDepth 100000 in
theorem rsame_rq (A B : Option Addr) (n m c d : Nat) (a b : Rq) (W : World) (hla : a.cs.length = n) (hlb : b.cs.length = m) (ha : CellsRd W A a.cs) (hb : CellsRd W B b.cs) (hn : n ≤ 9223372036854775807) (hm : m ≤ 9223372036854775807) :
    Calls Tryz.prog 42 #[.agg (rqC (.slice A n c) a), .agg (rqC (.slice B m d) b)] W fun e w' => e = .returned (.bool (decide (sameRq a b))) ∧ Below W.heap.size W w' := by
  obtain ⟨k, i, ep, cs, ⟨fv, fk, fs⟩, ⟨tv, tk, ts⟩, l⟩ := a
  obtain ⟨k', i', ep', cs', ⟨fv', fk', fs'⟩, ⟨tv', tk', ts'⟩, l'⟩ := b
  have HB := Lib.hid (show ∀ o1 o2, Below W.heap.size W ((W.alloc o1).alloc o2) from fun _ _ => ((Below.refl _ _).alloc (Nat.le_refl _) _).alloc (by simp) _)
  replace hla : cs.length = n := hla
  replace hlb : cs'.length = m := hlb
  by_cases hh : k = k' ∧ i = i' ∧ ep = ep' ∧ fv = fv' ∧ fk = fk' ∧ fs = fs' ∧ tv = tv' ∧ tk = tk' ∧ ts = ts' ∧ l = l' ∧ n = m
  · obtain ⟨rfl, rfl, rfl, rfl, rfl, rfl, rfl, rfl, rfl, rfl, rfl⟩ := hh
    have HA := Lib.hid (show CellsRd W A cs from ha)
    have HBR := Lib.hid (show CellsRd W B cs' from hb)
    have HLA := Lib.hid hla
    have HLB := Lib.hid hlb
    have HF := Lib.hid (show decide (sameRq ⟨k, i, ep, cs, ⟨fv, fk, fs⟩, ⟨tv, tk, ts⟩, l⟩ ⟨k, i, ep, cs', ⟨fv, fk, fs⟩, ⟨tv, tk, ts⟩, l⟩) = decide (cs = cs') by rw [Bool.eq_iff_iff]; simp [sameRq])
    clear hla hlb ha hb
    obtain ⟨W2, hW2⟩ : ∃ W2, W2 = (W.alloc (.cells (rqC (.slice A n c) ⟨k, i, ep, cs, ⟨fv, fk, fs⟩, ⟨tv, tk, ts⟩, l⟩) 43)).alloc (.cells (rqC (.slice B n d) ⟨k, i, ep, cs', ⟨fv, fk, fs⟩, ⟨tv, tk, ts⟩, l⟩) 43) := ⟨_, rfl⟩
    have HW2 := Lib.hid hW2
    have HK1 := Lib.hid (show Blk W2 W.heap.size 43 (rqC (.slice A n c) ⟨k, i, ep, cs, ⟨fv, fk, fs⟩, ⟨tv, tk, ts⟩, l⟩) from hW2 ▸ (Blk.new _ _ _).alloc _)
    have HK2 := Lib.hid (show Blk W2 (W.heap.size + 1) 43 (rqC (.slice B n d) ⟨k, i, ep, cs', ⟨fv, fk, fs⟩, ⟨tv, tk, ts⟩, l⟩) from by
      have h := Blk.new (W.alloc (.cells (rqC (.slice A n c) ⟨k, i, ep, cs, ⟨fv, fk, fs⟩, ⟨tv, tk, ts⟩, l⟩) 43)) 43 (rqC (.slice B n d) ⟨k, i, ep, cs', ⟨fv, fk, fs⟩, ⟨tv, tk, ts⟩, l⟩)
      rw [hW2]
      simpa using h)
    have HBW := Lib.hid (show Below W.heap.size W W2 from hW2 ▸ HB.out _ _)
    clear hW2
    go_enter Tryz.func42, Tryz.ntmps42
    go_wp2
    rw [← HW2.out]
    go_loopw [5] (fun t5 wz => ∃ j : Nat, t5 = .int .i64 (j : Int) ∧ j ≤ n ∧ Hid (cs.take j = cs'.take j ∧ Below W2.heap.size W2 wz)) (fun t5 _ => n - (intOf t5).toNat)
    case atStart => exact ⟨0, rfl, Nat.zero_le _, Lib.hid ⟨rfl, Below.refl _ _⟩⟩
    case round =>
      obtain ⟨j, rfl, hj, HP⟩ := hrel
      rename World => wz
      have HBZ := Lib.hid (HBW.out.trans (HP.out.2.mono HBW.out.size))
      have p1 : wz.cell? ⟨W.heap.size, 3, none⟩ = some (.slice A n c) := (HK1.out.kept HP.out.2).cell 3
      have p2 : wz.cell? ⟨W.heap.size + 1, 3, none⟩ = some (.slice B n d) := (HK2.out.kept HP.out.2).cell 3
      by_cases hjn : j < n
      · have hkx : j < cs.length := by rw [HLA.out]; exact hjn
        have hky : j < cs'.length := by rw [HLB.out]; exact hjn
        obtain ⟨ad, rfl, a0, a1, a2⟩ := HA.out.at HBZ.out j hkx
        obtain ⟨bd, rfl, b0, b1, b2⟩ := HBR.out.at HBZ.out j hky
        have e0 := neqCell cs[j] cs'[j]
        have HE := Lib.hid (fun (e : cs[j] = cs'[j]) => take_succ_eq HP.out.1 hkx hky e)
        have HN := Lib.hid (fun (e : ¬ cs[j] = cs'[j]) (h : cs = cs') => e (by subst h; rfl))
        generalize cs[j] = x at *
        generalize cs'[j] = y at *
        by_cases hxy : x = y
        · rw [decide_eq_true hxy] at e0
          have e1 : ∀ w : World, (binOp .neq 41 (.agg #[.int .i64 x.view, .string x.key, .int .i64 x.start]) (.agg #[.int .i64 y.view, .string y.key, .int .i64 y.start])).run Tryz.prog w = .ok (.bool false) w := e0
          have HXY := Lib.hid hxy
          clear hxy e0
          go_wp2
          go_quiet (fail)
          have HB2 := Lib.hid (HP.out.2.trans (below_drewN (Below.refl wz.heap.size wz) nq |>.mono HP.out.2.size))
          generalize wz.drewN nq = w2 at HB2 ⊢
          go_wp2
          go_roundw
          case rel => exact ⟨j + 1, by go_num, by omega, Lib.hid ⟨HE.out HXY.out, HB2.out⟩⟩
          case measure => simp [intOf]; omega
        · rw [decide_eq_false hxy] at e0
          have e1 : ∀ w : World, (binOp .neq 41 (.agg #[.int .i64 x.view, .string x.key, .int .i64 x.start]) (.agg #[.int .i64 y.view, .string y.key, .int .i64 y.start])).run Tryz.prog w = .ok (.bool true) w := e0
          have HXY := Lib.hid (decide_eq_false (HN.out hxy))
          clear hxy e0
          go_wp2
          go_quiet (fail)
          have HB2 := Lib.hid (HBZ.out.trans (below_drewN (Below.refl wz.heap.size wz) nq |>.mono HBZ.out.size))
          generalize wz.drewN nq = w2 at HB2 ⊢
          go_wp2
          go_ret
          exact ⟨ret_bool (by rw [HF.out, HXY.out]), HB2.out⟩
      · have HT := Lib.hid (show decide (cs = cs') = true by
          have h := HP.out.1
          rw [List.take_of_length_le (by rw [HLA.out]; omega), List.take_of_length_le (by rw [HLB.out]; omega)] at h
          exact decide_eq_true h)
        go_wp2
        go_ret
        exact ⟨ret_bool (by rw [HF.out, HT.out]), HBZ.out⟩
  · have HF := Lib.hid (show decide (sameRq ⟨k, i, ep, cs, ⟨fv, fk, fs⟩, ⟨tv, tk, ts⟩, l⟩ ⟨k', i', ep', cs', ⟨fv', fk', fs'⟩, ⟨tv', tk', ts'⟩, l'⟩) = false from decide_eq_false (fun h => hh (by
      simp [sameRq] at h
      obtain ⟨h1, h2, h3, h4, ⟨h5, h6, h7⟩, ⟨h8, h9, h10⟩, h11⟩ := h
      exact ⟨h1, h2, h3, h5, h6, h7, h8, h9, h10, h11, by rw [← hla, ← hlb, h4]⟩)))
    have HH := Lib.hid hh
    clear hh hla hlb ha hb
    go_enter Tryz.func42, Tryz.ntmps42
    go_wp2
    all_goals first
      | (go_ret; exact ⟨ret_bool HF.out.symm, HB.out _ _⟩)
      | (exfalso; apply HH.out; simp only [key_iff, bne_eq_false_iff_eq] at *; (repeat' refine And.intro ?_ ?_) <;> first | assumption | omega)
end Go.Proofs.YtglbdbghcdoicaaGreatDoor
