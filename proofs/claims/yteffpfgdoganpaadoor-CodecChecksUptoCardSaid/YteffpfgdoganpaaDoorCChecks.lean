/- CodecChecks: the walk. -/
import Derived.Test.YteffpfgdoganpaaDoorCLendR
import Derived.Test.YteffpfgdoganpaaDoorCUnlike
import Derived.Test.YteffpfgdoganpaaDoorCRCheckRq
import Derived.Test.YteffpfgdoganpaaDoorCRCheckRs
namespace Go.Proofs.YteffpfgdoganpaaDoor
open Go.RowKit

theorem Lent.rqA {W : World} {A : Option Addr} {g n : Nat} {cur : Array Value} {q : Rq} (h : Lent W g cur q.cs) (hq : RqA W A n q) : RqA W (some ⟨g, 0, none⟩) n q := ⟨hq.len, h.rd, hq.big, hq.ok⟩
theorem LentR.rsA {W : World} {A : Option Addr} {g n : Nat} {cur : Array Value} {r : Rs} (h : LentR W g cur r.rows) (hr : RsA W A n r) : RsA W (some ⟨g, 0, none⟩) n r := ⟨hr.len, h.rd, hr.big, hr.ok, hr.rows⟩
theorem same_itself (q : Rq) : decide (sameRq q q) = true := by rw [decide_eq_true_eq, sameRq_eq]
theorem same_itselfS (q : Rs) : decide (sameRs q q) = true := by rw [decide_eq_true_eq, sameRs_eq]
set_option maxHeartbeats 16000000 in
set_option maxRecDepth 100000 in
theorem law_checks (CK : KnownOk) (A B C D : Option Addr) (n c m d k c2 l d2 : Nat) (q p : Rq) (r s : Rs) (W : World) (hT : W.cell? ⟨0, 0, none⟩ = some tyErr) (hq : RqA W A n q) (hp : RqA W B m p) (hr : RsA W C k r) (hs : RsA W D l s) (hn : n ≤ 1048576) (hk : k ≤ 1048576) :
    Calls Tryd.prog 3 #[.agg (rqC (.slice A n c) q), .agg (rqC (.slice B m d) p), .agg (rsC (.slice C k c2) r), .agg (rsC (.slice D l d2) s)] W fun e w' => e = .returned (.bool true) ∧ Below W.heap.size W w' := by
  have HBX := Lib.hid (box4 W 26 26 32 32 (rqC (.slice A n c) q) (rqC (.slice B m d) p) (rsC (.slice C k c2) r) (rsC (.slice D l d2) s))
  have HT := Lib.hid (fun (W9 : World) (h : Below W.heap.size W W9) => (h.cell (p := ⟨0, 0, none⟩) (World.block_lt_of_cell? W _ hT)).trans hT)
  have HQ := Lib.hid hq
  have HP := Lib.hid hp
  have HR := Lib.hid hr
  have HS := Lib.hid hs
  have HN := Lib.hid hn
  have HK := Lib.hid hk
  have CK := Lib.hid CK
  clear hT hq hp hr hs hn hk
  go_enter Tryd.func3, Tryd.ntmps3
  go_wp2_with fail
  generalize ((((W.alloc (.cells (rqC (.slice A n c) q) 26)).alloc (.cells (rqC (.slice B m d) p) 26)).alloc (.cells (rsC (.slice C k c2) r) 32)).alloc (.cells (rsC (.slice D l d2) s) 32)) = W0 at *
  obtain ⟨k1, k2, k3, k4, hb0⟩ := HBX.out
  have K1 := Lib.hid k1
  have K2 := Lib.hid k2
  have K3 := Lib.hid k3
  have K4 := Lib.hid k4
  have B0 := Lib.hid hb0
  have HQ0 := Lib.hid (HQ.out.below hb0)
  have HP0 := Lib.hid (HP.out.below hb0)
  have HR0 := Lib.hid (HR.out.below hb0)
  have HS0 := Lib.hid (HS.out.below hb0)
  clear k1 k2 k3 k4 hb0 HBX HQ HP HR HS
  have BW := Lib.hid (fun (W9 : World) (h : Below W0.heap.size W0 W9) => B0.out.trans (h.mono B0.out.size))
  go_at_call 10; (with_reducible refine (CK.out _ (HT.out _ B0.out)).mono ?_); rintro e w1 ⟨rfl, hb1⟩
  have B1 := Lib.hid hb1
  clear hb1
  have hcq : ∀ i, w1.cell? ⟨W.heap.size, i, none⟩ = (rqC (.slice A n c) q)[i]? := (K1.out.kept B1.out).cell
  go_wp2_with fail
  go_at_call 11; (with_reducible refine (lend_rq A n c q w1 (HQ0.out.below B1.out) HN.out).mono ?_); rintro e w2 ⟨g1, cur1, rfl, hg1, hl1, hb2⟩
  have B2 := Lib.hid (below_step B1.out hb2 (Nat.le_refl _))
  have G1 := Lib.hid (Nat.le_trans B1.out.size hg1)
  have L1 := Lib.hid hl1
  clear hb2 hg1 hl1 hcq
  have B3 := Lib.hid (B2.out.alloc B2.out.size (.cells (rqC (.slice (some ⟨g1, 0, none⟩) n (n + 3)) q) 26))
  have K9 := Lib.hid (Blk.new w2 26 (rqC (.slice (some ⟨g1, 0, none⟩) n (n + 3)) q))
  have L3 := Lib.hid (L1.out.kept ((Below.refl w2.heap.size w2).alloc (Nat.le_refl _) (.cells (rqC (.slice (some ⟨g1, 0, none⟩) n (n + 3)) q) 26)))
  have hcr : ∀ i, (w2.alloc (.cells (rqC (.slice (some ⟨g1, 0, none⟩) n (n + 3)) q) 26)).cell? ⟨W.heap.size + 1 + 1, i, none⟩ = (rsC (.slice C k c2) r)[i]? := (K3.out.kept B3.out).cell
  have hgb : g1 < w2.heap.size := L1.out.blk.lt
  have hb9 : W0.heap.size ≤ w2.heap.size := B2.out.size
  go_wp2_with fail
  go_at_call 12; (with_reducible refine (lend_rs C k c2 r _ (HR0.out.below B3.out) HK.out).mono ?_); rintro e w4 ⟨g2, cur2, rfl, hg2, hl2, hb4⟩
  have hg2 : w2.heap.size + 1 ≤ g2 := by simpa using hg2
  have B4 := Lib.hid (below_step B3.out hb4 (Nat.le_refl _))
  have J9 := Lib.hid (K9.out.kept hb4)
  have L4 := Lib.hid (L3.out.kept hb4)
  have M4 := Lib.hid hl2
  clear hb4 hl2 hcr K9 L3 L1
  have B5 := Lib.hid (B4.out.alloc B4.out.size (.cells (rsC (.slice (some ⟨g2, 0, none⟩) k (k + 3)) r) 32))
  have K10 := Lib.hid (Blk.new w4 32 (rsC (.slice (some ⟨g2, 0, none⟩) k (k + 3)) r))
  have bl := Lib.hid ((Below.refl w4.heap.size w4).alloc (Nat.le_refl _) (.cells (rsC (.slice (some ⟨g2, 0, none⟩) k (k + 3)) r) 32))
  have K9 := Lib.hid (J9.out.kept bl.out)
  have L5 := Lib.hid (L4.out.kept bl.out)
  have M5 := Lib.hid (M4.out.kept bl.out)
  have hg2b : g2 < w4.heap.size := M4.out.blk.lt
  clear bl J9 L4 M4
  have hc9 : ∀ i, (w4.alloc (.cells (rsC (.slice (some ⟨g2, 0, none⟩) k (k + 3)) r) 32)).cell? ⟨w2.heap.size, i, none⟩ = (rqC (.slice (some ⟨g1, 0, none⟩) n (n + 3)) q)[i]? := K9.out.cell
  have QA5 := Lib.hid (L5.out.rqA (HQ0.out.below B5.out))
  have RA5 := Lib.hid (M5.out.rsA (HR0.out.below B5.out))
  go_wp2_with fail
  go_at_call 13; (with_reducible refine (check_rq (some ⟨g1, 0, none⟩) n (n + 3) q _ QA5.out.len QA5.out.rd QA5.out.big QA5.out.ok).mono ?_); rintro e w6 ⟨rfl, hb6⟩
  have B6 := Lib.hid (below_step B5.out hb6 (Nat.le_refl _))
  have K9 := Lib.hid (K9.out.kept hb6)
  have K10 := Lib.hid (K10.out.kept hb6)
  have L6 := Lib.hid (L5.out.kept hb6)
  have M6 := Lib.hid (M5.out.kept hb6)
  have RA6 := Lib.hid (RA5.out.below hb6)
  clear hb6 hc9 L5 M5 RA5 QA5
  have hc10 : ∀ i, w6.cell? ⟨w4.heap.size, i, none⟩ = (rsC (.slice (some ⟨g2, 0, none⟩) k (k + 3)) r)[i]? := K10.out.cell
  go_wp2_with fail
  go_at_call 14; (with_reducible refine (check_rs (some ⟨g2, 0, none⟩) k (k + 3) r _ RA6.out.len RA6.out.rd RA6.out.big RA6.out.ok).mono ?_); rintro e w7 ⟨rfl, hb7⟩
  have B7 := Lib.hid (below_step B6.out hb7 (Nat.le_refl _))
  have K9 := Lib.hid (K9.out.kept hb7)
  have K10 := Lib.hid (K10.out.kept hb7)
  have L7 := Lib.hid (L6.out.kept hb7)
  have M7 := Lib.hid (M6.out.kept hb7)
  have QA := Lib.hid (L7.out.rqA (HQ0.out.below B7.out))
  have RA := Lib.hid (M7.out.rsA (HR0.out.below B7.out))
  have QQ := Lib.hid (HQ0.out.below B7.out)
  have PP := Lib.hid (HP0.out.below B7.out)
  have RR := Lib.hid (HR0.out.below B7.out)
  have SS := Lib.hid (HS0.out.below B7.out)
  have N1 := Lib.hid (K1.out.kept B7.out)
  have N2 := Lib.hid (K2.out.kept B7.out)
  have N3 := Lib.hid (K3.out.kept B7.out)
  have N4 := Lib.hid (K4.out.kept B7.out)
  have hself := same_itself q
  have hselfS := same_itselfS r
  clear hb7 hc10 L6 M6 RA6
  go_wp2
  refine wp_region_heldq (B := w7.heap.size) (w1 := w7) (by kernel_rfl) (by kernel_rfl) (Held.of (Below.refl _ _).drew (Nat.le_refl _)) ?_
  repeat
    (with_reducible refine wpQuiet_step (fun K hK => ?_))
    first
      | ((with_reducible refine ite_pos_ ?_ ?_); (focus (go_simp; done)); apply Exists.intro; refine ⟨fun wz hzC => ?_, hK _ ?_⟩; (have hz := HeldC.out hzC; clear hzC; unfold Oper.quietAt; go_simp; (first | done | (first | (go_at_call 15; (first | (with_reducible refine (same_rq _ _ n m (n + 3) d q p _ QA.out.len PP.out.len (QA.out.below hz.2.2.2).rd (PP.out.below hz.2.2.2).rd QA.out.big PP.out.big).mono ?_) | (with_reducible refine (same_rq _ _ m n d (n + 3) p q _ PP.out.len QA.out.len (PP.out.below hz.2.2.2).rd (QA.out.below hz.2.2.2).rd PP.out.big QA.out.big).mono ?_) | (with_reducible refine (same_rq _ _ n n (n + 3) c q q _ QA.out.len QQ.out.len (QA.out.below hz.2.2.2).rd (QQ.out.below hz.2.2.2).rd QA.out.big QQ.out.big).mono ?_)); rintro e w' ⟨rfl, hb⟩; exact ⟨rfl, HeldC.step hz hb⟩) | (go_at_call 16; (first | (with_reducible refine (rsame_rq _ _ n m c d q p _ QQ.out.len PP.out.len (QQ.out.below hz.2.2.2).rd (PP.out.below hz.2.2.2).rd QQ.out.big PP.out.big).mono ?_) | (with_reducible refine (rsame_rq _ _ m n d c p q _ PP.out.len QQ.out.len (PP.out.below hz.2.2.2).rd (QQ.out.below hz.2.2.2).rd PP.out.big QQ.out.big).mono ?_)); rintro e w' ⟨rfl, hb⟩; exact ⟨rfl, HeldC.step hz hb⟩) | (go_at_call 17; (first | (with_reducible refine (same_rs _ _ k l (k + 3) d2 r s _ RA.out.len SS.out.len (RA.out.below hz.2.2.2).rd (SS.out.below hz.2.2.2).rd RA.out.big SS.out.big).mono ?_) | (with_reducible refine (same_rs _ _ l k d2 (k + 3) s r _ SS.out.len RA.out.len (SS.out.below hz.2.2.2).rd (RA.out.below hz.2.2.2).rd SS.out.big RA.out.big).mono ?_) | (with_reducible refine (same_rs _ _ k k (k + 3) c2 r r _ RA.out.len RR.out.len (RA.out.below hz.2.2.2).rd (RR.out.below hz.2.2.2).rd RA.out.big RR.out.big).mono ?_)); rintro e w' ⟨rfl, hb⟩; exact ⟨rfl, HeldC.step hz hb⟩) | (go_at_call 18; (first | (with_reducible refine (rsame_rs _ _ k l c2 d2 r s _ RR.out.len SS.out.len (RR.out.below hz.2.2.2).rd (SS.out.below hz.2.2.2).rd RR.out.big SS.out.big).mono ?_) | (with_reducible refine (rsame_rs _ _ l k d2 c2 s r _ SS.out.len RR.out.len (SS.out.below hz.2.2.2).rd (RR.out.below hz.2.2.2).rd SS.out.big RR.out.big).mono ?_)); rintro e w' ⟨rfl, hb⟩; exact ⟨rfl, HeldC.step hz hb⟩) | (have z9 := (K9.out.kept hz.2.2.2).cell; have z10 := (K10.out.kept hz.2.2.2).cell; have z1 := (N1.out.kept hz.2.2.2).cell; have z2 := (N2.out.kept hz.2.2.2).cell; have z3 := (N3.out.kept hz.2.2.2).cell; have z4 := (N4.out.kept hz.2.2.2).cell; go_simp; (first | done | (with_reducible rfl)))) | (with_reducible rfl))); clear hK K; (try simp only [Act.put, List.setIfInBounds_toArray, List.set_cons_zero, List.set_cons_succ]))
      | ((with_reducible refine ite_neg_ ?_ ?_); (focus (go_simp; done)); refine hK _ ?_; clear hK K; (try simp only [Act.put, List.setIfInBounds_toArray, List.set_cons_zero, List.set_cons_succ]))
  (with_reducible refine wpQuiet_nil ?_)
  intro wz hz
  have Bz := Lib.hid (below_step B7.out hz.2.2.2 (Nat.le_refl _))
  have K9 := Lib.hid (K9.out.kept hz.2.2.2)
  have K10 := Lib.hid (K10.out.kept hz.2.2.2)
  have L8 := Lib.hid (L7.out.kept hz.2.2.2)
  have M8 := Lib.hid (M7.out.kept hz.2.2.2)
  clear hz QA RA QQ PP RR SS N1 N2 N3 N4 hself hselfS L7 M7
  have hc9 := K9.out.cell
  have hc1 := (K1.out.kept Bz.out).cell
  have hgW : W0.heap.size ≤ g1 := G1.out
  have hne : w2.heap.size ≠ g1 := by omega
  go_wp2_with fail
  go_at_call 19; (with_reducible refine (kept_cells g1 cur1 A n c q.cs wz HQ0.out.len (HQ0.out.below Bz.out).rd L8.out HN.out).mono ?_); rintro e wa ⟨rfl, hta⟩
  have Ba := Lib.hid (Bz.out.trans (hta.below Bz.out.size (fun k e => by subst e; exact hgW)))
  have M9 := Lib.hid (show LentR wa g2 cur2 r.rows from ⟨M8.out.blk.tur hta (by omega), M8.out.size, M8.out.take, M8.out.marks⟩)
  have K10 := Lib.hid (K10.out.tur hta (by omega))
  clear hta hc9 hc1 L8 M8 K9
  have hc10 := K10.out.cell
  have hc3 := (K3.out.kept Ba.out).cell
  go_wp2_with fail
  go_at_call 20; (with_reducible refine (kept_rows g2 cur2 C k c2 r.rows wa HR0.out.len (HR0.out.below Ba.out).rd M9.out HK.out).mono ?_); rintro e wb ⟨rfl, htb⟩
  have Bb := Lib.hid (Ba.out.trans (htb.below Ba.out.size (fun k e => by subst e; omega)))
  clear htb hc10 hc3 M9 K10
  have hc1 := (K1.out.kept Bb.out).cell
  go_wp2_with fail
  go_at_call 21; (with_reducible refine (rcheck_rq A n c q wb HQ0.out.len (HQ0.out.below Bb.out).rd HQ0.out.big HQ0.out.ok).mono ?_); rintro e wc ⟨rfl, hbc⟩
  have Bc := Lib.hid (below_step Bb.out hbc (Nat.le_refl _))
  clear hbc hc1
  have hc3 := (K3.out.kept Bc.out).cell
  go_wp2_with fail
  go_at_call 22; (with_reducible refine (rcheck_rs C k c2 r wc HR0.out.len (HR0.out.below Bc.out).rd HR0.out.big HR0.out.ok).mono ?_); rintro e wd ⟨rfl, hbd⟩
  have Bd := Lib.hid (below_step Bc.out hbd (Nat.le_refl _))
  clear hbd hc3
  go_wp2
  go_ret
  exact ⟨rfl, BW.out _ Bd.out⟩
end Go.Proofs.YteffpfgdoganpaaDoor
