/- CodecWrites: the walk. -/
import Derived.Test.YteffpfgdoganpaaDoorCLends
import Derived.Test.YteffpfgdoganpaaDoorCUnlike
import Derived.Test.YteffpfgdoganpaaDoorCRefs
namespace Go.Proofs.YteffpfgdoganpaaDoor
open Go.RowKit

theorem RowAt.turB {S : Nat → Prop} {W W' : World} {A : Option Addr} {n lo : Nat} {xs : List Int} (h : RowAt W A n lo xs) (ht : Tur S W W') (hs : ∀ k, S k → k < lo) : RowAt W' A n lo xs := by
  rcases h with h | ⟨g, cur, rfl, h1, hg, r⟩
  · exact .inl h
  · exact .inr ⟨g, cur, rfl, h1, hg.tur ht (fun hk => by have := hs g hk; omega), r⟩
theorem Ow.turB {S : Nat → Prop} {W W' : World} {lo : Nat} {v : Value} {bs : List Int} (h : Ow W lo v bs) (ht : Tur S W W') (hs : ∀ k, S k → k < lo) : Ow W' lo v bs :=
  ownsRow_tur h ht (fun k e s => by have := (h.lt k e).1; have := hs k s; omega)
theorem Ow.at_ {W : World} {lo n c : Nat} {A : Option Addr} {bs : List Int} (h : Ow W lo (.slice A n c) bs) : CellsAt W A (bvs bs) := by
  obtain ⟨A', c', e, hc, _⟩ := h.form
  injection e with e1 e2 e3
  exact e1 ▸ hc
theorem Lent.rqA_ {W : World} {A : Option Addr} {g n : Nat} {cur : Array Value} {q : Rq} (h : Lent W g cur q.cs) (hq : RqA W A n q) : RqA W (some ⟨g, 0, none⟩) n q := ⟨hq.len, h.rd, hq.big, hq.ok⟩
theorem LentR.rsA_ {W : World} {A : Option Addr} {g n : Nat} {cur : Array Value} {r : Rs} (h : LentR W g cur r.rows) (hr : RsA W A n r) : RsA W (some ⟨g, 0, none⟩) n r := ⟨hr.len, h.rd, hr.big, hr.ok, hr.rows⟩
set_option maxHeartbeats 16000000 in
set_option maxRecDepth 100000 in
theorem law_writes (CK : KnownOk) (A C : Option Addr) (n c k c2 : Nat) (q : Rq) (r : Rs) (W : World) (hT : W.cell? ⟨0, 0, none⟩ = some tyErr) (hq : RqA W A n q) (hr : RsA W C k r) (hn : n ≤ 1048576) (hk : k ≤ 1048576) :
    Calls Tryd.prog 4 #[.agg (rqC (.slice A n c) q), .agg (rsC (.slice C k c2) r)] W fun e w' => e = .returned (.bool true) ∧ Below W.heap.size W w' := by
  have HBX := Lib.hid (box2 W 26 32 (rqC (.slice A n c) q) (rsC (.slice C k c2) r))
  have HT := Lib.hid (fun (W9 : World) (h : Below W.heap.size W W9) => (h.cell (p := ⟨0, 0, none⟩) (World.block_lt_of_cell? W _ hT)).trans hT)
  have HQ := Lib.hid hq
  have HR := Lib.hid hr
  have HN := Lib.hid hn
  have HK := Lib.hid hk
  have CK := Lib.hid CK
  clear hT hq hr hn hk
  go_enter Tryd.func4, Tryd.ntmps4
  go_wp2_with fail
  generalize ((W.alloc (.cells (rqC (.slice A n c) q) 26)).alloc (.cells (rsC (.slice C k c2) r) 32)) = W0 at *
  obtain ⟨k1, k3, hb0⟩ := HBX.out
  have K1 := Lib.hid k1
  have K3 := Lib.hid k3
  have B0 := Lib.hid hb0
  have HQ0 := Lib.hid (HQ.out.below hb0)
  have HR0 := Lib.hid (HR.out.below hb0)
  clear k1 k3 hb0 HBX HQ HR
  have BW := Lib.hid (fun (W9 : World) (h : Below W0.heap.size W0 W9) => B0.out.trans (h.mono B0.out.size))
  go_at_call 10; (with_reducible refine (CK.out _ (HT.out _ B0.out)).mono ?_); rintro e w1 ⟨rfl, hb1⟩
  have B1 := Lib.hid hb1
  clear hb1
  have hcq : ∀ i, w1.cell? ⟨W.heap.size, i, none⟩ = (rqC (.slice A n c) q)[i]? := (K1.out.kept B1.out).cell
  go_wp2_with fail
  go_at_call 11; (with_reducible refine (lend_rq A n c q w1 (HQ0.out.below B1.out) HN.out).mono ?_); rintro e w2 ⟨g1, cur1, rfl, hg1, hl1, hb2⟩
  have B2 := Lib.hid (below_step B1.out hb2 (Nat.le_refl _))
  have G1 := Lib.hid (Nat.le_trans B1.out.size hg1)
  have L1 := Lib.hid hl1
  clear hb2 hg1 hl1 hcq
  have B3 := Lib.hid (B2.out.alloc B2.out.size (.cells (rqC (.slice (some ⟨g1, 0, none⟩) n (n + 3)) q) 26))
  have K9 := Lib.hid (Blk.new w2 26 (rqC (.slice (some ⟨g1, 0, none⟩) n (n + 3)) q))
  have L3 := Lib.hid (L1.out.kept ((Below.refl w2.heap.size w2).alloc (Nat.le_refl _) (.cells (rqC (.slice (some ⟨g1, 0, none⟩) n (n + 3)) q) 26)))
  have hcr : ∀ i, (w2.alloc (.cells (rqC (.slice (some ⟨g1, 0, none⟩) n (n + 3)) q) 26)).cell? ⟨W.heap.size + 1, i, none⟩ = (rsC (.slice C k c2) r)[i]? := (K3.out.kept B3.out).cell
  have hgb : g1 < w2.heap.size := L1.out.blk.lt
  have hb9 : W0.heap.size ≤ w2.heap.size := B2.out.size
  go_wp2_with fail
  go_at_call 12; (with_reducible refine (lend_rs C k c2 r _ (HR0.out.below B3.out) HK.out).mono ?_); rintro e w4 ⟨g2, cur2, rfl, hg2, hl2, hb4⟩
  have hg2 : w2.heap.size + 1 ≤ g2 := by simpa using hg2
  have B4 := Lib.hid (below_step B3.out hb4 (Nat.le_refl _))
  have J9 := Lib.hid (K9.out.kept hb4)
  have L4 := Lib.hid (L3.out.kept hb4)
  have M4 := Lib.hid hl2
  clear hb4 hl2 hcr K9 L3 L1
  have B5 := Lib.hid (B4.out.alloc B4.out.size (.cells (rsC (.slice (some ⟨g2, 0, none⟩) k (k + 3)) r) 32))
  have K10 := Lib.hid (Blk.new w4 32 (rsC (.slice (some ⟨g2, 0, none⟩) k (k + 3)) r))
  have bl := Lib.hid ((Below.refl w4.heap.size w4).alloc (Nat.le_refl _) (.cells (rsC (.slice (some ⟨g2, 0, none⟩) k (k + 3)) r) 32))
  have K9 := Lib.hid (J9.out.kept bl.out)
  have L5 := Lib.hid (L4.out.kept bl.out)
  have M5 := Lib.hid (M4.out.kept bl.out)
  have hg2b : g2 < w4.heap.size := M4.out.blk.lt
  clear bl J9 L4 M4
  have hc9 : ∀ i, (w4.alloc (.cells (rsC (.slice (some ⟨g2, 0, none⟩) k (k + 3)) r) 32)).cell? ⟨w2.heap.size, i, none⟩ = (rqC (.slice (some ⟨g1, 0, none⟩) n (n + 3)) q)[i]? := K9.out.cell
  have QA5 := Lib.hid (L5.out.rqA_ (HQ0.out.below B5.out))
  have RA5 := Lib.hid (M5.out.rsA_ (HR0.out.below B5.out))
  go_wp2_with fail
  go_at_call 23; (with_reducible refine (enc_rq QA5.out (n + 3)).mono ?_); rintro e w6 ⟨Ac, rfl, hrc, hb6⟩
  have B6 := Lib.hid (below_step B5.out hb6 (Nat.le_refl _))
  have s6 : w4.heap.size + 1 ≤ w6.heap.size := by have := hb6.size; simpa using this
  have K9 := Lib.hid (K9.out.kept hb6)
  have K10 := Lib.hid (K10.out.kept hb6)
  have L6 := Lib.hid (L5.out.kept hb6)
  have M6 := Lib.hid (M5.out.kept hb6)
  have RA6 := Lib.hid (RA5.out.below hb6)
  have lo1 : g1 < w4.heap.size + 1 ∧ g2 < w4.heap.size + 1 := ⟨by have := L5.out.blk.lt; simpa using this, by omega⟩
  have RC6 := Lib.hid (show RowAt w6 Ac _ (w4.heap.size + 1) (encB q) by simpa using hrc)
  clear hb6 hc9 L5 M5 RA5 QA5 hrc
  have hc10 : ∀ i, w6.cell? ⟨w4.heap.size, i, none⟩ = (rsC (.slice (some ⟨g2, 0, none⟩) k (k + 3)) r)[i]? := K10.out.cell
  go_wp2_with fail
  go_at_call 24; (with_reducible refine (enc_rs RA6.out (k + 3)).mono ?_); rintro e w7 ⟨Ad, rfl, hrd, hb7⟩
  have B7 := Lib.hid (below_step B6.out hb7 (Nat.le_refl _))
  have K9 := Lib.hid (K9.out.kept hb7)
  have K10 := Lib.hid (K10.out.kept hb7)
  have L7 := Lib.hid (L6.out.kept hb7)
  have M7 := Lib.hid (M6.out.kept hb7)
  have RC7 := Lib.hid (RC6.out.kept hb7)
  have RD7 := Lib.hid (hrd.lower s6)
  have s7 : w4.heap.size + 1 ≤ w7.heap.size := Nat.le_trans s6 hb7.size
  clear hb7 hc10 L6 M6 RA6 hrd RC6
  have hc1 := (K1.out.kept B7.out).cell
  go_wp2_with fail
  go_at_call 25; (with_reducible refine (refenc_rq (HQ0.out.below B7.out) c).mono ?_); rintro e w8 ⟨vx, rfl, hox, hb8⟩
  obtain ⟨Ax, cx, rfl, _, _⟩ := hox.form
  have B8 := Lib.hid (below_step B7.out hb8 (Nat.le_refl _))
  have K9 := Lib.hid (K9.out.kept hb8)
  have K10 := Lib.hid (K10.out.kept hb8)
  have L8 := Lib.hid (L7.out.kept hb8)
  have M8 := Lib.hid (M7.out.kept hb8)
  have RC8 := Lib.hid (RC7.out.kept hb8)
  have RD8 := Lib.hid (RD7.out.kept hb8)
  have OX8 := Lib.hid hox
  have s8 : w4.heap.size + 1 ≤ w8.heap.size := Nat.le_trans s7 hb8.size
  clear hb8 hc1 L7 M7 hox RC7 RD7
  have hc3 := (K3.out.kept B8.out).cell
  go_wp2_with fail
  go_at_call 26; (with_reducible refine (refenc_rs (HR0.out.below B8.out) c2).mono ?_); rintro e w9 ⟨vy, rfl, hoy, hb9⟩
  obtain ⟨Ay, cy, rfl, _, _⟩ := hoy.form
  have B9 := Lib.hid (below_step B8.out hb9 (Nat.le_refl _))
  have K9 := Lib.hid (K9.out.kept hb9)
  have K10 := Lib.hid (K10.out.kept hb9)
  have L9 := Lib.hid (L8.out.kept hb9)
  have M9 := Lib.hid (M8.out.kept hb9)
  have RC9 := Lib.hid (RC8.out.kept hb9)
  have RD9 := Lib.hid (RD8.out.kept hb9)
  have OX9 := Lib.hid (OX8.out.kept hb9)
  have OY9 := Lib.hid hoy
  clear hb9 hc3 L8 M8 hoy RC8 RD8 OX8
  have hc9 := K9.out.cell
  have hc1 := (K1.out.kept B9.out).cell
  have hgW : W0.heap.size ≤ g1 := G1.out
  have hne : w2.heap.size ≠ g1 := by omega
  go_wp2_with fail
  go_at_call 19; (with_reducible refine (kept_cells g1 cur1 A n c q.cs _ HQ0.out.len (HQ0.out.below B9.out).rd L9.out HN.out).mono ?_); rintro e wa ⟨rfl, hta⟩
  have Ba := Lib.hid (B9.out.trans (hta.below B9.out.size (fun k e => by subst e; exact hgW)))
  have M10 := Lib.hid (show LentR wa g2 cur2 r.rows from ⟨M9.out.blk.tur hta (by omega), M9.out.size, M9.out.take, M9.out.marks⟩)
  have K10 := Lib.hid (K10.out.tur hta (by omega))
  have RCa := Lib.hid (RC9.out.turB hta (fun k e => by subst e; exact lo1.1))
  have RDa := Lib.hid (RD9.out.turB hta (fun k e => by subst e; exact lo1.1))
  have OXa := Lib.hid (OX9.out.turB hta (fun k e => by subst e; omega))
  have OYa := Lib.hid (OY9.out.turB hta (fun k e => by subst e; omega))
  clear hta hc9 hc1 L9 M9 K9 RC9 RD9 OX9 OY9
  have hc10 := K10.out.cell
  have hc3 := (K3.out.kept Ba.out).cell
  go_wp2_with fail
  go_at_call 20; (with_reducible refine (kept_rows g2 cur2 C k c2 r.rows wa HR0.out.len (HR0.out.below Ba.out).rd M10.out HK.out).mono ?_); rintro e wb ⟨rfl, htb⟩
  have Bb := Lib.hid (Ba.out.trans (htb.below Ba.out.size (fun k e => by subst e; omega)))
  have f1 := (RCa.out.turB htb (fun k e => by subst e; exact lo1.2)).conv (encB q).length
  have f2 := (RDa.out.turB htb (fun k e => by subst e; exact lo1.2)).conv (encS r).length
  have f3 := conv_cells (OXa.out.turB htb (fun k e => by subst e; omega)).at_ rfl cx
  have f4 := conv_cells (OYa.out.turB htb (fun k e => by subst e; omega)).at_ rfl cy
  clear htb hc10 hc3 M10 K10 RCa RDa OXa OYa
  go_wp2
  go_ret
  exact ⟨rfl, BW.out _ Bb.out⟩
end Go.Proofs.YteffpfgdoganpaaDoor
