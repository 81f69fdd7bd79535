/- CodecUnlike: the walk. -/
import Derived.Test.YteffpfgdoganpaaDoorCFrs
namespace Go.Proofs.YteffpfgdoganpaaDoor
open Go.RowKit

abbrev KnownOk : Prop := ∀ W1 : World, W1.cell? ⟨0, 0, none⟩ = some tyErr → Calls Tryd.prog 10 #[] W1 fun e w' => e = .returned (.bool true) ∧ Below W1.heap.size W1 w'
theorem RowAt.kept_ {W W' : World} {A : Option Addr} {n lo : Nat} {xs : List Int} (h : RowAt W A n lo xs) (hb : Below W.heap.size W W') : RowAt W' A n lo xs := h.kept hb
theorem RowAt.none_ {W : World} {A : Option Addr} {n lo : Nat} {xs : List Int} (h : RowAt W A n lo xs) : A = none → n = 0 := fun e => by
  rcases h with ⟨_, h, _⟩ | ⟨g, cur, h, _⟩
  · exact h
  · rw [e] at h; cases h
theorem below_step {W W1 W2 : World} {B : Nat} (h : Below B W W1) (hb : Below W1.heap.size W1 W2) (hB : B ≤ W.heap.size) : Below B W W2 := h.trans (hb.mono (Nat.le_trans hB h.size))

set_option maxHeartbeats 16000000 in
set_option maxRecDepth 100000 in
theorem law_unlike (CK : KnownOk) (A B C D : Option Addr) (n c m d k c2 l d2 : Nat) (q p : Rq) (r s : Rs) (W : World) (hT : W.cell? ⟨0, 0, none⟩ = some tyErr) (hq : RqA W A n q) (hp : RqA W B m p) (hr : RsA W C k r) (hs : RsA W D l s) :
    Calls Tryd.prog 7 #[.agg (rqC (.slice A n c) q), .agg (rqC (.slice B m d) p), .agg (rsC (.slice C k c2) r), .agg (rsC (.slice D l d2) s)] W fun e w' => e = .returned (.bool true) ∧ Below W.heap.size W w' := by
  have HBX := Lib.hid (box4 W 26 26 32 32 (rqC (.slice A n c) q) (rqC (.slice B m d) p) (rsC (.slice C k c2) r) (rsC (.slice D l d2) s))
  have HT := Lib.hid (fun (W9 : World) (h : Below W.heap.size W W9) => (h.cell (p := ⟨0, 0, none⟩) (World.block_lt_of_cell? W _ hT)).trans hT)
  have HQ := Lib.hid hq
  have HP := Lib.hid hp
  have HR := Lib.hid hr
  have HS := Lib.hid hs
  have CK := Lib.hid CK
  clear hT hq hp hr hs
  go_enter Tryd.func7, Tryd.ntmps7
  go_wp2_with fail
  generalize ((((W.alloc (.cells (rqC (.slice A n c) q) 26)).alloc (.cells (rqC (.slice B m d) p) 26)).alloc (.cells (rsC (.slice C k c2) r) 32)).alloc (.cells (rsC (.slice D l d2) s) 32)) = W0 at *
  obtain ⟨k1, k2, k3, k4, hb0⟩ := HBX.out
  have K1 := Lib.hid k1
  have K2 := Lib.hid k2
  have K3 := Lib.hid k3
  have K4 := Lib.hid k4
  have B0 := Lib.hid hb0
  have HQ0 := Lib.hid (HQ.out.below hb0)
  have HP0 := Lib.hid (HP.out.below hb0)
  have HR0 := Lib.hid (HR.out.below hb0)
  have HS0 := Lib.hid (HS.out.below hb0)
  clear k1 k2 k3 k4 hb0 HBX HQ HP HR HS
  have BW := Lib.hid (fun (W9 : World) (h : Below W0.heap.size W0 W9) => B0.out.trans (h.mono B0.out.size))
  go_at_call 10; (with_reducible refine (CK.out _ (HT.out _ B0.out)).mono ?_); rintro e w1 ⟨rfl, hb1⟩
  have B1 := Lib.hid hb1
  clear hb1
  have hcq : ∀ i, w1.cell? ⟨W.heap.size, i, none⟩ = (rqC (.slice A n c) q)[i]? := (K1.out.kept B1.out).cell
  go_wp2_with fail
  go_at_call 23; (with_reducible refine (enc_rq (HQ0.out.below B1.out) c).mono ?_); rintro e w2 ⟨Aa, rfl, hra, hb2⟩
  have B2 := Lib.hid (below_step B1.out hb2 (Nat.le_refl _))
  have RA2 := Lib.hid hra
  clear hb2 hra hcq
  have hcp : ∀ i, w2.cell? ⟨W.heap.size + 1, i, none⟩ = (rqC (.slice B m d) p)[i]? := (K2.out.kept B2.out).cell
  go_wp2_with fail
  go_at_call 23; (with_reducible refine (enc_rq (HP0.out.below B2.out) d).mono ?_); rintro e w3 ⟨Ab, rfl, hrb, hb3⟩
  have B3 := Lib.hid (below_step B2.out hb3 (Nat.le_refl _))
  have RB3 := Lib.hid hrb
  have RA3 := Lib.hid (RA2.out.kept_ hb3)
  clear hb3 hrb hcp RA2
  have hcq : ∀ i, w3.cell? ⟨W.heap.size, i, none⟩ = (rqC (.slice A n c) q)[i]? := (K1.out.kept B3.out).cell
  have hcp : ∀ i, w3.cell? ⟨W.heap.size + 1, i, none⟩ = (rqC (.slice B m d) p)[i]? := (K2.out.kept B3.out).cell
  by_cases h1 : checkRq q = 0
  · by_cases h2 : checkRq p = 0
    · have HSF := Lib.hid (same_front_rq h1 h2)
      rw [h1, h2]
      clear h1 h2
      go_wp2_with fail
      go_at_call 15; (with_reducible refine (same_rq A B n m c d q p w3 HQ0.out.len HP0.out.len (HQ0.out.below B3.out).rd (HP0.out.below B3.out).rd HQ0.out.big HP0.out.big).mono ?_); rintro e w4 ⟨rfl, hb4⟩
      have B4 := Lib.hid (below_step B3.out hb4 (Nat.le_refl _))
      have RA4 := Lib.hid (RA3.out.kept_ hb4)
      have RB4 := Lib.hid (RB3.out.kept_ hb4)
      clear hb4
      go_wp2_with fail
      go_at_call 29; (with_reducible refine (front_any Aa Ab _ _ _ _ (encB q) (encB p) w4 rfl RA4.out.cells rfl RB4.out.cells (Nat.le_refl _) RB4.out.none_ (encB_byt q) (encB_byt p)).mono ?_); rintro e w5 ⟨rfl, hb5⟩
      have B5 := Lib.hid (below_step B4.out hb5 (Nat.le_refl _))
      rw [HSF.out]
      clear hb5 HSF hcq hcp RA4 RB4 RA3 RB3 B4 B3
      generalize frontP (encB q) (encB p) = fr
      have hcr : ∀ i, w5.cell? ⟨W.heap.size + 1 + 1, i, none⟩ = (rsC (.slice C k c2) r)[i]? := (K3.out.kept B5.out).cell
      go_wp2_with fail
      go_at_call 24; (with_reducible refine (enc_rs (HR0.out.below B5.out) c2).mono ?_); rintro e w6 ⟨Ac, rfl, hrc, hb6⟩
      have B6 := Lib.hid (below_step B5.out hb6 (Nat.le_refl _))
      have RC6 := Lib.hid hrc
      clear hb6 hrc hcr
      have hcs : ∀ i, w6.cell? ⟨W.heap.size + 1 + 1 + 1, i, none⟩ = (rsC (.slice D l d2) s)[i]? := (K4.out.kept B6.out).cell
      go_wp2_with fail
      go_at_call 24; (with_reducible refine (enc_rs (HS0.out.below B6.out) d2).mono ?_); rintro e w7 ⟨Ad, rfl, hrd, hb7⟩
      have B7 := Lib.hid (below_step B6.out hb7 (Nat.le_refl _))
      have RD7 := Lib.hid hrd
      have RC7 := Lib.hid (RC6.out.kept_ hb7)
      clear hb7 hrd hcs RC6
      have hcr : ∀ i, w7.cell? ⟨W.heap.size + 1 + 1, i, none⟩ = (rsC (.slice C k c2) r)[i]? := (K3.out.kept B7.out).cell
      have hcs : ∀ i, w7.cell? ⟨W.heap.size + 1 + 1 + 1, i, none⟩ = (rsC (.slice D l d2) s)[i]? := (K4.out.kept B7.out).cell
      by_cases h1 : checkRs r = 0
      · by_cases h2 : checkRs s = 0
        · have HSF := Lib.hid (same_front_rs h1 h2 HR0.out.rows HS0.out.rows)
          rw [h1, h2]
          clear h1 h2
          go_wp2_with fail
          go_at_call 17; (with_reducible refine (same_rs C D k l c2 d2 r s w7 HR0.out.len HS0.out.len (HR0.out.below B7.out).rd (HS0.out.below B7.out).rd HR0.out.big HS0.out.big).mono ?_); rintro e w8 ⟨rfl, hb8⟩
          have B8 := Lib.hid (below_step B7.out hb8 (Nat.le_refl _))
          have RC8 := Lib.hid (RC7.out.kept_ hb8)
          have RD8 := Lib.hid (RD7.out.kept_ hb8)
          clear hb8
          go_wp2_with fail
          go_at_call 29; (with_reducible refine (front_any Ac Ad _ _ _ _ (encS r) (encS s) w8 rfl RC8.out.cells rfl RD8.out.cells (Nat.le_refl _) RD8.out.none_ (encS_byt r) (encS_byt s)).mono ?_); rintro e w9 ⟨rfl, hb9⟩
          have B9 := Lib.hid (below_step B8.out hb9 (Nat.le_refl _))
          rw [HSF.out]
          clear hb9 HSF hcr hcs RC8 RD8 RC7 RD7
          generalize frontP (encS r) (encS s) = fr2
          go_wp2
          go_ret
          exact ⟨by simp, BW.out _ B9.out⟩
        · have g1 : (checkRs s != 0) = true := by simpa using h2
          rw [h1]
          clear h1 h2 hcr hcs
          go_wp2
          go_ret
          exact ⟨rfl, BW.out _ B7.out⟩
      · have g1 : (checkRs r != 0) = true := by simpa using h1
        clear h1 hcr hcs
        go_wp2
        go_ret
        exact ⟨rfl, BW.out _ B7.out⟩
    · have g0 : (checkRq p == 0) = false := by simpa using h2
      rw [h1]
      clear h1 h2 hcq hcp RA3 RB3
      have hcr : ∀ i, w3.cell? ⟨W.heap.size + 1 + 1, i, none⟩ = (rsC (.slice C k c2) r)[i]? := (K3.out.kept B3.out).cell
      go_wp2_with fail
      go_at_call 24; (with_reducible refine (enc_rs (HR0.out.below B3.out) c2).mono ?_); rintro e w6 ⟨Ac, rfl, hrc, hb6⟩
      have B6 := Lib.hid (below_step B3.out hb6 (Nat.le_refl _))
      have RC6 := Lib.hid hrc
      clear hb6 hrc hcr
      have hcs : ∀ i, w6.cell? ⟨W.heap.size + 1 + 1 + 1, i, none⟩ = (rsC (.slice D l d2) s)[i]? := (K4.out.kept B6.out).cell
      go_wp2_with fail
      go_at_call 24; (with_reducible refine (enc_rs (HS0.out.below B6.out) d2).mono ?_); rintro e w7 ⟨Ad, rfl, hrd, hb7⟩
      have B7 := Lib.hid (below_step B6.out hb7 (Nat.le_refl _))
      have RD7 := Lib.hid hrd
      have RC7 := Lib.hid (RC6.out.kept_ hb7)
      clear hb7 hrd hcs RC6
      have hcr : ∀ i, w7.cell? ⟨W.heap.size + 1 + 1, i, none⟩ = (rsC (.slice C k c2) r)[i]? := (K3.out.kept B7.out).cell
      have hcs : ∀ i, w7.cell? ⟨W.heap.size + 1 + 1 + 1, i, none⟩ = (rsC (.slice D l d2) s)[i]? := (K4.out.kept B7.out).cell
      by_cases h1 : checkRs r = 0
      · by_cases h2 : checkRs s = 0
        · have HSF := Lib.hid (same_front_rs h1 h2 HR0.out.rows HS0.out.rows)
          rw [h1, h2]
          clear h1 h2
          go_wp2_with fail
          go_at_call 17; (with_reducible refine (same_rs C D k l c2 d2 r s w7 HR0.out.len HS0.out.len (HR0.out.below B7.out).rd (HS0.out.below B7.out).rd HR0.out.big HS0.out.big).mono ?_); rintro e w8 ⟨rfl, hb8⟩
          have B8 := Lib.hid (below_step B7.out hb8 (Nat.le_refl _))
          have RC8 := Lib.hid (RC7.out.kept_ hb8)
          have RD8 := Lib.hid (RD7.out.kept_ hb8)
          clear hb8
          go_wp2_with fail
          go_at_call 29; (with_reducible refine (front_any Ac Ad _ _ _ _ (encS r) (encS s) w8 rfl RC8.out.cells rfl RD8.out.cells (Nat.le_refl _) RD8.out.none_ (encS_byt r) (encS_byt s)).mono ?_); rintro e w9 ⟨rfl, hb9⟩
          have B9 := Lib.hid (below_step B8.out hb9 (Nat.le_refl _))
          rw [HSF.out]
          clear hb9 HSF hcr hcs RC8 RD8 RC7 RD7
          generalize frontP (encS r) (encS s) = fr2
          go_wp2
          go_ret
          exact ⟨by simp, BW.out _ B9.out⟩
        · have g1 : (checkRs s != 0) = true := by simpa using h2
          rw [h1]
          clear h1 h2 hcr hcs
          go_wp2
          go_ret
          exact ⟨rfl, BW.out _ B7.out⟩
      · have g1 : (checkRs r != 0) = true := by simpa using h1
        clear h1 hcr hcs
        go_wp2
        go_ret
        exact ⟨rfl, BW.out _ B7.out⟩
  · have g0 : (checkRq q == 0) = false := by simpa using h1
    clear h1 hcq hcp RA3 RB3
    have hcr : ∀ i, w3.cell? ⟨W.heap.size + 1 + 1, i, none⟩ = (rsC (.slice C k c2) r)[i]? := (K3.out.kept B3.out).cell
    go_wp2_with fail
    go_at_call 24; (with_reducible refine (enc_rs (HR0.out.below B3.out) c2).mono ?_); rintro e w6 ⟨Ac, rfl, hrc, hb6⟩
    have B6 := Lib.hid (below_step B3.out hb6 (Nat.le_refl _))
    have RC6 := Lib.hid hrc
    clear hb6 hrc hcr
    have hcs : ∀ i, w6.cell? ⟨W.heap.size + 1 + 1 + 1, i, none⟩ = (rsC (.slice D l d2) s)[i]? := (K4.out.kept B6.out).cell
    go_wp2_with fail
    go_at_call 24; (with_reducible refine (enc_rs (HS0.out.below B6.out) d2).mono ?_); rintro e w7 ⟨Ad, rfl, hrd, hb7⟩
    have B7 := Lib.hid (below_step B6.out hb7 (Nat.le_refl _))
    have RD7 := Lib.hid hrd
    have RC7 := Lib.hid (RC6.out.kept_ hb7)
    clear hb7 hrd hcs RC6
    have hcr : ∀ i, w7.cell? ⟨W.heap.size + 1 + 1, i, none⟩ = (rsC (.slice C k c2) r)[i]? := (K3.out.kept B7.out).cell
    have hcs : ∀ i, w7.cell? ⟨W.heap.size + 1 + 1 + 1, i, none⟩ = (rsC (.slice D l d2) s)[i]? := (K4.out.kept B7.out).cell
    by_cases h1 : checkRs r = 0
    · by_cases h2 : checkRs s = 0
      · have HSF := Lib.hid (same_front_rs h1 h2 HR0.out.rows HS0.out.rows)
        rw [h1, h2]
        clear h1 h2
        go_wp2_with fail
        go_at_call 17; (with_reducible refine (same_rs C D k l c2 d2 r s w7 HR0.out.len HS0.out.len (HR0.out.below B7.out).rd (HS0.out.below B7.out).rd HR0.out.big HS0.out.big).mono ?_); rintro e w8 ⟨rfl, hb8⟩
        have B8 := Lib.hid (below_step B7.out hb8 (Nat.le_refl _))
        have RC8 := Lib.hid (RC7.out.kept_ hb8)
        have RD8 := Lib.hid (RD7.out.kept_ hb8)
        clear hb8
        go_wp2_with fail
        go_at_call 29; (with_reducible refine (front_any Ac Ad _ _ _ _ (encS r) (encS s) w8 rfl RC8.out.cells rfl RD8.out.cells (Nat.le_refl _) RD8.out.none_ (encS_byt r) (encS_byt s)).mono ?_); rintro e w9 ⟨rfl, hb9⟩
        have B9 := Lib.hid (below_step B8.out hb9 (Nat.le_refl _))
        rw [HSF.out]
        clear hb9 HSF hcr hcs RC8 RD8 RC7 RD7
        generalize frontP (encS r) (encS s) = fr2
        go_wp2
        go_ret
        exact ⟨by simp, BW.out _ B9.out⟩
      · have g1 : (checkRs s != 0) = true := by simpa using h2
        rw [h1]
        clear h1 h2 hcr hcs
        go_wp2
        go_ret
        exact ⟨rfl, BW.out _ B7.out⟩
    · have g1 : (checkRs r != 0) = true := by simpa using h1
      clear h1 hcr hcs
      go_wp2
      go_ret
      exact ⟨rfl, BW.out _ B7.out⟩
end Go.Proofs.YteffpfgdoganpaaDoor
