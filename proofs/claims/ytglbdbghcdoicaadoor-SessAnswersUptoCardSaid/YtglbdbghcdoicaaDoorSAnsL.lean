/- SessAnswers: the walk. -/
import Derived.Test.YtglbdbghcdoicaaDoorSKnown
import Derived.Test.YtglbdbghcdoicaaDoorSRef
import Derived.Test.YtglbdbghcdoicaaDoorSWr
import Derived.Deep.DrawnRows
namespace Go.Proofs.YtglbdbghcdoicaaDoor
open Go.RowKit
attribute [local go_sem ↓] Go.wp_at_zero Go.wp_at_succ

theorem belowOfA {X w' w4 : World} {q : Nat} (_ : Below X.heap.size X w') (h : Below q w4 X) : Below q w4 X := h
theorem below_end {W W9 X : World} (h : Below W.heap.size W W9) (h2 : Below W9.heap.size W9 X) : Below W.heap.size W X := h.trans (h2.mono h.size)
theorem belowOfE {X w' w4 : World} {q : Nat} (_ : X = w') (h : Below q w4 X) : Below q w4 w' := by subst_vars; exact h
set_option maxHeartbeats 16000000 in
set_option maxRecDepth 100000 in
theorem law_answers (A : Option Addr) (n c : Nat) (r : Rs) (k pl : Int) (W : World) (hT : W.cell? ⟨0, 0, none⟩ = some tyErr) (hr : RsA W A n r) (hn : n ≤ 1048576) :
    Calls Tryd.prog 3 #[.agg (rsC (.slice A n c) r), .int .i64 k, .int .i64 pl] W fun e w' => e = .returned (.bool true) ∧ Below W.heap.size W w' := by
  have bo := (Below.refl W.heap.size W).alloc (Nat.le_refl _) (.cells (rsC (.slice A n c) r) 27)
  have HT := Lib.hid (fun (W9 : World) (h : Below W.heap.size W W9) => (h.cell (p := ⟨0, 0, none⟩) (World.block_lt_of_cell? W _ hT)).trans hT)
  have K1 := Lib.hid (Blk.new W 27 (rsC (.slice A n c) r))
  have B0 := Lib.hid bo
  have HR := Lib.hid hr
  have HN := Lib.hid hn
  have CK := Lib.hid (known_true _ (HT.out _ bo))
  clear hT hr hn bo
  go_enter Tryd.func3, Tryd.ntmps3
  go_wp2_with fail
  go_at_call 7; (with_reducible refine CK.out.mono ?_); rintro e w1 ⟨rfl, hb1⟩
  have B1 := Lib.hid (below_step B0.out hb1 (Nat.le_refl _))
  have K1 := Lib.hid (K1.out.kept hb1)
  clear hb1 CK
  go_wp2_with fail
  go_at_call 8; (with_reducible refine (s_new_yes 100 w1 (by decide) (by decide)).mono ?_); rintro e w2 ⟨s, S, rfl, hsx, hS, hb2⟩
  have B2 := Lib.hid (below_step B1.out hb2 (Nat.le_refl _))
  have K1 := Lib.hid (K1.out.kept hb2)
  have HX := Lib.hid hsx
  have HSL := Lib.hid hsx.lt
  have C3 := Lib.hid (lend_rs A n c r w2 (HR.out.below B2.out) HN.out)
  clear hsx hS hb2
  have hcr : ∀ i, w2.cell? ⟨W.heap.size, i, none⟩ = (rsC (.slice A n c) r)[i]? := K1.out.cell
  go_wp2_with fail
  go_at_call 9; (with_reducible refine C3.out.mono ?_); rintro e w3 ⟨g, cur, rfl, hg, hl, hb3⟩
  have B3 := Lib.hid (below_step B2.out hb3 (Nat.le_refl _))
  have HG2 := Lib.hid hg
  have hgW : W.heap.size + 1 ≤ g := Nat.le_trans (by have := B0.out; exact Nat.le_trans (K1.out.lt) (Nat.le_refl _)) hg
  have bl := (Below.refl w3.heap.size w3).alloc (Nat.le_refl _) (.cells (rsC (.slice (some ⟨g, 0, none⟩) n (n + 3)) r) 27)
  have B4 := Lib.hid (below_step B3.out bl (Nat.le_refl _))
  have K1 := Lib.hid ((K1.out.kept hb3).kept bl)
  have K4 := Lib.hid (Blk.new w3 27 (rsC (.slice (some ⟨g, 0, none⟩) n (n + 3)) r))
  have M4 := Lib.hid (hl.kept bl)
  have HX := Lib.hid ((HX.out.kept hb3).kept bl)
  have hg3 : g < w3.heap.size := hl.blk.lt
  have HGS := Lib.hid (show ∀ k, (fun k => k = g) k → k < w3.heap.size + 1 from fun k hk => by subst hk; omega)
  have C5 := Lib.hid (s_answer (some ⟨s, 0, none⟩) (M4.out.rsA_ (HR.out.below B4.out)) (n + 3))
  have hcl : ∀ i, (w3.alloc (.cells (rsC (.slice (some ⟨g, 0, none⟩) n (n + 3)) r) 27)).cell? ⟨w3.heap.size, i, none⟩ = (rsC (.slice (some ⟨g, 0, none⟩) n (n + 3)) r)[i]? := K4.out.cell
  clear hg hl hb3 bl hcr C3
  go_wp2_with fail
  go_at_call 10; (with_reducible refine C5.out.mono ?_); rintro e w5 ⟨Ba, ca, rfl, hra, hb5⟩
  have B5 := Lib.hid (below_step B4.out hb5 (Nat.le_refl _))
  have K1 := Lib.hid (K1.out.kept hb5)
  have K4 := Lib.hid (K4.out.kept hb5)
  have M5 := Lib.hid (M4.out.kept hb5)
  have HX := Lib.hid (HX.out.kept hb5)
  have s5 : w3.heap.size + 1 ≤ w5.heap.size := by have := hb5.size; simpa using this
  have RA5 := Lib.hid (show RowAt w5 Ba _ (w3.heap.size + 1) (ansB r) by simpa using hra)
  have C6 := Lib.hid (rf_answer (HR.out.below B5.out) c)
  have hc1 : ∀ i, w5.cell? ⟨W.heap.size, i, none⟩ = (rsC (.slice A n c) r)[i]? := K1.out.cell
  clear hb5 hra M4 C5 hcl
  go_wp2_with fail
  go_at_call 11; (with_reducible refine C6.out.mono ?_); rintro e w6 ⟨Bb, cb, rfl, hrb, hb6⟩
  have B6 := Lib.hid (below_step B5.out hb6 (Nat.le_refl _))
  have K1 := Lib.hid (K1.out.kept hb6)
  have K4 := Lib.hid (K4.out.kept hb6)
  have M6 := Lib.hid (M5.out.kept hb6)
  have HX := Lib.hid (HX.out.kept hb6)
  have RA6 := Lib.hid (RA5.out.kept hb6)
  have RB6 := Lib.hid (hrb.lower s5)
  have hc6 : ∀ i, w6.cell? ⟨W.heap.size, i, none⟩ = (rsC (.slice A n c) r)[i]? := K1.out.cell
  have hc7 : ∀ i, w6.cell? ⟨w3.heap.size, i, none⟩ = (rsC (.slice (some ⟨g, 0, none⟩) n (n + 3)) r)[i]? := K4.out.cell
  have C7 := Lib.hid (kept_rows g cur A n c r.rows w6 HR.out.len (HR.out.below B6.out).rd M6.out HN.out)
  clear hb6 hrb RA5 M5 C6 hc1
  go_wp2_with fail
  go_at_call 12; (with_reducible refine C7.out.mono ?_); rintro e w7 ⟨rfl, ht7⟩
  have B7 := Lib.hid (B6.out.trans (ht7.below B6.out.size (fun k e => by subst e; omega)))
  have HX := Lib.hid (HX.out.turn ht7 (KeepE.tur ht7 (fun k e => by subst e; exact .inr ⟨_, _, M6.out.blk, by decide⟩)) (fun k e hs => by
    subst e
    have h1 := HSL.out k hs
    have h2 := HG2.out
    omega))
  have f1 := (RA6.out.turB ht7 HGS.out).conv ca
  have f2 := (RB6.out.turB ht7 HGS.out).conv cb
  have C8 := Lib.hid (s_bad_nil (some ⟨s, 0, none⟩) w7)
  clear ht7 RA6 RB6 C7 hc6 hc7 M6
  go_wp2_with fail
  go_at_call 13; (with_reducible refine C8.out.mono ?_); rintro e w8 ⟨B8, c8, rfl, hr8, hb8⟩
  have bo9 := (Below.refl w8.heap.size w8).alloc (Nat.le_refl _) (.cells #[.int .i64 k, .int .i64 pl] 42)
  have B9 := Lib.hid (below_step (below_step B7.out hb8 (Nat.le_refl _)) bo9 (Nat.le_refl _))
  have HX := Lib.hid ((HX.out.kept hb8).kept bo9)
  have HE := Lib.hid (Blk.new w8 42 #[.int .i64 k, .int .i64 pl])
  have e8 : w8.heap.size < (w8.alloc (.cells #[.int .i64 k, .int .i64 pl] 42)).heap.size := by simp
  clear hr8 hb8 bo9 C8 f1 f2
  go_wp2_with fail
  generalize (w8.alloc (.cells #[.int .i64 k, .int .i64 pl] 42)) = W9 at *
  generalize w8.heap.size = e9 at *
  have HTT := Lib.hid (HT.out W9 B9.out)
  have HT := Lib.hid (fun (X : World) (h : Below W9.heap.size W9 X) => (h.cell (p := ⟨0, 0, none⟩) (World.block_lt_of_cell? W9 _ HTT.out)).trans HTT.out)
  have bq := Lib.hid (show Below W9.heap.size W9 W9 from Below.refl _ _)
  clear K1 K4 HTT
  go_region_with
    (first
      | (go_at_call 13; (with_reducible refine (s_bad_num (some ⟨s, 0, none⟩) k _ (HT.out _ (by first | exact bq.out | exact bq.out.drew | exact bq.out.drew.drew | exact bq.out.drew.drew.drew | exact bq.out.drew.drew.drew.drew | exact bq.out.drew.drew.drew.drew.drew | exact bq.out.drew.drew.drew.drew.drew.drew | exact bq.out.drew.drew.drew.drew.drew.drew.drew | exact bq.out.drew.drew.drew.drew.drew.drew.drew.drew | exact bq.out.drew.drew.drew.drew.drew.drew.drew.drew.drew))).mono ?_); rintro e w' ⟨B71, c71, rfl, hr, hb⟩
         have F71 := Lib.hid (fun (X : World) (h : Below w'.heap.size w' X) => (hr.kept h).conv c71)
         have b71 := Lib.hid (Below.refl w'.heap.size w')
         have b0 := belowOfA hb (by first | exact bq.out | exact bq.out.drew | exact bq.out.drew.drew | exact bq.out.drew.drew.drew | exact bq.out.drew.drew.drew.drew | exact bq.out.drew.drew.drew.drew.drew | exact bq.out.drew.drew.drew.drew.drew.drew | exact bq.out.drew.drew.drew.drew.drew.drew.drew | exact bq.out.drew.drew.drew.drew.drew.drew.drew.drew | exact bq.out.drew.drew.drew.drew.drew.drew.drew.drew.drew)
         have bq := Lib.hid (b0.trans (hb.mono b0.size))
         have q0 := F71.out _ b71.out
         have q1 := F71.out _ b71.out.drew
         have q2 := F71.out _ b71.out.drew.drew
         have q3 := F71.out _ b71.out.drew.drew.drew
         (try have b5 := belowOfA hb (by first | exact b74.out | exact b74.out.drew | exact b74.out.drew.drew | exact b74.out.drew.drew.drew | exact b74.out.drew.drew.drew.drew | exact b74.out.drew.drew.drew.drew.drew | exact b74.out.drew.drew.drew.drew.drew.drew | exact b74.out.drew.drew.drew.drew.drew.drew.drew | exact b74.out.drew.drew.drew.drew.drew.drew.drew.drew | exact b74.out.drew.drew.drew.drew.drew.drew.drew.drew.drew)
              have b74 := Lib.hid (b5.trans (hb.mono b5.size))
              have p0 := F74.out _ b74.out
              have p1 := F74.out _ b74.out.drew
              have p2 := F74.out _ b74.out.drew.drew
              have p3 := F74.out _ b74.out.drew.drew.drew)
         clear hr hb b0)
      | (go_at_call 13; (with_reducible refine (s_bad_err (some ⟨s, 0, none⟩) e9 k pl _ (HE.out.below (by first | exact bq.out | exact bq.out.drew | exact bq.out.drew.drew | exact bq.out.drew.drew.drew | exact bq.out.drew.drew.drew.drew | exact bq.out.drew.drew.drew.drew.drew | exact bq.out.drew.drew.drew.drew.drew.drew | exact bq.out.drew.drew.drew.drew.drew.drew.drew | exact bq.out.drew.drew.drew.drew.drew.drew.drew.drew | exact bq.out.drew.drew.drew.drew.drew.drew.drew.drew.drew) (by first | exact e8)) (HT.out _ (by first | exact bq.out | exact bq.out.drew | exact bq.out.drew.drew | exact bq.out.drew.drew.drew | exact bq.out.drew.drew.drew.drew | exact bq.out.drew.drew.drew.drew.drew | exact bq.out.drew.drew.drew.drew.drew.drew | exact bq.out.drew.drew.drew.drew.drew.drew.drew | exact bq.out.drew.drew.drew.drew.drew.drew.drew.drew | exact bq.out.drew.drew.drew.drew.drew.drew.drew.drew.drew))).mono ?_); rintro e w' ⟨B81, c81, rfl, hr, hb⟩
         have F81 := Lib.hid (fun (X : World) (h : Below w'.heap.size w' X) => (hr.kept h).conv c81)
         have b81 := Lib.hid (Below.refl w'.heap.size w')
         have b0 := belowOfA hb (by first | exact bq.out | exact bq.out.drew | exact bq.out.drew.drew | exact bq.out.drew.drew.drew | exact bq.out.drew.drew.drew.drew | exact bq.out.drew.drew.drew.drew.drew | exact bq.out.drew.drew.drew.drew.drew.drew | exact bq.out.drew.drew.drew.drew.drew.drew.drew | exact bq.out.drew.drew.drew.drew.drew.drew.drew.drew | exact bq.out.drew.drew.drew.drew.drew.drew.drew.drew.drew)
         have bq := Lib.hid (b0.trans (hb.mono b0.size))
         have q0 := F81.out _ b81.out
         have q1 := F81.out _ b81.out.drew
         have q2 := F81.out _ b81.out.drew.drew
         have q3 := F81.out _ b81.out.drew.drew.drew
         (try have b5 := belowOfA hb (by first | exact b84.out | exact b84.out.drew | exact b84.out.drew.drew | exact b84.out.drew.drew.drew | exact b84.out.drew.drew.drew.drew | exact b84.out.drew.drew.drew.drew.drew | exact b84.out.drew.drew.drew.drew.drew.drew | exact b84.out.drew.drew.drew.drew.drew.drew.drew | exact b84.out.drew.drew.drew.drew.drew.drew.drew.drew | exact b84.out.drew.drew.drew.drew.drew.drew.drew.drew.drew)
              have b84 := Lib.hid (b5.trans (hb.mono b5.size))
              have p0 := F84.out _ b84.out
              have p1 := F84.out _ b84.out.drew
              have p2 := F84.out _ b84.out.drew.drew
              have p3 := F84.out _ b84.out.drew.drew.drew)
         clear hr hb b0)
      | (go_at_call 14; (with_reducible refine (rf_bad k _).mono ?_); rintro e w' ⟨B84, c84, rfl, hr, hb⟩
         have z74 := F74.out
         have F84 := Lib.hid (fun (X : World) (h : Below w'.heap.size w' X) => (hr.kept h).conv c84)
         have b84 := Lib.hid (Below.refl w'.heap.size w')
         have b0 := belowOfA hb (by first | exact bq.out | exact bq.out.drew | exact bq.out.drew.drew | exact bq.out.drew.drew.drew | exact bq.out.drew.drew.drew.drew | exact bq.out.drew.drew.drew.drew.drew | exact bq.out.drew.drew.drew.drew.drew.drew | exact bq.out.drew.drew.drew.drew.drew.drew.drew | exact bq.out.drew.drew.drew.drew.drew.drew.drew.drew | exact bq.out.drew.drew.drew.drew.drew.drew.drew.drew.drew)
         have bq := Lib.hid (b0.trans (hb.mono b0.size))
         have q0 := F84.out _ b84.out
         have q1 := F84.out _ b84.out.drew
         have q2 := F84.out _ b84.out.drew.drew
         have q3 := F84.out _ b84.out.drew.drew.drew
         (try have b5 := belowOfA hb (by first | exact b81.out | exact b81.out.drew | exact b81.out.drew.drew | exact b81.out.drew.drew.drew | exact b81.out.drew.drew.drew.drew | exact b81.out.drew.drew.drew.drew.drew | exact b81.out.drew.drew.drew.drew.drew.drew | exact b81.out.drew.drew.drew.drew.drew.drew.drew | exact b81.out.drew.drew.drew.drew.drew.drew.drew.drew | exact b81.out.drew.drew.drew.drew.drew.drew.drew.drew.drew)
              have b81 := Lib.hid (b5.trans (hb.mono b5.size))
              have p0 := F81.out _ b81.out
              have p1 := F81.out _ b81.out.drew
              have p2 := F81.out _ b81.out.drew.drew
              have p3 := F81.out _ b81.out.drew.drew.drew)
         clear hr hb b0 z74)
      | (go_at_call 14; (with_reducible refine (rf_bad k _).mono ?_); rintro e w' ⟨B74, c74, rfl, hr, hb⟩
         have F74 := Lib.hid (fun (X : World) (h : Below w'.heap.size w' X) => (hr.kept h).conv c74)
         have b74 := Lib.hid (Below.refl w'.heap.size w')
         have b0 := belowOfA hb (by first | exact bq.out | exact bq.out.drew | exact bq.out.drew.drew | exact bq.out.drew.drew.drew | exact bq.out.drew.drew.drew.drew | exact bq.out.drew.drew.drew.drew.drew | exact bq.out.drew.drew.drew.drew.drew.drew | exact bq.out.drew.drew.drew.drew.drew.drew.drew | exact bq.out.drew.drew.drew.drew.drew.drew.drew.drew | exact bq.out.drew.drew.drew.drew.drew.drew.drew.drew.drew)
         have bq := Lib.hid (b0.trans (hb.mono b0.size))
         have q0 := F74.out _ b74.out
         have q1 := F74.out _ b74.out.drew
         have q2 := F74.out _ b74.out.drew.drew
         have q3 := F74.out _ b74.out.drew.drew.drew
         (try have b5 := belowOfA hb (by first | exact b71.out | exact b71.out.drew | exact b71.out.drew.drew | exact b71.out.drew.drew.drew | exact b71.out.drew.drew.drew.drew | exact b71.out.drew.drew.drew.drew.drew | exact b71.out.drew.drew.drew.drew.drew.drew | exact b71.out.drew.drew.drew.drew.drew.drew.drew | exact b71.out.drew.drew.drew.drew.drew.drew.drew.drew | exact b71.out.drew.drew.drew.drew.drew.drew.drew.drew.drew)
              have b71 := Lib.hid (b5.trans (hb.mono b5.size))
              have p0 := F71.out _ b71.out
              have p1 := F71.out _ b71.out.drew
              have p2 := F71.out _ b71.out.drew.drew
              have p3 := F71.out _ b71.out.drew.drew.drew)
         clear hr hb b0)
      | (go_at_call 15; (with_reducible refine (s_asked S s 100 ses0 _ (HX.out.kept (by first | exact bq.out | exact bq.out.drew | exact bq.out.drew.drew | exact bq.out.drew.drew.drew | exact bq.out.drew.drew.drew.drew | exact bq.out.drew.drew.drew.drew.drew | exact bq.out.drew.drew.drew.drew.drew.drew | exact bq.out.drew.drew.drew.drew.drew.drew.drew | exact bq.out.drew.drew.drew.drew.drew.drew.drew.drew | exact bq.out.drew.drew.drew.drew.drew.drew.drew.drew.drew))).mono ?_); rintro e w' ⟨rfl, rfl⟩))
  all_goals
    go_wp2
    go_ret
    exact ⟨rfl, below_end B9.out (by first | exact bq.out | exact bq.out.drew | exact bq.out.drew.drew | exact bq.out.drew.drew.drew | exact bq.out.drew.drew.drew.drew | exact bq.out.drew.drew.drew.drew.drew | exact bq.out.drew.drew.drew.drew.drew.drew | exact bq.out.drew.drew.drew.drew.drew.drew.drew | exact bq.out.drew.drew.drew.drew.drew.drew.drew.drew | exact bq.out.drew.drew.drew.drew.drew.drew.drew.drew.drew)⟩
end Go.Proofs.YtglbdbghcdoicaaDoor
