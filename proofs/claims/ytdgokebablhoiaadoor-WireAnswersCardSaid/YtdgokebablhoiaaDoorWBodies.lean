/- The law WireBodies: the walk. -/
import Derived.Test.YtdgokebablhoiaaDoorWBack
namespace Go.Proofs.YtdgokebablhoiaaDoor
open Go.RowKit

theorem RowAt.tur {S : Nat → Prop} {W W' : World} {A : Option Addr} {n lo : Nat} {xs : List Int} (h : RowAt W A n lo xs) (ht : Tur S W W') (hs : ∀ k, S k → k < lo) : RowAt W' A n lo xs := by
  rcases h with h | ⟨g, cur, rfl, h1, hg, r⟩
  · exact .inl h
  · exact .inr ⟨g, cur, rfl, h1, hg.tur ht (fun hk => by have := hs g hk; omega), r⟩

set_option maxHeartbeats 1000000 in
set_option maxRecDepth 100000 in
theorem bodies_yes (A : Option Addr) (n c : Nat) (xs : List Int) (w : World) (hl : xs.length = n) (h : CellsAt w A (bvs xs)) (hA : A = none → c = 0) (hn : n + 67 ≤ 140737488355328) (h1 : 1 ≤ n) (h2 : n ≤ 65536) :
    Calls Tryd.prog 4 #[.slice A n c] w fun e w' => e = .returned (.bool true) ∧ Below w.heap.size w w' := by
  have H := Lib.hid h
  have HL := Lib.hid hl
  have HA := Lib.hid hA
  have HN := Lib.hid hn
  clear h hl hA hn
  go_enter Tryd.func4, Tryd.ntmps4
  go_wp2_with fail
  go_at_call 20; (with_reducible refine (lend_any A n c xs w HL.out H.out HN.out).mono ?_); rintro e w1 ⟨g, cur, rfl, hg, hbk, hcu, hb1⟩
  have B1 := Lib.hid hb1
  have KG := Lib.hid hbk
  have HC := Lib.hid hcu
  have HG := Lib.hid hg
  clear hg hbk hcu hb1
  go_wp2_with fail
  go_at_call 21; (with_reducible refine (frame_yes (some ⟨g, 0, none⟩) n (n + 67) xs w1 HL.out (cells_of_blk KG.out HC.out) (fun h => by cases h) h1 h2).mono ?_); rintro e w2 ⟨A2, c2, rfl, hr, hb2⟩
  have R2 := Lib.hid hr
  have K2 := Lib.hid (KG.out.kept hb2)
  have B2 := Lib.hid (B1.out.trans (hb2.mono B1.out.size))
  clear hr hb2
  go_wp2_with fail
  go_at_call 22; (with_reducible refine (rframe_yes A n c xs w2 HL.out (H.out.below B2.out) HA.out h1 h2).mono ?_); rintro e w3 ⟨A3, c3, rfl, hr, hb3⟩
  have R3 := Lib.hid hr
  have R23 := Lib.hid (R2.out.kept hb3)
  have K3 := Lib.hid (K2.out.kept hb3)
  have B3 := Lib.hid (B2.out.trans (hb3.mono B2.out.size))
  have G2 := Lib.hid (show g < w2.heap.size from K2.out.lt)
  clear hr hb3
  go_wp2_with fail
  go_at_call 23; (with_reducible refine (back_any g cur A n c xs w3 HL.out (H.out.below B3.out) K3.out HC.out HN.out).mono ?_); rintro e w4 ⟨rfl, ht⟩
  have hx := (R23.out.tur ht (fun k hk => by subst hk; exact KG.out.lt)).conv c2
  have hy := (R3.out.tur ht (fun k hk => by subst hk; exact G2.out)).conv c3
  have B4 := Lib.hid (B3.out.trans (ht.below (B := w.heap.size) B3.out.size (fun k hk => by subst hk; exact HG.out)))
  clear ht
  generalize strOfNums (len4 n ++ xs) = S at hx hy
  go_wp2_with fail
  go_at_call 19; (with_reducible refine (head_any _).mono ?_); rintro e w5 ⟨rfl, hb⟩
  go_wp2
  go_ret
  exact ⟨rfl, B4.out.trans (hb.mono B4.out.size)⟩
set_option maxHeartbeats 1000000 in
set_option maxRecDepth 100000 in
theorem bodies_no (A : Option Addr) (n c : Nat) (xs : List Int) (w : World) (hl : xs.length = n) (h : CellsAt w A (bvs xs)) (hn : n + 67 ≤ 140737488355328) (h1 : n < 1 ∨ 65536 < n) :
    Calls Tryd.prog 4 #[.slice A n c] w fun e w' => e = .returned (.bool true) ∧ Below w.heap.size w w' := by
  have H := Lib.hid h
  have HL := Lib.hid hl
  have HN := Lib.hid hn
  have H1 := Lib.hid h1
  have h9 : n ≤ 9223372036854775807 := by omega
  have H9 := Lib.hid h9
  clear h hl hn h1 h9
  go_enter Tryd.func4, Tryd.ntmps4
  go_wp2_with fail
  go_at_call 20; (with_reducible refine (lend_any A n c xs w HL.out H.out HN.out).mono ?_); rintro e w1 ⟨g, cur, rfl, hg, hbk, hcu, hb1⟩
  have B1 := Lib.hid hb1
  have KG := Lib.hid hbk
  have HC := Lib.hid hcu
  have HG := Lib.hid hg
  clear hg hbk hcu hb1
  go_wp2_with fail
  go_at_call 21; (with_reducible refine (frame_no _ n _ w1 H1.out H9.out).mono ?_); rintro e w2 ⟨rfl, rfl⟩
  go_wp2_with fail
  go_at_call 22; (with_reducible refine (rframe_no A n c w1 H1.out H9.out).mono ?_); rintro e w2 ⟨rfl, rfl⟩
  go_wp2_with fail
  go_at_call 23; (with_reducible refine (back_any g cur A n c xs w1 HL.out (H.out.below B1.out) KG.out HC.out HN.out).mono ?_); rintro e w4 ⟨rfl, ht⟩
  have hx := conv_cells (W := w4) (A := none) (n := 0) (xs := []) (fun k hk => absurd hk (by simp [bvs])) rfl 0
  have B4 := Lib.hid (B1.out.trans (ht.below (B := w.heap.size) B1.out.size (fun k hk => by subst hk; exact HG.out)))
  clear ht
  generalize strOfNums [] = S at hx
  go_wp2_with fail
  go_at_call 19; (with_reducible refine (head_any _).mono ?_); rintro e w5 ⟨rfl, hb⟩
  go_wp2
  go_ret
  exact ⟨rfl, B4.out.trans (hb.mono B4.out.size)⟩
theorem law_bodies (A : Option Addr) (n c : Nat) (xs : List Int) (w : World) (hl : xs.length = n) (h : CellsAt w A (bvs xs)) (hA : A = none → c = 0) (hn : n + 67 ≤ 140737488355328) :
    Calls Tryd.prog 4 #[.slice A n c] w fun e w' => e = .returned (.bool true) ∧ Below w.heap.size w w' := by
  by_cases h1 : n < 1 ∨ 65536 < n
  · exact bodies_no A n c xs w hl h hn h1
  · exact bodies_yes A n c xs w hl h hA hn (by omega) (by omega)
end Go.Proofs.YtdgokebablhoiaaDoor
