/- Frame, the program's and the document's; the law's own Lend and Back. -/
import Derived.Test.YtdgokebablhoiaaDoorWHead
namespace Go.Proofs.YtdgokebablhoiaaDoor
open Go.RowKit

/-- Bytes of a frame of n bytes: four for the length. -/
def len4 (n : Nat) : List Int := [(n : Int) / 16777216, (n : Int) / 65536, (n : Int) / 256 % 256, (n : Int) % 256]

theorem own_cells4 (W : World) (a b c d : Int) : (W.alloc (.cells #[.int .u8 a, .int .u8 b, .int .u8 c, .int .u8 d] 5)).ownsRow W.heap.size 5 1 (.slice (some ⟨W.heap.size, 0, none⟩) 4 4) 4 (bvs [a, b, c, d]) :=
  World.ownsRow_lit W _ 4 (Nat.le_refl _) (by unfold maxLen; omega) (by simp)

set_option maxRecDepth 100000 in
theorem frame_no (A : Option Addr) (n c : Nat) (W : World) (h : n < 1 ∨ 65536 < n) (hn : n ≤ 9223372036854775807) :
    Calls Tryd.prog 21 #[.slice A n c] W fun e w' => e = .returned (.tuple #[.slice none 0 0, .int .i64 14]) ∧ W = w' := by
  rcases h with h | h
  · go_enter Tryd.func21, Tryd.ntmps21
    go_wp2
    go_ret2
    exact ⟨rfl, rfl⟩
  · have h1 : decide (n < 1) = false := by simp; omega
    go_enter Tryd.func21, Tryd.ntmps21
    go_wp2
    go_ret2
    exact ⟨rfl, rfl⟩
set_option maxRecDepth 100000 in
theorem frame_yes (A : Option Addr) (n c : Nat) (xs : List Int) (W : World) (hl : xs.length = n) (h : CellsAt W A (bvs xs)) (hA : A = none → c = 0) (h1 : 1 ≤ n) (h2 : n ≤ 65536) :
    Calls Tryd.prog 21 #[.slice A n c] W fun e w' => ∃ A' c', e = .returned (.tuple #[.slice A' (4 + n) c', .int .i64 0]) ∧ RowAt w' A' (4 + n) W.heap.size (len4 n ++ xs) ∧ Below W.heap.size W w' := by
  have H := Lib.hid h
  have HL := Lib.hid hl
  have HA := Lib.hid hA
  clear h hl hA
  go_enter Tryd.func21, Tryd.ntmps21
  go_wp2_with (at_builtin; refine wpList_append_bytes rfl _ _ rfl W.heap.size _ 4 (len4 n) rfl (own_cells4 W _ _ _ _) A n c HA.out xs rfl HL.out (H.out.below ((Below.refl _ _).alloc (Nat.le_refl _) _)) (by omega) (by simp) ?_
               intro v' w2 hown hg hv
               have B2 := Lib.hid (below_grown ((Below.refl W.heap.size W).alloc (Nat.le_refl _) (.cells #[.int .u8 ((n : Int) / 16777216), .int .u8 ((n : Int) / 65536), .int .u8 ((n : Int) / 256 % 256), .int .u8 ((n : Int) % 256)] 5)) hg (by intro g hg; cases hg; exact Nat.le_refl _) (by simp))
               have HO := Lib.hid hown
               clear hown hg hv)
  go_ret2
  obtain ⟨A', c', rfl, hr, _⟩ := row_of_own (xs := len4 n ++ xs) (by rw [bvs_append]; exact HO.out)
  exact ⟨A', c', rfl, hr, B2.out⟩
set_option maxRecDepth 100000 in
theorem rframe_no (A : Option Addr) (n c : Nat) (W : World) (h : n < 1 ∨ 65536 < n) (hn : n ≤ 9223372036854775807) :
    Calls Tryd.prog 22 #[.slice A n c] W fun e w' => e = .returned (.tuple #[.slice none 0 0, .int .i64 14]) ∧ W = w' := by
  rcases h with h | h
  · go_enter Tryd.func22, Tryd.ntmps22
    go_wp2
    go_ret2
    exact ⟨rfl, rfl⟩
  · have h1 : decide (n < 1) = false := by simp; omega
    go_enter Tryd.func22, Tryd.ntmps22
    go_wp2
    go_ret2
    exact ⟨rfl, rfl⟩
set_option maxRecDepth 100000 in
theorem rframe_yes (A : Option Addr) (n c : Nat) (xs : List Int) (W : World) (hl : xs.length = n) (h : CellsAt W A (bvs xs)) (hA : A = none → c = 0) (h1 : 1 ≤ n) (h2 : n ≤ 65536) :
    Calls Tryd.prog 22 #[.slice A n c] W fun e w' => ∃ A' c', e = .returned (.tuple #[.slice A' (4 + n) c', .int .i64 0]) ∧ RowAt w' A' (4 + n) W.heap.size (len4 n ++ xs) ∧ Below W.heap.size W w' := by
  have H := Lib.hid h
  have HL := Lib.hid hl
  have HA := Lib.hid hA
  clear h hl hA
  go_enter Tryd.func22, Tryd.ntmps22
  go_wp2_with (at_builtin; refine wpList_append_bytes rfl _ _ rfl W.heap.size _ 4 (len4 n) rfl (own_cells4 W _ _ _ _) A n c HA.out xs rfl HL.out (H.out.below ((Below.refl _ _).alloc (Nat.le_refl _) _)) (by omega) (by simp) ?_
               intro v' w2 hown hg hv
               have B2 := Lib.hid (below_grown ((Below.refl W.heap.size W).alloc (Nat.le_refl _) (.cells #[.int .u8 ((n : Int) / 16777216), .int .u8 ((n : Int) / 65536), .int .u8 ((n : Int) / 256 % 256), .int .u8 ((n : Int) % 256)] 5)) hg (by intro g hg; cases hg; exact Nat.le_refl _) (by simp))
               have HO := Lib.hid hown
               clear hown hg hv)
  go_ret2
  obtain ⟨A', c', rfl, hr, _⟩ := row_of_own (xs := len4 n ++ xs) (by rw [bvs_append]; exact HO.out)
  exact ⟨A', c', rfl, hr, B2.out⟩
end Go.Proofs.YtdgokebablhoiaaDoor
