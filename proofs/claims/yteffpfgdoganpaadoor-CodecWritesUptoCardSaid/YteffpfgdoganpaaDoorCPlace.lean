/- place, cell, bound, small, and the document's own: the walks. -/
import Derived.Test.YteffpfgdoganpaaDoorCPure
namespace Go.Proofs.YteffpfgdoganpaaDoor
open Go.RowKit

set_option maxRecDepth 100000 in
theorem place_any (c : CellV) (most least : Int) (W : World) (hk : c.key.size ≤ 9223372036854775807) :
    Calls Tryd.prog 68 #[cellV c, .int .i64 most, .int .i64 least] W fun e w' => e = .returned (.int .i64 (placeP c most least)) ∧ Below W.heap.size W w' := by
  obtain ⟨v, k, s⟩ := c
  replace hk : k.size ≤ 9223372036854775807 := hk
  have hb : Below W.heap.size W (W.alloc (.cells #[.int .i64 v, .string k, .int .i64 s] 24)) := (Below.refl _ _).alloc (Nat.le_refl _) _
  have HB := Lib.hid hb
  clear hb
  go_enter Tryd.func68, Tryd.ntmps68
  go_wp2
  all_goals
    go_ret
    refine ⟨ret_int ?_, HB.out⟩
    clear HB
    unfold placeP
    simp only
    repeat' split
  all_goals first | rfl | (exfalso; omega)
theorem ccell_any (c : CellV) (W : World) (hk : c.key.size ≤ 9223372036854775807) :
    Calls Tryd.prog 37 #[cellV c] W fun e w' => e = .returned (.int .i64 (placeP c 3 1)) ∧ Below W.heap.size W w' := by
  have C := Lib.hid (fun W' => place_any c 3 1 W' hk)
  have hb : ∀ w', Below (W.alloc (.cells #[.int .i64 c.view, .string c.key, .int .i64 c.start] 24)).heap.size (W.alloc (.cells #[.int .i64 c.view, .string c.key, .int .i64 c.start] 24)) w' → Below W.heap.size W w' := fun w' h => ((Below.refl _ _).alloc (Nat.le_refl _) _).trans (h.mono (by simp))
  have HB := Lib.hid hb
  clear hb hk
  go_enter Tryd.func37, Tryd.ntmps37
  go_wp2_with fail
  go_at_call 68; (with_reducible refine (C.out _).mono ?_); rintro e w1 ⟨rfl, hb⟩
  have HB2 := Lib.hid (HB.out _ hb)
  clear hb
  go_wp2
  go_ret
  exact ⟨rfl, HB2.out⟩
theorem cbound_any (c : CellV) (W : World) (hk : c.key.size ≤ 9223372036854775807) :
    Calls Tryd.prog 38 #[cellV c] W fun e w' => e = .returned (.int .i64 (placeP c 4 0)) ∧ Below W.heap.size W w' := by
  have C := Lib.hid (fun W' => place_any c 4 0 W' hk)
  have hb : ∀ w', Below (W.alloc (.cells #[.int .i64 c.view, .string c.key, .int .i64 c.start] 24)).heap.size (W.alloc (.cells #[.int .i64 c.view, .string c.key, .int .i64 c.start] 24)) w' → Below W.heap.size W w' := fun w' h => ((Below.refl _ _).alloc (Nat.le_refl _) _).trans (h.mono (by simp))
  have HB := Lib.hid hb
  clear hb hk
  go_enter Tryd.func38, Tryd.ntmps38
  go_wp2_with fail
  go_at_call 68; (with_reducible refine (C.out _).mono ?_); rintro e w1 ⟨rfl, hb⟩
  have HB2 := Lib.hid (HB.out _ hb)
  clear hb
  go_wp2
  go_ret
  exact ⟨rfl, HB2.out⟩
theorem small_any (n : Int) (W : World) :
    Calls Tryd.prog 36 #[.int .i64 n] W fun e w' => e = .returned (.bool (smallP n)) ∧ W = w' := by
  go_enter Tryd.func36, Tryd.ntmps36
  go_wp2
  all_goals
    go_ret
    refine ⟨ret_bool ?_, rfl⟩
    unfold smallP
    rw [Bool.eq_iff_iff]
    simp
    omega
theorem rin_any (n : Int) (W : World) :
    Calls Tryd.prog 44 #[.int .i64 n] W fun e w' => e = .returned (.bool (smallP n)) ∧ W = w' := by
  go_enter Tryd.func44, Tryd.ntmps44
  go_wp2
  all_goals
    go_ret
    refine ⟨ret_bool ?_, rfl⟩
    unfold smallP
    rw [Bool.eq_iff_iff]
    simp
    omega
set_option maxRecDepth 100000 in
theorem inside_no (c : CellV) (W : World) (hk : c.key.size ≤ 9223372036854775807) :
    Calls Tryd.prog 46 #[cellV c, .bool false] W fun e w' => e = .returned (.int .i64 (placeP c 3 1)) ∧ Below W.heap.size W w' := by
  obtain ⟨v, k, s⟩ := c
  replace hk : k.size ≤ 9223372036854775807 := hk
  have hb : Below W.heap.size W (W.alloc (.cells #[.int .i64 v, .string k, .int .i64 s] 24)) := (Below.refl _ _).alloc (Nat.le_refl _) _
  have HB := Lib.hid hb
  clear hb
  go_enter Tryd.func46, Tryd.ntmps46
  go_wp2
  all_goals
    go_ret
    refine ⟨ret_int ?_, HB.out⟩
    clear HB
    unfold placeP
    simp only
    repeat' split
  all_goals first | rfl | (exfalso; omega)
set_option maxRecDepth 100000 in
theorem inside_yes (c : CellV) (W : World) (hk : c.key.size ≤ 9223372036854775807) :
    Calls Tryd.prog 46 #[cellV c, .bool true] W fun e w' => e = .returned (.int .i64 (placeP c 4 0)) ∧ Below W.heap.size W w' := by
  obtain ⟨v, k, s⟩ := c
  replace hk : k.size ≤ 9223372036854775807 := hk
  have hb : Below W.heap.size W (W.alloc (.cells #[.int .i64 v, .string k, .int .i64 s] 24)) := (Below.refl _ _).alloc (Nat.le_refl _) _
  have HB := Lib.hid hb
  clear hb
  go_enter Tryd.func46, Tryd.ntmps46
  go_wp2
  all_goals
    go_ret
    refine ⟨ret_int ?_, HB.out⟩
    clear HB
    unfold placeP
    simp only
    repeat' split
  all_goals first | rfl | (exfalso; omega)
end Go.Proofs.YteffpfgdoganpaaDoor
