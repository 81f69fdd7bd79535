/- The law's open: a session, or nil. -/
import Derived.Test.YtglbdbghcdoicaaGreatDoorSKnown
namespace Go.Proofs.YtglbdbghcdoicaaGreatDoor
open Go.RowKit

set_option maxRecDepth 100000 in
theorem open_no (most : Int) (W : World) (h : most < 16 ∨ 65536 < most) :
    Calls Tryz.prog 23 #[.int .i64 most] W fun e w' => e = .returned (.pointer none) ∧ W = w' := by
  have C1 := Lib.hid (s_new_no most W h)
  clear h
  go_enter Tryz.func23, Tryz.ntmps23
  go_wp2_with fail
  go_at_call 9; (with_reducible refine C1.out.mono ?_); rintro e w2 ⟨rfl, rfl⟩
  go_wp2
  go_ret
  exact ⟨rfl, rfl⟩
set_option maxRecDepth 100000 in
theorem open_yes (most : Int) (W : World) (h1 : 16 ≤ most) (h2 : most ≤ 65536) :
    Calls Tryz.prog 23 #[.int .i64 most] W fun e w' => ∃ s S, e = .returned (.pointer (some ⟨s, 0, none⟩)) ∧ Sx w' S s most ses0 ∧ (∀ k, S k → W.heap.size ≤ k) ∧ Below W.heap.size W w' := by
  have C1 := Lib.hid (s_new_yes most W h1 h2)
  clear h1 h2
  go_enter Tryz.func23, Tryz.ntmps23
  go_wp2_with fail
  go_at_call 9; (with_reducible refine C1.out.mono ?_); rintro e w2 ⟨s, S, rfl, hx, hS, hb⟩
  go_wp2
  go_ret
  exact ⟨s, S, rfl, hx, hS, hb⟩
end Go.Proofs.YtglbdbghcdoicaaGreatDoor
