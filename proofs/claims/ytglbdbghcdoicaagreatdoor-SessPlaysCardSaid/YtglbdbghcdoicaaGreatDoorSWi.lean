/- within. -/
import Derived.Test.YtglbdbghcdoicaaGreatDoorWRows
namespace Go.Proofs.YtglbdbghcdoicaaGreatDoor
open Go.RowKit

set_option maxRecDepth 100000 in
theorem within_neg (at_ m : Int) (hm : 0 < m) (hm2 : m ≤ 1000000) (h : at_.tmod m < 0) (R : Nat) (hR : at_.tmod m + m = (R : Int)) (W : World) :
    Calls Tryz.prog 15 #[.int .i64 at_, .int .i64 m] W fun e w' => e = .returned (.int .i64 (R : Int)) ∧ W = w' := by
  have h1 := Int.tmod_lt_of_pos at_ hm
  have h2 := Int.lt_tmod_of_pos at_ hm
  have hm0 : ¬ m = 0 := by omega
  go_enter Tryz.func15, Tryz.ntmps15
  go_wp2
  go_ret
  exact ⟨rfl, rfl⟩
set_option maxRecDepth 100000 in
theorem within_pos (at_ m : Int) (hm : 0 < m) (h : ¬ at_.tmod m < 0) (R : Nat) (hR : at_.tmod m = (R : Int)) (W : World) :
    Calls Tryz.prog 15 #[.int .i64 at_, .int .i64 m] W fun e w' => e = .returned (.int .i64 (R : Int)) ∧ W = w' := by
  have hm0 : ¬ m = 0 := by omega
  have h0 : ¬ (R : Int) < 0 := by omega
  clear h
  go_enter Tryz.func15, Tryz.ntmps15
  go_wp2
  go_ret
  exact ⟨rfl, rfl⟩
/-- A number from 0 to m - 1. -/
theorem within_any (at_ : Int) (m : Nat) (hm : 0 < m) (hm2 : m ≤ 1000000) : ∃ R : Nat, R < m ∧ ∀ W, Calls Tryz.prog 15 #[.int .i64 at_, .int .i64 (m : Int)] W fun e w' => e = .returned (.int .i64 (R : Int)) ∧ W = w' := by
  have hp : (0 : Int) < (m : Int) := by omega
  have h1 := Int.tmod_lt_of_pos at_ hp
  have h2 := Int.lt_tmod_of_pos at_ hp
  by_cases h : at_.tmod m < 0
  · exact ⟨(at_.tmod m + m).toNat, by omega, fun W => within_neg at_ m hp (by omega) h _ (by omega) W⟩
  · exact ⟨(at_.tmod m).toNat, by omega, fun W => within_pos at_ m hp h _ (by omega) W⟩
end Go.Proofs.YtglbdbghcdoicaaGreatDoor
