/- The statements' own first line: known() is true. -/
import Derived.Test.YtikacbfpeegcdaaDoorAggC
import Derived.Test.YtikacbfpeegcdaaDoorAggH
namespace Go.Proofs.YtikacbfpeegcdaaDoor
open Go.RowKit Go.Shelf

theorem fold_known (W : World) (g : Nat) (t : TypeId) (h : Blk W g t #[.int .i64 3, .int .i64 (-5), .int .i64 3]) :
    Calls Tryd.prog 10 #[.slice (some ⟨g, 0, none⟩) 3 3] W fun e w' => e = .returned (.tuple #[AGv 3 1 (-5) 3, .nilIface]) ∧ Below W.heap.size W w' := by
  have hz : IntsAt W (some ⟨g, 0, none⟩) 3 [3, -5, 3] := by
    refine ⟨rfl, fun k hk => ⟨_, rfl, h.lt, ?_⟩, ?_⟩
    · have : k = 0 ∨ k = 1 ∨ k = 2 := by omega
      rcases this with rfl | rfl | rfl
      · exact h.cell 0
      · exact h.cell 1
      · exact h.cell 2
    · intro x hx
      simp at hx
      rcases hx with rfl | rfl | rfl <;> exact ⟨by omega, by omega⟩
  have hf := fold_any (some ⟨g, 0, none⟩) 3 3 [3, -5, 3] W hz (by omega)
  have e : foldI 0 0 0 0 [3, -5, 3] = .inr (3, 1, -5, 3) := by decide
  rw [e] at hf
  exact hf

theorem known_any (w : World) : Calls Tryd.prog 8 #[] w fun e w' => e = .returned (.bool true) ∧ Below w.heap.size w w' := by
  have C1 := Lib.hid (fun W => add_no 4611686018427387904 4611686018427387904 ⟨by omega, by omega⟩ ⟨by omega, by omega⟩ (by unfold I64; omega) W)
  have C2 := Lib.hid (fun W => mul_ok 4294967296 1073741824 ⟨by omega, by omega⟩ ⟨by omega, by omega⟩ (by unfold I64; omega) W)
  have r1 : rightB 3 1 (-5) 3 = true := rightB_eq (by simp [RightP])
  have r2 : rightB 0 0 0 1 = false := rightB_eq (by simp [RightP])
  have C4 := Lib.hid (fun W => r1 ▸ right_any 3 1 (-5) 3 ⟨by omega, by omega⟩ ⟨by omega, by omega⟩ ⟨by omega, by omega⟩ ⟨by omega, by omega⟩ W)
  have C5 := Lib.hid (fun W => r2 ▸ right_any 0 0 0 1 ⟨by omega, by omega⟩ ⟨by omega, by omega⟩ ⟨by omega, by omega⟩ ⟨by omega, by omega⟩ W)
  clear r1 r2
  go_enter Tryd.func8, Tryd.ntmps8
  go_wp2_with fail
  go_at_call 9; (with_reducible refine (C1.out _).mono ?_); rintro e w' ⟨rfl, rfl⟩
  go_wp2_with fail
  go_at_call 14; (with_reducible refine (C2.out _).mono ?_); rintro e w' ⟨rfl, rfl⟩
  go_wp2_with fail
  go_at_call 10; refine (fold_known _ (w.heap.size + 1) _ (Blk.new' (by simp))).mono ?_; rintro e w2 ⟨rfl, hb2⟩
  have HB2 := Lib.hid ((((Below.refl w.heap.size w).alloc (Nat.le_refl _) _).alloc (by simp) _).trans (hb2.mono (by simp; omega)))
  clear hb2
  go_wp2_with fail
  go_at_call 29; (with_reducible refine (C4.out _).mono ?_); rintro e w3 ⟨rfl, hb3⟩
  have HB3 := Lib.hid ((HB2.out.alloc HB2.out.size _).trans (hb3.mono (by have := HB2.out.size; simp; omega)))
  clear hb3
  go_wp2_with fail
  go_at_call 29; (with_reducible refine (C5.out _).mono ?_); rintro e w4 ⟨rfl, hb4⟩
  have HB4 := Lib.hid (HB3.out.trans (hb4.mono HB3.out.size))
  clear hb4
  go_wp2
  go_ret
  exact ⟨rfl, HB4.out⟩
end Go.Proofs.YtikacbfpeegcdaaDoor
