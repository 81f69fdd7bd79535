/- The reference's Right at every aggregate; the law AggRight: the walk. -/
import Derived.Test.YtikacbfpeegcdaaAggF
import Derived.Test.YtikacbfpeegcdaaAggK
namespace Go.Proofs.Ytikacbfpeegcdaa
open Go.RowKit Go.Shelf

theorem ref_right_any (c s mi ma : Int) (hc : I64 c) (hs : I64 s) (hmi : I64 mi) (hma : I64 ma) (w : World) :
    Calls Try.prog 13 #[AG c s mi ma] w fun e w' => e = .returned (.bool (rightB c s mi ma)) ∧ Below w.heap.size w w' := by
  by_cases h0 : c ≤ 0
  · by_cases hz : c = 0 ∧ s = 0 ∧ mi = 0 ∧ ma = 0
    · obtain ⟨rfl, rfl, rfl, rfl⟩ := hz
      rw [rightB_eq (b := true) (by simp [RightP])]
      clear hc hs hmi hma h0
      go_enter Try.func13, Try.ntmps13
      go_wp2
      go_ret
      exact ⟨rfl, (Below.refl _ _).alloc (Nat.le_refl _) _⟩
    · have hr : rightB c s mi ma = false := rightB_eq (by simp [RightP]; omega)
      rw [hr]
      go_enter Try.func13, Try.ntmps13
      go_wp2
      all_goals
        go_ret
        exact ⟨rfl, (Below.refl _ _).alloc (Nat.le_refl _) _⟩
  · by_cases h1 : c = 1
    · subst h1
      by_cases e1 : s = mi
      · subst e1
        have hr : rightB 1 s s ma = (s == ma) := rightB_eq (by simp [RightP]; omega)
        rw [hr]
        go_enter Try.func13, Try.ntmps13
        go_wp2
        go_ret
        exact ⟨rfl, (Below.refl _ _).alloc (Nat.le_refl _) _⟩
      · have hr : rightB 1 s mi ma = false := rightB_eq (by simp [RightP]; omega)
        have hb : (s == mi) = false := by simpa using e1
        rw [hr]
        go_enter Try.func13, Try.ntmps13
        go_wp2
        go_ret
        exact ⟨rfl, (Below.refl _ _).alloc (Nat.le_refl _) _⟩
    · by_cases hlt : ma < mi
      · have hr : rightB c s mi ma = false := rightB_eq (by simp [RightP]; omega)
        rw [hr]
        have z1 : (c == 1) = false := by simpa using h1
        clear h1
        go_enter Try.func13, Try.ntmps13
        go_wp2
        go_ret
        exact ⟨rfl, (Below.refl _ _).alloc (Nat.le_refl _) _⟩
      · have hr : rightB c s mi ma = (decide (mi + ma + (c - 2) * mi ≤ s) && decide (s ≤ mi + ma + (c - 2) * ma)) := rightB_eq (by simp [RightP]; omega)
        rw [hr]
        exact ref_two c s mi ma hc hs hmi hma (by omega) (by omega) w

set_option maxHeartbeats 1000000 in
theorem law_right (c s mi ma : Int) (hc : I64 c) (hs : I64 s) (hmi : I64 mi) (hma : I64 ma) (w : World) :
    Calls Try.prog 4 #[AG c s mi ma] w fun e w' => e = .returned (.bool true) ∧ Below w.heap.size w w' := by
  have C1 := Lib.hid (fun W => right_any c s mi ma hc hs hmi hma W)
  have C2 := Lib.hid (fun W => ref_right_any c s mi ma hc hs hmi hma W)
  generalize rightB c s mi ma = b at C1 C2
  go_enter Try.func4, Try.ntmps4
  go_wp2_with fail
  go_at_call 11; (with_reducible refine (known_any _).mono ?_); rintro e w1 ⟨rfl, hb1⟩
  have r := fun (p : Addr) (hp : p.block < w.heap.size + 1) => hb1.cell (p := p) (by simp; omega)
  have a0 : w1.cell? ⟨w.heap.size, 0, none⟩ = some (.int .i64 c) := (r ⟨w.heap.size, 0, none⟩ (by simp)).trans (by go_simp)
  have a1 : w1.cell? ⟨w.heap.size, 1, none⟩ = some (.int .i64 s) := (r ⟨w.heap.size, 1, none⟩ (by simp)).trans (by go_simp)
  have a2 : w1.cell? ⟨w.heap.size, 2, none⟩ = some (.int .i64 mi) := (r ⟨w.heap.size, 2, none⟩ (by simp)).trans (by go_simp)
  have a3 : w1.cell? ⟨w.heap.size, 3, none⟩ = some (.int .i64 ma) := (r ⟨w.heap.size, 3, none⟩ (by simp)).trans (by go_simp)
  have l1 : w.heap.size < w1.heap.size := by have := hb1.size; simp at this; omega
  have HB := Lib.hid (((Below.refl w.heap.size w).alloc (Nat.le_refl _) _).trans (hb1.mono (by simp)))
  clear r hb1
  go_wp2
  refine wp_region_heldq (B := w1.heap.size) (w1 := w1) (by kernel_rfl) (by kernel_rfl) (Held.of (Below.refl _ _).drew (Nat.le_refl _)) ?_
  repeat
    (with_reducible refine wpQuiet_step (fun K hK => ?_))
    first
      | ((with_reducible refine ite_pos_ ?_ ?_); (focus (go_simp; done)); apply Exists.intro; refine ⟨fun wz hzC => ?_, hK _ ?_⟩; (have hz := HeldC.out hzC; clear hzC; unfold Oper.quietAt; go_simp; (first | done | (first | (go_at_call 12; (with_reducible refine (C1.out _).mono ?_); rintro e w' ⟨rfl, hb⟩; exact ⟨rfl, HeldC.step hz hb⟩) | (go_at_call 13; (with_reducible refine (C2.out _).mono ?_); rintro e w' ⟨rfl, hb⟩; exact ⟨rfl, HeldC.step hz hb⟩)) | (with_reducible rfl))); clear hK K; (try simp only [Act.put, List.setIfInBounds_toArray, List.set_cons_zero, List.set_cons_succ]))
      | ((with_reducible refine ite_neg_ ?_ ?_); (focus (go_simp; done)); refine hK _ ?_; clear hK K; (try simp only [Act.put, List.setIfInBounds_toArray, List.set_cons_zero, List.set_cons_succ]))
  (with_reducible refine wpQuiet_nil ?_)
  intro wz hz
  go_wp2
  go_ret
  exact ⟨by simp, HB.out.trans (hz.2.2.2.mono (by omega))⟩
end Go.Proofs.Ytikacbfpeegcdaa
