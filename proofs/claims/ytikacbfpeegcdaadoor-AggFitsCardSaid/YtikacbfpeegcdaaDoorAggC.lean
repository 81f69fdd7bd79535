/- agg.Right: the walk. -/
import Derived.Test.YtikacbfpeegcdaaDoorAggB
namespace Go.Proofs.YtikacbfpeegcdaaDoor
open Go.RowKit Go.Shelf

/-- An aggregate, as a value. -/
abbrev AG (c s mi ma : Int) : Value := .agg #[.int .i64 c, .int .i64 s, .int .i64 mi, .int .i64 ma]

/-- Whether there are such values, by whole numbers. -/
def RightP (c s mi ma : Int) : Prop :=
  (c = 0 ∧ s = 0 ∧ mi = 0 ∧ ma = 0) ∨ (c = 1 ∧ mi = s ∧ ma = s) ∨ (2 ≤ c ∧ mi ≤ ma ∧ mi + ma + (c - 2) * mi ≤ s ∧ s ≤ mi + ma + (c - 2) * ma)

noncomputable def rightB (c s mi ma : Int) : Bool := @decide (RightP c s mi ma) (Classical.propDecidable _)
theorem rightB_eq {c s mi ma : Int} {b : Bool} (h : RightP c s mi ma ↔ b = true) : rightB c s mi ma = b := by
  unfold rightB
  cases b <;> simp_all

/-- The four cells of an aggregate's variable. -/
def At4 (w : World) (g : Nat) (c s mi ma : Int) : Prop :=
  w.cell? ⟨g, 0, none⟩ = some (.int .i64 c) ∧ w.cell? ⟨g, 1, none⟩ = some (.int .i64 s) ∧ w.cell? ⟨g, 2, none⟩ = some (.int .i64 mi) ∧ w.cell? ⟨g, 3, none⟩ = some (.int .i64 ma)

theorem product_1 (v : Int) (hv : I64 v) (w : World) :
    Calls Tryd.prog 42 #[.int .i64 1, .int .i64 v] w fun e w' => e = .returned (.agg #[.int .i64 (hiW v), .int .u64 (loW v)]) ∧ Below w.heap.size w w' := by
  have h := product_any 1 v ⟨by omega, by omega⟩ hv (by omega) w
  rw [Int.one_mul] at h
  exact h

theorem ends_fit (c m x y : Int) (hc : I64 c) (hm : I64 m) (hx : I64 x) (hy : I64 y) (h2 : 2 ≤ c) :
    -170141183460469231731687303715884105728 ≤ x + y + (c - 2) * m ∧ x + y + (c - 2) * m < 170141183460469231731687303715884105728 := by
  obtain ⟨_, c2⟩ := hc; obtain ⟨m1, m2⟩ := hm; obtain ⟨x1, x2⟩ := hx; obtain ⟨y1, y2⟩ := hy
  have b1 : (c - 2) * (-9223372036854775808) ≤ (c - 2) * m := Int.mul_le_mul_of_nonneg_left m1 (by omega)
  have b2 : (c - 2) * m ≤ (c - 2) * 9223372036854775807 := Int.mul_le_mul_of_nonneg_left m2 (by omega)
  omega

abbrev wideV (x : Int) : Value := .agg #[.int .i64 (hiW x), .int .u64 (loW x)]

set_option maxHeartbeats 1000000 in
set_option maxRecDepth 100000 in
theorem right_two (c s mi ma : Int) (hc : I64 c) (hs : I64 s) (hmi : I64 mi) (hma : I64 ma) (h2 : 2 ≤ c) (hlt : mi ≤ ma) (w : World) :
    Calls Tryd.prog 29 #[AG c s mi ma] w fun e w' => e = .returned (.bool (decide (mi + ma + (c - 2) * mi ≤ s) && decide (s ≤ mi + ma + (c - 2) * ma))) ∧ Below w.heap.size w w' := by
  have hp1 : -170141183460469231731687303715884105728 ≤ mi + ma ∧ mi + ma < 170141183460469231731687303715884105728 := by obtain ⟨_, _⟩ := hmi; obtain ⟨_, _⟩ := hma; omega
  have hp2 := ends_fit c mi mi ma hc hmi hmi hma h2
  have hp3 := ends_fit c ma mi ma hc hma hmi hma h2
  have hc2 : I64 (c - 2) := by obtain ⟨_, _⟩ := hc; exact ⟨by omega, by omega⟩
  have z1 : (c == 1) = false := by simp; omega
  have c1 := hc.2
  go_enter Tryd.func29, Tryd.ntmps29
  go_wp2
  go_cut [3] (fun v3 w' => ∃ g, v3 = .pointer (some ⟨g, 0, none⟩) ∧ w.heap.size + 1 ≤ g ∧ g < w'.heap.size ∧ Held (w.heap.size + 1) (w.alloc (.cells #[.int .i64 c, .int .i64 s, .int .i64 mi, .int .i64 ma] 29)) w' ∧
    w'.cell? ⟨g, 0, none⟩ = some (.int .i64 (hiW (mi + ma))) ∧ w'.cell? ⟨g, 1, none⟩ = some (.int .u64 (loW (mi + ma))))
  case first =>
    go_region_held3 (fun w' => Held (w.heap.size + 1) (w.alloc (.cells #[.int .i64 c, .int .i64 s, .int .i64 mi, .int .i64 ma] 29)) w')
      (first | assumption | exact Held.of (Below.refl _ _).drew (by simp) | exact Held.alloc (by assumption) _ | (refine Held.set_ (Held.set_ (by assumption) ?_ _) ?_ _ <;> (first | omega | (simp; done) | (simp; omega))))
      (first
        | (go_at_call 42; (with_reducible refine (product_1 _ ?_ _).mono ?_); (assumption); rintro e w' ⟨rfl, hb⟩; have hq := Lib.hid (Held.step (by assumption) hb); have hz := hb.size; (try simp at hz); (try (have kb := Blk.made hb; have k0 := kb.cell 0; have k1 := kb.cell 1; have kf := fun i => kb.frozen i; (try simp at k0); (try simp at k1); (try simp at kf))); (try (have kb := Blk.madeD hb; have k0 := kb.cell 0; have k1 := kb.cell 1; have kf := fun i => kb.frozen i; (try simp at k0); (try simp at k1); (try simp at kf))); (try (have kb := Blk.kept (t := 78) (by assumption) hb; have k0 := kb.cell 0; have k1 := kb.cell 1; have kf := fun i => kb.frozen i; (try simp at k0); (try simp at k1); (try simp at kf))))
        | (go_at_call 43; (with_reducible refine (plus_any _ _ hp1 _).mono ?_); rintro e w' ⟨rfl, hb⟩; have hq := Lib.hid (Held.step (by assumption) hb); have hz := hb.size; (try simp at hz); (try (have kb := Blk.made hb; have k0 := kb.cell 0; have k1 := kb.cell 1; have kf := fun i => kb.frozen i; (try simp at k0); (try simp at k1); (try simp at kf))); (try (have kb := Blk.madeD hb; have k0 := kb.cell 0; have k1 := kb.cell 1; have kf := fun i => kb.frozen i; (try simp at k0); (try simp at k1); (try simp at kf))); (try (have kb := Blk.kept (t := 78) (by assumption) hb; have k0 := kb.cell 0; have k1 := kb.cell 1; have kf := fun i => kb.frozen i; (try simp at k0); (try simp at k1); (try simp at kf)))))
    all_goals
      go_wp2
      go_meet
      case rel => exact ⟨_, rfl, by (first | omega | (simp; done) | (simp; omega)), by (first | (simp; done) | (simp; omega)), by assumption, by go_simp, by go_simp⟩
  case rest =>
    obtain ⟨g, rfl, hg1, hg2, ⟨hce, hfr, hsz, hbel⟩, hc0, hc1⟩ := hcut
    go_wp2_with (go_at_call 42; (with_reducible refine (product_1 _ ?_ _).mono ?_); (assumption); rintro e w2 ⟨rfl, hb2⟩)
    have hcell2 : ∀ p : Addr, p.block < wc.heap.size → w2.cell? p = wc.cell? p := fun p hp => hb2.cell hp
    obtain ⟨w3, hw3⟩ : ∃ w3, w3 = w2.alloc (.cells #[.int .i64 (hiW s), .int .u64 (loW s)] 78) := ⟨_, rfl⟩
    rw [← hw3]
    have z2 := hb2.size
    have q0 : w3.cell? ⟨w.heap.size, 0, none⟩ = some (.int .i64 c) := by rw [hw3, World.cell?_alloc_lt _ _ _ (by simp; omega), hcell2 _ (by simp; omega), hbel.cell (by simp)]; simp
    have q2 : w3.cell? ⟨w.heap.size, 2, none⟩ = some (.int .i64 mi) := by rw [hw3, World.cell?_alloc_lt _ _ _ (by simp; omega), hcell2 _ (by simp; omega), hbel.cell (by simp)]; simp
    have q3 : w3.cell? ⟨w.heap.size, 3, none⟩ = some (.int .i64 ma) := by rw [hw3, World.cell?_alloc_lt _ _ _ (by simp; omega), hcell2 _ (by simp; omega), hbel.cell (by simp)]; simp
    have g0 : w3.cell? ⟨g, 0, none⟩ = some (.int .i64 (hiW (mi + ma))) := by rw [hw3, World.cell?_alloc_lt _ _ _ (by simp; omega), hcell2 _ (by simp; omega)]; exact hc0
    have g1 : w3.cell? ⟨g, 1, none⟩ = some (.int .u64 (loW (mi + ma))) := by rw [hw3, World.cell?_alloc_lt _ _ _ (by simp; omega), hcell2 _ (by simp; omega)]; exact hc1
    have s0 : w3.cell? ⟨w2.heap.size, 0, none⟩ = some (.int .i64 (hiW s)) := by rw [hw3]; simp
    have s1 : w3.cell? ⟨w2.heap.size, 1, none⟩ = some (.int .u64 (loW s)) := by rw [hw3]; simp
    have z3 : w3.heap.size = w2.heap.size + 1 := by rw [hw3]; simp
    have l0 : w.heap.size < w3.heap.size := by omega
    have l1 : g < w3.heap.size := by omega
    have l2 : w2.heap.size < w3.heap.size := by omega
    have HB := Lib.hid (show Below w.heap.size w w3 from (((Below.refl _ _).alloc (Nat.le_refl _) _).trans (hbel.mono (by omega))).trans (((hb2.mono (by omega)).trans (by rw [hw3]; exact (Below.refl _ _).alloc (by omega) _))))
    clear hcell2 hw3 hc0 hc1 hb2 hbel hce hfr hsz z3 z2
    have hwr : IntKind.i64.wrap (c - 2) = c - 2 := by rw [IntKind.wrap_i64]; omega
    by_cases hd : mi + ma + (c - 2) * mi ≤ s
    · have hd1 : decide (mi + ma + (c - 2) * mi ≤ s) = true := decide_eq_true hd
      clear hd
      refine wp_region_heldq (B := w3.heap.size) (w1 := w3) (by kernel_rfl) (by kernel_rfl) (Held.of (Below.refl _ _).drew (Nat.le_refl _)) ?_
      repeat
        (with_reducible refine wpQuiet_step (fun K hK => ?_))
        first
          | ((with_reducible refine ite_pos_ ?_ ?_); (focus (go_simp; done)); apply Exists.intro; refine ⟨fun wz hzC => ?_, hK _ ?_⟩; (have hz := HeldC.out hzC; clear hzC; unfold Oper.quietAt; go_simp; (first | done | (first | (go_at_call 42; (with_reducible refine (product_any _ _ hc2 ?_ ?_ _).mono ?_); (assumption); (omega); rintro e w' ⟨rfl, hb⟩; exact ⟨rfl, HeldC.step hz hb⟩) | (go_at_call 43; (first | (with_reducible refine (plus_any _ _ hp2 _).mono ?_) | (with_reducible refine (plus_any _ _ hp3 _).mono ?_)); rintro e w' ⟨rfl, hb⟩; exact ⟨rfl, HeldC.step hz hb⟩) | (go_at_call 44; (with_reducible refine (upto_any _ _ _).mono ?_); rintro e w' ⟨rfl, hb⟩; exact ⟨rfl, HeldC.step hz hb⟩)) | (with_reducible rfl))); clear hK K; (try simp only [Act.put, List.setIfInBounds_toArray, List.set_cons_zero, List.set_cons_succ]))
          | ((with_reducible refine ite_neg_ ?_ ?_); (focus (go_simp; done)); refine hK _ ?_; clear hK K; (try simp only [Act.put, List.setIfInBounds_toArray, List.set_cons_zero, List.set_cons_succ]))
      (with_reducible refine wpQuiet_nil ?_)
      intro wz hz
      go_wp2
      go_ret
      rw [hd1, Bool.true_and]
      exact ⟨rfl, HB.out.trans (hz.2.2.2.mono (by omega))⟩
    · have hd1 : decide (mi + ma + (c - 2) * mi ≤ s) = false := decide_eq_false hd
      clear hd
      refine wp_region_heldq (B := w3.heap.size) (w1 := w3) (by kernel_rfl) (by kernel_rfl) (Held.of (Below.refl _ _).drew (Nat.le_refl _)) ?_
      repeat
        (with_reducible refine wpQuiet_step (fun K hK => ?_))
        first
          | ((with_reducible refine ite_pos_ ?_ ?_); (focus (go_simp; done)); apply Exists.intro; refine ⟨fun wz hzC => ?_, hK _ ?_⟩; (have hz := HeldC.out hzC; clear hzC; unfold Oper.quietAt; go_simp; (first | done | (first | (go_at_call 42; (with_reducible refine (product_any _ _ hc2 ?_ ?_ _).mono ?_); (assumption); (omega); rintro e w' ⟨rfl, hb⟩; exact ⟨rfl, HeldC.step hz hb⟩) | (go_at_call 43; (first | (with_reducible refine (plus_any _ _ hp2 _).mono ?_) | (with_reducible refine (plus_any _ _ hp3 _).mono ?_)); rintro e w' ⟨rfl, hb⟩; exact ⟨rfl, HeldC.step hz hb⟩) | (go_at_call 44; (with_reducible refine (upto_any _ _ _).mono ?_); rintro e w' ⟨rfl, hb⟩; exact ⟨rfl, HeldC.step hz hb⟩)) | (with_reducible rfl))); clear hK K; (try simp only [Act.put, List.setIfInBounds_toArray, List.set_cons_zero, List.set_cons_succ]))
          | ((with_reducible refine ite_neg_ ?_ ?_); (focus (go_simp; done)); refine hK _ ?_; clear hK K; (try simp only [Act.put, List.setIfInBounds_toArray, List.set_cons_zero, List.set_cons_succ]))
      (with_reducible refine wpQuiet_nil ?_)
      intro wz hz
      go_wp2
      go_ret
      rw [hd1, Bool.false_and]
      exact ⟨rfl, HB.out.trans (hz.2.2.2.mono (by omega))⟩

theorem right_any (c s mi ma : Int) (hc : I64 c) (hs : I64 s) (hmi : I64 mi) (hma : I64 ma) (w : World) :
    Calls Tryd.prog 29 #[AG c s mi ma] w fun e w' => e = .returned (.bool (rightB c s mi ma)) ∧ Below w.heap.size w w' := by
  by_cases h0 : c ≤ 0
  · by_cases hz : c = 0 ∧ s = 0 ∧ mi = 0 ∧ ma = 0
    · obtain ⟨rfl, rfl, rfl, rfl⟩ := hz
      rw [rightB_eq (b := true) (by simp [RightP])]
      clear hc hs hmi hma h0
      go_enter Tryd.func29, Tryd.ntmps29
      go_wp2
      go_ret
      exact ⟨rfl, (Below.refl _ _).alloc (Nat.le_refl _) _⟩
    · have hr : rightB c s mi ma = false := rightB_eq (by simp [RightP]; omega)
      rw [hr]
      go_enter Tryd.func29, Tryd.ntmps29
      go_wp2
      all_goals
        go_ret
        exact ⟨rfl, (Below.refl _ _).alloc (Nat.le_refl _) _⟩
  · by_cases h1 : c = 1
    · subst h1
      by_cases e1 : mi = s
      · subst e1
        have hr : rightB 1 mi mi ma = (ma == mi) := rightB_eq (by simp [RightP])
        rw [hr]
        go_enter Tryd.func29, Tryd.ntmps29
        go_wp2
        go_ret
        exact ⟨rfl, (Below.refl _ _).alloc (Nat.le_refl _) _⟩
      · have hr : rightB 1 s mi ma = false := rightB_eq (by simp [RightP]; omega)
        have hb : (mi == s) = false := by simpa using e1
        rw [hr]
        go_enter Tryd.func29, Tryd.ntmps29
        go_wp2
        go_ret
        exact ⟨rfl, (Below.refl _ _).alloc (Nat.le_refl _) _⟩
    · by_cases hlt : ma < mi
      · have hr : rightB c s mi ma = false := rightB_eq (by simp [RightP]; omega)
        rw [hr]
        have z1 : (c == 1) = false := by simpa using h1
        clear h1
        go_enter Tryd.func29, Tryd.ntmps29
        go_wp2
        go_ret
        exact ⟨rfl, (Below.refl _ _).alloc (Nat.le_refl _) _⟩
      · have hr : rightB c s mi ma = (decide (mi + ma + (c - 2) * mi ≤ s) && decide (s ≤ mi + ma + (c - 2) * ma)) := rightB_eq (by simp [RightP]; omega)
        rw [hr]
        exact right_two c s mi ma hc hs hmi hma (by omega) (by omega) w
end Go.Proofs.YtikacbfpeegcdaaDoor
