/- The reference's Right: the walk. -/
import Derived.Test.YtikacbfpeegcdaaAggE
namespace Go.Proofs.Ytikacbfpeegcdaa
open Go.RowKit Go.Shelf

/-- The four cells of an aggregate's variable; the three of a wide number's. -/
def A4 (w : World) (g : Nat) (c s mi ma : Int) : Prop :=
  g < w.heap.size ∧ w.cell? ⟨g, 0, none⟩ = some (.int .i64 c) ∧ w.cell? ⟨g, 1, none⟩ = some (.int .i64 s) ∧ w.cell? ⟨g, 2, none⟩ = some (.int .i64 mi) ∧ w.cell? ⟨g, 3, none⟩ = some (.int .i64 ma)
def W3 (w : World) (g : Nat) (x : Int) : Prop :=
  g < w.heap.size ∧ w.cell? ⟨g, 0, none⟩ = some (.bool (neR x)) ∧ w.cell? ⟨g, 1, none⟩ = some (.int .u64 (hiR x)) ∧ w.cell? ⟨g, 2, none⟩ = some (.int .u64 (loR x))
theorem A4.held {W w' : World} {g : Nat} {c s mi ma : Int} (h : A4 W g c s mi ma) (hh : Held W.heap.size W w') : A4 w' g c s mi ma :=
  ⟨Nat.lt_of_lt_of_le h.1 hh.2.2.1, (hh.1 _ _ h.1).trans h.2.1, (hh.1 _ _ h.1).trans h.2.2.1, (hh.1 _ _ h.1).trans h.2.2.2.1, (hh.1 _ _ h.1).trans h.2.2.2.2⟩
theorem W3.held {W w' : World} {g : Nat} {x : Int} (h : W3 W g x) (hh : Held W.heap.size W w') : W3 w' g x :=
  ⟨Nat.lt_of_lt_of_le h.1 hh.2.2.1, (hh.1 _ _ h.1).trans h.2.1, (hh.1 _ _ h.1).trans h.2.2.1, (hh.1 _ _ h.1).trans h.2.2.2⟩

theorem sz_fits (c m x y : Int) (hc : I64 c) (hm : I64 m) (hx : I64 x) (hy : I64 y) (h2 : 2 ≤ c) : sz (x + y) + sz ((c - 2) * m) < 340282366920938463463374607431768211456 := by
  obtain ⟨_, c2⟩ := hc; obtain ⟨m1, m2⟩ := hm; obtain ⟨x1, x2⟩ := hx; obtain ⟨y1, y2⟩ := hy
  have b1 : (c - 2) * (-9223372036854775808) ≤ (c - 2) * m := Int.mul_le_mul_of_nonneg_left m1 (by omega)
  have b2 : (c - 2) * m ≤ (c - 2) * 9223372036854775807 := Int.mul_le_mul_of_nonneg_left m2 (by omega)
  unfold sz
  omega

/-- A sum that fits 128 bits (the great number behind a name). -/
def Fits (x y : Int) : Prop := True ∧ sz x + sz y < 340282366920938463463374607431768211456
theorem plus_fit (x y : Int) (hf : Fits x y) (w : World) : Calls Try.prog 34 #[wideR x, wideR y] w fun e w' => e = .returned (wideR (x + y)) ∧ Below w.heap.size w w' := Plus_any x y hf.2 w

set_option maxHeartbeats 4000000 in
set_option maxRecDepth 100000 in
theorem ref_two (c s mi ma : Int) (hc : I64 c) (hs : I64 s) (hmi : I64 mi) (hma : I64 ma) (h2 : 2 ≤ c) (hlt : mi ≤ ma) (w : World) :
    Calls Try.prog 13 #[AG c s mi ma] w fun e w' => e = .returned (.bool (decide (mi + ma + (c - 2) * mi ≤ s) && decide (s ≤ mi + ma + (c - 2) * ma))) ∧ Below w.heap.size w w' := by
  have Q1 : Fits mi ma := by refine ⟨trivial, ?_⟩; obtain ⟨_, _⟩ := hmi; obtain ⟨_, _⟩ := hma; unfold sz; omega
  have Q2 : Fits (mi + ma) ((c - 2) * mi) := ⟨trivial, sz_fits c mi mi ma hc hmi hmi hma h2⟩
  have Q3 : Fits (mi + ma) ((c - 2) * ma) := ⟨trivial, sz_fits c ma mi ma hc hma hmi hma h2⟩
  have hc2 : I64 (c - 2) := by obtain ⟨_, _⟩ := hc; exact ⟨by omega, by omega⟩
  have z1 : (c == 1) = false := by simp; omega
  have c1 := hc.2
  go_enter Try.func13, Try.ntmps13
  go_wp2
  have hwr : IntKind.i64.wrap (c - 2) = c - 2 := by rw [IntKind.wrap_i64]; omega
  obtain ⟨w1, hw1⟩ : ∃ w1, w1 = w.alloc (.cells #[.int .i64 c, .int .i64 s, .int .i64 mi, .int .i64 ma] 26) := ⟨_, rfl⟩
  rw [← hw1]
  have A1 : A4 w1 w.heap.size c s mi ma := by rw [hw1]; exact ⟨by simp, by simp, by simp, by simp, by simp⟩
  have H1 := Lib.hid (show Below w.heap.size w w1 by rw [hw1]; exact (Below.refl _ _).alloc (Nat.le_refl _) _)
  have l1 : w.heap.size < w1.heap.size := A1.1
  clear hw1
  have AH := Lib.hid A1
  obtain ⟨_, a0, a1, a2, a3⟩ := A1
  go_cut [3] (fun v3 w' => ∃ g, v3 = .pointer (some ⟨g, 0, none⟩) ∧ Below w.heap.size w w' ∧ A4 w' w.heap.size c s mi ma ∧ W3 w' g (mi + ma))
  case first =>
    go_region_held3 (fun w' => Held w1.heap.size w1 w') ((first | assumption | exact Held.of (Below.refl _ _).drew (Nat.le_refl _) | exact Held.alloc (by assumption) _ | (refine Held.set_ (Held.set_ (Held.set_ (by assumption) ?_ _) ?_ _) ?_ _ <;> (first | omega | (simp; done) | (simp; omega))))) (first | (go_at_call 35; (with_reducible refine (one_any _ ?_ _).mono ?_); (assumption); rintro e w' ⟨rfl, hb⟩; have hq := Lib.hid (Held.step (by assumption) hb); have hz := hb.size; (try simp at hz); (try (have kb := Blk.made hb; have k0 := kb.cell 0; have k1 := kb.cell 1; have k2 := kb.cell 2; have kf := fun i => kb.frozen i; (try simp at k0); (try simp at k1); (try simp at k2); (try simp at kf))); (try (have kb := Blk.madeD hb; have k0 := kb.cell 0; have k1 := kb.cell 1; have k2 := kb.cell 2; have kf := fun i => kb.frozen i; (try simp at k0); (try simp at k1); (try simp at k2); (try simp at kf))); (try (have kb := Blk.kept (t := 60) (by assumption) hb; have k0 := kb.cell 0; have k1 := kb.cell 1; have k2 := kb.cell 2; have kf := fun i => kb.frozen i; (try simp at k0); (try simp at k1); (try simp at k2); (try simp at kf)))) | (go_at_call 34; (with_reducible refine (plus_fit _ _ Q1 _).mono ?_); rintro e w' ⟨rfl, hb⟩; have hq := Lib.hid (Held.step (by assumption) hb); have hz := hb.size; (try simp at hz); (try (have kb := Blk.made hb; have k0 := kb.cell 0; have k1 := kb.cell 1; have k2 := kb.cell 2; have kf := fun i => kb.frozen i; (try simp at k0); (try simp at k1); (try simp at k2); (try simp at kf))); (try (have kb := Blk.madeD hb; have k0 := kb.cell 0; have k1 := kb.cell 1; have k2 := kb.cell 2; have kf := fun i => kb.frozen i; (try simp at k0); (try simp at k1); (try simp at k2); (try simp at kf))); (try (have kb := Blk.kept (t := 60) (by assumption) hb; have k0 := kb.cell 0; have k1 := kb.cell 1; have k2 := kb.cell 2; have kf := fun i => kb.frozen i; (try simp at k0); (try simp at k1); (try simp at k2); (try simp at kf)))))
    all_goals
      go_wp2
      go_meet
      case rel => exact ⟨_, rfl, H1.out.trans ((by assumption : Held w1.heap.size w1 _).2.2.2.mono (by omega)), AH.out.held (by assumption), ⟨by (first | (simp; done) | (simp; omega)), by go_simp, by go_simp, by go_simp⟩⟩
  case rest =>
  obtain ⟨g3, rfl, hbel, A2, V3⟩ := hcut
  clear AH a0 a1 a2 a3
  have H2 := Lib.hid hbel
  have l2 : w.heap.size < wc.heap.size := A2.1
  clear hbel H1 l1
  obtain ⟨wk1, rfl⟩ : ∃ W, W = wc := ⟨_, rfl⟩
  have AH := Lib.hid A2
  obtain ⟨_, a0, a1, a2, a3⟩ := A2
  have V3H := Lib.hid V3
  obtain ⟨n3, p30, p31, p32⟩ := V3
  go_wp2
  go_cut [4] (fun v4 w' => ∃ g, v4 = .pointer (some ⟨g, 0, none⟩) ∧ Below w.heap.size w w' ∧ A4 w' w.heap.size c s mi ma ∧ W3 w' g (mi + ma + (c - 2) * mi) ∧ W3 w' g3 (mi + ma))
  case first =>
    go_region_held3 (fun w' => Held wk1.heap.size wk1 w') ((first | assumption | exact Held.of (Below.refl _ _).drew (Nat.le_refl _) | exact Held.alloc (by assumption) _ | (refine Held.set_ (Held.set_ (Held.set_ (by assumption) ?_ _) ?_ _) ?_ _ <;> (first | omega | (simp; done) | (simp; omega))))) (first | (go_at_call 36; (with_reducible refine (times_any _ _ hc2 ?_ _).mono ?_); (assumption); rintro e w' ⟨rfl, hb⟩; have hq := Lib.hid (Held.step (by assumption) hb); have hz := hb.size; (try simp at hz); (try (have kb := Blk.made hb; have k0 := kb.cell 0; have k1 := kb.cell 1; have k2 := kb.cell 2; have kf := fun i => kb.frozen i; (try simp at k0); (try simp at k1); (try simp at k2); (try simp at kf))); (try (have kb := Blk.madeD hb; have k0 := kb.cell 0; have k1 := kb.cell 1; have k2 := kb.cell 2; have kf := fun i => kb.frozen i; (try simp at k0); (try simp at k1); (try simp at k2); (try simp at kf))); (try (have kb := Blk.kept (t := 60) (by assumption) hb; have k0 := kb.cell 0; have k1 := kb.cell 1; have k2 := kb.cell 2; have kf := fun i => kb.frozen i; (try simp at k0); (try simp at k1); (try simp at k2); (try simp at kf)))) | (go_at_call 34; (with_reducible refine (plus_fit _ _ Q2 _).mono ?_); rintro e w' ⟨rfl, hb⟩; have hq := Lib.hid (Held.step (by assumption) hb); have hz := hb.size; (try simp at hz); (try (have kb := Blk.made hb; have k0 := kb.cell 0; have k1 := kb.cell 1; have k2 := kb.cell 2; have kf := fun i => kb.frozen i; (try simp at k0); (try simp at k1); (try simp at k2); (try simp at kf))); (try (have kb := Blk.madeD hb; have k0 := kb.cell 0; have k1 := kb.cell 1; have k2 := kb.cell 2; have kf := fun i => kb.frozen i; (try simp at k0); (try simp at k1); (try simp at k2); (try simp at kf))); (try (have kb := Blk.kept (t := 60) (by assumption) hb; have k0 := kb.cell 0; have k1 := kb.cell 1; have k2 := kb.cell 2; have kf := fun i => kb.frozen i; (try simp at k0); (try simp at k1); (try simp at k2); (try simp at kf)))))
    all_goals
      go_wp2
      go_meet
      case rel => exact ⟨_, rfl, H2.out.trans ((by assumption : Held wk1.heap.size wk1 _).2.2.2.mono (by omega)), AH.out.held (by assumption), ⟨by (first | (simp; done) | (simp; omega)), by go_simp, by go_simp, by go_simp⟩, V3H.out.held (by assumption)⟩
  case rest =>
  obtain ⟨g4, rfl, hbel, A3, V4, V3⟩ := hcut
  clear AH a0 a1 a2 a3 V3H p30 p31 p32 n3
  have H3 := Lib.hid hbel
  have l3 : w.heap.size < wc.heap.size := A3.1
  clear hbel H2 l2
  obtain ⟨wk2, rfl⟩ : ∃ W, W = wc := ⟨_, rfl⟩
  have AH := Lib.hid A3
  obtain ⟨_, a0, a1, a2, a3⟩ := A3
  have V3H := Lib.hid V3
  obtain ⟨n3, p30, p31, p32⟩ := V3
  have V4H := Lib.hid V4
  obtain ⟨n4, p40, p41, p42⟩ := V4
  go_wp2
  go_cut [5] (fun v5 w' => ∃ g, v5 = .pointer (some ⟨g, 0, none⟩) ∧ Below w.heap.size w w' ∧ A4 w' w.heap.size c s mi ma ∧ W3 w' g (mi + ma + (c - 2) * ma) ∧ W3 w' g3 (mi + ma) ∧ W3 w' g4 (mi + ma + (c - 2) * mi))
  case first =>
    go_region_held3 (fun w' => Held wk2.heap.size wk2 w') ((first | assumption | exact Held.of (Below.refl _ _).drew (Nat.le_refl _) | exact Held.alloc (by assumption) _ | (refine Held.set_ (Held.set_ (Held.set_ (by assumption) ?_ _) ?_ _) ?_ _ <;> (first | omega | (simp; done) | (simp; omega))))) (first | (go_at_call 36; (with_reducible refine (times_any _ _ hc2 ?_ _).mono ?_); (assumption); rintro e w' ⟨rfl, hb⟩; have hq := Lib.hid (Held.step (by assumption) hb); have hz := hb.size; (try simp at hz); (try (have kb := Blk.made hb; have k0 := kb.cell 0; have k1 := kb.cell 1; have k2 := kb.cell 2; have kf := fun i => kb.frozen i; (try simp at k0); (try simp at k1); (try simp at k2); (try simp at kf))); (try (have kb := Blk.madeD hb; have k0 := kb.cell 0; have k1 := kb.cell 1; have k2 := kb.cell 2; have kf := fun i => kb.frozen i; (try simp at k0); (try simp at k1); (try simp at k2); (try simp at kf))); (try (have kb := Blk.kept (t := 60) (by assumption) hb; have k0 := kb.cell 0; have k1 := kb.cell 1; have k2 := kb.cell 2; have kf := fun i => kb.frozen i; (try simp at k0); (try simp at k1); (try simp at k2); (try simp at kf)))) | (go_at_call 34; (with_reducible refine (plus_fit _ _ Q3 _).mono ?_); rintro e w' ⟨rfl, hb⟩; have hq := Lib.hid (Held.step (by assumption) hb); have hz := hb.size; (try simp at hz); (try (have kb := Blk.made hb; have k0 := kb.cell 0; have k1 := kb.cell 1; have k2 := kb.cell 2; have kf := fun i => kb.frozen i; (try simp at k0); (try simp at k1); (try simp at k2); (try simp at kf))); (try (have kb := Blk.madeD hb; have k0 := kb.cell 0; have k1 := kb.cell 1; have k2 := kb.cell 2; have kf := fun i => kb.frozen i; (try simp at k0); (try simp at k1); (try simp at k2); (try simp at kf))); (try (have kb := Blk.kept (t := 60) (by assumption) hb; have k0 := kb.cell 0; have k1 := kb.cell 1; have k2 := kb.cell 2; have kf := fun i => kb.frozen i; (try simp at k0); (try simp at k1); (try simp at k2); (try simp at kf)))))
    all_goals
      go_wp2
      go_meet
      case rel => exact ⟨_, rfl, H3.out.trans ((by assumption : Held wk2.heap.size wk2 _).2.2.2.mono (by omega)), AH.out.held (by assumption), ⟨by (first | (simp; done) | (simp; omega)), by go_simp, by go_simp, by go_simp⟩, V3H.out.held (by assumption), V4H.out.held (by assumption)⟩
  case rest =>
  obtain ⟨g5, rfl, hbel, A4, V5, V3, V4⟩ := hcut
  clear AH a0 a1 a2 a3 V3H p30 p31 p32 n3 V4H p40 p41 p42 n4
  have H4 := Lib.hid hbel
  have l4 : w.heap.size < wc.heap.size := A4.1
  clear hbel H3 l3
  obtain ⟨wk3, rfl⟩ : ∃ W, W = wc := ⟨_, rfl⟩
  have AH := Lib.hid A4
  obtain ⟨_, a0, a1, a2, a3⟩ := A4
  have V3H := Lib.hid V3
  obtain ⟨n3, p30, p31, p32⟩ := V3
  have V4H := Lib.hid V4
  obtain ⟨n4, p40, p41, p42⟩ := V4
  have V5H := Lib.hid V5
  obtain ⟨n5, p50, p51, p52⟩ := V5
  go_wp2
  by_cases hd : mi + ma + (c - 2) * mi ≤ s
  · have hd1 : decide (mi + ma + (c - 2) * mi ≤ s) = true := decide_eq_true hd
    clear hd
    refine wp_region_heldq (B := wk3.heap.size) (w1 := wk3) (by kernel_rfl) (by kernel_rfl) (Held.of (Below.refl _ _).drew (Nat.le_refl _)) ?_
    repeat
      (with_reducible refine wpQuiet_step (fun K hK => ?_))
      first
        | ((with_reducible refine ite_pos_ ?_ ?_); (focus (go_simp; done)); apply Exists.intro; refine ⟨fun wz hzC => ?_, hK _ ?_⟩; (have hz := HeldC.out hzC; clear hzC; unfold Oper.quietAt; go_simp; (first | done | (first | (go_at_call 35; (with_reducible refine (one_any _ hs _).mono ?_); rintro e w' ⟨rfl, hb⟩; exact ⟨rfl, HeldC.step hz hb⟩) | (go_at_call 37; (with_reducible refine (Less_any _ _ _).mono ?_); rintro e w' ⟨rfl, hb⟩; exact ⟨rfl, HeldC.step hz hb⟩)) | (with_reducible rfl))); clear hK K; (try simp only [Act.put, List.setIfInBounds_toArray, List.set_cons_zero, List.set_cons_succ]))
        | ((with_reducible refine ite_neg_ ?_ ?_); (focus (go_simp; done)); refine hK _ ?_; clear hK K; (try simp only [Act.put, List.setIfInBounds_toArray, List.set_cons_zero, List.set_cons_succ]))
    (with_reducible refine wpQuiet_nil ?_)
    intro wz hz
    go_wp2
    go_ret
    rw [hd1, Bool.true_and]
    exact ⟨rfl, H4.out.trans (hz.2.2.2.mono (by omega))⟩
  · have hd1 : decide (mi + ma + (c - 2) * mi ≤ s) = false := decide_eq_false hd
    clear hd
    refine wp_region_heldq (B := wk3.heap.size) (w1 := wk3) (by kernel_rfl) (by kernel_rfl) (Held.of (Below.refl _ _).drew (Nat.le_refl _)) ?_
    repeat
      (with_reducible refine wpQuiet_step (fun K hK => ?_))
      first
        | ((with_reducible refine ite_pos_ ?_ ?_); (focus (go_simp; done)); apply Exists.intro; refine ⟨fun wz hzC => ?_, hK _ ?_⟩; (have hz := HeldC.out hzC; clear hzC; unfold Oper.quietAt; go_simp; (first | done | (first | (go_at_call 35; (with_reducible refine (one_any _ hs _).mono ?_); rintro e w' ⟨rfl, hb⟩; exact ⟨rfl, HeldC.step hz hb⟩) | (go_at_call 37; (with_reducible refine (Less_any _ _ _).mono ?_); rintro e w' ⟨rfl, hb⟩; exact ⟨rfl, HeldC.step hz hb⟩)) | (with_reducible rfl))); clear hK K; (try simp only [Act.put, List.setIfInBounds_toArray, List.set_cons_zero, List.set_cons_succ]))
        | ((with_reducible refine ite_neg_ ?_ ?_); (focus (go_simp; done)); refine hK _ ?_; clear hK K; (try simp only [Act.put, List.setIfInBounds_toArray, List.set_cons_zero, List.set_cons_succ]))
    (with_reducible refine wpQuiet_nil ?_)
    intro wz hz
    go_wp2
    go_ret
    rw [hd1, Bool.false_and]
    exact ⟨rfl, H4.out.trans (hz.2.2.2.mono (by omega))⟩
end Go.Proofs.Ytikacbfpeegcdaa
