/- The reference's sum and order of its wide numbers: walks. -/
import Derived.Test.YtikacbfpeegcdaaAggD
namespace Go.Proofs.Ytikacbfpeegcdaa
open Go.RowKit Go.Shelf

theorem hl (x : Int) : hiR x * 18446744073709551616 + loR x = sz x := hi_lo _
theorem lo_bd (x : Int) : 0 ≤ loR x ∧ loR x < 18446744073709551616 := loW_bd _

set_option maxHeartbeats 2000000 in
theorem plus_same (x y : Int) (hs : neR x = neR y) (hf : sz x + sz y < 340282366920938463463374607431768211456) (w : World) :
    Calls Try.prog 34 #[wideR x, wideR y] w fun e w' => e = .returned (wideR (x + y)) ∧ Below w.heap.size w w' := by
  have hx := hl x
  have hy := hl y
  obtain ⟨lx0, lx1⟩ := lo_bd x
  obtain ⟨ly0, ly1⟩ := lo_bd y
  have sx : 0 ≤ sz x := by unfold sz; omega
  have sy : 0 ≤ sz y := by unfold sz; omega
  have hx0 : 0 ≤ hiR x := by unfold hiR hiW; omega
  have hy0 : 0 ≤ hiR y := by unfold hiR hiW; omega
  have hxy : sz (x + y) = sz x + sz y := by
    unfold neR at hs; simp only [decide_eq_decide] at hs
    unfold sz; omega
  have hh := hl (x + y)
  have hlo := lo_bd (x + y)
  have hn : neR (x + y) = neR x := by
    unfold neR at hs ⊢; simp only [decide_eq_decide] at hs ⊢
    omega
  have hnz : neR x = true → sz x + sz y ≠ 0 := by
    intro h; unfold neR at h; simp at h; unfold sz; omega
  by_cases hc : loR x + loR y < 18446744073709551616
  · have e1 : hiR (x + y) = hiR x + hiR y := by omega
    have e2 : loR (x + y) = loR x + loR y := by omega
    have b1 : hiR x + hiR y < 18446744073709551616 := by omega
    have hv : wideR (x + y) = .agg #[.bool (neR x), .int .u64 (hiR x + hiR y), .int .u64 (loR x + loR y)] := by
      show Value.agg #[.bool (neR (x + y)), .int .u64 (hiR (x + y)), .int .u64 (loR (x + y))] = _
      rw [hn, e1, e2]
    rw [hv]
    have t1 : decide (loR x + loR y < loR x) = false := by simp; omega
    have hq : (neR x == neR y) = true := by simpa using hs
    show Calls Try.prog 34 #[.agg #[.bool (neR x), .int .u64 (hiR x), .int .u64 (loR x)], .agg #[.bool (neR y), .int .u64 (hiR y), .int .u64 (loR y)]] w _
    rw [← hs]
    by_cases hp : neR x = true
    · have hz := hnz hp
      rw [hp]
      by_cases h0 : hiR x + hiR y = 0
      · have n1 : (hiR x + hiR y != 0) = false := by simpa using h0
        have n2 : (loR x + loR y != 0) = true := by simp; omega
        clear hx hy hxy hh hn hv e1 e2 hnz hs hq hp hz h0
        go_enter Try.func34, Try.ntmps34
        go_wp2
        exact bodyPost_ret (by simp [results, Try.results34, go_sem]) rfl ⟨rfl, (((Below.refl _ _).alloc (Nat.le_refl _) _).alloc (by simp) _).alloc (by simp; omega) _⟩
      · have n1 : (hiR x + hiR y != 0) = true := by simpa using h0
        clear hx hy hxy hh hn hv e1 e2 hnz hs hq hp hz h0
        go_enter Try.func34, Try.ntmps34
        go_wp2
        exact bodyPost_ret (by simp [results, Try.results34, go_sem]) rfl ⟨rfl, (((Below.refl _ _).alloc (Nat.le_refl _) _).alloc (by simp) _).alloc (by simp; omega) _⟩
    · have hp : neR x = false := by simpa using hp
      rw [hp]
      clear hx hy hxy hh hn hv e1 e2 hnz hs hq hp
      go_enter Try.func34, Try.ntmps34
      go_wp2
      exact bodyPost_ret (by simp [results, Try.results34, go_sem]) rfl ⟨rfl, (((Below.refl _ _).alloc (Nat.le_refl _) _).alloc (by simp) _).alloc (by simp; omega) _⟩
  · have e1 : hiR (x + y) = hiR x + hiR y + 1 := by omega
    have e2 : loR (x + y) = loR x + loR y - 18446744073709551616 := by omega
    have b1 : hiR x + hiR y + 1 < 18446744073709551616 := by omega
    have w1 : IntKind.u64.wrap (loR x + loR y) = loR x + loR y - 18446744073709551616 := by rw [IntKind.wrap_u64]; omega
    have hv : wideR (x + y) = .agg #[.bool (neR x), .int .u64 (hiR x + hiR y + 1), .int .u64 (loR x + loR y - 18446744073709551616)] := by
      show Value.agg #[.bool (neR (x + y)), .int .u64 (hiR (x + y)), .int .u64 (loR (x + y))] = _
      rw [hn, e1, e2]
    rw [hv]
    have t1 : decide (loR x + loR y - 18446744073709551616 < loR x) = true := by simp; omega
    have hq : (neR x == neR y) = true := by simpa using hs
    show Calls Try.prog 34 #[.agg #[.bool (neR x), .int .u64 (hiR x), .int .u64 (loR x)], .agg #[.bool (neR y), .int .u64 (hiR y), .int .u64 (loR y)]] w _
    rw [← hs]
    have n1 : (hiR x + hiR y + 1 != 0) = true := by simp; omega
    by_cases hp : neR x = true
    · rw [hp]
      clear hx hy hxy hh hn hv e1 e2 hnz hs hq hp
      go_enter Try.func34, Try.ntmps34
      go_wp2
      exact bodyPost_ret (by simp [results, Try.results34, go_sem]) rfl ⟨rfl, (((Below.refl _ _).alloc (Nat.le_refl _) _).alloc (by simp) _).alloc (by simp; omega) _⟩
    · have hp : neR x = false := by simpa using hp
      rw [hp]
      clear hx hy hxy hh hn hv e1 e2 hnz hs hq hp
      go_enter Try.func34, Try.ntmps34
      go_wp2
      exact bodyPost_ret (by simp [results, Try.results34, go_sem]) rfl ⟨rfl, (((Below.refl _ _).alloc (Nat.le_refl _) _).alloc (by simp) _).alloc (by simp; omega) _⟩

theorem Below.three {B : Nat} {w w2 : World} {g : Nat} (h : Below B w w2) (hg : B ≤ g) (u0 u1 u2 : Value) : Below B w (((w2.setCell ⟨g, 0, none⟩ u0).setCell ⟨g, 1, none⟩ u1).setCell ⟨g, 2, none⟩ u2) :=
  ((h.setCell (p := ⟨g, 0, none⟩) hg u0).setCell (p := ⟨g, 1, none⟩) hg u1).setCell (p := ⟨g, 2, none⟩) hg u2

set_option maxHeartbeats 2000000 in
set_option maxRecDepth 100000 in
theorem plus_sub (x y : Int) (hs : neR x ≠ neR y) (hf : ¬ sz x < sz y) (hf2 : sz x < 340282366920938463463374607431768211456) (w : World) :
    Calls Try.prog 34 #[wideR x, wideR y] w fun e w' => e = .returned (wideR (x + y)) ∧ Below w.heap.size w w' := by
  have hx := hl x
  have hy := hl y
  obtain ⟨lx0, lx1⟩ := lo_bd x
  obtain ⟨ly0, ly1⟩ := lo_bd y
  have sx : 0 ≤ sz x := by unfold sz; omega
  have sy : 0 ≤ sz y := by unfold sz; omega
  have hx0 : 0 ≤ hiR x := by unfold hiR hiW; omega
  have hx1 : hiR x < 18446744073709551616 := by unfold hiR hiW; omega
  have hy0 : 0 ≤ hiR y := by unfold hiR hiW; omega
  have hy1 : hiR y < 18446744073709551616 := by unfold hiR hiW; omega
  have hsg : (x < 0 ∧ ¬ y < 0) ∨ (¬ x < 0 ∧ y < 0) := by
    unfold neR at hs
    by_cases h1 : x < 0 <;> by_cases h2 : y < 0 <;> simp_all
  have hxy : sz (x + y) = sz x - sz y := by unfold sz at hf ⊢; omega
  have hh := hl (x + y)
  have hlo := lo_bd (x + y)
  have hn : neR (x + y) = (neR x && decide (sz x ≠ sz y)) := by
    unfold neR sz at *
    by_cases h1 : x < 0
    · by_cases h3 : (x.natAbs : Int) = (y.natAbs : Int)
      · simp [h1, h3]; omega
      · simp [h1, h3]; omega
    · simp [h1]; omega
  have hq : (neR x == neR y) = false := by simpa using hs
  have C := Lib.hid (fun W => above_any y x (neR y) (neR x) W)
  have hd : decide (sz x < sz y) = false := by simpa using hf
  show Calls Try.prog 34 #[.agg #[.bool (neR x), .int .u64 (hiR x), .int .u64 (loR x)], .agg #[.bool (neR y), .int .u64 (hiR y), .int .u64 (loR y)]] w _
  by_cases hc : loR x < loR y
  · have g1 : hiR y + 1 ≤ hiR x := by omega
    have e1 : hiR (x + y) = hiR x - hiR y - 1 := by omega
    have e2 : loR (x + y) = loR x - loR y + 18446744073709551616 := by omega
    have w1 : IntKind.u64.wrap (loR x - loR y) = loR x - loR y + 18446744073709551616 := by rw [IntKind.wrap_u64]; omega
    have hv : wideR (x + y) = .agg #[.bool (neR x && decide (sz x ≠ sz y)), .int .u64 (hiR x - hiR y - 1), .int .u64 (loR x - loR y + 18446744073709551616)] := by
      show Value.agg #[.bool (neR (x + y)), .int .u64 (hiR (x + y)), .int .u64 (loR (x + y))] = _
      rw [hn, e1, e2]
    rw [hv]
    have n0 : sz x ≠ sz y := by omega
    have n1 : decide (sz x ≠ sz y) = true := by simpa using n0
    rw [n1, Bool.and_true]
    obtain ⟨D, hD⟩ : ∃ D, D = loR x - loR y + 18446744073709551616 := ⟨_, rfl⟩
    rw [← hD] at w1 ⊢
    have n2 : (D != 0) = true := by simp; omega
    have n3 : 0 < D := by omega
    clear hx hy hxy hh hn hv e1 e2 hsg hf hf2 n0 n1 hD
    by_cases hp : neR x = true
    · have hpy : neR y = false := by cases h : neR y <;> simp_all
      have C : RowKit.Hid (∀ W, Calls Try.prog 51 #[.agg #[.bool false, .int .u64 (hiR y), .int .u64 (loR y)], .agg #[.bool true, .int .u64 (hiR x), .int .u64 (loR x)]] W fun e w' => e = .returned (.bool (decide (sz x < sz y))) ∧ Below W.heap.size W w') := Lib.hid (fun W => above_any y x false true W)
      rw [hp, hpy]
      clear hp hpy hq hs
      by_cases h0 : hiR x - hiR y - 1 = 0
      · have n4 : (hiR x - hiR y - 1 != 0) = false := by simpa using h0
        clear h0
        go_enter Try.func34, Try.ntmps34
        go_wp2_with fail
        go_at_call 51; (with_reducible refine (C.out _).mono ?_); rintro e w2 ⟨rfl, hb⟩
        have r := fun (p : Addr) (hp : p.block < w.heap.size + 3) => hb.cell (p := p) (by simp; omega)
        have f := fun (p : Addr) (hp : p.block < w.heap.size + 3) => hb.frozen (p := p) (by simp; omega)
        have a0 : w2.cell? ⟨w.heap.size, 0, none⟩ = some (.bool true) := (r ⟨w.heap.size, 0, none⟩ (by simp)).trans (by go_simp)
        have a1 : w2.cell? ⟨w.heap.size, 1, none⟩ = some (.int .u64 (hiR x)) := (r ⟨w.heap.size, 1, none⟩ (by simp)).trans (by go_simp)
        have a2 : w2.cell? ⟨w.heap.size, 2, none⟩ = some (.int .u64 (loR x)) := (r ⟨w.heap.size, 2, none⟩ (by simp)).trans (by go_simp)
        have b0 : w2.cell? ⟨w.heap.size + 1, 0, none⟩ = some (.bool false) := (r ⟨w.heap.size + 1, 0, none⟩ (by simp)).trans (by go_simp)
        have b1 : w2.cell? ⟨w.heap.size + 1, 1, none⟩ = some (.int .u64 (hiR y)) := (r ⟨w.heap.size + 1, 1, none⟩ (by simp)).trans (by go_simp)
        have b2 : w2.cell? ⟨w.heap.size + 1, 2, none⟩ = some (.int .u64 (loR y)) := (r ⟨w.heap.size + 1, 2, none⟩ (by simp)).trans (by go_simp)
        have d0 : w2.cell? ⟨w.heap.size + 1 + 1, 0, none⟩ = some (.bool false) := (r ⟨w.heap.size + 1 + 1, 0, none⟩ (by simp)).trans (by go_simp)
        have d1 : w2.cell? ⟨w.heap.size + 1 + 1, 1, none⟩ = some (.int .u64 0) := (r ⟨w.heap.size + 1 + 1, 1, none⟩ (by simp)).trans (by go_simp)
        have d2 : w2.cell? ⟨w.heap.size + 1 + 1, 2, none⟩ = some (.int .u64 0) := (r ⟨w.heap.size + 1 + 1, 2, none⟩ (by simp)).trans (by go_simp)
        have z0 : w2.frozen? ⟨w.heap.size + 1 + 1, 0, none⟩ = false := (f ⟨w.heap.size + 1 + 1, 0, none⟩ (by simp)).trans (by go_simp)
        have z1 : w2.frozen? ⟨w.heap.size + 1 + 1, 1, none⟩ = false := (f ⟨w.heap.size + 1 + 1, 1, none⟩ (by simp)).trans (by go_simp)
        have z2 : w2.frozen? ⟨w.heap.size + 1 + 1, 2, none⟩ = false := (f ⟨w.heap.size + 1 + 1, 2, none⟩ (by simp)).trans (by go_simp)
        have HB := Lib.hid (((((Below.refl w.heap.size w).alloc (Nat.le_refl _) _).alloc (by simp) _).alloc (by simp; omega) _).trans (hb.mono (by simp; omega)))
        clear r f hb
        go_wp2
        exact bodyPost_ret (v := .agg #[.bool true, .int .u64 (hiR x - hiR y - 1), .int .u64 (D)]) (by simp [results, Try.results34, go_sem, d0, d1, d2]) rfl ⟨rfl, Below.three HB.out (by omega) _ _ _⟩
      · have n4 : (hiR x - hiR y - 1 != 0) = true := by simpa using h0
        clear h0
        go_enter Try.func34, Try.ntmps34
        go_wp2_with fail
        go_at_call 51; (with_reducible refine (C.out _).mono ?_); rintro e w2 ⟨rfl, hb⟩
        have r := fun (p : Addr) (hp : p.block < w.heap.size + 3) => hb.cell (p := p) (by simp; omega)
        have f := fun (p : Addr) (hp : p.block < w.heap.size + 3) => hb.frozen (p := p) (by simp; omega)
        have a0 : w2.cell? ⟨w.heap.size, 0, none⟩ = some (.bool true) := (r ⟨w.heap.size, 0, none⟩ (by simp)).trans (by go_simp)
        have a1 : w2.cell? ⟨w.heap.size, 1, none⟩ = some (.int .u64 (hiR x)) := (r ⟨w.heap.size, 1, none⟩ (by simp)).trans (by go_simp)
        have a2 : w2.cell? ⟨w.heap.size, 2, none⟩ = some (.int .u64 (loR x)) := (r ⟨w.heap.size, 2, none⟩ (by simp)).trans (by go_simp)
        have b0 : w2.cell? ⟨w.heap.size + 1, 0, none⟩ = some (.bool false) := (r ⟨w.heap.size + 1, 0, none⟩ (by simp)).trans (by go_simp)
        have b1 : w2.cell? ⟨w.heap.size + 1, 1, none⟩ = some (.int .u64 (hiR y)) := (r ⟨w.heap.size + 1, 1, none⟩ (by simp)).trans (by go_simp)
        have b2 : w2.cell? ⟨w.heap.size + 1, 2, none⟩ = some (.int .u64 (loR y)) := (r ⟨w.heap.size + 1, 2, none⟩ (by simp)).trans (by go_simp)
        have d0 : w2.cell? ⟨w.heap.size + 1 + 1, 0, none⟩ = some (.bool false) := (r ⟨w.heap.size + 1 + 1, 0, none⟩ (by simp)).trans (by go_simp)
        have d1 : w2.cell? ⟨w.heap.size + 1 + 1, 1, none⟩ = some (.int .u64 0) := (r ⟨w.heap.size + 1 + 1, 1, none⟩ (by simp)).trans (by go_simp)
        have d2 : w2.cell? ⟨w.heap.size + 1 + 1, 2, none⟩ = some (.int .u64 0) := (r ⟨w.heap.size + 1 + 1, 2, none⟩ (by simp)).trans (by go_simp)
        have z0 : w2.frozen? ⟨w.heap.size + 1 + 1, 0, none⟩ = false := (f ⟨w.heap.size + 1 + 1, 0, none⟩ (by simp)).trans (by go_simp)
        have z1 : w2.frozen? ⟨w.heap.size + 1 + 1, 1, none⟩ = false := (f ⟨w.heap.size + 1 + 1, 1, none⟩ (by simp)).trans (by go_simp)
        have z2 : w2.frozen? ⟨w.heap.size + 1 + 1, 2, none⟩ = false := (f ⟨w.heap.size + 1 + 1, 2, none⟩ (by simp)).trans (by go_simp)
        have HB := Lib.hid (((((Below.refl w.heap.size w).alloc (Nat.le_refl _) _).alloc (by simp) _).alloc (by simp; omega) _).trans (hb.mono (by simp; omega)))
        clear r f hb
        go_wp2
        exact bodyPost_ret (v := .agg #[.bool true, .int .u64 (hiR x - hiR y - 1), .int .u64 (D)]) (by simp [results, Try.results34, go_sem, d0, d1, d2]) rfl ⟨rfl, Below.three HB.out (by omega) _ _ _⟩
    · have hp : neR x = false := by simpa using hp
      have hpy : neR y = true := by cases h : neR y <;> simp_all
      have C : RowKit.Hid (∀ W, Calls Try.prog 51 #[.agg #[.bool true, .int .u64 (hiR y), .int .u64 (loR y)], .agg #[.bool false, .int .u64 (hiR x), .int .u64 (loR x)]] W fun e w' => e = .returned (.bool (decide (sz x < sz y))) ∧ Below W.heap.size W w') := Lib.hid (fun W => above_any y x true false W)
      rw [hp, hpy]
      clear hp hpy hq hs
      go_enter Try.func34, Try.ntmps34
      go_wp2_with fail
      go_at_call 51; (with_reducible refine (C.out _).mono ?_); rintro e w2 ⟨rfl, hb⟩
      have r := fun (p : Addr) (hp : p.block < w.heap.size + 3) => hb.cell (p := p) (by simp; omega)
      have f := fun (p : Addr) (hp : p.block < w.heap.size + 3) => hb.frozen (p := p) (by simp; omega)
      have a0 : w2.cell? ⟨w.heap.size, 0, none⟩ = some (.bool false) := (r ⟨w.heap.size, 0, none⟩ (by simp)).trans (by go_simp)
      have a1 : w2.cell? ⟨w.heap.size, 1, none⟩ = some (.int .u64 (hiR x)) := (r ⟨w.heap.size, 1, none⟩ (by simp)).trans (by go_simp)
      have a2 : w2.cell? ⟨w.heap.size, 2, none⟩ = some (.int .u64 (loR x)) := (r ⟨w.heap.size, 2, none⟩ (by simp)).trans (by go_simp)
      have b0 : w2.cell? ⟨w.heap.size + 1, 0, none⟩ = some (.bool true) := (r ⟨w.heap.size + 1, 0, none⟩ (by simp)).trans (by go_simp)
      have b1 : w2.cell? ⟨w.heap.size + 1, 1, none⟩ = some (.int .u64 (hiR y)) := (r ⟨w.heap.size + 1, 1, none⟩ (by simp)).trans (by go_simp)
      have b2 : w2.cell? ⟨w.heap.size + 1, 2, none⟩ = some (.int .u64 (loR y)) := (r ⟨w.heap.size + 1, 2, none⟩ (by simp)).trans (by go_simp)
      have d0 : w2.cell? ⟨w.heap.size + 1 + 1, 0, none⟩ = some (.bool false) := (r ⟨w.heap.size + 1 + 1, 0, none⟩ (by simp)).trans (by go_simp)
      have d1 : w2.cell? ⟨w.heap.size + 1 + 1, 1, none⟩ = some (.int .u64 0) := (r ⟨w.heap.size + 1 + 1, 1, none⟩ (by simp)).trans (by go_simp)
      have d2 : w2.cell? ⟨w.heap.size + 1 + 1, 2, none⟩ = some (.int .u64 0) := (r ⟨w.heap.size + 1 + 1, 2, none⟩ (by simp)).trans (by go_simp)
      have z0 : w2.frozen? ⟨w.heap.size + 1 + 1, 0, none⟩ = false := (f ⟨w.heap.size + 1 + 1, 0, none⟩ (by simp)).trans (by go_simp)
      have z1 : w2.frozen? ⟨w.heap.size + 1 + 1, 1, none⟩ = false := (f ⟨w.heap.size + 1 + 1, 1, none⟩ (by simp)).trans (by go_simp)
      have z2 : w2.frozen? ⟨w.heap.size + 1 + 1, 2, none⟩ = false := (f ⟨w.heap.size + 1 + 1, 2, none⟩ (by simp)).trans (by go_simp)
      have HB := Lib.hid (((((Below.refl w.heap.size w).alloc (Nat.le_refl _) _).alloc (by simp) _).alloc (by simp; omega) _).trans (hb.mono (by simp; omega)))
      clear r f hb
      go_wp2
      exact bodyPost_ret (v := .agg #[.bool false, .int .u64 (hiR x - hiR y - 1), .int .u64 (D)]) (by simp [results, Try.results34, go_sem, d0, d1, d2]) rfl ⟨rfl, Below.three HB.out (by omega) _ _ _⟩
  · have g1 : hiR y ≤ hiR x := by omega
    have g2 : loR y ≤ loR x := by omega
    have e1 : hiR (x + y) = hiR x - hiR y := by omega
    have e2 : loR (x + y) = loR x - loR y := by omega
    have e3 : sz x = sz y ↔ (hiR x - hiR y = 0 ∧ loR x - loR y = 0) := by omega
    have hv : wideR (x + y) = .agg #[.bool (neR x && decide (sz x ≠ sz y)), .int .u64 (hiR x - hiR y), .int .u64 (loR x - loR y)] := by
      show Value.agg #[.bool (neR (x + y)), .int .u64 (hiR (x + y)), .int .u64 (loR (x + y))] = _
      rw [hn, e1, e2]
    rw [hv]
    have t1 : decide (loR x < loR y) = false := by simp; omega
    clear hx hy hxy hh hn hv e1 e2 hsg hf hf2 hlo
    by_cases hp : neR x = true
    · have hpy : neR y = false := by cases h : neR y <;> simp_all
      have C : RowKit.Hid (∀ W, Calls Try.prog 51 #[.agg #[.bool false, .int .u64 (hiR y), .int .u64 (loR y)], .agg #[.bool true, .int .u64 (hiR x), .int .u64 (loR x)]] W fun e w' => e = .returned (.bool (decide (sz x < sz y))) ∧ Below W.heap.size W w') := Lib.hid (fun W => above_any y x false true W)
      rw [hp, hpy]
      clear hp hpy hq hs
      by_cases h0 : hiR x - hiR y = 0
      · have n4 : (hiR x - hiR y != 0) = false := by simpa using h0
        by_cases h1 : loR x - loR y = 0
        · have n5 : (loR x - loR y != 0) = false := by simpa using h1
          have n6 : (true && decide (sz x ≠ sz y)) = false := by simp; exact e3.2 ⟨h0, h1⟩
          rw [n6]
          clear h0 h1 n6 e3
          go_enter Try.func34, Try.ntmps34
          go_wp2_with fail
          go_at_call 51; (with_reducible refine (C.out _).mono ?_); rintro e w2 ⟨rfl, hb⟩
          have r := fun (p : Addr) (hp : p.block < w.heap.size + 3) => hb.cell (p := p) (by simp; omega)
          have f := fun (p : Addr) (hp : p.block < w.heap.size + 3) => hb.frozen (p := p) (by simp; omega)
          have a0 : w2.cell? ⟨w.heap.size, 0, none⟩ = some (.bool true) := (r ⟨w.heap.size, 0, none⟩ (by simp)).trans (by go_simp)
          have a1 : w2.cell? ⟨w.heap.size, 1, none⟩ = some (.int .u64 (hiR x)) := (r ⟨w.heap.size, 1, none⟩ (by simp)).trans (by go_simp)
          have a2 : w2.cell? ⟨w.heap.size, 2, none⟩ = some (.int .u64 (loR x)) := (r ⟨w.heap.size, 2, none⟩ (by simp)).trans (by go_simp)
          have b0 : w2.cell? ⟨w.heap.size + 1, 0, none⟩ = some (.bool false) := (r ⟨w.heap.size + 1, 0, none⟩ (by simp)).trans (by go_simp)
          have b1 : w2.cell? ⟨w.heap.size + 1, 1, none⟩ = some (.int .u64 (hiR y)) := (r ⟨w.heap.size + 1, 1, none⟩ (by simp)).trans (by go_simp)
          have b2 : w2.cell? ⟨w.heap.size + 1, 2, none⟩ = some (.int .u64 (loR y)) := (r ⟨w.heap.size + 1, 2, none⟩ (by simp)).trans (by go_simp)
          have d0 : w2.cell? ⟨w.heap.size + 1 + 1, 0, none⟩ = some (.bool false) := (r ⟨w.heap.size + 1 + 1, 0, none⟩ (by simp)).trans (by go_simp)
          have d1 : w2.cell? ⟨w.heap.size + 1 + 1, 1, none⟩ = some (.int .u64 0) := (r ⟨w.heap.size + 1 + 1, 1, none⟩ (by simp)).trans (by go_simp)
          have d2 : w2.cell? ⟨w.heap.size + 1 + 1, 2, none⟩ = some (.int .u64 0) := (r ⟨w.heap.size + 1 + 1, 2, none⟩ (by simp)).trans (by go_simp)
          have z0 : w2.frozen? ⟨w.heap.size + 1 + 1, 0, none⟩ = false := (f ⟨w.heap.size + 1 + 1, 0, none⟩ (by simp)).trans (by go_simp)
          have z1 : w2.frozen? ⟨w.heap.size + 1 + 1, 1, none⟩ = false := (f ⟨w.heap.size + 1 + 1, 1, none⟩ (by simp)).trans (by go_simp)
          have z2 : w2.frozen? ⟨w.heap.size + 1 + 1, 2, none⟩ = false := (f ⟨w.heap.size + 1 + 1, 2, none⟩ (by simp)).trans (by go_simp)
          have HB := Lib.hid (((((Below.refl w.heap.size w).alloc (Nat.le_refl _) _).alloc (by simp) _).alloc (by simp; omega) _).trans (hb.mono (by simp; omega)))
          clear r f hb
          go_wp2
          exact bodyPost_ret (v := .agg #[.bool false, .int .u64 (hiR x - hiR y), .int .u64 (loR x - loR y)]) (by simp [results, Try.results34, go_sem, d0, d1, d2]) rfl ⟨rfl, Below.three HB.out (by omega) _ _ _⟩
        · have n5 : (loR x - loR y != 0) = true := by simpa using h1
          have n6 : (true && decide (sz x ≠ sz y)) = true := by simp; exact fun h => h1 (e3.1 h).2
          rw [n6]
          clear h0 h1 n6 e3
          go_enter Try.func34, Try.ntmps34
          go_wp2_with fail
          go_at_call 51; (with_reducible refine (C.out _).mono ?_); rintro e w2 ⟨rfl, hb⟩
          have r := fun (p : Addr) (hp : p.block < w.heap.size + 3) => hb.cell (p := p) (by simp; omega)
          have f := fun (p : Addr) (hp : p.block < w.heap.size + 3) => hb.frozen (p := p) (by simp; omega)
          have a0 : w2.cell? ⟨w.heap.size, 0, none⟩ = some (.bool true) := (r ⟨w.heap.size, 0, none⟩ (by simp)).trans (by go_simp)
          have a1 : w2.cell? ⟨w.heap.size, 1, none⟩ = some (.int .u64 (hiR x)) := (r ⟨w.heap.size, 1, none⟩ (by simp)).trans (by go_simp)
          have a2 : w2.cell? ⟨w.heap.size, 2, none⟩ = some (.int .u64 (loR x)) := (r ⟨w.heap.size, 2, none⟩ (by simp)).trans (by go_simp)
          have b0 : w2.cell? ⟨w.heap.size + 1, 0, none⟩ = some (.bool false) := (r ⟨w.heap.size + 1, 0, none⟩ (by simp)).trans (by go_simp)
          have b1 : w2.cell? ⟨w.heap.size + 1, 1, none⟩ = some (.int .u64 (hiR y)) := (r ⟨w.heap.size + 1, 1, none⟩ (by simp)).trans (by go_simp)
          have b2 : w2.cell? ⟨w.heap.size + 1, 2, none⟩ = some (.int .u64 (loR y)) := (r ⟨w.heap.size + 1, 2, none⟩ (by simp)).trans (by go_simp)
          have d0 : w2.cell? ⟨w.heap.size + 1 + 1, 0, none⟩ = some (.bool false) := (r ⟨w.heap.size + 1 + 1, 0, none⟩ (by simp)).trans (by go_simp)
          have d1 : w2.cell? ⟨w.heap.size + 1 + 1, 1, none⟩ = some (.int .u64 0) := (r ⟨w.heap.size + 1 + 1, 1, none⟩ (by simp)).trans (by go_simp)
          have d2 : w2.cell? ⟨w.heap.size + 1 + 1, 2, none⟩ = some (.int .u64 0) := (r ⟨w.heap.size + 1 + 1, 2, none⟩ (by simp)).trans (by go_simp)
          have z0 : w2.frozen? ⟨w.heap.size + 1 + 1, 0, none⟩ = false := (f ⟨w.heap.size + 1 + 1, 0, none⟩ (by simp)).trans (by go_simp)
          have z1 : w2.frozen? ⟨w.heap.size + 1 + 1, 1, none⟩ = false := (f ⟨w.heap.size + 1 + 1, 1, none⟩ (by simp)).trans (by go_simp)
          have z2 : w2.frozen? ⟨w.heap.size + 1 + 1, 2, none⟩ = false := (f ⟨w.heap.size + 1 + 1, 2, none⟩ (by simp)).trans (by go_simp)
          have HB := Lib.hid (((((Below.refl w.heap.size w).alloc (Nat.le_refl _) _).alloc (by simp) _).alloc (by simp; omega) _).trans (hb.mono (by simp; omega)))
          clear r f hb
          go_wp2
          exact bodyPost_ret (v := .agg #[.bool true, .int .u64 (hiR x - hiR y), .int .u64 (loR x - loR y)]) (by simp [results, Try.results34, go_sem, d0, d1, d2]) rfl ⟨rfl, Below.three HB.out (by omega) _ _ _⟩
      · have n4 : (hiR x - hiR y != 0) = true := by simpa using h0
        have n6 : (true && decide (sz x ≠ sz y)) = true := by simp; exact fun h => h0 (e3.1 h).1
        rw [n6]
        clear h0 n6 e3
        go_enter Try.func34, Try.ntmps34
        go_wp2_with fail
        go_at_call 51; (with_reducible refine (C.out _).mono ?_); rintro e w2 ⟨rfl, hb⟩
        have r := fun (p : Addr) (hp : p.block < w.heap.size + 3) => hb.cell (p := p) (by simp; omega)
        have f := fun (p : Addr) (hp : p.block < w.heap.size + 3) => hb.frozen (p := p) (by simp; omega)
        have a0 : w2.cell? ⟨w.heap.size, 0, none⟩ = some (.bool true) := (r ⟨w.heap.size, 0, none⟩ (by simp)).trans (by go_simp)
        have a1 : w2.cell? ⟨w.heap.size, 1, none⟩ = some (.int .u64 (hiR x)) := (r ⟨w.heap.size, 1, none⟩ (by simp)).trans (by go_simp)
        have a2 : w2.cell? ⟨w.heap.size, 2, none⟩ = some (.int .u64 (loR x)) := (r ⟨w.heap.size, 2, none⟩ (by simp)).trans (by go_simp)
        have b0 : w2.cell? ⟨w.heap.size + 1, 0, none⟩ = some (.bool false) := (r ⟨w.heap.size + 1, 0, none⟩ (by simp)).trans (by go_simp)
        have b1 : w2.cell? ⟨w.heap.size + 1, 1, none⟩ = some (.int .u64 (hiR y)) := (r ⟨w.heap.size + 1, 1, none⟩ (by simp)).trans (by go_simp)
        have b2 : w2.cell? ⟨w.heap.size + 1, 2, none⟩ = some (.int .u64 (loR y)) := (r ⟨w.heap.size + 1, 2, none⟩ (by simp)).trans (by go_simp)
        have d0 : w2.cell? ⟨w.heap.size + 1 + 1, 0, none⟩ = some (.bool false) := (r ⟨w.heap.size + 1 + 1, 0, none⟩ (by simp)).trans (by go_simp)
        have d1 : w2.cell? ⟨w.heap.size + 1 + 1, 1, none⟩ = some (.int .u64 0) := (r ⟨w.heap.size + 1 + 1, 1, none⟩ (by simp)).trans (by go_simp)
        have d2 : w2.cell? ⟨w.heap.size + 1 + 1, 2, none⟩ = some (.int .u64 0) := (r ⟨w.heap.size + 1 + 1, 2, none⟩ (by simp)).trans (by go_simp)
        have z0 : w2.frozen? ⟨w.heap.size + 1 + 1, 0, none⟩ = false := (f ⟨w.heap.size + 1 + 1, 0, none⟩ (by simp)).trans (by go_simp)
        have z1 : w2.frozen? ⟨w.heap.size + 1 + 1, 1, none⟩ = false := (f ⟨w.heap.size + 1 + 1, 1, none⟩ (by simp)).trans (by go_simp)
        have z2 : w2.frozen? ⟨w.heap.size + 1 + 1, 2, none⟩ = false := (f ⟨w.heap.size + 1 + 1, 2, none⟩ (by simp)).trans (by go_simp)
        have HB := Lib.hid (((((Below.refl w.heap.size w).alloc (Nat.le_refl _) _).alloc (by simp) _).alloc (by simp; omega) _).trans (hb.mono (by simp; omega)))
        clear r f hb
        go_wp2
        exact bodyPost_ret (v := .agg #[.bool true, .int .u64 (hiR x - hiR y), .int .u64 (loR x - loR y)]) (by simp [results, Try.results34, go_sem, d0, d1, d2]) rfl ⟨rfl, Below.three HB.out (by omega) _ _ _⟩
    · have hp : neR x = false := by simpa using hp
      have hpy : neR y = true := by cases h : neR y <;> simp_all
      have C : RowKit.Hid (∀ W, Calls Try.prog 51 #[.agg #[.bool true, .int .u64 (hiR y), .int .u64 (loR y)], .agg #[.bool false, .int .u64 (hiR x), .int .u64 (loR x)]] W fun e w' => e = .returned (.bool (decide (sz x < sz y))) ∧ Below W.heap.size W w') := Lib.hid (fun W => above_any y x true false W)
      rw [hp, hpy]
      clear hp hpy hq hs
      rw [Bool.false_and]
      clear e3
      go_enter Try.func34, Try.ntmps34
      go_wp2_with fail
      go_at_call 51; (with_reducible refine (C.out _).mono ?_); rintro e w2 ⟨rfl, hb⟩
      have r := fun (p : Addr) (hp : p.block < w.heap.size + 3) => hb.cell (p := p) (by simp; omega)
      have f := fun (p : Addr) (hp : p.block < w.heap.size + 3) => hb.frozen (p := p) (by simp; omega)
      have a0 : w2.cell? ⟨w.heap.size, 0, none⟩ = some (.bool false) := (r ⟨w.heap.size, 0, none⟩ (by simp)).trans (by go_simp)
      have a1 : w2.cell? ⟨w.heap.size, 1, none⟩ = some (.int .u64 (hiR x)) := (r ⟨w.heap.size, 1, none⟩ (by simp)).trans (by go_simp)
      have a2 : w2.cell? ⟨w.heap.size, 2, none⟩ = some (.int .u64 (loR x)) := (r ⟨w.heap.size, 2, none⟩ (by simp)).trans (by go_simp)
      have b0 : w2.cell? ⟨w.heap.size + 1, 0, none⟩ = some (.bool true) := (r ⟨w.heap.size + 1, 0, none⟩ (by simp)).trans (by go_simp)
      have b1 : w2.cell? ⟨w.heap.size + 1, 1, none⟩ = some (.int .u64 (hiR y)) := (r ⟨w.heap.size + 1, 1, none⟩ (by simp)).trans (by go_simp)
      have b2 : w2.cell? ⟨w.heap.size + 1, 2, none⟩ = some (.int .u64 (loR y)) := (r ⟨w.heap.size + 1, 2, none⟩ (by simp)).trans (by go_simp)
      have d0 : w2.cell? ⟨w.heap.size + 1 + 1, 0, none⟩ = some (.bool false) := (r ⟨w.heap.size + 1 + 1, 0, none⟩ (by simp)).trans (by go_simp)
      have d1 : w2.cell? ⟨w.heap.size + 1 + 1, 1, none⟩ = some (.int .u64 0) := (r ⟨w.heap.size + 1 + 1, 1, none⟩ (by simp)).trans (by go_simp)
      have d2 : w2.cell? ⟨w.heap.size + 1 + 1, 2, none⟩ = some (.int .u64 0) := (r ⟨w.heap.size + 1 + 1, 2, none⟩ (by simp)).trans (by go_simp)
      have z0 : w2.frozen? ⟨w.heap.size + 1 + 1, 0, none⟩ = false := (f ⟨w.heap.size + 1 + 1, 0, none⟩ (by simp)).trans (by go_simp)
      have z1 : w2.frozen? ⟨w.heap.size + 1 + 1, 1, none⟩ = false := (f ⟨w.heap.size + 1 + 1, 1, none⟩ (by simp)).trans (by go_simp)
      have z2 : w2.frozen? ⟨w.heap.size + 1 + 1, 2, none⟩ = false := (f ⟨w.heap.size + 1 + 1, 2, none⟩ (by simp)).trans (by go_simp)
      have HB := Lib.hid (((((Below.refl w.heap.size w).alloc (Nat.le_refl _) _).alloc (by simp) _).alloc (by simp; omega) _).trans (hb.mono (by simp; omega)))
      clear r f hb
      go_wp2
      exact bodyPost_ret (v := .agg #[.bool false, .int .u64 (hiR x - hiR y), .int .u64 (loR x - loR y)]) (by simp [results, Try.results34, go_sem, d0, d1, d2]) rfl ⟨rfl, Below.three HB.out (by omega) _ _ _⟩

theorem sz_bd (x : Int) : 0 ≤ sz x := by unfold sz; omega

set_option maxHeartbeats 1000000 in
/-- The reference's sum: exact, as long as the sizes' sum fits 128 bits. -/
theorem Plus_any (x y : Int) (hf : sz x + sz y < 340282366920938463463374607431768211456) (w : World) :
    Calls Try.prog 34 #[wideR x, wideR y] w fun e w' => e = .returned (wideR (x + y)) ∧ Below w.heap.size w w' := by
  have sx := sz_bd x
  have sy := sz_bd y
  by_cases hs : neR x = neR y
  · exact plus_same x y hs hf w
  · by_cases hlt : sz x < sz y
    · have hd : decide (sz x < sz y) = true := by simpa using hlt
      have C := Lib.hid (fun W => above_any y x (neR y) (neR x) W)
      have D := Lib.hid (fun W => plus_sub y x (fun h => hs h.symm) (by omega) (by omega) W)
      have hq : (neR x == neR y) = false := by simpa using hs
      rw [Int.add_comm x y]
      clear hs hlt hf
      show Calls Try.prog 34 #[.agg #[.bool (neR x), .int .u64 (hiR x), .int .u64 (loR x)], .agg #[.bool (neR y), .int .u64 (hiR y), .int .u64 (loR y)]] w _
      go_enter Try.func34, Try.ntmps34
      go_wp2_with fail
      go_at_call 51; (with_reducible refine (C.out _).mono ?_); rintro e w2 ⟨rfl, hb⟩
      have r := fun (p : Addr) (hp : p.block < w.heap.size + 3) => hb.cell (p := p) (by simp; omega)
      have f := fun (p : Addr) (hp : p.block < w.heap.size + 3) => hb.frozen (p := p) (by simp; omega)
      have a0 : w2.cell? ⟨w.heap.size, 0, none⟩ = some (.bool (neR x)) := (r ⟨w.heap.size, 0, none⟩ (by simp)).trans (by go_simp)
      have a1 : w2.cell? ⟨w.heap.size, 1, none⟩ = some (.int .u64 (hiR x)) := (r ⟨w.heap.size, 1, none⟩ (by simp)).trans (by go_simp)
      have a2 : w2.cell? ⟨w.heap.size, 2, none⟩ = some (.int .u64 (loR x)) := (r ⟨w.heap.size, 2, none⟩ (by simp)).trans (by go_simp)
      have b0 : w2.cell? ⟨w.heap.size + 1, 0, none⟩ = some (.bool (neR y)) := (r ⟨w.heap.size + 1, 0, none⟩ (by simp)).trans (by go_simp)
      have b1 : w2.cell? ⟨w.heap.size + 1, 1, none⟩ = some (.int .u64 (hiR y)) := (r ⟨w.heap.size + 1, 1, none⟩ (by simp)).trans (by go_simp)
      have b2 : w2.cell? ⟨w.heap.size + 1, 2, none⟩ = some (.int .u64 (loR y)) := (r ⟨w.heap.size + 1, 2, none⟩ (by simp)).trans (by go_simp)
      have d0 : w2.cell? ⟨w.heap.size + 1 + 1, 0, none⟩ = some (.bool false) := (r ⟨w.heap.size + 1 + 1, 0, none⟩ (by simp)).trans (by go_simp)
      have d1 : w2.cell? ⟨w.heap.size + 1 + 1, 1, none⟩ = some (.int .u64 0) := (r ⟨w.heap.size + 1 + 1, 1, none⟩ (by simp)).trans (by go_simp)
      have d2 : w2.cell? ⟨w.heap.size + 1 + 1, 2, none⟩ = some (.int .u64 0) := (r ⟨w.heap.size + 1 + 1, 2, none⟩ (by simp)).trans (by go_simp)
      have z0 : w2.frozen? ⟨w.heap.size + 1 + 1, 0, none⟩ = false := (f ⟨w.heap.size + 1 + 1, 0, none⟩ (by simp)).trans (by go_simp)
      have z1 : w2.frozen? ⟨w.heap.size + 1 + 1, 1, none⟩ = false := (f ⟨w.heap.size + 1 + 1, 1, none⟩ (by simp)).trans (by go_simp)
      have z2 : w2.frozen? ⟨w.heap.size + 1 + 1, 2, none⟩ = false := (f ⟨w.heap.size + 1 + 1, 2, none⟩ (by simp)).trans (by go_simp)
      have HB := Lib.hid (((((Below.refl w.heap.size w).alloc (Nat.le_refl _) _).alloc (by simp) _).alloc (by simp; omega) _).trans (hb.mono (by simp; omega)))
      clear r f hb
      go_wp2_with fail
      go_at_call 34; (with_reducible refine (D.out _).mono ?_); rintro e w3 ⟨rfl, hb3⟩
      have q := fun (p : Addr) (hp : p.block < w2.heap.size) => hb3.cell (p := p) hp
      have q2 := fun (p : Addr) (hp : p.block < w2.heap.size) => hb3.frozen (p := p) hp
      have hz := World.block_lt_of_cell? w2 ⟨w.heap.size + 1 + 1, 0, none⟩ d0
      have k0 : w3.cell? ⟨w.heap.size + 1 + 1, 0, none⟩ = some (.bool false) := (q ⟨w.heap.size + 1 + 1, 0, none⟩ hz).trans d0
      have k1 : w3.cell? ⟨w.heap.size + 1 + 1, 1, none⟩ = some (.int .u64 0) := (q ⟨w.heap.size + 1 + 1, 1, none⟩ hz).trans d1
      have k2 : w3.cell? ⟨w.heap.size + 1 + 1, 2, none⟩ = some (.int .u64 0) := (q ⟨w.heap.size + 1 + 1, 2, none⟩ hz).trans d2
      have y0 : w3.frozen? ⟨w.heap.size + 1 + 1, 0, none⟩ = false := (q2 ⟨w.heap.size + 1 + 1, 0, none⟩ hz).trans z0
      have y1 : w3.frozen? ⟨w.heap.size + 1 + 1, 1, none⟩ = false := (q2 ⟨w.heap.size + 1 + 1, 1, none⟩ hz).trans z1
      have y2 : w3.frozen? ⟨w.heap.size + 1 + 1, 2, none⟩ = false := (q2 ⟨w.heap.size + 1 + 1, 2, none⟩ hz).trans z2
      have HB3 := Lib.hid (HB.out.trans (hb3.mono HB.out.size))
      clear q q2 hb3 hz a0 a1 a2 b0 b1 b2 d0 d1 d2 z0 z1 z2
      go_wp2
      exact bodyPost_ret (v := wideR (y + x)) (by simp [results, Try.results34, go_sem, k0, k1, k2]) rfl ⟨rfl, Below.three HB3.out (by omega) _ _ _⟩
    · exact plus_sub x y hs hlt (by omega) w

set_option maxHeartbeats 1000000 in
theorem Less_any (x y : Int) (w : World) :
    Calls Try.prog 37 #[wideR x, wideR y] w fun e w' => e = .returned (.bool (decide (x ≤ y))) ∧ Below w.heap.size w w' := by
  show Calls Try.prog 37 #[.agg #[.bool (neR x), .int .u64 (hiR x), .int .u64 (loR x)], .agg #[.bool (neR y), .int .u64 (hiR y), .int .u64 (loR y)]] w _
  by_cases hx : x < 0
  · have nx : neR x = true := by unfold neR; simpa using hx
    by_cases hy : y < 0
    · have ny : neR y = true := by unfold neR; simpa using hy
      have hr : decide (x ≤ y) = !decide (sz x < sz y) := by unfold sz; by_cases h : x ≤ y <;> simp [h] <;> omega
      have C := Lib.hid (fun W => above_any y x true true W)
      rw [nx, ny, hr]
      clear hr nx ny hx hy
      go_enter Try.func37, Try.ntmps37
      go_wp2_with (go_at_call 51; (with_reducible refine (C.out _).mono ?_); rintro e w2 ⟨rfl, hb⟩)
      go_ret
      exact ⟨rfl, (((Below.refl _ _).alloc (Nat.le_refl _) _).alloc (by simp) _).trans (hb.mono (by simp; omega))⟩
    · have ny : neR y = false := by unfold neR; simpa using hy
      have hr : decide (x ≤ y) = true := by simp; omega
      rw [nx, ny, hr]
      clear hr nx ny hx hy
      go_enter Try.func37, Try.ntmps37
      go_wp2
      go_ret
      exact ⟨rfl, (((Below.refl _ _).alloc (Nat.le_refl _) _).alloc (by simp) _)⟩
  · have nx : neR x = false := by unfold neR; simpa using hx
    by_cases hy : y < 0
    · have ny : neR y = true := by unfold neR; simpa using hy
      have hr : decide (x ≤ y) = false := by simp; omega
      rw [nx, ny, hr]
      clear hr nx ny hx hy
      go_enter Try.func37, Try.ntmps37
      go_wp2
      go_ret
      exact ⟨rfl, (((Below.refl _ _).alloc (Nat.le_refl _) _).alloc (by simp) _)⟩
    · have ny : neR y = false := by unfold neR; simpa using hy
      have hr : decide (x ≤ y) = !decide (sz y < sz x) := by unfold sz; by_cases h : x ≤ y <;> simp [h] <;> omega
      have C := Lib.hid (fun W => above_any x y false false W)
      rw [nx, ny, hr]
      clear hr nx ny hx hy
      go_enter Try.func37, Try.ntmps37
      go_wp2_with (go_at_call 51; (with_reducible refine (C.out _).mono ?_); rintro e w2 ⟨rfl, hb⟩)
      go_ret
      exact ⟨rfl, (((Below.refl _ _).alloc (Nat.le_refl _) _).alloc (by simp) _).trans (hb.mono (by simp; omega))⟩
end Go.Proofs.Ytikacbfpeegcdaa
