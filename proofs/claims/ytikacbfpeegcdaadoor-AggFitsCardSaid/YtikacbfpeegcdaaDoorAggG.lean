/- agg's Merge, Put: walks. -/
import Derived.Test.YtikacbfpeegcdaaDoorAggA
namespace Go.Proofs.YtikacbfpeegcdaaDoor
open Go.RowKit Go.Shelf

theorem _root_.Go.RowKit.Below.four {B : Nat} {w w2 : World} {g : Nat} (h : Below B w w2) (hg : B ≤ g) (u0 u1 u2 u3 : Value) : Below B w ((((w2.setCell ⟨g, 0, none⟩ u0).setCell ⟨g, 1, none⟩ u1).setCell ⟨g, 2, none⟩ u2).setCell ⟨g, 3, none⟩ u3) :=
  (((h.setCell (p := ⟨g, 0, none⟩) hg u0).setCell (p := ⟨g, 1, none⟩) hg u1).setCell (p := ⟨g, 2, none⟩) hg u2).setCell (p := ⟨g, 3, none⟩) hg u3
theorem Blk.four {w2 : World} {k g : Nat} {t : TypeId} {cs : Array Value} (h : Blk w2 k t cs) (hg : k ≠ g) (u0 u1 u2 u3 : Value) : Blk ((((w2.setCell ⟨g, 0, none⟩ u0).setCell ⟨g, 1, none⟩ u1).setCell ⟨g, 2, none⟩ u2).setCell ⟨g, 3, none⟩ u3) k t cs :=
  (((h.far (p := ⟨g, 0, none⟩) hg u0).far (p := ⟨g, 1, none⟩) hg u1).far (p := ⟨g, 2, none⟩) hg u2).far (p := ⟨g, 3, none⟩) hg u3

theorem Blk.new' {X : World} {g : Nat} {t : TypeId} {cs : Array Value} (hg : g = X.heap.size) : Blk (X.alloc (.cells cs t)) g t cs := by subst hg; exact Blk.new _ _ _

/-- An aggregate, as a value. -/
abbrev AGv (c s mi ma : Int) : Value := .agg #[.int .i64 c, .int .i64 s, .int .i64 mi, .int .i64 ma]

theorem merge_a0 (s mi ma c2 s2 mi2 ma2 : Int) (w : World) :
    Calls Tryd.prog 25 #[AGv 0 s mi ma, AGv c2 s2 mi2 ma2] w fun e w' => e = .returned (.tuple #[AGv c2 s2 mi2 ma2, .nilIface]) ∧ Below w.heap.size w w' := by
  go_enter Tryd.func25, Tryd.ntmps25
  go_wp2
  exact bodyPost_ret (v := .tuple #[AGv c2 s2 mi2 ma2, .nilIface]) (by simp [results, Tryd.results25, go_sem]) rfl
    ⟨rfl, (((Below.refl _ _).alloc (Nat.le_refl _) _).alloc (by simp) _).alloc (by simp; omega) _⟩

theorem merge_b0 (c s mi ma s2 mi2 ma2 : Int) (hc : c ≠ 0) (w : World) :
    Calls Tryd.prog 25 #[AGv c s mi ma, AGv 0 s2 mi2 ma2] w fun e w' => e = .returned (.tuple #[AGv c s mi ma, .nilIface]) ∧ Below w.heap.size w w' := by
  have h1 : (c == 0) = false := by simpa using hc
  clear hc
  go_enter Tryd.func25, Tryd.ntmps25
  go_wp2
  exact bodyPost_ret (v := .tuple #[AGv c s mi ma, .nilIface]) (by simp [results, Tryd.results25, go_sem]) rfl
    ⟨rfl, (((Below.refl _ _).alloc (Nat.le_refl _) _).alloc (by simp) _).alloc (by simp; omega) _⟩

theorem merge_ok (c s mi ma c2 s2 mi2 ma2 : Int) (hc : c ≠ 0) (hc2 : c2 ≠ 0) (a1 : I64 c) (a2 : I64 c2) (a3 : I64 (c + c2)) (b1 : I64 s) (b2 : I64 s2) (b3 : I64 (s + s2)) (w : World) :
    Calls Tryd.prog 25 #[AGv c s mi ma, AGv c2 s2 mi2 ma2] w fun e w' => e = .returned (.tuple #[AGv (c + c2) (s + s2) (min mi mi2) (max ma ma2), .nilIface]) ∧ Below w.heap.size w w' := by
  have h1 : (c == 0) = false := by simpa using hc
  have h2 : (c2 == 0) = false := by simpa using hc2
  have C1 := Lib.hid (fun W => add_ok c c2 a1 a2 a3 W)
  have C2 := Lib.hid (fun W => add_ok s s2 b1 b2 b3 W)
  clear hc hc2
  go_enter Tryd.func25, Tryd.ntmps25
  go_wp2_with fail
  go_at_call 9; (with_reducible refine (C1.out _).mono ?_); rintro e w' ⟨rfl, rfl⟩
  go_wp2_with fail
  go_at_call 9; (with_reducible refine (C2.out _).mono ?_); rintro e w' ⟨rfl, rfl⟩
  go_wp2
  all_goals
    exact bodyPost_ret (v := .tuple #[AGv (c + c2) (s + s2) (min mi mi2) (max ma ma2), .nilIface]) (by simp [results, Tryd.results25, go_sem]; omega) rfl
      ⟨rfl, (((Below.refl _ _).alloc (Nat.le_refl _) _).alloc (by simp) _).alloc (by simp; omega) _⟩

/-- What is answered where an addition does not fit: no value, and an *Overflow that says which one. -/
def OvfAns (w : World) (zero : Value) (op a b : Int) (e : Ending) (w' : World) : Prop :=
  ∃ g, e = .returned (.tuple #[zero, ovf g]) ∧ w.heap.size ≤ g ∧ Blk w' g 36 #[.int .u8 op, .int .i64 a, .int .i64 b] ∧ Below w.heap.size w w'

theorem merge_n (c s mi ma c2 s2 mi2 ma2 : Int) (hc : c ≠ 0) (hc2 : c2 ≠ 0) (a1 : I64 c) (a2 : I64 c2) (a3 : ¬ I64 (c + c2)) (w : World) :
    Calls Tryd.prog 25 #[AGv c s mi ma, AGv c2 s2 mi2 ma2] w (OvfAns w (AGv 0 0 0 0) 43 c c2) := by
  have h1 : (c == 0) = false := by simpa using hc
  have h2 : (c2 == 0) = false := by simpa using hc2
  have C1 := Lib.hid (fun W => add_no c c2 a1 a2 a3 W)
  clear hc hc2 a3
  go_enter Tryd.func25, Tryd.ntmps25
  go_wp2_with fail
  go_at_call 9; (with_reducible refine (C1.out _).mono ?_); rintro e w' ⟨rfl, rfl⟩
  go_wp2
  exact bodyPost_ret (v := .tuple #[AGv 0 0 0 0, ovf (w.heap.size + 1 + 1 + 1)]) (by simp [results, Tryd.results25, go_sem]) rfl
      ⟨_, rfl, by omega, Blk.new' (by simp), ((((Below.refl _ _).alloc (Nat.le_refl _) _).alloc (by simp) _).alloc (by simp; omega) _).alloc (by simp; omega) _⟩

theorem merge_s (c s mi ma c2 s2 mi2 ma2 : Int) (hc : c ≠ 0) (hc2 : c2 ≠ 0) (a1 : I64 c) (a2 : I64 c2) (a3 : I64 (c + c2)) (b1 : I64 s) (b2 : I64 s2) (b3 : ¬ I64 (s + s2)) (w : World) :
    Calls Tryd.prog 25 #[AGv c s mi ma, AGv c2 s2 mi2 ma2] w (OvfAns w (AGv 0 0 0 0) 43 s s2) := by
  have h1 : (c == 0) = false := by simpa using hc
  have h2 : (c2 == 0) = false := by simpa using hc2
  have C1 := Lib.hid (fun W => add_ok c c2 a1 a2 a3 W)
  have C2 := Lib.hid (fun W => add_no s s2 b1 b2 b3 W)
  clear hc hc2 b3
  go_enter Tryd.func25, Tryd.ntmps25
  go_wp2_with fail
  go_at_call 9; (with_reducible refine (C1.out _).mono ?_); rintro e w' ⟨rfl, rfl⟩
  go_wp2_with fail
  go_at_call 9; (with_reducible refine (C2.out _).mono ?_); rintro e w' ⟨rfl, rfl⟩
  go_wp2
  exact bodyPost_ret (v := .tuple #[AGv 0 0 0 0, ovf (w.heap.size + 1 + 1 + 1)]) (by simp [results, Tryd.results25, go_sem]) rfl
      ⟨_, rfl, by omega, Blk.new' (by simp), ((((Below.refl _ _).alloc (Nat.le_refl _) _).alloc (by simp) _).alloc (by simp; omega) _).alloc (by simp; omega) _⟩

/-- Put, by whole numbers: what is answered, and where it does not fit. -/
theorem put_0 (s mi ma v : Int) (w : World) :
    Calls Tryd.prog 23 #[AGv 0 s mi ma, .int .i64 v] w fun e w' => e = .returned (.tuple #[AGv 1 v v v, .nilIface]) ∧ Below w.heap.size w w' := by
  have C := Lib.hid (fun W => merge_a0 s mi ma 1 v v v W)
  go_enter Tryd.func23, Tryd.ntmps23
  go_wp2_with fail
  go_at_call 25; (with_reducible refine (C.out _).mono ?_); rintro e w' ⟨rfl, hb⟩
  have r := fun (p : Addr) (hp : p.block < w.heap.size + 2) => hb.cell (p := p) (by simp; omega)
  have f := fun (p : Addr) (hp : p.block < w.heap.size + 2) => hb.frozen (p := p) (by simp; omega)
  have d0 : w'.cell? ⟨w.heap.size + 1, 0, none⟩ = some (.int .i64 0) := (r ⟨w.heap.size + 1, 0, none⟩ (by simp)).trans (by go_simp)
  have z0 : w'.frozen? ⟨w.heap.size + 1, 0, none⟩ = false := (f ⟨w.heap.size + 1, 0, none⟩ (by simp)).trans (by go_simp)
  have d1 : w'.cell? ⟨w.heap.size + 1, 1, none⟩ = some (.int .i64 0) := (r ⟨w.heap.size + 1, 1, none⟩ (by simp)).trans (by go_simp)
  have z1 : w'.frozen? ⟨w.heap.size + 1, 1, none⟩ = false := (f ⟨w.heap.size + 1, 1, none⟩ (by simp)).trans (by go_simp)
  have d2 : w'.cell? ⟨w.heap.size + 1, 2, none⟩ = some (.int .i64 0) := (r ⟨w.heap.size + 1, 2, none⟩ (by simp)).trans (by go_simp)
  have z2 : w'.frozen? ⟨w.heap.size + 1, 2, none⟩ = false := (f ⟨w.heap.size + 1, 2, none⟩ (by simp)).trans (by go_simp)
  have d3 : w'.cell? ⟨w.heap.size + 1, 3, none⟩ = some (.int .i64 0) := (r ⟨w.heap.size + 1, 3, none⟩ (by simp)).trans (by go_simp)
  have z3 : w'.frozen? ⟨w.heap.size + 1, 3, none⟩ = false := (f ⟨w.heap.size + 1, 3, none⟩ (by simp)).trans (by go_simp)
  have HB := Lib.hid ((((Below.refl w.heap.size w).alloc (Nat.le_refl _) _).alloc (by simp) _).trans (hb.mono (by simp; omega)))
  clear r f hb
  go_wp2
  exact bodyPost_ret (v := .tuple #[AGv 1 v v v, .nilIface]) (by simp [results, Tryd.results23, go_sem, d0, d1, d2, d3]) rfl ⟨rfl, HB.out.four (by omega) _ _ _ _⟩

theorem put_ok (c s mi ma v : Int) (hc : c ≠ 0) (a1 : I64 c) (a3 : I64 (c + 1)) (b1 : I64 s) (b2 : I64 v) (b3 : I64 (s + v)) (w : World) :
    Calls Tryd.prog 23 #[AGv c s mi ma, .int .i64 v] w fun e w' => e = .returned (.tuple #[AGv (c + 1) (s + v) (min mi v) (max ma v), .nilIface]) ∧ Below w.heap.size w w' := by
  have C := Lib.hid (fun W => merge_ok c s mi ma 1 v v v hc (by omega) a1 ⟨by omega, by omega⟩ a3 b1 b2 b3 W)
  clear hc
  go_enter Tryd.func23, Tryd.ntmps23
  go_wp2_with fail
  go_at_call 25; (with_reducible refine (C.out _).mono ?_); rintro e w' ⟨rfl, hb⟩
  have r := fun (p : Addr) (hp : p.block < w.heap.size + 2) => hb.cell (p := p) (by simp; omega)
  have f := fun (p : Addr) (hp : p.block < w.heap.size + 2) => hb.frozen (p := p) (by simp; omega)
  have d0 : w'.cell? ⟨w.heap.size + 1, 0, none⟩ = some (.int .i64 0) := (r ⟨w.heap.size + 1, 0, none⟩ (by simp)).trans (by go_simp)
  have z0 : w'.frozen? ⟨w.heap.size + 1, 0, none⟩ = false := (f ⟨w.heap.size + 1, 0, none⟩ (by simp)).trans (by go_simp)
  have d1 : w'.cell? ⟨w.heap.size + 1, 1, none⟩ = some (.int .i64 0) := (r ⟨w.heap.size + 1, 1, none⟩ (by simp)).trans (by go_simp)
  have z1 : w'.frozen? ⟨w.heap.size + 1, 1, none⟩ = false := (f ⟨w.heap.size + 1, 1, none⟩ (by simp)).trans (by go_simp)
  have d2 : w'.cell? ⟨w.heap.size + 1, 2, none⟩ = some (.int .i64 0) := (r ⟨w.heap.size + 1, 2, none⟩ (by simp)).trans (by go_simp)
  have z2 : w'.frozen? ⟨w.heap.size + 1, 2, none⟩ = false := (f ⟨w.heap.size + 1, 2, none⟩ (by simp)).trans (by go_simp)
  have d3 : w'.cell? ⟨w.heap.size + 1, 3, none⟩ = some (.int .i64 0) := (r ⟨w.heap.size + 1, 3, none⟩ (by simp)).trans (by go_simp)
  have z3 : w'.frozen? ⟨w.heap.size + 1, 3, none⟩ = false := (f ⟨w.heap.size + 1, 3, none⟩ (by simp)).trans (by go_simp)
  have HB := Lib.hid ((((Below.refl w.heap.size w).alloc (Nat.le_refl _) _).alloc (by simp) _).trans (hb.mono (by simp; omega)))
  clear r f hb
  go_wp2
  exact bodyPost_ret (v := .tuple #[AGv (c + 1) (s + v) (min mi v) (max ma v), .nilIface]) (by simp [results, Tryd.results23, go_sem, d0, d1, d2, d3]) rfl ⟨rfl, HB.out.four (by omega) _ _ _ _⟩

theorem put_n (c s mi ma v : Int) (hc : c ≠ 0) (a1 : I64 c) (a3 : ¬ I64 (c + 1)) (w : World) :
    Calls Tryd.prog 23 #[AGv c s mi ma, .int .i64 v] w (OvfAns w (AGv 0 0 0 0) 43 c 1) := by
  have C := Lib.hid (fun W => merge_n c s mi ma 1 v v v hc (by omega) a1 ⟨by omega, by omega⟩ a3 W)
  clear hc a3
  go_enter Tryd.func23, Tryd.ntmps23
  go_wp2_with fail
  go_at_call 25; (with_reducible refine (C.out _).mono ?_); rintro e w' ⟨g, rfl, hg, hbk, hb⟩
  have r := fun (p : Addr) (hp : p.block < w.heap.size + 2) => hb.cell (p := p) (by simp; omega)
  have f := fun (p : Addr) (hp : p.block < w.heap.size + 2) => hb.frozen (p := p) (by simp; omega)
  have d0 : w'.cell? ⟨w.heap.size + 1, 0, none⟩ = some (.int .i64 0) := (r ⟨w.heap.size + 1, 0, none⟩ (by simp)).trans (by go_simp)
  have z0 : w'.frozen? ⟨w.heap.size + 1, 0, none⟩ = false := (f ⟨w.heap.size + 1, 0, none⟩ (by simp)).trans (by go_simp)
  have d1 : w'.cell? ⟨w.heap.size + 1, 1, none⟩ = some (.int .i64 0) := (r ⟨w.heap.size + 1, 1, none⟩ (by simp)).trans (by go_simp)
  have z1 : w'.frozen? ⟨w.heap.size + 1, 1, none⟩ = false := (f ⟨w.heap.size + 1, 1, none⟩ (by simp)).trans (by go_simp)
  have d2 : w'.cell? ⟨w.heap.size + 1, 2, none⟩ = some (.int .i64 0) := (r ⟨w.heap.size + 1, 2, none⟩ (by simp)).trans (by go_simp)
  have z2 : w'.frozen? ⟨w.heap.size + 1, 2, none⟩ = false := (f ⟨w.heap.size + 1, 2, none⟩ (by simp)).trans (by go_simp)
  have d3 : w'.cell? ⟨w.heap.size + 1, 3, none⟩ = some (.int .i64 0) := (r ⟨w.heap.size + 1, 3, none⟩ (by simp)).trans (by go_simp)
  have z3 : w'.frozen? ⟨w.heap.size + 1, 3, none⟩ = false := (f ⟨w.heap.size + 1, 3, none⟩ (by simp)).trans (by go_simp)
  have HB := Lib.hid ((((Below.refl w.heap.size w).alloc (Nat.le_refl _) _).alloc (by simp) _).trans (hb.mono (by simp; omega)))
  have HG := Lib.hid (Nat.le_trans (show w.heap.size + 2 ≤ _ by simp) hg)
  have HK := Lib.hid hbk
  clear r f hb hg hbk
  go_wp2
  exact bodyPost_ret (v := .tuple #[AGv 0 0 0 0, ovf g]) (by simp [results, Tryd.results23, go_sem, d0, d1, d2, d3]) rfl
    ⟨g, rfl, by have := HG.out; omega, HK.out.four (by have := HG.out; omega) _ _ _ _, HB.out.four (by omega) _ _ _ _⟩

theorem put_s (c s mi ma v : Int) (hc : c ≠ 0) (a1 : I64 c) (a3 : I64 (c + 1)) (b1 : I64 s) (b2 : I64 v) (b3 : ¬ I64 (s + v)) (w : World) :
    Calls Tryd.prog 23 #[AGv c s mi ma, .int .i64 v] w (OvfAns w (AGv 0 0 0 0) 43 s v) := by
  have C := Lib.hid (fun W => merge_s c s mi ma 1 v v v hc (by omega) a1 ⟨by omega, by omega⟩ a3 b1 b2 b3 W)
  clear hc b3
  go_enter Tryd.func23, Tryd.ntmps23
  go_wp2_with fail
  go_at_call 25; (with_reducible refine (C.out _).mono ?_); rintro e w' ⟨g, rfl, hg, hbk, hb⟩
  have r := fun (p : Addr) (hp : p.block < w.heap.size + 2) => hb.cell (p := p) (by simp; omega)
  have f := fun (p : Addr) (hp : p.block < w.heap.size + 2) => hb.frozen (p := p) (by simp; omega)
  have d0 : w'.cell? ⟨w.heap.size + 1, 0, none⟩ = some (.int .i64 0) := (r ⟨w.heap.size + 1, 0, none⟩ (by simp)).trans (by go_simp)
  have z0 : w'.frozen? ⟨w.heap.size + 1, 0, none⟩ = false := (f ⟨w.heap.size + 1, 0, none⟩ (by simp)).trans (by go_simp)
  have d1 : w'.cell? ⟨w.heap.size + 1, 1, none⟩ = some (.int .i64 0) := (r ⟨w.heap.size + 1, 1, none⟩ (by simp)).trans (by go_simp)
  have z1 : w'.frozen? ⟨w.heap.size + 1, 1, none⟩ = false := (f ⟨w.heap.size + 1, 1, none⟩ (by simp)).trans (by go_simp)
  have d2 : w'.cell? ⟨w.heap.size + 1, 2, none⟩ = some (.int .i64 0) := (r ⟨w.heap.size + 1, 2, none⟩ (by simp)).trans (by go_simp)
  have z2 : w'.frozen? ⟨w.heap.size + 1, 2, none⟩ = false := (f ⟨w.heap.size + 1, 2, none⟩ (by simp)).trans (by go_simp)
  have d3 : w'.cell? ⟨w.heap.size + 1, 3, none⟩ = some (.int .i64 0) := (r ⟨w.heap.size + 1, 3, none⟩ (by simp)).trans (by go_simp)
  have z3 : w'.frozen? ⟨w.heap.size + 1, 3, none⟩ = false := (f ⟨w.heap.size + 1, 3, none⟩ (by simp)).trans (by go_simp)
  have HB := Lib.hid ((((Below.refl w.heap.size w).alloc (Nat.le_refl _) _).alloc (by simp) _).trans (hb.mono (by simp; omega)))
  have HG := Lib.hid (Nat.le_trans (show w.heap.size + 2 ≤ _ by simp) hg)
  have HK := Lib.hid hbk
  clear r f hb hg hbk
  go_wp2
  exact bodyPost_ret (v := .tuple #[AGv 0 0 0 0, ovf g]) (by simp [results, Tryd.results23, go_sem, d0, d1, d2, d3]) rfl
    ⟨g, rfl, by have := HG.out; omega, HK.out.four (by have := HG.out; omega) _ _ _ _, HB.out.four (by omega) _ _ _ _⟩
end Go.Proofs.YtikacbfpeegcdaaDoor
