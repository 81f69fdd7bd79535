/- The law WireLong: the walk. -/
import Derived.Test.YtdgokebablhoiaaDoorWNext
namespace Go.Proofs.YtdgokebablhoiaaDoor
open Go.RowKit

theorem madeCells_one (z : Value) (n : Nat) : madeCells #[z] n = (List.replicate n z).toArray := by
  apply Array.ext
  · simp [madeCells]
  · intro i h1 h2
    simp [madeCells, Nat.mod_one]
section
variable {w : World}
theorem wpList_make_zeros {ops : Array Oper} {rest : List Oper} {o : Oper} {a : Act} {Q : Exit → Act → World → Prop} (hgd : o.guard = none) (l c : Operand) (hop : o.op = Op.makeSlice 24 l c)
    (n : Nat) (hl : a.eval l = .int .i64 (n : Int)) (hc : a.eval c = .int .i64 (n : Int)) (hn : n ≤ 140737488355328)
    (hK : wpList Tryd.prog ops Q rest (a.put o.dst (.slice (some ⟨w.heap.size, 0, none⟩) n n)) (w.alloc (.cells (bvs (List.replicate n 0)).toArray 5))) :
    wpList Tryd.prog ops Q (o :: rest) a w := by
  obtain ⟨i, hi, hz0, hz1, hz2⟩ := info_parts info_u8
  refine wpList_make_cells hgd l c _ hop _ i _ 1 Tryd.underlying24 hi hz0 hz1 hz2 n n hl hc (Nat.le_refl _) (by omega) (by omega) ?_
  rw [show (Value.int IntKind.u8 0).cells = #[Value.int .u8 0] from rfl, madeCells_one]
  simpa [bvs] using hK
end
set_option maxRecDepth 100000 in
theorem round_neg (at_ m : Int) (hm : 0 < m) (hm2 : m ≤ 1000000) (h : at_.tmod m < 0) (R : Nat) (hR : at_.tmod m + m = (R : Int)) (W : World) :
    Calls Tryd.prog 33 #[.int .i64 at_, .int .i64 m] W fun e w' => e = .returned (.int .i64 (R : Int)) ∧ W = w' := by
  have h1 := Int.tmod_lt_of_pos at_ hm
  have h2 := Int.lt_tmod_of_pos at_ hm
  have hm0 : ¬ m = 0 := by omega
  go_enter Tryd.func33, Tryd.ntmps33
  go_wp2
  go_ret
  exact ⟨rfl, rfl⟩
set_option maxRecDepth 100000 in
theorem round_pos (at_ m : Int) (hm : 0 < m) (h : ¬ at_.tmod m < 0) (R : Nat) (hR : at_.tmod m = (R : Int)) (W : World) :
    Calls Tryd.prog 33 #[.int .i64 at_, .int .i64 m] W fun e w' => e = .returned (.int .i64 (R : Int)) ∧ W = w' := by
  have hm0 : ¬ m = 0 := by omega
  have h0 : ¬ (R : Int) < 0 := by omega
  clear h
  go_enter Tryd.func33, Tryd.ntmps33
  go_wp2
  go_ret
  exact ⟨rfl, rfl⟩
theorem round_R (at_ : Int) : ∃ R : Nat, R < 131072 ∧ ∀ W, Calls Tryd.prog 33 #[.int .i64 at_, .int .i64 131072] W fun e w' => e = .returned (.int .i64 (R : Int)) ∧ W = w' := by
  have h1 := Int.tmod_lt_of_pos at_ (show (0 : Int) < 131072 by omega)
  have h2 := Int.lt_tmod_of_pos at_ (show (0 : Int) < 131072 by omega)
  by_cases h : at_.tmod 131072 < 0
  · exact ⟨(at_.tmod 131072 + 131072).toNat, by omega, fun W => round_neg at_ 131072 (by omega) (by omega) h _ (by omega) W⟩
  · exact ⟨(at_.tmod 131072).toNat, by omega, fun W => round_pos at_ 131072 (by omega) h _ (by omega) W⟩
theorem len4_nat (n : Nat) : len4 n = [((n / 16777216 : Nat) : Int), ((n / 65536 : Nat) : Int), ((n / 256 % 256 : Nat) : Int), ((n % 256 : Nat) : Int)] := by
  simp [len4]
theorem be4_len (n : Nat) (h : n ≤ 65536) : be4 (n / 16777216) (n / 65536) (n / 256 % 256) (n % 256) = n := by
  unfold be4
  omega
theorem zeros_cells (W : World) (n : Nat) : CellsAt (W.alloc (.cells (bvs (List.replicate n 0)).toArray 5)) (some ⟨W.heap.size, 0, none⟩) (bvs (List.replicate n 0)) :=
  cells_of_blk (more := []) (Blk.new W _ _) (by simp)

theorem bchain {w W1 W2 : World} (h1 : Below w.heap.size w W1) (h2 : Below W1.heap.size W1 W2) : Below w.heap.size w W2 := h1.trans (h2.mono h1.size)
theorem RowAt.none_no {W : World} {A : Option Addr} {n lo : Nat} {xs : List Int} (h : RowAt W A n lo xs) (hn : 0 < n) {p : Prop} : A = none → p := by
  rintro rfl
  rcases h with ⟨_, h, _⟩ | ⟨g, cur, h, _⟩
  · omega
  · cases h
theorem fm_form {W : World} {base q : Nat} {most : Int} {v : Value} {R : Nat} (h : Fm W base q most v ([] ++ (len4 R ++ List.replicate R 0))) :
    ∃ A c, v = .slice A (R + 4) c ∧ Fm W base q most (.slice A (R + 4) c) (((R / 16777216 : Nat) : Int) :: ((R / 65536 : Nat) : Int) :: ((R / 256 % 256 : Nat) : Int) :: ((R % 256 : Nat) : Int) :: (List.replicate R 0 ++ [])) := by
  rw [List.nil_append, len4_nat] at h
  obtain ⟨A, c, rfl, _, _, _⟩ := owned_form h.own
  have e : ([((R / 16777216 : Nat) : Int), ((R / 65536 : Nat) : Int), ((R / 256 % 256 : Nat) : Int), ((R % 256 : Nat) : Int)] ++ List.replicate R 0).length = R + 4 := by simp
  rw [e] at h
  exact ⟨A, c, by rw [e], by simpa using h⟩

abbrev lenRow (R : Nat) : List Int := ((R / 16777216 : Nat) : Int) :: ((R / 65536 : Nat) : Int) :: ((R / 256 % 256 : Nat) : Int) :: ((R % 256 : Nat) : Int) :: (List.replicate R 0 ++ [])
theorem next_bad_R (base q : Nat) (most : Int) (A : Option Addr) (c R : Nat) (hR : R ≤ 65536) (W : World) (h : Fm W base q most (.slice A (R + 4) c) (lenRow R)) (hm : most < (R : Int)) :
    Calls Tryd.prog 40 #[.pointer (some ⟨q, 0, none⟩)] W fun e w' => e = .returned (.tuple #[.slice none 0 0, .bool false, .int .i64 14]) ∧ (∃ f, Blk w' q 108 #[.int .i64 most, .slice A (R + 4) c, f]) ∧ Tur (· = q) W w' :=
  f_next_bad base q most A (R + 4) c _ _ _ _ (by omega) (by omega) (by omega) (by omega) _ W h (by simp) (by rw [be4_len R hR]; exact .inr hm)
theorem next_yes_R (base q : Nat) (most : Int) (A : Option Addr) (c R : Nat) (hR : R ≤ 65536) (W : World) (h : Fm W base q most (.slice A (R + 4) c) (lenRow R)) (h1 : 1 ≤ R) (hm : (R : Int) ≤ most) :
    Calls Tryd.prog 40 #[.pointer (some ⟨q, 0, none⟩)] W fun e w' => (∃ A' c', e = .returned (.tuple #[.slice A' R c', .bool true, .int .i64 0])) ∧ (∃ A2 c2, Blk w' q 108 #[.int .i64 most, .slice A2 0 c2, .nilIface]) ∧ Tur (· = q) W w' := by
  have hb := be4_len R hR
  refine (f_next_yes base q most A (R + 4) c _ _ _ _ (by omega) (by omega) (by omega) (by omega) _ _ W h (by simp) (by rw [hb]; exact ⟨h1, hm⟩) (by rw [hb]; simp) (by omega)).mono ?_
  rintro e w' ⟨A', c', rfl, _, A2, c2, hf, ht⟩
  rw [hb]
  exact ⟨⟨A', c', rfl⟩, ⟨A2, c2, hf.blk⟩, ht⟩

/-- What the law does behind the first number. -/
def LongPost (w : World) (e : Ending) (w' : World) : Prop := e = .returned (.bool true) ∧ Below w.heap.size w w'

set_option maxHeartbeats 2000000 in
set_option maxRecDepth 100000 in
theorem long_ax (n0 most : Int) (w : World) (R : Nat) (hmost : most < 1) (hR : R < 1) (CR : ∀ W, Calls Tryd.prog 33 #[.int .i64 n0, .int .i64 131072] W fun e w' => e = .returned (.int .i64 (R : Int)) ∧ W = w') :
    Calls Tryd.prog 8 #[.int .i64 n0, .int .i64 most] w (LongPost w) := by
  have C := Lib.hid CR
  clear CR
  have HR := Lib.hid (show R < 1 ∨ 65536 < R from .inl hR)
  have HM := Lib.hid (show most < 1 ∨ 65536 < most from .inl hmost)
  have hR9 : R ≤ 131072 := by omega
  go_enter Tryd.func8, Tryd.ntmps8
  go_wp2_with (first
    | (go_at_call 33; (with_reducible refine (C.out _).mono ?_); rintro e w1 ⟨rfl, rfl⟩)
    | (at_make; refine wpList_make_zeros rfl _ _ rfl R rfl rfl (by omega) ?_)
    | (go_at_call 21; (with_reducible refine (frame_no _ R _ _ HR.out (by omega)).mono ?_); rintro e w2 ⟨rfl, rfl⟩)
    | (go_at_call 35; (with_reducible refine (f_new_no most _ HM.out).mono ?_); rintro e w3 ⟨rfl, rfl⟩)
    | (go_at_call 19; (with_reducible refine (head_any _).mono ?_); rintro e wh ⟨rfl, hb⟩; have BH := Lib.hid hb; clear hb))
  go_ret
  exact ⟨rfl, bchain ((Below.refl w.heap.size w).alloc (Nat.le_refl _) _) BH.out⟩

set_option maxHeartbeats 2000000 in
set_option maxRecDepth 100000 in
theorem long_ay (n0 most : Int) (w : World) (R : Nat) (hmost : 65536 < most) (hR : R < 1) (CR : ∀ W, Calls Tryd.prog 33 #[.int .i64 n0, .int .i64 131072] W fun e w' => e = .returned (.int .i64 (R : Int)) ∧ W = w') :
    Calls Tryd.prog 8 #[.int .i64 n0, .int .i64 most] w (LongPost w) := by
  have C := Lib.hid CR
  clear CR
  have HR := Lib.hid (show R < 1 ∨ 65536 < R from .inl hR)
  have HM := Lib.hid (show most < 1 ∨ 65536 < most from .inr hmost)
  have hmf : decide (most ≤ 65536) = false := by simp; omega
  have hR9 : R ≤ 131072 := by omega
  go_enter Tryd.func8, Tryd.ntmps8
  go_wp2_with (first
    | (go_at_call 33; (with_reducible refine (C.out _).mono ?_); rintro e w1 ⟨rfl, rfl⟩)
    | (at_make; refine wpList_make_zeros rfl _ _ rfl R rfl rfl (by omega) ?_)
    | (go_at_call 21; (with_reducible refine (frame_no _ R _ _ HR.out (by omega)).mono ?_); rintro e w2 ⟨rfl, rfl⟩)
    | (go_at_call 35; (with_reducible refine (f_new_no most _ HM.out).mono ?_); rintro e w3 ⟨rfl, rfl⟩)
    | (go_at_call 19; (with_reducible refine (head_any _).mono ?_); rintro e wh ⟨rfl, hb⟩; have BH := Lib.hid hb; clear hb))
  go_ret
  exact ⟨rfl, bchain ((Below.refl w.heap.size w).alloc (Nat.le_refl _) _) BH.out⟩

set_option maxHeartbeats 2000000 in
set_option maxRecDepth 100000 in
theorem long_az (n0 most : Int) (w : World) (R : Nat) (hmost : 1 ≤ most ∧ most ≤ 65536) (hR : R < 1) (CR : ∀ W, Calls Tryd.prog 33 #[.int .i64 n0, .int .i64 131072] W fun e w' => e = .returned (.int .i64 (R : Int)) ∧ W = w') :
    Calls Tryd.prog 8 #[.int .i64 n0, .int .i64 most] w (LongPost w) := by
  have C := Lib.hid CR
  clear CR
  have HR := Lib.hid (show R < 1 ∨ 65536 < R from .inl hR)
  have HM := Lib.hid hmost
  obtain ⟨hm1, hm2⟩ := hmost
  have hR9 : R ≤ 131072 := by omega
  go_enter Tryd.func8, Tryd.ntmps8
  go_wp2_with (first
    | (go_at_call 33; (with_reducible refine (C.out _).mono ?_); rintro e w1 ⟨rfl, rfl⟩)
    | (at_make; refine wpList_make_zeros rfl _ _ rfl R rfl rfl (by omega) ?_)
    | (go_at_call 21; (with_reducible refine (frame_no _ R _ _ HR.out (by omega)).mono ?_); rintro e w2 ⟨rfl, rfl⟩)
    | (go_at_call 35; (with_reducible refine (f_new_yes most _ HM.out.1 HM.out.2).mono ?_); rintro e w3 ⟨rfl, hfm, hb⟩; have FM := Lib.hid hfm; have B3 := Lib.hid hb; clear hfm hb)
    | (go_at_call 19; (with_reducible refine (head_any _).mono ?_); rintro e wh ⟨rfl, hb⟩; have BH := Lib.hid hb; clear hb))
  go_ret
  exact ⟨rfl, bchain (bchain ((Below.refl w.heap.size w).alloc (Nat.le_refl _) _) B3.out) BH.out⟩

set_option maxHeartbeats 2000000 in
set_option maxRecDepth 100000 in
theorem long_bx (n0 most : Int) (w : World) (R : Nat) (hmost : most < 1) (hR : 65536 < R ∧ R < 131072) (CR : ∀ W, Calls Tryd.prog 33 #[.int .i64 n0, .int .i64 131072] W fun e w' => e = .returned (.int .i64 (R : Int)) ∧ W = w') :
    Calls Tryd.prog 8 #[.int .i64 n0, .int .i64 most] w (LongPost w) := by
  have C := Lib.hid CR
  clear CR
  obtain ⟨hR, hRm⟩ := hR
  have HR := Lib.hid (show R < 1 ∨ 65536 < R from .inr hR)
  have hr1 : decide ((R : Int) < 1) = false := by simp; omega
  have HM := Lib.hid (show most < 1 ∨ 65536 < most from .inl hmost)
  have hR9 : R ≤ 131072 := by omega
  go_enter Tryd.func8, Tryd.ntmps8
  go_wp2_with (first
    | (go_at_call 33; (with_reducible refine (C.out _).mono ?_); rintro e w1 ⟨rfl, rfl⟩)
    | (at_make; refine wpList_make_zeros rfl _ _ rfl R rfl rfl (by omega) ?_)
    | (go_at_call 21; (with_reducible refine (frame_no _ R _ _ HR.out (by omega)).mono ?_); rintro e w2 ⟨rfl, rfl⟩)
    | (go_at_call 35; (with_reducible refine (f_new_no most _ HM.out).mono ?_); rintro e w3 ⟨rfl, rfl⟩)
    | (go_at_call 19; (with_reducible refine (head_any _).mono ?_); rintro e wh ⟨rfl, hb⟩; have BH := Lib.hid hb; clear hb))
  go_ret
  exact ⟨rfl, bchain ((Below.refl w.heap.size w).alloc (Nat.le_refl _) _) BH.out⟩

set_option maxHeartbeats 2000000 in
set_option maxRecDepth 100000 in
theorem long_by (n0 most : Int) (w : World) (R : Nat) (hmost : 65536 < most) (hR : 65536 < R ∧ R < 131072) (CR : ∀ W, Calls Tryd.prog 33 #[.int .i64 n0, .int .i64 131072] W fun e w' => e = .returned (.int .i64 (R : Int)) ∧ W = w') :
    Calls Tryd.prog 8 #[.int .i64 n0, .int .i64 most] w (LongPost w) := by
  have C := Lib.hid CR
  clear CR
  obtain ⟨hR, hRm⟩ := hR
  have HR := Lib.hid (show R < 1 ∨ 65536 < R from .inr hR)
  have hr1 : decide ((R : Int) < 1) = false := by simp; omega
  have HM := Lib.hid (show most < 1 ∨ 65536 < most from .inr hmost)
  have hmf : decide (most ≤ 65536) = false := by simp; omega
  have hR9 : R ≤ 131072 := by omega
  go_enter Tryd.func8, Tryd.ntmps8
  go_wp2_with (first
    | (go_at_call 33; (with_reducible refine (C.out _).mono ?_); rintro e w1 ⟨rfl, rfl⟩)
    | (at_make; refine wpList_make_zeros rfl _ _ rfl R rfl rfl (by omega) ?_)
    | (go_at_call 21; (with_reducible refine (frame_no _ R _ _ HR.out (by omega)).mono ?_); rintro e w2 ⟨rfl, rfl⟩)
    | (go_at_call 35; (with_reducible refine (f_new_no most _ HM.out).mono ?_); rintro e w3 ⟨rfl, rfl⟩)
    | (go_at_call 19; (with_reducible refine (head_any _).mono ?_); rintro e wh ⟨rfl, hb⟩; have BH := Lib.hid hb; clear hb))
  go_ret
  exact ⟨rfl, bchain ((Below.refl w.heap.size w).alloc (Nat.le_refl _) _) BH.out⟩

set_option maxHeartbeats 2000000 in
set_option maxRecDepth 100000 in
theorem long_bz (n0 most : Int) (w : World) (R : Nat) (hmost : 1 ≤ most ∧ most ≤ 65536) (hR : 65536 < R ∧ R < 131072) (CR : ∀ W, Calls Tryd.prog 33 #[.int .i64 n0, .int .i64 131072] W fun e w' => e = .returned (.int .i64 (R : Int)) ∧ W = w') :
    Calls Tryd.prog 8 #[.int .i64 n0, .int .i64 most] w (LongPost w) := by
  have C := Lib.hid CR
  clear CR
  obtain ⟨hR, hRm⟩ := hR
  have HR := Lib.hid (show R < 1 ∨ 65536 < R from .inr hR)
  have hr1 : decide ((R : Int) < 1) = false := by simp; omega
  have HM := Lib.hid hmost
  obtain ⟨hm1, hm2⟩ := hmost
  have hR9 : R ≤ 131072 := by omega
  go_enter Tryd.func8, Tryd.ntmps8
  go_wp2_with (first
    | (go_at_call 33; (with_reducible refine (C.out _).mono ?_); rintro e w1 ⟨rfl, rfl⟩)
    | (at_make; refine wpList_make_zeros rfl _ _ rfl R rfl rfl (by omega) ?_)
    | (go_at_call 21; (with_reducible refine (frame_no _ R _ _ HR.out (by omega)).mono ?_); rintro e w2 ⟨rfl, rfl⟩)
    | (go_at_call 35; (with_reducible refine (f_new_yes most _ HM.out.1 HM.out.2).mono ?_); rintro e w3 ⟨rfl, hfm, hb⟩; have FM := Lib.hid hfm; have B3 := Lib.hid hb; clear hfm hb)
    | (go_at_call 19; (with_reducible refine (head_any _).mono ?_); rintro e wh ⟨rfl, hb⟩; have BH := Lib.hid hb; clear hb))
  go_ret
  exact ⟨rfl, bchain (bchain ((Below.refl w.heap.size w).alloc (Nat.le_refl _) _) B3.out) BH.out⟩

set_option maxHeartbeats 2000000 in
set_option maxRecDepth 100000 in
theorem long_cx (n0 most : Int) (w : World) (R : Nat) (hmost : most < 1) (hR : 1 ≤ R ∧ R ≤ 65536) (CR : ∀ W, Calls Tryd.prog 33 #[.int .i64 n0, .int .i64 131072] W fun e w' => e = .returned (.int .i64 (R : Int)) ∧ W = w') :
    Calls Tryd.prog 8 #[.int .i64 n0, .int .i64 most] w (LongPost w) := by
  have C := Lib.hid CR
  clear CR
  have HR := Lib.hid hR
  obtain ⟨hr1, hr2⟩ := hR
  have HM := Lib.hid (show most < 1 ∨ 65536 < most from .inl hmost)
  have hR9 : R ≤ 131072 := by omega
  go_enter Tryd.func8, Tryd.ntmps8
  go_wp2_with (first
    | (go_at_call 33; (with_reducible refine (C.out _).mono ?_); rintro e w1 ⟨rfl, rfl⟩)
    | (at_make; refine wpList_make_zeros rfl _ _ rfl R rfl rfl (by omega) ?_)
    | (go_at_call 21; (with_reducible refine (frame_yes _ R R (List.replicate R 0) _ (by simp) (zeros_cells w R) (fun h => by cases h) HR.out.1 HR.out.2).mono ?_); rintro e w2 ⟨A, c, rfl, hr, hb⟩; have RX := Lib.hid hr; have B2 := Lib.hid hb; clear hr hb)
    | (go_at_call 35; (with_reducible refine (f_new_no most _ HM.out).mono ?_); rintro e w3 ⟨rfl, rfl⟩)
    | (go_at_call 19; (with_reducible refine (head_any _).mono ?_); rintro e wh ⟨rfl, hb⟩; have BH := Lib.hid hb; clear hb))
  go_ret
  exact ⟨by first | rfl | simp, bchain (bchain ((Below.refl w.heap.size w).alloc (Nat.le_refl _) _) B2.out) BH.out⟩

set_option maxHeartbeats 2000000 in
set_option maxRecDepth 100000 in
theorem long_cy (n0 most : Int) (w : World) (R : Nat) (hmost : 65536 < most) (hR : 1 ≤ R ∧ R ≤ 65536) (CR : ∀ W, Calls Tryd.prog 33 #[.int .i64 n0, .int .i64 131072] W fun e w' => e = .returned (.int .i64 (R : Int)) ∧ W = w') :
    Calls Tryd.prog 8 #[.int .i64 n0, .int .i64 most] w (LongPost w) := by
  have C := Lib.hid CR
  clear CR
  have HR := Lib.hid hR
  obtain ⟨hr1, hr2⟩ := hR
  have HM := Lib.hid (show most < 1 ∨ 65536 < most from .inr hmost)
  have hmf : decide (most ≤ 65536) = false := by simp; omega
  have hR9 : R ≤ 131072 := by omega
  go_enter Tryd.func8, Tryd.ntmps8
  go_wp2_with (first
    | (go_at_call 33; (with_reducible refine (C.out _).mono ?_); rintro e w1 ⟨rfl, rfl⟩)
    | (at_make; refine wpList_make_zeros rfl _ _ rfl R rfl rfl (by omega) ?_)
    | (go_at_call 21; (with_reducible refine (frame_yes _ R R (List.replicate R 0) _ (by simp) (zeros_cells w R) (fun h => by cases h) HR.out.1 HR.out.2).mono ?_); rintro e w2 ⟨A, c, rfl, hr, hb⟩; have RX := Lib.hid hr; have B2 := Lib.hid hb; clear hr hb)
    | (go_at_call 35; (with_reducible refine (f_new_no most _ HM.out).mono ?_); rintro e w3 ⟨rfl, rfl⟩)
    | (go_at_call 19; (with_reducible refine (head_any _).mono ?_); rintro e wh ⟨rfl, hb⟩; have BH := Lib.hid hb; clear hb))
  go_ret
  exact ⟨by first | rfl | simp, bchain (bchain ((Below.refl w.heap.size w).alloc (Nat.le_refl _) _) B2.out) BH.out⟩

set_option maxHeartbeats 2000000 in
set_option maxRecDepth 100000 in
theorem long_cbad (n0 most : Int) (w : World) (R : Nat) (hmost : (1 ≤ most ∧ most ≤ 65536) ∧ most < (R : Int)) (hR : 1 ≤ R ∧ R ≤ 65536) (CR : ∀ W, Calls Tryd.prog 33 #[.int .i64 n0, .int .i64 131072] W fun e w' => e = .returned (.int .i64 (R : Int)) ∧ W = w') :
    Calls Tryd.prog 8 #[.int .i64 n0, .int .i64 most] w (LongPost w) := by
  have C := Lib.hid CR
  clear CR
  have HR := Lib.hid hR
  obtain ⟨hr1, hr2⟩ := hR
  obtain ⟨hmost, hnm⟩ := hmost
  have HM := Lib.hid hmost
  have HNM := Lib.hid hnm
  obtain ⟨hm1, hm2⟩ := hmost
  have hR9 : R ≤ 131072 := by omega
  go_enter Tryd.func8, Tryd.ntmps8
  go_wp2_with (first
    | (go_at_call 33; (with_reducible refine (C.out _).mono ?_); rintro e w1 ⟨rfl, rfl⟩)
    | (at_make; refine wpList_make_zeros rfl _ _ rfl R rfl rfl (by omega) ?_)
    | (go_at_call 21; (with_reducible refine (frame_yes _ R R (List.replicate R 0) _ (by simp) (zeros_cells w R) (fun h => by cases h) HR.out.1 HR.out.2).mono ?_); rintro e w2 ⟨A, c, rfl, hr, hb⟩; have RX := Lib.hid hr; have B2 := Lib.hid hb; clear hr hb)
    | (go_at_call 35; (with_reducible refine (f_new_yes most _ HM.out.1 HM.out.2).mono ?_); rintro e w3 ⟨rfl, hfm, hb⟩; have FM := Lib.hid hfm; have B3 := Lib.hid hb; clear hfm hb)
    | (go_at_call 37; (with_reducible refine (f_feed _ _ _ _ _ _ _ _ _ _ FM.out RX.out.len (RX.out.kept B3.out).cells (RX.out.none_no (by omega)) (by simp; omega)).mono ?_); rintro e w4 ⟨rfl, v', hfm, hf⟩
       obtain ⟨A4, c4, rfl, hfm2⟩ := fm_form hfm
       have FM4 := Lib.hid hfm2
       have B4 := Lib.hid (FM.out.fr_below hf)
       clear hfm hfm2 hf)
    | (go_at_call 40; (with_reducible refine (next_bad_R _ _ _ _ _ R hr2 _ FM4.out HNM.out).mono ?_); rintro e w5 ⟨rfl, ⟨f, hk⟩, ht⟩
       have K5 := Lib.hid hk
       have B5 := Lib.hid (ht.below (B := w2.heap.size) (by have := B3.out.size; have := B4.out.size; omega) (fun k hk => by subst hk; exact Nat.le_refl _))
       clear hk ht)
    | (go_at_call 39; (with_reducible refine (f_held _ _ _ _ _ _ _ K5.out).mono ?_); rintro e w6 ⟨rfl, rfl⟩)
    | (go_at_call 19; (with_reducible refine (head_any _).mono ?_); rintro e wh ⟨rfl, hb⟩; have BH := Lib.hid hb; clear hb))
  go_ret
  exact ⟨by first | rfl | simp, (bchain (bchain ((Below.refl w.heap.size w).alloc (Nat.le_refl _) _) B2.out) B3.out).trans (((B4.out.trans B5.out).trans (BH.out.mono (by have := B3.out.size; have := B4.out.size; have := B5.out.size; omega))).mono (by have := B2.out.size; simp at this; omega))⟩

set_option maxHeartbeats 2000000 in
set_option maxRecDepth 100000 in
theorem long_cyes (n0 most : Int) (w : World) (R : Nat) (hmost : (1 ≤ most ∧ most ≤ 65536) ∧ (1 ≤ R ∧ (R : Int) ≤ most)) (hR : 1 ≤ R ∧ R ≤ 65536) (CR : ∀ W, Calls Tryd.prog 33 #[.int .i64 n0, .int .i64 131072] W fun e w' => e = .returned (.int .i64 (R : Int)) ∧ W = w') :
    Calls Tryd.prog 8 #[.int .i64 n0, .int .i64 most] w (LongPost w) := by
  have C := Lib.hid CR
  clear CR
  have HR := Lib.hid hR
  obtain ⟨hr1, hr2⟩ := hR
  obtain ⟨hmost, hnm⟩ := hmost
  have HM := Lib.hid hmost
  have HNM := Lib.hid hnm
  obtain ⟨hm1, hm2⟩ := hmost
  have hn2 := hnm.2
  clear hnm
  have hR9 : R ≤ 131072 := by omega
  go_enter Tryd.func8, Tryd.ntmps8
  go_wp2_with (first
    | (go_at_call 33; (with_reducible refine (C.out _).mono ?_); rintro e w1 ⟨rfl, rfl⟩)
    | (at_make; refine wpList_make_zeros rfl _ _ rfl R rfl rfl (by omega) ?_)
    | (go_at_call 21; (with_reducible refine (frame_yes _ R R (List.replicate R 0) _ (by simp) (zeros_cells w R) (fun h => by cases h) HR.out.1 HR.out.2).mono ?_); rintro e w2 ⟨A, c, rfl, hr, hb⟩; have RX := Lib.hid hr; have B2 := Lib.hid hb; clear hr hb)
    | (go_at_call 35; (with_reducible refine (f_new_yes most _ HM.out.1 HM.out.2).mono ?_); rintro e w3 ⟨rfl, hfm, hb⟩; have FM := Lib.hid hfm; have B3 := Lib.hid hb; clear hfm hb)
    | (go_at_call 37; (with_reducible refine (f_feed _ _ _ _ _ _ _ _ _ _ FM.out RX.out.len (RX.out.kept B3.out).cells (RX.out.none_no (by omega)) (by simp; omega)).mono ?_); rintro e w4 ⟨rfl, v', hfm, hf⟩
       obtain ⟨A4, c4, rfl, hfm2⟩ := fm_form hfm
       have FM4 := Lib.hid hfm2
       have B4 := Lib.hid (FM.out.fr_below hf)
       clear hfm hfm2 hf)
    | (go_at_call 40; (with_reducible refine (next_yes_R _ _ _ _ _ R hr2 _ FM4.out HNM.out.1 HNM.out.2).mono ?_); rintro e w5 ⟨⟨Ab, cb, rfl⟩, ⟨A5, c5, hk⟩, ht⟩
       have K5 := Lib.hid hk
       have B5 := Lib.hid (ht.below (B := w2.heap.size) (by have := B3.out.size; have := B4.out.size; omega) (fun k hk => by subst hk; exact Nat.le_refl _))
       clear hk ht)
    | (go_at_call 39; (with_reducible refine (f_held _ _ _ _ _ _ _ K5.out).mono ?_); rintro e w6 ⟨rfl, rfl⟩)
    | (go_at_call 19; (with_reducible refine (head_any _).mono ?_); rintro e wh ⟨rfl, hb⟩; have BH := Lib.hid hb; clear hb))
  go_ret
  exact ⟨by first | rfl | simp, (bchain (bchain ((Below.refl w.heap.size w).alloc (Nat.le_refl _) _) B2.out) B3.out).trans (((B4.out.trans B5.out).trans (BH.out.mono (by have := B3.out.size; have := B4.out.size; have := B5.out.size; omega))).mono (by have := B2.out.size; simp at this; omega))⟩

theorem law_long (n0 most : Int) (w : World) : Calls Tryd.prog 8 #[.int .i64 n0, .int .i64 most] w fun e w' => e = .returned (.bool true) ∧ Below w.heap.size w w' := by
  refine Calls.mono ?_ (fun e w' h => (show LongPost w e w' from h))
  obtain ⟨R, hR, CR⟩ := round_R n0
  have CR' : ∀ W, Calls Tryd.prog 33 #[.int .i64 n0, .int .i64 131072] W fun e w' => e = .returned (.int .i64 (R : Int)) ∧ W = w' := CR
  by_cases h1 : R < 1
  · by_cases m1 : most < 1
    · exact long_ax n0 most w R m1 h1 CR'
    · by_cases m2 : 65536 < most
      · exact long_ay n0 most w R m2 h1 CR'
      · exact long_az n0 most w R ⟨by omega, by omega⟩ h1 CR'
  · by_cases h2 : 65536 < R
    · by_cases m1 : most < 1
      · exact long_bx n0 most w R m1 ⟨h2, hR⟩ CR'
      · by_cases m2 : 65536 < most
        · exact long_by n0 most w R m2 ⟨h2, hR⟩ CR'
        · exact long_bz n0 most w R ⟨by omega, by omega⟩ ⟨h2, hR⟩ CR'
    · by_cases m1 : most < 1
      · exact long_cx n0 most w R m1 ⟨by omega, by omega⟩ CR'
      · by_cases m2 : 65536 < most
        · exact long_cy n0 most w R m2 ⟨by omega, by omega⟩ CR'
        · by_cases m3 : most < (R : Int)
          · exact long_cbad n0 most w R ⟨⟨by omega, by omega⟩, m3⟩ ⟨by omega, by omega⟩ CR'
          · exact long_cyes n0 most w R ⟨⟨by omega, by omega⟩, by omega, by omega⟩ ⟨by omega, by omega⟩ CR'
end Go.Proofs.YtdgokebablhoiaaDoor
