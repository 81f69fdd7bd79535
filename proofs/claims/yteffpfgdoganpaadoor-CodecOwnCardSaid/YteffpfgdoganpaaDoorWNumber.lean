/- The Reader's Num (of the greatest bound), Int, End. -/
import Derived.Test.YteffpfgdoganpaaDoorWSevens
import Derived.Laws.DeepNot64
namespace Go.Proofs.YteffpfgdoganpaaDoor
open Go.RowKit

theorem hT_tur {W W' : World} {q : Nat} (h : W.cell? ⟨0, 0, none⟩ = some tyErr) (ht : Tur (· = q) W W') (hq : 0 < q) : W'.cell? ⟨0, 0, none⟩ = some tyErr := by
  have hb := ht.block 0 (World.block_lt_of_cell? W _ h) (by omega)
  rw [← h]
  simp only [World.cell?, hb]

theorem cell_drewN {W : World} {a : Addr} {v : Value} (h : W.cell? a = some v) (n : Nat) : (W.drewN n).cell? a = some v := h

def NumPost (W : World) (q : Nat) (v : Value) (xs : List Int) (first : Nat) (f : Nat → Value) (bd : Nat) (e : Ending) (w' : World) : Prop :=
  (∃ n k : Nat, e = .returned (f n) ∧ first < k ∧ k ≤ xs.length ∧ sev n = (xs.drop first).take (k - first) ∧ n < bd ∧ Blk w' q 145 (RdC v (k : Int) .nilIface) ∧ Tur (· = q) W w') ∨
  (∃ g code pl, e = .returned (.int .i64 0) ∧ Blk w' q 145 (RdC v (first : Int) (errV g)) ∧ Blk w' g 132 #[.int .i64 code, .int .i64 pl] ∧ Tur (· = q) W w')

set_option maxHeartbeats 1000000 in
set_option maxRecDepth 100000 in
theorem r_num_max (q : Nat) (A : Option Addr) (n c : Nat) (xs : List Int) (first : Nat) (W : World) (hT : W.cell? ⟨0, 0, none⟩ = some tyErr) (hq0 : 0 < q) (h : Blk W q 145 (RdC (.slice A n c) (first : Int) .nilIface)) (hl : xs.length = n) (hx : CellsAt W A (bvs xs)) (hq : ∀ ad, A = some ad → ad.block ≠ q)
    (hw : ∀ x ∈ xs, (Lit.int .u8 x).wf = true) (hf : first ≤ n) (hn : n ≤ 211106232532992) :
    Calls Tryd.prog 80 #[.pointer (some ⟨q, 0, none⟩), .int .i64 9223372036854775807] W (NumPost W q (.slice A n c) xs first (fun m => .int .i64 (m : Int)) 9223372036854775808) := by
  have C := Lib.hid (show Calls Tryd.prog 90 #[.pointer (some ⟨q, 0, none⟩), .int .i64 9, .int .u8 127] W _ from r_sevens q A n c xs first 9 127 W h hl hx hq hw hf hn ⟨by omega, by omega⟩ (by omega) (by omega))
  have HT := Lib.hid hT
  clear h hl hx hq hw hf hn hT
  go_enter Tryd.func80, Tryd.ntmps80
  go_wp2_with fail
  go_at_call 90; (with_reducible refine C.out.mono ?_); intro e w1 hp
  rcases hp with ⟨m, k, rfl, h1, h2, h3, h4, h5, h6, h7, h8⟩ | ⟨g, code, pl, rfl, h1, h2, h3⟩
  · have K := Lib.hid h7
    have T := Lib.hid h8
    have hm : m < 9223372036854775808 := by
      have := Nat.pow_le_pow_right (show 0 < 128 by omega) (show k - first ≤ 9 by omega)
      omega
    have HH := Lib.hid (show first < k ∧ k ≤ xs.length ∧ sev m = (xs.drop first).take (k - first) ∧ m < 9223372036854775808 from ⟨h1, h2, h4, hm⟩)
    have hm2 : (m : Int) ≤ 9223372036854775807 := by omega
    have hd : decide ((9223372036854775807 : Int) < (m : Int)) = false := by simp; omega
    clear h1 h2 h3 h4 h5 h6 h7 h8 hm
    go_wp2_with fail
    go_at_call 87; (with_reducible refine (r_broken_no q _ _ _ K.out).mono ?_); rintro e w2 ⟨rfl, hb⟩
    have K2 := Lib.hid (K.out.kept hb)
    have T2 := Lib.hid (T.out.trans (Tur.of_below (S := fun _ => False) hb) (fun _ h => h.elim))
    clear hb
    go_wp2
    go_ret
    exact .inl ⟨m, k, rfl, HH.out.1, HH.out.2.1, HH.out.2.2.1, HH.out.2.2.2, K2.out, T2.out⟩
  · have K := Lib.hid h1
    have G := Lib.hid h2
    have T := Lib.hid h3
    clear h1 h2 h3
    go_wp2_with fail
    go_at_call 87; (with_reducible refine (r_broken_yes q g _ _ _ (hT_tur HT.out T.out hq0) K.out).mono ?_); rintro e w2 ⟨rfl, hb⟩
    have K2 := Lib.hid (K.out.kept hb)
    have G2 := Lib.hid (G.out.kept hb)
    have T2 := Lib.hid (T.out.trans (Tur.of_below (S := fun _ => False) hb) (fun _ h => h.elim))
    clear hb
    go_wp2
    go_ret
    exact .inr ⟨g, code, pl, rfl, K2.out, G2.out, T2.out⟩

/-- What Int tells of a number. -/
def unzz (m : Nat) : Int := if m % 2 = 1 then -1 - (m : Int) / 2 else (m : Int) / 2
theorem zz_unzz (m : Nat) : zz (unzz m) = m := by
  unfold zz unzz
  by_cases h : m % 2 = 1
  · rw [if_pos h, if_pos (by omega)]; omega
  · rw [if_neg h, if_neg (by omega)]; omega
theorem unzz_bd (m : Nat) (h : m < 18446744073709551616) : -9223372036854775808 ≤ unzz m ∧ unzz m ≤ 9223372036854775807 := by
  unfold unzz
  split <;> omega
theorem and1 (m : Nat) (h : m < 18446744073709551616) : bits .and .u64 (m : Int) 1 = ((m % 2 : Nat) : Int) := by
  have := u64_and_nat m 1 h (by omega)
  rw [Nat.and_one_is_mod] at this
  exact this

set_option maxHeartbeats 1000000 in
set_option maxRecDepth 100000 in
theorem r_int (q : Nat) (A : Option Addr) (n c : Nat) (xs : List Int) (first : Nat) (W : World) (hT : W.cell? ⟨0, 0, none⟩ = some tyErr) (hq0 : 0 < q) (h : Blk W q 145 (RdC (.slice A n c) (first : Int) .nilIface)) (hl : xs.length = n) (hx : CellsAt W A (bvs xs)) (hq : ∀ ad, A = some ad → ad.block ≠ q)
    (hw : ∀ x ∈ xs, (Lit.int .u8 x).wf = true) (hf : first ≤ n) (hn : n ≤ 211106232532992) :
    Calls Tryd.prog 65 #[.pointer (some ⟨q, 0, none⟩)] W (NumPost W q (.slice A n c) xs first (fun m => .int .i64 (unzz m)) 18446744073709551616) := by
  have C := Lib.hid (show Calls Tryd.prog 90 #[.pointer (some ⟨q, 0, none⟩), .int .i64 10, .int .u8 1] W _ from r_sevens q A n c xs first 10 1 W h hl hx hq hw hf hn ⟨by omega, by omega⟩ (by omega) (fun _ => rfl))
  have HT := Lib.hid hT
  clear h hl hx hq hw hf hn hT
  go_enter Tryd.func65, Tryd.ntmps65
  go_wp2_with fail
  go_at_call 90; (with_reducible refine C.out.mono ?_); intro e w1 hp
  rcases hp with ⟨m, k, rfl, h1, h2, h3, h4, h5, h6, h7, h8⟩ | ⟨g, code, pl, rfl, h1, h2, h3⟩
  · have HH := Lib.hid (show first < k ∧ k ≤ xs.length ∧ sev m = (xs.drop first).take (k - first) ∧ m < 18446744073709551616 from ⟨h1, h2, h4, h6⟩)
    have K := Lib.hid h7
    have T := Lib.hid h8
    have ha := and1 m h6
    have hx : bits .xor .i64 (-1) ((m : Int) / 2) = -1 - (m : Int) / 2 := by have := i64_not (m / 2) (by omega); simpa using this
    have hm2 : (m : Int) / 2 ≤ 9223372036854775807 := by omega
    clear h1 h2 h3 h4 h5 h6 h7 h8
    go_wp2_with fail
    go_at_call 87; (with_reducible refine (r_broken_no q _ _ _ K.out).mono ?_); rintro e w2 ⟨rfl, hb⟩
    have K2 := Lib.hid (K.out.kept hb)
    have T2 := Lib.hid (T.out.trans (Tur.of_below (S := fun _ => False) hb) (fun _ h => h.elim))
    clear hb
    rcases Nat.mod_two_eq_zero_or_one m with hp | hp
    · rw [hp] at ha
      have HU := Lib.hid (show unzz m = (m : Int) / 2 by unfold unzz; rw [if_neg (by omega)])
      clear hp
      go_wp2
      go_ret
      exact .inl ⟨m, k, by show _ = Ending.returned (Value.int .i64 (unzz m)); rw [HU.out]; rfl, HH.out.1, HH.out.2.1, HH.out.2.2.1, HH.out.2.2.2, K2.out, T2.out⟩
    · rw [hp] at ha
      have HU := Lib.hid (show unzz m = -1 - (m : Int) / 2 by unfold unzz; rw [if_pos hp])
      clear hp
      go_wp2
      go_ret
      exact .inl ⟨m, k, by show _ = Ending.returned (Value.int .i64 (unzz m)); rw [HU.out]; rfl, HH.out.1, HH.out.2.1, HH.out.2.2.1, HH.out.2.2.2, K2.out, T2.out⟩
  · have K := Lib.hid h1
    have G := Lib.hid h2
    have T := Lib.hid h3
    clear h1 h2 h3
    go_wp2_with fail
    go_at_call 87; (with_reducible refine (r_broken_yes q g _ _ _ (hT_tur HT.out T.out hq0) K.out).mono ?_); rintro e w2 ⟨rfl, hb⟩
    have K2 := Lib.hid (K.out.kept hb)
    have G2 := Lib.hid (G.out.kept hb)
    have T2 := Lib.hid (T.out.trans (Tur.of_below (S := fun _ => False) hb) (fun _ h => h.elim))
    clear hb
    go_wp2
    go_ret
    exact .inr ⟨g, code, pl, rfl, K2.out, G2.out, T2.out⟩

set_option maxRecDepth 100000 in
theorem r_end_eq (q : Nat) (A : Option Addr) (n c : Nat) (W : World) (h : Blk W q 145 (RdC (.slice A n c) (n : Int) .nilIface)) :
    Calls Tryd.prog 62 #[.pointer (some ⟨q, 0, none⟩)] W fun e w' => e = .returned (.tuple #[]) ∧ Below W.heap.size W w' := by
  have p0 : W.cell? ⟨q, 0, none⟩ = some (.slice A n c) := h.cell 0
  have p1 : W.cell? ⟨q, 1, none⟩ = some (.int .i64 (n : Int)) := h.cell 1
  clear h
  go_enter Tryd.func62, Tryd.ntmps62
  go_wp2
  go_quiet (fail)
  go_wp2
  go_end0
  exact ⟨rfl, below_drewN (Below.refl _ _) _⟩
set_option maxRecDepth 100000 in
theorem r_end_lt (q : Nat) (A : Option Addr) (n c k : Nat) (hk : k < n) (W : World) (h : Blk W q 145 (RdC (.slice A n c) (k : Int) .nilIface)) :
    Calls Tryd.prog 62 #[.pointer (some ⟨q, 0, none⟩)] W fun e w' => e = .returned (.tuple #[]) ∧ ∃ g, Blk w' q 145 (RdC (.slice A n c) (k : Int) (errV g)) ∧ Blk w' g 132 #[.int .i64 13, .int .i64 (k : Int)] ∧ Tur (· = q) W w' := by
  have p0 : W.cell? ⟨q, 0, none⟩ = some (.slice A n c) := h.cell 0
  have p1 : W.cell? ⟨q, 1, none⟩ = some (.int .i64 (k : Int)) := h.cell 1
  have H := Lib.hid h
  have hd : decide (k < n) = true := by simpa using hk
  clear h
  go_enter Tryd.func62, Tryd.ntmps62
  go_wp2
  go_quiet (fail)
  go_wp2_with fail
  go_at_call 60; (with_reducible refine (r_fail_set q _ _ 13 (k : Int) _ (by decide) (H.out.drewN _)).mono ?_); rintro e w2 ⟨rfl, g, hk, hg, ht⟩
  go_wp2
  go_end0
  exact ⟨rfl, g, hk, hg, (Tur.of_below (S := (· = q)) (below_drewN (Below.refl _ _) _)).trans ht (fun _ h => .inl h)⟩
set_option maxRecDepth 100000 in
theorem r_end_fault (q g : Nat) (A : Option Addr) (n c k : Nat) (W : World) (hT : W.cell? ⟨0, 0, none⟩ = some tyErr) (h : Blk W q 145 (RdC (.slice A n c) (k : Int) (errV g))) :
    Calls Tryd.prog 62 #[.pointer (some ⟨q, 0, none⟩)] W fun e w' => e = .returned (.tuple #[]) ∧ Below W.heap.size W w' := by
  have p0 : W.cell? ⟨q, 0, none⟩ = some (.slice A n c) := h.cell 0
  have p1 : W.cell? ⟨q, 1, none⟩ = some (.int .i64 (k : Int)) := h.cell 1
  have H := Lib.hid h
  have HT := Lib.hid hT
  clear h hT
  by_cases hk : k < n
  · have hd : decide (k < n) = true := by simpa using hk
    go_enter Tryd.func62, Tryd.ntmps62
    go_wp2
    go_quiet (fail)
    go_wp2_with fail
    go_at_call 60; (with_reducible refine (r_fail_keep q g _ _ 13 (k : Int) _ (cell_drewN HT.out _) (H.out.drewN _)).mono ?_); rintro e w2 ⟨rfl, hb⟩
    go_wp2
    go_end0
    exact ⟨rfl, (below_drewN (Below.refl _ _) _).trans (hb.mono (by simp))⟩
  · have hd : decide (k < n) = false := by simpa using hk
    go_enter Tryd.func62, Tryd.ntmps62
    go_wp2
    go_quiet (fail)
    go_wp2
    go_end0
    exact ⟨rfl, below_drewN (Below.refl _ _) _⟩
end Go.Proofs.YteffpfgdoganpaaDoor
