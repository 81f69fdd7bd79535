/- slices.Clone, slices.Clip at bytes; the Writer's Bytes; Read. -/
import Derived.Test.YteffpfgdoganpaaDoorWWrite2
import Derived.WalkLawsBesides
namespace Go.Proofs.YteffpfgdoganpaaDoor
open Go.RowKit

theorem own_cells_alloc (W : World) : (W.alloc (.cells #[] 5)).ownsRow W.heap.size 5 1 (.slice (some ⟨W.heap.size, 0, none⟩) 0 0) 0 (bvs []) :=
  World.ownsRow_lit W #[] 0 (Nat.le_refl _) (by unfold maxLen; omega) (by simp)

theorem eqNil (w : World) (a : Option Addr) (n c : Nat) : (binOp .eql 45 (.slice a n c) (.slice none 0 0)).run Tryd.prog w = .ok (.bool a.isNone) w := Lib.run_eql_slice_nil w _ _ a n c 0 0 Tryd.underlying45
set_option maxRecDepth 100000 in
theorem clone_nil (c : Nat) (W : World) :
    Calls Tryd.prog 76 #[.slice none 0 c] W fun e w' => e = .returned (.slice none 0 0) ∧ W = w' := by
  have ke := fun (w : World) (a : Option Addr) (n c : Nat) => eqNil w a n c
  go_enter Tryd.func76, Tryd.ntmps76
  go_wp2
  go_ret
  exact ⟨rfl, rfl⟩
set_option maxRecDepth 100000 in
theorem clone_some (ad : Addr) (n c : Nat) (xs : List Int) (W : World) (hl : xs.length = n) (h : CellsAt W (some ad) (bvs xs)) (hn : n ≤ 211106232532992) :
    Calls Tryd.prog 76 #[.slice (some ad) n c] W fun e w' => ∃ v', e = .returned v' ∧ w'.ownsRow W.heap.size 5 1 v' n (bvs xs) ∧ Below W.heap.size W w' := by
  have H := Lib.hid h
  have HL := Lib.hid hl
  have HN := Lib.hid hn
  clear h hl hn
  have ke := fun (w : World) (a : Option Addr) (n c : Nat) => eqNil w a n c
  go_enter Tryd.func76, Tryd.ntmps76
  go_wp2_with (at_builtin; refine wpList_append_bytes rfl _ _ rfl W.heap.size _ 0 [] rfl (own_cells_alloc W) (some ad) n c (fun h => by cases h) xs rfl HL.out (H.out.below ((Below.refl _ _).alloc (Nat.le_refl _) _)) (by have := HN.out; omega) (by simp) ?_
               intro v' w2 hown hg hv
               have B2 := Lib.hid (below_grown ((Below.refl W.heap.size W).alloc (Nat.le_refl _) (.cells #[] 5)) hg (by intro g hg; cases hg; exact Nat.le_refl _) (by simp))
               have HO := Lib.hid hown
               clear hown hg hv)
  go_ret
  exact ⟨_, rfl, by simpa [bvs] using HO.out, B2.out⟩
theorem clone_wide (A : Option Addr) (n c : Nat) (xs : List Int) (W : World) (hl : xs.length = n) (h : CellsAt W A (bvs xs)) (hn : n ≤ 211106232532992) :
    Calls Tryd.prog 76 #[.slice A n c] W fun e w' => ∃ v', e = .returned v' ∧ w'.ownsRow W.heap.size 5 1 v' n (bvs xs) ∧ Below W.heap.size W w' := by
  cases A with
  | some ad => exact clone_some ad n c xs W hl h hn
  | none =>
    have hx : xs = [] := by
      cases xs with
      | nil => rfl
      | cons u us => obtain ⟨ad, h, _⟩ := h 0 (by simp [bvs]); cases h
    subst hx
    simp at hl
    subst hl
    refine (clone_nil c W).mono ?_
    rintro e w' ⟨rfl, rfl⟩
    exact ⟨_, rfl, World.ownsRow_nil W _ _ _, Below.refl _ _⟩

theorem clone_any (A : Option Addr) (n c : Nat) (xs : List Int) (W : World) (hl : xs.length = n) (h : CellsAt W A (bvs xs)) (hn : n ≤ 140737488355328) :
    Calls Tryd.prog 76 #[.slice A n c] W fun e w' => ∃ v', e = .returned v' ∧ w'.ownsRow W.heap.size 5 1 v' n (bvs xs) ∧ Below W.heap.size W w' := clone_wide A n c xs W hl h (by omega)
/-- A slice at the head of a row that is known: nil, or a block of bytes. -/
def RowAt (W : World) (A : Option Addr) (n lo : Nat) (xs : List Int) : Prop :=
  (A = none ∧ n = 0 ∧ xs = []) ∨ ∃ g cur, A = some ⟨g, 0, none⟩ ∧ lo ≤ g ∧ Blk W g 5 cur ∧ xs.length = n ∧ n ≤ cur.size ∧ cur.toList.take n = bvs xs
theorem row_of_own {W : World} {base : Nat} {v : Value} {n : Nat} {xs : List Int} (h : W.ownsRow base 5 1 v n (bvs xs)) : ∃ A c, v = .slice A n c ∧ RowAt W A n base xs ∧ n ≤ c := by
  obtain ⟨hl, h⟩ := h
  rcases h with ⟨rfl, rfl⟩ | ⟨g, cap, cur, rfl, hb, hg, hnc, _, hcs, htake⟩
  · have : xs = [] := List.eq_nil_of_length_eq_zero (by simpa [bvs] using hl)
    exact ⟨none, 0, rfl, .inl ⟨rfl, rfl, this⟩, Nat.le_refl _⟩
  · exact ⟨_, cap, rfl, .inr ⟨g, cur, rfl, hb, hg, by simpa [bvs] using hl, by omega, by simpa using htake⟩, hnc⟩
theorem RowAt.cells {W : World} {A : Option Addr} {n lo : Nat} {xs : List Int} (h : RowAt W A n lo xs) : CellsAt W A (bvs xs) := fun k hk => by
  rcases h with ⟨_, _, rfl⟩ | ⟨g, cur, rfl, _, hg, hl, hn, ht⟩
  · simp [bvs] at hk
  · refine ⟨_, rfl, hg.lt, ?_⟩
    have e : (⟨g, 0, none⟩ : Addr).add k = ⟨g, k, none⟩ := by cases k <;> simp [Addr.add]
    have hk' : k < n := by rw [bvs_len] at hk; omega
    rw [e, hg.cell k]
    have h1 : (cur.toList.take n)[k]? = (bvs xs)[k]? := by rw [ht]
    rw [List.getElem?_take, if_pos hk'] at h1
    rw [← Array.getElem?_toList, h1, List.getElem?_eq_getElem hk]
theorem RowAt.kept {W W' : World} {A : Option Addr} {n lo : Nat} {xs : List Int} (h : RowAt W A n lo xs) (hb : Below W.heap.size W W') : RowAt W' A n lo xs := by
  rcases h with h | ⟨g, cur, rfl, h1, hg, r⟩
  · exact .inl h
  · exact .inr ⟨g, cur, rfl, h1, hg.kept hb, r⟩
theorem RowAt.len {W : World} {A : Option Addr} {n lo : Nat} {xs : List Int} (h : RowAt W A n lo xs) : xs.length = n := by
  rcases h with ⟨_, rfl, rfl⟩ | ⟨_, _, _, _, _, h, _⟩
  · rfl
  · exact h
/-- 'string(b)'. -/
theorem RowAt.conv {W : World} {A : Option Addr} {n lo : Nat} {xs : List Int} (h : RowAt W A n lo xs) (c : Nat) : (convert 45 9 (.slice A n c)).run Tryd.prog W = .ok (.string (strOfNums xs)) W := by
  have hc := h.cells
  have hl := h.len
  rcases h with ⟨rfl, rfl, rfl⟩ | ⟨g, cur, rfl, _, hg, _, hn, ht⟩
  · exact run_convert_bytes_nil (P := Tryd.prog) W _ _ Tryd.underlying45 Tryd.underlying5 0 c _ Tryd.underlying9
  · refine run_convert_bytes_arg (P := Tryd.prog) W _ _ Tryd.underlying45 Tryd.underlying5 g 0 n c xs hl (fun i hi => ?_) _ Tryd.underlying9
    obtain ⟨ad, e, _, h2⟩ := hc i (by rw [bvs_len]; omega)
    cases e
    have e : (⟨g, 0, none⟩ : Addr).add i = ⟨g, i, none⟩ := by cases i <;> simp [Addr.add]
    rw [e] at h2
    rw [Nat.zero_add, h2]
    simp [bvs, List.getD, List.getElem?_eq_getElem (show i < xs.length by omega)]

set_option maxRecDepth 100000 in
theorem clip_any (A : Option Addr) (n c : Nat) (hc : n ≤ c) (hA : A = none → n = 0) (W : World) :
    Calls Tryd.prog 75 #[.slice A n c] W fun e w' => e = .returned (.slice A n n) ∧ W = w' := by
  cases A with
  | none =>
    obtain rfl := hA rfl
    go_enter Tryd.func75, Tryd.ntmps75
    go_wp2
    go_ret
    exact ⟨rfl, rfl⟩
  | some ad =>
    clear hA
    go_enter Tryd.func75, Tryd.ntmps75
    go_wp2
    all_goals
      go_ret
      exact ⟨rfl, rfl⟩

set_option maxRecDepth 100000 in
theorem w_bytes_wide (base p : Nat) (v : Value) (bs : List Int) (W : World) (h : Wr W base p v bs) (hbs : bs.length ≤ 211106232532992) :
    Calls Tryd.prog 51 #[.pointer (some ⟨p, 0, none⟩)] W fun e w' => ∃ A, e = .returned (.slice A bs.length bs.length) ∧ RowAt w' A bs.length W.heap.size bs ∧ Below W.heap.size W w' := by
  obtain ⟨A, c, rfl, hr, hc⟩ := row_of_own h.own
  have p0 : W.cell? ⟨p, 0, none⟩ = some (.slice A bs.length c) := h.blk.cell 0
  have C := Lib.hid (clone_wide A bs.length c bs W rfl hr.cells hbs)
  generalize hn : bs.length = n at p0 C ⊢
  have HN := Lib.hid hn
  clear h hr hc hbs hn
  go_enter Tryd.func51, Tryd.ntmps51
  go_wp2_with fail
  go_at_call 76; (with_reducible refine C.out.mono ?_); rintro e w1 ⟨v', rfl, hown, hb⟩
  obtain ⟨A', c', rfl, hr, hc⟩ := row_of_own hown
  have HR := Lib.hid hr
  have B := Lib.hid hb
  have hA : A' = none → n = 0 := by
    rcases hr with ⟨_, h, _⟩ | ⟨g, cur, h, _⟩
    · exact fun _ => h
    · exact fun h' => by rw [h] at h'; cases h'
  have C2 := Lib.hid (clip_any A' n c' hc hA w1)
  clear hown hr hb hA
  go_wp2_with fail
  go_at_call 75; (with_reducible refine C2.out.mono ?_); rintro e w2 ⟨rfl, rfl⟩
  go_wp2
  go_ret
  exact ⟨A', rfl, HR.out, B.out⟩
theorem w_bytes (base p : Nat) (v : Value) (bs : List Int) (W : World) (h : Wr W base p v bs) (hbs : bs.length ≤ 140737488355328) :
    Calls Tryd.prog 51 #[.pointer (some ⟨p, 0, none⟩)] W fun e w' => ∃ A, e = .returned (.slice A bs.length bs.length) ∧ RowAt w' A bs.length W.heap.size bs ∧ Below W.heap.size W w' := w_bytes_wide base p v bs W h (by omega)
end Go.Proofs.YteffpfgdoganpaaDoor
