/- agg's best, Least, Most at int64: what they answer, in plain words. -/
import Derived.Test.YtikacbfpeegcdaaDoorRows2
import Derived.Test.YtikacbfpeegcdaaDoorAggH
import Derived.WalkLawsBesides
namespace Go.Proofs.YtikacbfpeegcdaaDoor
open Go.RowKit

/-- The one of a list that is better than all others; d: what an empty one gives. -/
def bestL {α : Type} (lt : α → α → Bool) (d : α) : List α → α
  | [] => d
  | z :: t => t.foldl (fun x y => if lt y x then y else x) z
theorem bestL_one {α : Type} (lt : α → α → Bool) (d : α) (y : α) : bestL lt d ([] ++ [y]) = y := rfl
theorem bestL_snoc {α : Type} (lt : α → α → Bool) (d : α) (l : List α) (y : α) (h : 0 < l.length) : bestL lt d (l ++ [y]) = if lt y (bestL lt d l) then y else bestL lt d l := by
  cases l with
  | nil => simp at h
  | cons z t => show List.foldl _ _ (t ++ [y]) = _; rw [List.foldl_append]; rfl
theorem take_succ_ {α : Type} (l : List α) (k : Nat) (h : k < l.length) : l.take (k + 1) = l.take k ++ [l[k]] := by
  rw [List.take_add_one, List.getElem?_eq_getElem h]; rfl
def iltB (a b : Int) : Bool := decide (a < b)
def igtB (a b : Int) : Bool := decide (a > b)
def fltB (a b : Nat) : Bool := FloatKind.f64.format.order a b == some .lt
def fgtB (a b : Nat) : Bool := FloatKind.f64.format.order a b == some .gt


theorem Least_i64_fn (a b : Int) (w : World) : Calls Tryd.prog 35 #[.int .i64 a, .int .i64 b] w fun e w' => e = .returned (.bool (iltB a b)) ∧ w = w' := by
  unfold iltB
  go_enter Tryd.func35, Tryd.ntmps35
  go_wp2
  go_ret
  exact ⟨rfl, rfl⟩

theorem best_Least_i64 (A : Option Addr) (n cap : Nat) (zs : List Int) (w : World) (hl : zs.length = n) (hz : CellsAt w A (zs.map (.int .i64 ·))) (hn : n ≤ 9223372036854775807) :
    Calls Tryd.prog 34 #[.slice A n cap, .func (.func 35) #[] #[]] w fun e w' => e = .returned (.tuple #[.int .i64 (bestL iltB 0 zs), .bool (decide (0 < n))]) ∧ w = w' := by
  have HZ := Lib.hid hz
  have HL := Lib.hid hl
  clear hz hl
  go_enter Tryd.func34, Tryd.ntmps34
  go_wp2
  go_loop [4, 10] (fun x i => ∃ k : Nat, k ≤ n ∧ i = .int .i64 k ∧ x = .int .i64 (bestL iltB 0 (zs.take k))) (fun _ i => n - (intOf i).toNat)
  case atStart => exact ⟨0, Nat.zero_le _, rfl, by simp [bestL]⟩
  case round =>
    obtain ⟨k, hk, rfl, rfl⟩ := hrel
    by_cases hlt : k < n
    · obtain ⟨ad, rfl, hal, hcell⟩ := HZ.out k (by simp [HL.out]; exact hlt)
      have hkl : k < zs.length := by rw [HL.out]; exact hlt
      have hcr : w.cell? (ad.add k) = some (.int .i64 zs[k]) := by rw [hcell]; simp
      have HT := Lib.hid (take_succ_ zs k hkl)
      clear hcell
      by_cases h0 : k = 0
      · have HB := Lib.hid (show bestL iltB 0 (zs.take (k + 1)) = zs[k] by rw [HT.out]; subst h0; rfl)
        have hk0 : ((k : Int) == 0) = true := by simp [h0]
        clear h0
        generalize hx : zs[k] = x at hcr HB
        clear hx
        go_wp2
        go_round
        case rel => exact ⟨k + 1, by omega, by go_num, by rw [HB.out]⟩
        case measure => simp [intOf]; omega
      · have HB := Lib.hid (show bestL iltB 0 (zs.take (k + 1)) = if iltB zs[k] (bestL iltB 0 (zs.take k)) then zs[k] else bestL iltB 0 (zs.take k) by rw [HT.out]; exact bestL_snoc iltB 0 _ _ (by simp; omega))
        generalize hx : zs[k] = x at hcr HB
        have hk0 : ((k : Int) == 0) = false := by simp [h0]
        clear h0 hx
        generalize bestL iltB 0 (zs.take k) = y at HB
        have C := Lib.hid (fun W => Least_i64_fn x y W)
        by_cases hc : iltB x y = true
        · rw [hc] at HB C
          clear hc
          have HB2 := Lib.hid (HB.out.trans (if_pos rfl)); clear HB
          go_wp2_with (go_at_call 35; (with_reducible refine (C.out _).mono ?_); rintro e w1 ⟨rfl, rfl⟩)
          go_round
          case rel => exact ⟨k + 1, by omega, by go_num, by rw [HB2.out]⟩
          case measure => simp [intOf]; omega
        · simp only [Bool.not_eq_true] at hc
          rw [hc] at HB C
          clear hc
          have HB2 := Lib.hid (HB.out.trans (if_neg Bool.false_ne_true)); clear HB
          go_wp2_with (go_at_call 35; (with_reducible refine (C.out _).mono ?_); rintro e w1 ⟨rfl, rfl⟩)
          go_round
          case rel => exact ⟨k + 1, by omega, by go_num, by rw [HB2.out]⟩
          case measure => simp [intOf]; omega
    · have HE := Lib.hid (show zs.take k = zs from List.take_of_length_le (by rw [HL.out]; omega))
      go_wp2
      go_ret2
      exact ⟨by rw [HE.out]; simp, rfl⟩

theorem Least_i64 (A : Option Addr) (n cap : Nat) (zs : List Int) (w : World) (hl : zs.length = n) (hz : CellsAt w A (zs.map (.int .i64 ·))) (hn : n ≤ 9223372036854775807) :
    Calls Tryd.prog 12 #[.slice A n cap] w fun e w' => e = .returned (.tuple #[.int .i64 (bestL iltB 0 zs), .bool (decide (0 < n))]) ∧ w = w' := by
  have C := Lib.hid (best_Least_i64 A n cap zs w hl hz hn)
  clear hl hz
  go_enter Tryd.func12, Tryd.ntmps12
  go_wp2_with fail
  go_at_call 34; (with_reducible refine C.out.mono ?_); rintro e w1 ⟨rfl, rfl⟩
  go_wp2
  go_ret2
  exact ⟨rfl, rfl⟩

theorem Most_i64_fn (a b : Int) (w : World) : Calls Tryd.prog 36 #[.int .i64 a, .int .i64 b] w fun e w' => e = .returned (.bool (igtB a b)) ∧ w = w' := by
  unfold igtB
  go_enter Tryd.func36, Tryd.ntmps36
  go_wp2
  go_ret
  exact ⟨rfl, rfl⟩

theorem best_Most_i64 (A : Option Addr) (n cap : Nat) (zs : List Int) (w : World) (hl : zs.length = n) (hz : CellsAt w A (zs.map (.int .i64 ·))) (hn : n ≤ 9223372036854775807) :
    Calls Tryd.prog 34 #[.slice A n cap, .func (.func 36) #[] #[]] w fun e w' => e = .returned (.tuple #[.int .i64 (bestL igtB 0 zs), .bool (decide (0 < n))]) ∧ w = w' := by
  have HZ := Lib.hid hz
  have HL := Lib.hid hl
  clear hz hl
  go_enter Tryd.func34, Tryd.ntmps34
  go_wp2
  go_loop [4, 10] (fun x i => ∃ k : Nat, k ≤ n ∧ i = .int .i64 k ∧ x = .int .i64 (bestL igtB 0 (zs.take k))) (fun _ i => n - (intOf i).toNat)
  case atStart => exact ⟨0, Nat.zero_le _, rfl, by simp [bestL]⟩
  case round =>
    obtain ⟨k, hk, rfl, rfl⟩ := hrel
    by_cases hlt : k < n
    · obtain ⟨ad, rfl, hal, hcell⟩ := HZ.out k (by simp [HL.out]; exact hlt)
      have hkl : k < zs.length := by rw [HL.out]; exact hlt
      have hcr : w.cell? (ad.add k) = some (.int .i64 zs[k]) := by rw [hcell]; simp
      have HT := Lib.hid (take_succ_ zs k hkl)
      clear hcell
      by_cases h0 : k = 0
      · have HB := Lib.hid (show bestL igtB 0 (zs.take (k + 1)) = zs[k] by rw [HT.out]; subst h0; rfl)
        have hk0 : ((k : Int) == 0) = true := by simp [h0]
        clear h0
        generalize hx : zs[k] = x at hcr HB
        clear hx
        go_wp2
        go_round
        case rel => exact ⟨k + 1, by omega, by go_num, by rw [HB.out]⟩
        case measure => simp [intOf]; omega
      · have HB := Lib.hid (show bestL igtB 0 (zs.take (k + 1)) = if igtB zs[k] (bestL igtB 0 (zs.take k)) then zs[k] else bestL igtB 0 (zs.take k) by rw [HT.out]; exact bestL_snoc igtB 0 _ _ (by simp; omega))
        generalize hx : zs[k] = x at hcr HB
        have hk0 : ((k : Int) == 0) = false := by simp [h0]
        clear h0 hx
        generalize bestL igtB 0 (zs.take k) = y at HB
        have C := Lib.hid (fun W => Most_i64_fn x y W)
        by_cases hc : igtB x y = true
        · rw [hc] at HB C
          clear hc
          have HB2 := Lib.hid (HB.out.trans (if_pos rfl)); clear HB
          go_wp2_with (go_at_call 36; (with_reducible refine (C.out _).mono ?_); rintro e w1 ⟨rfl, rfl⟩)
          go_round
          case rel => exact ⟨k + 1, by omega, by go_num, by rw [HB2.out]⟩
          case measure => simp [intOf]; omega
        · simp only [Bool.not_eq_true] at hc
          rw [hc] at HB C
          clear hc
          have HB2 := Lib.hid (HB.out.trans (if_neg Bool.false_ne_true)); clear HB
          go_wp2_with (go_at_call 36; (with_reducible refine (C.out _).mono ?_); rintro e w1 ⟨rfl, rfl⟩)
          go_round
          case rel => exact ⟨k + 1, by omega, by go_num, by rw [HB2.out]⟩
          case measure => simp [intOf]; omega
    · have HE := Lib.hid (show zs.take k = zs from List.take_of_length_le (by rw [HL.out]; omega))
      go_wp2
      go_ret2
      exact ⟨by rw [HE.out]; simp, rfl⟩

theorem Most_i64 (A : Option Addr) (n cap : Nat) (zs : List Int) (w : World) (hl : zs.length = n) (hz : CellsAt w A (zs.map (.int .i64 ·))) (hn : n ≤ 9223372036854775807) :
    Calls Tryd.prog 13 #[.slice A n cap] w fun e w' => e = .returned (.tuple #[.int .i64 (bestL igtB 0 zs), .bool (decide (0 < n))]) ∧ w = w' := by
  have C := Lib.hid (best_Most_i64 A n cap zs w hl hz hn)
  clear hl hz
  go_enter Tryd.func13, Tryd.ntmps13
  go_wp2_with fail
  go_at_call 34; (with_reducible refine C.out.mono ?_); rintro e w1 ⟨rfl, rfl⟩
  go_wp2
  go_ret2
  exact ⟨rfl, rfl⟩
end Go.Proofs.YtikacbfpeegcdaaDoor
