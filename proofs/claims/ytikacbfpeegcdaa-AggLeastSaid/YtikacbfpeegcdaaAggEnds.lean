/- The law's own ends and floats. -/
import Derived.Test.YtikacbfpeegcdaaAggFloat
import Derived.Test.YtikacbfpeegcdaaAggOrders
namespace Go.Proofs.Ytikacbfpeegcdaa
open Go.RowKit

/-- Among the first k of a list one is such. -/
def Seen {α : Type} (zs : List α) (k : Nat) (P : α → Prop) : Prop := ∃ j, ∃ h : j < zs.length, j < k ∧ P zs[j]
theorem Seen.no {α : Type} {zs : List α} {P : α → Prop} : ¬ Seen zs 0 P := fun ⟨_, _, h, _⟩ => absurd h (by omega)
theorem Seen.succ {α : Type} {zs : List α} {k : Nat} {P : α → Prop} (hk : k < zs.length) (h : Seen zs (k + 1) P) : Seen zs k P ∨ P zs[k] := by
  obtain ⟨j, h1, h2, h3⟩ := h
  rcases Nat.lt_or_ge j k with h | h
  · exact .inl ⟨j, h1, h, h3⟩
  · obtain rfl : j = k := by omega
    exact .inr h3
theorem Seen.all {α : Type} {zs : List α} {k : Nat} {P : α → Prop} {x : α} (hx : x ∈ zs) (hp : P x) (hk : zs.length ≤ k) : Seen zs k P := by
  obtain ⟨j, h, rfl⟩ := List.getElem_of_mem hx
  exact ⟨j, h, by omega, hp⟩

theorem ends_none (A : Option Addr) (cap : Nat) (a b : Int) (w : World) :
    Calls Try.prog 23 #[.slice A 0 cap, .int .i64 a, .int .i64 b] w fun e w' => e = .returned (.bool true) ∧ w = w' := by
  go_enter Try.func23, Try.ntmps23
  go_wp2
  go_loop [7, 8, 9] (fun lo hi i => lo = .bool true ∧ hi = .bool true ∧ i = .int .i64 0) (fun _ _ _ => 0)
  case atStart => exact ⟨rfl, rfl, rfl⟩
  case round =>
    obtain ⟨rfl, rfl, rfl⟩ := hrel
    go_wp2
    go_ret
    exact ⟨rfl, rfl⟩

theorem ends_some (A : Option Addr) (n cap : Nat) (zs : List Int) (a b : Int) (w : World) (hl : zs.length = n) (hz : CellsAt w A (ivs zs)) (ha : a ∈ zs) (hb : b ∈ zs) (h0 : 0 < n) (hn : n ≤ 9223372036854775807) :
    Calls Try.prog 23 #[.slice A n cap, .int .i64 a, .int .i64 b] w fun e w' => e = .returned (.bool true) ∧ w = w' := by
  have HZ := Lib.hid hz
  have HL := Lib.hid hl
  have HA := Lib.hid ha
  have HB := Lib.hid hb
  clear hz hl ha hb
  have hn0 : ((n : Int) == 0) = false := by simp; omega
  go_enter Try.func23, Try.ntmps23
  go_wp2
  go_loop [7, 8, 9] (fun lo hi i => ∃ (k : Nat) (p q : Bool), k ≤ n ∧ i = .int .i64 k ∧ lo = .bool p ∧ hi = .bool q ∧ Hid ((Seen zs k (· = a) → p = true) ∧ (Seen zs k (· = b) → q = true))) (fun _ _ i => n - (intOf i).toNat)
  case atStart => exact ⟨0, false, false, Nat.zero_le _, rfl, rfl, rfl, Lib.hid ⟨fun h => absurd h Seen.no, fun h => absurd h Seen.no⟩⟩
  case round =>
    obtain ⟨k, p, q, hk, rfl, rfl, rfl, HP⟩ := hrel
    by_cases hlt : k < n
    · obtain ⟨ad, rfl, hal, hcell⟩ := HZ.out k (by rw [ivs_len, HL.out]; exact hlt)
      have hkl : k < zs.length := by rw [HL.out]; exact hlt
      have hcr : w.cell? (ad.add k) = some (.int .i64 zs[k]) := by rw [hcell]; simp [ivs]
      have HS := Lib.hid (show (Seen zs (k + 1) (· = a) → Seen zs k (· = a) ∨ zs[k] = a) ∧ (Seen zs (k + 1) (· = b) → Seen zs k (· = b) ∨ zs[k] = b) from ⟨fun h => h.succ hkl, fun h => h.succ hkl⟩)
      clear hcell
      generalize hx : zs[k] = x at hcr HS
      clear hx
      cases p <;> cases q
      · go_wp2
        go_round
        case rel => exact ⟨k + 1, x == a, x == b, by omega, by go_num, rfl, rfl, Lib.hid ⟨fun h => (HS.out.1 h).elim (fun h => absurd (HP.out.1 h) (by simp)) (fun h => by simpa using h), fun h => (HS.out.2 h).elim (fun h => absurd (HP.out.2 h) (by simp)) (fun h => by simpa using h)⟩⟩
        case measure => simp [intOf]; omega
      · go_wp2
        go_round
        case rel => exact ⟨k + 1, x == a, true, by omega, by go_num, rfl, rfl, Lib.hid ⟨fun h => (HS.out.1 h).elim (fun h => absurd (HP.out.1 h) (by simp)) (fun h => by simpa using h), fun _ => rfl⟩⟩
        case measure => simp [intOf]; omega
      · go_wp2
        go_round
        case rel => exact ⟨k + 1, true, x == b, by omega, by go_num, rfl, rfl, Lib.hid ⟨fun _ => rfl, fun h => (HS.out.2 h).elim (fun h => absurd (HP.out.2 h) (by simp)) (fun h => by simpa using h)⟩⟩
        case measure => simp [intOf]; omega
      · go_wp2
        go_round
        case rel => exact ⟨k + 1, true, true, by omega, by go_num, rfl, rfl, Lib.hid ⟨fun _ => rfl, fun _ => rfl⟩⟩
        case measure => simp [intOf]; omega
    · obtain rfl := HP.out.1 (Seen.all HA.out rfl (by rw [HL.out]; omega))
      obtain rfl := HP.out.2 (Seen.all HB.out rfl (by rw [HL.out]; omega))
      go_wp2
      go_ret
      exact ⟨rfl, rfl⟩
theorem ends_any (A : Option Addr) (n cap : Nat) (zs : List Int) (a b : Int) (w : World) (hl : zs.length = n) (hz : CellsAt w A (ivs zs)) (ha : 0 < n → a ∈ zs) (hb : 0 < n → b ∈ zs) (hn : n ≤ 9223372036854775807) :
    Calls Try.prog 23 #[.slice A n cap, .int .i64 a, .int .i64 b] w fun e w' => e = .returned (.bool true) ∧ w = w' := by
  by_cases h : 0 < n
  · exact ends_some A n cap zs a b w hl hz (ha h) (hb h) h hn
  · obtain rfl : n = 0 := by omega
    exact ends_none A cap a b w

theorem floats_none (A : Option Addr) (cap : Nat) (w : World) :
    Calls Try.prog 22 #[.slice A 0 cap] w fun e w' => e = .returned (.bool true) ∧ w = w' := by
  have C1 := Lib.hid (Least_f64 A 0 cap [] w rfl (fun k hk => absurd hk (by simp)) (by omega))
  have C2 := Lib.hid (Most_f64 A 0 cap [] w rfl (fun k hk => absurd hk (by simp)) (by omega))
  have z0 : bestL fltB 0 [] = 0 := rfl
  have z1 : bestL fgtB 0 [] = 0 := rfl
  rw [z0] at C1
  rw [z1] at C2
  clear z0 z1
  have hd : (FloatKind.f64.format.order 0 0 != some .eq) = false := by rcases order_refl (FloatKind.f64.format.read 0) with h | h <;> decide
  go_enter Try.func22, Try.ntmps22
  go_wp2_with fail
  go_at_call 45; (with_reducible refine C1.out.mono ?_); rintro e w1 ⟨rfl, rfl⟩
  go_wp2_with fail
  go_at_call 46; (with_reducible refine C2.out.mono ?_); rintro e w1 ⟨rfl, rfl⟩
  go_wp2
  go_loop [7, 8, 9] (fun lo hi i => lo = .bool true ∧ hi = .bool true ∧ i = .int .i64 0) (fun _ _ _ => 0)
  case atStart => exact ⟨rfl, rfl, rfl⟩
  case round =>
    obtain ⟨rfl, rfl, rfl⟩ := hrel
    go_wp2
    go_ret
    exact ⟨rfl, rfl⟩

theorem floats_some (A : Option Addr) (n cap : Nat) (zs : List Nat) (w : World) (hl : zs.length = n) (hz : CellsAt w A (zs.map (Value.float .f64 ·))) (hq : ∀ x ∈ zs, (FloatKind.f64.format.order x x == some .eq) = true) (h0 : 0 < n) (hn : n ≤ 9223372036854775807) :
    Calls Try.prog 22 #[.slice A n cap] w fun e w' => e = .returned (.bool true) ∧ w = w' := by
  have HZ := Lib.hid hz
  have HL := Lib.hid hl
  have C1 := Lib.hid (Least_f64 A n cap zs w hl hz hn)
  have C2 := Lib.hid (Most_f64 A n cap zs w hl hz hn)
  obtain ⟨a1, a2, _⟩ := least_f64 zs
  obtain ⟨b1, b2, _⟩ := most_f64 zs
  generalize bestL fltB 0 zs = a at a1 a2 C1
  generalize bestL fgtB 0 zs = b at b1 b2 C2
  have HA := Lib.hid (a2 (by omega))
  have HB := Lib.hid (b2 (by omega))
  have QA := Lib.hid (hq a HA.out)
  have QB := Lib.hid (hq b HB.out)
  have A1 := Lib.hid a1
  have B1 := Lib.hid b1
  have hd : decide (0 < n) = true := by simpa using h0
  rw [hd] at C1 C2
  clear hz hl a1 a2 b1 b2 hq hd
  go_enter Try.func22, Try.ntmps22
  go_wp2_with fail
  go_at_call 45; (with_reducible refine C1.out.mono ?_); rintro e w1 ⟨rfl, rfl⟩
  go_wp2_with fail
  go_at_call 46; (with_reducible refine C2.out.mono ?_); rintro e w1 ⟨rfl, rfl⟩
  go_wp2
  go_loop [7, 8, 9] (fun lo hi i => ∃ (k : Nat) (p q : Bool), k ≤ n ∧ i = .int .i64 k ∧ lo = .bool p ∧ hi = .bool q ∧ Hid ((Seen zs k (· = a) → p = true) ∧ (Seen zs k (· = b) → q = true))) (fun _ _ i => n - (intOf i).toNat)
  case atStart => exact ⟨0, false, false, Nat.zero_le _, rfl, rfl, rfl, Lib.hid ⟨fun h => absurd h Seen.no, fun h => absurd h Seen.no⟩⟩
  case round =>
    obtain ⟨k, p, q, hk, rfl, rfl, rfl, HP⟩ := hrel
    by_cases hlt : k < n
    · obtain ⟨ad, rfl, hal, hcell⟩ := HZ.out k (by rw [List.length_map, HL.out]; exact hlt)
      have hkl : k < zs.length := by rw [HL.out]; exact hlt
      have hcr : w.cell? (ad.add k) = some (.float .f64 zs[k]) := by rw [hcell]; simp
      have HS := Lib.hid (show (Seen zs (k + 1) (· = a) → Seen zs k (· = a) ∨ zs[k] = a) ∧ (Seen zs (k + 1) (· = b) → Seen zs k (· = b) ∨ zs[k] = b) from ⟨fun h => h.succ hkl, fun h => h.succ hkl⟩)
      have t1 : (FloatKind.f64.format.order zs[k] a == some .lt) = false := A1.out _ (List.getElem_mem _)
      have t2 : (FloatKind.f64.format.order zs[k] b == some .gt) = false := B1.out _ (List.getElem_mem _)
      clear hcell
      generalize hx : zs[k] = x at hcr HS t1 t2
      clear hx
      have EA := Lib.hid (show x = a → (FloatKind.f64.format.order x a == some .eq) = true from fun h => by rw [h]; exact QA.out)
      have EB := Lib.hid (show x = b → (FloatKind.f64.format.order x b == some .eq) = true from fun h => by rw [h]; exact QB.out)
      cases p <;> cases q
      · go_wp2
        go_round
        case rel => exact ⟨k + 1, FloatKind.f64.format.order x a == some .eq, FloatKind.f64.format.order x b == some .eq, by omega, by go_num, rfl, rfl, Lib.hid ⟨fun h => (HS.out.1 h).elim (fun h => absurd (HP.out.1 h) (by simp)) EA.out, fun h => (HS.out.2 h).elim (fun h => absurd (HP.out.2 h) (by simp)) EB.out⟩⟩
        case measure => simp [intOf]; omega
      · go_wp2
        go_round
        case rel => exact ⟨k + 1, FloatKind.f64.format.order x a == some .eq, true, by omega, by go_num, rfl, rfl, Lib.hid ⟨fun h => (HS.out.1 h).elim (fun h => absurd (HP.out.1 h) (by simp)) EA.out, fun _ => rfl⟩⟩
        case measure => simp [intOf]; omega
      · go_wp2
        go_round
        case rel => exact ⟨k + 1, true, FloatKind.f64.format.order x b == some .eq, by omega, by go_num, rfl, rfl, Lib.hid ⟨fun _ => rfl, fun h => (HS.out.2 h).elim (fun h => absurd (HP.out.2 h) (by simp)) EB.out⟩⟩
        case measure => simp [intOf]; omega
      · go_wp2
        go_round
        case rel => exact ⟨k + 1, true, true, by omega, by go_num, rfl, rfl, Lib.hid ⟨fun _ => rfl, fun _ => rfl⟩⟩
        case measure => simp [intOf]; omega
    · obtain rfl := HP.out.1 (Seen.all HA.out rfl (by rw [HL.out]; omega))
      obtain rfl := HP.out.2 (Seen.all HB.out rfl (by rw [HL.out]; omega))
      go_wp2
      go_ret
      exact ⟨rfl, rfl⟩
theorem floats_any (A : Option Addr) (n cap : Nat) (zs : List Nat) (w : World) (hl : zs.length = n) (hz : CellsAt w A (zs.map (Value.float .f64 ·))) (hq : ∀ x ∈ zs, (FloatKind.f64.format.order x x == some .eq) = true) (hn : n ≤ 9223372036854775807) :
    Calls Try.prog 22 #[.slice A n cap] w fun e w' => e = .returned (.bool true) ∧ w = w' := by
  by_cases h : 0 < n
  · exact floats_some A n cap zs w hl hz hq h hn
  · obtain rfl : n = 0 := by omega
    exact floats_none A cap w
end Go.Proofs.Ytikacbfpeegcdaa
