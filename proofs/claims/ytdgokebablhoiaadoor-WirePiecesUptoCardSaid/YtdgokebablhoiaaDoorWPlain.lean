/- Plain: what is written is read again; a front of it is cut. -/
import Derived.Test.YtdgokebablhoiaaDoorWRd4
namespace Go.Proofs.YtdgokebablhoiaaDoor
open Go.RowKit

theorem drop_cons {xs : List Int} {j : Nat} {c : Int} {r : List Int} (h : xs.drop j = c :: r) : j < xs.length ∧ xs.getD j 0 = c ∧ xs.drop (j + 1) = r := by
  have h1 : j < xs.length := by
    rcases Nat.lt_or_ge j xs.length with h1 | h1
    · exact h1
    · rw [List.drop_eq_nil_of_le h1] at h; cases h
  rw [List.drop_eq_getElem_cons h1] at h
  injection h with h2 h3
  refine ⟨h1, ?_, h3⟩
  rw [List.getD_eq_getElem?_getD, List.getElem?_eq_getElem h1, Option.getD_some, h2]
theorem sev_sum (m i : Nat) (N : Nat) : N + m % 128 * 128 ^ i + m / 128 * 128 ^ (i + 1) = N + m * 128 ^ i := by
  have h := Nat.div_add_mod m 128
  generalize m / 128 = q at *
  generalize m % 128 = r at *
  rw [Nat.pow_succ, ← h, Nat.add_mul, Nat.mul_comm (128 ^ i) 128, ← Nat.mul_assoc, Nat.mul_comm q 128]
  omega
theorem sev_bd (m i most last : Nat) (hi : i + 1 < most) (h : m < (last + 1) * 128 ^ (most - 1 - i)) : m / 128 < (last + 1) * 128 ^ (most - 1 - (i + 1)) := by
  rw [show most - 1 - i = (most - 1 - (i + 1)) + 1 by omega, Nat.pow_succ, ← Nat.mul_assoc] at h
  omega
theorem go_sev (xs : List Int) (first most last : Nat) (hl : last ≤ 127) (rest : List Int) : ∀ (m i N : Nat), xs.drop (first + i) = sev m ++ rest → (0 < i → 0 < m) → i < most → m < (last + 1) * 128 ^ (most - 1 - i) →
    sevGo xs first most last (most - i) i N = .ok (N + m * 128 ^ i) (first + i + (sev m).length) := by
  intro m
  induction m using Nat.strongRecOn with
  | ind m ih =>
    intro i N hd h0 hi hb
    rw [show most - i = (most - i - 1) + 1 by omega, sevGo]
    by_cases h : m < 128
    · rw [sev_small m h] at hd ⊢
      obtain ⟨h1, h2, _⟩ := drop_cons hd
      rw [if_neg (by omega), h2, Int.toNat_natCast, if_neg, if_pos h]
      · rfl
      · rintro (⟨h3, h4⟩ | ⟨h3, h4⟩)
        · rw [show most - 1 - i = 0 by omega] at hb; omega
        · have := h0 h3; omega
    · rw [sev_big m h] at hd ⊢
      obtain ⟨h1, h2, h3⟩ := drop_cons hd
      have hi1 : i + 1 < most := by
        rcases Nat.lt_or_ge (i + 1) most with h4 | h4
        · exact h4
        · rw [show most - 1 - i = 0 by omega] at hb; omega
      rw [if_neg (by omega), h2, Int.toNat_natCast, if_neg (by omega), if_neg (by omega), show m % 128 + 128 - 128 = m % 128 by omega, show most - i - 1 = most - (i + 1) by omega,
        ih (m / 128) (by omega) (i + 1) _ h3 (fun _ => by omega) hi1 (sev_bd m i most last hi1 hb), sev_sum, List.length_cons]
      congr 1
      omega
theorem go_cut (xs : List Int) (first most last : Nat) : ∀ (m i N j : Nat), xs.drop (first + i) = (sev m).take j → first + i ≤ xs.length → j < (sev m).length → i < most → m < (last + 1) * 128 ^ (most - 1 - i) → last ≤ 127 →
    sevGo xs first most last (most - i) i N = .cut := by
  intro m
  induction m using Nat.strongRecOn with
  | ind m ih =>
    intro i N j hd hle hj hi hb hl
    rw [show most - i = (most - i - 1) + 1 by omega, sevGo]
    cases j with
    | zero =>
      rw [List.take_zero] at hd
      have := List.drop_eq_nil_iff.1 hd
      rw [if_pos (by omega)]
    | succ j =>
      by_cases h : m < 128
      · rw [sev_small m h] at hj; simp at hj
      · rw [sev_big m h, List.take_succ_cons] at hd
        rw [sev_big m h, List.length_cons] at hj
        obtain ⟨h1, h2, h3⟩ := drop_cons hd
        have hi1 : i + 1 < most := by
          rcases Nat.lt_or_ge (i + 1) most with h4 | h4
          · exact h4
          · rw [show most - 1 - i = 0 by omega] at hb; omega
        rw [if_neg (by omega), h2, Int.toNat_natCast, if_neg (by omega), if_neg (by omega), show most - i - 1 = most - (i + 1) by omega]
        exact ih (m / 128) (by omega) (i + 1) _ j h3 (by omega) (by omega) hi1 (sev_bd m i most last hi1 hb) hl
section
variable {xs rest : List Int} {first m j : Nat}
theorem sevAll_9 (hd : xs.drop first = sev m ++ rest) (hm : m < 9223372036854775808) : sevAll xs first 9 127 = .ok m (first + (sev m).length) := by
  have := go_sev xs first 9 127 (by omega) rest m 0 0 (by simpa using hd) (by omega) (by omega) (by simpa using hm)
  simpa [sevAll] using this
theorem sevAll_10 (hd : xs.drop first = sev m ++ rest) (hm : m < 18446744073709551616) : sevAll xs first 10 1 = .ok m (first + (sev m).length) := by
  have := go_sev xs first 10 1 (by omega) rest m 0 0 (by simpa using hd) (by omega) (by omega) (by simpa using hm)
  simpa [sevAll] using this
theorem sevCut_9 (hd : xs.drop first = (sev m).take j) (hf : first ≤ xs.length) (hj : j < (sev m).length) (hm : m < 9223372036854775808) : sevAll xs first 9 127 = .cut := by
  have := go_cut xs first 9 127 m 0 0 j (by simpa using hd) (by simpa using hf) hj (by omega) (by simpa using hm) (by omega)
  simpa [sevAll] using this
theorem sevCut_10 (hd : xs.drop first = (sev m).take j) (hf : first ≤ xs.length) (hj : j < (sev m).length) (hm : m < 18446744073709551616) : sevAll xs first 10 1 = .cut := by
  have := go_cut xs first 10 1 m 0 0 j (by simpa using hd) (by simpa using hf) hj (by omega) (by simpa using hm) (by omega)
  simpa [sevAll] using this
theorem numP_ok (hd : xs.drop first = sev m ++ rest) (hm : m < 9223372036854775808) (most : Int) (hmo : (m : Int) ≤ most) : numP xs most ⟨first, none⟩ = (m, ⟨first + (sev m).length, none⟩) := by
  have h : sevP xs 9 127 ⟨first, none⟩ = (m, ⟨first + (sev m).length, none⟩) := by unfold sevP; simp only; rw [sevAll_9 hd hm]
  unfold numP
  rw [h]
  have h2 : numS most first (m, ⟨first + (sev m).length, none⟩) = ⟨first + (sev m).length, none⟩ := by unfold numS; rw [if_neg (by simp only; omega)]
  simp only [h2]
  rfl
theorem numP_cut (hd : xs.drop first = (sev m).take j) (hf : first ≤ xs.length) (hj : j < (sev m).length) (hm : m < 9223372036854775808) (most : Int) (hmo : 0 ≤ most) : numP xs most ⟨first, none⟩ = (0, ⟨first, some (11, (xs.length : Int))⟩) := by
  have h : sevP xs 9 127 ⟨first, none⟩ = (0, ⟨first, some (11, (xs.length : Int))⟩) := by unfold sevP; simp only; rw [sevCut_9 hd hf hj hm]
  unfold numP
  rw [h]
  have h2 : numS most first (0, ⟨first, some (11, (xs.length : Int))⟩) = ⟨first, some (11, (xs.length : Int))⟩ := by unfold numS; rw [if_neg (by simp only; omega)]
  simp only [h2]
  rfl
theorem unzz_zz (x : Int) : unzz (zz x) = x := by
  unfold unzz zz
  split <;> split <;> omega
theorem intP_ok {x : Int} (hd : xs.drop first = sev (zz x) ++ rest) (hm : zz x < 18446744073709551616) : intP xs ⟨first, none⟩ = (x, ⟨first + (sev (zz x)).length, none⟩) := by
  have h : sevP xs 10 1 ⟨first, none⟩ = (zz x, ⟨first + (sev (zz x)).length, none⟩) := by unfold sevP; simp only; rw [sevAll_10 hd hm]
  unfold intP
  rw [h, unzz_zz]
  rfl
theorem intP_cut {x : Int} (hd : xs.drop first = (sev (zz x)).take j) (hf : first ≤ xs.length) (hj : j < (sev (zz x)).length) (hm : zz x < 18446744073709551616) : (intP xs ⟨first, none⟩).2 = ⟨first, some (11, (xs.length : Int))⟩ := by
  have h : sevP xs 10 1 ⟨first, none⟩ = (0, ⟨first, some (11, (xs.length : Int))⟩) := by unfold sevP; simp only; rw [sevCut_10 hd hf hj hm]
  unfold intP
  rw [h]
theorem drop_app {a b : List Int} (hd : xs.drop first = a ++ b) : xs.drop (first + a.length) = b := by
  rw [← List.drop_drop, hd, List.drop_left]
theorem drop_len {a b : List Int} (hd : xs.drop first = a ++ b) (hf : first ≤ xs.length) : first + a.length + b.length = xs.length := by
  have := congrArg List.length hd
  rw [List.length_drop, List.length_append] at this
  omega
theorem textP_ok {t : List Int} (hd : xs.drop first = sev t.length ++ (t ++ rest)) (hf : first ≤ xs.length) (hm : t.length < 9223372036854775808) (most : Int) (hmo : (t.length : Int) ≤ most) : textP xs most ⟨first, none⟩ = (t, ⟨first + (sev t.length ++ t).length, none⟩) := by
  unfold textP
  rw [numP_ok hd hm most hmo]
  unfold textQ
  have h1 := drop_app hd
  have h2 := drop_len hd hf
  rw [List.length_append] at h2
  simp only
  rw [if_neg (by omega), h1, List.take_left, List.length_append, Nat.add_assoc]
theorem textP_cut {t : List Int} (hd : xs.drop first = (sev t.length ++ t).take j) (hf : first ≤ xs.length) (hj : j < (sev t.length ++ t).length) (hm : t.length < 9223372036854775808) (most : Int) (hmo : (t.length : Int) ≤ most) : ∃ p, (textP xs most ⟨first, none⟩).2.fault = some (11, p) := by
  unfold textP
  by_cases hc : j < (sev t.length).length
  · rw [List.take_append_of_le_length (by omega)] at hd
    rw [numP_cut hd hf hc hm most (by omega)]
    exact ⟨_, rfl⟩
  · rw [List.take_append, List.take_of_length_le (by omega)] at hd
    rw [numP_ok hd hm most hmo]
    have h2 := drop_len hd hf
    rw [List.length_take] at h2
    rw [List.length_append] at hj
    unfold textQ
    simp only
    rw [if_pos (by omega)]
    exact ⟨_, rfl⟩
end

/-- The bytes of one call; what it asks of a Reader. -/
def enc (x : Cl) : List Int := if x.kind = 1 then sev x.n.toNat else if x.kind = 2 then sev (zz x.i) else if x.kind = 3 then sev x.s.size ++ strB x.s else []
def askP (xs : List Int) (s : RS) (x : Cl) : RS :=
  if x.kind = 1 then (numP xs 9223372036854775807 s).2 else if x.kind = 2 then (intP xs s).2 else if x.kind = 3 then (textP xs 9223372036854775807 s).2 else s
theorem zz_lt (x : Cl) (h : x.Ok) : zz x.i < 18446744073709551616 := by
  have := h.i.lo; have := h.i.hi
  unfold zz; split <;> omega
theorem num_lt (x : Cl) (h : x.Ok) : x.n.toNat < 9223372036854775808 := by have := h.n.hi; omega
section
variable {xs rest : List Int} {pos j : Nat} {x : Cl}
theorem ask_ok (hd : xs.drop pos = enc x ++ rest) (hx : x.Ok) (hs : x.s.size ≤ 1048576) (hp : pos ≤ xs.length) : askP xs ⟨pos, none⟩ x = ⟨pos + (enc x).length, none⟩ := by
  unfold enc at hd ⊢
  unfold askP
  by_cases h1 : x.kind = 1
  · rw [if_pos h1] at hd ⊢
    rw [if_pos h1, numP_ok hd (num_lt x hx) _ (by have := num_lt x hx; omega)]
  · rw [if_neg h1] at hd ⊢
    rw [if_neg h1]
    by_cases h2 : x.kind = 2
    · rw [if_pos h2] at hd ⊢
      rw [if_pos h2, intP_ok hd (zz_lt x hx)]
    · rw [if_neg h2] at hd ⊢
      rw [if_neg h2]
      by_cases h3 : x.kind = 3
      · rw [if_pos h3] at hd ⊢
        rw [if_pos h3]
        rw [← strB_len, List.append_assoc] at hd
        rw [← strB_len] at hs ⊢
        rw [textP_ok hd hp (by omega) _ (by omega)]
      · rw [if_neg h3, if_neg h3]
        rfl
theorem ask_cut (hd : xs.drop pos = (enc x).take j) (hj : j < (enc x).length) (hx : x.Ok) (hs : x.s.size ≤ 1048576) (hp : pos ≤ xs.length) : ∃ p, (askP xs ⟨pos, none⟩ x).fault = some (11, p) := by
  unfold enc at hd hj
  unfold askP
  by_cases h1 : x.kind = 1
  · rw [if_pos h1] at hd hj ⊢
    rw [numP_cut hd hp hj (num_lt x hx) _ (by omega)]
    exact ⟨_, rfl⟩
  · rw [if_neg h1] at hd hj ⊢
    by_cases h2 : x.kind = 2
    · rw [if_pos h2] at hd hj ⊢
      rw [intP_cut hd hp hj (zz_lt x hx)]
      exact ⟨_, rfl⟩
    · rw [if_neg h2] at hd hj ⊢
      by_cases h3 : x.kind = 3
      · rw [if_pos h3] at hd hj ⊢
        rw [← strB_len] at hd hj hs
        exact textP_cut hd hp hj (by omega) _ (by omega)
      · rw [if_neg h3] at hj
        simp at hj
theorem ask_stay {s : RS} {e p : Int} (h : s.fault = some (e, p)) : askP xs s x = s := by
  have h9 : ∀ a b, sevP xs a b s = (0, s) := fun a b => by unfold sevP; rw [h]
  have hn : ∀ most : Int, 0 ≤ most → numP xs most s = (0, s) := fun most hm => by
    unfold numP
    rw [h9]
    have h2 : numS most s.pos (0, s) = s := by unfold numS; rw [if_neg (by simp only; omega)]
    simp only [h2, h]
    rfl
  unfold askP
  split
  · rw [hn _ (by omega)]
  · split
    · unfold intP; rw [h9]
    · split
      · unfold textP textQ; rw [hn _ (by omega)]; simp only [h]
      · rfl
end
def asks (xs : List Int) (s : RS) (cs : List Cl) : RS := cs.foldl (askP xs) s
theorem asks_stay {xs : List Int} {e p : Int} : ∀ (cs : List Cl) {s : RS}, s.fault = some (e, p) → asks xs s cs = s
  | [], _, _ => rfl
  | x :: cs, s, h => by
    show asks xs (askP xs s x) cs = s
    rw [ask_stay h]
    exact asks_stay cs h
theorem asks_ok {xs rest : List Int} : ∀ (cs : List Cl) (pos : Nat), xs.drop pos = cs.flatMap enc ++ rest → (∀ x ∈ cs, x.Ok) → (∀ x ∈ cs, x.s.size ≤ 1048576) → pos ≤ xs.length → asks xs ⟨pos, none⟩ cs = ⟨pos + (cs.flatMap enc).length, none⟩
  | [], pos, _, _, _, _ => rfl
  | x :: cs, pos, hd, hx, hs, hp => by
    rw [List.flatMap_cons, List.append_assoc] at hd
    show asks xs (askP xs ⟨pos, none⟩ x) cs = _
    rw [ask_ok hd (hx x (List.mem_cons_self ..)) (hs x (List.mem_cons_self ..)) hp]
    have h1 := drop_app hd
    have h2 := drop_len hd hp
    rw [asks_ok cs _ h1 (fun y hy => hx y (List.mem_cons_of_mem _ hy)) (fun y hy => hs y (List.mem_cons_of_mem _ hy)) (by omega), List.flatMap_cons, List.length_append, Nat.add_assoc]
theorem asks_cut {xs : List Int} : ∀ (cs : List Cl) (pos j : Nat), xs.drop pos = (cs.flatMap enc).take j → j < (cs.flatMap enc).length → (∀ x ∈ cs, x.Ok) → (∀ x ∈ cs, x.s.size ≤ 1048576) → pos ≤ xs.length → ∃ p, (asks xs ⟨pos, none⟩ cs).fault = some (11, p)
  | [], _, j, _, hj, _, _, _ => by simp at hj
  | x :: cs, pos, j, hd, hj, hx, hs, hp => by
    rw [List.flatMap_cons] at hd hj
    show ∃ p, (asks xs (askP xs ⟨pos, none⟩ x) cs).fault = some (11, p)
    by_cases hc : j < (enc x).length
    · rw [List.take_append_of_le_length (by omega)] at hd
      obtain ⟨p, h⟩ := ask_cut hd hc (hx x (List.mem_cons_self ..)) (hs x (List.mem_cons_self ..)) hp
      exact ⟨p, by rw [asks_stay cs h]; exact h⟩
    · rw [List.take_append, List.take_of_length_le (by omega)] at hd
      rw [List.length_append] at hj
      rw [ask_ok hd (hx x (List.mem_cons_self ..)) (hs x (List.mem_cons_self ..)) hp]
      have h1 := drop_app hd
      have h2 := drop_len hd hp
      exact asks_cut cs _ _ h1 (by omega) (fun y hy => hx y (List.mem_cons_of_mem _ hy)) (fun y hy => hs y (List.mem_cons_of_mem _ hy)) (by omega)
theorem endP_stay {xs : List Int} {s : RS} {e p : Int} (h : s.fault = some (e, p)) : endP xs s = s := by
  unfold endP RS.fail
  split
  · rw [h]
  · rfl
theorem enc_pos (x : Cl) (h : x.kind = 1 ∨ x.kind = 2 ∨ x.kind = 3) : 0 < (enc x).length := by
  have hs : ∀ n, 0 < (sev n).length := fun n => by
    by_cases h : n < 128
    · rw [sev_small n h]; simp
    · rw [sev_big n h]; simp
  unfold enc
  split
  · exact hs _
  · split
    · exact hs _
    · split
      · rw [List.length_append]; have := hs x.s.size; omega
      · omega
theorem enc_le (x : Cl) (h : x.Ok) (hs : x.s.size ≤ 1048576) : (enc x).length ≤ 1048586 := by
  unfold enc
  split
  · have := sev_len10 x.n.toNat (by have := num_lt x h; omega); omega
  · split
    · have := sev_len10 (zz x.i) (zz_lt x h); omega
    · split
      · rw [List.length_append, strB_len]; have := sev_len10 x.s.size (by omega); omega
      · simp
theorem strOfNums_strB (s : ByteArray) : strOfNums (strB s) = s := by
  unfold strOfNums strB
  cases s with
  | mk d =>
    congr 1
    apply Array.ext'
    simp [List.map_map, Function.comp_def]
end Go.Proofs.YtdgokebablhoiaaDoor
