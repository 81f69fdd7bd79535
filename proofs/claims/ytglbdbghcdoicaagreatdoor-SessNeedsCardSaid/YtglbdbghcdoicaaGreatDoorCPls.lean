/- Plain: what is written is read again; a front of it is cut; what is read is what is written. Plain: DecodeRequest of what EncodeRequest wrote, of a front of it, of it with bytes behind. What DecodeResponse reads, plain; there and back, with bytes behind, a front. Plain: what is read without a fault is what is written. What the reading of a response's fields leaves. -/
import Derived.Test.YtglbdbghcdoicaaGreatDoorCDecQm
import Derived.Test.YtglbdbghcdoicaaGreatDoorCEncRs
namespace Go.Proofs.YtglbdbghcdoicaaGreatDoor
open Go.RowKit

theorem drop_cons {xs : List Int} {j : Nat} {c : Int} {r : List Int} (h : xs.drop j = c :: r) : j < xs.length ∧ xs.getD j 0 = c ∧ xs.drop (j + 1) = r := by
  have h1 : j < xs.length := by
    rcases Nat.lt_or_ge j xs.length with h1 | h1
    · exact h1
    · rw [List.drop_eq_nil_of_le h1] at h; cases h
  rw [List.drop_eq_getElem_cons h1] at h
  injection h with h2 h3
  refine ⟨h1, ?_, h3⟩
  rw [List.getD_eq_getElem?_getD, List.getElem?_eq_getElem h1, Option.getD_some, h2]
theorem sev_sum (m i : Nat) (N : Nat) : N + m % 128 * 128 ^ i + m / 128 * 128 ^ (i + 1) = N + m * 128 ^ i := by
  have h := Nat.div_add_mod m 128
  generalize m / 128 = q at *
  generalize m % 128 = r at *
  rw [Nat.pow_succ, ← h, Nat.add_mul, Nat.mul_comm (128 ^ i) 128, ← Nat.mul_assoc, Nat.mul_comm q 128]
  omega
theorem sev_bd (m i most last : Nat) (hi : i + 1 < most) (h : m < (last + 1) * 128 ^ (most - 1 - i)) : m / 128 < (last + 1) * 128 ^ (most - 1 - (i + 1)) := by
  rw [show most - 1 - i = (most - 1 - (i + 1)) + 1 by omega, Nat.pow_succ, ← Nat.mul_assoc] at h
  omega
theorem go_sev (xs : List Int) (first most last : Nat) (hl : last ≤ 127) (rest : List Int) : ∀ (m i N : Nat), xs.drop (first + i) = sev m ++ rest → (0 < i → 0 < m) → i < most → m < (last + 1) * 128 ^ (most - 1 - i) →
    sevGo xs first most last (most - i) i N = .ok (N + m * 128 ^ i) (first + i + (sev m).length) := by
  intro m
  induction m using Nat.strongRecOn with
  | ind m ih =>
    intro i N hd h0 hi hb
    rw [show most - i = (most - i - 1) + 1 by omega, sevGo]
    by_cases h : m < 128
    · rw [sev_small m h] at hd ⊢
      obtain ⟨h1, h2, _⟩ := drop_cons hd
      rw [if_neg (by omega), h2, Int.toNat_natCast, if_neg, if_pos h]
      · rfl
      · rintro (⟨h3, h4⟩ | ⟨h3, h4⟩)
        · rw [show most - 1 - i = 0 by omega] at hb; omega
        · have := h0 h3; omega
    · rw [sev_big m h] at hd ⊢
      obtain ⟨h1, h2, h3⟩ := drop_cons hd
      have hi1 : i + 1 < most := by
        rcases Nat.lt_or_ge (i + 1) most with h4 | h4
        · exact h4
        · rw [show most - 1 - i = 0 by omega] at hb; omega
      rw [if_neg (by omega), h2, Int.toNat_natCast, if_neg (by omega), if_neg (by omega), show m % 128 + 128 - 128 = m % 128 by omega, show most - i - 1 = most - (i + 1) by omega,
        ih (m / 128) (by omega) (i + 1) _ h3 (fun _ => by omega) hi1 (sev_bd m i most last hi1 hb), sev_sum, List.length_cons]
      congr 1
      omega
theorem go_cut (xs : List Int) (first most last : Nat) : ∀ (m i N j : Nat), xs.drop (first + i) = (sev m).take j → first + i ≤ xs.length → j < (sev m).length → i < most → m < (last + 1) * 128 ^ (most - 1 - i) → last ≤ 127 →
    sevGo xs first most last (most - i) i N = .cut := by
  intro m
  induction m using Nat.strongRecOn with
  | ind m ih =>
    intro i N j hd hle hj hi hb hl
    rw [show most - i = (most - i - 1) + 1 by omega, sevGo]
    cases j with
    | zero =>
      rw [List.take_zero] at hd
      have := List.drop_eq_nil_iff.1 hd
      rw [if_pos (by omega)]
    | succ j =>
      by_cases h : m < 128
      · rw [sev_small m h] at hj; simp at hj
      · rw [sev_big m h, List.take_succ_cons] at hd
        rw [sev_big m h, List.length_cons] at hj
        obtain ⟨h1, h2, h3⟩ := drop_cons hd
        have hi1 : i + 1 < most := by
          rcases Nat.lt_or_ge (i + 1) most with h4 | h4
          · exact h4
          · rw [show most - 1 - i = 0 by omega] at hb; omega
        rw [if_neg (by omega), h2, Int.toNat_natCast, if_neg (by omega), if_neg (by omega), show most - i - 1 = most - (i + 1) by omega]
        exact ih (m / 128) (by omega) (i + 1) _ j h3 (by omega) (by omega) hi1 (sev_bd m i most last hi1 hb) hl
section
variable {xs rest : List Int} {first m j : Nat}
theorem sevAll_9 (hd : xs.drop first = sev m ++ rest) (hm : m < 9223372036854775808) : sevAll xs first 9 127 = .ok m (first + (sev m).length) := by
  have := go_sev xs first 9 127 (by omega) rest m 0 0 (by simpa using hd) (by omega) (by omega) (by simpa using hm)
  simpa [sevAll] using this
theorem sevAll_10 (hd : xs.drop first = sev m ++ rest) (hm : m < 18446744073709551616) : sevAll xs first 10 1 = .ok m (first + (sev m).length) := by
  have := go_sev xs first 10 1 (by omega) rest m 0 0 (by simpa using hd) (by omega) (by omega) (by simpa using hm)
  simpa [sevAll] using this
theorem sevCut_9 (hd : xs.drop first = (sev m).take j) (hf : first ≤ xs.length) (hj : j < (sev m).length) (hm : m < 9223372036854775808) : sevAll xs first 9 127 = .cut := by
  have := go_cut xs first 9 127 m 0 0 j (by simpa using hd) (by simpa using hf) hj (by omega) (by simpa using hm) (by omega)
  simpa [sevAll] using this
theorem sevCut_10 (hd : xs.drop first = (sev m).take j) (hf : first ≤ xs.length) (hj : j < (sev m).length) (hm : m < 18446744073709551616) : sevAll xs first 10 1 = .cut := by
  have := go_cut xs first 10 1 m 0 0 j (by simpa using hd) (by simpa using hf) hj (by omega) (by simpa using hm) (by omega)
  simpa [sevAll] using this
theorem numP_ok (hd : xs.drop first = sev m ++ rest) (hm : m < 9223372036854775808) (most : Int) (hmo : (m : Int) ≤ most) : numP xs most ⟨first, none⟩ = (m, ⟨first + (sev m).length, none⟩) := by
  have h : sevP xs 9 127 ⟨first, none⟩ = (m, ⟨first + (sev m).length, none⟩) := by unfold sevP; simp only; rw [sevAll_9 hd hm]
  unfold numP
  rw [h]
  have h2 : numS most first (m, ⟨first + (sev m).length, none⟩) = ⟨first + (sev m).length, none⟩ := by unfold numS; rw [if_neg (by simp only; omega)]
  simp only [h2]
  rfl
theorem numP_cut (hd : xs.drop first = (sev m).take j) (hf : first ≤ xs.length) (hj : j < (sev m).length) (hm : m < 9223372036854775808) (most : Int) (hmo : 0 ≤ most) : numP xs most ⟨first, none⟩ = (0, ⟨first, some (11, (xs.length : Int))⟩) := by
  have h : sevP xs 9 127 ⟨first, none⟩ = (0, ⟨first, some (11, (xs.length : Int))⟩) := by unfold sevP; simp only; rw [sevCut_9 hd hf hj hm]
  unfold numP
  rw [h]
  have h2 : numS most first (0, ⟨first, some (11, (xs.length : Int))⟩) = ⟨first, some (11, (xs.length : Int))⟩ := by unfold numS; rw [if_neg (by simp only; omega)]
  simp only [h2]
  rfl
theorem unzz_zz (x : Int) : unzz (zz x) = x := by
  unfold unzz zz
  split <;> split <;> omega
theorem intP_ok {x : Int} (hd : xs.drop first = sev (zz x) ++ rest) (hm : zz x < 18446744073709551616) : intP xs ⟨first, none⟩ = (x, ⟨first + (sev (zz x)).length, none⟩) := by
  have h : sevP xs 10 1 ⟨first, none⟩ = (zz x, ⟨first + (sev (zz x)).length, none⟩) := by unfold sevP; simp only; rw [sevAll_10 hd hm]
  unfold intP
  rw [h, unzz_zz]
  rfl
theorem intP_cut {x : Int} (hd : xs.drop first = (sev (zz x)).take j) (hf : first ≤ xs.length) (hj : j < (sev (zz x)).length) (hm : zz x < 18446744073709551616) : (intP xs ⟨first, none⟩).2 = ⟨first, some (11, (xs.length : Int))⟩ := by
  have h : sevP xs 10 1 ⟨first, none⟩ = (0, ⟨first, some (11, (xs.length : Int))⟩) := by unfold sevP; simp only; rw [sevCut_10 hd hf hj hm]
  unfold intP
  rw [h]
theorem drop_app {a b : List Int} (hd : xs.drop first = a ++ b) : xs.drop (first + a.length) = b := by
  rw [← List.drop_drop, hd, List.drop_left]
theorem drop_len {a b : List Int} (hd : xs.drop first = a ++ b) (hf : first ≤ xs.length) : first + a.length + b.length = xs.length := by
  have := congrArg List.length hd
  rw [List.length_drop, List.length_append] at this
  omega
theorem textP_ok {t : List Int} (hd : xs.drop first = sev t.length ++ (t ++ rest)) (hf : first ≤ xs.length) (hm : t.length < 9223372036854775808) (most : Int) (hmo : (t.length : Int) ≤ most) : textP xs most ⟨first, none⟩ = (t, ⟨first + (sev t.length ++ t).length, none⟩) := by
  unfold textP
  rw [numP_ok hd hm most hmo]
  unfold textQ
  have h1 := drop_app hd
  have h2 := drop_len hd hf
  rw [List.length_append] at h2
  simp only
  rw [if_neg (by omega), h1, List.take_left, List.length_append, Nat.add_assoc]
theorem textP_cut {t : List Int} (hd : xs.drop first = (sev t.length ++ t).take j) (hf : first ≤ xs.length) (hj : j < (sev t.length ++ t).length) (hm : t.length < 9223372036854775808) (most : Int) (hmo : (t.length : Int) ≤ most) : (textP xs most ⟨first, none⟩).2.fault = some (11, (xs.length : Int)) := by
  unfold textP
  by_cases hc : j < (sev t.length).length
  · rw [List.take_append_of_le_length (by omega)] at hd
    rw [numP_cut hd hf hc hm most (by omega)]
    rfl
  · rw [List.take_append, List.take_of_length_le (by omega)] at hd
    rw [numP_ok hd hm most hmo]
    have h2 := drop_len hd hf
    rw [List.length_take] at h2
    rw [List.length_append] at hj
    unfold textQ
    simp only
    rw [if_pos (by omega)]
end


theorem strOfNums_strB (s : ByteArray) : strOfNums (strB s) = s := by
  unfold strOfNums strB
  cases s with
  | mk d =>
    congr 1
    apply Array.ext'
    simp [List.map_map, Function.comp_def]
theorem fault_cases (s : RS) : s.fault = none ∨ s.fault.isSome = true := by cases s.fault <;> simp
theorem sevP_stay {xs : List Int} {most last : Nat} {s : RS} (h : s.fault.isSome = true) : sevP xs most last s = (0, s) := by
  unfold sevP
  split
  · rfl
  · rename_i h0; rw [h0] at h; cases h
theorem numP_stay {xs : List Int} {most : Int} {s : RS} (hm : 0 ≤ most) (h : s.fault.isSome = true) : numP xs most s = (0, s) := by
  unfold numP
  rw [sevP_stay h]
  have h2 : numS most s.pos (0, s) = s := by unfold numS; rw [if_neg (by simp only; omega)]
  simp only [h2, h]
  rfl
theorem intP_stay {xs : List Int} {s : RS} (h : s.fault.isSome = true) : (intP xs s).2 = s := by unfold intP; rw [sevP_stay h]
theorem textP_stay {xs : List Int} {most : Int} {s : RS} (hm : 0 ≤ most) (h : s.fault.isSome = true) : (textP xs most s).2 = s := by
  unfold textP textQ
  rw [numP_stay hm h]
  split
  · rfl
  · rename_i h0; simp only at h0; rw [h0] at h; cases h
theorem endP_stay {xs : List Int} {s : RS} (h : s.fault.isSome = true) : endP xs s = s := by
  unfold endP
  split
  · exact fail_same h
  · rfl

/-- These bytes are read as that; a front of them is cut. -/
structure Reads {α : Type} (f : List Int → RS → α × RS) (a : α) (bs : List Int) : Prop where
  ok : ∀ (xs rest : List Int) (pos : Nat), xs.drop pos = bs ++ rest → pos ≤ xs.length → f xs ⟨pos, none⟩ = (a, ⟨pos + bs.length, none⟩)
  cut : ∀ (xs : List Int) (pos j : Nat), xs.drop pos = bs.take j → j < bs.length → pos ≤ xs.length → (f xs ⟨pos, none⟩).2.fault = some (11, (xs.length : Int))
def Stays {α : Type} (f : List Int → RS → α × RS) : Prop := ∀ xs s, s.fault.isSome = true → (f xs s).2 = s
def retR {α : Type} (a : α) : List Int → RS → α × RS := fun _ s => (a, s)
def bindR {α β : Type} (f : List Int → RS → α × RS) (g : α → List Int → RS → β × RS) : List Int → RS → β × RS := fun xs s => g (f xs s).1 xs (f xs s).2
section
variable {α β : Type} {f : List Int → RS → α × RS} {g : α → List Int → RS → β × RS} {a : α} {b : β} {ax bs : List Int}
theorem Reads.ret (a : α) : Reads (retR a) a [] := ⟨fun _ _ _ _ _ => rfl, fun _ _ _ _ hj _ => absurd hj (Nat.not_lt_zero _)⟩
theorem Stays.ret (a : α) : Stays (retR a) := fun _ _ _ => rfl
theorem Stays.bind (hf : Stays f) (hg : ∀ a, Stays (g a)) : Stays (bindR f g) := fun xs s h => by
  unfold bindR
  rw [hf xs s h]
  exact hg _ xs s h
theorem Reads.bind (hf : Reads f a ax) (hg : Reads (g a) b bs) (hs : ∀ a, Stays (g a)) : Reads (bindR f g) b (ax ++ bs) where
  ok := fun xs rest pos hd hp => by
    rw [List.append_assoc] at hd
    unfold bindR
    rw [hf.ok xs _ pos hd hp]
    have h1 := drop_app hd
    have h2 := drop_len hd hp
    simp only
    rw [hg.ok xs rest _ h1 (by omega), List.length_append, Nat.add_assoc]
  cut := fun xs pos j hd hj hp => by
    unfold bindR
    by_cases hc : j < ax.length
    · rw [List.take_append_of_le_length (by omega)] at hd
      have h := hf.cut xs pos j hd hc hp
      rw [hs _ xs _ (by rw [h]; rfl)]
      exact h
    · rw [List.take_append, List.take_of_length_le (by omega)] at hd
      rw [List.length_append] at hj
      rw [hf.ok xs _ pos hd hp]
      have h1 := drop_app hd
      have h2 := drop_len hd hp
      simp only
      exact hg.cut xs _ _ h1 (by omega) (by omega)
theorem Reads.to {a' : α} {ax' : List Int} (h : Reads f a ax) (e : a = a') (e2 : ax = ax') : Reads f a' ax' := e ▸ e2 ▸ h
end
/-- Numbers, ints, texts. -/
theorem Reads.num {m : Nat} (h : (m : Int) ≤ M40) : Reads (fun xs s => numP xs M40 s) m (sev m) := by
  have h9 : (m : Int) ≤ 1099511627776 := h
  exact ⟨fun _ _ _ hd _ => numP_ok hd (by omega) _ h, fun _ _ _ hd hj hp => by rw [numP_cut hd hp hj (by omega) _ (by decide)]⟩
theorem Stays.num : Stays (fun xs s => numP xs M40 s) := fun xs s h => by simp only [numP_stay (xs := xs) (most := M40) (by decide) h]
theorem Reads.int {x : Int} (h : I64C x) : Reads (fun xs s => intP xs s) x (sev (zz x)) :=
  ⟨fun _ _ _ hd _ => intP_ok hd (zz_lt h), fun _ _ _ hd hj hp => by rw [intP_cut hd hp hj (zz_lt h)]⟩
theorem Stays.int : Stays (fun xs s => intP xs s) := fun _ _ h => intP_stay h
theorem Reads.text {t : List Int} (h : t.length ≤ 32) : Reads (fun xs s => textP xs 32 s) t (sev t.length ++ t) :=
  ⟨fun xs rest pos hd hp => textP_ok (rest := rest) (by rw [hd, List.append_assoc]) hp (by omega) _ (by omega), fun _ _ _ hd hj hp => textP_cut hd hp hj (by omega) _ (by omega)⟩
theorem Stays.text : Stays (fun xs s => textP xs 32 s) := fun _ _ h => textP_stay (by decide) h
theorem Reads.congr {α : Type} {f f' : List Int → RS → α × RS} {a : α} {bs : List Int} (h : Reads f a bs) (e : ∀ xs s, f' xs s = f xs s) : Reads f' a bs := by
  have : f' = f := funext fun xs => funext fun s => e xs s
  rw [this]
  exact h
abbrev numR : List Int → RS → Nat × RS := fun xs s => numP xs M40 s
abbrev intR : List Int → RS → Int × RS := fun xs s => intP xs s
abbrev textR : List Int → RS → List Int × RS := fun xs s => textP xs 32 s
abbrev cellR : List Int → RS → CellV × RS := fun xs s => cellP xs s
theorem Stays.cell : Stays (fun xs s => cellP xs s) := fun xs s h => by
  have h1 : (numP xs M40 s).2 = s := Stays.num xs s h
  have h2 : (textP xs 32 s).2 = s := Stays.text xs s h
  show (intP xs (textP xs 32 (numP xs M40 s).2).2).2 = s
  rw [h1, h2]
  exact intP_stay h
abbrev cellB : List Int → RS → CellV × RS := bindR numR (fun v => bindR textR (fun t => bindR intR (fun i => retR (⟨(v : Int), strOfNums t, i⟩ : CellV))))
theorem cellB_eq (xs : List Int) (s : RS) : cellP xs s = cellB xs s := by
  unfold cellP cellB bindR retR
  rfl
theorem Reads.cell {c : CellV} {most least : Int} (h : PlaceOk c most least) (hm : most ≤ 4) : Reads (fun xs s => cellP xs s) c (cellE c) := by
  have hk := h.k1
  have h0 := h.v0
  have h1 := h.v1
  refine Reads.congr (f := cellB) ?_ cellB_eq
  have hr := Reads.bind (f := numR) (g := fun v => bindR textR (fun t => bindR intR (fun i => retR (⟨(v : Int), strOfNums t, i⟩ : CellV))))
    (Reads.num (m := c.view.toNat) (by show ((c.view.toNat : Nat) : Int) ≤ 1099511627776; omega))
    (Reads.bind (Reads.text (t := strB c.key) (by rw [strB_len]; exact hk)) (Reads.bind (Reads.int (h.S hm).start) (Reads.ret _) (fun i => Stays.ret _)) (fun t => Stays.bind Stays.int (fun i => Stays.ret _)))
    (fun v => Stays.bind Stays.text (fun t => Stays.bind Stays.int (fun i => Stays.ret _)))
  refine Reads.to hr ?_ ?_
  · rw [strOfNums_strB, show ((c.view.toNat : Nat) : Int) = c.view by omega]
  · rw [strB_len, List.append_nil]
    unfold cellE
    simp only [List.append_assoc]

/-- So many, one behind the other. -/
def stepG {α : Type} (f : List Int → RS → α × RS) (xs : List Int) (st : List α × RS) : List α × RS := if st.2.fault.isSome then st else (st.1 ++ [(f xs st.2).1], (f xs st.2).2)
def iterG {α : Type} (f : List Int → RS → α × RS) (xs : List Int) : Nat → List α × RS → List α × RS
  | 0, st => st
  | k + 1, st => stepG f xs (iterG f xs k st)
section
variable {α : Type} {f : List Int → RS → α × RS}
theorem iterG_front (xs : List Int) : ∀ (k : Nat) (st : List α × RS), iterG f xs (k + 1) st = iterG f xs k (stepG f xs st)
  | 0, _ => rfl
  | k + 1, st => by rw [iterG, iterG_front xs k st]; rfl
theorem iterG_stay {xs : List Int} {st : List α × RS} (h : st.2.fault.isSome = true) : ∀ k, iterG f xs k st = st
  | 0 => rfl
  | k + 1 => by rw [iterG, iterG_stay h k]; unfold stepG; rw [if_pos h]
theorem Stays.list (l : List α) (k : Nat) : Stays (fun xs s => iterG f xs k (l, s)) := fun _ _ h => by simp only [iterG_stay (st := (l, _)) h]
theorem Reads.list {enc : α → List Int} : ∀ (cs : List α), (∀ c ∈ cs, Reads f c (enc c)) → ∀ l, Reads (fun xs s => iterG f xs cs.length (l, s)) (l ++ cs) (cs.flatMap enc)
  | [], _, l => by rw [List.append_nil]; exact Reads.ret l
  | c :: cs, h, l => by
    have h1 := Reads.bind (g := fun a xs s => iterG f xs cs.length (l ++ [a], s)) (h c (List.mem_cons_self ..)) (Reads.list cs (fun x hx => h x (List.mem_cons_of_mem _ hx)) (l ++ [c])) (fun a => Stays.list _ _)
    rw [List.append_assoc] at h1
    refine ⟨fun xs rest pos hd hp => ?_, fun xs pos j hd hj hp => ?_⟩
    · have := h1.ok xs rest pos hd hp
      exact (iterG_front xs cs.length (l, ⟨pos, none⟩)).trans this
    · have := h1.cut xs pos j hd hj hp
      exact (congrArg (fun x => x.2.fault) (iterG_front xs cs.length (l, ⟨pos, none⟩))).trans this
end
theorem cellsP_eq (xs : List Int) : ∀ (k : Nat) (st : List CellV × RS), cellsP xs k st = iterG cellP xs k st
  | 0, _ => rfl
  | k + 1, st => by rw [cellsP, cellsP_eq xs k st]; rfl
theorem Reads.count {m : Nat} {most : Int} (h : (m : Int) ≤ most) (h4 : most ≤ M40) : Reads (fun xs s => countP xs most s) m (sev m) := by
  refine ⟨fun xs rest pos hd hp => ?_, fun xs pos j hd hj hp => ?_⟩
  · unfold countP
    rw [(Reads.num (m := m) (by omega)).ok xs rest pos hd hp]
    rw [if_neg (by simp only; omega)]
  · unfold countP
    have hn := numP_cut hd hp hj (by have : (M40 : Int) = 1099511627776 := rfl
                                     omega) M40 (by decide)
    rw [hn, if_neg (by simp only; omega)]
theorem Stays.count {most : Int} (hm : 0 ≤ most) : Stays (fun xs s => countP xs most s) := fun xs s h => by
  show (countP xs most s).2 = s
  unfold countP
  rw [numP_stay (by decide) h, if_neg (by simp only; omega)]
end Go.Proofs.YtglbdbghcdoicaaGreatDoor

namespace Go.Proofs.YtglbdbghcdoicaaGreatDoor
open Go.RowKit

theorem Reads.numI {n : Int} (h : 0 ≤ n ∧ n ≤ 1099511627776) : Reads numR n.toNat (sev n.toNat) := Reads.num (by show ((n.toNat : Nat) : Int) ≤ 1099511627776; omega)
theorem toNat_cast {n : Int} (h : 0 ≤ n) : ((n.toNat : Nat) : Int) = n := by omega
theorem Stays.bodyD (r : Rq) : Stays (fun xs s => bodyD xs r s) := fun xs s h => by
  have hn : (numP xs M40 s).2 = s := Stays.num xs s h
  have hc : (cellP xs s).2 = s := Stays.cell xs s h
  have hk : (countP xs 16 s).2 = s := Stays.count (by decide) xs s h
  have hi : ∀ k, (cellsP xs k ([], s)).2 = s := fun k => by rw [cellsP_eq]; exact Stays.list [] k xs s h
  simp only [Go.Proofs.YtglbdbghcdoicaaGreatDoor.bodyD]
  split
  · simp only [hn, hc]
  · split
    · simp only [hn, hk, hi]
    · split
      · simp only [hn, hc]
      · split
        · simp only [hn]
        · rfl
theorem Reads.bodyRq {q : Rq} (h : RqGood q) : Reads (fun xs s => bodyD xs ⟨q.kind, q.id, 0, [], cell0, cell0, 0⟩ s) q (bodyRq q) := by
  obtain ⟨kind, id, ep, cs, frm, too, lim⟩ := q
  have hep : 0 ≤ ep ∧ ep ≤ 1099511627776 := ⟨h.ep0, h.ep1⟩
  by_cases h3 : kind = 3
  · subst h3
    obtain ⟨hf, ht, hl⟩ := h.scan rfl
    have hcs : cs = [] := h.nocs (show (3 : Int) ≠ 1 by decide) (show (3 : Int) ≠ 2 by decide)
    subst hcs
    dsimp only at hf ht hl
    refine Reads.congr (f := bindR numR (fun e => bindR cellR (fun x => bindR cellR (fun y => bindR numR (fun l => retR (⟨3, id, (e : Int), [], x, y, (l : Int)⟩ : Rq)))))) ?_ (fun xs s => by unfold bodyD; (try dsimp only); rw [if_neg (by decide), if_neg (by decide), if_pos rfl]; rfl)
    refine Reads.to (Reads.bind (Reads.numI hep) (Reads.bind (Reads.cell hf (by decide)) (Reads.bind (Reads.cell ht (by decide)) (Reads.bind (Reads.numI (n := lim) (by omega)) (Reads.ret _) (fun _ => Stays.ret _)) (fun _ => Stays.bind Stays.num (fun _ => Stays.ret _))) (fun _ => Stays.bind Stays.cell (fun _ => Stays.bind Stays.num (fun _ => Stays.ret _)))) (fun _ => Stays.bind Stays.cell (fun _ => Stays.bind Stays.cell (fun _ => Stays.bind Stays.num (fun _ => Stays.ret _))))) ?_ ?_
    · rw [toNat_cast hep.1, toNat_cast (by omega)]
    · simp [Go.Proofs.YtglbdbghcdoicaaGreatDoor.bodyRq]
  obtain ⟨e1, e2, e3⟩ := h.noscan h3
  dsimp only at e1 e2 e3
  subst e1 e2 e3
  by_cases h1 : kind = 1
  · subst h1
    obtain ⟨c, rfl⟩ : ∃ c, cs = [c] := List.length_eq_one_iff.1 (h.one rfl)
    refine Reads.congr (f := bindR numR (fun e => bindR cellR (fun c => retR (⟨1, id, (e : Int), [c], cell0, cell0, 0⟩ : Rq)))) ?_ (fun xs s => by unfold bodyD; (try dsimp only); rw [if_pos rfl]; rfl)
    refine Reads.to (Reads.bind (Reads.numI hep) (Reads.bind (Reads.cell (h.cells c (by simp)) (by decide)) (Reads.ret _) (fun _ => Stays.ret _)) (fun _ => Stays.bind Stays.cell (fun _ => Stays.ret _))) ?_ ?_
    · rw [toNat_cast hep.1]
    · simp [Go.Proofs.YtglbdbghcdoicaaGreatDoor.bodyRq, cellsE]
  by_cases h2 : kind = 2
  · subst h2
    have hl : cs.length ≤ 16 := h.len
    refine Reads.congr (f := bindR numR (fun e => bindR (fun xs s => countP xs 16 s) (fun n => bindR (fun xs s => iterG cellR xs n ([], s)) (fun cs => retR (⟨2, id, (e : Int), cs, cell0, cell0, 0⟩ : Rq))))) ?_ (fun xs s => by unfold bodyD; (try dsimp only); rw [if_neg (by decide), if_pos rfl, cellsP_eq]; rfl)
    refine Reads.to (Reads.bind (Reads.numI hep) (Reads.bind (Reads.count (m := cs.length) (by omega) (by decide)) (Reads.bind (Reads.list (enc := cellE) cs (fun c hc => Reads.cell (h.cells c hc) (by decide)) []) (Reads.ret _) (fun _ => Stays.ret _)) (fun _ => Stays.bind (Stays.list _ _) (fun _ => Stays.ret _))) (fun _ => Stays.bind (Stays.count (by decide)) (fun _ => Stays.bind (Stays.list _ _) (fun _ => Stays.ret _)))) ?_ ?_
    · rw [toNat_cast hep.1, List.nil_append]
    · simp [Go.Proofs.YtglbdbghcdoicaaGreatDoor.bodyRq, cellsE]
  have hcs : cs = [] := h.nocs h1 h2
  subst hcs
  by_cases h5 : kind = 5 ∨ kind = 6
  · refine Reads.congr (f := bindR numR (fun e => retR (⟨kind, id, (e : Int), [], cell0, cell0, 0⟩ : Rq))) ?_ (fun xs s => by unfold bodyD; (try dsimp only); rw [if_neg h1, if_neg h2, if_neg h3, if_pos h5]; rfl)
    refine Reads.to (Reads.bind (Reads.numI hep) (Reads.ret _) (fun _ => Stays.ret _)) ?_ ?_
    · rw [toNat_cast hep.1]
    · unfold Go.Proofs.YtglbdbghcdoicaaGreatDoor.bodyRq
      rw [if_neg h1, if_neg h2, if_neg h3, if_pos h5, List.append_nil]
  · have hk1 := h.k1
    have hk7 := h.k7
    dsimp only at hk1 hk7
    have he : ep = 0 := h.bare (by show kind = 4 ∨ kind = 7; omega)
    subst he
    refine Reads.congr (f := retR _) (Reads.to (Reads.ret _) rfl ?_) (fun xs s => by unfold bodyD; (try dsimp only); rw [if_neg h1, if_neg h2, if_neg h3, if_neg h5]; rfl)
    unfold Go.Proofs.YtglbdbghcdoicaaGreatDoor.bodyRq
    rw [if_neg h1, if_neg h2, if_neg h3, if_neg h5]
abbrev rqR : List Int → RS → Rq × RS := bindR numR (fun k => bindR numR (fun i => fun xs s => bodyD xs ⟨(k : Int), (i : Int), 0, [], cell0, cell0, 0⟩ s))
theorem readD_R (xs : List Int) : readD xs = rqR xs ⟨0, none⟩ := rfl
theorem Reads.rq {q : Rq} (h : RqGood q) : Reads rqR q (encRq q) := by
  have hk1 := h.k1
  have hk7 := h.k7
  have hb := Reads.bodyRq h
  refine Reads.bind (Reads.numI (n := q.kind) (by omega)) (Reads.bind (Reads.numI ⟨h.id0, h.id1⟩) ?_ (fun _ => Stays.bodyD _)) (fun _ => Stays.bind Stays.num (fun _ => Stays.bodyD _))
  rw [toNat_cast (by omega), toNat_cast h.id0]
  exact hb
theorem sev_one {n : Int} (h : 0 ≤ n ∧ n < 128) : sev n.toNat = [n] := by rw [sev_small _ (by omega), toNat_cast h.1]
theorem kindD_cons {k : Int} {ys : List Int} (h : 0 ≤ k ∧ k < 128) : kindD (k :: ys) = (k.toNat, ⟨1, none⟩) := by
  have := (Reads.numI (n := k) (by omega)).ok (k :: ys) ys 0 (by rw [sev_one h]; rfl) (Nat.zero_le _)
  rw [sev_one h] at this
  exact this
theorem kindD_nil : kindD [] = (0, ⟨0, some (11, 0)⟩) := by
  have := numP_cut (xs := []) (first := 0) (m := 1) (j := 0) rfl (Nat.le_refl _) (by rw [sev_small 1 (by decide)]; decide) (by decide) M40 (by decide)
  exact this
theorem encRq_cons {q : Rq} (h : RqGood q) : encRq q = q.kind :: (sev q.id.toNat ++ bodyRq q) := by
  have hk1 := h.k1
  have hk7 := h.k7
  unfold encRq
  rw [sev_one (by omega)]
  rfl
theorem fail_ok {p : Nat} : (RS.mk p none).fail 0 0 = ⟨p, none⟩ := rfl
theorem fail13 (n : Nat) : (RS.mk n none).fail 13 ((n : Nat) : Int) = ⟨n, some (13, (n : Int))⟩ := by simp [RS.fail]
theorem checkD_stay {code e p : Int} {s : RS} (h : s.fault = some (e, p)) : checkD code s = s := by
  unfold checkD
  rw [if_pos (by rw [h]; rfl)]
theorem checkD_ok (p : Nat) : checkD 0 ⟨p, none⟩ = ⟨p, none⟩ := rfl
/-- There and back; with bytes behind; a front. -/
theorem dec_enc_rq {q : Rq} (h : checkRq q = 0) (more : List Int) : decRq (encRq q ++ more) = if more = [] then (q, none) else (rq0, some (13, ((encRq q).length : Int))) := by
  have hg := rq_good h
  have hk1 := hg.k1
  have hk7 := hg.k7
  have hr := (Reads.rq hg).ok (encRq q ++ more) more 0 rfl (Nat.zero_le _)
  rw [Nat.zero_add] at hr
  have hkd : (kindD (encRq q ++ more)).1 = q.kind.toNat := by rw [encRq_cons hg, List.cons_append, kindD_cons (by omega)]
  have he : endP (encRq q ++ more) ⟨(encRq q).length, none⟩ = if more = [] then ⟨(encRq q).length, none⟩ else ⟨(encRq q).length, some (13, ((encRq q).length : Int))⟩ := by
    unfold endP
    by_cases hm : more = []
    · subst hm
      rw [List.append_nil, if_neg (Nat.lt_irrefl _), if_pos rfl]
    · have hl : 0 < more.length := List.length_pos_iff.2 hm
      rw [if_pos (by simp only [List.length_append]; omega), if_neg hm]
      exact fail13 _
  unfold decRq
  rw [readD_R, hr, if_neg (by rw [hkd]; omega)]
  simp only
  rw [he]
  by_cases hm : more = []
  · rw [if_pos hm, if_pos hm, h, checkD_ok, if_neg (by simp)]
  · rw [if_neg hm, if_neg hm, checkD_stay rfl, if_pos (by rfl)]
theorem dec_cut_rq {q : Rq} (h : checkRq q = 0) (j : Nat) (hj : j < (encRq q).length) : decRq ((encRq q).take j) = (rq0, some (11, (j : Int))) := by
  have hg := rq_good h
  have hk1 := hg.k1
  have hk7 := hg.k7
  cases j with
  | zero =>
    unfold decRq
    rw [List.take_zero, kindD_nil, if_pos (by simp)]
    rfl
  | succ j =>
    have hr := (Reads.rq hg).cut ((encRq q).take (j + 1)) 0 (j + 1) rfl hj (Nat.zero_le _)
    have hkd : (kindD ((encRq q).take (j + 1))).1 = q.kind.toNat := by rw [encRq_cons hg, List.take_succ_cons, kindD_cons (by omega)]
    have hl : ((encRq q).take (j + 1)).length = j + 1 := by rw [List.length_take]; omega
    rw [hl] at hr
    unfold decRq
    rw [readD_R, if_neg (by rw [hkd]; omega), endP_stay (by rw [hr]; rfl), checkD_stay hr, if_pos (by rw [hr]; rfl), hr]
/-- Unlike ones have unlike bytes, none a front of another's. -/
theorem front_rq {q p : Rq} (hq : checkRq q = 0) (hp : checkRq p = 0) (rest : List Int) (h : encRq p = encRq q ++ rest) : q = p := by
  have h1 := (Reads.rq (rq_good hp)).ok (encRq p) [] 0 (by rw [List.append_nil]; rfl) (Nat.zero_le _)
  have h2 := (Reads.rq (rq_good hq)).ok (encRq p) rest 0 (by rw [h]; rfl) (Nat.zero_le _)
  rw [h1] at h2
  exact (congrArg Prod.fst h2).symm
theorem sameRq_eq {a b : Rq} : sameRq a b ↔ a = b := by
  cases a; cases b
  simp [sameRq]
/-- How many bytes. -/
theorem sev_le {k n : Nat} (h : n < 128 ^ (k + 1)) : (sev n).length ≤ k + 1 := sev_len k n h
theorem sev_pos (n : Nat) : 0 < (sev n).length := by
  by_cases h : n < 128
  · rw [sev_small n h]; simp
  · rw [sev_big n h]; simp
theorem cellE_le {c : CellV} {most least : Int} (h : PlaceOk c most least) (hm : most ≤ 4) : (cellE c).length ≤ 43 := by
  obtain ⟨a, b, d, e, f, g⟩ := h
  have h1 := sev_le (k := 0) (n := c.view.toNat) (by omega)
  have h2 := sev_le (k := 0) (n := c.key.size) (by omega)
  have h3 := sev_le (k := 8) (n := zz c.start) (by unfold zz; split <;> omega)
  unfold cellE
  simp only [List.length_append, strB_len]
  omega
theorem cellsE_le : ∀ (cs : List CellV), (∀ c ∈ cs, PlaceOk c 3 1) → (cellsE cs).length ≤ 43 * cs.length
  | [], _ => by simp [cellsE]
  | c :: cs, h => by
    have h1 := cellE_le (h c (List.mem_cons_self ..)) (by decide)
    have h2 := cellsE_le cs (fun x hx => h x (List.mem_cons_of_mem _ hx))
    simp only [cellsE, List.flatMap_cons, List.length_append, List.length_cons] at h2 ⊢
    omega
theorem encRq_le {q : Rq} (h : RqGood q) : 2 ≤ (encRq q).length ∧ (encRq q).length ≤ 800 := by
  have hk1 := h.k1
  have hk7 := h.k7
  have h0 := h.id0
  have h1 := h.id1
  have e0 := h.ep0
  have e1 := h.ep1
  have i1 := sev_le (k := 5) (n := q.id.toNat) (by omega)
  have i2 := sev_pos q.id.toNat
  have i3 := sev_le (k := 5) (n := q.epoch.toNat) (by omega)
  have hb : (bodyRq q).length ≤ 760 := by
    have hl := h.len
    have hc := cellsE_le q.cs h.cells
    have hn := sev_le (k := 0) (n := q.cs.length) (by omega)
    unfold bodyRq
    split
    · rw [List.length_append]; omega
    · split
      · simp only [List.length_append]; omega
      · split
        · rename_i h3
          obtain ⟨hf, ht, hl1, hl2⟩ := h.scan h3
          have := cellE_le hf (by decide)
          have := cellE_le ht (by decide)
          have := sev_le (k := 1) (n := q.limit.toNat) (by omega)
          simp only [List.length_append]
          omega
        · split
          · omega
          · simp
  rw [encRq_cons h, List.length_cons, List.length_append]
  omega
end Go.Proofs.YtglbdbghcdoicaaGreatDoor

namespace Go.Proofs.YtglbdbghcdoicaaGreatDoor
open Go.RowKit

def i1P (xs : List Int) (s : RS) : Int × RS := intP xs (cellP xs s).2
def i2P (xs : List Int) (s : RS) : Int × RS := intP xs (i1P xs s).2
def i3P (xs : List Int) (s : RS) : Int × RS := intP xs (i2P xs s).2
def i4P (xs : List Int) (s : RS) : Int × RS := intP xs (i3P xs s).2
def rowD (xs : List Int) (s : RS) : RowV × RS := (⟨(cellP xs s).1, (i1P xs s).1, (i2P xs s).1, (i3P xs s).1, (i4P xs s).1⟩, (i4P xs s).2)
def n1P (xs : List Int) (s : RS) : Nat × RS := numP xs M40 s
def n2P (xs : List Int) (s : RS) : Nat × RS := numP xs M40 (n1P xs s).2
def n3P (xs : List Int) (s : RS) : Nat × RS := numP xs M40 (n2P xs s).2
def n4P (xs : List Int) (s : RS) : Nat × RS := numP xs M40 (n3P xs s).2
def n5P (xs : List Int) (s : RS) : Nat × RS := numP xs M40 (n4P xs s).2
def n6P (xs : List Int) (s : RS) : Nat × RS := numP xs M40 (n5P xs s).2
def stD (xs : List Int) (s : RS) : StV := ⟨((n1P xs s).1 : Int), ((n2P xs s).1 : Int), ((n3P xs s).1 : Int), ((n4P xs s).1 : Int), ((n5P xs s).1 : Int), ((n6P xs s).1 : Int)⟩
def rs0 : Rs := ⟨0, 0, 0, 0, [], st0⟩
def bodyS (xs : List Int) (r : Rs) (s : RS) : Rs × RS :=
  if r.kind = 1 then ({ r with rows := (iterG rowD xs (countP xs 256 s).1 ([], (countP xs 256 s).2)).1 }, (iterG rowD xs (countP xs 256 s).1 ([], (countP xs 256 s).2)).2)
  else if r.kind = 2 then ({ r with epoch := ((numP xs M40 s).1 : Int) }, (numP xs M40 s).2)
  else if r.kind = 4 then ({ r with st := stD xs s }, (n6P xs s).2)
  else if r.kind = 5 then ({ r with err := ((numP xs M40 s).1 : Int) }, (numP xs M40 s).2)
  else (r, s)
def readS (xs : List Int) : Rs × RS := bodyS xs ⟨((kindD xs).1 : Int), ((numP xs M40 (kindD xs).2).1 : Int), 0, 0, [], st0⟩ (numP xs M40 (kindD xs).2).2
/-- What DecodeResponse tells: the response, or the fault and its place. -/
def decRs (xs : List Int) : Rs × Option (Int × Int) :=
  if (kindD xs).1 < 1 ∨ 5 < (kindD xs).1 then (rs0, ((kindD xs).2.fail 15 0).fault)
  else if (checkD (checkRs (readS xs).1) (endP xs (readS xs).2)).fault.isSome then (rs0, (checkD (checkRs (readS xs).1) (endP xs (readS xs).2)).fault)
  else ((readS xs).1, none)

theorem Stays.rowT : Stays (fun xs s => rowD xs s) :=
  Stays.bind (f := cellR) Stays.cell (g := fun c => bindR intR (fun a => bindR intR (fun b => bindR intR (fun d => bindR intR (fun e => retR (⟨c, a, b, d, e⟩ : RowV)))))) (fun _ => Stays.bind Stays.int (fun _ => Stays.bind Stays.int (fun _ => Stays.bind Stays.int (fun _ => Stays.bind Stays.int (fun _ => Stays.ret _)))))
theorem Reads.row {r : RowV} (h : RowOk r) (hi : RowI r) : Reads (fun xs s => rowD xs s) r (rowE r) := by
  have hr := Reads.bind (f := cellR) (g := fun c => bindR intR (fun a => bindR intR (fun b => bindR intR (fun d => bindR intR (fun e => retR (⟨c, a, b, d, e⟩ : RowV))))))
    (Reads.cell h.cell (by decide)) (Reads.bind (Reads.int hi.count) (Reads.bind (Reads.int hi.sum) (Reads.bind (Reads.int hi.min) (Reads.bind (Reads.int hi.max) (Reads.ret _) (fun _ => Stays.ret _)) (fun _ => Stays.bind Stays.int (fun _ => Stays.ret _))) (fun _ => Stays.bind Stays.int (fun _ => Stays.bind Stays.int (fun _ => Stays.ret _)))) (fun _ => Stays.bind Stays.int (fun _ => Stays.bind Stays.int (fun _ => Stays.bind Stays.int (fun _ => Stays.ret _)))))
    (fun _ => Stays.bind Stays.int (fun _ => Stays.bind Stays.int (fun _ => Stays.bind Stays.int (fun _ => Stays.bind Stays.int (fun _ => Stays.ret _)))))
  exact Reads.to hr rfl (by simp [rowE])
theorem Stays.six {β : Type} (k : Nat → Nat → Nat → Nat → Nat → Nat → β) : Stays (bindR numR (fun a => bindR numR (fun b => bindR numR (fun c => bindR numR (fun d => bindR numR (fun e => bindR numR (fun f => retR (k a b c d e f)))))))) :=
  Stays.bind Stays.num (fun _ => Stays.bind Stays.num (fun _ => Stays.bind Stays.num (fun _ => Stays.bind Stays.num (fun _ => Stays.bind Stays.num (fun _ => Stays.bind Stays.num (fun _ => Stays.ret _))))))
theorem Stays.bodyS (r : Rs) : Stays (fun xs s => bodyS xs r s) := fun xs s h => by
  have hn : (numP xs M40 s).2 = s := Stays.num xs s h
  have hk : (countP xs 256 s).2 = s := Stays.count (by decide) xs s h
  have hi : ∀ k, (iterG rowD xs k ([], s)).2 = s := fun k => Stays.list [] k xs s h
  have h6 : (n6P xs s).2 = s := Stays.six (fun a b c d e f => (⟨a, b, c, d, e, f⟩ : StV)) xs s h
  simp only [Go.Proofs.YtglbdbghcdoicaaGreatDoor.bodyS]
  split
  · simp only [hk, hi]
  · split
    · simp only [hn]
    · split
      · simp only [h6]
      · split
        · simp only [hn]
        · rfl
theorem Reads.bodyRs {q : Rs} (h : RsGood q) (hri : ∀ x ∈ q.rows, RowI x) : Reads (fun xs s => bodyS xs ⟨q.kind, q.id, 0, 0, [], st0⟩ s) q (bodyRs q) := by
  obtain ⟨kind, id, err, ep, rows, st⟩ := q
  dsimp only at hri
  by_cases h1 : kind = 1
  · subst h1
    have hl : rows.length ≤ 256 := h.len
    have e1 : ep = 0 := h.noep (show (1 : Int) ≠ 2 by decide)
    have e2 : st = st0 := h.nost (show (1 : Int) ≠ 4 by decide)
    have e3 : err = 0 := h.noerr (show (1 : Int) ≠ 5 by decide)
    subst e1 e2 e3
    refine Reads.congr (f := bindR (fun xs s => countP xs 256 s) (fun n => bindR (fun xs s => iterG rowD xs n ([], s)) (fun l => retR (⟨1, id, 0, 0, l, st0⟩ : Rs)))) ?_ (fun xs s => by unfold bodyS; (try dsimp only); rw [if_pos rfl]; rfl)
    refine Reads.to (Reads.bind (Reads.count (m := rows.length) (by omega) (by decide)) (Reads.bind (Reads.list (enc := rowE) rows (fun c hc => Reads.row (h.rows c hc) (hri c hc)) []) (Reads.ret _) (fun _ => Stays.ret _)) (fun _ => Stays.bind (Stays.list _ _) (fun _ => Stays.ret _))) ?_ ?_
    · rw [List.nil_append]
    · simp [Go.Proofs.YtglbdbghcdoicaaGreatDoor.bodyRs, rowsE]
  have e0 : rows = [] := h.norows h1
  subst e0
  by_cases h2 : kind = 2
  · subst h2
    have e2 : st = st0 := h.nost (show (2 : Int) ≠ 4 by decide)
    have e3 : err = 0 := h.noerr (show (2 : Int) ≠ 5 by decide)
    have hep : 1 ≤ ep ∧ ep ≤ 1099511627776 := h.ep rfl
    subst e2 e3
    refine Reads.congr (f := bindR numR (fun e => retR (⟨2, id, 0, (e : Int), [], st0⟩ : Rs))) ?_ (fun xs s => by unfold bodyS; (try dsimp only); rw [if_neg (by decide), if_pos rfl]; rfl)
    refine Reads.to (Reads.bind (Reads.numI (n := ep) (by omega)) (Reads.ret _) (fun _ => Stays.ret _)) ?_ ?_
    · rw [toNat_cast (by omega)]
    · simp [Go.Proofs.YtglbdbghcdoicaaGreatDoor.bodyRs]
  have e1 : ep = 0 := h.noep h2
  subst e1
  by_cases h4 : kind = 4
  · subst h4
    have e3 : err = 0 := h.noerr (show (4 : Int) ≠ 5 by decide)
    subst e3
    obtain ⟨a, b, c, d, e, f⟩ : StOk st := h.st rfl
    refine Reads.congr (f := bindR numR (fun a => bindR numR (fun b => bindR numR (fun c => bindR numR (fun d => bindR numR (fun e => bindR numR (fun f => retR (⟨4, id, 0, 0, [], ⟨a, b, c, d, e, f⟩⟩ : Rs)))))))) ?_ (fun xs s => by unfold bodyS; (try dsimp only); rw [if_neg (by decide), if_neg (by decide), if_pos rfl]; rfl)
    refine Reads.to (Reads.bind (Reads.numI a) (Reads.bind (Reads.numI b) (Reads.bind (Reads.numI c) (Reads.bind (Reads.numI d) (Reads.bind (Reads.numI e) (Reads.bind (Reads.numI f) (Reads.ret _) (fun _ => Stays.ret _)) (fun _ => Stays.bind Stays.num (fun _ => Stays.ret _))) (fun _ => Stays.bind Stays.num (fun _ => Stays.bind Stays.num (fun _ => Stays.ret _)))) (fun _ => Stays.bind Stays.num (fun _ => Stays.bind Stays.num (fun _ => Stays.bind Stays.num (fun _ => Stays.ret _))))) (fun _ => Stays.bind Stays.num (fun _ => Stays.bind Stays.num (fun _ => Stays.bind Stays.num (fun _ => Stays.bind Stays.num (fun _ => Stays.ret _)))))) (fun _ => Stays.bind Stays.num (fun _ => Stays.bind Stays.num (fun _ => Stays.bind Stays.num (fun _ => Stays.bind Stays.num (fun _ => Stays.bind Stays.num (fun _ => Stays.ret _))))))) ?_ ?_
    · rw [toNat_cast a.1, toNat_cast b.1, toNat_cast c.1, toNat_cast d.1, toNat_cast e.1, toNat_cast f.1]
    · simp [Go.Proofs.YtglbdbghcdoicaaGreatDoor.bodyRs, numsE, stL]
  have e2 : st = st0 := h.nost h4
  subst e2
  by_cases h5 : kind = 5
  · subst h5
    have he : 1 ≤ err ∧ err ≤ 255 := h.err rfl
    refine Reads.congr (f := bindR numR (fun e => retR (⟨5, id, (e : Int), 0, [], st0⟩ : Rs))) ?_ (fun xs s => by unfold bodyS; (try dsimp only); rw [if_neg (by decide), if_neg (by decide), if_neg (by decide), if_pos rfl]; rfl)
    refine Reads.to (Reads.bind (Reads.numI (n := err) (by omega)) (Reads.ret _) (fun _ => Stays.ret _)) ?_ ?_
    · rw [toNat_cast (by omega)]
    · simp [Go.Proofs.YtglbdbghcdoicaaGreatDoor.bodyRs]
  · have e3 : err = 0 := h.noerr h5
    subst e3
    refine Reads.congr (f := retR _) (Reads.to (Reads.ret _) rfl ?_) (fun xs s => by unfold bodyS; (try dsimp only); rw [if_neg h1, if_neg h2, if_neg h4, if_neg h5]; rfl)
    unfold Go.Proofs.YtglbdbghcdoicaaGreatDoor.bodyRs
    rw [if_neg h1, if_neg h2, if_neg h4, if_neg h5]
abbrev rsR : List Int → RS → Rs × RS := bindR numR (fun k => bindR numR (fun i => fun xs s => bodyS xs ⟨(k : Int), (i : Int), 0, 0, [], st0⟩ s))
theorem readS_R (xs : List Int) : readS xs = rsR xs ⟨0, none⟩ := rfl
theorem Reads.rs {q : Rs} (h : RsGood q) (hri : ∀ x ∈ q.rows, RowI x) : Reads rsR q (encRs q) := by
  have hk1 := h.k1
  have hk5 := h.k5
  have hb := Reads.bodyRs h hri
  refine Reads.bind (Reads.numI (n := q.kind) (by omega)) (Reads.bind (Reads.numI ⟨h.id0, h.id1⟩) ?_ (fun _ => Stays.bodyS _)) (fun _ => Stays.bind Stays.num (fun _ => Stays.bodyS _))
  rw [toNat_cast (by omega), toNat_cast h.id0]
  exact hb
theorem encRs_cons {q : Rs} (h : RsGood q) : encRs q = q.kind :: (sev q.id.toNat ++ bodyRs q) := by
  have hk1 := h.k1
  have hk5 := h.k5
  unfold encRs
  rw [sev_one (by omega)]
  rfl
theorem dec_enc_rs {q : Rs} (h : checkRs q = 0) (hri : ∀ x ∈ q.rows, RowI x) (more : List Int) : decRs (encRs q ++ more) = if more = [] then (q, none) else (rs0, some (13, ((encRs q).length : Int))) := by
  have hg := rs_good h
  have hk1 := hg.k1
  have hk5 := hg.k5
  have hr := (Reads.rs hg hri).ok (encRs q ++ more) more 0 rfl (Nat.zero_le _)
  rw [Nat.zero_add] at hr
  have hkd : (kindD (encRs q ++ more)).1 = q.kind.toNat := by rw [encRs_cons hg, List.cons_append, kindD_cons (by omega)]
  have he : endP (encRs q ++ more) ⟨(encRs q).length, none⟩ = if more = [] then ⟨(encRs q).length, none⟩ else ⟨(encRs q).length, some (13, ((encRs q).length : Int))⟩ := by
    unfold endP
    by_cases hm : more = []
    · subst hm
      rw [List.append_nil, if_neg (Nat.lt_irrefl _), if_pos rfl]
    · have hl : 0 < more.length := List.length_pos_iff.2 hm
      rw [if_pos (by simp only [List.length_append]; omega), if_neg hm]
      exact fail13 _
  unfold decRs
  rw [readS_R, hr, if_neg (by rw [hkd]; omega)]
  simp only
  rw [he]
  by_cases hm : more = []
  · rw [if_pos hm, if_pos hm, h, checkD_ok, if_neg (by simp)]
  · rw [if_neg hm, if_neg hm, checkD_stay rfl, if_pos (by rfl)]
theorem dec_cut_rs {q : Rs} (h : checkRs q = 0) (hri : ∀ x ∈ q.rows, RowI x) (j : Nat) (hj : j < (encRs q).length) : decRs ((encRs q).take j) = (rs0, some (11, (j : Int))) := by
  have hg := rs_good h
  have hk1 := hg.k1
  have hk5 := hg.k5
  cases j with
  | zero =>
    unfold decRs
    rw [List.take_zero, kindD_nil, if_pos (by simp)]
    rfl
  | succ j =>
    have hr := (Reads.rs hg hri).cut ((encRs q).take (j + 1)) 0 (j + 1) rfl hj (Nat.zero_le _)
    have hkd : (kindD ((encRs q).take (j + 1))).1 = q.kind.toNat := by rw [encRs_cons hg, List.take_succ_cons, kindD_cons (by omega)]
    have hl : ((encRs q).take (j + 1)).length = j + 1 := by rw [List.length_take]; omega
    rw [hl] at hr
    unfold decRs
    rw [readS_R, if_neg (by rw [hkd]; omega), endP_stay (by rw [hr]; rfl), checkD_stay hr, if_pos (by rw [hr]; rfl), hr]
theorem front_rs {q p : Rs} (hq : checkRs q = 0) (hqi : ∀ x ∈ q.rows, RowI x) (hp : checkRs p = 0) (hpi : ∀ x ∈ p.rows, RowI x) (rest : List Int) (h : encRs p = encRs q ++ rest) : q = p := by
  have h1 := (Reads.rs (rs_good hp) hpi).ok (encRs p) [] 0 (by rw [List.append_nil]; rfl) (Nat.zero_le _)
  have h2 := (Reads.rs (rs_good hq) hqi).ok (encRs p) rest 0 (by rw [h]; rfl) (Nat.zero_le _)
  rw [h1] at h2
  exact (congrArg Prod.fst h2).symm
theorem sameRs_eq {a b : Rs} : sameRs a b ↔ a = b := by
  cases a; cases b
  simp [sameRs]
theorem rowE_le {r : RowV} (h : RowOk r) (hi : RowI r) : (rowE r).length ≤ 83 := by
  have := cellE_le h.cell (by decide)
  have := sev_len10 (zz r.count) (zz_lt hi.count)
  have := sev_len10 (zz r.sum) (zz_lt hi.sum)
  have := sev_len10 (zz r.min) (zz_lt hi.min)
  have := sev_len10 (zz r.max) (zz_lt hi.max)
  unfold rowE
  simp only [List.length_append]
  omega
theorem rowsE_le : ∀ (cs : List RowV), (∀ c ∈ cs, RowOk c) → (∀ c ∈ cs, RowI c) → (rowsE cs).length ≤ 83 * cs.length
  | [], _, _ => by simp [rowsE]
  | c :: cs, h, hi => by
    have h1 := rowE_le (h c (List.mem_cons_self ..)) (hi c (List.mem_cons_self ..))
    have h2 := rowsE_le cs (fun x hx => h x (List.mem_cons_of_mem _ hx)) (fun x hx => hi x (List.mem_cons_of_mem _ hx))
    simp only [rowsE, List.flatMap_cons, List.length_append, List.length_cons] at h2 ⊢
    omega
theorem encRs_le {q : Rs} (h : RsGood q) (hri : ∀ x ∈ q.rows, RowI x) : 2 ≤ (encRs q).length ∧ (encRs q).length ≤ 30000 := by
  have hk1 := h.k1
  have hk5 := h.k5
  have h0 := h.id0
  have h1 := h.id1
  have i1 := sev_le (k := 5) (n := q.id.toNat) (by omega)
  have i2 := sev_pos q.id.toNat
  have hb : (bodyRs q).length ≤ 29000 := by
    have hl := h.len
    have hc := rowsE_le q.rows h.rows hri
    have hn := sev_le (k := 2) (n := q.rows.length) (by omega)
    unfold bodyRs
    split
    · rw [List.length_append]; omega
    · split
      · rename_i h2
        have := h.ep h2
        have := sev_le (k := 5) (n := q.epoch.toNat) (by omega)
        omega
      · split
        · rename_i h4
          have := numsE_len (stL q.st) (fun x hx => by have := stL_small (h.st h4) x hx; omega)
          have : (stL q.st).length = 6 := rfl
          omega
        · split
          · rename_i h5
            have := h.err h5
            have := sev_le (k := 1) (n := q.err.toNat) (by omega)
            omega
          · simp
  rw [encRs_cons h, List.length_cons, List.length_append]
  omega
end Go.Proofs.YtglbdbghcdoicaaGreatDoor

namespace Go.Proofs.YtglbdbghcdoicaaGreatDoor
open Go.RowKit

def Byt (xs : List Int) : Prop := ∀ x ∈ xs, 0 ≤ x ∧ x < 256
theorem strB_strOfNums {t : List Int} (h : Byt t) : strB (strOfNums t) = t := by
  unfold strOfNums strB
  simp only [List.map_map]
  conv => rhs; rw [← List.map_id t]
  apply List.map_congr_left
  intro x hx
  have := h x hx
  simp
  omega
end Go.Proofs.YtglbdbghcdoicaaGreatDoor

namespace Go.Proofs.YtglbdbghcdoicaaGreatDoor
open Go.RowKit

/-- Rows that a slice of new memory holds. -/
def rowCs (rs : List RowV) : List Value := rs.flatMap RowV.cells
def RowsOwn (W : World) (base : Nat) (v : Value) (rs : List RowV) : Prop := W.ownsRow base 123 7 v rs.length (rowCs rs)
theorem rowCs_at : ∀ (rs : List RowV) (k : Nat) (hk : k < rs.length) (j : Nat) (u : Value), (rs[k].cells)[j]? = some u → (rowCs rs)[k * 7 + j]? = some u
  | [], _, hk, _, _, _ => absurd hk (Nat.not_lt_zero _)
  | r :: rs, 0, _, j, u, h => by
    have h : (r.cells)[j]? = some u := h
    have hj : j < r.cells.length := (List.getElem?_eq_some_iff.1 h).1
    simp only [rowCs, List.flatMap_cons, Nat.zero_mul, Nat.zero_add]
    rw [List.getElem?_append_left hj]
    exact h
  | r :: rs, k + 1, hk, j, u, h => by
    have hl : r.cells.length = 7 := rfl
    have ih := rowCs_at rs k (by simpa using hk) j u h
    simp only [rowCs, List.flatMap_cons] at ih ⊢
    rw [List.getElem?_append_right (by omega), hl, show (k + 1) * 7 + j - 7 = k * 7 + j by omega]
    exact ih
theorem RowsOwn.rd {W : World} {base : Nat} {v : Value} {rs : List RowV} (h : RowsOwn W base v rs) : ∃ A c, v = .slice A rs.length c ∧ RowsRd W A rs ∧ ∀ ad, A = some ad → base ≤ ad.block := by
  rcases h.2 with ⟨rfl, h0⟩ | ⟨g, cap, cur, rfl, hb, hg, _⟩
  · refine ⟨none, 0, by rw [h0], fun k hk => absurd hk (by omega), fun ad e => by cases e⟩
  · refine ⟨_, cap, rfl, fun k hk => ⟨_, rfl, (Array.getElem?_eq_some_iff.1 hg).1, fun j u hu => h.cells rfl _ _ (rowCs_at rs k hk j u hu)⟩, fun ad e => by cases e; exact hb⟩
theorem RowsOwn.le {W : World} {base : Nat} {A : Option Addr} {n c : Nat} {cs : List RowV} (h : RowsOwn W base (.slice A n c) cs) : cs.length ≤ 9223372036854775807 := by
  rcases h.2 with ⟨_, h0⟩ | ⟨g, cap, cur, e, _, _, h1, h2, _⟩
  · omega
  · unfold maxLen at h2; omega
/-- The response at b, the Reader at q. -/
structure RsIs (W0 : World) (q b : Nat) (A : Option Addr) (n c : Nat) (xs : List Int) (r : Rs) (s : RS) (fv v : Value) (W : World) : Prop where
  blk : Blk W b 71 (rsC v r)
  rows : RowsOwn W W0.heap.size v r.rows
  rd : RdIs W q A n c xs s fv
  tur : Tur (fun k => k = q ∨ k = b) W0 W
  bq : b ≠ q
  bl : b < W0.heap.size
  bA : ∀ ad, A = some ad → ad.block ≠ b ∧ ad.block < W0.heap.size
  bt : 0 ≠ b
section
variable {W0 W W1 : World} {q b n c : Nat} {A : Option Addr} {xs : List Int} {r : Rs} {s s1 : RS} {fv fv1 v v1 : Value}
theorem RowsOwn.tur {S : Nat → Prop} {base : Nat} {rs : List RowV} (h : RowsOwn W base v rs) (ht : Tur S W W1) (hS : ∀ k, S k → k < base) : RowsOwn W1 base v rs :=
  ownsRow_tur h ht (fun k e hs => by have := hS k hs; have := (h.lt k e).1; omega)
theorem RsIs.kept (h : RsIs W0 q b A n c xs r s fv v W) (hb : Below W.heap.size W W1) : RsIs W0 q b A n c xs r s fv v W1 :=
  ⟨h.blk.kept hb, h.rows.tur (Tur.of_below (S := fun _ => False) hb) (fun _ e => e.elim), h.rd.kept hb, h.tur.trans (Tur.of_below (S := fun _ => False) hb) (fun _ e => e.elim), h.bq, h.bl, h.bA, h.bt⟩
theorem RsIs.alloc (h : RsIs W0 q b A n c xs r s fv v W) (o : Obj) : RsIs W0 q b A n c xs r s fv v (W.alloc o) := h.kept ((Below.refl _ _).alloc (Nat.le_refl _) o)
theorem RsIs.read (h : RsIs W0 q b A n c xs r s fv v W) (hq : q < W0.heap.size) (hr : RdIs W1 q A n c xs s1 fv1) (hf : RdFr W q fv W1 fv1) : RsIs W0 q b A n c xs r s1 fv1 v W1 :=
  ⟨hf.blk h.blk h.bq, h.rows.tur hf.1 (fun k e => by omega), hr, h.tur.trans hf.1 (fun k e => .inl (.inl e)), h.bq, h.bl, h.bA, h.bt⟩
/-- One field stored. -/
theorem RsIs.set_ {r1 : Rs} {v1 : Value} (h : RsIs W0 q b A n c xs r s fv v W) (j : Nat) (u : Value) (e : (rsC v r).setIfInBounds j u = rsC v1 r1) (hc : RowsOwn W W0.heap.size v1 r1.rows) : RsIs W0 q b A n c xs r1 s fv v1 (W.setCell ⟨b, j, none⟩ u) := by
  have ht : Tur (· = b) W (W.setCell ⟨b, j, none⟩ u) := (Tur.refl (· = b) W).setCell (p := ⟨b, j, none⟩) (.inl rfl) u
  exact ⟨e ▸ h.blk.set_ j u, hc.tur ht (fun k e => by have := h.bl; omega), h.rd.near ht h.blk (by decide) (fun e => h.bq e.symm) (fun ad e => (h.bA ad e).1) h.bt, h.tur.trans ht (fun k e => .inl (.inr e)), h.bq, h.bl, h.bA, h.bt⟩
/-- What an append onto the rows leaves, ahead of the store. -/
theorem RsIs.grown {x : RowV} (h : RsIs W0 q b A n c xs r s fv v W) (hq : q < W0.heap.size) (hty : 0 < W0.heap.size) (hg : W.grownBy W1 v.ownBlock) (hown : W1.ownsRow W0.heap.size 123 7 v1 (r.rows.length + 1) (rowCs r.rows ++ x.cells)) :
    RsIs W0 q b A n c xs { r with rows := r.rows ++ [x] } s fv v1 (W1.setCell ⟨b, 4, none⟩ v1) := by
  have hk : ∀ k, v.ownBlock = some k → W0.heap.size ≤ k := fun k e => (h.rows.lt k e).1
  have ht : Tur (fun k => v.ownBlock = some k) W W1 := Tur.of_grown hg (fun k e => e)
  have hb : Blk W1 b 71 (rsC v r) := h.blk.tur ht (fun e => by have := hk _ e; have := h.bl; omega)
  have hr : RdIs W1 q A n c xs s fv := h.rd.tur ht (fun e => by have := hk _ e; omega) (fun ad e e2 => by have := hk _ e2; have := (h.bA ad e).2; omega)
    (fun g e e2 => by
      obtain ⟨cs', hb'⟩ := h.rd.err_blk e
      rcases h.rows.2 with ⟨e3, _⟩ | ⟨g', cap, cur, e3, _, hg', _⟩
      · rw [e3] at e2; cases e2
      · rw [e3] at e2
        cases e2
        exact absurd rfl (hb'.ne_ (show Blk W g' 123 cur from hg') (by decide))) (fun e => by have := hk _ e; omega)
  have ht2 : Tur (· = b) W1 (W1.setCell ⟨b, 4, none⟩ v1) := (Tur.refl (· = b) W1).setCell (p := ⟨b, 4, none⟩) (.inl rfl) v1
  have hc : RowsOwn W1 W0.heap.size v1 (r.rows ++ [x]) := by
    unfold RowsOwn rowCs
    rw [List.length_append, List.flatMap_append]
    simpa [rowCs] using hown
  exact ⟨hb.set_ 4 v1, hc.tur ht2 (fun k e => by have := h.bl; omega), hr.near ht2 hb (by decide) (fun e => h.bq e.symm) (fun ad e => (h.bA ad e).1) h.bt,
    (h.tur.trans ht (fun k e => .inr (hk k e))).trans ht2 (fun k e => .inl (.inr e)), h.bq, h.bl, h.bA, h.bt⟩
theorem RsIs.start (hb : Blk W0 b 71 (rsC nilS r)) (hr : r.rows = []) (h : RdIs W0 q A n c xs s fv) (hbq : b ≠ q) (hA : ∀ ad, A = some ad → ad.block ≠ b ∧ ad.block < W0.heap.size) (hbt : 0 ≠ b) : RsIs W0 q b A n c xs r s fv nilS W0 :=
  ⟨hb, by rw [hr]; exact ⟨rfl, .inl ⟨rfl, rfl⟩⟩, h, Tur.refl _ _, hbq, hb.lt, hA, hbt⟩
theorem RsIs.exv (h : RsIs W0 q b A n c xs r s fv v W) : ∃ v, RsIs W0 q b A n c xs r s fv v W := ⟨v, h⟩
theorem RsIs.own_ne {i : Nat} {t : TypeId} {cs : Array Value} (h : RsIs W0 q b A n c xs r s fv v W) (hb : Blk W i t cs) (ht : t ≠ 123) : some i ≠ v.ownBlock := by
  intro e
  rcases h.rows.2 with ⟨e3, _⟩ | ⟨g', cap, cur, e3, _, hg', _⟩
  · rw [e3] at e; cases e
  · rw [e3] at e
    cases e
    exact absurd rfl (hb.ne_ (show Blk W g' 123 cur from hg') ht)
theorem RsIs.rows_low {j B : Nat} (h : RsIs W0 q b A n c xs r s fv v W) (ht : Tur (· = j) W W1) (hj : j < W0.heap.size ∧ B ≤ W0.heap.size) : RowsOwn W1 B v r.rows := by
  have h1 := h.rows.tur ht (fun k e => by subst e; exact hj.1)
  refine ⟨h1.1, ?_⟩
  rcases h1.2 with h2 | ⟨g, cap, cur, e, hb, r⟩
  · exact .inl h2
  · exact .inr ⟨g, cap, cur, e, by omega, r⟩
end
theorem info_row0 : (Tryz.prog.info? 123).map (fun i => (i.zero.map (fun z => z.cells.size), i.size, i.bytes)) = some (some 7, 7, 64) := by kernel_rfl
theorem info_row : ∃ i z, Tryz.prog.info? 123 = some i ∧ i.zero = some z ∧ i.size = 7 ∧ i.bytes = 64 ∧ z.cells.size = 7 := by
  have h := info_row0
  cases hi : Tryz.prog.info? 123 with
  | none => rw [hi] at h; cases h
  | some ic =>
    rw [hi] at h
    injection h with h
    injection h with h1 h2
    injection h2 with h2 h3
    cases hz : ic.zero with
    | none => rw [hz] at h1; cases h1
    | some z =>
      rw [hz] at h1
      injection h1 with h1
      exact ⟨ic, z, rfl, hz, h2, h3, h1⟩
theorem rows_one_c {w : World} {j : Nat} {x : RowV} (h : Blk w j 123 #[.int .i64 x.cell.view, .string x.cell.key, .int .i64 x.cell.start, .int .i64 x.count, .int .i64 x.sum, .int .i64 x.min, .int .i64 x.max]) : ∀ k u, (x.cells)[k]? = some u → w.cell? ((⟨j, 0, none⟩ : Addr).add k) = some u := by
  intro k u hu
  rw [show (⟨j, 0, none⟩ : Addr).add k = ⟨j, k, none⟩ by cases k <;> simp [Addr.add]]
  rw [h.cell k, ← hu]
  simp [RowV.cells, CellV.cells]
theorem rows_one1 (x : RowV) : ∀ u ∈ x.cells, u.oneCell' = true := by
  intro u hu
  simp only [RowV.cells, CellV.cells, List.cons_append, List.nil_append, List.mem_cons, List.not_mem_nil, or_false] at hu
  rcases hu with rfl | rfl | rfl | rfl | rfl | rfl | rfl <;> rfl
/-- A decoded response at hand. -/
def DesQ (W : World) (y : Rs × Option (Int × Int)) (e : Ending) (w' : World) : Prop :=
  Below W.heap.size W w' ∧ match y.2 with
    | none => ∃ v, e = .returned (.tuple #[.agg (rsC v y.1), .nilIface]) ∧ RowsOwn w' W.heap.size v y.1.rows
    | some (code, p) => ∃ g, e = .returned (.tuple #[.agg (rsC nilS rs0), errV g]) ∧ Blk w' g 111 #[.int .i64 code, .int .i64 p]
/-- The stats, one behind the other. -/
def StV.put (s : StV) (k : Nat) (x : Int) : StV :=
  match k with
  | 0 => { s with taken := x }
  | 1 => { s with late := x }
  | 2 => { s with over := x }
  | 3 => { s with full := x }
  | 4 => { s with cells := x }
  | 5 => { s with now := x }
  | _ => s
def stK (xs : List Int) (s : RS) : Nat → StV × RS
  | 0 => (st0, s)
  | k + 1 => ((stK xs s k).1.put k ((numP xs M40 (stK xs s k).2).1 : Int), (numP xs M40 (stK xs s k).2).2)
theorem stK_six (xs : List Int) (s : RS) : stK xs s 6 = (stD xs s, (n6P xs s).2) := by
  simp only [stK, StV.put, stD, n6P, n5P, n4P, n3P, n2P, n1P]
theorem rsC_put (v : Value) (r : Rs) (k : Nat) (x : Int) (hk : k < 6) : (rsC v r).setIfInBounds (5 + k) (.int .i64 x) = rsC v { r with st := r.st.put k x } := by
  obtain rfl | rfl | rfl | rfl | rfl | rfl : k = 0 ∨ k = 1 ∨ k = 2 ∨ k = 3 ∨ k = 4 ∨ k = 5 := by omega
  all_goals rfl
theorem ptr_at (b k : Nat) (hk : k < 6) : (#[.pointer (some ⟨b, 5, none⟩), .pointer (some ⟨b, 6, none⟩), .pointer (some ⟨b, 7, none⟩), .pointer (some ⟨b, 8, none⟩), .pointer (some ⟨b, 9, none⟩), .pointer (some ⟨b, 10, none⟩)] : Array Value)[k]? = some (.pointer (some ⟨b, 5 + k, none⟩)) := by
  obtain rfl | rfl | rfl | rfl | rfl | rfl : k = 0 ∨ k = 1 ∨ k = 2 ∨ k = 3 ∨ k = 4 ∨ k = 5 := by omega
  all_goals rfl
/-- What is read is small. -/
theorem rowD_key (xs : List Int) (s : RS) : (rowD xs s).1.cell.key.size ≤ 32 := cellP_key xs s
theorem iterG_all {α : Type} {f : List Int → RS → α × RS} {G : α → Prop} (h : ∀ xs s, G (f xs s).1) (xs : List Int) (st : List α × RS) (h0 : ∀ x ∈ st.1, G x) : ∀ k, ∀ x ∈ (iterG f xs k st).1, G x
  | 0 => h0
  | k + 1 => by
    have ih := iterG_all h xs st h0 k
    intro x hx
    rw [iterG] at hx
    unfold stepG at hx
    split at hx
    · exact ih x hx
    · rcases List.mem_append.1 hx with hx | hx
      · exact ih x hx
      · rw [List.mem_singleton] at hx
        subst hx
        exact h _ _
theorem iterG_len {α : Type} {f : List Int → RS → α × RS} (xs : List Int) (st : List α × RS) : ∀ k, (iterG f xs k st).1.length ≤ st.1.length + k
  | 0 => Nat.le_refl _
  | k + 1 => by
    have ih := iterG_len (f := f) xs st k
    rw [iterG]
    unfold stepG
    split
    · omega
    · simp; omega
theorem readS_ok (xs : List Int) : RsOk (readS xs).1 := by
  unfold readS bodyS RsOk
  split
  · exact fun x hx => Nat.le_trans (iterG_all (G := fun x => x.cell.key.size ≤ 32) (fun xs s => rowD_key xs s) xs _ (fun y hy => absurd hy (List.not_mem_nil)) _ x hx) (by decide)
  · split
    · exact fun x hx => absurd hx (List.not_mem_nil)
    · split
      · exact fun x hx => absurd hx (List.not_mem_nil)
      · split
        · exact fun x hx => absurd hx (List.not_mem_nil)
        · exact fun x hx => absurd hx (List.not_mem_nil)
end Go.Proofs.YtglbdbghcdoicaaGreatDoor
