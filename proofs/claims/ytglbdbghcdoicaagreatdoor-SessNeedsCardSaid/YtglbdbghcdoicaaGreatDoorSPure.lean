/- A session as plain data: what Next tells, what is drained, in whatever pieces. -/
import Derived.Test.YtglbdbghcdoicaaGreatDoorWNx
import Derived.Test.YtglbdbghcdoicaaGreatDoorZPl
namespace Go.Proofs.YtglbdbghcdoicaaGreatDoor
open Go.RowKit

/-- The bytes held, how many requests were told, the fault and its place. -/
structure Ses where
  bs : List Int
  n : Nat
  bad : Option (Int × Int)
def sNext (most : Int) (s : Ses) : Option Rq × Ses :=
  match s.bad with
  | some _ => (none, s)
  | none => match nextP most s.bs with
    | .wait => (none, s)
    | .bad => (none, ⟨s.bs, s.n, some (14, 0)⟩)
    | .yes body tail => match (decRq body).2 with
      | none => (some (decRq body).1, ⟨tail, s.n + 1, none⟩)
      | some f => (none, ⟨tail, s.n, some f⟩)
def sFeed (s : Ses) (xs : List Int) : Ses := ⟨s.bs ++ xs, s.n, s.bad⟩
def ses0 : Ses := ⟨[], 0, none⟩
section
variable {most : Int} {s s' : Ses} {q : Rq} {F R body tail : List Int} {f : Int × Int}
theorem sNext_broken (h : s.bad = some f) : sNext most s = (none, s) := by unfold sNext; rw [h]
theorem sNext_wait (h : s.bad = none) (h2 : nextP most s.bs = .wait) : sNext most s = (none, s) := by unfold sNext; rw [h]; dsimp only; rw [h2]
theorem sNext_bad (h : s.bad = none) (h2 : nextP most s.bs = .bad) : sNext most s = (none, ⟨s.bs, s.n, some (14, 0)⟩) := by unfold sNext; rw [h]; dsimp only; rw [h2]
theorem sNext_yes (h : s.bad = none) (h2 : nextP most s.bs = .yes body tail) (h3 : (decRq body).2 = none) : sNext most s = (some (decRq body).1, ⟨tail, s.n + 1, none⟩) := by unfold sNext; rw [h]; dsimp only; rw [h2]; dsimp only; rw [h3]
theorem sNext_none (h : s.bad = none) (h2 : nextP most s.bs = .yes body tail) (h3 : (decRq body).2 = some f) : sNext most s = (none, ⟨tail, s.n, some f⟩) := by unfold sNext; rw [h]; dsimp only; rw [h2]; dsimp only; rw [h3]
theorem nextP_cons (most : Int) (b0 b1 b2 b3 : Int) (rest : List Int) : nextP most (b0 :: b1 :: b2 :: b3 :: rest) = if be4 b0.toNat b1.toNat b2.toNat b3.toNat < 1 ∨ most < (be4 b0.toNat b1.toNat b2.toNat b3.toNat : Int) then .bad else if rest.length < be4 b0.toNat b1.toNat b2.toNat b3.toNat then .wait else .yes (rest.take (be4 b0.toNat b1.toNat b2.toNat b3.toNat)) (rest.drop (be4 b0.toNat b1.toNat b2.toNat b3.toNat)) := rfl
theorem nextP_yes_of (h : nextP most F = .yes body tail) : 1 ≤ body.length ∧ F.length = 4 + body.length + tail.length ∧ (∀ R, nextP most (F ++ R) = .yes body (tail ++ R)) ∧ (∀ x ∈ tail, x ∈ F) ∧ (∀ x ∈ body, x ∈ F) ∧ (body.length : Int) ≤ most := by
  match F, h with
  | [], h => cases h
  | [_], h => cases h
  | [_, _], h => cases h
  | [_, _, _], h => cases h
  | b0 :: b1 :: b2 :: b3 :: rest, h =>
    rw [nextP_cons] at h
    generalize hN : be4 b0.toNat b1.toNat b2.toNat b3.toNat = N at h
    by_cases h1 : N < 1 ∨ most < (N : Int)
    · rw [if_pos h1] at h; cases h
    · rw [if_neg h1] at h
      by_cases h2 : rest.length < N
      · rw [if_pos h2] at h; cases h
      · rw [if_neg h2] at h
        injection h with e1 e2
        subst e1
        subst e2
        refine ⟨by rw [List.length_take]; omega, by simp only [List.length_cons, List.length_take, List.length_drop]; omega, fun R => ?_, fun x hx => ?_, fun x hx => ?_, by rw [List.length_take]; omega⟩
        · rw [show (b0 :: b1 :: b2 :: b3 :: rest) ++ R = b0 :: b1 :: b2 :: b3 :: (rest ++ R) from rfl]
          rw [nextP_cons, hN, if_neg h1, if_neg (by rw [List.length_append]; omega), List.take_append_of_le_length (by omega), List.drop_append_of_le_length (by omega)]
        · have := List.mem_of_mem_drop hx; simp [this]
        · have := List.mem_of_mem_take hx; simp [this]
theorem nextP_bad_of (h : nextP most F = .bad) (R : List Int) : nextP most (F ++ R) = .bad := by
  match F, h with
  | [], h => cases h
  | [_], h => cases h
  | [_, _], h => cases h
  | [_, _, _], h => cases h
  | b0 :: b1 :: b2 :: b3 :: rest, h =>
    rw [show (b0 :: b1 :: b2 :: b3 :: rest) ++ R = b0 :: b1 :: b2 :: b3 :: (rest ++ R) from rfl]
    rw [nextP_cons] at h ⊢
    by_cases h1 : be4 b0.toNat b1.toNat b2.toNat b3.toNat < 1 ∨ most < (be4 b0.toNat b1.toNat b2.toNat b3.toNat : Int)
    · rw [if_pos h1]
    · rw [if_neg h1] at h
      by_cases h2 : rest.length < be4 b0.toNat b1.toNat b2.toNat b3.toNat
      · rw [if_pos h2] at h; cases h
      · rw [if_neg h2] at h; cases h
/-- What is drained, till there is nothing. -/
inductive Dr (most : Int) : Ses → List Rq → Ses → Prop
  | stop {s s' : Ses} : sNext most s = (none, s') → Dr most s [] s'
  | more {s s' t : Ses} {q : Rq} {l : List Rq} : sNext most s = (some q, s') → Dr most s' l t → Dr most s (q :: l) t
theorem Dr.det {l l' : List Rq} {t t' : Ses} (h : Dr most s l t) (h' : Dr most s l' t') : l = l' ∧ t = t' := by
  induction h generalizing l' t' with
  | stop e =>
    cases h' with
    | stop e' => rw [e] at e'; injection e' with _ e'; exact ⟨rfl, e'⟩
    | more e' _ => rw [e] at e'; injection e' with e' _; cases e'
  | more e _ ih =>
    cases h' with
    | stop e' => rw [e] at e'; injection e' with e' _; cases e'
    | more e' h2 =>
      rw [e] at e'
      injection e' with e1 e2
      injection e1 with e1
      subst e1
      subst e2
      obtain ⟨rfl, rfl⟩ := ih h2
      exact ⟨rfl, rfl⟩
theorem sFeed_nil (s : Ses) : sFeed s [] = s := by cases s; simp [sFeed]
theorem sFeed_app (s : Ses) (a b : List Int) : sFeed (sFeed s a) b = sFeed s (a ++ b) := by simp [sFeed]
/-- One step of Next, with more bytes behind. -/
theorem sNext_some (h : sNext most s = (some q, s')) : s.bad = none ∧ s'.bad = none ∧ s'.n = s.n + 1 ∧ (∀ R, sNext most (sFeed s R) = (some q, sFeed s' R)) ∧ ∃ body tail, nextP most s.bs = .yes body tail ∧ (decRq body).2 = none ∧ q = (decRq body).1 ∧ s' = ⟨tail, s.n + 1, none⟩ := by
  rcases hb : s.bad with _ | f
  · rcases hn : nextP most s.bs with _ | _ | ⟨body, tail⟩
    · rw [sNext_wait hb hn] at h; injection h with h _; cases h
    · rw [sNext_bad hb hn] at h; injection h with h _; cases h
    · rcases hd : (decRq body).2 with _ | f
      · rw [sNext_yes hb hn hd] at h
        injection h with h1 h2
        injection h1 with h1
        subst h2
        subst h1
        exact ⟨rfl, rfl, rfl, fun R => sNext_yes (s := sFeed s R) hb ((nextP_yes_of hn).2.2.1 R) hd, body, tail, rfl, hd, rfl, rfl⟩
      · rw [sNext_none hb hn hd] at h; injection h with h _; cases h
  · rw [sNext_broken hb] at h; injection h with h _; cases h
/-- Where nothing is told: what is fed behind that, is told behind it. -/
theorem sNext_nil (h : sNext most s = (none, s')) : s'.n = s.n ∧ (∀ f, s.bad = some f → s' = s) ∧ ((s' = s ∧ s.bad = none) ∨ (s'.bad ≠ none ∧ ∀ R, sNext most (sFeed s R) = (none, sFeed s' R))) := by
  rcases hb : s.bad with _ | f
  · rcases hn : nextP most s.bs with _ | _ | ⟨body, tail⟩
    · rw [sNext_wait hb hn] at h; injection h with _ h
      subst h
      exact ⟨rfl, (fun f h => by cases h), .inl ⟨rfl, rfl⟩⟩
    · rw [sNext_bad hb hn] at h; injection h with _ h
      subst h
      exact ⟨rfl, (fun f h => by cases h), .inr ⟨(fun h => by cases h), fun R => sNext_bad (s := sFeed s R) hb (nextP_bad_of hn R)⟩⟩
    · rcases hd : (decRq body).2 with _ | f
      · rw [sNext_yes hb hn hd] at h; injection h with h _; cases h
      · rw [sNext_none hb hn hd] at h; injection h with _ h
        subst h
        exact ⟨rfl, (fun f h => by cases h), .inr ⟨(fun h => by cases h), fun R => sNext_none (s := sFeed s R) hb ((nextP_yes_of hn).2.2.1 R) hd⟩⟩
  · rw [sNext_broken hb] at h; injection h with _ h
    subst h
    exact ⟨rfl, (fun _ _ => rfl), .inr ⟨(by rw [hb]; intro h; cases h), fun R => sNext_broken (s := sFeed s R) (f := f) hb⟩⟩
theorem Dr.broken (h : s.bad = some f) : Dr most s [] s := .stop (sNext_broken h)
theorem Dr.app {l l' : List Rq} {t u : Ses} (h : Dr most s l t) (R : List Int) (h' : Dr most (sFeed t R) l' u) : Dr most (sFeed s R) (l ++ l') u := by
  induction h with
  | @stop s t e =>
    rcases (sNext_nil e).2.2 with ⟨rfl, _⟩ | ⟨hb, hR⟩
    · exact h'
    · obtain ⟨f, hf⟩ := Option.ne_none_iff_exists'.1 hb
      obtain ⟨rfl, rfl⟩ := h'.det (Dr.broken (s := sFeed t R) (f := f) hf)
      exact .stop (hR R)
  | more e _ ih => exact .more ((sNext_some e).2.2.2.1 R) (ih h')
theorem Dr.count {l : List Rq} {t : Ses} (h : Dr most s l t) : t.n = s.n + l.length := by
  induction h with
  | stop e => rw [(sNext_nil e).1]; rfl
  | more e _ ih => rw [ih, (sNext_some e).2.2.1, List.length_cons]; omega
theorem Dr.keeps {l : List Rq} {t : Ses} (h : Dr most s l t) (hb : s.bad = some f) : t = s ∧ l = [] := by
  obtain ⟨rfl, rfl⟩ := h.det (Dr.broken hb)
  exact ⟨rfl, rfl⟩
end
/-- Drained so many times at most. -/
def drS (most : Int) : Nat → Ses → List Rq × Ses
  | 0, s => ([], s)
  | k + 1, s => match sNext most s with
    | (none, s') => ([], s')
    | (some q, s') => (q :: (drS most k s').1, (drS most k s').2)
section
variable {most : Int} {s s' : Ses} {q : Rq} {k : Nat}
theorem drS_none (h : sNext most s = (none, s')) : drS most (k + 1) s = ([], s') := by rw [drS, h]
theorem drS_some (h : sNext most s = (some q, s')) : drS most (k + 1) s = (q :: (drS most k s').1, (drS most k s').2) := by rw [drS, h]
theorem numS_pos_ (most : Int) (p : Nat) (r : Nat × RS) : (numS most p r).pos = r.2.pos := by
  unfold numS
  split
  · exact fail_pos _ _ _
  · rfl
theorem sevAll_one (x : Int) (n k : Nat) (h : sevAll [x] 0 9 127 = .ok n k) : k = 1 := by
  unfold sevAll at h
  rw [sevGo, if_neg (by simp)] at h
  split at h
  · cases h
  · split at h
    · injection h with _ h; exact h.symm
    · rw [sevGo, if_pos (by simp)] at h
      cases h
theorem numP_end {xs : List Int} {s : RS} (h : xs.length ≤ s.pos) (hs : s.pos ≤ xs.length) : (numP xs M40 s).2.fault.isSome = true := by
  obtain ⟨p, fa⟩ := s
  rcases fa with _ | f
  · rw [numP_cut (m := 0) (j := 0) (first := p) (by simpa using List.drop_eq_nil_of_le h) hs (sev_pos 0) (by omega) M40 (by decide)]
    rfl
  · rw [numP_stay (by decide) rfl]; rfl
theorem dec_short {xs : List Int} (h : xs.length < 2) : (decRq xs).2 ≠ none := by
  have hk : (kindD xs).1 < 1 ∨ 7 < (kindD xs).1 → (decRq xs).2 ≠ none := fun hk => by
    unfold decRq
    rw [if_pos hk]
    exact RS.fail_some (by decide)
  match xs, h with
  | [], _ => exact hk (by rw [kindD_nil]; exact .inl (by decide))
  | [x], _ =>
    rcases hs : sevP [x] 9 127 ⟨0, none⟩ with ⟨n, s1⟩
    by_cases hf : (kindD [x]).2.fault.isSome = true
    · refine hk (.inl ?_)
      unfold kindD numP at hf ⊢
      dsimp only at hf ⊢
      rw [if_pos hf]
      exact Nat.lt_succ_self 0
    · by_cases hkk : (kindD [x]).1 < 1 ∨ 7 < (kindD [x]).1
      · exact hk hkk
      · have hpos : (kindD [x]).2.pos = 1 := by
          have e : (kindD [x]).2.pos = s1.pos := by unfold kindD; rw [numP]; rw [hs]; exact numS_pos_ _ _ _
          rw [e]
          unfold sevP at hs
          dsimp only at hs
          rcases ha : sevAll [x] 0 9 127 with ⟨n', k'⟩ | _ | _
          all_goals (rw [ha] at hs; dsimp only at hs; injection hs with _ hs; subst hs)
          · exact sevAll_one x _ _ ha
          all_goals (exfalso; apply hf; unfold kindD numP sevP; dsimp only; rw [ha]; rfl)
        have h2 : (numP [x] M40 (kindD [x]).2).2.fault.isSome = true := numP_end (by rw [hpos]; simp) (by rw [hpos]; simp)
        unfold decRq
        rw [if_neg hkk]
        have h3 : (readD [x]).2 = (numP [x] M40 (kindD [x]).2).2 := by unfold readD; exact Stays.bodyD _ [x] _ h2
        have h4 : (checkD (checkRq (readD [x]).1) (endP [x] (readD [x]).2)).fault.isSome = true := by
          rw [h3, endP_stay h2]
          unfold checkD
          rw [if_pos h2]
          exact h2
        rw [if_pos h4]
        dsimp only
        intro h5
        rw [h5] at h4
        cases h4
/-- No request has fewer than two bytes, no frame of one fewer than six. -/
theorem sNext_six (h : sNext most s = (some q, s')) : s'.bs.length + 6 ≤ s.bs.length := by
  obtain ⟨_, _, _, _, body, tail, hn, hd, _, rfl⟩ := sNext_some h
  have h2 : 2 ≤ body.length := by
    rcases Nat.lt_or_ge body.length 2 with h2 | h2
    · exact absurd hd (dec_short h2)
    · exact h2
  have := (nextP_yes_of hn).2.1
  show tail.length + 6 ≤ _
  omega
theorem drS_Dr : ∀ (k : Nat) (s : Ses), s.bs.length < 6 * k → Dr most s (drS most k s).1 (drS most k s).2 := by
  intro k
  induction k with
  | zero => intro s h; omega
  | succ k ih =>
    intro s h
    rcases hs : sNext most s with ⟨_ | q, s'⟩
    · rw [drS_none hs]; exact .stop hs
    · rw [drS_some hs]
      have := sNext_six hs
      exact .more hs (ih s' (by omega))
end
end Go.Proofs.YtglbdbghcdoicaaGreatDoor
