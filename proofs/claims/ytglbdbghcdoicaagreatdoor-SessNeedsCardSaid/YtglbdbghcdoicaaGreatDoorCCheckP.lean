/- Plain: what CheckRequest, CheckResponse come to, kind by kind. -/
import Derived.Test.YtglbdbghcdoicaaGreatDoorCSm
namespace Go.Proofs.YtglbdbghcdoicaaGreatDoor
open Go.RowKit
section
variable {q : Rq}
theorem checkRq_none (h : q.kind < 1 ∨ 7 < q.kind) : checkRq q = 15 := if_pos h
theorem checkRq_bad (hk : 1 ≤ q.kind ∧ q.kind ≤ 7) (h : smallP q.id = false ∨ unusedP q ∨ smallP q.epoch = false) : checkRq q = 16 := by
  unfold checkRq
  rw [if_neg (by omega), if_pos h]
theorem checkRq_good (hk : 1 ≤ q.kind ∧ q.kind ≤ 7) (h1 : smallP q.id = true) (h2 : ¬ unusedP q) (h3 : smallP q.epoch = true) : checkRq q =
    if (q.kind = 5 ∨ q.kind = 6) ∧ q.epoch = 0 then 16
    else if (q.kind = 1 ∧ q.cs.length ≠ 1) ∨ (q.kind = 2 ∧ q.cs.length = 0) then 16
    else if 16 < q.cs.length then 2
    else if firstP q.cs ≠ 0 then firstP q.cs
    else if q.kind = 3 then scanP q else 0 := by
  unfold checkRq
  rw [if_neg (by omega), if_neg (by rw [h1, h3]; simp [h2])]
theorem same_cells_iff : sameRq q { q with frm := cell0, too := cell0, limit := 0 } ↔ q.frm = cell0 ∧ q.too = cell0 ∧ q.limit = 0 := by simp [sameRq]
theorem same_scan_iff : sameRq q { q with cs := [] } ↔ q.cs = [] := by simp [sameRq]
theorem same_bare_iff : sameRq q ⟨q.kind, q.id, 0, [], cell0, cell0, 0⟩ ↔ q.epoch = 0 ∧ q.cs = [] ∧ q.frm = cell0 ∧ q.too = cell0 ∧ q.limit = 0 := by simp [sameRq]
theorem same_epoch_iff : sameRq q ⟨q.kind, q.id, q.epoch, [], cell0, cell0, 0⟩ ↔ q.cs = [] ∧ q.frm = cell0 ∧ q.too = cell0 ∧ q.limit = 0 := by simp [sameRq]
theorem unused_cells (hk : q.kind = 1 ∨ q.kind = 2) : unusedP q ↔ ¬ sameRq q { q with frm := cell0, too := cell0, limit := 0 } := by
  rw [same_cells_iff]
  unfold unusedP
  have h3 : q.kind ≠ 3 := by omega
  have h4 : ¬ (q.kind = 4 ∨ q.kind = 7) := by omega
  have h1 : ¬ (q.kind ≠ 1 ∧ q.kind ≠ 2 ∧ q.cs ≠ []) := by omega
  constructor
  · rintro (⟨_, h⟩ | h | ⟨h, _⟩)
    · rintro ⟨a, b, c⟩
      rcases h with h | h | h
      · exact h a
      · exact h b
      · exact h c
    · exact absurd h h1
    · exact absurd h h4
  · intro h
    refine .inl ⟨h3, ?_⟩
    by_cases a : q.frm = cell0
    · by_cases b : q.too = cell0
      · exact .inr (.inr (fun c => h ⟨a, b, c⟩))
      · exact .inr (.inl b)
    · exact .inl a
theorem unused_scan (hk : q.kind = 3) : unusedP q ↔ ¬ sameRq q { q with cs := [] } := by
  rw [same_scan_iff]
  unfold unusedP
  simp [hk]
theorem unused_bare (hk : q.kind = 4 ∨ q.kind = 7) : unusedP q ↔ ¬ sameRq q ⟨q.kind, q.id, 0, [], cell0, cell0, 0⟩ := by
  rw [same_bare_iff]
  unfold unusedP
  have h3 : q.kind ≠ 3 := by omega
  have h1 : q.kind ≠ 1 := by omega
  have h2 : q.kind ≠ 2 := by omega
  simp only [h3, h1, h2, hk, ne_eq, not_false_eq_true, true_and]
  by_cases a : q.frm = cell0 <;> by_cases b : q.too = cell0 <;> by_cases c : q.limit = 0 <;> by_cases d : q.cs = [] <;> by_cases e : q.epoch = 0 <;> simp [a, b, c, d, e]
theorem unused_epoch (hk : q.kind = 5 ∨ q.kind = 6) : unusedP q ↔ ¬ sameRq q ⟨q.kind, q.id, q.epoch, [], cell0, cell0, 0⟩ := by
  rw [same_epoch_iff]
  unfold unusedP
  have h3 : q.kind ≠ 3 := by omega
  have h1 : q.kind ≠ 1 := by omega
  have h2 : q.kind ≠ 2 := by omega
  have h4 : ¬ (q.kind = 4 ∨ q.kind = 7) := by omega
  simp only [h3, h1, h2, h4, ne_eq, not_false_eq_true, true_and, false_and, or_false]
  by_cases a : q.frm = cell0 <;> by_cases b : q.too = cell0 <;> by_cases c : q.limit = 0 <;> by_cases d : q.cs = [] <;> simp [a, b, c, d]
theorem good_cells (hk : q.kind = 1 ∨ q.kind = 2) (h1 : smallP q.id = true) (h2 : sameRq q { q with frm := cell0, too := cell0, limit := 0 }) (h3 : smallP q.epoch = true) :
    checkRq q = if q.cs.length = 0 ∨ (q.kind = 1 ∧ q.cs.length ≠ 1) then 16 else if 16 < q.cs.length then 2 else firstP q.cs := by
  rw [checkRq_good (by omega) h1 (fun h => (unused_cells hk).1 h h2) h3, if_neg (by omega)]
  by_cases a : q.cs.length = 0 ∨ (q.kind = 1 ∧ q.cs.length ≠ 1)
  · rw [if_pos a, if_pos (by omega)]
  · rw [if_neg a, if_neg (by omega), if_neg (show ¬ q.kind = 3 by omega)]
    by_cases b : 16 < q.cs.length
    · rw [if_pos b, if_pos b]
    · rw [if_neg b, if_neg b]
      by_cases c : firstP q.cs = 0
      · rw [if_neg (by simpa using c), c]
      · rw [if_pos c]
theorem good_scan (hk : q.kind = 3) (h1 : smallP q.id = true) (h2 : sameRq q { q with cs := [] }) (h3 : smallP q.epoch = true) : checkRq q = scanP q := by
  have hc := same_scan_iff.1 h2
  rw [checkRq_good (by omega) h1 (fun h => (unused_scan hk).1 h h2) h3, if_neg (by omega), if_neg (by omega), hc]
  rw [if_neg (by simp), if_neg (by simp [firstP]), if_pos hk]
theorem good_bare (hk : q.kind = 4 ∨ q.kind = 7) (h1 : smallP q.id = true) (h2 : sameRq q ⟨q.kind, q.id, 0, [], cell0, cell0, 0⟩) (h3 : smallP q.epoch = true) : checkRq q = 0 := by
  have hc := (same_bare_iff.1 h2).2.1
  rw [checkRq_good (by omega) h1 (fun h => (unused_bare hk).1 h h2) h3, if_neg (by omega), if_neg (by omega), hc]
  rw [if_neg (by simp), if_neg (by simp [firstP]), if_neg (by omega)]
theorem good_epoch (hk : q.kind = 5 ∨ q.kind = 6) (h1 : smallP q.id = true) (h2 : sameRq q ⟨q.kind, q.id, q.epoch, [], cell0, cell0, 0⟩) (h3 : smallP q.epoch = true) : checkRq q = if q.epoch = 0 then 16 else 0 := by
  have hc := (same_epoch_iff.1 h2).1
  rw [checkRq_good (by omega) h1 (fun h => (unused_epoch hk).1 h h2) h3]
  by_cases e : q.epoch = 0
  · rw [if_pos ⟨hk, e⟩, if_pos e]
  · rw [if_neg (fun h => e h.2), if_neg e, if_neg (by omega), hc]
    rw [if_neg (by simp), if_neg (by simp [firstP]), if_neg (by omega)]
end
section
variable {r : Rs}
theorem checkRs_none (h : r.kind < 1 ∨ 5 < r.kind) : checkRs r = 15 := if_pos h
theorem checkRs_bad (hk : 1 ≤ r.kind ∧ r.kind ≤ 5) (h : smallP r.id = false ∨ spareP r) : checkRs r = 16 := by
  unfold checkRs
  rw [if_neg (by omega), if_pos h]
theorem checkRs_good (hk : 1 ≤ r.kind ∧ r.kind ≤ 5) (h1 : smallP r.id = true) (h2 : ¬ spareP r) : checkRs r =
    if 256 < r.rows.length then 2
    else if firstR r.rows ≠ 0 then firstR r.rows
    else if r.kind = 2 then (if r.epoch < 1 ∨ 1099511627776 < r.epoch then 16 else 0)
    else if r.kind = 4 then stP r.st
    else if r.kind = 5 then (if r.err < 1 ∨ 255 < r.err then 16 else 0)
    else 0 := by
  unfold checkRs
  rw [if_neg (by omega), if_neg (by rw [h1]; simp [h2])]
/-- The own response of a kind. -/
def ownRs (r : Rs) : Rs :=
  if r.kind = 1 then ⟨r.kind, r.id, 0, 0, r.rows, st0⟩ else if r.kind = 2 then ⟨r.kind, r.id, 0, r.epoch, [], st0⟩ else if r.kind = 3 then ⟨r.kind, r.id, 0, 0, [], st0⟩
  else if r.kind = 4 then ⟨r.kind, r.id, 0, 0, [], r.st⟩ else ⟨r.kind, r.id, r.err, 0, [], st0⟩
theorem spare_own (hk : 1 ≤ r.kind ∧ r.kind ≤ 5) : spareP r ↔ ¬ sameRs r (ownRs r) := by
  obtain ⟨k, i, er, ep, rs, s⟩ := r
  replace hk : 1 ≤ k ∧ k ≤ 5 := hk
  obtain rfl | rfl | rfl | rfl | rfl : k = 1 ∨ k = 2 ∨ k = 3 ∨ k = 4 ∨ k = 5 := by omega
  all_goals
    simp only [spareP, ownRs, sameRs]
    by_cases a : rs = [] <;> by_cases b : s = st0 <;> by_cases c : er = 0 <;> by_cases d : ep = 0 <;> simp [a, b, c, d]
theorem good_rows (hk : r.kind = 1) (h1 : smallP r.id = true) (h2 : sameRs r (ownRs r)) : checkRs r = if 256 < r.rows.length then 2 else firstR r.rows := by
  rw [checkRs_good (by omega) h1 (fun h => (spare_own (by omega)).1 h h2)]
  by_cases a : 256 < r.rows.length
  · rw [if_pos a, if_pos a]
  · rw [if_neg a, if_neg a]
    by_cases b : firstR r.rows = 0
    · rw [if_neg (by simpa using b), if_neg (by omega), if_neg (by omega), if_neg (by omega), b]
    · rw [if_pos b]
theorem rows_nil (hk : 2 ≤ r.kind ∧ r.kind ≤ 5) (h2 : sameRs r (ownRs r)) : r.rows = [] := by
  have h := h2.2.2.2.2.1
  unfold ownRs at h
  rw [if_neg (by omega)] at h
  split at h
  · exact h
  · split at h
    · exact h
    · split at h <;> exact h
theorem good_other (hk : 2 ≤ r.kind ∧ r.kind ≤ 5) (h1 : smallP r.id = true) (h2 : sameRs r (ownRs r)) : checkRs r =
    if r.kind = 2 then (if r.epoch < 1 ∨ 1099511627776 < r.epoch then 16 else 0)
    else if r.kind = 4 then stP r.st
    else if r.kind = 5 then (if r.err < 1 ∨ 255 < r.err then 16 else 0)
    else 0 := by
  rw [checkRs_good (by omega) h1 (fun h => (spare_own (by omega)).1 h h2), rows_nil hk h2, if_neg (by simp), if_neg (by simp [firstR])]
end
end Go.Proofs.YtglbdbghcdoicaaGreatDoor
