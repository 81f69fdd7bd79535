/- SessLocks: the walk. -/
import Derived.Test.YtglbdbghcdoicaaGreatDoorSOpen
import Derived.Test.YtglbdbghcdoicaaGreatDoorSNeed
namespace Go.Proofs.YtglbdbghcdoicaaGreatDoor
open Go.RowKit

theorem needP_rise (q : Rq) (zs : List Int) : (needP q zs).Pairwise (fun a b => a.1 < b.1) := by
  unfold needP
  split
  · rw [List.pairwise_map]
    exact (shardsP_sorted _).imp fun h => by show _ < _; omega
  · repeat' split
    all_goals simp
theorem needP_two (q : Rq) (zs : List Int) (h : ¬ (q.kind = 1 ∨ q.kind = 2)) : (needP q zs).length ≤ 2 := by
  unfold needP
  rw [if_neg h]
  repeat' split
  all_goals simp
theorem needP_len (q : Rq) (zs : List Int) (h : q.kind = 1 ∨ q.kind = 2) : (needP q zs).length ≤ q.cs.length := by
  unfold needP
  rw [if_pos h, List.length_map]
  exact Nat.le_trans (shardsP_len _) (Nat.le_of_eq (tsP_len _ _))
/-- Where a cell goes. -/
def routeP (zs : List Int) (i : Nat) : Int := max (zs.getD i 0) 0
theorem tcP_get (m : Nat) (zs : List Int) (i : Nat) (hi : i < m) : (tcP m zs)[i]? = some (zs.getD i 0) := by
  unfold tcP
  by_cases h : i < zs.length
  · rw [List.getElem?_append_left (by rw [List.length_take]; omega), List.getElem?_take, if_pos hi, List.getD_eq_getElem?_getD, List.getElem?_eq_getElem h]; rfl
  · rw [List.getElem?_append_right (by rw [List.length_take]; omega), List.length_take, List.getElem?_replicate, if_pos (by omega), List.getD_eq_getElem?_getD, List.getElem?_eq_none (by omega)]; rfl
theorem needP_mem (q : Rq) (zs : List Int) (h : q.kind = 1 ∨ q.kind = 2) (i : Nat) (hi : i < q.cs.length) : (2 + routeP zs i, true) ∈ needP q zs := by
  unfold needP
  rw [if_pos h]
  refine List.mem_map.2 ⟨routeP zs i, ?_, rfl⟩
  rw [shardsP_mem]
  unfold tsP
  exact List.mem_map.2 ⟨zs.getD i 0, List.mem_of_getElem? (tcP_get _ zs i hi), rfl⟩
/-- Locks as they lie. -/
def LkAt (W : World) (A : Option Addr) (ls : List LockV) : Prop := ∀ k (h : k < ls.length), ∃ g, A = some ⟨g, 0, none⟩ ∧ W.cell? ⟨g, k * 2, none⟩ = some (.int .i64 ls[k].1) ∧ W.cell? ⟨g, k * 2 + 1, none⟩ = some (.bool ls[k].2)
theorem lockCs_get : ∀ (ls : List LockV) (k : Nat) (h : k < ls.length), (lockCs ls)[k * 2]? = some (.int .i64 ls[k].1) ∧ (lockCs ls)[k * 2 + 1]? = some (.bool ls[k].2)
  | [], _, h => absurd h (Nat.not_lt_zero _)
  | l :: ls, 0, _ => ⟨rfl, rfl⟩
  | l :: ls, k + 1, h => by
    have ih := lockCs_get ls k (by simpa using h)
    have e1 : lockCs (l :: ls) = .int .i64 l.1 :: .bool l.2 :: lockCs ls := rfl
    rw [e1, show (k + 1) * 2 = k * 2 + 1 + 1 by omega, show k * 2 + 1 + 1 + 1 = (k * 2 + 1) + 1 + 1 by omega]
    simpa using ih
theorem LocksOwn.lk {W : World} {B : Nat} {A : Option Addr} {c n : Nat} {ls : List LockV} (h : LocksOwn W B (.slice A n c) ls) : LkAt W A ls := fun k hk => by
  unfold LocksOwn at h
  rcases h.2 with ⟨hv, h0⟩ | ⟨g, cap, cur, hv, _⟩
  · omega
  · injection hv with hA hn hc
    have hc := World.ownsRow.cells (g := g) h (by rw [hA]; rfl)
    obtain ⟨e1, e2⟩ := lockCs_get ls k hk
    have c1 := hc _ _ e1
    have c2 := hc _ _ e2
    rw [add_zero_] at c1 c2
    exact ⟨g, hA, c1, c2⟩
/-- Is the lock among the first k? -/
structure HasL (ls : List LockV) (tt : Int) (k : Nat) (b : Bool) : Prop where
  iff_ : b = true ↔ ∃ j, ∃ h : j < ls.length, j < k ∧ ls[j] = (tt, true)
theorem HasL.zero (ls : List LockV) (tt : Int) : HasL ls tt 0 false := ⟨⟨fun h => (by cases h), fun ⟨_, _, h, _⟩ => absurd h (Nat.not_lt_zero _)⟩⟩
theorem HasL.yes {ls : List LockV} {tt : Int} {k : Nat} (h : HasL ls tt k true) : HasL ls tt (k + 1) true := by
  obtain ⟨j, hj, h1, h2⟩ := h.iff_.1 rfl
  exact ⟨⟨fun _ => ⟨j, hj, Nat.lt_succ_of_lt h1, h2⟩, fun _ => rfl⟩⟩
theorem HasL.here {ls : List LockV} {tt : Int} {k : Nat} (hk : k < ls.length) (he : ls[k] = (tt, true)) : HasL ls tt (k + 1) true := ⟨⟨fun _ => ⟨k, hk, by omega, he⟩, fun _ => rfl⟩⟩
theorem HasL.not_ {ls : List LockV} {tt : Int} {k : Nat} (h : HasL ls tt k false) (hk : k < ls.length) (he : ls[k] ≠ (tt, true)) : HasL ls tt (k + 1) false := by
  refine ⟨⟨fun h => (by cases h), ?_⟩⟩
  rintro ⟨j, hj, h1, h2⟩
  by_cases hjk : j = k
  · subst hjk; exact absurd h2 he
  · exact h.iff_.2 ⟨j, hj, by omega, h2⟩
theorem HasL.all {ls : List LockV} {tt : Int} {k : Nat} {b : Bool} (h : HasL ls tt k b) (hk : k = ls.length) (hm : (tt, true) ∈ ls) : b = true := h.iff_.2 (by
  obtain ⟨j, hj, he⟩ := List.getElem_of_mem hm
  exact ⟨j, hj, by omega, he⟩)
theorem LkAt.below {W W' : World} {A : Option Addr} {ls : List LockV} (h : LkAt W A ls) (hb : Below W.heap.size W W') : LkAt W' A ls := fun k hk => by
  obtain ⟨g, hA, c1, c2⟩ := h k hk
  exact ⟨g, hA, (hb.cell (p := ⟨g, k * 2, none⟩) (World.block_lt_of_cell? W _ c1)).trans c1, (hb.cell (p := ⟨g, k * 2 + 1, none⟩) (World.block_lt_of_cell? W _ c2)).trans c2⟩
end Go.Proofs.YtglbdbghcdoicaaGreatDoor
