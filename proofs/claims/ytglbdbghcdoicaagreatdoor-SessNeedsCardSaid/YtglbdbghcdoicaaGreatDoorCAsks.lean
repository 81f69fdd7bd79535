/- asks, tells: what a request asks, a response tells, and the one that has that alone: the walks. -/
import Derived.Test.YtglbdbghcdoicaaGreatDoorCSameRq
import Derived.RegionTactic
import Derived.ChangeAlike
namespace Go.Proofs.YtglbdbghcdoicaaGreatDoor
open Go.RowKit

abbrev nilS : Value := .slice none 0 0
abbrev whatCells (s : Value) (ep : Int) : Value := .iface 225 (.agg #[.int .i64 ep, s])
abbrev whatScan (q : Rq) : Value := .iface 228 (.agg #[.int .i64 q.epoch, .int .i64 q.frm.view, .string q.frm.key, .int .i64 q.frm.start, .int .i64 q.too.view, .string q.too.key, .int .i64 q.too.start, .int .i64 q.limit])
abbrev whatBare : Value := .iface 241 (.agg #[])
abbrev whatEpoch (e : Int) : Value := .iface 177 (.agg #[.int .i64 e])
abbrev whatRows (s : Value) : Value := .iface 172 (.agg #[s])
abbrev whatStats (x : StV) : Value := .iface 179 (.agg #[.int .i64 x.taken, .int .i64 x.late, .int .i64 x.over, .int .i64 x.full, .int .i64 x.cells, .int .i64 x.now])
abbrev whatFailed (e : Int) : Value := .iface 181 (.agg #[.int .i64 e])
set_option maxHeartbeats 2000000 in
set_option maxRecDepth 100000 in
theorem asks_cells (A : Option Addr) (n c : Nat) (q : Rq) (hk : q.kind = 1 ∨ q.kind = 2) (W : World) :
    Calls Tryz.prog 117 #[.agg (rqC (.slice A n c) q)] W fun e w' => e = .returned (.tuple #[whatCells (.slice A n c) q.epoch, .agg (rqC (.slice A n c) { q with frm := cell0, too := cell0, limit := 0 })]) ∧ Below W.heap.size W w' := by
  obtain ⟨k, i, ep, cs, ⟨fv, fk, fs⟩, ⟨tv, tk, ts⟩, l⟩ := q
  replace hk : k = 1 ∨ k = 2 := hk
  rcases hk with rfl | rfl
  · go_enter Tryz.func117, Tryz.ntmps117
    go_wp2
    go_region
    go_wp2
    go_region
    go_wp2
    refine bodyPost_ret (v := .tuple #[whatCells (.slice A n c) ep, .agg (rqC (.slice A n c) { (⟨1, i, ep, cs, ⟨fv, fk, fs⟩, ⟨tv, tk, ts⟩, l⟩ : Rq) with frm := cell0, too := cell0, limit := 0 })]) ?_ rfl ⟨rfl, ?_⟩
    · simp [results, Tryz.results117, go_sem, cell0]
    · repeat first
        | exact Below.refl _ _
        | apply Below.drew
        | (refine Below.alloc ?_ (by simp <;> omega) _)
  · go_enter Tryz.func117, Tryz.ntmps117
    go_wp2
    go_region
    go_wp2
    go_region
    go_wp2
    refine bodyPost_ret (v := .tuple #[whatCells (.slice A n c) ep, .agg (rqC (.slice A n c) { (⟨2, i, ep, cs, ⟨fv, fk, fs⟩, ⟨tv, tk, ts⟩, l⟩ : Rq) with frm := cell0, too := cell0, limit := 0 })]) ?_ rfl ⟨rfl, ?_⟩
    · simp [results, Tryz.results117, go_sem, cell0]
    · repeat first
        | exact Below.refl _ _
        | apply Below.drew
        | (refine Below.alloc ?_ (by simp <;> omega) _)
set_option maxHeartbeats 2000000 in
set_option maxRecDepth 100000 in
theorem asks_scan (A : Option Addr) (n c : Nat) (q : Rq) (hk : q.kind = 3) (W : World) :
    Calls Tryz.prog 117 #[.agg (rqC (.slice A n c) q)] W fun e w' => e = .returned (.tuple #[whatScan q, .agg (rqC nilS { q with cs := [] })]) ∧ Below W.heap.size W w' := by
  obtain ⟨k, i, ep, cs, ⟨fv, fk, fs⟩, ⟨tv, tk, ts⟩, l⟩ := q
  replace hk : k = 3 := hk
  subst hk
  go_enter Tryz.func117, Tryz.ntmps117
  go_wp2
  go_region
  go_wp2
  go_region
  go_wp2
  refine bodyPost_ret (v := .tuple #[whatScan ⟨3, i, ep, cs, ⟨fv, fk, fs⟩, ⟨tv, tk, ts⟩, l⟩, .agg (rqC nilS { (⟨3, i, ep, cs, ⟨fv, fk, fs⟩, ⟨tv, tk, ts⟩, l⟩ : Rq) with cs := [] })]) ?_ rfl ⟨rfl, ?_⟩
  · simp [results, Tryz.results117, go_sem]
  · repeat first
        | exact Below.refl _ _
        | apply Below.drew
        | (refine Below.alloc ?_ (by simp <;> omega) _)
set_option maxHeartbeats 2000000 in
set_option maxRecDepth 100000 in
theorem asks_bare (A : Option Addr) (n c : Nat) (q : Rq) (hk : q.kind = 4 ∨ q.kind = 7) (W : World) :
    Calls Tryz.prog 117 #[.agg (rqC (.slice A n c) q)] W fun e w' => e = .returned (.tuple #[whatBare, .agg (rqC nilS ⟨q.kind, q.id, 0, [], cell0, cell0, 0⟩)]) ∧ Below W.heap.size W w' := by
  obtain ⟨k, i, ep, cs, ⟨fv, fk, fs⟩, ⟨tv, tk, ts⟩, l⟩ := q
  replace hk : k = 4 ∨ k = 7 := hk
  rcases hk with rfl | rfl
  · go_enter Tryz.func117, Tryz.ntmps117
    go_wp2
    go_region
    go_wp2
    refine bodyPost_ret (v := .tuple #[whatBare, .agg (rqC nilS ⟨4, i, 0, [], cell0, cell0, 0⟩)]) ?_ rfl ⟨rfl, ?_⟩
    · simp [results, Tryz.results117, go_sem, cell0]
    · repeat first
        | exact Below.refl _ _
        | apply Below.drew
        | (refine Below.alloc ?_ (by simp <;> omega) _)
  · go_enter Tryz.func117, Tryz.ntmps117
    go_wp2
    go_region
    go_wp2
    refine bodyPost_ret (v := .tuple #[whatBare, .agg (rqC nilS ⟨7, i, 0, [], cell0, cell0, 0⟩)]) ?_ rfl ⟨rfl, ?_⟩
    · simp [results, Tryz.results117, go_sem, cell0]
    · repeat first
        | exact Below.refl _ _
        | apply Below.drew
        | (refine Below.alloc ?_ (by simp <;> omega) _)
set_option maxHeartbeats 2000000 in
set_option maxRecDepth 100000 in
theorem asks_epoch (A : Option Addr) (n c : Nat) (q : Rq) (hk : q.kind = 5 ∨ q.kind = 6) (W : World) :
    Calls Tryz.prog 117 #[.agg (rqC (.slice A n c) q)] W fun e w' => e = .returned (.tuple #[whatEpoch q.epoch, .agg (rqC nilS ⟨q.kind, q.id, q.epoch, [], cell0, cell0, 0⟩)]) ∧ Below W.heap.size W w' := by
  obtain ⟨k, i, ep, cs, ⟨fv, fk, fs⟩, ⟨tv, tk, ts⟩, l⟩ := q
  replace hk : k = 5 ∨ k = 6 := hk
  rcases hk with rfl | rfl
  · go_enter Tryz.func117, Tryz.ntmps117
    go_wp2
    go_region
    go_wp2
    refine bodyPost_ret (v := .tuple #[whatEpoch ep, .agg (rqC nilS ⟨5, i, ep, [], cell0, cell0, 0⟩)]) ?_ rfl ⟨rfl, ?_⟩
    · simp [results, Tryz.results117, go_sem, cell0]
    · repeat first
        | exact Below.refl _ _
        | apply Below.drew
        | (refine Below.alloc ?_ (by simp <;> omega) _)
  · go_enter Tryz.func117, Tryz.ntmps117
    go_wp2
    go_region
    go_wp2
    refine bodyPost_ret (v := .tuple #[whatEpoch ep, .agg (rqC nilS ⟨6, i, ep, [], cell0, cell0, 0⟩)]) ?_ rfl ⟨rfl, ?_⟩
    · simp [results, Tryz.results117, go_sem, cell0]
    · repeat first
        | exact Below.refl _ _
        | apply Below.drew
        | (refine Below.alloc ?_ (by simp <;> omega) _)
set_option maxHeartbeats 2000000 in
set_option maxRecDepth 100000 in
theorem asks_none (A : Option Addr) (n c : Nat) (q : Rq) (hk : q.kind < 1 ∨ 7 < q.kind) (W : World) :
    Calls Tryz.prog 117 #[.agg (rqC (.slice A n c) q)] W fun e w' => e = .returned (.tuple #[.nilIface, .agg (rqC nilS ⟨q.kind, q.id, 0, [], cell0, cell0, 0⟩)]) ∧ Below W.heap.size W w' := by
  obtain ⟨k, i, ep, cs, ⟨fv, fk, fs⟩, ⟨tv, tk, ts⟩, l⟩ := q
  replace hk : k < 1 ∨ 7 < k := hk
  have k1 : (k == 1) = false := by simp; omega
  have k2 : (k == 2) = false := by simp; omega
  have k3 : (k == 3) = false := by simp; omega
  have k4 : (k == 4) = false := by simp; omega
  have k5 : (k == 5) = false := by simp; omega
  have k6 : (k == 6) = false := by simp; omega
  have k7 : (k == 7) = false := by simp; omega
  clear hk
  go_enter Tryz.func117, Tryz.ntmps117
  go_wp2
  go_region
  go_wp2
  refine bodyPost_ret (v := .tuple #[.nilIface, .agg (rqC nilS ⟨k, i, 0, [], cell0, cell0, 0⟩)]) ?_ rfl ⟨rfl, ?_⟩
  · simp [results, Tryz.results117, go_sem, cell0]
  · repeat first
        | exact Below.refl _ _
        | apply Below.drew
        | (refine Below.alloc ?_ (by simp <;> omega) _)
set_option maxHeartbeats 2000000 in
set_option maxRecDepth 100000 in
theorem tells_rows (A : Option Addr) (n c : Nat) (r : Rs) (hk : r.kind = 1) (W : World) :
    Calls Tryz.prog 86 #[.agg (rsC (.slice A n c) r)] W fun e w' => e = .returned (.tuple #[whatRows (.slice A n c), .agg (rsC (.slice A n c) ⟨r.kind, r.id, 0, 0, r.rows, st0⟩)]) ∧ Below W.heap.size W w' := by
  obtain ⟨k, i, er, ep, cs, ⟨s0, s1, s2, s3, s4, s5⟩⟩ := r
  replace hk : k = 1 := hk
  subst hk
  go_enter Tryz.func86, Tryz.ntmps86
  go_wp2
  go_region
  go_wp2
  refine bodyPost_ret (v := .tuple #[whatRows (.slice A n c), .agg (rsC (.slice A n c) ⟨1, i, 0, 0, cs, st0⟩)]) ?_ rfl ⟨rfl, ?_⟩
  · simp [results, Tryz.results86, go_sem, st0]
  · repeat first
        | exact Below.refl _ _
        | apply Below.drew
        | (refine Below.alloc ?_ (by simp <;> omega) _)
set_option maxHeartbeats 2000000 in
set_option maxRecDepth 100000 in
theorem tells_epoch (A : Option Addr) (n c : Nat) (r : Rs) (hk : r.kind = 2) (W : World) :
    Calls Tryz.prog 86 #[.agg (rsC (.slice A n c) r)] W fun e w' => e = .returned (.tuple #[whatEpoch r.epoch, .agg (rsC nilS ⟨r.kind, r.id, 0, r.epoch, [], st0⟩)]) ∧ Below W.heap.size W w' := by
  obtain ⟨k, i, er, ep, cs, ⟨s0, s1, s2, s3, s4, s5⟩⟩ := r
  replace hk : k = 2 := hk
  subst hk
  go_enter Tryz.func86, Tryz.ntmps86
  go_wp2
  go_region
  go_wp2
  refine bodyPost_ret (v := .tuple #[whatEpoch ep, .agg (rsC nilS ⟨2, i, 0, ep, [], st0⟩)]) ?_ rfl ⟨rfl, ?_⟩
  · simp [results, Tryz.results86, go_sem, st0]
  · repeat first
        | exact Below.refl _ _
        | apply Below.drew
        | (refine Below.alloc ?_ (by simp <;> omega) _)
set_option maxHeartbeats 2000000 in
set_option maxRecDepth 100000 in
theorem tells_done (A : Option Addr) (n c : Nat) (r : Rs) (hk : r.kind = 3) (W : World) :
    Calls Tryz.prog 86 #[.agg (rsC (.slice A n c) r)] W fun e w' => e = .returned (.tuple #[whatBare, .agg (rsC nilS ⟨r.kind, r.id, 0, 0, [], st0⟩)]) ∧ Below W.heap.size W w' := by
  obtain ⟨k, i, er, ep, cs, ⟨s0, s1, s2, s3, s4, s5⟩⟩ := r
  replace hk : k = 3 := hk
  subst hk
  go_enter Tryz.func86, Tryz.ntmps86
  go_wp2
  go_region
  go_wp2
  refine bodyPost_ret (v := .tuple #[whatBare, .agg (rsC nilS ⟨3, i, 0, 0, [], st0⟩)]) ?_ rfl ⟨rfl, ?_⟩
  · simp [results, Tryz.results86, go_sem, st0]
  · repeat first
        | exact Below.refl _ _
        | apply Below.drew
        | (refine Below.alloc ?_ (by simp <;> omega) _)
set_option maxHeartbeats 2000000 in
set_option maxRecDepth 100000 in
theorem tells_stats (A : Option Addr) (n c : Nat) (r : Rs) (hk : r.kind = 4) (W : World) :
    Calls Tryz.prog 86 #[.agg (rsC (.slice A n c) r)] W fun e w' => e = .returned (.tuple #[whatStats r.st, .agg (rsC nilS ⟨r.kind, r.id, 0, 0, [], r.st⟩)]) ∧ Below W.heap.size W w' := by
  obtain ⟨k, i, er, ep, cs, ⟨s0, s1, s2, s3, s4, s5⟩⟩ := r
  replace hk : k = 4 := hk
  subst hk
  go_enter Tryz.func86, Tryz.ntmps86
  go_wp2
  go_region
  go_wp2
  refine bodyPost_ret (v := .tuple #[whatStats ⟨s0, s1, s2, s3, s4, s5⟩, .agg (rsC nilS ⟨4, i, 0, 0, [], ⟨s0, s1, s2, s3, s4, s5⟩⟩)]) ?_ rfl ⟨rfl, ?_⟩
  · simp [results, Tryz.results86, go_sem]
  · repeat first
        | exact Below.refl _ _
        | apply Below.drew
        | (refine Below.alloc ?_ (by simp <;> omega) _)
set_option maxHeartbeats 2000000 in
set_option maxRecDepth 100000 in
theorem tells_error (A : Option Addr) (n c : Nat) (r : Rs) (hk : r.kind = 5) (W : World) :
    Calls Tryz.prog 86 #[.agg (rsC (.slice A n c) r)] W fun e w' => e = .returned (.tuple #[whatFailed r.err, .agg (rsC nilS ⟨r.kind, r.id, r.err, 0, [], st0⟩)]) ∧ Below W.heap.size W w' := by
  obtain ⟨k, i, er, ep, cs, ⟨s0, s1, s2, s3, s4, s5⟩⟩ := r
  replace hk : k = 5 := hk
  subst hk
  go_enter Tryz.func86, Tryz.ntmps86
  go_wp2
  go_region
  go_wp2
  refine bodyPost_ret (v := .tuple #[whatFailed er, .agg (rsC nilS ⟨5, i, er, 0, [], st0⟩)]) ?_ rfl ⟨rfl, ?_⟩
  · simp [results, Tryz.results86, go_sem, st0]
  · repeat first
        | exact Below.refl _ _
        | apply Below.drew
        | (refine Below.alloc ?_ (by simp <;> omega) _)
set_option maxHeartbeats 2000000 in
set_option maxRecDepth 100000 in
theorem tells_none (A : Option Addr) (n c : Nat) (r : Rs) (hk : r.kind < 1 ∨ 5 < r.kind) (W : World) :
    Calls Tryz.prog 86 #[.agg (rsC (.slice A n c) r)] W fun e w' => e = .returned (.tuple #[.nilIface, .agg (rsC nilS ⟨r.kind, r.id, 0, 0, [], st0⟩)]) ∧ Below W.heap.size W w' := by
  obtain ⟨k, i, er, ep, cs, ⟨s0, s1, s2, s3, s4, s5⟩⟩ := r
  replace hk : k < 1 ∨ 5 < k := hk
  have k1 : (k == 1) = false := by simp; omega
  have k2 : (k == 2) = false := by simp; omega
  have k3 : (k == 3) = false := by simp; omega
  have k4 : (k == 4) = false := by simp; omega
  have k5 : (k == 5) = false := by simp; omega
  clear hk
  go_enter Tryz.func86, Tryz.ntmps86
  go_wp2
  go_region
  go_wp2
  refine bodyPost_ret (v := .tuple #[.nilIface, .agg (rsC nilS ⟨k, i, 0, 0, [], st0⟩)]) ?_ rfl ⟨rfl, ?_⟩
  · simp [results, Tryz.results86, go_sem, st0]
  · repeat first
        | exact Below.refl _ _
        | apply Below.drew
        | (refine Below.alloc ?_ (by simp <;> omega) _)
end Go.Proofs.YtglbdbghcdoicaaGreatDoor
