/- Frames' Next where no whole frame is there yet. -/
import Derived.Test.YtdgokebablhoiaaDoorWNext
namespace Go.Proofs.YtdgokebablhoiaaDoor
open Go.RowKit

set_option maxRecDepth 100000 in
theorem f_next_short (base q : Nat) (most : Int) (A : Option Addr) (n c : Nat) (bs : List Int) (W : World) (h : Fm W base q most (.slice A n c) bs) (hn : n < 4) :
    Calls Tryd.prog 40 #[.pointer (some ⟨q, 0, none⟩)] W fun e w' => e = .returned (.tuple #[.slice none 0 0, .bool false, .int .i64 0]) ∧ W = w' := by
  have p1 : W.cell? ⟨q, 1, none⟩ = some (.slice A n c) := h.blk.cell 1
  have p2 : W.cell? ⟨q, 2, none⟩ = some .nilIface := h.blk.cell 2
  clear h
  go_enter Tryd.func40, Tryd.ntmps40
  go_wp2_with (go_at_call 34; (with_reducible refine (is_nil _ _).mono ?_); rintro e w1 ⟨rfl, rfl⟩)
  exact bodyPost_ret (v := .tuple #[.slice none 0 0, .bool false, .int .i64 0]) (by simp [results, Tryd.results40, go_sem]) rfl ⟨rfl, rfl⟩
set_option maxHeartbeats 1000000 in
set_option maxRecDepth 100000 in
theorem f_next_wait (base q : Nat) (most : Int) (A : Option Addr) (n c : Nat) (b0 b1 b2 b3 : Nat) (k0 : b0 < 256) (k1 : b1 < 256) (k2 : b2 < 256) (k3 : b3 < 256) (rest : List Int) (W : World) (h : Fm W base q most (.slice A n c) ((b0 : Int) :: b1 :: b2 :: b3 :: rest)) (hn : n = rest.length + 4) (hb : 1 ≤ be4 b0 b1 b2 b3 ∧ (be4 b0 b1 b2 b3 : Int) ≤ most) (hw : n < 4 + be4 b0 b1 b2 b3) :
    Calls Tryd.prog 40 #[.pointer (some ⟨q, 0, none⟩)] W fun e w' => e = .returned (.tuple #[.slice none 0 0, .bool false, .int .i64 0]) ∧ W = w' := by
  have H := Lib.hid h
  have p1 : W.cell? ⟨q, 1, none⟩ = some (.slice A n c) := h.blk.cell 1
  have p0 : W.cell? ⟨q, 0, none⟩ = some (.int .i64 most) := h.blk.cell 0
  have p2 : W.cell? ⟨q, 2, none⟩ = some .nilIface := h.blk.cell 2
  have h4 : 4 ≤ n := by omega
  obtain ⟨A', c', e, hr, hc⟩ := row_of_own h.own
  clear h hn
  rcases hr with ⟨_, h, _⟩ | ⟨g, cur, hA, _, hg, _, _, ht⟩
  · simp at h
  injection e with e1 e2 e3
  subst e1
  subst e3
  subst hA
  have g0 : W.cell? ⟨g, 0, none⟩ = some (.int .u8 (b0 : Int)) := cell_take hg ht 0 (by simp [bvs])
  have g1 : W.cell? ⟨g, 1, none⟩ = some (.int .u8 (b1 : Int)) := cell_take hg ht 1 (by simp [bvs])
  have g2 : W.cell? ⟨g, 2, none⟩ = some (.int .u8 (b2 : Int)) := cell_take hg ht 2 (by simp [bvs])
  have g3 : W.cell? ⟨g, 3, none⟩ = some (.int .u8 (b3 : Int)) := cell_take hg ht 3 (by simp [bvs])
  have hcn : n ≤ c := by rw [e2]; exact hc
  clear hg ht hc e2
  obtain ⟨N1, e1⟩ : ∃ N1, N1 = b0 * 256 + b1 := ⟨_, rfl⟩
  obtain ⟨N2, e2⟩ : ∃ N2, N2 = N1 * 256 + b2 := ⟨_, rfl⟩
  obtain ⟨N, e3⟩ : ∃ N, N = N2 * 256 + b3 := ⟨_, rfl⟩
  have hN : be4 b0 b1 b2 b3 = N := by unfold be4; rw [e3, e2, e1]
  rw [hN] at hb hw
  obtain ⟨hb1, hb2⟩ := hb
  have h1 : decide ((N : Int) < 1) = false := by simp; omega
  have h2 : decide (most < (N : Int)) = false := by simpa using hb2
  have h3 : decide ((n : Int) < 4 + (N : Int)) = true := by simp; omega
  have hw4 : (n : Int) < 4 + (N : Int) := by omega
  clear hw
  have o0 := or0 b0 k0
  have o1 : bits .or .i64 ((b0 : Int) * 256) (b1 : Int) = (N1 : Int) := by rw [or256 b0 b1 (by omega) k1]; omega
  have o2 : bits .or .i64 ((N1 : Int) * 256) (b2 : Int) = (N2 : Int) := by rw [or256 N1 b2 (by omega) k2]; omega
  have o3 : bits .or .i64 ((N2 : Int) * 256) (b3 : Int) = (N : Int) := by rw [or256 N2 b3 (by omega) k3]; omega
  have j1 : N1 ≤ 65535 := by omega
  have j2 : N2 ≤ 16777215 := by omega
  have j3 : N ≤ 4294967295 := by omega
  clear e1 e2 e3 hN
  go_enter Tryd.func40, Tryd.ntmps40
  go_wp2_with (go_at_call 34; (with_reducible refine (is_nil _ _).mono ?_); rintro e w1 ⟨rfl, rfl⟩)
  refine wp_loop_rounds 5 ?_
  rw [rounds_succ]
  go_wp2
  rw [rounds_succ]
  go_wp2
  rw [rounds_succ]
  go_wp2
  rw [rounds_succ]
  go_wp2
  rw [rounds_succ]
  go_wp2
  exact bodyPost_ret (v := .tuple #[.slice none 0 0, .bool false, .int .i64 0]) (by simp [results, Tryd.results40, go_sem]) rfl ⟨rfl, rfl⟩
end Go.Proofs.YtdgokebablhoiaaDoor
