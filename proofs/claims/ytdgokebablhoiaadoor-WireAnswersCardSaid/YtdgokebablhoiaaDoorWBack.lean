/- The law's own Back. -/
import Derived.Test.YtdgokebablhoiaaDoorWLend
namespace Go.Proofs.YtdgokebablhoiaaDoor
open Go.RowKit

theorem conv_cells {W : World} {A : Option Addr} {n : Nat} {xs : List Int} (h : CellsAt W A (bvs xs)) (hl : xs.length = n) (c : Nat) : (convert 24 9 (.slice A n c)).run Tryd.prog W = .ok (.string (strOfNums xs)) W := by
  cases A with
  | none =>
    have hx : xs = [] := by
      cases xs with
      | nil => rfl
      | cons u us => obtain ⟨ad, h, _⟩ := h 0 (by simp [bvs]); cases h
    subst hx
    exact run_convert_bytes_nil (P := Tryd.prog) W _ _ Tryd.underlying24 Tryd.underlying5 n c _ Tryd.underlying9
  | some ad =>
    have hc := run_loadCells_list (P := Tryd.prog) W ad (bvs xs) (fun j v hj => by
      obtain ⟨hlt, rfl⟩ := List.getElem?_eq_some_iff.1 hj
      obtain ⟨ad', e, _, h2⟩ := h j hlt
      cases e
      exact h2)
    rw [bvs_len, hl] at hc
    rw [run_convert_bytes_string W _ _ _ _ n c Tryd.underlying24 Tryd.underlying5 Tryd.underlying9, run_bytesToString W ad n c xs hc, foldl_push_bytes]
    have e0 : ByteArray.empty.data = #[] := rfl
    rw [e0]
    simp [strOfNums]

theorem cells_of_blk {W : World} {g : Nat} {cur : Array Value} {xs more : List Int} (hg : Blk W g 5 cur) (hc : cur.toList = bvs (xs ++ more)) : CellsAt W (some ⟨g, 0, none⟩) (bvs xs) := fun k hk => by
  refine ⟨_, rfl, hg.lt, ?_⟩
  rw [add_zero_, hg.cell k, ← Array.getElem?_toList, hc, bvs_append, List.getElem?_append_left hk, List.getElem?_eq_getElem hk]

set_option maxHeartbeats 1000000 in
set_option maxRecDepth 100000 in
theorem back_any (g : Nat) (cur : Array Value) (A : Option Addr) (n c : Nat) (xs : List Int) (W : World) (hl : xs.length = n) (h : CellsAt W A (bvs xs)) (hg : Blk W g 5 cur) (hcu : cur.toList = bvs (xs ++ List.replicate 67 169)) (hn : n + 67 ≤ 140737488355328) :
    Calls Tryd.prog 23 #[.slice (some ⟨g, 0, none⟩) n (n + 67), .slice A n c] W fun e w' => e = .returned (.bool true) ∧ Tur (· = g) W w' := by
  have hc1 := conv_cells (cells_of_blk hg hcu) hl (n + 67)
  have hc2 := conv_cells h hl c
  have HG := Lib.hid hg
  have HC := Lib.hid hcu
  have HL := Lib.hid hl
  have HN := Lib.hid hn
  have hsz : Hid (cur.size = n + 67) := Lib.hid (by rw [← Array.length_toList, hcu, bvs_len, List.length_append, hl, List.length_replicate])
  have hnn : (0 : Int) ≤ (n : Int) := by omega
  have hn9 : (n : Int) ≤ 140737488355261 := by omega
  generalize strOfNums xs = S at hc1 hc2
  clear h hg hcu hl hn
  go_enter Tryd.func23, Tryd.ntmps23
  go_wp2
  go_loop [5, 7] (fun ok i => ∃ k : Nat, n ≤ k ∧ k ≤ n + 67 ∧ ok = .bool true ∧ i = .int .i64 k) (fun _ i => n + 67 - (intOf i).toNat)
  case atStart => exact ⟨n, Nat.le_refl _, by omega, by simp, rfl⟩
  case round =>
    obtain ⟨k, hk1, hk2, rfl, rfl⟩ := hrel
    by_cases hlt : k < n + 67
    · have hcr : W.cell? ⟨g, k, none⟩ = some (.int .u8 169) := by
        rw [HG.out.cell k, ← Array.getElem?_toList, HC.out, bvs_append, List.getElem?_append_right (by rw [bvs_len, HL.out]; exact hk1), bvs_len, HL.out]
        rw [show bvs (List.replicate 67 169) = List.replicate 67 (Value.int .u8 169) by simp [bvs], List.getElem?_replicate, if_pos (by omega)]
      clear hc1 hc2
      go_wp2
      go_round
      case rel => exact ⟨k + 1, by omega, by omega, by simp, by go_num⟩
      case measure => simp [intOf]; omega
    · clear hc1 hc2
      go_wp2
      go_loopw [8] (fun i wr => ∃ (j : Nat) (cs : Array Value), j ≤ n + 67 ∧ i = .int .i64 j ∧ Hid (Blk wr g 5 cs ∧ cs.size = n + 67 ∧ Tur (· = g) W wr)) (fun i _ => n + 67 - (intOf i).toNat)
      case atStart => exact ⟨0, cur, Nat.zero_le _, rfl, Lib.hid ⟨HG.out, hsz.out, Tur.refl _ _⟩⟩
      case round =>
        obtain ⟨j, cs, hj, rfl, HP⟩ := hrel
        by_cases hlt2 : j < n + 67
        · have hkc : j < cs.size := by rw [HP.out.2.1]; exact hlt2
          have hcr : wr.cell? ⟨g, j, none⟩ = some (cs[j]'hkc) := by rw [HP.out.1.cell j, Array.getElem?_eq_getElem hkc]
          have hfr : wr.frozen? ⟨g, j, none⟩ = false := HP.out.1.frozen j
          go_wp2
          go_roundw
          case rel => exact ⟨j + 1, cs.setIfInBounds j (.int .u8 94), by omega, by go_num, Lib.hid ⟨HP.out.1.set_ j _, by simpa using HP.out.2.1, HP.out.2.2.setCell (.inl rfl) _⟩⟩
          case measure => simp [intOf]; omega
        · go_wp2
          go_ret
          exact ⟨rfl, HP.out.2.2⟩
end Go.Proofs.YtdgokebablhoiaaDoor
