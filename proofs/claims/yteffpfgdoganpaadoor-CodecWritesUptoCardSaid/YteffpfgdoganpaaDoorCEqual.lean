/- slices.Equal of cells, of rows: the walks. -/
import Derived.Test.YteffpfgdoganpaaDoorCSame
import Derived.Deep.Slices
import Derived.Deep.Fields
namespace Go.Proofs.YteffpfgdoganpaaDoor
open Go.RowKit

/-- The place of a field of an element. -/
abbrev fldN (ad : Addr) (s k j : Nat) : Addr := ⟨(ad.add (k * s)).block, (ad.add (k * s)).off + j, none⟩
theorem fldN_eq (ad : Addr) (s k j : Nat) (hj : 0 < j) : ad.add (k * s + j) = fldN ad s k j := by
  rw [← Go.Deep.add_add]
  obtain ⟨i, rfl⟩ : ∃ i, j = i + 1 := ⟨j - 1, by omega⟩
  rfl
theorem CellsRd.at {W W' : World} {A : Option Addr} {cs : List CellV} (h : CellsRd W A cs) (hb : Below W.heap.size W W') (k : Nat) (hk : k < cs.length) :
    ∃ ad, A = some ad ∧ W'.cell? (ad.add (k * 3)) = some (.int .i64 cs[k].view) ∧ W'.cell? (fldN ad 3 k 1) = some (.string cs[k].key) ∧ W'.cell? (fldN ad 3 k 2) = some (.int .i64 cs[k].start) := by
  obtain ⟨ad, e, hl, hc⟩ := h k hk
  have hc' : ∀ j v, (cs[k].cells)[j]? = some v → W'.cell? (ad.add (k * 3 + j)) = some v := fun j v hj => (hb.cell (by rw [block_addC]; exact hl)).trans (hc j v hj)
  exact ⟨ad, e, hc' 0 _ rfl, fldN_eq ad 3 k 1 (by omega) ▸ hc' 1 _ rfl, fldN_eq ad 3 k 2 (by omega) ▸ hc' 2 _ rfl⟩
theorem RowsRd.at {W W' : World} {A : Option Addr} {rs : List RowV} (h : RowsRd W A rs) (hb : Below W.heap.size W W') (k : Nat) (hk : k < rs.length) :
    ∃ ad, A = some ad ∧ W'.cell? (ad.add (k * 7)) = some (.int .i64 rs[k].cell.view) ∧ W'.cell? (fldN ad 7 k 1) = some (.string rs[k].cell.key) ∧ W'.cell? (fldN ad 7 k 2) = some (.int .i64 rs[k].cell.start) ∧
      W'.cell? (fldN ad 7 k 3) = some (.int .i64 rs[k].count) ∧ W'.cell? (fldN ad 7 k 4) = some (.int .i64 rs[k].sum) ∧ W'.cell? (fldN ad 7 k 5) = some (.int .i64 rs[k].min) ∧ W'.cell? (fldN ad 7 k 6) = some (.int .i64 rs[k].max) := by
  obtain ⟨ad, e, hl, hc⟩ := h k hk
  have hc' : ∀ j v, (rs[k].cells)[j]? = some v → W'.cell? (ad.add (k * 7 + j)) = some v := fun j v hj => (hb.cell (by rw [block_addC]; exact hl)).trans (hc j v hj)
  exact ⟨ad, e, hc' 0 _ rfl, fldN_eq ad 7 k 1 (by omega) ▸ hc' 1 _ rfl, fldN_eq ad 7 k 2 (by omega) ▸ hc' 2 _ rfl, fldN_eq ad 7 k 3 (by omega) ▸ hc' 3 _ rfl, fldN_eq ad 7 k 4 (by omega) ▸ hc' 4 _ rfl, fldN_eq ad 7 k 5 (by omega) ▸ hc' 5 _ rfl, fldN_eq ad 7 k 6 (by omega) ▸ hc' 6 _ rfl⟩
theorem take_succ_eq {α : Type} {xs ys : List α} {k : Nat} (h : xs.take k = ys.take k) (hx : k < xs.length) (hy : k < ys.length) (e : xs[k] = ys[k]) : xs.take (k + 1) = ys.take (k + 1) := by
  rw [List.take_add_one, List.take_add_one, h, List.getElem?_eq_getElem hx, List.getElem?_eq_getElem hy, e]

set_option maxHeartbeats 1000000 in
set_option maxRecDepth 100000 in
theorem equal_cells (A B : Option Addr) (n m c d : Nat) (xs ys : List CellV) (W : World) (hla : xs.length = n) (hlb : ys.length = m) (ha : CellsRd W A xs) (hb : CellsRd W B ys) (hn : n ≤ 9223372036854775807) (hm : m ≤ 9223372036854775807) :
    Calls Tryd.prog 40 #[.slice A n c, .slice B m d] W fun e w' => e = .returned (.bool (decide (xs = ys))) ∧ Below W.heap.size W w' := by
  have HLA := Lib.hid hla
  have HLB := Lib.hid hlb
  have HA := Lib.hid ha
  have HB := Lib.hid hb
  clear hla hlb ha hb
  by_cases hnm : n = m
  · subst hnm
    go_enter Tryd.func40, Tryd.ntmps40
    go_wp2
    go_loopw [13] (fun t13 wz => ∃ k : Nat, t13 = .int .i64 (k : Int) ∧ k ≤ n ∧ Hid (xs.take k = ys.take k ∧ Below W.heap.size W wz)) (fun t13 _ => n - (intOf t13).toNat)
    case atStart => exact ⟨0, rfl, Nat.zero_le _, Lib.hid ⟨rfl, Below.refl _ _⟩⟩
    case round =>
      obtain ⟨k, rfl, hk, HP⟩ := hrel
      rename World => wz
      by_cases hkn : k < n
      · have hkx : k < xs.length := by rw [HLA.out]; exact hkn
        have hky : k < ys.length := by rw [HLB.out]; exact hkn
        obtain ⟨ad, rfl, a0, a1, a2⟩ := HA.out.at HP.out.2 k hkx
        obtain ⟨bd, rfl, b0, b1, b2⟩ := HB.out.at HP.out.2 k hky
        have e0 := neqCell xs[k] ys[k]
        have HE := Lib.hid (fun (e : xs[k] = ys[k]) => take_succ_eq HP.out.1 hkx hky e)
        have HN := Lib.hid (fun (e : ¬ xs[k] = ys[k]) (h : xs = ys) => e (by subst h; rfl))
        generalize xs[k] = x at *
        generalize ys[k] = y at *
        by_cases hxy : x = y
        · rw [decide_eq_true hxy] at e0
          have e1 : ∀ w : World, (binOp .neq 24 (.agg #[.int .i64 x.view, .string x.key, .int .i64 x.start]) (.agg #[.int .i64 y.view, .string y.key, .int .i64 y.start])).run Tryd.prog w = .ok (.bool false) w := e0
          have HXY := Lib.hid hxy
          clear hxy e0
          go_wp2
          go_quiet (fail)
          have HB2 := Lib.hid (HP.out.2.trans (below_drewN (Below.refl wz.heap.size wz) nq |>.mono HP.out.2.size))
          generalize wz.drewN nq = w2 at HB2 ⊢
          go_wp2
          go_roundw
          case rel => exact ⟨k + 1, by go_num, by omega, Lib.hid ⟨HE.out HXY.out, HB2.out⟩⟩
          case measure => simp [intOf]; omega
        · rw [decide_eq_false hxy] at e0
          have e1 : ∀ w : World, (binOp .neq 24 (.agg #[.int .i64 x.view, .string x.key, .int .i64 x.start]) (.agg #[.int .i64 y.view, .string y.key, .int .i64 y.start])).run Tryd.prog w = .ok (.bool true) w := e0
          have HXY := Lib.hid (decide_eq_false (HN.out hxy))
          clear hxy e0
          go_wp2
          go_quiet (fail)
          have HB2 := Lib.hid (HP.out.2.trans (below_drewN (Below.refl wz.heap.size wz) nq |>.mono HP.out.2.size))
          generalize wz.drewN nq = w2 at HB2 ⊢
          go_wp2
          go_ret
          exact ⟨ret_bool HXY.out.symm, HB2.out⟩
      · have HT := Lib.hid (show decide (xs = ys) = true by
          have h := HP.out.1
          rw [List.take_of_length_le (by rw [HLA.out]; omega), List.take_of_length_le (by rw [HLB.out]; omega)] at h
          exact decide_eq_true h)
        go_wp2
        go_ret
        exact ⟨ret_bool HT.out.symm, HP.out.2⟩
  · have hne : ((n : Int) != (m : Int)) = true := by simpa [bne_iff_ne] using fun h => hnm (by omega)
    have HT := Lib.hid (show decide (xs = ys) = false from decide_eq_false (fun h => hnm (by rw [← HLA.out, ← HLB.out, h])))
    clear hnm
    go_enter Tryd.func40, Tryd.ntmps40
    go_wp2
    go_ret
    exact ⟨ret_bool HT.out.symm, Below.refl _ _⟩
set_option maxHeartbeats 1000000 in
set_option maxRecDepth 100000 in
theorem equal_rows (A B : Option Addr) (n m c d : Nat) (xs ys : List RowV) (W : World) (hla : xs.length = n) (hlb : ys.length = m) (ha : RowsRd W A xs) (hb : RowsRd W B ys) (hn : n ≤ 9223372036854775807) (hm : m ≤ 9223372036854775807) :
    Calls Tryd.prog 41 #[.slice A n c, .slice B m d] W fun e w' => e = .returned (.bool (decide (xs = ys))) ∧ Below W.heap.size W w' := by
  have HLA := Lib.hid hla
  have HLB := Lib.hid hlb
  have HA := Lib.hid ha
  have HB := Lib.hid hb
  clear hla hlb ha hb
  by_cases hnm : n = m
  · subst hnm
    go_enter Tryd.func41, Tryd.ntmps41
    go_wp2
    go_loopw [13] (fun t13 wz => ∃ k : Nat, t13 = .int .i64 (k : Int) ∧ k ≤ n ∧ Hid (xs.take k = ys.take k ∧ Below W.heap.size W wz)) (fun t13 _ => n - (intOf t13).toNat)
    case atStart => exact ⟨0, rfl, Nat.zero_le _, Lib.hid ⟨rfl, Below.refl _ _⟩⟩
    case round =>
      obtain ⟨k, rfl, hk, HP⟩ := hrel
      rename World => wz
      by_cases hkn : k < n
      · have hkx : k < xs.length := by rw [HLA.out]; exact hkn
        have hky : k < ys.length := by rw [HLB.out]; exact hkn
        obtain ⟨ad, rfl, a0, a1, a2, a3, a4, a5, a6⟩ := HA.out.at HP.out.2 k hkx
        obtain ⟨bd, rfl, b0, b1, b2, b3, b4, b5, b6⟩ := HB.out.at HP.out.2 k hky
        have e0 := neqRow xs[k] ys[k]
        have HE := Lib.hid (fun (e : xs[k] = ys[k]) => take_succ_eq HP.out.1 hkx hky e)
        have HN := Lib.hid (fun (e : ¬ xs[k] = ys[k]) (h : xs = ys) => e (by subst h; rfl))
        generalize xs[k] = x at *
        generalize ys[k] = y at *
        by_cases hxy : x = y
        · rw [decide_eq_true hxy] at e0
          have e1 : ∀ w : World, (binOp .neq 67 (.agg #[.int .i64 x.cell.view, .string x.cell.key, .int .i64 x.cell.start, .int .i64 x.count, .int .i64 x.sum, .int .i64 x.min, .int .i64 x.max]) (.agg #[.int .i64 y.cell.view, .string y.cell.key, .int .i64 y.cell.start, .int .i64 y.count, .int .i64 y.sum, .int .i64 y.min, .int .i64 y.max])).run Tryd.prog w = .ok (.bool false) w := e0
          have HXY := Lib.hid hxy
          clear hxy e0
          go_wp2
          go_quiet (fail)
          have HB2 := Lib.hid (HP.out.2.trans (below_drewN (Below.refl wz.heap.size wz) nq |>.mono HP.out.2.size))
          generalize wz.drewN nq = w2 at HB2 ⊢
          go_wp2
          go_roundw
          case rel => exact ⟨k + 1, by go_num, by omega, Lib.hid ⟨HE.out HXY.out, HB2.out⟩⟩
          case measure => simp [intOf]; omega
        · rw [decide_eq_false hxy] at e0
          have e1 : ∀ w : World, (binOp .neq 67 (.agg #[.int .i64 x.cell.view, .string x.cell.key, .int .i64 x.cell.start, .int .i64 x.count, .int .i64 x.sum, .int .i64 x.min, .int .i64 x.max]) (.agg #[.int .i64 y.cell.view, .string y.cell.key, .int .i64 y.cell.start, .int .i64 y.count, .int .i64 y.sum, .int .i64 y.min, .int .i64 y.max])).run Tryd.prog w = .ok (.bool true) w := e0
          have HXY := Lib.hid (decide_eq_false (HN.out hxy))
          clear hxy e0
          go_wp2
          go_quiet (fail)
          have HB2 := Lib.hid (HP.out.2.trans (below_drewN (Below.refl wz.heap.size wz) nq |>.mono HP.out.2.size))
          generalize wz.drewN nq = w2 at HB2 ⊢
          go_wp2
          go_ret
          exact ⟨ret_bool HXY.out.symm, HB2.out⟩
      · have HT := Lib.hid (show decide (xs = ys) = true by
          have h := HP.out.1
          rw [List.take_of_length_le (by rw [HLA.out]; omega), List.take_of_length_le (by rw [HLB.out]; omega)] at h
          exact decide_eq_true h)
        go_wp2
        go_ret
        exact ⟨ret_bool HT.out.symm, HP.out.2⟩
  · have hne : ((n : Int) != (m : Int)) = true := by simpa [bne_iff_ne] using fun h => hnm (by omega)
    have HT := Lib.hid (show decide (xs = ys) = false from decide_eq_false (fun h => hnm (by rw [← HLA.out, ← HLB.out, h])))
    clear hnm
    go_enter Tryd.func41, Tryd.ntmps41
    go_wp2
    go_ret
    exact ⟨ret_bool HT.out.symm, Below.refl _ _⟩
set_option maxHeartbeats 1000000 in
set_option maxRecDepth 100000 in
theorem same_cells (A B : Option Addr) (n m c d : Nat) (xs ys : List CellV) (W : World) (hla : xs.length = n) (hlb : ys.length = m) (ha : CellsRd W A xs) (hb : CellsRd W B ys) (hn : n ≤ 9223372036854775807) (hm : m ≤ 9223372036854775807) :
    Calls Tryd.prog 42 #[.slice A n c, .slice B m d] W fun e w' => e = .returned (.bool (decide (xs = ys))) ∧ Below W.heap.size W w' := by
  have HLA := Lib.hid hla
  have HLB := Lib.hid hlb
  have HA := Lib.hid ha
  have HB := Lib.hid hb
  clear hla hlb ha hb
  by_cases hnm : n = m
  · subst hnm
    go_enter Tryd.func42, Tryd.ntmps42
    go_wp2
    go_loopw [5] (fun t5 wz => ∃ k : Nat, t5 = .int .i64 (k : Int) ∧ k ≤ n ∧ Hid (xs.take k = ys.take k ∧ Below W.heap.size W wz)) (fun t5 _ => n - (intOf t5).toNat)
    case atStart => exact ⟨0, rfl, Nat.zero_le _, Lib.hid ⟨rfl, Below.refl _ _⟩⟩
    case round =>
      obtain ⟨k, rfl, hk, HP⟩ := hrel
      rename World => wz
      by_cases hkn : k < n
      · have hkx : k < xs.length := by rw [HLA.out]; exact hkn
        have hky : k < ys.length := by rw [HLB.out]; exact hkn
        obtain ⟨ad, rfl, a0, a1, a2⟩ := HA.out.at HP.out.2 k hkx
        obtain ⟨bd, rfl, b0, b1, b2⟩ := HB.out.at HP.out.2 k hky
        have e0 := neqCell xs[k] ys[k]
        have HE := Lib.hid (fun (e : xs[k] = ys[k]) => take_succ_eq HP.out.1 hkx hky e)
        have HN := Lib.hid (fun (e : ¬ xs[k] = ys[k]) (h : xs = ys) => e (by subst h; rfl))
        generalize xs[k] = x at *
        generalize ys[k] = y at *
        by_cases hxy : x = y
        · rw [decide_eq_true hxy] at e0
          have e1 : ∀ w : World, (binOp .neq 24 (.agg #[.int .i64 x.view, .string x.key, .int .i64 x.start]) (.agg #[.int .i64 y.view, .string y.key, .int .i64 y.start])).run Tryd.prog w = .ok (.bool false) w := e0
          have HXY := Lib.hid hxy
          clear hxy e0
          go_wp2
          go_quiet (fail)
          have HB2 := Lib.hid (HP.out.2.trans (below_drewN (Below.refl wz.heap.size wz) nq |>.mono HP.out.2.size))
          generalize wz.drewN nq = w2 at HB2 ⊢
          go_wp2
          go_roundw
          case rel => exact ⟨k + 1, by go_num, by omega, Lib.hid ⟨HE.out HXY.out, HB2.out⟩⟩
          case measure => simp [intOf]; omega
        · rw [decide_eq_false hxy] at e0
          have e1 : ∀ w : World, (binOp .neq 24 (.agg #[.int .i64 x.view, .string x.key, .int .i64 x.start]) (.agg #[.int .i64 y.view, .string y.key, .int .i64 y.start])).run Tryd.prog w = .ok (.bool true) w := e0
          have HXY := Lib.hid (decide_eq_false (HN.out hxy))
          clear hxy e0
          go_wp2
          go_quiet (fail)
          have HB2 := Lib.hid (HP.out.2.trans (below_drewN (Below.refl wz.heap.size wz) nq |>.mono HP.out.2.size))
          generalize wz.drewN nq = w2 at HB2 ⊢
          go_wp2
          go_ret
          exact ⟨ret_bool HXY.out.symm, HB2.out⟩
      · have HT := Lib.hid (show decide (xs = ys) = true by
          have h := HP.out.1
          rw [List.take_of_length_le (by rw [HLA.out]; omega), List.take_of_length_le (by rw [HLB.out]; omega)] at h
          exact decide_eq_true h)
        go_wp2
        go_ret
        exact ⟨ret_bool HT.out.symm, HP.out.2⟩
  · have hne : ((n : Int) != (m : Int)) = true := by simpa [bne_iff_ne] using fun h => hnm (by omega)
    have HT := Lib.hid (show decide (xs = ys) = false from decide_eq_false (fun h => hnm (by rw [← HLA.out, ← HLB.out, h])))
    clear hnm
    go_enter Tryd.func42, Tryd.ntmps42
    go_wp2
    go_ret
    exact ⟨ret_bool HT.out.symm, Below.refl _ _⟩
set_option maxHeartbeats 1000000 in
set_option maxRecDepth 100000 in
theorem same_rows (A B : Option Addr) (n m c d : Nat) (xs ys : List RowV) (W : World) (hla : xs.length = n) (hlb : ys.length = m) (ha : RowsRd W A xs) (hb : RowsRd W B ys) (hn : n ≤ 9223372036854775807) (hm : m ≤ 9223372036854775807) :
    Calls Tryd.prog 43 #[.slice A n c, .slice B m d] W fun e w' => e = .returned (.bool (decide (xs = ys))) ∧ Below W.heap.size W w' := by
  have HLA := Lib.hid hla
  have HLB := Lib.hid hlb
  have HA := Lib.hid ha
  have HB := Lib.hid hb
  clear hla hlb ha hb
  by_cases hnm : n = m
  · subst hnm
    go_enter Tryd.func43, Tryd.ntmps43
    go_wp2
    go_loopw [5] (fun t5 wz => ∃ k : Nat, t5 = .int .i64 (k : Int) ∧ k ≤ n ∧ Hid (xs.take k = ys.take k ∧ Below W.heap.size W wz)) (fun t5 _ => n - (intOf t5).toNat)
    case atStart => exact ⟨0, rfl, Nat.zero_le _, Lib.hid ⟨rfl, Below.refl _ _⟩⟩
    case round =>
      obtain ⟨k, rfl, hk, HP⟩ := hrel
      rename World => wz
      by_cases hkn : k < n
      · have hkx : k < xs.length := by rw [HLA.out]; exact hkn
        have hky : k < ys.length := by rw [HLB.out]; exact hkn
        obtain ⟨ad, rfl, a0, a1, a2, a3, a4, a5, a6⟩ := HA.out.at HP.out.2 k hkx
        obtain ⟨bd, rfl, b0, b1, b2, b3, b4, b5, b6⟩ := HB.out.at HP.out.2 k hky
        have e0 := neqRow xs[k] ys[k]
        have HE := Lib.hid (fun (e : xs[k] = ys[k]) => take_succ_eq HP.out.1 hkx hky e)
        have HN := Lib.hid (fun (e : ¬ xs[k] = ys[k]) (h : xs = ys) => e (by subst h; rfl))
        generalize xs[k] = x at *
        generalize ys[k] = y at *
        by_cases hxy : x = y
        · rw [decide_eq_true hxy] at e0
          have e1 : ∀ w : World, (binOp .neq 67 (.agg #[.int .i64 x.cell.view, .string x.cell.key, .int .i64 x.cell.start, .int .i64 x.count, .int .i64 x.sum, .int .i64 x.min, .int .i64 x.max]) (.agg #[.int .i64 y.cell.view, .string y.cell.key, .int .i64 y.cell.start, .int .i64 y.count, .int .i64 y.sum, .int .i64 y.min, .int .i64 y.max])).run Tryd.prog w = .ok (.bool false) w := e0
          have HXY := Lib.hid hxy
          clear hxy e0
          go_wp2
          go_quiet (fail)
          have HB2 := Lib.hid (HP.out.2.trans (below_drewN (Below.refl wz.heap.size wz) nq |>.mono HP.out.2.size))
          generalize wz.drewN nq = w2 at HB2 ⊢
          go_wp2
          go_roundw
          case rel => exact ⟨k + 1, by go_num, by omega, Lib.hid ⟨HE.out HXY.out, HB2.out⟩⟩
          case measure => simp [intOf]; omega
        · rw [decide_eq_false hxy] at e0
          have e1 : ∀ w : World, (binOp .neq 67 (.agg #[.int .i64 x.cell.view, .string x.cell.key, .int .i64 x.cell.start, .int .i64 x.count, .int .i64 x.sum, .int .i64 x.min, .int .i64 x.max]) (.agg #[.int .i64 y.cell.view, .string y.cell.key, .int .i64 y.cell.start, .int .i64 y.count, .int .i64 y.sum, .int .i64 y.min, .int .i64 y.max])).run Tryd.prog w = .ok (.bool true) w := e0
          have HXY := Lib.hid (decide_eq_false (HN.out hxy))
          clear hxy e0
          go_wp2
          go_quiet (fail)
          have HB2 := Lib.hid (HP.out.2.trans (below_drewN (Below.refl wz.heap.size wz) nq |>.mono HP.out.2.size))
          generalize wz.drewN nq = w2 at HB2 ⊢
          go_wp2
          go_ret
          exact ⟨ret_bool HXY.out.symm, HB2.out⟩
      · have HT := Lib.hid (show decide (xs = ys) = true by
          have h := HP.out.1
          rw [List.take_of_length_le (by rw [HLA.out]; omega), List.take_of_length_le (by rw [HLB.out]; omega)] at h
          exact decide_eq_true h)
        go_wp2
        go_ret
        exact ⟨ret_bool HT.out.symm, HP.out.2⟩
  · have hne : ((n : Int) != (m : Int)) = true := by simpa [bne_iff_ne] using fun h => hnm (by omega)
    have HT := Lib.hid (show decide (xs = ys) = false from decide_eq_false (fun h => hnm (by rw [← HLA.out, ← HLB.out, h])))
    clear hnm
    go_enter Tryd.func43, Tryd.ntmps43
    go_wp2
    go_ret
    exact ⟨ret_bool HT.out.symm, Below.refl _ _⟩
end Go.Proofs.YteffpfgdoganpaaDoor
