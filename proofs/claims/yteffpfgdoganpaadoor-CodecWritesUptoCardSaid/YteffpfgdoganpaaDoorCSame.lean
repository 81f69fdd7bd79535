/- SameRequest, SameResponse, the lists' own sameness: the walks. -/
import Derived.Test.YteffpfgdoganpaaDoorCPlace
namespace Go.Proofs.YteffpfgdoganpaaDoor
open Go.RowKit

theorem key_iff (a b : ByteArray) : a.toList = b.toList ↔ a = b := by
  rw [ByteArray.toList_eq, ByteArray.toList_eq]
  obtain ⟨⟨x⟩⟩ := a
  obtain ⟨⟨y⟩⟩ := b
  constructor
  · intro h; have h : x = y := h; rw [h]
  · intro h; rw [h]
theorem eqlCell (a b : CellV) (w : World) : (binOp .eql 24 (cellV a) (cellV b)).run Tryd.prog w = .ok (.bool (decide (a = b))) w := by
  go_simp
  simp only [key_iff, CellV.ext_iff_]
  repeat' split
  all_goals simp_all
theorem neqCell (a b : CellV) (w : World) : (binOp .neq 24 (cellV a) (cellV b)).run Tryd.prog w = .ok (.bool (!decide (a = b))) w := by
  go_simp
  simp only [key_iff, CellV.ext_iff_]
  repeat' split
  all_goals simp_all
theorem eqlRow (a b : RowV) (w : World) : (binOp .eql 67 (rowV a) (rowV b)).run Tryd.prog w = .ok (.bool (decide (a = b))) w := by
  go_simp
  simp only [key_iff, RowV.ext_iff_, CellV.ext_iff_]
  repeat' split
  all_goals simp_all
theorem neqRow (a b : RowV) (w : World) : (binOp .neq 67 (rowV a) (rowV b)).run Tryd.prog w = .ok (.bool (!decide (a = b))) w := by
  go_simp
  simp only [key_iff, RowV.ext_iff_, CellV.ext_iff_]
  repeat' split
  all_goals simp_all
abbrev stV (s : StV) : Value := .agg #[.int .i64 s.taken, .int .i64 s.late, .int .i64 s.over, .int .i64 s.full, .int .i64 s.cells, .int .i64 s.now]
theorem eqlSt (a b : StV) (w : World) : (binOp .eql 30 (stV a) (stV b)).run Tryd.prog w = .ok (.bool (decide (a = b))) w := by
  go_simp
  simp only [StV.ext_iff_]
  repeat' split
  all_goals simp_all
theorem neqSt (a b : StV) (w : World) : (binOp .neq 30 (stV a) (stV b)).run Tryd.prog w = .ok (.bool (!decide (a = b))) w := by
  go_simp
  simp only [StV.ext_iff_]
  repeat' split
  all_goals simp_all
end Go.Proofs.YteffpfgdoganpaaDoor
