/- The type switches over what a request asks, a response tells: assertions at known types. -/
import Derived.Test.YteffpfgdoganpaaGreatDoorCAsks
namespace Go.Proofs.YteffpfgdoganpaaGreatDoor
open Go.RowKit

abbrev zCells : Value := .agg #[.int .i64 0, .slice none 0 0]
abbrev zScan : Value := .agg #[.int .i64 0, .int .i64 0, .string ⟨#[]⟩, .int .i64 0, .int .i64 0, .string ⟨#[]⟩, .int .i64 0, .int .i64 0]
abbrev zEpoch : Value := .agg #[.int .i64 0]
abbrev zRows : Value := .agg #[.slice none 0 0]
abbrev zStats : Value := .agg #[.int .i64 0, .int .i64 0, .int .i64 0, .int .i64 0, .int .i64 0, .int .i64 0]
theorem ta_cells (v : Value) (w : World) : (Instr.typeAssert (.iface 141 v) 20 141 true).run Tryz.prog w = .ok (.tuple #[v, .bool true]) w := by kernel_rfl
theorem ta_scan_cells (v : Value) (w : World) : (Instr.typeAssert (.iface 144 v) 20 141 true).run Tryz.prog w = .ok (.tuple #[zCells, .bool false]) w := by kernel_rfl
theorem ta_scan (v : Value) (w : World) : (Instr.typeAssert (.iface 144 v) 20 144 true).run Tryz.prog w = .ok (.tuple #[v, .bool true]) w := by kernel_rfl
theorem ta_epoch_cells (v : Value) (w : World) : (Instr.typeAssert (.iface 86 v) 20 141 true).run Tryz.prog w = .ok (.tuple #[zCells, .bool false]) w := by kernel_rfl
theorem ta_epoch_scan (v : Value) (w : World) : (Instr.typeAssert (.iface 86 v) 20 144 true).run Tryz.prog w = .ok (.tuple #[zScan, .bool false]) w := by kernel_rfl
theorem ta_epoch (v : Value) (w : World) : (Instr.typeAssert (.iface 86 v) 20 86 true).run Tryz.prog w = .ok (.tuple #[v, .bool true]) w := by kernel_rfl
theorem ta_bare_cells (v : Value) (w : World) : (Instr.typeAssert (.iface 146 v) 20 141 true).run Tryz.prog w = .ok (.tuple #[zCells, .bool false]) w := by kernel_rfl
theorem ta_bare_scan (v : Value) (w : World) : (Instr.typeAssert (.iface 146 v) 20 144 true).run Tryz.prog w = .ok (.tuple #[zScan, .bool false]) w := by kernel_rfl
theorem ta_bare_epoch (v : Value) (w : World) : (Instr.typeAssert (.iface 146 v) 20 86 true).run Tryz.prog w = .ok (.tuple #[zEpoch, .bool false]) w := by kernel_rfl
theorem ta_rows (v : Value) (w : World) : (Instr.typeAssert (.iface 77 v) 20 77 true).run Tryz.prog w = .ok (.tuple #[v, .bool true]) w := by kernel_rfl
theorem ta_epoch_rows (v : Value) (w : World) : (Instr.typeAssert (.iface 86 v) 20 77 true).run Tryz.prog w = .ok (.tuple #[zRows, .bool false]) w := by kernel_rfl
theorem ta_stats_rows (v : Value) (w : World) : (Instr.typeAssert (.iface 88 v) 20 77 true).run Tryz.prog w = .ok (.tuple #[zRows, .bool false]) w := by kernel_rfl
theorem ta_stats_epoch (v : Value) (w : World) : (Instr.typeAssert (.iface 88 v) 20 86 true).run Tryz.prog w = .ok (.tuple #[zEpoch, .bool false]) w := by kernel_rfl
theorem ta_stats (v : Value) (w : World) : (Instr.typeAssert (.iface 88 v) 20 88 true).run Tryz.prog w = .ok (.tuple #[v, .bool true]) w := by kernel_rfl
theorem ta_failed_rows (v : Value) (w : World) : (Instr.typeAssert (.iface 92 v) 20 77 true).run Tryz.prog w = .ok (.tuple #[zRows, .bool false]) w := by kernel_rfl
theorem ta_failed_epoch (v : Value) (w : World) : (Instr.typeAssert (.iface 92 v) 20 86 true).run Tryz.prog w = .ok (.tuple #[zEpoch, .bool false]) w := by kernel_rfl
theorem ta_failed_stats (v : Value) (w : World) : (Instr.typeAssert (.iface 92 v) 20 88 true).run Tryz.prog w = .ok (.tuple #[zStats, .bool false]) w := by kernel_rfl
theorem ta_failed (v : Value) (w : World) : (Instr.typeAssert (.iface 92 v) 20 92 true).run Tryz.prog w = .ok (.tuple #[v, .bool true]) w := by kernel_rfl
theorem ta_bare_rows (v : Value) (w : World) : (Instr.typeAssert (.iface 146 v) 20 77 true).run Tryz.prog w = .ok (.tuple #[zRows, .bool false]) w := by kernel_rfl
theorem ta_bare_stats (v : Value) (w : World) : (Instr.typeAssert (.iface 146 v) 20 88 true).run Tryz.prog w = .ok (.tuple #[zStats, .bool false]) w := by kernel_rfl
theorem ta_bare_failed (v : Value) (w : World) : (Instr.typeAssert (.iface 146 v) 20 92 true).run Tryz.prog w = .ok (.tuple #[zEpoch, .bool false]) w := by kernel_rfl
end Go.Proofs.YteffpfgdoganpaaGreatDoor
