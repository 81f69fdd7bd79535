/- The type switches over what a request asks, a response tells: assertions at known types. -/
import Derived.Test.YtglbdbghcdoicaaGreatDoorCAsks
namespace Go.Proofs.YtglbdbghcdoicaaGreatDoor
open Go.RowKit

abbrev zCells : Value := .agg #[.int .i64 0, .slice none 0 0]
abbrev zScan : Value := .agg #[.int .i64 0, .int .i64 0, .string ⟨#[]⟩, .int .i64 0, .int .i64 0, .string ⟨#[]⟩, .int .i64 0, .int .i64 0]
abbrev zEpoch : Value := .agg #[.int .i64 0]
abbrev zRows : Value := .agg #[.slice none 0 0]
abbrev zStats : Value := .agg #[.int .i64 0, .int .i64 0, .int .i64 0, .int .i64 0, .int .i64 0, .int .i64 0]
theorem ta_cells (v : Value) (w : World) : (Instr.typeAssert (.iface 225 v) 20 225 true).run Tryz.prog w = .ok (.tuple #[v, .bool true]) w := by kernel_rfl
theorem ta_scan_cells (v : Value) (w : World) : (Instr.typeAssert (.iface 228 v) 20 225 true).run Tryz.prog w = .ok (.tuple #[zCells, .bool false]) w := by kernel_rfl
theorem ta_scan (v : Value) (w : World) : (Instr.typeAssert (.iface 228 v) 20 228 true).run Tryz.prog w = .ok (.tuple #[v, .bool true]) w := by kernel_rfl
theorem ta_epoch_cells (v : Value) (w : World) : (Instr.typeAssert (.iface 177 v) 20 225 true).run Tryz.prog w = .ok (.tuple #[zCells, .bool false]) w := by kernel_rfl
theorem ta_epoch_scan (v : Value) (w : World) : (Instr.typeAssert (.iface 177 v) 20 228 true).run Tryz.prog w = .ok (.tuple #[zScan, .bool false]) w := by kernel_rfl
theorem ta_epoch (v : Value) (w : World) : (Instr.typeAssert (.iface 177 v) 20 177 true).run Tryz.prog w = .ok (.tuple #[v, .bool true]) w := by kernel_rfl
theorem ta_bare_cells (v : Value) (w : World) : (Instr.typeAssert (.iface 241 v) 20 225 true).run Tryz.prog w = .ok (.tuple #[zCells, .bool false]) w := by kernel_rfl
theorem ta_bare_scan (v : Value) (w : World) : (Instr.typeAssert (.iface 241 v) 20 228 true).run Tryz.prog w = .ok (.tuple #[zScan, .bool false]) w := by kernel_rfl
theorem ta_bare_epoch (v : Value) (w : World) : (Instr.typeAssert (.iface 241 v) 20 177 true).run Tryz.prog w = .ok (.tuple #[zEpoch, .bool false]) w := by kernel_rfl
theorem ta_rows (v : Value) (w : World) : (Instr.typeAssert (.iface 172 v) 20 172 true).run Tryz.prog w = .ok (.tuple #[v, .bool true]) w := by kernel_rfl
theorem ta_epoch_rows (v : Value) (w : World) : (Instr.typeAssert (.iface 177 v) 20 172 true).run Tryz.prog w = .ok (.tuple #[zRows, .bool false]) w := by kernel_rfl
theorem ta_stats_rows (v : Value) (w : World) : (Instr.typeAssert (.iface 179 v) 20 172 true).run Tryz.prog w = .ok (.tuple #[zRows, .bool false]) w := by kernel_rfl
theorem ta_stats_epoch (v : Value) (w : World) : (Instr.typeAssert (.iface 179 v) 20 177 true).run Tryz.prog w = .ok (.tuple #[zEpoch, .bool false]) w := by kernel_rfl
theorem ta_stats (v : Value) (w : World) : (Instr.typeAssert (.iface 179 v) 20 179 true).run Tryz.prog w = .ok (.tuple #[v, .bool true]) w := by kernel_rfl
theorem ta_failed_rows (v : Value) (w : World) : (Instr.typeAssert (.iface 181 v) 20 172 true).run Tryz.prog w = .ok (.tuple #[zRows, .bool false]) w := by kernel_rfl
theorem ta_failed_epoch (v : Value) (w : World) : (Instr.typeAssert (.iface 181 v) 20 177 true).run Tryz.prog w = .ok (.tuple #[zEpoch, .bool false]) w := by kernel_rfl
theorem ta_failed_stats (v : Value) (w : World) : (Instr.typeAssert (.iface 181 v) 20 179 true).run Tryz.prog w = .ok (.tuple #[zStats, .bool false]) w := by kernel_rfl
theorem ta_failed (v : Value) (w : World) : (Instr.typeAssert (.iface 181 v) 20 181 true).run Tryz.prog w = .ok (.tuple #[v, .bool true]) w := by kernel_rfl
theorem ta_bare_rows (v : Value) (w : World) : (Instr.typeAssert (.iface 241 v) 20 172 true).run Tryz.prog w = .ok (.tuple #[zRows, .bool false]) w := by kernel_rfl
theorem ta_bare_stats (v : Value) (w : World) : (Instr.typeAssert (.iface 241 v) 20 179 true).run Tryz.prog w = .ok (.tuple #[zStats, .bool false]) w := by kernel_rfl
theorem ta_bare_failed (v : Value) (w : World) : (Instr.typeAssert (.iface 241 v) 20 181 true).run Tryz.prog w = .ok (.tuple #[zEpoch, .bool false]) w := by kernel_rfl
end Go.Proofs.YtglbdbghcdoicaaGreatDoor
