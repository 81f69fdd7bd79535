/- errors.Is of a *wire.Error against an Errno. -/
import Derived.Test.YtglbdbghcdoicaaDoorWReader
import Derived.LaidEql
import Derived.Stop.Asserts
import Derived.RowKitTokens
namespace Go.Proofs.YtglbdbghcdoicaaDoor
open Go.RowKit Go.Extern.Stop Go.Stop Go.Extern

section
variable {P : Program} (w : World)
theorem equalIn_iface_int (d : Nat) {ti tn : TypeId} {ms : Array (String × TypeId)} {i : TypeInfo} {k : IntKind} (a b : Int)
    (hi : P.underlying ti = some (.interface ms)) (hn : P.underlying tn = some (.int k)) (hinfo : P.info? tn = some i) (hcomp : i.comparable = true) :
    (Op.equalIn (d + 2) ti (.iface tn (.int k a)) (.iface tn (.int k b))).run P w = .ok (a == b) w := by
  simp [Op.equalIn, run_underlying hi, run_underlying hn, typeInfo, hinfo, hcomp]
/-- Two errors of one integer type are the same as their numbers are. -/
theorem eql_iface_int {ti tn : TypeId} {ms : Array (String × TypeId)} {i : TypeInfo} {k : IntKind} (a b : Int)
    (hi : P.underlying ti = some (.interface ms)) (hn : P.underlying tn = some (.int k)) (hinfo : P.info? tn = some i) (hcomp : i.comparable = true) :
    (binOp .eql ti (.iface tn (.int k a)) (.iface tn (.int k b))).run P w = .ok (.bool (a == b)) w := by
  simp only [binOp]
  simp [Op.equal, Op.maxDepth, equalIn_iface_int w 9998 a b hi hn hinfo hcomp]
end

theorem isTypeOfErrno (v : Value) (w : World) : (Extern.ReflectliteType.typeOf #[.iface 22 v]).run Tryd.prog w = .ok (.iface 180 (.agg #[.pointer (some ⟨1, 22, none⟩)])) w := by kernel_rfl
theorem errnoComp : (Tryd.prog.info? 22).map (·.comparable) = some true := by kernel_rfl
theorem noIsO (v : Value) (xT : TypeId) (w : World) : (Instr.typeAssert (.iface 40 v) xT 191 true).run Tryd.prog w = .ok (.tuple #[.nilIface, .bool false]) w := run_typeAssert_lacksB Tryd.underlying191 (by kernel_rfl) (by kernel_rfl) v xT w
theorem hasUnwrapO (v : Value) (xT : TypeId) (w : World) : (Instr.typeAssert (.iface 40 v) xT 187 true).run Tryd.prog w = .ok (.tuple #[.iface 40 v, .bool true]) w := run_typeAssert_hasB Tryd.underlying187 (by kernel_rfl) v xT w
theorem noIsE (v : Value) (xT : TypeId) (w : World) : (Instr.typeAssert (.iface 22 v) xT 191 true).run Tryd.prog w = .ok (.tuple #[.nilIface, .bool false]) w := run_typeAssert_lacksB Tryd.underlying191 (by kernel_rfl) (by kernel_rfl) v xT w
theorem noUnE (v : Value) (xT : TypeId) (w : World) : (Instr.typeAssert (.iface 22 v) xT 187 true).run Tryd.prog w = .ok (.tuple #[.nilIface, .bool false]) w := run_typeAssert_lacksB Tryd.underlying187 (by kernel_rfl) (by kernel_rfl) v xT w
theorem noUsE (v : Value) (xT : TypeId) (w : World) : (Instr.typeAssert (.iface 22 v) xT 188 true).run Tryd.prog w = .ok (.tuple #[.nilIface, .bool false]) w := run_typeAssert_lacksB Tryd.underlying188 (by kernel_rfl) (by kernel_rfl) v xT w
set_option maxRecDepth 100000 in
theorem is_loop_err (g : Nat) (code pl target : Int) (W : World) (h : Blk W g 42 #[.int .i64 code, .int .i64 pl]) :
    Calls Tryd.prog 89 #[errV g, .iface 22 (.int .i64 target), .bool true] W fun e w' => e = .returned (.bool (code == target)) ∧ W = w' := by
  obtain ⟨i, hi, hcmp⟩ := Option.map_eq_some_iff.1 errnoComp
  have k0 : W.cell? ⟨g, 0, none⟩ = some (.int .i64 code) := h.cell 0
  have nE := noIsO
  have uE := hasUnwrapO
  have n1 := noIsE
  have n2 := noUnE
  have n3 := noUsE
  have mU : ∀ (v : Value) (w : World), (Go.method 324 40 v "Unwrap").run Tryd.prog w = .ok (120, v) w := fun v w => by kernel_rfl
  have hty := run_eql_iface_types (P := Tryd.prog) 40 22 (.pointer (some ⟨g, 0, none⟩)) (.int .i64 target) Tryd.underlying51 (by decide) W
  have he := eql_iface_int (P := Tryd.prog) W code target Tryd.underlying51 Tryd.underlying22 hi hcmp
  clear h
  rcases hc : (code == target)
  · rw [hc] at he
    clear hc
    go_enter Tryd.func89, Tryd.ntmps89
    go_wp2
    refine wp_loop_rounds 2 ?_
    rw [rounds_succ]
    go_wp2
    rw [rounds_succ]
    go_wp2
    go_ret
    exact ⟨rfl, rfl⟩
  · rw [hc] at he
    clear hc
    go_enter Tryd.func89, Tryd.ntmps89
    go_wp2
    refine wp_loop_rounds 2 ?_
    rw [rounds_succ]
    go_wp2
    rw [rounds_succ]
    go_wp2
    go_ret
    exact ⟨rfl, rfl⟩
/-- The model's entry for (rtype).Comparable, and what it answers at an Errno. -/
theorem comparableEntry : ∃ E : Array Value → Sem Value, Extern.find Tryd.f126 = some E ∧ ∀ w : World, (E #[.agg #[.pointer (some ⟨1, 22, none⟩)]]).run Tryd.prog w = .ok (.bool true) w :=
  ⟨Extern.ReflectliteType.method fun t => do Extern.Rtype.noPackHeld "Comparable" t; pure (.bool (← typeInfo t).comparable), by kernel_rfl, fun w => by kernel_rfl⟩
theorem methodComparable (v : Value) (w : World) : (Go.method 324 180 v "Comparable").run Tryd.prog w = .ok (126, v) w := by kernel_rfl

set_option maxRecDepth 100000 in
/-- errors.Is of an Error against a number. -/
theorem is_err (g : Nat) (code pl target : Int) (W : World) (h : Blk W g 42 #[.int .i64 code, .int .i64 pl]) :
    Calls Tryd.prog 53 #[errV g, .iface 22 (.int .i64 target)] W fun e w' => e = .returned (.bool (code == target)) ∧ W = w' := by
  have h1 := @run_callFunc_extern Tryd.prog 88 _ Extern.ReflectliteType.typeOf Tryd.func88 (by kernel_rfl) (by kernel_rfl) (by kernel_rfl) (by kernel_rfl)
  obtain ⟨E, hE, rC⟩ := comparableEntry
  have h2 := @run_callFunc_extern Tryd.prog 126 _ E Tryd.func126 (by kernel_rfl) (by kernel_rfl) (by kernel_rfl) hE
  have tO := isTypeOfErrno
  have mC := methodComparable
  have C := Lib.hid (is_loop_err g code pl target W h)
  clear h
  go_enter Tryd.func53, Tryd.ntmps53
  go_wp2_with (go_at_call 89; (with_reducible refine C.out.mono ?_); rintro e w' ⟨rfl, rfl⟩)
  go_ret
  exact ⟨rfl, rfl⟩
end Go.Proofs.YtglbdbghcdoicaaDoor
