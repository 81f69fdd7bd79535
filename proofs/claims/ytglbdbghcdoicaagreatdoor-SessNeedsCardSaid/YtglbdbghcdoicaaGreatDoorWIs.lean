/- errors.Is of a *wire.Error against an Errno. -/
import Derived.Test.YtglbdbghcdoicaaGreatDoorWReader
import Derived.LaidEql
import Derived.Stop.Asserts
import Derived.RowKitTokens
namespace Go.Proofs.YtglbdbghcdoicaaGreatDoor
open Go.RowKit Go.Extern.Stop Go.Stop Go.Extern

section
variable {P : Program} (w : World)
theorem equalIn_iface_int (d : Nat) {ti tn : TypeId} {ms : Array (String × TypeId)} {i : TypeInfo} {k : IntKind} (a b : Int)
    (hi : P.underlying ti = some (.interface ms)) (hn : P.underlying tn = some (.int k)) (hinfo : P.info? tn = some i) (hcomp : i.comparable = true) :
    (Op.equalIn (d + 2) ti (.iface tn (.int k a)) (.iface tn (.int k b))).run P w = .ok (a == b) w := by
  simp [Op.equalIn, run_underlying hi, run_underlying hn, typeInfo, hinfo, hcomp]
/-- Two errors of one integer type are the same as their numbers are. -/
theorem eql_iface_int {ti tn : TypeId} {ms : Array (String × TypeId)} {i : TypeInfo} {k : IntKind} (a b : Int)
    (hi : P.underlying ti = some (.interface ms)) (hn : P.underlying tn = some (.int k)) (hinfo : P.info? tn = some i) (hcomp : i.comparable = true) :
    (binOp .eql ti (.iface tn (.int k a)) (.iface tn (.int k b))).run P w = .ok (.bool (a == b)) w := by
  simp only [binOp]
  simp [Op.equal, Op.maxDepth, equalIn_iface_int w 9998 a b hi hn hinfo hcomp]
end

theorem isTypeOfErrno (v : Value) (w : World) : (Extern.ReflectliteType.typeOf #[.iface 26 v]).run Tryz.prog w = .ok (.iface 207 (.agg #[.pointer (some ⟨1, 26, none⟩)])) w := by kernel_rfl
theorem errnoComp : (Tryz.prog.info? 26).map (·.comparable) = some true := by kernel_rfl
theorem noIsO (v : Value) (xT : TypeId) (w : World) : (Instr.typeAssert (.iface 107 v) xT 229 true).run Tryz.prog w = .ok (.tuple #[.nilIface, .bool false]) w := run_typeAssert_lacksB Tryz.underlying229 (by kernel_rfl) (by kernel_rfl) v xT w
theorem hasUnwrapO (v : Value) (xT : TypeId) (w : World) : (Instr.typeAssert (.iface 107 v) xT 214 true).run Tryz.prog w = .ok (.tuple #[.iface 107 v, .bool true]) w := run_typeAssert_hasB Tryz.underlying214 (by kernel_rfl) v xT w
theorem noIsE (v : Value) (xT : TypeId) (w : World) : (Instr.typeAssert (.iface 26 v) xT 229 true).run Tryz.prog w = .ok (.tuple #[.nilIface, .bool false]) w := run_typeAssert_lacksB Tryz.underlying229 (by kernel_rfl) (by kernel_rfl) v xT w
theorem noUnE (v : Value) (xT : TypeId) (w : World) : (Instr.typeAssert (.iface 26 v) xT 214 true).run Tryz.prog w = .ok (.tuple #[.nilIface, .bool false]) w := run_typeAssert_lacksB Tryz.underlying214 (by kernel_rfl) (by kernel_rfl) v xT w
theorem noUsE (v : Value) (xT : TypeId) (w : World) : (Instr.typeAssert (.iface 26 v) xT 215 true).run Tryz.prog w = .ok (.tuple #[.nilIface, .bool false]) w := run_typeAssert_lacksB Tryz.underlying215 (by kernel_rfl) (by kernel_rfl) v xT w
set_option maxRecDepth 100000 in
theorem is_loop_err (g : Nat) (code pl target : Int) (W : World) (h : Blk W g 111 #[.int .i64 code, .int .i64 pl]) :
    Calls Tryz.prog 78 #[errV g, .iface 26 (.int .i64 target), .bool true] W fun e w' => e = .returned (.bool (code == target)) ∧ W = w' := by
  obtain ⟨i, hi, hcmp⟩ := Option.map_eq_some_iff.1 errnoComp
  have k0 : W.cell? ⟨g, 0, none⟩ = some (.int .i64 code) := h.cell 0
  have nE := noIsO
  have uE := hasUnwrapO
  have n1 := noIsE
  have n2 := noUnE
  have n3 := noUsE
  have mU : ∀ (v : Value) (w : World), (Go.method 386 107 v "Unwrap").run Tryz.prog w = .ok (171, v) w := fun v w => by kernel_rfl
  have hty := run_eql_iface_types (P := Tryz.prog) 107 26 (.pointer (some ⟨g, 0, none⟩)) (.int .i64 target) Tryz.underlying56 (by decide) W
  have he := eql_iface_int (P := Tryz.prog) W code target Tryz.underlying56 Tryz.underlying26 hi hcmp
  clear h
  rcases hc : (code == target)
  · rw [hc] at he
    clear hc
    go_enter Tryz.func78, Tryz.ntmps78
    go_wp2
    refine wp_loop_rounds 2 ?_
    rw [rounds_succ]
    go_wp2
    rw [rounds_succ]
    go_wp2
    go_ret
    exact ⟨rfl, rfl⟩
  · rw [hc] at he
    clear hc
    go_enter Tryz.func78, Tryz.ntmps78
    go_wp2
    refine wp_loop_rounds 2 ?_
    rw [rounds_succ]
    go_wp2
    rw [rounds_succ]
    go_wp2
    go_ret
    exact ⟨rfl, rfl⟩
/-- The model's entry for (rtype).Comparable, and what it answers at an Errno. -/
theorem comparableEntry : ∃ E : Array Value → Sem Value, Extern.find Tryz.f177 = some E ∧ ∀ w : World, (E #[.agg #[.pointer (some ⟨1, 26, none⟩)]]).run Tryz.prog w = .ok (.bool true) w :=
  ⟨Extern.ReflectliteType.method fun t => do Extern.Rtype.noPackHeld "Comparable" t; pure (.bool (← typeInfo t).comparable), by kernel_rfl, fun w => by kernel_rfl⟩
theorem methodComparable (v : Value) (w : World) : (Go.method 386 207 v "Comparable").run Tryz.prog w = .ok (177, v) w := by kernel_rfl

set_option maxRecDepth 100000 in
/-- errors.Is of an Error against a number. -/
theorem is_err (g : Nat) (code pl target : Int) (W : World) (h : Blk W g 111 #[.int .i64 code, .int .i64 pl]) :
    Calls Tryz.prog 54 #[errV g, .iface 26 (.int .i64 target)] W fun e w' => e = .returned (.bool (code == target)) ∧ W = w' := by
  have h1 := @run_callFunc_extern Tryz.prog 77 _ Extern.ReflectliteType.typeOf Tryz.func77 (by kernel_rfl) (by kernel_rfl) (by kernel_rfl) (by kernel_rfl)
  obtain ⟨E, hE, rC⟩ := comparableEntry
  have h2 := @run_callFunc_extern Tryz.prog 177 _ E Tryz.func177 (by kernel_rfl) (by kernel_rfl) (by kernel_rfl) hE
  have tO := isTypeOfErrno
  have mC := methodComparable
  have C := Lib.hid (is_loop_err g code pl target W h)
  clear h
  go_enter Tryz.func54, Tryz.ntmps54
  go_wp2_with (go_at_call 78; (with_reducible refine C.out.mono ?_); rintro e w' ⟨rfl, rfl⟩)
  go_ret
  exact ⟨rfl, rfl⟩
end Go.Proofs.YtglbdbghcdoicaaGreatDoor
