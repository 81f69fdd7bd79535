/- errors.Is of an *Overflow against an Errno: the walk through errors.Is and errors.is. -/
import Derived.Test.YtikacbfpeegcdaaProg
import Derived.Test.YtikacbfpeegcdaaAggA
import Derived.LaidEql
import Derived.Stop.Asserts
import Derived.RowKitTokens
namespace Go.Proofs.Ytikacbfpeegcdaa
open Go.RowKit Go.Extern.Stop Go.Stop Go.Extern

section
variable {P : Program} (w : World)
theorem equalIn_iface_int (d : Nat) {ti tn : TypeId} {ms : Array (String × TypeId)} {i : TypeInfo} {k : IntKind} (a b : Int)
    (hi : P.underlying ti = some (.interface ms)) (hn : P.underlying tn = some (.int k)) (hinfo : P.info? tn = some i) (hcomp : i.comparable = true) :
    (Op.equalIn (d + 2) ti (.iface tn (.int k a)) (.iface tn (.int k b))).run P w = .ok (a == b) w := by
  simp [Op.equalIn, run_underlying hi, run_underlying hn, typeInfo, hinfo, hcomp]
/-- Two errors of one integer type are the same as their numbers are. -/
theorem eql_iface_int {ti tn : TypeId} {ms : Array (String × TypeId)} {i : TypeInfo} {k : IntKind} (a b : Int)
    (hi : P.underlying ti = some (.interface ms)) (hn : P.underlying tn = some (.int k)) (hinfo : P.info? tn = some i) (hcomp : i.comparable = true) :
    (binOp .eql ti (.iface tn (.int k a)) (.iface tn (.int k b))).run P w = .ok (.bool (a == b)) w := by
  simp only [binOp]
  simp [Op.equal, Op.maxDepth, equalIn_iface_int w 9998 a b hi hn hinfo hcomp]
end

theorem isTypeOfErrno (v : Value) (w : World) : (Extern.ReflectliteType.typeOf #[.iface 22 v]).run Try.prog w = .ok (.iface 87 (.agg #[.pointer (some ⟨0, 22, none⟩)])) w := by kernel_rfl
theorem errnoComp : (Try.prog.info? 22).map (·.comparable) = some true := by kernel_rfl
theorem noIsO (v : Value) (xT : TypeId) (w : World) : (Instr.typeAssert (.iface 66 v) xT 89 true).run Try.prog w = .ok (.tuple #[.nilIface, .bool false]) w := run_typeAssert_lacksB Try.underlying89 (by kernel_rfl) (by kernel_rfl) v xT w
theorem hasUnwrapO (v : Value) (xT : TypeId) (w : World) : (Instr.typeAssert (.iface 66 v) xT 92 true).run Try.prog w = .ok (.tuple #[.iface 66 v, .bool true]) w := run_typeAssert_hasB Try.underlying92 (by kernel_rfl) v xT w
set_option maxRecDepth 100000 in
theorem is_loop_ovf (g : Nat) (W : World) :
    Calls Try.prog 48 #[ovf g, .iface 22 (.int .i64 25), .bool true] W fun e w' => e = .returned (.bool true) ∧ W = w' := by
  obtain ⟨i, hi, hcmp⟩ := Option.map_eq_some_iff.1 errnoComp
  have nE := noIsO
  have uE := hasUnwrapO
  have mU : ∀ (v : Value) (w : World), (Go.method 226 66 v "Unwrap").run Try.prog w = .ok (72, v) w := fun v w => by kernel_rfl
  have hty := run_eql_iface_types (P := Try.prog) 66 22 (.pointer (some ⟨g, 0, none⟩)) (.int .i64 25) Try.underlying30 (by decide) W
  have he := eql_iface_int (P := Try.prog) W 25 25 Try.underlying30 Try.underlying22 hi hcmp
  go_enter Try.func48, Try.ntmps48
  go_wp2
  refine wp_loop_rounds 2 ?_
  rw [rounds_succ]
  go_wp2
  rw [rounds_succ]
  go_wp2
  go_ret
  exact ⟨rfl, rfl⟩
/-- The model's entry for (rtype).Comparable, and what it answers at an Errno. -/
theorem comparableEntry : ∃ E : Array Value → Sem Value, Extern.find Try.f76 = some E ∧ ∀ w : World, (E #[.agg #[.pointer (some ⟨0, 22, none⟩)]]).run Try.prog w = .ok (.bool true) w :=
  ⟨Extern.ReflectliteType.method fun t => do Extern.Rtype.noPackHeld "Comparable" t; pure (.bool (← typeInfo t).comparable), by kernel_rfl, fun w => by kernel_rfl⟩
theorem methodComparable (v : Value) (w : World) : (Go.method 226 87 v "Comparable").run Try.prog w = .ok (76, v) w := by kernel_rfl

set_option maxRecDepth 100000 in
/-- errors.Is finds api.ErrOverflow in an *Overflow. -/
theorem is_ovf (g : Nat) (W : World) :
    Calls Try.prog 26 #[ovf g, .iface 22 (.int .i64 25)] W fun e w' => e = .returned (.bool true) ∧ W = w' := by
  have h1 := @run_callFunc_extern Try.prog 47 _ Extern.ReflectliteType.typeOf Try.func47 (by kernel_rfl) (by kernel_rfl) (by kernel_rfl) (by kernel_rfl)
  obtain ⟨E, hE, rC⟩ := comparableEntry
  have h2 := @run_callFunc_extern Try.prog 76 _ E Try.func76 (by kernel_rfl) (by kernel_rfl) (by kernel_rfl) hE
  have tO := isTypeOfErrno
  have mC := methodComparable
  go_enter Try.func26, Try.ntmps26
  go_wp2_with (go_at_call 48; (with_reducible refine (is_loop_ovf _ _).mono ?_); rintro e w' ⟨rfl, rfl⟩)
  go_ret
  exact ⟨rfl, rfl⟩
end Go.Proofs.Ytikacbfpeegcdaa
