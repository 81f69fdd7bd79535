/- errors.As at the target *api.Errno: a number for itself, a *wire.Error by what it wraps. -/
import Derived.Test.YtglbdbghcdoicaaGreatDoorAsW
import Derived.Test.YtglbdbghcdoicaaGreatDoorWIs
namespace Go.Proofs.YtglbdbghcdoicaaGreatDoor
open Go.RowKit Go.Extern.Stop Go.Stop Go.Extern

theorem ae_valueOf27 (t : Addr) (w : World) : (ReflectliteValue.unpack (.iface 112 (.pointer (some t)))).run Tryz.prog w
    = .ok (.agg #[.pointer (some ⟨1, 112, none⟩), .pointer (some ⟨w.heap.size, 0, none⟩), .int .u64 150]) (w.alloc (.cells #[.pointer (some t)] 112)) := by kernel_rfl
theorem ae_type27 (a : Addr) (w : World) : (ReflectliteValue.methodAny (ReflectliteValue.valueError "reflectlite.Value.Type" 0) (fun t _ _ _ => ReflectliteType.toType t) #[.agg #[.pointer (some ⟨1, 112, none⟩), .pointer (some a), .int .u64 150]]).run Tryz.prog w
    = .ok (.iface 207 (.agg #[.pointer (some ⟨1, 112, none⟩)])) w := by kernel_rfl
theorem ae_kind27 (w : World) : ((ReflectliteType.abiMethod fun t => (fun a : Nat => Value.int IntKind.u8 (a : Int)) <$> Rtype.kind t) #[.pointer (some ⟨1, 112, none⟩)]).run Tryz.prog w = .ok (.int .u8 22) w := by kernel_rfl
theorem ae_kind25 (w : World) : ((ReflectliteType.abiMethod fun t => (fun a : Nat => Value.int IntKind.u8 (a : Int)) <$> Rtype.kind t) #[.pointer (some ⟨1, 26, none⟩)]).run Tryz.prog w = .ok (.int .u8 2) w := by kernel_rfl

theorem ae_parts27 (a : Addr) (w : World) : (ReflectliteValue.parts (.agg #[.pointer (some ⟨1, 112, none⟩), .pointer (some a), .int .u64 150])).run Tryz.prog w = .ok (some (112, a, 150)) w := by kernel_rfl
/-- (Value).IsNil at the Value of a **p.E that is not nil. -/
theorem ae_isNil27 (a p : Addr) (W : World) (ha : W.cell? a = some (.pointer (some p))) :
    (ReflectliteValue.method (ReflectliteValue.valueError "reflectlite.Value.IsNil" 0) ReflectliteValue.isNil #[.agg #[.pointer (some ⟨1, 112, none⟩), .pointer (some a), .int .u64 150]]).run Tryz.prog W = .ok (.bool false) W := by
  rw [rlm]
  simp only [Sem.run_bind, ae_parts27, Result.andThen]
  simp [ReflectliteValue.isNil, loadVar, isAgg, underlying, Tryz.underlying112, ha, Result.andThen]

theorem ae_elem27 (w : World) : (ReflectliteType.method ReflectliteType.elem #[.agg #[.pointer (some ⟨1, 112, none⟩)]]).run Tryz.prog w = .ok (.iface 207 (.agg #[.pointer (some ⟨1, 26, none⟩)])) w := by kernel_rfl
theorem ae_implements25 (w : World) : (ReflectliteType.relation "Implements" ReflectliteType.implements_ #[.agg #[.pointer (some ⟨1, 26, none⟩)], .iface 207 (.agg #[.pointer (some ⟨1, 56, none⟩)])]).run Tryz.prog w = .ok (.bool true) w := by kernel_rfl
theorem ae_typeOf25 (v : Value) (w : World) : (ReflectliteType.typeOf #[.iface 26 v]).run Tryz.prog w = .ok (.iface 207 (.agg #[.pointer (some ⟨1, 26, none⟩)])) w := by kernel_rfl
theorem ae_assignable25 (w : World) : (ReflectliteType.relation "AssignableTo" ReflectliteType.assignableTo #[.agg #[.pointer (some ⟨1, 26, none⟩)], .iface 207 (.agg #[.pointer (some ⟨1, 26, none⟩)])]).run Tryz.prog w = .ok (.bool true) w := by kernel_rfl
theorem ae_valueOf25 (e : Int) (w : World) : (ReflectliteValue.unpack (.iface 26 (.int .i64 e))).run Tryz.prog w
    = .ok (.agg #[.pointer (some ⟨1, 26, none⟩), .pointer (some ⟨w.heap.size, 0, none⟩), .int .u64 130]) (w.alloc (.cells #[.int .i64 e] 26)) := by kernel_rfl

theorem ae_elemOf27 (w : World) : (Rtype.elem? 112).run Tryz.prog w = .ok (some 26) w := by kernel_rfl
theorem ae_mk25 (p : Addr) (w : World) : (ReflectliteValue.mk 26 p ReflectliteValue.flagAddr).run Tryz.prog w = .ok (.agg #[.pointer (some ⟨1, 26, none⟩), .pointer (some p), .int .u64 386]) w := by kernel_rfl
/-- (Value).Elem at the Value of a **p.E that is not nil: the Value of the *p.E variable that it points to, addressable. -/
theorem ae_elemV27 (a p : Addr) (W : World) (ha : W.cell? a = some (.pointer (some p))) :
    (ReflectliteValue.method (ReflectliteValue.valueError "reflectlite.Value.Elem" 0) ReflectliteValue.elem #[.agg #[.pointer (some ⟨1, 112, none⟩), .pointer (some a), .int .u64 150]]).run Tryz.prog W
      = .ok (.agg #[.pointer (some ⟨1, 26, none⟩), .pointer (some p), .int .u64 386]) W := by
  rw [rlm]
  simp only [Sem.run_bind, ae_parts27, Result.andThen]
  simp [ReflectliteValue.elem, loadVar, isAgg, underlying, Tryz.underlying112, ha, Result.andThen, ae_elemOf27, ae_mk25]
theorem ae_parts25a (a : Addr) (w : World) : (ReflectliteValue.parts (.agg #[.pointer (some ⟨1, 26, none⟩), .pointer (some a), .int .u64 386])).run Tryz.prog w = .ok (some (26, a, 386)) w := by kernel_rfl
theorem ae_parts25 (a : Addr) (w : World) : (ReflectliteValue.parts (.agg #[.pointer (some ⟨1, 26, none⟩), .pointer (some a), .int .u64 130])).run Tryz.prog w = .ok (some (26, a, 130)) w := by kernel_rfl
theorem ae_direct25 (w : World) : (Rtype.directlyAssignable 26 26).run Tryz.prog w = .ok true w := by kernel_rfl
theorem ae_size25 (w : World) : (sizeOf 26).run Tryz.prog w = .ok 1 w := by kernel_rfl
/-- (Value).Set: the *p.E variable at 'ta' gets what the Value's own variable 'b' holds. -/
theorem ae_set25 (ta b : Addr) (e : Int) (old : Value) (W : World) (hb : W.cell? b = some (.int .i64 e)) (ht : W.cell? ta = some old) (hf : W.frozen? ta = false) :
    (ReflectliteValue.set #[.agg #[.pointer (some ⟨1, 26, none⟩), .pointer (some ta), .int .u64 386], .agg #[.pointer (some ⟨1, 26, none⟩), .pointer (some b), .int .u64 130]]).run Tryz.prog W
      = .ok (.tuple #[]) (W.setCell ta (.int .i64 e)) := by
  rw [rls]
  simp only [Sem.run_bind, ae_parts25a, ae_parts25, Result.andThen]
  simp [ReflectliteValue.flagAddr, loadVar, isAgg, underlying, Tryz.underlying26, hb, Result.andThen, ae_direct25, storeVar, Value.cells, storeCells, Addr.add]
  rw [run_store Tryz.prog W ta _ _ (by rfl)]
  simp [ht, hf]

set_option maxHeartbeats 4000000 in
theorem ae_hit (e : Int) (t : Addr) (old : Value) (w : World) (hg : w.cell? ⟨0, 0, none⟩ = some (.iface 207 (.agg #[.pointer (some ⟨1, 56, none⟩)]))) (ht0 : w.cell? t = some old) (hf0 : w.frozen? t = false) :
    Calls Tryz.prog 51 #[.iface 26 (.int .i64 e), .iface 112 (.pointer (some t))] w fun ev w' => ev = .returned (.bool true) ∧ w' = ((((w.alloc (.cells #[.pointer (some t)] 112)).alloc (.cells #[.pointer (some ⟨1, 112, none⟩), .pointer (some ⟨w.heap.size, 0, none⟩), .int .u64 150] 134)).alloc (.cells #[.pointer (some ⟨1, 112, none⟩), .pointer (some ⟨w.heap.size, 0, none⟩), .int .u64 150] 134)).alloc (.cells #[.int .i64 e] 26)).setCell t (.int .i64 e) := by
  have h6 := @run_callFunc_extern Tryz.prog 65 _ (fun args => ReflectliteValue.unpack (args.getD 0 (.tuple #[]))) Tryz.func65 (by kernel_rfl) (by kernel_rfl) (by kernel_rfl) (by kernel_rfl)
  have h7 := @run_callFunc_extern Tryz.prog 66 _ (ReflectliteValue.methodAny (ReflectliteValue.valueError "reflectlite.Value.Type" 0) (fun t _ _ _ => ReflectliteType.toType t)) Tryz.func66 (by kernel_rfl) (by kernel_rfl) (by kernel_rfl) (by kernel_rfl)
  have h8 := @run_callFunc_extern Tryz.prog 67 _ (ReflectliteValue.method (ReflectliteValue.valueError "reflectlite.Value.IsNil" 0) ReflectliteValue.isNil) Tryz.func67 (by kernel_rfl) (by kernel_rfl) (by kernel_rfl) (by kernel_rfl)
  have h27 := @run_callFunc_extern Tryz.prog 166 _ (ReflectliteType.abiMethod fun t => do pure (.int .u8 (← Rtype.kind t))) Tryz.func166 (by kernel_rfl) (by kernel_rfl) (by kernel_rfl) (by kernel_rfl)
  have h37 := @run_callFunc_extern Tryz.prog 178 _ (ReflectliteType.method ReflectliteType.elem) Tryz.func178 (by kernel_rfl) (by kernel_rfl) (by kernel_rfl) (by kernel_rfl)
  have h38 := @run_callFunc_extern Tryz.prog 179 _ (ReflectliteType.relation "Implements" ReflectliteType.implements_) Tryz.func179 (by kernel_rfl) (by kernel_rfl) (by kernel_rfl) (by kernel_rfl)
  have h10 := @run_callFunc_extern Tryz.prog 77 _ ReflectliteType.typeOf Tryz.func77 (by kernel_rfl) (by kernel_rfl) (by kernel_rfl) (by kernel_rfl)
  have h35 := @run_callFunc_extern Tryz.prog 176 _ (ReflectliteType.relation "AssignableTo" ReflectliteType.assignableTo) Tryz.func176 (by kernel_rfl) (by kernel_rfl) (by kernel_rfl) (by kernel_rfl)
  have h11 := @run_callFunc_extern Tryz.prog 107 _ (ReflectliteValue.method (ReflectliteValue.valueError "reflectlite.Value.Elem" 0) ReflectliteValue.elem) Tryz.func107 (by kernel_rfl) (by kernel_rfl) (by kernel_rfl) (by kernel_rfl)
  have h12 := @run_callFunc_extern Tryz.prog 108 _ ReflectliteValue.set Tryz.func108 (by kernel_rfl) (by kernel_rfl) (by kernel_rfl) (by kernel_rfl)
  have tO := ae_typeOf25
  have mA := as_methodAssignableTo
  have a25 := ae_assignable25
  have v25 := ae_valueOf25
  have f6 := ae_valueOf27
  have f7 := ae_type27
  have mK := as_methodKind
  have mE := as_methodElem
  have mI := as_methodImplements
  have k27 := ae_kind27
  have k25 := ae_kind25
  have e27 := ae_elem27
  have i25 := ae_implements25
  have n8 := ae_isNil27 ⟨w.heap.size, 0, none⟩ t ((w.alloc (.cells #[.pointer (some t)] 112)).alloc (.cells #[.pointer (some ⟨1, 112, none⟩), .pointer (some ⟨w.heap.size, 0, none⟩), .int .u64 150] 134)) (by simp)
  have hlt : 0 < w.heap.size := by
    rcases Nat.eq_zero_or_pos w.heap.size with h0 | h
    · simp [World.cell?, h0] at hg
    · exact h
  have hg2 : ((w.alloc (.cells #[.pointer (some t)] 112)).alloc (.cells #[.pointer (some ⟨1, 112, none⟩), .pointer (some ⟨w.heap.size, 0, none⟩), .int .u64 150] 134)).cell? ⟨0, 0, none⟩ = some (.iface 207 (.agg #[.pointer (some ⟨1, 56, none⟩)])) := by
    rw [World.cell?_alloc_lt _ _ ⟨0, 0, none⟩ (by simp), World.cell?_alloc_lt _ _ ⟨0, 0, none⟩ hlt]; exact hg
  have htl : t.block < w.heap.size := by
    rcases Nat.lt_or_ge t.block w.heap.size with h | h
    · exact h
    · simp [World.cell?, Array.getElem?_eq_none h] at ht0
  have el := ae_elemV27 ⟨w.heap.size, 0, none⟩ t (((w.alloc (.cells #[.pointer (some t)] 112)).alloc (.cells #[.pointer (some ⟨1, 112, none⟩), .pointer (some ⟨w.heap.size, 0, none⟩), .int .u64 150] 134)).alloc (.cells #[.pointer (some ⟨1, 112, none⟩), .pointer (some ⟨w.heap.size, 0, none⟩), .int .u64 150] 134)) (by rw [World.cell?_alloc_lt _ _ ⟨w.heap.size, 0, none⟩ (by simp; omega)]; simp)
  have st := ae_set25 t ⟨w.heap.size + 1 + 1 + 1, 0, none⟩ e old ((((w.alloc (.cells #[.pointer (some t)] 112)).alloc (.cells #[.pointer (some ⟨1, 112, none⟩), .pointer (some ⟨w.heap.size, 0, none⟩), .int .u64 150] 134)).alloc (.cells #[.pointer (some ⟨1, 112, none⟩), .pointer (some ⟨w.heap.size, 0, none⟩), .int .u64 150] 134)).alloc (.cells #[.int .i64 e] 26))
    (by rw [World.cell?_alloc_at _ _ _ _ (by simp)]; rfl)
    (by rw [World.cell?_alloc_lt _ _ t (by simp; omega), World.cell?_alloc_lt _ _ t (by simp; omega), World.cell?_alloc_lt _ _ t (by simp; omega), World.cell?_alloc_lt _ _ t htl]; exact ht0)
    (by rw [World.frozen?_alloc_old _ _ t (by simp; omega), World.frozen?_alloc_old _ _ t (by simp; omega), World.frozen?_alloc_old _ _ t (by simp; omega), World.frozen?_alloc_old _ _ t (Nat.ne_of_lt htl)]; exact hf0)
  go_enter Tryz.func51, Tryz.ntmps51
  go_wp2
  refine wp_loop_rounds 1 ?_
  rw [rounds_succ]
  go_wp2
  go_ret
  exact ⟨rfl, rfl⟩

theorem ae_assignableW (w : World) : (ReflectliteType.relation "AssignableTo" ReflectliteType.assignableTo #[.agg #[.pointer (some ⟨1, 107, none⟩)], .iface 207 (.agg #[.pointer (some ⟨1, 26, none⟩)])]).run Tryz.prog w = .ok (.bool false) w := by kernel_rfl
theorem noAsO (v : Value) (xT : TypeId) (w : World) : (Instr.typeAssert (.iface 107 v) xT 211 true).run Tryz.prog w = .ok (.tuple #[.nilIface, .bool false]) w := run_typeAssert_lacksB Tryz.underlying211 (by kernel_rfl) (by kernel_rfl) v xT w
set_option maxHeartbeats 4000000 in
theorem ae_unwrap (g : Nat) (e pl : Int) (t : Addr) (old : Value) (w : World) (hgb : Blk w g 111 #[.int .i64 e, .int .i64 pl]) (hg : w.cell? ⟨0, 0, none⟩ = some (.iface 207 (.agg #[.pointer (some ⟨1, 56, none⟩)]))) (ht0 : w.cell? t = some old) (hf0 : w.frozen? t = false) :
    Calls Tryz.prog 51 #[errV g, .iface 112 (.pointer (some t))] w fun ev w' => ev = .returned (.bool true) ∧ w' = ((((w.alloc (.cells #[.pointer (some t)] 112)).alloc (.cells #[.pointer (some ⟨1, 112, none⟩), .pointer (some ⟨w.heap.size, 0, none⟩), .int .u64 150] 134)).alloc (.cells #[.pointer (some ⟨1, 112, none⟩), .pointer (some ⟨w.heap.size, 0, none⟩), .int .u64 150] 134)).alloc (.cells #[.int .i64 e] 26)).setCell t (.int .i64 e) := by
  have h6 := @run_callFunc_extern Tryz.prog 65 _ (fun args => ReflectliteValue.unpack (args.getD 0 (.tuple #[]))) Tryz.func65 (by kernel_rfl) (by kernel_rfl) (by kernel_rfl) (by kernel_rfl)
  have h7 := @run_callFunc_extern Tryz.prog 66 _ (ReflectliteValue.methodAny (ReflectliteValue.valueError "reflectlite.Value.Type" 0) (fun t _ _ _ => ReflectliteType.toType t)) Tryz.func66 (by kernel_rfl) (by kernel_rfl) (by kernel_rfl) (by kernel_rfl)
  have h8 := @run_callFunc_extern Tryz.prog 67 _ (ReflectliteValue.method (ReflectliteValue.valueError "reflectlite.Value.IsNil" 0) ReflectliteValue.isNil) Tryz.func67 (by kernel_rfl) (by kernel_rfl) (by kernel_rfl) (by kernel_rfl)
  have h27 := @run_callFunc_extern Tryz.prog 166 _ (ReflectliteType.abiMethod fun t => do pure (.int .u8 (← Rtype.kind t))) Tryz.func166 (by kernel_rfl) (by kernel_rfl) (by kernel_rfl) (by kernel_rfl)
  have h37 := @run_callFunc_extern Tryz.prog 178 _ (ReflectliteType.method ReflectliteType.elem) Tryz.func178 (by kernel_rfl) (by kernel_rfl) (by kernel_rfl) (by kernel_rfl)
  have h38 := @run_callFunc_extern Tryz.prog 179 _ (ReflectliteType.relation "Implements" ReflectliteType.implements_) Tryz.func179 (by kernel_rfl) (by kernel_rfl) (by kernel_rfl) (by kernel_rfl)
  have h10 := @run_callFunc_extern Tryz.prog 77 _ ReflectliteType.typeOf Tryz.func77 (by kernel_rfl) (by kernel_rfl) (by kernel_rfl) (by kernel_rfl)
  have h35 := @run_callFunc_extern Tryz.prog 176 _ (ReflectliteType.relation "AssignableTo" ReflectliteType.assignableTo) Tryz.func176 (by kernel_rfl) (by kernel_rfl) (by kernel_rfl) (by kernel_rfl)
  have h11 := @run_callFunc_extern Tryz.prog 107 _ (ReflectliteValue.method (ReflectliteValue.valueError "reflectlite.Value.Elem" 0) ReflectliteValue.elem) Tryz.func107 (by kernel_rfl) (by kernel_rfl) (by kernel_rfl) (by kernel_rfl)
  have h12 := @run_callFunc_extern Tryz.prog 108 _ ReflectliteValue.set Tryz.func108 (by kernel_rfl) (by kernel_rfl) (by kernel_rfl) (by kernel_rfl)
  have tO := ae_typeOf25
  have tW := as_typeOf25
  have aW := ae_assignableW
  have nA := noAsO
  have uA := hasUnwrapO
  have mU : ∀ (v : Value) (w : World), (Go.method 386 107 v "Unwrap").run Tryz.prog w = .ok (171, v) w := fun v w => by kernel_rfl
  have mA := as_methodAssignableTo
  have a25 := ae_assignable25
  have v25 := ae_valueOf25
  have f6 := ae_valueOf27
  have f7 := ae_type27
  have mK := as_methodKind
  have mE := as_methodElem
  have mI := as_methodImplements
  have k27 := ae_kind27
  have k25 := ae_kind25
  have e27 := ae_elem27
  have i25 := ae_implements25
  have n8 := ae_isNil27 ⟨w.heap.size, 0, none⟩ t ((w.alloc (.cells #[.pointer (some t)] 112)).alloc (.cells #[.pointer (some ⟨1, 112, none⟩), .pointer (some ⟨w.heap.size, 0, none⟩), .int .u64 150] 134)) (by simp)
  have hlt : 0 < w.heap.size := by
    rcases Nat.eq_zero_or_pos w.heap.size with h0 | h
    · simp [World.cell?, h0] at hg
    · exact h
  have hg2 : ((w.alloc (.cells #[.pointer (some t)] 112)).alloc (.cells #[.pointer (some ⟨1, 112, none⟩), .pointer (some ⟨w.heap.size, 0, none⟩), .int .u64 150] 134)).cell? ⟨0, 0, none⟩ = some (.iface 207 (.agg #[.pointer (some ⟨1, 56, none⟩)])) := by
    rw [World.cell?_alloc_lt _ _ ⟨0, 0, none⟩ (by simp), World.cell?_alloc_lt _ _ ⟨0, 0, none⟩ hlt]; exact hg
  have htl : t.block < w.heap.size := by
    rcases Nat.lt_or_ge t.block w.heap.size with h | h
    · exact h
    · simp [World.cell?, Array.getElem?_eq_none h] at ht0
  have el := ae_elemV27 ⟨w.heap.size, 0, none⟩ t (((w.alloc (.cells #[.pointer (some t)] 112)).alloc (.cells #[.pointer (some ⟨1, 112, none⟩), .pointer (some ⟨w.heap.size, 0, none⟩), .int .u64 150] 134)).alloc (.cells #[.pointer (some ⟨1, 112, none⟩), .pointer (some ⟨w.heap.size, 0, none⟩), .int .u64 150] 134)) (by rw [World.cell?_alloc_lt _ _ ⟨w.heap.size, 0, none⟩ (by simp; omega)]; simp)
  have st := ae_set25 t ⟨w.heap.size + 1 + 1 + 1, 0, none⟩ e old ((((w.alloc (.cells #[.pointer (some t)] 112)).alloc (.cells #[.pointer (some ⟨1, 112, none⟩), .pointer (some ⟨w.heap.size, 0, none⟩), .int .u64 150] 134)).alloc (.cells #[.pointer (some ⟨1, 112, none⟩), .pointer (some ⟨w.heap.size, 0, none⟩), .int .u64 150] 134)).alloc (.cells #[.int .i64 e] 26))
    (by rw [World.cell?_alloc_at _ _ _ _ (by simp)]; rfl)
    (by rw [World.cell?_alloc_lt _ _ t (by simp; omega), World.cell?_alloc_lt _ _ t (by simp; omega), World.cell?_alloc_lt _ _ t (by simp; omega), World.cell?_alloc_lt _ _ t htl]; exact ht0)
    (by rw [World.frozen?_alloc_old _ _ t (by simp; omega), World.frozen?_alloc_old _ _ t (by simp; omega), World.frozen?_alloc_old _ _ t (by simp; omega), World.frozen?_alloc_old _ _ t (Nat.ne_of_lt htl)]; exact hf0)
  have gl := hgb.lt
  have g0 : (((w.alloc (.cells #[.pointer (some t)] 112)).alloc (.cells #[.pointer (some ⟨1, 112, none⟩), .pointer (some ⟨w.heap.size, 0, none⟩), .int .u64 150] 134)).alloc (.cells #[.pointer (some ⟨1, 112, none⟩), .pointer (some ⟨w.heap.size, 0, none⟩), .int .u64 150] 134)).cell? ⟨g, 0, none⟩ = some (.int .i64 e) := (((hgb.alloc _).alloc _).alloc _).cell 0
  clear hgb
  go_enter Tryz.func51, Tryz.ntmps51
  go_wp2
  refine wp_loop_rounds 2 ?_
  rw [rounds_succ]
  go_wp2
  rw [rounds_succ]
  go_wp2
  go_ret
  exact ⟨rfl, rfl⟩

/-- errors.As at an Errno variable, of an Errno. -/
theorem as_num (k : Int) (t : Nat) (old : Value) (W : World) (hg : W.cell? ⟨0, 0, none⟩ = some tyErr) (ht : W.cell? ⟨t, 0, none⟩ = some old) (hf : W.frozen? ⟨t, 0, none⟩ = false) :
    Calls Tryz.prog 51 #[.iface 26 (.int .i64 k), .iface 112 (.pointer (some ⟨t, 0, none⟩))] W fun e w' => ∃ W2, e = .returned (.bool true) ∧ w' = W2.setCell ⟨t, 0, none⟩ (.int .i64 k) ∧ Below W.heap.size W W2 := by
  refine (ae_hit k ⟨t, 0, none⟩ old W hg ht hf).mono ?_
  rintro e w' ⟨rfl, rfl⟩
  exact ⟨_, rfl, rfl, ((((Below.refl _ _).alloc (Nat.le_refl _) _).alloc (by simp) _).alloc (by simp; omega) _).alloc (by simp; omega) _⟩
/-- .. of a *wire.Error. -/
theorem as_wrap (g : Nat) (k pl : Int) (t : Nat) (old : Value) (W : World) (hgb : Blk W g 111 #[.int .i64 k, .int .i64 pl]) (hg : W.cell? ⟨0, 0, none⟩ = some tyErr) (ht : W.cell? ⟨t, 0, none⟩ = some old) (hf : W.frozen? ⟨t, 0, none⟩ = false) :
    Calls Tryz.prog 51 #[errV g, .iface 112 (.pointer (some ⟨t, 0, none⟩))] W fun e w' => ∃ W2, e = .returned (.bool true) ∧ w' = W2.setCell ⟨t, 0, none⟩ (.int .i64 k) ∧ Below W.heap.size W W2 := by
  refine (ae_unwrap g k pl ⟨t, 0, none⟩ old W hgb hg ht hf).mono ?_
  rintro e w' ⟨rfl, rfl⟩
  exact ⟨_, rfl, rfl, ((((Below.refl _ _).alloc (Nat.le_refl _) _).alloc (by simp) _).alloc (by simp; omega) _).alloc (by simp; omega) _⟩
end Go.Proofs.YtglbdbghcdoicaaGreatDoor
