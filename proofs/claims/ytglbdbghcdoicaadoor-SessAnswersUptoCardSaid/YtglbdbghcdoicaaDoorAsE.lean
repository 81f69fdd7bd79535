/- errors.As at the target *api.Errno: a number for itself, a *wire.Error by what it wraps. -/
import Derived.Test.YtglbdbghcdoicaaDoorAsW
import Derived.Test.YtglbdbghcdoicaaDoorWIs
namespace Go.Proofs.YtglbdbghcdoicaaDoor
open Go.RowKit Go.Extern.Stop Go.Stop Go.Extern

theorem ae_valueOf27 (t : Addr) (w : World) : (ReflectliteValue.unpack (.iface 90 (.pointer (some t)))).run Tryd.prog w
    = .ok (.agg #[.pointer (some ⟨1, 90, none⟩), .pointer (some ⟨w.heap.size, 0, none⟩), .int .u64 150]) (w.alloc (.cells #[.pointer (some t)] 90)) := by kernel_rfl
theorem ae_type27 (a : Addr) (w : World) : (ReflectliteValue.methodAny (ReflectliteValue.valueError "reflectlite.Value.Type" 0) (fun t _ _ _ => ReflectliteType.toType t) #[.agg #[.pointer (some ⟨1, 90, none⟩), .pointer (some a), .int .u64 150]]).run Tryd.prog w
    = .ok (.iface 180 (.agg #[.pointer (some ⟨1, 90, none⟩)])) w := by kernel_rfl
theorem ae_kind27 (w : World) : ((ReflectliteType.abiMethod fun t => (fun a : Nat => Value.int IntKind.u8 (a : Int)) <$> Rtype.kind t) #[.pointer (some ⟨1, 90, none⟩)]).run Tryd.prog w = .ok (.int .u8 22) w := by kernel_rfl
theorem ae_kind25 (w : World) : ((ReflectliteType.abiMethod fun t => (fun a : Nat => Value.int IntKind.u8 (a : Int)) <$> Rtype.kind t) #[.pointer (some ⟨1, 22, none⟩)]).run Tryd.prog w = .ok (.int .u8 2) w := by kernel_rfl

theorem ae_parts27 (a : Addr) (w : World) : (ReflectliteValue.parts (.agg #[.pointer (some ⟨1, 90, none⟩), .pointer (some a), .int .u64 150])).run Tryd.prog w = .ok (some (90, a, 150)) w := by kernel_rfl
/-- (Value).IsNil at the Value of a **p.E that is not nil. -/
theorem ae_isNil27 (a p : Addr) (W : World) (ha : W.cell? a = some (.pointer (some p))) :
    (ReflectliteValue.method (ReflectliteValue.valueError "reflectlite.Value.IsNil" 0) ReflectliteValue.isNil #[.agg #[.pointer (some ⟨1, 90, none⟩), .pointer (some a), .int .u64 150]]).run Tryd.prog W = .ok (.bool false) W := by
  rw [rlm]
  simp only [Sem.run_bind, ae_parts27, Result.andThen]
  simp [ReflectliteValue.isNil, loadVar, isAgg, underlying, Tryd.underlying90, ha, Result.andThen]

theorem ae_elem27 (w : World) : (ReflectliteType.method ReflectliteType.elem #[.agg #[.pointer (some ⟨1, 90, none⟩)]]).run Tryd.prog w = .ok (.iface 180 (.agg #[.pointer (some ⟨1, 22, none⟩)])) w := by kernel_rfl
theorem ae_implements25 (w : World) : (ReflectliteType.relation "Implements" ReflectliteType.implements_ #[.agg #[.pointer (some ⟨1, 22, none⟩)], .iface 180 (.agg #[.pointer (some ⟨1, 51, none⟩)])]).run Tryd.prog w = .ok (.bool true) w := by kernel_rfl
theorem ae_typeOf25 (v : Value) (w : World) : (ReflectliteType.typeOf #[.iface 22 v]).run Tryd.prog w = .ok (.iface 180 (.agg #[.pointer (some ⟨1, 22, none⟩)])) w := by kernel_rfl
theorem ae_assignable25 (w : World) : (ReflectliteType.relation "AssignableTo" ReflectliteType.assignableTo #[.agg #[.pointer (some ⟨1, 22, none⟩)], .iface 180 (.agg #[.pointer (some ⟨1, 22, none⟩)])]).run Tryd.prog w = .ok (.bool true) w := by kernel_rfl
theorem ae_valueOf25 (e : Int) (w : World) : (ReflectliteValue.unpack (.iface 22 (.int .i64 e))).run Tryd.prog w
    = .ok (.agg #[.pointer (some ⟨1, 22, none⟩), .pointer (some ⟨w.heap.size, 0, none⟩), .int .u64 130]) (w.alloc (.cells #[.int .i64 e] 22)) := by kernel_rfl

theorem ae_elemOf27 (w : World) : (Rtype.elem? 90).run Tryd.prog w = .ok (some 22) w := by kernel_rfl
theorem ae_mk25 (p : Addr) (w : World) : (ReflectliteValue.mk 22 p ReflectliteValue.flagAddr).run Tryd.prog w = .ok (.agg #[.pointer (some ⟨1, 22, none⟩), .pointer (some p), .int .u64 386]) w := by kernel_rfl
/-- (Value).Elem at the Value of a **p.E that is not nil: the Value of the *p.E variable that it points to, addressable. -/
theorem ae_elemV27 (a p : Addr) (W : World) (ha : W.cell? a = some (.pointer (some p))) :
    (ReflectliteValue.method (ReflectliteValue.valueError "reflectlite.Value.Elem" 0) ReflectliteValue.elem #[.agg #[.pointer (some ⟨1, 90, none⟩), .pointer (some a), .int .u64 150]]).run Tryd.prog W
      = .ok (.agg #[.pointer (some ⟨1, 22, none⟩), .pointer (some p), .int .u64 386]) W := by
  rw [rlm]
  simp only [Sem.run_bind, ae_parts27, Result.andThen]
  simp [ReflectliteValue.elem, loadVar, isAgg, underlying, Tryd.underlying90, ha, Result.andThen, ae_elemOf27, ae_mk25]
theorem ae_parts25a (a : Addr) (w : World) : (ReflectliteValue.parts (.agg #[.pointer (some ⟨1, 22, none⟩), .pointer (some a), .int .u64 386])).run Tryd.prog w = .ok (some (22, a, 386)) w := by kernel_rfl
theorem ae_parts25 (a : Addr) (w : World) : (ReflectliteValue.parts (.agg #[.pointer (some ⟨1, 22, none⟩), .pointer (some a), .int .u64 130])).run Tryd.prog w = .ok (some (22, a, 130)) w := by kernel_rfl
theorem ae_direct25 (w : World) : (Rtype.directlyAssignable 22 22).run Tryd.prog w = .ok true w := by kernel_rfl
theorem ae_size25 (w : World) : (sizeOf 22).run Tryd.prog w = .ok 1 w := by kernel_rfl
/-- (Value).Set: the *p.E variable at 'ta' gets what the Value's own variable 'b' holds. -/
theorem ae_set25 (ta b : Addr) (e : Int) (old : Value) (W : World) (hb : W.cell? b = some (.int .i64 e)) (ht : W.cell? ta = some old) (hf : W.frozen? ta = false) :
    (ReflectliteValue.set #[.agg #[.pointer (some ⟨1, 22, none⟩), .pointer (some ta), .int .u64 386], .agg #[.pointer (some ⟨1, 22, none⟩), .pointer (some b), .int .u64 130]]).run Tryd.prog W
      = .ok (.tuple #[]) (W.setCell ta (.int .i64 e)) := by
  rw [rls]
  simp only [Sem.run_bind, ae_parts25a, ae_parts25, Result.andThen]
  simp [ReflectliteValue.flagAddr, loadVar, isAgg, underlying, Tryd.underlying22, hb, Result.andThen, ae_direct25, storeVar, Value.cells, storeCells, Addr.add]
  rw [run_store Tryd.prog W ta _ _ (by rfl)]
  simp [ht, hf]

set_option maxHeartbeats 4000000 in
theorem ae_hit (e : Int) (t : Addr) (old : Value) (w : World) (hg : w.cell? ⟨0, 0, none⟩ = some (.iface 180 (.agg #[.pointer (some ⟨1, 51, none⟩)]))) (ht0 : w.cell? t = some old) (hf0 : w.frozen? t = false) :
    Calls Tryd.prog 38 #[.iface 22 (.int .i64 e), .iface 90 (.pointer (some t))] w fun ev w' => ev = .returned (.bool true) ∧ w' = ((((w.alloc (.cells #[.pointer (some t)] 90)).alloc (.cells #[.pointer (some ⟨1, 90, none⟩), .pointer (some ⟨w.heap.size, 0, none⟩), .int .u64 150] 143)).alloc (.cells #[.pointer (some ⟨1, 90, none⟩), .pointer (some ⟨w.heap.size, 0, none⟩), .int .u64 150] 143)).alloc (.cells #[.int .i64 e] 22)).setCell t (.int .i64 e) := by
  have h6 := @run_callFunc_extern Tryd.prog 65 _ (fun args => ReflectliteValue.unpack (args.getD 0 (.tuple #[]))) Tryd.func65 (by kernel_rfl) (by kernel_rfl) (by kernel_rfl) (by kernel_rfl)
  have h7 := @run_callFunc_extern Tryd.prog 66 _ (ReflectliteValue.methodAny (ReflectliteValue.valueError "reflectlite.Value.Type" 0) (fun t _ _ _ => ReflectliteType.toType t)) Tryd.func66 (by kernel_rfl) (by kernel_rfl) (by kernel_rfl) (by kernel_rfl)
  have h8 := @run_callFunc_extern Tryd.prog 67 _ (ReflectliteValue.method (ReflectliteValue.valueError "reflectlite.Value.IsNil" 0) ReflectliteValue.isNil) Tryd.func67 (by kernel_rfl) (by kernel_rfl) (by kernel_rfl) (by kernel_rfl)
  have h27 := @run_callFunc_extern Tryd.prog 116 _ (ReflectliteType.abiMethod fun t => do pure (.int .u8 (← Rtype.kind t))) Tryd.func116 (by kernel_rfl) (by kernel_rfl) (by kernel_rfl) (by kernel_rfl)
  have h37 := @run_callFunc_extern Tryd.prog 127 _ (ReflectliteType.method ReflectliteType.elem) Tryd.func127 (by kernel_rfl) (by kernel_rfl) (by kernel_rfl) (by kernel_rfl)
  have h38 := @run_callFunc_extern Tryd.prog 128 _ (ReflectliteType.relation "Implements" ReflectliteType.implements_) Tryd.func128 (by kernel_rfl) (by kernel_rfl) (by kernel_rfl) (by kernel_rfl)
  have h10 := @run_callFunc_extern Tryd.prog 88 _ ReflectliteType.typeOf Tryd.func88 (by kernel_rfl) (by kernel_rfl) (by kernel_rfl) (by kernel_rfl)
  have h35 := @run_callFunc_extern Tryd.prog 125 _ (ReflectliteType.relation "AssignableTo" ReflectliteType.assignableTo) Tryd.func125 (by kernel_rfl) (by kernel_rfl) (by kernel_rfl) (by kernel_rfl)
  have h11 := @run_callFunc_extern Tryd.prog 99 _ (ReflectliteValue.method (ReflectliteValue.valueError "reflectlite.Value.Elem" 0) ReflectliteValue.elem) Tryd.func99 (by kernel_rfl) (by kernel_rfl) (by kernel_rfl) (by kernel_rfl)
  have h12 := @run_callFunc_extern Tryd.prog 100 _ ReflectliteValue.set Tryd.func100 (by kernel_rfl) (by kernel_rfl) (by kernel_rfl) (by kernel_rfl)
  have tO := ae_typeOf25
  have mA := as_methodAssignableTo
  have a25 := ae_assignable25
  have v25 := ae_valueOf25
  have f6 := ae_valueOf27
  have f7 := ae_type27
  have mK := as_methodKind
  have mE := as_methodElem
  have mI := as_methodImplements
  have k27 := ae_kind27
  have k25 := ae_kind25
  have e27 := ae_elem27
  have i25 := ae_implements25
  have n8 := ae_isNil27 ⟨w.heap.size, 0, none⟩ t ((w.alloc (.cells #[.pointer (some t)] 90)).alloc (.cells #[.pointer (some ⟨1, 90, none⟩), .pointer (some ⟨w.heap.size, 0, none⟩), .int .u64 150] 143)) (by simp)
  have hlt : 0 < w.heap.size := by
    rcases Nat.eq_zero_or_pos w.heap.size with h0 | h
    · simp [World.cell?, h0] at hg
    · exact h
  have hg2 : ((w.alloc (.cells #[.pointer (some t)] 90)).alloc (.cells #[.pointer (some ⟨1, 90, none⟩), .pointer (some ⟨w.heap.size, 0, none⟩), .int .u64 150] 143)).cell? ⟨0, 0, none⟩ = some (.iface 180 (.agg #[.pointer (some ⟨1, 51, none⟩)])) := by
    rw [World.cell?_alloc_lt _ _ ⟨0, 0, none⟩ (by simp), World.cell?_alloc_lt _ _ ⟨0, 0, none⟩ hlt]; exact hg
  have htl : t.block < w.heap.size := by
    rcases Nat.lt_or_ge t.block w.heap.size with h | h
    · exact h
    · simp [World.cell?, Array.getElem?_eq_none h] at ht0
  have el := ae_elemV27 ⟨w.heap.size, 0, none⟩ t (((w.alloc (.cells #[.pointer (some t)] 90)).alloc (.cells #[.pointer (some ⟨1, 90, none⟩), .pointer (some ⟨w.heap.size, 0, none⟩), .int .u64 150] 143)).alloc (.cells #[.pointer (some ⟨1, 90, none⟩), .pointer (some ⟨w.heap.size, 0, none⟩), .int .u64 150] 143)) (by rw [World.cell?_alloc_lt _ _ ⟨w.heap.size, 0, none⟩ (by simp; omega)]; simp)
  have st := ae_set25 t ⟨w.heap.size + 1 + 1 + 1, 0, none⟩ e old ((((w.alloc (.cells #[.pointer (some t)] 90)).alloc (.cells #[.pointer (some ⟨1, 90, none⟩), .pointer (some ⟨w.heap.size, 0, none⟩), .int .u64 150] 143)).alloc (.cells #[.pointer (some ⟨1, 90, none⟩), .pointer (some ⟨w.heap.size, 0, none⟩), .int .u64 150] 143)).alloc (.cells #[.int .i64 e] 22))
    (by rw [World.cell?_alloc_at _ _ _ _ (by simp)]; rfl)
    (by rw [World.cell?_alloc_lt _ _ t (by simp; omega), World.cell?_alloc_lt _ _ t (by simp; omega), World.cell?_alloc_lt _ _ t (by simp; omega), World.cell?_alloc_lt _ _ t htl]; exact ht0)
    (by rw [World.frozen?_alloc_old _ _ t (by simp; omega), World.frozen?_alloc_old _ _ t (by simp; omega), World.frozen?_alloc_old _ _ t (by simp; omega), World.frozen?_alloc_old _ _ t (Nat.ne_of_lt htl)]; exact hf0)
  go_enter Tryd.func38, Tryd.ntmps38
  go_wp2
  refine wp_loop_rounds 1 ?_
  rw [rounds_succ]
  go_wp2
  go_ret
  exact ⟨rfl, rfl⟩

theorem ae_assignableW (w : World) : (ReflectliteType.relation "AssignableTo" ReflectliteType.assignableTo #[.agg #[.pointer (some ⟨1, 40, none⟩)], .iface 180 (.agg #[.pointer (some ⟨1, 22, none⟩)])]).run Tryd.prog w = .ok (.bool false) w := by kernel_rfl
theorem noAsO (v : Value) (xT : TypeId) (w : World) : (Instr.typeAssert (.iface 40 v) xT 184 true).run Tryd.prog w = .ok (.tuple #[.nilIface, .bool false]) w := run_typeAssert_lacksB Tryd.underlying184 (by kernel_rfl) (by kernel_rfl) v xT w
set_option maxHeartbeats 4000000 in
theorem ae_unwrap (g : Nat) (e pl : Int) (t : Addr) (old : Value) (w : World) (hgb : Blk w g 42 #[.int .i64 e, .int .i64 pl]) (hg : w.cell? ⟨0, 0, none⟩ = some (.iface 180 (.agg #[.pointer (some ⟨1, 51, none⟩)]))) (ht0 : w.cell? t = some old) (hf0 : w.frozen? t = false) :
    Calls Tryd.prog 38 #[errV g, .iface 90 (.pointer (some t))] w fun ev w' => ev = .returned (.bool true) ∧ w' = ((((w.alloc (.cells #[.pointer (some t)] 90)).alloc (.cells #[.pointer (some ⟨1, 90, none⟩), .pointer (some ⟨w.heap.size, 0, none⟩), .int .u64 150] 143)).alloc (.cells #[.pointer (some ⟨1, 90, none⟩), .pointer (some ⟨w.heap.size, 0, none⟩), .int .u64 150] 143)).alloc (.cells #[.int .i64 e] 22)).setCell t (.int .i64 e) := by
  have h6 := @run_callFunc_extern Tryd.prog 65 _ (fun args => ReflectliteValue.unpack (args.getD 0 (.tuple #[]))) Tryd.func65 (by kernel_rfl) (by kernel_rfl) (by kernel_rfl) (by kernel_rfl)
  have h7 := @run_callFunc_extern Tryd.prog 66 _ (ReflectliteValue.methodAny (ReflectliteValue.valueError "reflectlite.Value.Type" 0) (fun t _ _ _ => ReflectliteType.toType t)) Tryd.func66 (by kernel_rfl) (by kernel_rfl) (by kernel_rfl) (by kernel_rfl)
  have h8 := @run_callFunc_extern Tryd.prog 67 _ (ReflectliteValue.method (ReflectliteValue.valueError "reflectlite.Value.IsNil" 0) ReflectliteValue.isNil) Tryd.func67 (by kernel_rfl) (by kernel_rfl) (by kernel_rfl) (by kernel_rfl)
  have h27 := @run_callFunc_extern Tryd.prog 116 _ (ReflectliteType.abiMethod fun t => do pure (.int .u8 (← Rtype.kind t))) Tryd.func116 (by kernel_rfl) (by kernel_rfl) (by kernel_rfl) (by kernel_rfl)
  have h37 := @run_callFunc_extern Tryd.prog 127 _ (ReflectliteType.method ReflectliteType.elem) Tryd.func127 (by kernel_rfl) (by kernel_rfl) (by kernel_rfl) (by kernel_rfl)
  have h38 := @run_callFunc_extern Tryd.prog 128 _ (ReflectliteType.relation "Implements" ReflectliteType.implements_) Tryd.func128 (by kernel_rfl) (by kernel_rfl) (by kernel_rfl) (by kernel_rfl)
  have h10 := @run_callFunc_extern Tryd.prog 88 _ ReflectliteType.typeOf Tryd.func88 (by kernel_rfl) (by kernel_rfl) (by kernel_rfl) (by kernel_rfl)
  have h35 := @run_callFunc_extern Tryd.prog 125 _ (ReflectliteType.relation "AssignableTo" ReflectliteType.assignableTo) Tryd.func125 (by kernel_rfl) (by kernel_rfl) (by kernel_rfl) (by kernel_rfl)
  have h11 := @run_callFunc_extern Tryd.prog 99 _ (ReflectliteValue.method (ReflectliteValue.valueError "reflectlite.Value.Elem" 0) ReflectliteValue.elem) Tryd.func99 (by kernel_rfl) (by kernel_rfl) (by kernel_rfl) (by kernel_rfl)
  have h12 := @run_callFunc_extern Tryd.prog 100 _ ReflectliteValue.set Tryd.func100 (by kernel_rfl) (by kernel_rfl) (by kernel_rfl) (by kernel_rfl)
  have tO := ae_typeOf25
  have tW := as_typeOf25
  have aW := ae_assignableW
  have nA := noAsO
  have uA := hasUnwrapO
  have mU : ∀ (v : Value) (w : World), (Go.method 324 40 v "Unwrap").run Tryd.prog w = .ok (120, v) w := fun v w => by kernel_rfl
  have mA := as_methodAssignableTo
  have a25 := ae_assignable25
  have v25 := ae_valueOf25
  have f6 := ae_valueOf27
  have f7 := ae_type27
  have mK := as_methodKind
  have mE := as_methodElem
  have mI := as_methodImplements
  have k27 := ae_kind27
  have k25 := ae_kind25
  have e27 := ae_elem27
  have i25 := ae_implements25
  have n8 := ae_isNil27 ⟨w.heap.size, 0, none⟩ t ((w.alloc (.cells #[.pointer (some t)] 90)).alloc (.cells #[.pointer (some ⟨1, 90, none⟩), .pointer (some ⟨w.heap.size, 0, none⟩), .int .u64 150] 143)) (by simp)
  have hlt : 0 < w.heap.size := by
    rcases Nat.eq_zero_or_pos w.heap.size with h0 | h
    · simp [World.cell?, h0] at hg
    · exact h
  have hg2 : ((w.alloc (.cells #[.pointer (some t)] 90)).alloc (.cells #[.pointer (some ⟨1, 90, none⟩), .pointer (some ⟨w.heap.size, 0, none⟩), .int .u64 150] 143)).cell? ⟨0, 0, none⟩ = some (.iface 180 (.agg #[.pointer (some ⟨1, 51, none⟩)])) := by
    rw [World.cell?_alloc_lt _ _ ⟨0, 0, none⟩ (by simp), World.cell?_alloc_lt _ _ ⟨0, 0, none⟩ hlt]; exact hg
  have htl : t.block < w.heap.size := by
    rcases Nat.lt_or_ge t.block w.heap.size with h | h
    · exact h
    · simp [World.cell?, Array.getElem?_eq_none h] at ht0
  have el := ae_elemV27 ⟨w.heap.size, 0, none⟩ t (((w.alloc (.cells #[.pointer (some t)] 90)).alloc (.cells #[.pointer (some ⟨1, 90, none⟩), .pointer (some ⟨w.heap.size, 0, none⟩), .int .u64 150] 143)).alloc (.cells #[.pointer (some ⟨1, 90, none⟩), .pointer (some ⟨w.heap.size, 0, none⟩), .int .u64 150] 143)) (by rw [World.cell?_alloc_lt _ _ ⟨w.heap.size, 0, none⟩ (by simp; omega)]; simp)
  have st := ae_set25 t ⟨w.heap.size + 1 + 1 + 1, 0, none⟩ e old ((((w.alloc (.cells #[.pointer (some t)] 90)).alloc (.cells #[.pointer (some ⟨1, 90, none⟩), .pointer (some ⟨w.heap.size, 0, none⟩), .int .u64 150] 143)).alloc (.cells #[.pointer (some ⟨1, 90, none⟩), .pointer (some ⟨w.heap.size, 0, none⟩), .int .u64 150] 143)).alloc (.cells #[.int .i64 e] 22))
    (by rw [World.cell?_alloc_at _ _ _ _ (by simp)]; rfl)
    (by rw [World.cell?_alloc_lt _ _ t (by simp; omega), World.cell?_alloc_lt _ _ t (by simp; omega), World.cell?_alloc_lt _ _ t (by simp; omega), World.cell?_alloc_lt _ _ t htl]; exact ht0)
    (by rw [World.frozen?_alloc_old _ _ t (by simp; omega), World.frozen?_alloc_old _ _ t (by simp; omega), World.frozen?_alloc_old _ _ t (by simp; omega), World.frozen?_alloc_old _ _ t (Nat.ne_of_lt htl)]; exact hf0)
  have gl := hgb.lt
  have g0 : (((w.alloc (.cells #[.pointer (some t)] 90)).alloc (.cells #[.pointer (some ⟨1, 90, none⟩), .pointer (some ⟨w.heap.size, 0, none⟩), .int .u64 150] 143)).alloc (.cells #[.pointer (some ⟨1, 90, none⟩), .pointer (some ⟨w.heap.size, 0, none⟩), .int .u64 150] 143)).cell? ⟨g, 0, none⟩ = some (.int .i64 e) := (((hgb.alloc _).alloc _).alloc _).cell 0
  clear hgb
  go_enter Tryd.func38, Tryd.ntmps38
  go_wp2
  refine wp_loop_rounds 2 ?_
  rw [rounds_succ]
  go_wp2
  rw [rounds_succ]
  go_wp2
  go_ret
  exact ⟨rfl, rfl⟩

/-- errors.As at an Errno variable, of an Errno. -/
theorem as_num (k : Int) (t : Nat) (old : Value) (W : World) (hg : W.cell? ⟨0, 0, none⟩ = some tyErr) (ht : W.cell? ⟨t, 0, none⟩ = some old) (hf : W.frozen? ⟨t, 0, none⟩ = false) :
    Calls Tryd.prog 38 #[.iface 22 (.int .i64 k), .iface 90 (.pointer (some ⟨t, 0, none⟩))] W fun e w' => ∃ W2, e = .returned (.bool true) ∧ w' = W2.setCell ⟨t, 0, none⟩ (.int .i64 k) ∧ Below W.heap.size W W2 := by
  refine (ae_hit k ⟨t, 0, none⟩ old W hg ht hf).mono ?_
  rintro e w' ⟨rfl, rfl⟩
  exact ⟨_, rfl, rfl, ((((Below.refl _ _).alloc (Nat.le_refl _) _).alloc (by simp) _).alloc (by simp; omega) _).alloc (by simp; omega) _⟩
/-- .. of a *wire.Error. -/
theorem as_wrap (g : Nat) (k pl : Int) (t : Nat) (old : Value) (W : World) (hgb : Blk W g 42 #[.int .i64 k, .int .i64 pl]) (hg : W.cell? ⟨0, 0, none⟩ = some tyErr) (ht : W.cell? ⟨t, 0, none⟩ = some old) (hf : W.frozen? ⟨t, 0, none⟩ = false) :
    Calls Tryd.prog 38 #[errV g, .iface 90 (.pointer (some ⟨t, 0, none⟩))] W fun e w' => ∃ W2, e = .returned (.bool true) ∧ w' = W2.setCell ⟨t, 0, none⟩ (.int .i64 k) ∧ Below W.heap.size W W2 := by
  refine (ae_unwrap g k pl ⟨t, 0, none⟩ old W hgb hg ht hf).mono ?_
  rintro e w' ⟨rfl, rfl⟩
  exact ⟨_, rfl, rfl, ((((Below.refl _ _).alloc (Nat.le_refl _) _).alloc (by simp) _).alloc (by simp; omega) _).alloc (by simp; omega) _⟩
end Go.Proofs.YtglbdbghcdoicaaDoor
