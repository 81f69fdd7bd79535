/- A map from whole numbers that the call makes, entry by entry; a lookup in it. -/
import Derived.Test.YtglbdbghcdoicaaGreatDoorBase
import Derived.Maps.Own
namespace Go.Proofs.YtglbdbghcdoicaaGreatDoor
open Go.RowKit Go.ChangeMaps Go.MapKept

def MapIs (W : World) (b : Nat) (l : List (Int × Value)) : Prop := ∃ es clock, W.heap[b]? = some (.map es clock) ∧ es.toList.map (fun e => (e.key, e.val)) = l.map fun p => (Value.int .i64 p.1, p.2)
theorem findNow_none (k : Int) : ∀ (es : List MapEntry) (l : List (Int × Value)) (i : Nat), es.map (fun e => (e.key, e.val)) = l.map (fun p => (Value.int .i64 p.1, p.2)) → (∀ p ∈ l, p.1 ≠ k) → Instr.findNow (.int .i64) (.int .i64 k) es i = some none
  | [], _, _, _, _ => rfl
  | e :: es, [], _, h, _ => by simp at h
  | e :: es, p :: l, i, h, hn => by
    simp only [List.map_cons, List.cons.injEq, Prod.mk.injEq] at h
    obtain ⟨⟨h1, _⟩, h2⟩ := h
    have hp := hn p (List.mem_cons_self ..)
    unfold Instr.findNow
    rw [h1]
    have : (k == p.1) = false := by simpa using fun e => hp e.symm
    simp only [Instr.sameNow, if_true, this]
    exact findNow_none k es l (i + 1) h2 (fun x hx => hn x (List.mem_cons_of_mem _ hx))
theorem findNow_some (k : Int) (v : Value) : ∀ (es : List MapEntry) (l : List (Int × Value)) (i : Nat), es.map (fun e => (e.key, e.val)) = l.map (fun p => (Value.int .i64 p.1, p.2)) → l.find? (fun p => p.1 == k) = some (k, v) → ∃ j, Instr.findNow (.int .i64) (.int .i64 k) es i = some (some (j, v))
  | [], [], _, _, h => by simp at h
  | [], p :: l, _, h, _ => by simp at h
  | e :: es, [], _, h, _ => by simp at h
  | e :: es, p :: l, i, h, hf => by
    simp only [List.map_cons, List.cons.injEq, Prod.mk.injEq] at h
    obtain ⟨⟨h1, h3⟩, h2⟩ := h
    unfold Instr.findNow
    rw [h1]
    by_cases hp : p.1 = k
    · rw [List.find?_cons_of_pos (by simpa using hp)] at hf
      injection hf with hf
      have h4 : p.2 = v := by rw [hf]
      have : (k == p.1) = true := by simpa using hp.symm
      simp only [Instr.sameNow, if_true, this]
      exact ⟨i, by rw [h3, h4]⟩
    · rw [List.find?_cons_of_neg (by simpa using hp)] at hf
      have : (k == p.1) = false := by simpa using fun e => hp e.symm
      simp only [Instr.sameNow, if_true, this]
      exact findNow_some k v es l (i + 1) h2 hf
theorem getMap {P : Program} {w : World} {b : Nat} {es : Array MapEntry} {clock : Nat} (hb : w.heap[b]? = some (.map es clock)) : (getObj b).run P w = .ok (.map es clock) w := by simp [getObj, Sem.run, hb]
theorem setMap {P : Program} {w : World} {b : Nat} {es : Array MapEntry} {clock : Nat} (o : Obj) (hb : w.heap[b]? = some (.map es clock)) : (setObj b o).run P w = .ok () (setBlock w b o) := by simp [setObj, Sem.run, hb, setBlock]
section
variable {P : Program} {w : World}
theorem run_checkKey_int (f : Bool) (n : Nat) {kt : TypeId} (hk : P.underlying kt = some (.int .i64)) (key : Int) : (Instr.checkKey f (n + 1) kt (.int .i64 key)).run P w = .ok () w := by
  simp [Instr.checkKey, run_underlying hk]
theorem run_findKey_none {kt : TypeId} (hk : P.underlying kt = some (.int .i64)) {key : Int} {es : List MapEntry} (hf : Instr.findNow (.int .i64) (.int .i64 key) es 0 = some none) : (Instr.findKey kt (.int .i64 key) es).run P w = .ok none w := by
  simp [Instr.findKey, run_underlying hk, hf]
theorem run_findKey_some {kt : TypeId} (hk : P.underlying kt = some (.int .i64)) {key : Int} {es : List MapEntry} {j : Nat} {v : Value} (hf : Instr.findNow (.int .i64) (.int .i64 key) es 0 = some (some (j, v))) : (Instr.findKey kt (.int .i64 key) es).run P w = .ok (some (j, v)) w := by
  simp [Instr.findKey, run_underlying hk, hf]
theorem MapIs.insert {t kt e : TypeId} {b : Nat} {l : List (Int × Value)} (h : MapIs w b l) (ht : P.underlying t = some (.map kt e)) (hk : P.underlying kt = some (.int .i64)) (key : Int) (val : Value) (hn : ∀ p ∈ l, p.1 ≠ key) :
    ∃ w', (Instr.mapUpdate t (.map (some b)) (.int .i64 key) val).run P w = .ok () w' ∧ MapIs w' b (l ++ [(key, val)]) ∧ w.grownBy w' (some b) := by
  obtain ⟨es, clock, hb, hl⟩ := h
  have hf := findNow_none key es.toList l 0 hl hn
  refine ⟨setBlock w b (.map (es.push { key := .int .i64 key, val := val, born := clock }) (clock + 1)), ?_, ⟨_, _, heap_setBlock_same hb _, ?_⟩, ⟨rfl, rfl, rfl, by simp [setBlock], fun i _ hi => heap_setBlock_other hb _ (fun e => hi (by rw [e]))⟩⟩
  · simp only [Instr.mapUpdate, Sem.run_bind, run_underlying ht, Result.andThen_ok, getMap hb, run_checkKey_int false 9999 hk key, run_findKey_none hk hf, setMap _ hb]
  · simp [hl]
/-- A lookup that finds it. -/
theorem MapIs.look {t kt e : TypeId} {b : Nat} {l : List (Int × Value)} (h : MapIs w b l) (ht : P.underlying t = some (.map kt e)) (hk : P.underlying kt = some (.int .i64)) (key : Int) (v : Value) (hf : l.find? (fun p => p.1 == key) = some (key, v)) (ok : Bool) :
    (Instr.lookup t (.map (some b)) (.int .i64 key) ok).run P w = .ok (if ok then .tuple #[v, .bool true] else v) w := by
  obtain ⟨es, clock, hb, hl⟩ := h
  obtain ⟨j, hj⟩ := findNow_some key v es.toList l 0 hl hf
  simp only [Instr.lookup, Sem.run_bind, run_underlying ht, Result.andThen_ok, getMap hb, Sem.run_pure]
  simp only [run_checkKey_int es.isEmpty 9999 hk key, run_findKey_some hk hj, Result.andThen_ok, Sem.run_bind, Sem.run_pure]
/-- A lookup that does not. -/
theorem MapIs.miss {t kt e : TypeId} {b : Nat} {l : List (Int × Value)} (h : MapIs w b l) (ht : P.underlying t = some (.map kt e)) (hk : P.underlying kt = some (.int .i64)) (z : Value) (hz : ∀ w, (zeroValue e).run P w = .ok z w) (key : Int) (hn : ∀ p ∈ l, p.1 ≠ key) (ok : Bool) :
    (Instr.lookup t (.map (some b)) (.int .i64 key) ok).run P w = .ok (if ok then .tuple #[z, .bool false] else z) w := by
  obtain ⟨es, clock, hb, hl⟩ := h
  have hf := findNow_none key es.toList l 0 hl hn
  simp only [Instr.lookup, Sem.run_bind, run_underlying ht, Result.andThen_ok, getMap hb, Sem.run_pure]
  simp only [run_checkKey_int es.isEmpty 9999 hk key, run_findKey_none hk hf, hz, Result.andThen_ok, Sem.run_bind, Sem.run_pure]
end
theorem MapIs.made (w : World) : MapIs (w.alloc (.map #[] 0)) w.heap.size [] := ⟨#[], 0, heap_alloc_new w _, rfl⟩
theorem MapIs.lt {w : World} {b : Nat} {l : List (Int × Value)} (h : MapIs w b l) : b < w.heap.size := by
  obtain ⟨es, clock, hb, _⟩ := h
  rcases Nat.lt_or_ge b w.heap.size with hlt | hge
  · exact hlt
  · rw [Array.getElem?_eq_none hge] at hb; cases hb
theorem MapIs.kept {w w' : World} {b : Nat} {l : List (Int × Value)} (h : MapIs w b l) (hb : Below w.heap.size w w') : MapIs w' b l := by
  have hlt := h.lt
  obtain ⟨es, clock, h1, h2⟩ := h
  exact ⟨es, clock, (hb.block b hlt).trans h1, h2⟩
/-- 'm[k] = v' in a map literal, at the operation. -/
theorem wpList_insert_new {P : Program} {w : World} {ops : Array Oper} {rest : List Oper} {o : Oper} {a : Act} {Q : Exit → Act → World → Prop} (hg : o.guard = none) (m x v : Operand) (t : TypeId) (hop : o.op = Op.insert t m x v)
    (kt e : TypeId) (ht : P.underlying t = some (.map kt e)) (hk : P.underlying kt = some (.int .i64)) (b : Nat) (l : List (Int × Value)) (hm : a.eval m = .map (some b)) (hl : MapIs w b l) (key : Int) (val : Value) (hx : a.eval x = .int .i64 key) (hv : a.eval v = val) (hn : ∀ p ∈ l, p.1 ≠ key)
    (hK : ∀ w', MapIs w' b (l ++ [(key, val)]) → w.grownBy w' (some b) → wpList P ops Q rest (a.put o.dst undef) w') :
    wpList P ops Q (o :: rest) a w := by
  refine wpList_plain hg fun K' hK' => ?_
  obtain ⟨w', hrun, r1, r2⟩ := hl.insert ht hk key val hn
  unfold Oper.wp
  simp [execOp, hop, hm, hx, hv, hrun, Result.andThen]
  exact hK' _ _ (hK w' r1 r2)
end Go.Proofs.YtglbdbghcdoicaaGreatDoor
