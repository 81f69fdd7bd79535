/- The law's own Lend: cells, rows apart, with marks behind. -/
import Derived.Test.YtglbdbghcdoicaaDoorCFrs
import Derived.Test.YtglbdbghcdoicaaDoorWLB
import Derived.Test.YtglbdbghcdoicaaDoorCPls
namespace Go.Proofs.YtglbdbghcdoicaaDoor
open Go.RowKit

section
variable {P : Program} {w : World}
theorem run_copy_structs (dT sT ty elem : TypeId) (i : TypeInfo) (size g dLen dCap : Nat) (a : Addr) (sLen sCap : Nat) (cur : Array Value) (t : TypeId) (cs : List Value)
    (hu : P.underlying dT = some (.slice elem)) (hi : P.info? elem = some i) (hs : i.size = size)
    (hg : w.heap[g]? = some (.cells cur t (0, 0))) (hle : sLen ≤ dLen) (hn : cs.length = sLen * size)
    (hsrc : ∀ j v, cs[j]? = some v → w.cell? (a.add j) = some v) (hfit : cs.length ≤ cur.size) (h1 : ∀ v ∈ cs, v.oneCell' = true) :
    (Builtin.copy_ #[dT, sT] ty #[.slice (some ⟨g, 0, none⟩) dLen dCap, .slice (some a) sLen sCap]).run P w =
      .ok (goInt sLen) (w.setRow g (cs ++ cur.toList.drop cs.length).toArray) := by
  have hl := run_loadCells_list (P := P) w a cs hsrc
  have hst := run_storeCells_at P g 0 t cs 0 cur w hg (by simpa using hfit) h1
  have hm : Nat.min sLen dLen = sLen := Nat.min_eq_left hle
  simp only [Nat.add_zero, Nat.zero_add, List.take_zero, List.nil_append] at hst
  rw [hn] at hl
  simp [Builtin.copy_, run_underlying hu, Builtin.lenOf, Builtin.firstCells, sizeOf, typeInfo, hi, hs, hm, hl, hst]
theorem run_copy_structs_none (dT sT ty elem : TypeId) (i : TypeInfo) (g dLen dCap sCap : Nat) (A : Option Addr) (hu : P.underlying dT = some (.slice elem)) (hi : P.info? elem = some i) :
    (Builtin.copy_ #[dT, sT] ty #[.slice (some ⟨g, 0, none⟩) dLen dCap, .slice A 0 sCap]).run P w = .ok (goInt 0) w := by
  have hl : ∀ (x : Addr), (loadCells x 0).run P w = .ok #[] w := fun x => by simpa using run_loadCells_list (P := P) w x [] (by simp)
  cases A <;> simp [Builtin.copy_, run_underlying hu, Builtin.lenOf, Builtin.firstCells, sizeOf, typeInfo, hi, storeCells, hl]
theorem wpList_copy_structs {ops : Array Oper} {rest : List Oper} {o : Oper} {a : Act} {Q : Exit → Act → World → Prop} (hgd : o.guard = none) (d s : Operand) (dT : TypeId)
    (ho : o.op = .call { callee := .builtin .copy, args := #[d, s], argTypes := #[dT, dT] }) (elem : TypeId) (i : TypeInfo) (size : Nat) (hu : P.underlying dT = some (.slice elem)) (hi : P.info? elem = some i) (hs : i.size = size)
    (g dLen dCap sLen sCap : Nat) (A : Option Addr) (hd : a.eval d = .slice (some ⟨g, 0, none⟩) dLen dCap) (hss : a.eval s = .slice A sLen sCap)
    (cur : Array Value) (t : TypeId) (hg : Blk w g t cur) (cs : List Value) (hle : sLen ≤ dLen) (hn : cs.length = sLen * size)
    (hsrc : ∀ j v, cs[j]? = some v → ∃ ad, A = some ad ∧ w.cell? (ad.add j) = some v) (hfit : cs.length ≤ cur.size) (h1 : ∀ v ∈ cs, v.oneCell' = true) (hsz : 0 < size)
    (h : ∀ w', Blk w' g t (cs ++ cur.toList.drop cs.length).toArray → Tur (· = g) w w' → wpList P ops Q rest (a.put o.dst (goInt sLen)) w') :
    wpList P ops Q (o :: rest) a w := by
  refine wpList_plain hgd fun K hK => ?_
  unfold Oper.wp
  by_cases h0 : cs = []
  · subst h0
    have hs0 : sLen = 0 := by
      rcases Nat.mul_eq_zero.1 hn.symm with h | h
      · exact h
      · omega
    subst hs0
    have hrun := run_copy_structs_none (P := P) (w := w) dT dT o.type elem i g dLen dCap sCap A hu hi
    simp [execOp, ho, resolve, invoke, builtin, hd, hss, hrun, Result.andThen]
    exact hK _ _ (h w (by simpa using hg) (Tur.refl _ _))
  · have hpos : 0 < cs.length := List.length_pos_iff.2 h0
    obtain ⟨ad, rfl, _⟩ := hsrc 0 _ (List.getElem?_eq_getElem hpos)
    have hrun := run_copy_structs (P := P) (w := w) dT dT o.type elem i size g dLen dCap ad sLen sCap cur t cs hu hi hs hg hle hn (fun j v hj => by
      obtain ⟨ad', e, hc⟩ := hsrc j v hj
      cases e
      exact hc) hfit h1
    simp [execOp, ho, resolve, invoke, builtin, hd, hss, hrun, Result.andThen]
    refine hK _ _ (h _ (setRow_heap w g cur _ t _ hg) ⟨rfl, rfl, rfl, by simp [World.setRow], fun k hk hne => setRow_other w g k _ hne⟩)
theorem wpList_make_structs {ops : Array Oper} {rest : List Oper} {o : Oper} {a : Act} {Q : Exit → Act → World → Prop} (hgd : o.guard = none) (l c : Operand) (t : TypeId) (hop : o.op = Op.makeSlice t l c)
    (e : TypeId) (i : TypeInfo) (z : Value) (size bytes : Nat) (ht : P.underlying t = some (.slice e)) (hi : P.info? e = some i) (hz : i.zero = some z) (hsize : i.size = size) (hby : i.bytes = bytes)
    (n : Nat) (hl : a.eval l = .int .i64 (n : Int)) (hc : a.eval c = .int .i64 (n : Int)) (hn : bytes * n ≤ 281474976710656) (h63 : n ≤ 9223372036854775807)
    (hK : ∀ cur : Array Value, cur.size = n * size → wpList P ops Q rest (a.put o.dst (.slice (some ⟨w.heap.size, 0, none⟩) n n)) (w.alloc (.cells cur e))) :
    wpList P ops Q (o :: rest) a w := by
  refine wpList_plain hgd fun K hK' => ?_
  have hb : ((bytes * n : Nat) : Int) ≤ 281474976710656 := by omega
  rw [Int.natCast_mul] at hb
  have hrun := run_make (P := P) w t e i z ht hi hz .i64 .i64 (n : Int) (n : Int) (by omega) (by omega) (by rw [hby]; exact hb) (by omega)
  rw [hsize] at hrun
  simp only [Int.toNat_natCast] at hrun
  unfold Oper.wp
  simp [execOp, hop, hl, hc, hrun, Result.andThen]
  exact hK' _ _ (hK _ (size_madeCells _ _))
end
abbrev markC : CellV := ⟨-9, ⟨#[109, 97, 114, 107]⟩, 9⟩
set_option maxRecDepth 100000 in
theorem mark_any (W : World) : Calls Tryd.prog 33 #[] W fun e w' => e = .returned (cellV markC) ∧ Below W.heap.size W w' := by
  go_enter Tryd.func33, Tryd.ntmps33
  go_wp2
  exact bodyPost_ret (v := cellV markC) (by simp [results, Tryd.results33, go_sem]) rfl ⟨rfl, (Below.refl W.heap.size W).alloc (Nat.le_refl _) _⟩
theorem cellCs_len : ∀ cs : List CellV, (cellCs cs).length = cs.length * 3
  | [] => rfl
  | c :: cs => by
    have h := cellCs_len cs
    have hl : c.cells.length = 3 := rfl
    simp only [cellCs, List.flatMap_cons, List.length_append, hl, List.length_cons] at h ⊢
    omega
theorem cellCs_one (cs : List CellV) : ∀ u ∈ cellCs cs, u.oneCell' = true := fun u hu => by
  obtain ⟨c, _, hu⟩ := List.mem_flatMap.1 hu
  simp only [CellV.cells, List.mem_cons, List.not_mem_nil, or_false] at hu
  rcases hu with rfl | rfl | rfl <;> rfl
theorem cellCs_get : ∀ (cs : List CellV) (j : Nat) (v : Value), (cellCs cs)[j]? = some v → ∃ h : j / 3 < cs.length, (cs[j / 3].cells)[j % 3]? = some v
  | [], j, v, h => by simp [cellCs] at h
  | c :: cs, j, v, h => by
    have hl : c.cells.length = 3 := rfl
    simp only [cellCs, List.flatMap_cons] at h
    by_cases hj : j < 3
    · rw [List.getElem?_append_left (by omega)] at h
      have e0 : j / 3 = 0 := by omega
      have e1 : j % 3 = j := by omega
      refine ⟨by rw [e0]; simp, ?_⟩
      simp only [e0, e1, List.getElem_cons_zero]
      exact h
    · rw [List.getElem?_append_right (by omega), hl] at h
      obtain ⟨h1, h2⟩ := cellCs_get cs (j - 3) v h
      have e0 : j / 3 = (j - 3) / 3 + 1 := by omega
      have e1 : j % 3 = (j - 3) % 3 := by omega
      refine ⟨by rw [e0]; simpa using h1, ?_⟩
      simp only [e0, e1, List.getElem_cons_succ]
      exact h2
theorem CellsRd.src {W : World} {A : Option Addr} {cs : List CellV} (h : CellsRd W A cs) : ∀ j v, (cellCs cs)[j]? = some v → ∃ ad, A = some ad ∧ W.cell? (ad.add j) = some v := fun j v hj => by
  obtain ⟨h1, h2⟩ := cellCs_get cs j v hj
  obtain ⟨ad, e, _, hc⟩ := h (j / 3) h1
  refine ⟨ad, e, ?_⟩
  have := hc (j % 3) v h2
  rwa [show j / 3 * 3 + j % 3 = j by omega] at this
/-- Three cells written from o on. -/
def put3 (cur : Array Value) (o : Nat) (a b c : Value) : Array Value := ((cur.setIfInBounds o a).setIfInBounds (o + 1) b).setIfInBounds (o + 2) c
theorem put3_size (cur : Array Value) (o : Nat) (a b c : Value) : (put3 cur o a b c).size = cur.size := by simp [put3]
theorem put3_other (cur : Array Value) (o : Nat) (a b c : Value) (x : Nat) (hx : x < o ∨ o + 2 < x) : (put3 cur o a b c)[x]? = cur[x]? := by
  unfold put3
  rw [Array.getElem?_setIfInBounds_ne (by omega), Array.getElem?_setIfInBounds_ne (by omega), Array.getElem?_setIfInBounds_ne (by omega)]
theorem put3_at (cur : Array Value) (o : Nat) (a b c : Value) (h : o + 2 < cur.size) : (put3 cur o a b c)[o]? = some a ∧ (put3 cur o a b c)[o + 1]? = some b ∧ (put3 cur o a b c)[o + 2]? = some c := by
  unfold put3
  refine ⟨?_, ?_, ?_⟩
  · rw [Array.getElem?_setIfInBounds_ne (by omega), Array.getElem?_setIfInBounds_ne (by omega), Array.getElem?_setIfInBounds_self_of_lt (by omega)]
  · rw [Array.getElem?_setIfInBounds_ne (by omega), Array.getElem?_setIfInBounds_self_of_lt (by simp; omega)]
  · rw [Array.getElem?_setIfInBounds_self_of_lt (by simp; omega)]
theorem put3_take (cur : Array Value) (o m : Nat) (a b c : Value) (hm : m ≤ o) : (put3 cur o a b c).toList.take m = cur.toList.take m := by
  unfold put3
  simp only [Array.toList_setIfInBounds]
  rw [List.take_set_of_le (by omega), List.take_set_of_le (by omega), List.take_set_of_le hm]
theorem blk_put3 {W : World} {g : Nat} {t : TypeId} {cur : Array Value} (h : Blk W g t cur) (o : Nat) (a b c : Value) : Blk (((W.setCell ⟨g, o, none⟩ a).setCell ⟨g, o + 1, none⟩ b).setCell ⟨g, o + 2, none⟩ c) g t (put3 cur o a b c) :=
  ((h.set_ o a).set_ (o + 1) b).set_ (o + 2) c
theorem tur_put3 (W : World) (g o : Nat) (a b c : Value) : Tur (· = g) W (((W.setCell ⟨g, o, none⟩ a).setCell ⟨g, o + 1, none⟩ b).setCell ⟨g, o + 2, none⟩ c) := by
  have h1 : Tur (· = g) W (W.setCell ⟨g, o, none⟩ a) := (Tur.refl (· = g) W).setCell (p := ⟨g, o, none⟩) (.inl rfl) a
  have h2 := h1.setCell (p := ⟨g, o + 1, none⟩) (.inl rfl) b
  exact h2.setCell (p := ⟨g, o + 2, none⟩) (.inl rfl) c
theorem cellIn {W : World} {g sz : Nat} {t : TypeId} {cur : Array Value} (h : Blk W g t cur) (hs : cur.size = sz) (o : Nat) (ho : o < sz) : ∃ u, W.cell? ⟨g, o, none⟩ = some u :=
  ⟨cur[o]'(by omega), by rw [h.cell o, Array.getElem?_eq_getElem (by omega)]⟩
theorem mark_at {cur : Array Value} {S k i j : Nat} (hS : 3 ≤ S) (hk : k * S + 2 < cur.size) (hin : i < k → ∀ j < 3, cur[i * S + j]? = (markC.cells)[j]?) (hi : i < k + 1) (hj : j < 3) : (put3 cur (k * S) (.int .i64 (-9)) (.string ⟨#[109, 97, 114, 107]⟩) (.int .i64 9))[i * S + j]? = (markC.cells)[j]? := by
  by_cases hik : i < k
  · have h1 : i * S + S ≤ k * S := by
      have := Nat.mul_le_mul_right S (show i + 1 ≤ k by omega)
      rwa [Nat.succ_mul] at this
    rw [put3_other _ _ _ _ _ _ (by omega)]
    exact hin hik j hj
  · obtain rfl : i = k := by omega
    obtain ⟨h0, h1, h2⟩ := put3_at cur (i * S) (.int .i64 (-9)) (.string ⟨#[109, 97, 114, 107]⟩) (.int .i64 9) hk
    obtain rfl | rfl | rfl : j = 0 ∨ j = 1 ∨ j = 2 := by omega
    · exact h0
    · exact h1
    · exact h2
/-- Cells, rows lent: they stand in a block of their own, marks behind them. -/
structure Lent (W : World) (g : Nat) (cur : Array Value) (cs : List CellV) : Prop where
  blk : Blk W g 61 cur
  size : cur.size = (cs.length + 3) * 3
  take : cur.toList.take (cs.length * 3) = cellCs cs
  marks : ∀ i, cs.length ≤ i → i < cs.length + 3 → ∀ j < 3, cur[i * 3 + j]? = (markC.cells)[j]?
structure LentR (W : World) (g : Nat) (cur : Array Value) (rs : List RowV) : Prop where
  blk : Blk W g 87 cur
  size : cur.size = (rs.length + 3) * 7
  take : cur.toList.take (rs.length * 7) = rowCs rs
  marks : ∀ i, rs.length ≤ i → i < rs.length + 3 → ∀ j < 3, cur[i * 7 + j]? = (markC.cells)[j]?
theorem take_at {cur : Array Value} {m : Nat} {l : List Value} (h : cur.toList.take m = l) {j : Nat} {u : Value} (hu : l[j]? = some u) : cur[j]? = some u := by
  subst h
  rw [List.getElem?_take] at hu
  split at hu
  · rwa [Array.getElem?_toList] at hu
  · cases hu
theorem Lent.rd {W : World} {g : Nat} {cur : Array Value} {cs : List CellV} (h : Lent W g cur cs) : CellsRd W (some ⟨g, 0, none⟩) cs := fun k hk => ⟨_, rfl, h.blk.lt, fun j u hu => by
  rw [show (⟨g, 0, none⟩ : Addr).add (k * 3 + j) = ⟨g, k * 3 + j, none⟩ by cases (k * 3 + j) <;> simp [Addr.add]]
  rw [h.blk.cell]
  exact take_at h.take (cellCs_at cs k hk j u hu)⟩
theorem LentR.rd {W : World} {g : Nat} {cur : Array Value} {rs : List RowV} (h : LentR W g cur rs) : RowsRd W (some ⟨g, 0, none⟩) rs := fun k hk => ⟨_, rfl, h.blk.lt, fun j u hu => by
  rw [show (⟨g, 0, none⟩ : Addr).add (k * 7 + j) = ⟨g, k * 7 + j, none⟩ by cases (k * 7 + j) <;> simp [Addr.add]]
  rw [h.blk.cell]
  exact take_at h.take (rowCs_at rs k hk j u hu)⟩
theorem Lent.kept {W W' : World} {g : Nat} {cur : Array Value} {cs : List CellV} (h : Lent W g cur cs) (hb : Below W.heap.size W W') : Lent W' g cur cs := ⟨h.blk.kept hb, h.size, h.take, h.marks⟩
theorem LentR.kept {W W' : World} {g : Nat} {cur : Array Value} {rs : List RowV} (h : LentR W g cur rs) (hb : Below W.heap.size W W') : LentR W' g cur rs := ⟨h.blk.kept hb, h.size, h.take, h.marks⟩

end Go.Proofs.YtglbdbghcdoicaaDoor
