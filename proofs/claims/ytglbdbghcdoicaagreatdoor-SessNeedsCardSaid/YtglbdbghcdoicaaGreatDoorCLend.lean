/- The law's own Lend: cells, rows apart, with marks behind. -/
import Derived.Test.YtglbdbghcdoicaaGreatDoorCFrs
import Derived.Test.YtglbdbghcdoicaaGreatDoorWLB
import Derived.Test.YtglbdbghcdoicaaGreatDoorCPls
namespace Go.Proofs.YtglbdbghcdoicaaGreatDoor
open Go.RowKit

section
variable {P : Program} {w : World}
theorem run_copy_structs (dT sT ty elem : TypeId) (i : TypeInfo) (size g dLen dCap : Nat) (a : Addr) (sLen sCap : Nat) (cur : Array Value) (t : TypeId) (cs : List Value)
    (hu : P.underlying dT = some (.slice elem)) (hi : P.info? elem = some i) (hs : i.size = size)
    (hg : w.heap[g]? = some (.cells cur t (0, 0))) (hle : sLen ≤ dLen) (hn : cs.length = sLen * size)
    (hsrc : ∀ j v, cs[j]? = some v → w.cell? (a.add j) = some v) (hfit : cs.length ≤ cur.size) (h1 : ∀ v ∈ cs, v.oneCell' = true) :
    (Builtin.copy_ #[dT, sT] ty #[.slice (some ⟨g, 0, none⟩) dLen dCap, .slice (some a) sLen sCap]).run P w =
      .ok (goInt sLen) (w.setRow g (cs ++ cur.toList.drop cs.length).toArray) := by
  have hl := run_loadCells_list (P := P) w a cs hsrc
  have hst := run_storeCells_at P g 0 t cs 0 cur w hg (by simpa using hfit) h1
  have hm : Nat.min sLen dLen = sLen := Nat.min_eq_left hle
  simp only [Nat.add_zero, Nat.zero_add, List.take_zero, List.nil_append] at hst
  rw [hn] at hl
  simp [Builtin.copy_, run_underlying hu, Builtin.lenOf, Builtin.firstCells, sizeOf, typeInfo, hi, hs, hm, hl, hst]
theorem run_copy_structs_none (dT sT ty elem : TypeId) (i : TypeInfo) (g dLen dCap sCap : Nat) (A : Option Addr) (hu : P.underlying dT = some (.slice elem)) (hi : P.info? elem = some i) :
    (Builtin.copy_ #[dT, sT] ty #[.slice (some ⟨g, 0, none⟩) dLen dCap, .slice A 0 sCap]).run P w = .ok (goInt 0) w := by
  have hl : ∀ (x : Addr), (loadCells x 0).run P w = .ok #[] w := fun x => by simpa using run_loadCells_list (P := P) w x [] (by simp)
  cases A <;> simp [Builtin.copy_, run_underlying hu, Builtin.lenOf, Builtin.firstCells, sizeOf, typeInfo, hi, storeCells, hl]
theorem wpList_copy_structs {ops : Array Oper} {rest : List Oper} {o : Oper} {a : Act} {Q : Exit → Act → World → Prop} (hgd : o.guard = none) (d s : Operand) (dT : TypeId)
    (ho : o.op = .call { callee := .builtin .copy, args := #[d, s], argTypes := #[dT, dT] }) (elem : TypeId) (i : TypeInfo) (size : Nat) (hu : P.underlying dT = some (.slice elem)) (hi : P.info? elem = some i) (hs : i.size = size)
    (g dLen dCap sLen sCap : Nat) (A : Option Addr) (hd : a.eval d = .slice (some ⟨g, 0, none⟩) dLen dCap) (hss : a.eval s = .slice A sLen sCap)
    (cur : Array Value) (t : TypeId) (hg : Blk w g t cur) (cs : List Value) (hle : sLen ≤ dLen) (hn : cs.length = sLen * size)
    (hsrc : ∀ j v, cs[j]? = some v → ∃ ad, A = some ad ∧ w.cell? (ad.add j) = some v) (hfit : cs.length ≤ cur.size) (h1 : ∀ v ∈ cs, v.oneCell' = true) (hsz : 0 < size)
    (h : ∀ w', Blk w' g t (cs ++ cur.toList.drop cs.length).toArray → Tur (· = g) w w' → wpList P ops Q rest (a.put o.dst (goInt sLen)) w') :
    wpList P ops Q (o :: rest) a w := by
  refine wpList_plain hgd fun K hK => ?_
  unfold Oper.wp
  by_cases h0 : cs = []
  · subst h0
    have hs0 : sLen = 0 := by
      rcases Nat.mul_eq_zero.1 hn.symm with h | h
      · exact h
      · omega
    subst hs0
    have hrun := run_copy_structs_none (P := P) (w := w) dT dT o.type elem i g dLen dCap sCap A hu hi
    simp [execOp, ho, resolve, invoke, builtin, hd, hss, hrun, Result.andThen]
    exact hK _ _ (h w (by simpa using hg) (Tur.refl _ _))
  · have hpos : 0 < cs.length := List.length_pos_iff.2 h0
    obtain ⟨ad, rfl, _⟩ := hsrc 0 _ (List.getElem?_eq_getElem hpos)
    have hrun := run_copy_structs (P := P) (w := w) dT dT o.type elem i size g dLen dCap ad sLen sCap cur t cs hu hi hs hg hle hn (fun j v hj => by
      obtain ⟨ad', e, hc⟩ := hsrc j v hj
      cases e
      exact hc) hfit h1
    simp [execOp, ho, resolve, invoke, builtin, hd, hss, hrun, Result.andThen]
    refine hK _ _ (h _ (setRow_heap w g cur _ t _ hg) ⟨rfl, rfl, rfl, by simp [World.setRow], fun k hk hne => setRow_other w g k _ hne⟩)
theorem wpList_make_structs {ops : Array Oper} {rest : List Oper} {o : Oper} {a : Act} {Q : Exit → Act → World → Prop} (hgd : o.guard = none) (l c : Operand) (t : TypeId) (hop : o.op = Op.makeSlice t l c)
    (e : TypeId) (i : TypeInfo) (z : Value) (size bytes : Nat) (ht : P.underlying t = some (.slice e)) (hi : P.info? e = some i) (hz : i.zero = some z) (hsize : i.size = size) (hby : i.bytes = bytes)
    (n : Nat) (hl : a.eval l = .int .i64 (n : Int)) (hc : a.eval c = .int .i64 (n : Int)) (hn : bytes * n ≤ 281474976710656) (h63 : n ≤ 9223372036854775807)
    (hK : ∀ cur : Array Value, cur.size = n * size → wpList P ops Q rest (a.put o.dst (.slice (some ⟨w.heap.size, 0, none⟩) n n)) (w.alloc (.cells cur e))) :
    wpList P ops Q (o :: rest) a w := by
  refine wpList_plain hgd fun K hK' => ?_
  have hb : ((bytes * n : Nat) : Int) ≤ 281474976710656 := by omega
  rw [Int.natCast_mul] at hb
  have hrun := run_make (P := P) w t e i z ht hi hz .i64 .i64 (n : Int) (n : Int) (by omega) (by omega) (by rw [hby]; exact hb) (by omega)
  rw [hsize] at hrun
  simp only [Int.toNat_natCast] at hrun
  unfold Oper.wp
  simp [execOp, hop, hl, hc, hrun, Result.andThen]
  exact hK' _ _ (hK _ (size_madeCells _ _))
end
abbrev markC : CellV := ⟨-9, ⟨#[109, 97, 114, 107]⟩, 9⟩
set_option maxRecDepth 100000 in
theorem mark_any (W : World) : Calls Tryz.prog 48 #[] W fun e w' => e = .returned (cellV markC) ∧ Below W.heap.size W w' := by
  go_enter Tryz.func48, Tryz.ntmps48
  go_wp2
  exact bodyPost_ret (v := cellV markC) (by simp [results, Tryz.results48, go_sem]) rfl ⟨rfl, (Below.refl W.heap.size W).alloc (Nat.le_refl _) _⟩
theorem cellCs_len : ∀ cs : List CellV, (cellCs cs).length = cs.length * 3
  | [] => rfl
  | c :: cs => by
    have h := cellCs_len cs
    have hl : c.cells.length = 3 := rfl
    simp only [cellCs, List.flatMap_cons, List.length_append, hl, List.length_cons] at h ⊢
    omega
theorem cellCs_one (cs : List CellV) : ∀ u ∈ cellCs cs, u.oneCell' = true := fun u hu => by
  obtain ⟨c, _, hu⟩ := List.mem_flatMap.1 hu
  simp only [CellV.cells, List.mem_cons, List.not_mem_nil, or_false] at hu
  rcases hu with rfl | rfl | rfl <;> rfl
theorem cellCs_get : ∀ (cs : List CellV) (j : Nat) (v : Value), (cellCs cs)[j]? = some v → ∃ h : j / 3 < cs.length, (cs[j / 3].cells)[j % 3]? = some v
  | [], j, v, h => by simp [cellCs] at h
  | c :: cs, j, v, h => by
    have hl : c.cells.length = 3 := rfl
    simp only [cellCs, List.flatMap_cons] at h
    by_cases hj : j < 3
    · rw [List.getElem?_append_left (by omega)] at h
      have e0 : j / 3 = 0 := by omega
      have e1 : j % 3 = j := by omega
      refine ⟨by rw [e0]; simp, ?_⟩
      simp only [e0, e1, List.getElem_cons_zero]
      exact h
    · rw [List.getElem?_append_right (by omega), hl] at h
      obtain ⟨h1, h2⟩ := cellCs_get cs (j - 3) v h
      have e0 : j / 3 = (j - 3) / 3 + 1 := by omega
      have e1 : j % 3 = (j - 3) % 3 := by omega
      refine ⟨by rw [e0]; simpa using h1, ?_⟩
      simp only [e0, e1, List.getElem_cons_succ]
      exact h2
theorem CellsRd.src {W : World} {A : Option Addr} {cs : List CellV} (h : CellsRd W A cs) : ∀ j v, (cellCs cs)[j]? = some v → ∃ ad, A = some ad ∧ W.cell? (ad.add j) = some v := fun j v hj => by
  obtain ⟨h1, h2⟩ := cellCs_get cs j v hj
  obtain ⟨ad, e, _, hc⟩ := h (j / 3) h1
  refine ⟨ad, e, ?_⟩
  have := hc (j % 3) v h2
  rwa [show j / 3 * 3 + j % 3 = j by omega] at this
set_option maxHeartbeats 4000000 in
set_option maxRecDepth 100000 in
theorem samecells_true (A B : Option Addr) (n c d : Nat) (cs : List CellV) (W : World) (hl : cs.length = n) (ha : CellsRd W A cs) (hb : CellsRd W B cs) (hn : n ≤ 9223372036854775807) :
    Calls Tryz.prog 47 #[.slice A n c, .slice B n d] W fun e w' => e = .returned (.bool true) ∧ Below W.heap.size W w' := by
  have HA := Lib.hid ha
  have HBR := Lib.hid hb
  have HLA := Lib.hid hl
  clear hl ha hb
  go_enter Tryz.func47, Tryz.ntmps47
  go_wp2
  go_loopw [5] (fun t5 wz => ∃ j : Nat, t5 = .int .i64 (j : Int) ∧ j ≤ n ∧ Hid (Below W.heap.size W wz)) (fun t5 _ => n - (intOf t5).toNat)
  case atStart => exact ⟨0, rfl, Nat.zero_le _, Lib.hid (Below.refl _ _)⟩
  case round =>
    obtain ⟨j, rfl, hj, HP⟩ := hrel
    rename World => wz
    by_cases hjn : j < n
    · have hkx : j < cs.length := by rw [HLA.out]; exact hjn
      obtain ⟨ad, rfl, a0, a1, a2⟩ := HA.out.at HP.out j hkx
      obtain ⟨bd, rfl, b0, b1, b2⟩ := HBR.out.at HP.out j hkx
      have e0 := neqCell cs[j] cs[j]
      rw [decide_eq_true rfl] at e0
      generalize cs[j] = x at *
      have e1 : ∀ w : World, (binOp .neq 41 (.agg #[.int .i64 x.view, .string x.key, .int .i64 x.start]) (.agg #[.int .i64 x.view, .string x.key, .int .i64 x.start])).run Tryz.prog w = .ok (.bool false) w := e0
      clear e0
      go_wp2
      go_quiet (fail)
      have HB2 := Lib.hid (HP.out.trans (below_drewN (Below.refl wz.heap.size wz) nq |>.mono HP.out.size))
      generalize wz.drewN nq = w2 at HB2 ⊢
      go_wp2
      go_roundw
      case rel => exact ⟨j + 1, by go_num, by omega, Lib.hid HB2.out⟩
      case measure => simp [intOf]; omega
    · go_wp2
      go_ret
      exact ⟨rfl, HP.out⟩

/-- Three cells written from o on. -/
def put3 (cur : Array Value) (o : Nat) (a b c : Value) : Array Value := ((cur.setIfInBounds o a).setIfInBounds (o + 1) b).setIfInBounds (o + 2) c
theorem put3_size (cur : Array Value) (o : Nat) (a b c : Value) : (put3 cur o a b c).size = cur.size := by simp [put3]
theorem put3_other (cur : Array Value) (o : Nat) (a b c : Value) (x : Nat) (hx : x < o ∨ o + 2 < x) : (put3 cur o a b c)[x]? = cur[x]? := by
  unfold put3
  rw [Array.getElem?_setIfInBounds_ne (by omega), Array.getElem?_setIfInBounds_ne (by omega), Array.getElem?_setIfInBounds_ne (by omega)]
theorem put3_at (cur : Array Value) (o : Nat) (a b c : Value) (h : o + 2 < cur.size) : (put3 cur o a b c)[o]? = some a ∧ (put3 cur o a b c)[o + 1]? = some b ∧ (put3 cur o a b c)[o + 2]? = some c := by
  unfold put3
  refine ⟨?_, ?_, ?_⟩
  · rw [Array.getElem?_setIfInBounds_ne (by omega), Array.getElem?_setIfInBounds_ne (by omega), Array.getElem?_setIfInBounds_self_of_lt (by omega)]
  · rw [Array.getElem?_setIfInBounds_ne (by omega), Array.getElem?_setIfInBounds_self_of_lt (by simp; omega)]
  · rw [Array.getElem?_setIfInBounds_self_of_lt (by simp; omega)]
theorem put3_take (cur : Array Value) (o m : Nat) (a b c : Value) (hm : m ≤ o) : (put3 cur o a b c).toList.take m = cur.toList.take m := by
  unfold put3
  simp only [Array.toList_setIfInBounds]
  rw [List.take_set_of_le (by omega), List.take_set_of_le (by omega), List.take_set_of_le hm]
theorem blk_put3 {W : World} {g : Nat} {t : TypeId} {cur : Array Value} (h : Blk W g t cur) (o : Nat) (a b c : Value) : Blk (((W.setCell ⟨g, o, none⟩ a).setCell ⟨g, o + 1, none⟩ b).setCell ⟨g, o + 2, none⟩ c) g t (put3 cur o a b c) :=
  ((h.set_ o a).set_ (o + 1) b).set_ (o + 2) c
theorem tur_put3 (W : World) (g o : Nat) (a b c : Value) : Tur (· = g) W (((W.setCell ⟨g, o, none⟩ a).setCell ⟨g, o + 1, none⟩ b).setCell ⟨g, o + 2, none⟩ c) := by
  have h1 : Tur (· = g) W (W.setCell ⟨g, o, none⟩ a) := (Tur.refl (· = g) W).setCell (p := ⟨g, o, none⟩) (.inl rfl) a
  have h2 := h1.setCell (p := ⟨g, o + 1, none⟩) (.inl rfl) b
  exact h2.setCell (p := ⟨g, o + 2, none⟩) (.inl rfl) c
theorem cellIn {W : World} {g sz : Nat} {t : TypeId} {cur : Array Value} (h : Blk W g t cur) (hs : cur.size = sz) (o : Nat) (ho : o < sz) : ∃ u, W.cell? ⟨g, o, none⟩ = some u :=
  ⟨cur[o]'(by omega), by rw [h.cell o, Array.getElem?_eq_getElem (by omega)]⟩
theorem mark_at {cur : Array Value} {S k i j : Nat} (hS : 3 ≤ S) (hk : k * S + 2 < cur.size) (hin : i < k → ∀ j < 3, cur[i * S + j]? = (markC.cells)[j]?) (hi : i < k + 1) (hj : j < 3) : (put3 cur (k * S) (.int .i64 (-9)) (.string ⟨#[109, 97, 114, 107]⟩) (.int .i64 9))[i * S + j]? = (markC.cells)[j]? := by
  by_cases hik : i < k
  · have h1 : i * S + S ≤ k * S := by
      have := Nat.mul_le_mul_right S (show i + 1 ≤ k by omega)
      rwa [Nat.succ_mul] at this
    rw [put3_other _ _ _ _ _ _ (by omega)]
    exact hin hik j hj
  · obtain rfl : i = k := by omega
    obtain ⟨h0, h1, h2⟩ := put3_at cur (i * S) (.int .i64 (-9)) (.string ⟨#[109, 97, 114, 107]⟩) (.int .i64 9) hk
    obtain rfl | rfl | rfl : j = 0 ∨ j = 1 ∨ j = 2 := by omega
    · exact h0
    · exact h1
    · exact h2
/-- Cells, rows lent: they stand in a block of their own, marks behind them. -/
structure Lent (W : World) (g : Nat) (cur : Array Value) (cs : List CellV) : Prop where
  blk : Blk W g 41 cur
  size : cur.size = (cs.length + 3) * 3
  take : cur.toList.take (cs.length * 3) = cellCs cs
  marks : ∀ i, cs.length ≤ i → i < cs.length + 3 → ∀ j < 3, cur[i * 3 + j]? = (markC.cells)[j]?
structure LentR (W : World) (g : Nat) (cur : Array Value) (rs : List RowV) : Prop where
  blk : Blk W g 123 cur
  size : cur.size = (rs.length + 3) * 7
  take : cur.toList.take (rs.length * 7) = rowCs rs
  marks : ∀ i, rs.length ≤ i → i < rs.length + 3 → ∀ j < 3, cur[i * 7 + j]? = (markC.cells)[j]?
theorem take_at {cur : Array Value} {m : Nat} {l : List Value} (h : cur.toList.take m = l) {j : Nat} {u : Value} (hu : l[j]? = some u) : cur[j]? = some u := by
  subst h
  rw [List.getElem?_take] at hu
  split at hu
  · rwa [Array.getElem?_toList] at hu
  · cases hu
theorem Lent.rd {W : World} {g : Nat} {cur : Array Value} {cs : List CellV} (h : Lent W g cur cs) : CellsRd W (some ⟨g, 0, none⟩) cs := fun k hk => ⟨_, rfl, h.blk.lt, fun j u hu => by
  rw [show (⟨g, 0, none⟩ : Addr).add (k * 3 + j) = ⟨g, k * 3 + j, none⟩ by cases (k * 3 + j) <;> simp [Addr.add]]
  rw [h.blk.cell]
  exact take_at h.take (cellCs_at cs k hk j u hu)⟩
theorem LentR.rd {W : World} {g : Nat} {cur : Array Value} {rs : List RowV} (h : LentR W g cur rs) : RowsRd W (some ⟨g, 0, none⟩) rs := fun k hk => ⟨_, rfl, h.blk.lt, fun j u hu => by
  rw [show (⟨g, 0, none⟩ : Addr).add (k * 7 + j) = ⟨g, k * 7 + j, none⟩ by cases (k * 7 + j) <;> simp [Addr.add]]
  rw [h.blk.cell]
  exact take_at h.take (rowCs_at rs k hk j u hu)⟩
theorem Lent.kept {W W' : World} {g : Nat} {cur : Array Value} {cs : List CellV} (h : Lent W g cur cs) (hb : Below W.heap.size W W') : Lent W' g cur cs := ⟨h.blk.kept hb, h.size, h.take, h.marks⟩
theorem LentR.kept {W W' : World} {g : Nat} {cur : Array Value} {rs : List RowV} (h : LentR W g cur rs) (hb : Below W.heap.size W W') : LentR W' g cur rs := ⟨h.blk.kept hb, h.size, h.take, h.marks⟩

set_option maxHeartbeats 4000000 in
set_option maxRecDepth 100000 in
theorem lend_cells (A : Option Addr) (n c : Nat) (cs : List CellV) (W : World) (hl : cs.length = n) (h : CellsRd W A cs) (hn : n ≤ 1048576) :
    Calls Tryz.prog 43 #[.slice A n c] W fun e w' => ∃ g cur, e = .returned (.slice (some ⟨g, 0, none⟩) n (n + 3)) ∧ W.heap.size ≤ g ∧ Lent w' g cur cs ∧ Below W.heap.size W w' := by
  have H := Lib.hid h
  have HL := Lib.hid hl
  have HN := Lib.hid hn
  have hn9 : (n : Int) ≤ 1048576 := by omega
  obtain ⟨ic, zc, hic, hzc, hz1, hz2, hz3⟩ := info_cell
  have HIC := Lib.hid hic
  have HZC := Lib.hid hzc
  have HZ1 := Lib.hid hz1
  have HZ2 := Lib.hid hz2
  clear h hl hn hic hzc hz1 hz2 hz3
  go_enter Tryz.func43, Tryz.ntmps43
  go_wp2_with (first
    | (at_make; refine wpList_make_structs rfl _ _ _ rfl 41 ic zc 3 32 Tryz.underlying39 HIC.out HZC.out HZ1.out HZ2.out (n + 3) rfl rfl (by have := HN.out; omega) (by have := HN.out; omega) ?_; intro cur0 h0; have H0 := Lib.hid h0; clear h0)
    | ((with_reducible show wpList _ _ _ _ _ _); refine wpList_copy_structs rfl (.tmp 9) (.tmp 10) 39 rfl 41 ic 3 Tryz.underlying39 HIC.out HZ1.out W.heap.size (n + 3) (n + 3) n c A rfl rfl cur0 41 (Blk.new W _ _) (cellCs cs) (by omega) (by rw [cellCs_len, HL.out]) ((H.out.below ((Below.refl _ _).alloc (Nat.le_refl _) _)).src) (by rw [cellCs_len, HL.out, H0.out]; omega) (cellCs_one cs) (by omega) ?_
       intro w2 hw2 ht2
       have HW2 := Lib.hid hw2
       have B2 := Lib.hid (((Below.refl W.heap.size W).alloc (Nat.le_refl _) (.cells cur0 41)).trans (ht2.below (by simp) (fun k e => by subst e; exact Nat.le_refl _)))
       clear hw2 ht2))
  have HS := Lib.hid (show (cellCs cs ++ cur0.toList.drop (cellCs cs).length).toArray.size = (n + 3) * 3 ∧ (cellCs cs ++ cur0.toList.drop (cellCs cs).length).toArray.toList.take (n * 3) = cellCs cs by
    have h1 := H0.out
    have h2 := HL.out
    have h3 := cellCs_len cs
    refine ⟨?_, ?_⟩
    · simp only [List.size_toArray, List.length_append, List.length_drop, Array.length_toList]
      omega
    · rw [List.toList_toArray, List.take_left' (by rw [h3, h2])])
  generalize (cellCs cs ++ cur0.toList.drop (cellCs cs).length).toArray = cur at HW2 HS
  go_loopw [4] (fun t4 wr => ∃ (k : Nat) (cs2 : Array Value), n ≤ k ∧ k ≤ n + 3 ∧ t4 = .int .i64 (k : Int) ∧ Hid (Blk wr W.heap.size 41 cs2 ∧ cs2.size = (n + 3) * 3 ∧ cs2.toList.take (n * 3) = cellCs cs ∧ (∀ i, n ≤ i → i < k → ∀ j < 3, cs2[i * 3 + j]? = (markC.cells)[j]?) ∧ Below W.heap.size W wr)) (fun t4 _ => n + 3 - (intOf t4).toNat)
  case atStart => exact ⟨n, cur, Nat.le_refl _, by omega, rfl, Lib.hid ⟨HW2.out, HS.out.1, HS.out.2, fun i h1 h2 => absurd h2 (by omega), B2.out⟩⟩
  case round =>
    obtain ⟨k, cs2, hk1, hk2, rfl, HP⟩ := hrel
    rename World => wr
    by_cases hlt : k < n + 3
    · go_wp2_with fail
      go_at_call 48; (with_reducible refine (mark_any wr).mono ?_); rintro e w3 ⟨rfl, hb⟩
      have HK := Lib.hid (HP.out.1.kept hb)
      have B3 := Lib.hid (HP.out.2.2.2.2.trans (hb.mono HP.out.2.2.2.2.size))
      obtain ⟨u0, c0⟩ := cellIn HK.out HP.out.2.1 (k * 3) (by omega)
      obtain ⟨u1, c1⟩ := cellIn HK.out HP.out.2.1 (k * 3 + 1) (by omega)
      obtain ⟨u2, c2⟩ := cellIn HK.out HP.out.2.1 (k * 3 + 2) (by omega)
      have f0 : w3.frozen? ⟨W.heap.size, k * 3, none⟩ = false := HK.out.frozen _
      have f1 : w3.frozen? ⟨W.heap.size, k * 3 + 1, none⟩ = false := HK.out.frozen _
      have f2 : w3.frozen? ⟨W.heap.size, k * 3 + 2, none⟩ = false := HK.out.frozen _
      clear hb
      go_wp2
      go_roundw
      case rel => exact ⟨k + 1, _, by omega, by omega, by go_num, Lib.hid ⟨blk_put3 HK.out _ _ _ _, by rw [put3_size]; exact HP.out.2.1, by rw [put3_take _ _ _ _ _ _ (by omega)]; exact HP.out.2.2.1, fun i h1 h2 j hj => mark_at (by omega) (by rw [HP.out.2.1]; omega) (fun h => HP.out.2.2.2.1 i h1 h) h2 hj, B3.out.trans ((tur_put3 w3 _ _ _ _ _).below B3.out.size (fun k e => by subst e; exact Nat.le_refl _))⟩⟩
      case measure => simp [intOf]; omega
    · go_wp2
      go_ret
      obtain rfl : k = n + 3 := by omega
      have hn := HL.out
      subst hn
      exact ⟨W.heap.size, cs2, rfl, Nat.le_refl _, ⟨HP.out.1, HP.out.2.1, HP.out.2.2.1, HP.out.2.2.2.1⟩, HP.out.2.2.2.2⟩
set_option maxHeartbeats 4000000 in
set_option maxRecDepth 100000 in
/-- Are lent cells as they were? Then they are written over. -/
theorem kept_cells (g : Nat) (cur : Array Value) (A : Option Addr) (n c : Nat) (cs : List CellV) (W : World) (hl : cs.length = n) (h : CellsRd W A cs) (hg : Lent W g cur cs) (hn : n ≤ 1048576) :
    Calls Tryz.prog 19 #[.slice (some ⟨g, 0, none⟩) n (n + 3), .slice A n c] W fun e w' => e = .returned (.bool true) ∧ Tur (· = g) W w' := by
  have H := Lib.hid h
  have HL := Lib.hid hl
  have HN := Lib.hid hn
  have HG := Lib.hid hg
  have hn9 : (n : Int) ≤ 1048576 := by omega
  have CS := Lib.hid (samecells_true (some ⟨g, 0, none⟩) A n (n + 3) c cs W hl hg.rd h (by omega))
  have eM := eqlCell markC markC
  rw [decide_eq_true rfl] at eM
  have eM : ∀ w : World, (binOp .eql 41 (.agg #[.int .i64 (-9), .string ⟨#[109, 97, 114, 107]⟩, .int .i64 9]) (.agg #[.int .i64 (-9), .string ⟨#[109, 97, 114, 107]⟩, .int .i64 9])).run Tryz.prog w = .ok (.bool true) w := eM
  clear h hl hn hg
  go_enter Tryz.func19, Tryz.ntmps19
  go_wp2_with fail
  go_at_call 47; (with_reducible refine CS.out.mono ?_); rintro e w1 ⟨rfl, hb1⟩
  have G1 := Lib.hid (HG.out.kept hb1)
  have T1 := Lib.hid (Tur.of_below (S := (· = g)) hb1)
  clear hb1 CS
  go_wp2
  go_loopw [5, 7] (fun t5 t7 wr => ∃ (k : Nat) (cs2 : Array Value), k ≤ n + 3 ∧ t5 = .bool true ∧ t7 = .int .i64 (k : Int) ∧ Hid (Blk wr g 41 cs2 ∧ cs2.size = (n + 3) * 3 ∧ (∀ i, n ≤ i → k ≤ i → i < n + 3 → ∀ j < 3, cs2[i * 3 + j]? = (markC.cells)[j]?) ∧ Tur (· = g) W wr)) (fun _ t7 _ => n + 3 - (intOf t7).toNat)
  case atStart => exact ⟨0, cur, by omega, rfl, rfl, Lib.hid ⟨G1.out.blk, by rw [G1.out.size, HL.out], fun i h1 _ h3 => G1.out.marks i (by rw [HL.out]; exact h1) (by rw [HL.out]; exact h3), T1.out⟩⟩
  case round =>
    obtain ⟨k, cs2, hk2, rfl, rfl, HP⟩ := hrel
    rename World => wr
    by_cases hlt : k < n + 3
    · obtain ⟨u0, c0⟩ := cellIn HP.out.1 HP.out.2.1 (k * 3) (by omega)
      obtain ⟨u1, c1⟩ := cellIn HP.out.1 HP.out.2.1 (k * 3 + 1) (by omega)
      obtain ⟨u2, c2⟩ := cellIn HP.out.1 HP.out.2.1 (k * 3 + 2) (by omega)
      have hgl : g < wr.heap.size := HP.out.1.lt
      have REL := Lib.hid (fun (w3 : World) (h3 : Held wr.heap.size wr w3) => show Hid (Blk (((w3.setCell ⟨g, k * 3, none⟩ (.int .i64 0)).setCell ⟨g, k * 3 + 1, none⟩ (.string ⟨#[115, 112, 111, 105, 108, 116]⟩)).setCell ⟨g, k * 3 + 2, none⟩ (.int .i64 0)) g 41 (put3 cs2 (k * 3) (.int .i64 0) (.string ⟨#[115, 112, 111, 105, 108, 116]⟩) (.int .i64 0)) ∧ (put3 cs2 (k * 3) (.int .i64 0) (.string ⟨#[115, 112, 111, 105, 108, 116]⟩) (.int .i64 0)).size = (n + 3) * 3 ∧ (∀ i, n ≤ i → k + 1 ≤ i → i < n + 3 → ∀ j < 3, (put3 cs2 (k * 3) (.int .i64 0) (.string ⟨#[115, 112, 111, 105, 108, 116]⟩) (.int .i64 0))[i * 3 + j]? = (markC.cells)[j]?) ∧ Tur (· = g) W (((w3.setCell ⟨g, k * 3, none⟩ (.int .i64 0)).setCell ⟨g, k * 3 + 1, none⟩ (.string ⟨#[115, 112, 111, 105, 108, 116]⟩)).setCell ⟨g, k * 3 + 2, none⟩ (.int .i64 0))) from
        Lib.hid ⟨blk_put3 (HP.out.1.kept h3.2.2.2) _ _ _ _, by rw [put3_size]; exact HP.out.2.1, fun i h1 h2 h4 j hj => by rw [put3_other _ _ _ _ _ _ (by omega)]; exact HP.out.2.2.1 i h1 (by omega) h4 j hj, (HP.out.2.2.2.trans (Tur.of_below (S := fun _ => False) h3.2.2.2) (fun _ e => e.elim)).trans (tur_put3 w3 g _ _ _ _) (fun k e => .inl e)⟩)
      by_cases hkn : k < n
      · go_wp2
        refine wp_region_heldq (B := wr.heap.size) (w1 := wr) (by kernel_rfl) (by kernel_rfl) (Held.of (Below.refl _ _).drew (Nat.le_refl _)) ?_
        repeat
          (with_reducible refine wpQuiet_step (fun K hK => ?_))
          first
            | ((with_reducible refine ite_pos_ ?_ ?_); (focus (go_simp; done)); apply Exists.intro; refine ⟨fun wz hzC => ?_, hK _ ?_⟩; (have hz := HeldC.out hzC; clear hzC; unfold Oper.quietAt; go_simp; (first | done | fail | (with_reducible rfl))); clear hK K; (try simp only [Act.put, List.setIfInBounds_toArray, List.set_cons_zero, List.set_cons_succ]))
            | ((with_reducible refine ite_neg_ ?_ ?_); (focus (go_simp; done)); refine hK _ ?_; clear hK K; (try simp only [Act.put, List.setIfInBounds_toArray, List.set_cons_zero, List.set_cons_succ]))
        (with_reducible refine wpQuiet_nil ?_)
        intro wz hz
        have d0 : wz.cell? ⟨g, k * 3, none⟩ = some u0 := (hz.1 g (k * 3) hgl).trans c0
        have d1 : wz.cell? ⟨g, k * 3 + 1, none⟩ = some u1 := (hz.1 g (k * 3 + 1) hgl).trans c1
        have d2 : wz.cell? ⟨g, k * 3 + 2, none⟩ = some u2 := (hz.1 g (k * 3 + 2) hgl).trans c2
        have f0 : wz.frozen? ⟨g, k * 3, none⟩ = false := (HP.out.1.kept hz.2.2.2).frozen _
        have f1 : wz.frozen? ⟨g, k * 3 + 1, none⟩ = false := (HP.out.1.kept hz.2.2.2).frozen _
        have f2 : wz.frozen? ⟨g, k * 3 + 2, none⟩ = false := (HP.out.1.kept hz.2.2.2).frozen _
        have RZ := Lib.hid (REL.out wz hz)
        clear hz c0 c1 c2 REL
        go_wp2
        go_roundw
        case rel => exact ⟨k + 1, _, by omega, rfl, by go_num, RZ.out⟩
        case measure => simp [intOf]; omega
      · have hm := HP.out.2.2.1 k (by omega) (Nat.le_refl _) hlt
        have m0 : wr.cell? ⟨g, k * 3, none⟩ = some (.int .i64 (-9)) := (HP.out.1.cell _).trans (hm 0 (by omega))
        have m1 : wr.cell? ⟨g, k * 3 + 1, none⟩ = some (.string ⟨#[109, 97, 114, 107]⟩) := (HP.out.1.cell _).trans (hm 1 (by omega))
        have m2 : wr.cell? ⟨g, k * 3 + 2, none⟩ = some (.int .i64 9) := (HP.out.1.cell _).trans (hm 2 (by omega))
        clear hm c0 c1 c2
        go_wp2
        refine wp_region_heldq (B := wr.heap.size) (w1 := wr) (by kernel_rfl) (by kernel_rfl) (Held.of (Below.refl _ _).drew (Nat.le_refl _)) ?_
        repeat
          (with_reducible refine wpQuiet_step (fun K hK => ?_))
          first
            | ((with_reducible refine ite_pos_ ?_ ?_); (focus (go_simp; done)); apply Exists.intro; refine ⟨fun wz hzC => ?_, hK _ ?_⟩; (have hz := HeldC.out hzC; clear hzC; unfold Oper.quietAt; go_simp; (first | done | (first | (go_at_call 48; (with_reducible refine (mark_any _).mono ?_); rintro e w' ⟨rfl, hb⟩; exact ⟨rfl, HeldC.step hz hb⟩) | (have d0 := (hz.1 g (k * 3) hgl).trans m0; have d1 := (hz.1 g (k * 3 + 1) hgl).trans m1; have d2 := (hz.1 g (k * 3 + 2) hgl).trans m2; go_simp; (first | done | (with_reducible rfl)))) | (with_reducible rfl))); clear hK K; (try simp only [Act.put, List.setIfInBounds_toArray, List.set_cons_zero, List.set_cons_succ]))
            | ((with_reducible refine ite_neg_ ?_ ?_); (focus (go_simp; done)); refine hK _ ?_; clear hK K; (try simp only [Act.put, List.setIfInBounds_toArray, List.set_cons_zero, List.set_cons_succ]))
        (with_reducible refine wpQuiet_nil ?_)
        intro wz hz
        have d0 : wz.cell? ⟨g, k * 3, none⟩ = some (.int .i64 (-9)) := (hz.1 g (k * 3) hgl).trans m0
        have d1 : wz.cell? ⟨g, k * 3 + 1, none⟩ = some (.string ⟨#[109, 97, 114, 107]⟩) := (hz.1 g (k * 3 + 1) hgl).trans m1
        have d2 : wz.cell? ⟨g, k * 3 + 2, none⟩ = some (.int .i64 9) := (hz.1 g (k * 3 + 2) hgl).trans m2
        have f0 : wz.frozen? ⟨g, k * 3, none⟩ = false := (HP.out.1.kept hz.2.2.2).frozen _
        have f1 : wz.frozen? ⟨g, k * 3 + 1, none⟩ = false := (HP.out.1.kept hz.2.2.2).frozen _
        have f2 : wz.frozen? ⟨g, k * 3 + 2, none⟩ = false := (HP.out.1.kept hz.2.2.2).frozen _
        have RZ := Lib.hid (REL.out wz hz)
        clear hz m0 m1 m2 REL
        go_wp2
        go_roundw
        case rel => exact ⟨k + 1, _, by omega, rfl, by go_num, RZ.out⟩
        case measure => simp [intOf]; omega
    · go_wp2
      go_ret
      exact ⟨rfl, HP.out.2.2.2⟩
end Go.Proofs.YtglbdbghcdoicaaGreatDoor
