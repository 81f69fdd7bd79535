/- The law's own Lend and Kept: rows; requests, responses apart. -/
import Derived.Test.YtglbdbghcdoicaaDoorCLend
namespace Go.Proofs.YtglbdbghcdoicaaDoor
open Go.RowKit

set_option maxHeartbeats 4000000 in
set_option maxRecDepth 100000 in
theorem samerows_true (A B : Option Addr) (n c d : Nat) (cs : List RowV) (W : World) (hl : cs.length = n) (ha : RowsRd W A cs) (hb : RowsRd W B cs) (hn : n ≤ 9223372036854775807) :
    Calls Tryd.prog 37 #[.slice A n c, .slice B n d] W fun e w' => e = .returned (.bool true) ∧ Below W.heap.size W w' := by
  have HA := Lib.hid ha
  have HBR := Lib.hid hb
  have HLA := Lib.hid hl
  clear hl ha hb
  go_enter Tryd.func37, Tryd.ntmps37
  go_wp2
  go_loopw [5] (fun t5 wz => ∃ j : Nat, t5 = .int .i64 (j : Int) ∧ j ≤ n ∧ Hid (Below W.heap.size W wz)) (fun t5 _ => n - (intOf t5).toNat)
  case atStart => exact ⟨0, rfl, Nat.zero_le _, Lib.hid (Below.refl _ _)⟩
  case round =>
    obtain ⟨j, rfl, hj, HP⟩ := hrel
    rename World => wz
    by_cases hjn : j < n
    · have hkx : j < cs.length := by rw [HLA.out]; exact hjn
      obtain ⟨ad, rfl, a0, a1, a2, a3, a4, a5, a6⟩ := HA.out.at HP.out j hkx
      obtain ⟨bd, rfl, b0, b1, b2, b3, b4, b5, b6⟩ := HBR.out.at HP.out j hkx
      have e0 := neqRow cs[j] cs[j]
      rw [decide_eq_true rfl] at e0
      generalize cs[j] = x at *
      have e1 : ∀ w : World, (binOp .neq 87 (.agg #[.int .i64 x.cell.view, .string x.cell.key, .int .i64 x.cell.start, .int .i64 x.count, .int .i64 x.sum, .int .i64 x.min, .int .i64 x.max]) (.agg #[.int .i64 x.cell.view, .string x.cell.key, .int .i64 x.cell.start, .int .i64 x.count, .int .i64 x.sum, .int .i64 x.min, .int .i64 x.max])).run Tryd.prog w = .ok (.bool false) w := e0
      clear e0
      go_wp2
      go_quiet (fail)
      have HB2 := Lib.hid (HP.out.trans (below_drewN (Below.refl wz.heap.size wz) nq |>.mono HP.out.size))
      generalize wz.drewN nq = w2 at HB2 ⊢
      go_wp2
      go_roundw
      case rel => exact ⟨j + 1, by go_num, by omega, Lib.hid HB2.out⟩
      case measure => simp [intOf]; omega
    · go_wp2
      go_ret
      exact ⟨rfl, HP.out⟩

def put7 (cur : Array Value) (o : Nat) (v0 v1 v2 v3 v4 v5 v6 : Value) : Array Value := ((((((cur.setIfInBounds o v0).setIfInBounds (o + 1) v1).setIfInBounds (o + 2) v2).setIfInBounds (o + 3) v3).setIfInBounds (o + 4) v4).setIfInBounds (o + 5) v5).setIfInBounds (o + 6) v6
theorem put7_size (cur : Array Value) (o : Nat) (v0 v1 v2 v3 v4 v5 v6 : Value) : (put7 cur o v0 v1 v2 v3 v4 v5 v6).size = cur.size := by simp [put7]
theorem put7_other (cur : Array Value) (o : Nat) (v0 v1 v2 v3 v4 v5 v6 : Value) (x : Nat) (hx : x < o ∨ o + 6 < x) : (put7 cur o v0 v1 v2 v3 v4 v5 v6)[x]? = cur[x]? := by
  unfold put7
  rw [Array.getElem?_setIfInBounds_ne (by omega), Array.getElem?_setIfInBounds_ne (by omega), Array.getElem?_setIfInBounds_ne (by omega), Array.getElem?_setIfInBounds_ne (by omega), Array.getElem?_setIfInBounds_ne (by omega), Array.getElem?_setIfInBounds_ne (by omega), Array.getElem?_setIfInBounds_ne (by omega)]
theorem blk_put7 {W : World} {g : Nat} {t : TypeId} {cur : Array Value} (h : Blk W g t cur) (o : Nat) (v0 v1 v2 v3 v4 v5 v6 : Value) : Blk (World.setCell (World.setCell (World.setCell (World.setCell (World.setCell (World.setCell (World.setCell W ⟨g, o, none⟩ v0) ⟨g, o + 1, none⟩ v1) ⟨g, o + 2, none⟩ v2) ⟨g, o + 3, none⟩ v3) ⟨g, o + 4, none⟩ v4) ⟨g, o + 5, none⟩ v5) ⟨g, o + 6, none⟩ v6) g t (put7 cur o v0 v1 v2 v3 v4 v5 v6) :=
  ((((((h.set_ o v0).set_ (o + 1) v1).set_ (o + 2) v2).set_ (o + 3) v3).set_ (o + 4) v4).set_ (o + 5) v5).set_ (o + 6) v6
theorem tur_put7 (W : World) (g o : Nat) (v0 v1 v2 v3 v4 v5 v6 : Value) : Tur (· = g) W (World.setCell (World.setCell (World.setCell (World.setCell (World.setCell (World.setCell (World.setCell W ⟨g, o, none⟩ v0) ⟨g, o + 1, none⟩ v1) ⟨g, o + 2, none⟩ v2) ⟨g, o + 3, none⟩ v3) ⟨g, o + 4, none⟩ v4) ⟨g, o + 5, none⟩ v5) ⟨g, o + 6, none⟩ v6) := by
  have h0 : Tur (· = g) W W := Tur.refl _ W
  have h1 := h0.setCell (p := ⟨g, o, none⟩) (.inl rfl) v0
  have h2 := h1.setCell (p := ⟨g, o + 1, none⟩) (.inl rfl) v1
  have h3 := h2.setCell (p := ⟨g, o + 2, none⟩) (.inl rfl) v2
  have h4 := h3.setCell (p := ⟨g, o + 3, none⟩) (.inl rfl) v3
  have h5 := h4.setCell (p := ⟨g, o + 4, none⟩) (.inl rfl) v4
  have h6 := h5.setCell (p := ⟨g, o + 5, none⟩) (.inl rfl) v5
  have h7 := h6.setCell (p := ⟨g, o + 6, none⟩) (.inl rfl) v6
  exact h7
set_option maxHeartbeats 4000000 in
set_option maxRecDepth 100000 in
/-- Are lent rows as they were? Then they are written over. -/
theorem kept_rows (g : Nat) (cur : Array Value) (A : Option Addr) (n c : Nat) (cs : List RowV) (W : World) (hl : cs.length = n) (h : RowsRd W A cs) (hg : LentR W g cur cs) (hn : n ≤ 1048576) :
    Calls Tryd.prog 12 #[.slice (some ⟨g, 0, none⟩) n (n + 3), .slice A n c] W fun e w' => e = .returned (.bool true) ∧ Tur (· = g) W w' := by
  have H := Lib.hid h
  have HL := Lib.hid hl
  have HN := Lib.hid hn
  have HG := Lib.hid hg
  have hn9 : (n : Int) ≤ 1048576 := by omega
  have CS := Lib.hid (samerows_true (some ⟨g, 0, none⟩) A n (n + 3) c cs W hl hg.rd h (by omega))
  have eM := eqlCell markC markC
  rw [decide_eq_true rfl] at eM
  have eM : ∀ w : World, (binOp .eql 61 (.agg #[.int .i64 (-9), .string ⟨#[109, 97, 114, 107]⟩, .int .i64 9]) (.agg #[.int .i64 (-9), .string ⟨#[109, 97, 114, 107]⟩, .int .i64 9])).run Tryd.prog w = .ok (.bool true) w := eM
  clear h hl hn hg
  go_enter Tryd.func12, Tryd.ntmps12
  go_wp2_with fail
  go_at_call 37; (with_reducible refine CS.out.mono ?_); rintro e w1 ⟨rfl, hb1⟩
  have G1 := Lib.hid (HG.out.kept hb1)
  have T1 := Lib.hid (Tur.of_below (S := (· = g)) hb1)
  clear hb1 CS
  go_wp2
  go_loopw [5, 7] (fun t5 t7 wr => ∃ (k : Nat) (cs2 : Array Value), k ≤ n + 3 ∧ t5 = .bool true ∧ t7 = .int .i64 (k : Int) ∧ Hid (Blk wr g 87 cs2 ∧ cs2.size = (n + 3) * 7 ∧ (∀ i, n ≤ i → k ≤ i → i < n + 3 → ∀ j < 3, cs2[i * 7 + j]? = (markC.cells)[j]?) ∧ Tur (· = g) W wr)) (fun _ t7 _ => n + 3 - (intOf t7).toNat)
  case atStart => exact ⟨0, cur, by omega, rfl, rfl, Lib.hid ⟨G1.out.blk, by rw [G1.out.size, HL.out], fun i h1 _ h3 => G1.out.marks i (by rw [HL.out]; exact h1) (by rw [HL.out]; exact h3), T1.out⟩⟩
  case round =>
    obtain ⟨k, cs2, hk2, rfl, rfl, HP⟩ := hrel
    rename World => wr
    by_cases hlt : k < n + 3
    · obtain ⟨u0, c0⟩ := cellIn HP.out.1 HP.out.2.1 (k * 7) (by omega)
      obtain ⟨u1, c1⟩ := cellIn HP.out.1 HP.out.2.1 (k * 7 + 1) (by omega)
      obtain ⟨u2, c2⟩ := cellIn HP.out.1 HP.out.2.1 (k * 7 + 2) (by omega)
      obtain ⟨u3, c3⟩ := cellIn HP.out.1 HP.out.2.1 (k * 7 + 3) (by omega)
      obtain ⟨u4, c4⟩ := cellIn HP.out.1 HP.out.2.1 (k * 7 + 4) (by omega)
      obtain ⟨u5, c5⟩ := cellIn HP.out.1 HP.out.2.1 (k * 7 + 5) (by omega)
      obtain ⟨u6, c6⟩ := cellIn HP.out.1 HP.out.2.1 (k * 7 + 6) (by omega)
      have hgl : g < wr.heap.size := HP.out.1.lt
      have REL := Lib.hid (fun (w3 : World) (h3 : Held wr.heap.size wr w3) => show Hid (Blk (World.setCell (World.setCell (World.setCell (World.setCell (World.setCell (World.setCell (World.setCell w3 ⟨g, k * 7, none⟩ (.int .i64 0)) ⟨g, k * 7 + 1, none⟩ (.string ⟨#[115, 112, 111, 105, 108, 116]⟩)) ⟨g, k * 7 + 2, none⟩ (.int .i64 0)) ⟨g, k * 7 + 3, none⟩ (.int .i64 0)) ⟨g, k * 7 + 4, none⟩ (.int .i64 0)) ⟨g, k * 7 + 5, none⟩ (.int .i64 0)) ⟨g, k * 7 + 6, none⟩ (.int .i64 0)) g 87 (put7 cs2 (k * 7) (.int .i64 0) (.string ⟨#[115, 112, 111, 105, 108, 116]⟩) (.int .i64 0) (.int .i64 0) (.int .i64 0) (.int .i64 0) (.int .i64 0)) ∧ (put7 cs2 (k * 7) (.int .i64 0) (.string ⟨#[115, 112, 111, 105, 108, 116]⟩) (.int .i64 0) (.int .i64 0) (.int .i64 0) (.int .i64 0) (.int .i64 0)).size = (n + 3) * 7 ∧ (∀ i, n ≤ i → k + 1 ≤ i → i < n + 3 → ∀ j < 3, (put7 cs2 (k * 7) (.int .i64 0) (.string ⟨#[115, 112, 111, 105, 108, 116]⟩) (.int .i64 0) (.int .i64 0) (.int .i64 0) (.int .i64 0) (.int .i64 0))[i * 7 + j]? = (markC.cells)[j]?) ∧ Tur (· = g) W (World.setCell (World.setCell (World.setCell (World.setCell (World.setCell (World.setCell (World.setCell w3 ⟨g, k * 7, none⟩ (.int .i64 0)) ⟨g, k * 7 + 1, none⟩ (.string ⟨#[115, 112, 111, 105, 108, 116]⟩)) ⟨g, k * 7 + 2, none⟩ (.int .i64 0)) ⟨g, k * 7 + 3, none⟩ (.int .i64 0)) ⟨g, k * 7 + 4, none⟩ (.int .i64 0)) ⟨g, k * 7 + 5, none⟩ (.int .i64 0)) ⟨g, k * 7 + 6, none⟩ (.int .i64 0))) from
        Lib.hid ⟨blk_put7 (HP.out.1.kept h3.2.2.2) _ _ _ _ _ _ _ _, by rw [put7_size]; exact HP.out.2.1, fun i h1 h2 h4 j hj => by rw [put7_other _ _ _ _ _ _ _ _ _ _ (by omega)]; exact HP.out.2.2.1 i h1 (by omega) h4 j hj, (HP.out.2.2.2.trans (Tur.of_below (S := fun _ => False) h3.2.2.2) (fun _ e => e.elim)).trans (tur_put7 w3 g _ _ _ _ _ _ _ _) (fun k e => .inl e)⟩)
      by_cases hkn : k < n
      · go_wp2
        refine wp_region_heldq (B := wr.heap.size) (w1 := wr) (by kernel_rfl) (by kernel_rfl) (Held.of (Below.refl _ _).drew (Nat.le_refl _)) ?_
        repeat
          (with_reducible refine wpQuiet_step (fun K hK => ?_))
          first
            | ((with_reducible refine ite_pos_ ?_ ?_); (focus (go_simp; done)); apply Exists.intro; refine ⟨fun wz hzC => ?_, hK _ ?_⟩; (have hz := HeldC.out hzC; clear hzC; unfold Oper.quietAt; go_simp; (first | done | fail | (with_reducible rfl))); clear hK K; (try simp only [Act.put, List.setIfInBounds_toArray, List.set_cons_zero, List.set_cons_succ]))
            | ((with_reducible refine ite_neg_ ?_ ?_); (focus (go_simp; done)); refine hK _ ?_; clear hK K; (try simp only [Act.put, List.setIfInBounds_toArray, List.set_cons_zero, List.set_cons_succ]))
        (with_reducible refine wpQuiet_nil ?_)
        intro wz hz
        have d0 : wz.cell? ⟨g, k * 7, none⟩ = some u0 := (hz.1 g (k * 7) hgl).trans c0
        have d1 : wz.cell? ⟨g, k * 7 + 1, none⟩ = some u1 := (hz.1 g (k * 7 + 1) hgl).trans c1
        have d2 : wz.cell? ⟨g, k * 7 + 2, none⟩ = some u2 := (hz.1 g (k * 7 + 2) hgl).trans c2
        have d3 : wz.cell? ⟨g, k * 7 + 3, none⟩ = some u3 := (hz.1 g (k * 7 + 3) hgl).trans c3
        have f3 : wz.frozen? ⟨g, k * 7 + 3, none⟩ = false := (HP.out.1.kept hz.2.2.2).frozen _
        have d4 : wz.cell? ⟨g, k * 7 + 4, none⟩ = some u4 := (hz.1 g (k * 7 + 4) hgl).trans c4
        have f4 : wz.frozen? ⟨g, k * 7 + 4, none⟩ = false := (HP.out.1.kept hz.2.2.2).frozen _
        have d5 : wz.cell? ⟨g, k * 7 + 5, none⟩ = some u5 := (hz.1 g (k * 7 + 5) hgl).trans c5
        have f5 : wz.frozen? ⟨g, k * 7 + 5, none⟩ = false := (HP.out.1.kept hz.2.2.2).frozen _
        have d6 : wz.cell? ⟨g, k * 7 + 6, none⟩ = some u6 := (hz.1 g (k * 7 + 6) hgl).trans c6
        have f6 : wz.frozen? ⟨g, k * 7 + 6, none⟩ = false := (HP.out.1.kept hz.2.2.2).frozen _
        have f0 : wz.frozen? ⟨g, k * 7, none⟩ = false := (HP.out.1.kept hz.2.2.2).frozen _
        have f1 : wz.frozen? ⟨g, k * 7 + 1, none⟩ = false := (HP.out.1.kept hz.2.2.2).frozen _
        have f2 : wz.frozen? ⟨g, k * 7 + 2, none⟩ = false := (HP.out.1.kept hz.2.2.2).frozen _
        have RZ := Lib.hid (REL.out wz hz)
        clear hz c0 c1 c2 c3 c4 c5 c6 REL
        go_wp2
        go_roundw
        case rel => exact ⟨k + 1, _, by omega, rfl, by go_num, RZ.out⟩
        case measure => simp [intOf]; omega
      · have hm := HP.out.2.2.1 k (by omega) (Nat.le_refl _) hlt
        have m0 : wr.cell? ⟨g, k * 7, none⟩ = some (.int .i64 (-9)) := (HP.out.1.cell _).trans (hm 0 (by omega))
        have m1 : wr.cell? ⟨g, k * 7 + 1, none⟩ = some (.string ⟨#[109, 97, 114, 107]⟩) := (HP.out.1.cell _).trans (hm 1 (by omega))
        have m2 : wr.cell? ⟨g, k * 7 + 2, none⟩ = some (.int .i64 9) := (HP.out.1.cell _).trans (hm 2 (by omega))
        clear hm c0 c1 c2
        go_wp2
        refine wp_region_heldq (B := wr.heap.size) (w1 := wr) (by kernel_rfl) (by kernel_rfl) (Held.of (Below.refl _ _).drew (Nat.le_refl _)) ?_
        repeat
          (with_reducible refine wpQuiet_step (fun K hK => ?_))
          first
            | ((with_reducible refine ite_pos_ ?_ ?_); (focus (go_simp; done)); apply Exists.intro; refine ⟨fun wz hzC => ?_, hK _ ?_⟩; (have hz := HeldC.out hzC; clear hzC; unfold Oper.quietAt; go_simp; (first | done | (first | (go_at_call 33; (with_reducible refine (mark_any _).mono ?_); rintro e w' ⟨rfl, hb⟩; exact ⟨rfl, HeldC.step hz hb⟩) | (have d0 := (hz.1 g (k * 7) hgl).trans m0; have d1 := (hz.1 g (k * 7 + 1) hgl).trans m1; have d2 := (hz.1 g (k * 7 + 2) hgl).trans m2; go_simp; (first | done | (with_reducible rfl)))) | (with_reducible rfl))); clear hK K; (try simp only [Act.put, List.setIfInBounds_toArray, List.set_cons_zero, List.set_cons_succ]))
            | ((with_reducible refine ite_neg_ ?_ ?_); (focus (go_simp; done)); refine hK _ ?_; clear hK K; (try simp only [Act.put, List.setIfInBounds_toArray, List.set_cons_zero, List.set_cons_succ]))
        (with_reducible refine wpQuiet_nil ?_)
        intro wz hz
        have d0 : wz.cell? ⟨g, k * 7, none⟩ = some (.int .i64 (-9)) := (hz.1 g (k * 7) hgl).trans m0
        have d1 : wz.cell? ⟨g, k * 7 + 1, none⟩ = some (.string ⟨#[109, 97, 114, 107]⟩) := (hz.1 g (k * 7 + 1) hgl).trans m1
        have d2 : wz.cell? ⟨g, k * 7 + 2, none⟩ = some (.int .i64 9) := (hz.1 g (k * 7 + 2) hgl).trans m2
        have d3 : wz.cell? ⟨g, k * 7 + 3, none⟩ = some u3 := (hz.1 g (k * 7 + 3) hgl).trans c3
        have f3 : wz.frozen? ⟨g, k * 7 + 3, none⟩ = false := (HP.out.1.kept hz.2.2.2).frozen _
        have d4 : wz.cell? ⟨g, k * 7 + 4, none⟩ = some u4 := (hz.1 g (k * 7 + 4) hgl).trans c4
        have f4 : wz.frozen? ⟨g, k * 7 + 4, none⟩ = false := (HP.out.1.kept hz.2.2.2).frozen _
        have d5 : wz.cell? ⟨g, k * 7 + 5, none⟩ = some u5 := (hz.1 g (k * 7 + 5) hgl).trans c5
        have f5 : wz.frozen? ⟨g, k * 7 + 5, none⟩ = false := (HP.out.1.kept hz.2.2.2).frozen _
        have d6 : wz.cell? ⟨g, k * 7 + 6, none⟩ = some u6 := (hz.1 g (k * 7 + 6) hgl).trans c6
        have f6 : wz.frozen? ⟨g, k * 7 + 6, none⟩ = false := (HP.out.1.kept hz.2.2.2).frozen _
        have f0 : wz.frozen? ⟨g, k * 7, none⟩ = false := (HP.out.1.kept hz.2.2.2).frozen _
        have f1 : wz.frozen? ⟨g, k * 7 + 1, none⟩ = false := (HP.out.1.kept hz.2.2.2).frozen _
        have f2 : wz.frozen? ⟨g, k * 7 + 2, none⟩ = false := (HP.out.1.kept hz.2.2.2).frozen _
        have RZ := Lib.hid (REL.out wz hz)
        clear hz m0 m1 m2 c3 c4 c5 c6 REL
        go_wp2
        go_roundw
        case rel => exact ⟨k + 1, _, by omega, rfl, by go_num, RZ.out⟩
        case measure => simp [intOf]; omega
    · go_wp2
      go_ret
      exact ⟨rfl, HP.out.2.2.2⟩
theorem rowCs_len : ∀ rs : List RowV, (rowCs rs).length = rs.length * 7
  | [] => rfl
  | r :: rs => by
    have h := rowCs_len rs
    have hl : r.cells.length = 7 := rfl
    simp only [rowCs, List.flatMap_cons, List.length_append, hl, List.length_cons] at h ⊢
    omega
theorem rowCs_one (rs : List RowV) : ∀ u ∈ rowCs rs, u.oneCell' = true := fun u hu => by
  obtain ⟨r, _, hu⟩ := List.mem_flatMap.1 hu
  exact rows_one1 r u hu
theorem rowCs_get : ∀ (rs : List RowV) (j : Nat) (v : Value), (rowCs rs)[j]? = some v → ∃ h : j / 7 < rs.length, (rs[j / 7].cells)[j % 7]? = some v
  | [], j, v, h => by simp [rowCs] at h
  | r :: rs, j, v, h => by
    have hl : r.cells.length = 7 := rfl
    simp only [rowCs, List.flatMap_cons] at h
    by_cases hj : j < 7
    · rw [List.getElem?_append_left (by omega)] at h
      have e0 : j / 7 = 0 := by omega
      have e1 : j % 7 = j := by omega
      refine ⟨by rw [e0]; simp, ?_⟩
      simp only [e0, e1, List.getElem_cons_zero]
      exact h
    · rw [List.getElem?_append_right (by omega), hl] at h
      obtain ⟨h1, h2⟩ := rowCs_get rs (j - 7) v h
      have e0 : j / 7 = (j - 7) / 7 + 1 := by omega
      have e1 : j % 7 = (j - 7) % 7 := by omega
      refine ⟨by rw [e0]; simpa using h1, ?_⟩
      simp only [e0, e1, List.getElem_cons_succ]
      exact h2
theorem RowsRd.src {W : World} {A : Option Addr} {rs : List RowV} (h : RowsRd W A rs) : ∀ j v, (rowCs rs)[j]? = some v → ∃ ad, A = some ad ∧ W.cell? (ad.add j) = some v := fun j v hj => by
  obtain ⟨h1, h2⟩ := rowCs_get rs j v hj
  obtain ⟨ad, e, _, hc⟩ := h (j / 7) h1
  refine ⟨ad, e, ?_⟩
  have := hc (j % 7) v h2
  rwa [show j / 7 * 7 + j % 7 = j by omega] at this
set_option maxHeartbeats 8000000 in
set_option maxRecDepth 100000 in
theorem lend_rs (A : Option Addr) (n c : Nat) (r : Rs) (W : World) (h : RsA W A n r) (hn : n ≤ 1048576) :
    Calls Tryd.prog 9 #[.agg (rsC (.slice A n c) r)] W fun e w' => ∃ g cur, e = .returned (.agg (rsC (.slice (some ⟨g, 0, none⟩) n (n + 3)) r)) ∧ W.heap.size ≤ g ∧ LentR w' g cur r.rows ∧ Below W.heap.size W w' := by
  obtain ⟨k1, k2, hb0⟩ := box2 W 27 27 (rsC (.slice A n c) r) #[.int .i64 0, .int .i64 0, .int .i64 0, .int .i64 0, .slice none 0 0, .int .i64 0, .int .i64 0, .int .i64 0, .int .i64 0, .int .i64 0, .int .i64 0]
  have K1 := Lib.hid k1
  have K2 := Lib.hid k2
  have B0 := Lib.hid hb0
  have H := Lib.hid (h.rd.below hb0)
  have HL := Lib.hid h.len
  have HN := Lib.hid hn
  have hn9 : (n : Int) ≤ 1048576 := by omega
  have hcb := k1.cell
  have hs0 : ((W.alloc (.cells (rsC (.slice A n c) r) 27)).alloc (.cells #[.int .i64 0, .int .i64 0, .int .i64 0, .int .i64 0, .slice none 0 0, .int .i64 0, .int .i64 0, .int .i64 0, .int .i64 0, .int .i64 0, .int .i64 0] 27)).heap.size = W.heap.size + 1 + 1 := by simp
  obtain ⟨ic, zc, hic, hzc, hz1, hz2, hz3⟩ := info_row
  have HIC := Lib.hid hic
  have HZC := Lib.hid hzc
  have HZ1 := Lib.hid hz1
  have HZ2 := Lib.hid hz2
  clear k1 k2 hb0 h hn hic hzc hz1 hz2 hz3
  go_enter Tryd.func9, Tryd.ntmps9
  generalize hW0 : (W.alloc (.cells (rsC (.slice A n c) r) 27)).alloc (.cells #[.int .i64 0, .int .i64 0, .int .i64 0, .int .i64 0, .slice none 0 0, .int .i64 0, .int .i64 0, .int .i64 0, .int .i64 0, .int .i64 0, .int .i64 0] 27) = W0 at *
  go_wp2_with (first
    | (at_make; refine wpList_make_structs rfl _ _ _ rfl 87 ic zc 7 64 Tryd.underlying23 HIC.out HZC.out HZ1.out HZ2.out (n + 3) rfl rfl (by have := HN.out; omega) (by have := HN.out; omega) ?_; intro cur0 h0
       have H0 := Lib.hid h0
       have J0 := Lib.hid (show Blk (W0.alloc (.cells cur0 87)) (W.heap.size + 1 + 1) 87 cur0 from hs0 ▸ Blk.new W0 87 cur0)
       have J1 := Lib.hid (K1.out.alloc (.cells cur0 87))
       have J2 := Lib.hid (K2.out.alloc (.cells cur0 87))
       have B1 := Lib.hid (B0.out.alloc B0.out.size (.cells cur0 87))
       have HS1 := Lib.hid (H.out.below ((Below.refl _ _).alloc (Nat.le_refl _) (.cells cur0 87)))
       rw [hs0]
       clear hcb h0
       have hcb := J1.out.cell
       generalize W0.alloc (.cells cur0 87) = W1 at *)
    | ((with_reducible show wpList _ _ _ _ _ _); refine wpList_copy_structs rfl (.tmp 10) (.tmp 12) 23 rfl 87 ic 7 Tryd.underlying23 HIC.out HZ1.out (W.heap.size + 1 + 1) (n + 3) (n + 3) n c A rfl rfl cur0 87 J0.out (rowCs r.rows) (by omega) (by rw [rowCs_len, HL.out]) HS1.out.src (by rw [rowCs_len, HL.out, H0.out]; omega) (rowCs_one r.rows) (by omega) ?_
       intro w2 hw2 ht2
       have HW2 := Lib.hid hw2
       have B2 := Lib.hid (B1.out.trans (ht2.below B1.out.size (fun k e => by subst e; omega)))
       have M1 := Lib.hid (J1.out.tur ht2 (by omega))
       have M2 := Lib.hid (J2.out.tur ht2 (by omega))
       clear hw2 ht2 hcb
       have hcb := M1.out.cell))
  have HS := Lib.hid (show (rowCs r.rows ++ cur0.toList.drop (rowCs r.rows).length).toArray.size = (n + 3) * 7 ∧ (rowCs r.rows ++ cur0.toList.drop (rowCs r.rows).length).toArray.toList.take (n * 7) = rowCs r.rows by
    have h1 := H0.out
    have h2 := HL.out
    have h3 := rowCs_len r.rows
    refine ⟨?_, ?_⟩
    · simp only [List.size_toArray, List.length_append, List.length_drop, Array.length_toList]
      omega
    · rw [List.toList_toArray, List.take_left' (by rw [h3, h2])])
  generalize (rowCs r.rows ++ cur0.toList.drop (rowCs r.rows).length).toArray = cur at HW2 HS
  clear hcb hs0 hW0
  obtain ⟨g, hg⟩ : ∃ g, g = W.heap.size + 1 + 1 := ⟨_, rfl⟩
  rw [← hg] at HW2 J0 ⊢
  have hg1 : W.heap.size ≠ g := by omega
  have hg2 : W.heap.size + 1 ≠ g := by omega
  have hg3 : W.heap.size ≤ g := by omega
  clear hg
  go_loopw [4] (fun t4 wr => ∃ (k : Nat) (cs2 : Array Value), n ≤ k ∧ k ≤ n + 3 ∧ t4 = .int .i64 (k : Int) ∧ Hid (Blk wr g 87 cs2 ∧ cs2.size = (n + 3) * 7 ∧ cs2.toList.take (n * 7) = rowCs r.rows ∧ (∀ i, n ≤ i → i < k → ∀ j < 3, cs2[i * 7 + j]? = (markC.cells)[j]?) ∧ Below W.heap.size W wr ∧ Blk wr W.heap.size 27 (rsC (.slice A n c) r) ∧ Blk wr (W.heap.size + 1) 27 #[.int .i64 0, .int .i64 0, .int .i64 0, .int .i64 0, .slice none 0 0, .int .i64 0, .int .i64 0, .int .i64 0, .int .i64 0, .int .i64 0, .int .i64 0])) (fun t4 _ => n + 3 - (intOf t4).toNat)
  case atStart => exact ⟨n, cur, Nat.le_refl _, by omega, rfl, Lib.hid ⟨HW2.out, HS.out.1, HS.out.2, fun i h1 h2 => absurd h2 (by omega), B2.out, M1.out, M2.out⟩⟩
  case round =>
    obtain ⟨k, cs2, hk1, hk2, rfl, HP⟩ := hrel
    rename World => wr
    by_cases hlt : k < n + 3
    · go_wp2_with fail
      go_at_call 33; (with_reducible refine (mark_any wr).mono ?_); rintro e w3 ⟨rfl, hb⟩
      have HK := Lib.hid (HP.out.1.kept hb)
      have B3 := Lib.hid (HP.out.2.2.2.2.1.trans (hb.mono HP.out.2.2.2.2.1.size))
      have N1 := Lib.hid (HP.out.2.2.2.2.2.1.kept hb)
      have N2 := Lib.hid (HP.out.2.2.2.2.2.2.kept hb)
      obtain ⟨u0, c0⟩ := cellIn HK.out HP.out.2.1 (k * 7) (by omega)
      obtain ⟨u1, c1⟩ := cellIn HK.out HP.out.2.1 (k * 7 + 1) (by omega)
      obtain ⟨u2, c2⟩ := cellIn HK.out HP.out.2.1 (k * 7 + 2) (by omega)
      have f0 : w3.frozen? ⟨g, k * 7, none⟩ = false := HK.out.frozen _
      have f1 : w3.frozen? ⟨g, k * 7 + 1, none⟩ = false := HK.out.frozen _
      have f2 : w3.frozen? ⟨g, k * 7 + 2, none⟩ = false := HK.out.frozen _
      clear hb
      go_wp2
      go_roundw
      case rel => exact ⟨k + 1, _, by omega, by omega, by go_num, Lib.hid ⟨blk_put3 HK.out _ _ _ _, by rw [put3_size]; exact HP.out.2.1, by rw [put3_take _ _ _ _ _ _ (by omega)]; exact HP.out.2.2.1, fun i h1 h2 j hj => mark_at (by omega) (by rw [HP.out.2.1]; omega) (fun h => HP.out.2.2.2.1 i h1 h) h2 hj, B3.out.trans ((tur_put3 w3 g _ _ _ _).below B3.out.size (fun k e => by subst e; exact hg3)), N1.out.tur (tur_put3 w3 g _ _ _ _) hg1, N2.out.tur (tur_put3 w3 g _ _ _ _) hg2⟩⟩
      case measure => simp [intOf]; omega
    · obtain rfl : k = n + 3 := by omega
      have hcb := HP.out.2.2.2.2.2.1.cell
      have hfb := HP.out.2.2.2.2.2.1.frozen
      have B1 := Lib.hid HP.out.2.2.2.2.1
      have M2 := Lib.hid (HP.out.2.2.2.2.2.2.far (p := ⟨W.heap.size, 4, none⟩) (by simp) (.slice (some ⟨g, 0, none⟩) n (n + 3)))
      have hcr := M2.out.cell
      have hfr := M2.out.frozen
      have T1 := Lib.hid (show Tur (· = W.heap.size) wr (wr.setCell ⟨W.heap.size, 4, none⟩ (.slice (some ⟨g, 0, none⟩) n (n + 3))) from (Tur.refl (· = W.heap.size) wr).setCell (p := ⟨W.heap.size, 4, none⟩) (.inl rfl) _)
      have HS9 := Lib.hid (set11 M2.out (.int .i64 r.kind) (.int .i64 r.id) (.int .i64 r.err) (.int .i64 r.epoch) (.slice (some ⟨g, 0, none⟩) n (n + 3)) (.int .i64 r.st.taken) (.int .i64 r.st.late) (.int .i64 r.st.over) (.int .i64 r.st.full) (.int .i64 r.st.cells) (.int .i64 r.st.now))
      go_wp2
      generalize (World.setCell (World.setCell (World.setCell (World.setCell (World.setCell (World.setCell (World.setCell (World.setCell (World.setCell (World.setCell (World.setCell (wr.setCell ⟨W.heap.size, 4, none⟩ (.slice (some ⟨g, 0, none⟩) n (n + 3))) ⟨W.heap.size + 1, 0, none⟩ (.int .i64 r.kind)) ⟨W.heap.size + 1, 1, none⟩ (.int .i64 r.id)) ⟨W.heap.size + 1, 2, none⟩ (.int .i64 r.err)) ⟨W.heap.size + 1, 3, none⟩ (.int .i64 r.epoch)) ⟨W.heap.size + 1, 4, none⟩ (.slice (some ⟨g, 0, none⟩) n (n + 3))) ⟨W.heap.size + 1, 5, none⟩ (.int .i64 r.st.taken)) ⟨W.heap.size + 1, 6, none⟩ (.int .i64 r.st.late)) ⟨W.heap.size + 1, 7, none⟩ (.int .i64 r.st.over)) ⟨W.heap.size + 1, 8, none⟩ (.int .i64 r.st.full)) ⟨W.heap.size + 1, 9, none⟩ (.int .i64 r.st.cells)) ⟨W.heap.size + 1, 10, none⟩ (.int .i64 r.st.now)) = w7 at HS9 ⊢
      have hc7 := HS9.out.1.cell
      have HB := Lib.hid ((B1.out.trans (T1.out.below B1.out.size (fun k e => by subst e; exact Nat.le_refl _))).trans (HS9.out.2.below (by have := B1.out.size; have := T1.out.size; omega) (fun k e => by subst e; exact Nat.le_succ _)))
      have hn := HL.out
      exact bodyPost_ret (v := .agg (rsC (.slice (some ⟨g, 0, none⟩) n (n + 3)) r)) (by simp [results, Tryd.results9, go_sem, hc7]) rfl
        ⟨g, cs2, rfl, hg3, ⟨(HP.out.1.tur T1.out (fun e => hg1 e.symm)).tur HS9.out.2 (fun e => hg2 e.symm), by rw [hn]; exact HP.out.2.1, by rw [hn]; exact HP.out.2.2.1, by rw [hn]; exact HP.out.2.2.2.1⟩, HB.out⟩
end Go.Proofs.YtglbdbghcdoicaaDoor
