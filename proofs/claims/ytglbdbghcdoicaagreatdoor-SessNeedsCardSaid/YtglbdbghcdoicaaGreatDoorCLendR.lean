/- The law's own Lend and Kept: rows; requests, responses apart. -/
import Derived.Test.YtglbdbghcdoicaaGreatDoorCLend
namespace Go.Proofs.YtglbdbghcdoicaaGreatDoor
open Go.RowKit

def put7 (cur : Array Value) (o : Nat) (v0 v1 v2 v3 v4 v5 v6 : Value) : Array Value := ((((((cur.setIfInBounds o v0).setIfInBounds (o + 1) v1).setIfInBounds (o + 2) v2).setIfInBounds (o + 3) v3).setIfInBounds (o + 4) v4).setIfInBounds (o + 5) v5).setIfInBounds (o + 6) v6
theorem put7_size (cur : Array Value) (o : Nat) (v0 v1 v2 v3 v4 v5 v6 : Value) : (put7 cur o v0 v1 v2 v3 v4 v5 v6).size = cur.size := by simp [put7]
theorem put7_other (cur : Array Value) (o : Nat) (v0 v1 v2 v3 v4 v5 v6 : Value) (x : Nat) (hx : x < o ∨ o + 6 < x) : (put7 cur o v0 v1 v2 v3 v4 v5 v6)[x]? = cur[x]? := by
  unfold put7
  rw [Array.getElem?_setIfInBounds_ne (by omega), Array.getElem?_setIfInBounds_ne (by omega), Array.getElem?_setIfInBounds_ne (by omega), Array.getElem?_setIfInBounds_ne (by omega), Array.getElem?_setIfInBounds_ne (by omega), Array.getElem?_setIfInBounds_ne (by omega), Array.getElem?_setIfInBounds_ne (by omega)]
theorem blk_put7 {W : World} {g : Nat} {t : TypeId} {cur : Array Value} (h : Blk W g t cur) (o : Nat) (v0 v1 v2 v3 v4 v5 v6 : Value) : Blk (World.setCell (World.setCell (World.setCell (World.setCell (World.setCell (World.setCell (World.setCell W ⟨g, o, none⟩ v0) ⟨g, o + 1, none⟩ v1) ⟨g, o + 2, none⟩ v2) ⟨g, o + 3, none⟩ v3) ⟨g, o + 4, none⟩ v4) ⟨g, o + 5, none⟩ v5) ⟨g, o + 6, none⟩ v6) g t (put7 cur o v0 v1 v2 v3 v4 v5 v6) :=
  ((((((h.set_ o v0).set_ (o + 1) v1).set_ (o + 2) v2).set_ (o + 3) v3).set_ (o + 4) v4).set_ (o + 5) v5).set_ (o + 6) v6
theorem tur_put7 (W : World) (g o : Nat) (v0 v1 v2 v3 v4 v5 v6 : Value) : Tur (· = g) W (World.setCell (World.setCell (World.setCell (World.setCell (World.setCell (World.setCell (World.setCell W ⟨g, o, none⟩ v0) ⟨g, o + 1, none⟩ v1) ⟨g, o + 2, none⟩ v2) ⟨g, o + 3, none⟩ v3) ⟨g, o + 4, none⟩ v4) ⟨g, o + 5, none⟩ v5) ⟨g, o + 6, none⟩ v6) := by
  have h0 : Tur (· = g) W W := Tur.refl _ W
  have h1 := h0.setCell (p := ⟨g, o, none⟩) (.inl rfl) v0
  have h2 := h1.setCell (p := ⟨g, o + 1, none⟩) (.inl rfl) v1
  have h3 := h2.setCell (p := ⟨g, o + 2, none⟩) (.inl rfl) v2
  have h4 := h3.setCell (p := ⟨g, o + 3, none⟩) (.inl rfl) v3
  have h5 := h4.setCell (p := ⟨g, o + 4, none⟩) (.inl rfl) v4
  have h6 := h5.setCell (p := ⟨g, o + 5, none⟩) (.inl rfl) v5
  have h7 := h6.setCell (p := ⟨g, o + 6, none⟩) (.inl rfl) v6
  exact h7
set_option maxHeartbeats 4000000 in
set_option maxRecDepth 100000 in
theorem lend_rq (A : Option Addr) (n c : Nat) (q : Rq) (W : World) (h : RqA W A n q) (hn : n ≤ 1048576) :
    Calls Tryz.prog 17 #[.agg (rqC (.slice A n c) q)] W fun e w' => ∃ g cur, e = .returned (.agg (rqC (.slice (some ⟨g, 0, none⟩) n (n + 3)) q)) ∧ W.heap.size ≤ g ∧ Lent w' g cur q.cs ∧ Below W.heap.size W w' := by
  obtain ⟨k1, k2, hb0⟩ := box2 W 43 43 (rqC (.slice A n c) q) #[.int .i64 0, .int .i64 0, .int .i64 0, .slice none 0 0, .int .i64 0, .string ⟨#[]⟩, .int .i64 0, .int .i64 0, .string ⟨#[]⟩, .int .i64 0, .int .i64 0]
  have K1 := Lib.hid k1
  have K2 := Lib.hid k2
  have B0 := Lib.hid hb0
  have CL := Lib.hid (lend_cells A n c q.cs _ h.len (h.rd.below hb0) hn)
  have hcb := k1.cell
  have hs0 : ((W.alloc (.cells (rqC (.slice A n c) q) 43)).alloc (.cells #[.int .i64 0, .int .i64 0, .int .i64 0, .slice none 0 0, .int .i64 0, .string ⟨#[]⟩, .int .i64 0, .int .i64 0, .string ⟨#[]⟩, .int .i64 0, .int .i64 0] 43)).heap.size = W.heap.size + 1 + 1 := by simp
  have HS0 := Lib.hid hs0
  clear k1 k2 hb0 h hs0
  go_enter Tryz.func17, Tryz.ntmps17
  go_wp2_with fail
  go_at_call 43; (with_reducible refine CL.out.mono ?_); rintro e w1 ⟨g, cur, rfl, hg, hlent, hb⟩
  have HG := Lib.hid (show W.heap.size + 1 + 1 ≤ g by rw [← HS0.out]; exact hg)
  have HL := Lib.hid hlent
  have B1 := Lib.hid (B0.out.trans (hb.mono B0.out.size))
  have J1 := Lib.hid (K1.out.kept hb)
  have J2 := Lib.hid (K2.out.kept hb)
  clear hg hlent hb hcb CL K1 K2
  have hcb := J1.out.cell
  have hfb := J1.out.frozen
  have M1 := Lib.hid (J1.out.set_ 3 (.slice (some ⟨g, 0, none⟩) n (n + 3)))
  have M2 := Lib.hid (J2.out.far (p := ⟨W.heap.size, 3, none⟩) (by simp) (.slice (some ⟨g, 0, none⟩) n (n + 3)))
  have hcr := M2.out.cell
  have hfr := M2.out.frozen
  have T1 := Lib.hid (show Tur (· = W.heap.size) w1 (w1.setCell ⟨W.heap.size, 3, none⟩ (.slice (some ⟨g, 0, none⟩) n (n + 3))) from (Tur.refl (· = W.heap.size) w1).setCell (p := ⟨W.heap.size, 3, none⟩) (.inl rfl) _)
  have HS := Lib.hid (set11 M2.out (.int .i64 q.kind) (.int .i64 q.id) (.int .i64 q.epoch) (.slice (some ⟨g, 0, none⟩) n (n + 3)) (.int .i64 q.frm.view) (.string q.frm.key) (.int .i64 q.frm.start) (.int .i64 q.too.view) (.string q.too.key) (.int .i64 q.too.start) (.int .i64 q.limit))
  go_wp2
  generalize (World.setCell (World.setCell (World.setCell (World.setCell (World.setCell (World.setCell (World.setCell (World.setCell (World.setCell (World.setCell (World.setCell (w1.setCell ⟨W.heap.size, 3, none⟩ (.slice (some ⟨g, 0, none⟩) n (n + 3))) ⟨W.heap.size + 1, 0, none⟩ (.int .i64 q.kind)) ⟨W.heap.size + 1, 1, none⟩ (.int .i64 q.id)) ⟨W.heap.size + 1, 2, none⟩ (.int .i64 q.epoch)) ⟨W.heap.size + 1, 3, none⟩ (.slice (some ⟨g, 0, none⟩) n (n + 3))) ⟨W.heap.size + 1, 4, none⟩ (.int .i64 q.frm.view)) ⟨W.heap.size + 1, 5, none⟩ (.string q.frm.key)) ⟨W.heap.size + 1, 6, none⟩ (.int .i64 q.frm.start)) ⟨W.heap.size + 1, 7, none⟩ (.int .i64 q.too.view)) ⟨W.heap.size + 1, 8, none⟩ (.string q.too.key)) ⟨W.heap.size + 1, 9, none⟩ (.int .i64 q.too.start)) ⟨W.heap.size + 1, 10, none⟩ (.int .i64 q.limit)) = w7 at HS ⊢
  have hc7 := HS.out.1.cell
  have HB := Lib.hid ((B1.out.trans (T1.out.below B1.out.size (fun k e => by subst e; exact Nat.le_refl _))).trans (HS.out.2.below (by have := B1.out.size; have := T1.out.size; omega) (fun k e => by subst e; exact Nat.le_succ _)))
  exact bodyPost_ret (v := .agg (rqC (.slice (some ⟨g, 0, none⟩) n (n + 3)) q)) (by simp [results, Tryz.results17, go_sem, hc7]) rfl
    ⟨g, cur, rfl, by have := HG.out; omega, ⟨(HL.out.blk.tur T1.out (by have := HG.out; omega)).tur HS.out.2 (by have := HG.out; omega), HL.out.size, HL.out.take, HL.out.marks⟩, HB.out⟩
theorem rowCs_len : ∀ rs : List RowV, (rowCs rs).length = rs.length * 7
  | [] => rfl
  | r :: rs => by
    have h := rowCs_len rs
    have hl : r.cells.length = 7 := rfl
    simp only [rowCs, List.flatMap_cons, List.length_append, hl, List.length_cons] at h ⊢
    omega
theorem rowCs_one (rs : List RowV) : ∀ u ∈ rowCs rs, u.oneCell' = true := fun u hu => by
  obtain ⟨r, _, hu⟩ := List.mem_flatMap.1 hu
  exact rows_one1 r u hu
theorem rowCs_get : ∀ (rs : List RowV) (j : Nat) (v : Value), (rowCs rs)[j]? = some v → ∃ h : j / 7 < rs.length, (rs[j / 7].cells)[j % 7]? = some v
  | [], j, v, h => by simp [rowCs] at h
  | r :: rs, j, v, h => by
    have hl : r.cells.length = 7 := rfl
    simp only [rowCs, List.flatMap_cons] at h
    by_cases hj : j < 7
    · rw [List.getElem?_append_left (by omega)] at h
      have e0 : j / 7 = 0 := by omega
      have e1 : j % 7 = j := by omega
      refine ⟨by rw [e0]; simp, ?_⟩
      simp only [e0, e1, List.getElem_cons_zero]
      exact h
    · rw [List.getElem?_append_right (by omega), hl] at h
      obtain ⟨h1, h2⟩ := rowCs_get rs (j - 7) v h
      have e0 : j / 7 = (j - 7) / 7 + 1 := by omega
      have e1 : j % 7 = (j - 7) % 7 := by omega
      refine ⟨by rw [e0]; simpa using h1, ?_⟩
      simp only [e0, e1, List.getElem_cons_succ]
      exact h2
theorem RowsRd.src {W : World} {A : Option Addr} {rs : List RowV} (h : RowsRd W A rs) : ∀ j v, (rowCs rs)[j]? = some v → ∃ ad, A = some ad ∧ W.cell? (ad.add j) = some v := fun j v hj => by
  obtain ⟨h1, h2⟩ := rowCs_get rs j v hj
  obtain ⟨ad, e, _, hc⟩ := h (j / 7) h1
  refine ⟨ad, e, ?_⟩
  have := hc (j % 7) v h2
  rwa [show j / 7 * 7 + j % 7 = j by omega] at this
end Go.Proofs.YtglbdbghcdoicaaGreatDoor
