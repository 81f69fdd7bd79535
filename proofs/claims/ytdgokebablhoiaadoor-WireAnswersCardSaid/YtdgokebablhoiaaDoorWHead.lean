/- The law's own head: the chapter's first numbers. -/
import Derived.Test.YtdgokebablhoiaaDoorWBytes
import Derived.Test.YtdgokebablhoiaaDoorAsW
import Derived.Laws.Bits64
namespace Go.Proofs.YtdgokebablhoiaaDoor
open Go.RowKit

/-- A Reader's block. -/
abbrev RdC (v : Value) (at_ : Int) (f : Value) : Array Value := #[v, .int .i64 at_, f]

set_option maxRecDepth 100000 in
theorem r_read (A : Option Addr) (n c : Nat) (xs : List Int) (W : World) (hl : xs.length = n) (h : CellsAt W A (bvs xs)) (hn : n ≤ 140737488355328) :
    Calls Tryd.prog 24 #[.slice A n c] W fun e w' => ∃ q A' c', e = .returned (.pointer (some ⟨q, 0, none⟩)) ∧ W.heap.size ≤ q ∧ Blk w' q 95 (RdC (.slice A' n c') 0 .nilIface) ∧ RowAt w' A' n W.heap.size xs ∧ (∀ ad, A' = some ad → ad.block < q) ∧ Below W.heap.size W w' := by
  have C := Lib.hid (clone_any A n c xs W hl h hn)
  clear hl h hn
  go_enter Tryd.func24, Tryd.ntmps24
  go_wp2_with fail
  go_at_call 59; (with_reducible refine C.out.mono ?_); rintro e w1 ⟨v', rfl, hown, hb⟩
  obtain ⟨A', c', rfl, hr, hc⟩ := row_of_own hown
  have HR := Lib.hid hr
  have B := Lib.hid hb
  clear hown hr hb hc
  go_wp2
  go_ret
  refine ⟨w1.heap.size, A', c', rfl, B.out.size, Blk.new _ _ _, HR.out.kept ((Below.refl _ _).alloc (Nat.le_refl _) _), ?_, B.out.alloc B.out.size _⟩
  rintro ad rfl
  rcases HR.out with ⟨h, _⟩ | ⟨g, cur, h, _, hg, _⟩
  · cases h
  · cases h; exact hg.lt

set_option maxRecDepth 100000 in
theorem r_broken_no (q : Nat) (v : Value) (at_ : Int) (W : World) (h : Blk W q 95 (RdC v at_ .nilIface)) :
    Calls Tryd.prog 63 #[.pointer (some ⟨q, 0, none⟩)] W fun e w' => e = .returned (.bool false) ∧ Below W.heap.size W w' := by
  have p2 : W.cell? ⟨q, 2, none⟩ = some .nilIface := h.cell 2
  have hlt := h.lt
  clear h
  go_enter Tryd.func63, Tryd.ntmps63
  go_wp2_with fail
  go_at_call 64; (with_reducible refine (as_nil _ _).mono ?_); rintro e w1 ⟨rfl, rfl⟩
  go_wp2
  go_ret
  exact ⟨rfl, (Below.refl _ _).alloc (Nat.le_refl _) _⟩
set_option maxRecDepth 100000 in
theorem r_err_no (q : Nat) (v : Value) (at_ : Int) (W : World) (h : Blk W q 95 (RdC v at_ .nilIface)) :
    Calls Tryd.prog 27 #[.pointer (some ⟨q, 0, none⟩)] W fun e w' => e = .returned .nilIface ∧ Below W.heap.size W w' := by
  have p2 : W.cell? ⟨q, 2, none⟩ = some .nilIface := h.cell 2
  have hlt := h.lt
  clear h
  go_enter Tryd.func27, Tryd.ntmps27
  go_wp2_with fail
  go_at_call 64; (with_reducible refine (as_nil _ _).mono ?_); rintro e w1 ⟨rfl, rfl⟩
  go_wp2
  go_ret
  exact ⟨rfl, (Below.refl _ _).alloc (Nat.le_refl _) _⟩

set_option maxHeartbeats 2000000 in
set_option maxRecDepth 100000 in
theorem r_sevens_300 (q g c : Nat) (W : World) (h : Blk W q 95 (RdC (.slice (some ⟨g, 0, none⟩) 2 c) 0 .nilIface)) (h0 : W.cell? ⟨g, 0, none⟩ = some (.int .u8 172)) (h1 : W.cell? ⟨g, 1, none⟩ = some (.int .u8 2)) :
    Calls Tryd.prog 62 #[.pointer (some ⟨q, 0, none⟩), .int .i64 9, .int .u8 127] W fun e w' => e = .returned (.tuple #[.int .u64 300, .int .i64 0]) ∧ ∃ W2, w' = W2.setCell ⟨q, 1, none⟩ (.int .i64 2) ∧ Below W.heap.size W W2 := by
  have H := Lib.hid h
  have p0 : W.cell? ⟨q, 0, none⟩ = some (.slice (some ⟨g, 0, none⟩) 2 c) := h.cell 0
  have p1 : W.cell? ⟨q, 1, none⟩ = some (.int .i64 0) := h.cell 1
  have G0 := Lib.hid h0
  have G1 := Lib.hid h1
  clear h h0 h1
  go_enter Tryd.func62, Tryd.ntmps62
  go_wp2_with fail
  go_at_call 63; (with_reducible refine (r_broken_no q _ _ _ H.out).mono ?_); rintro e w1 ⟨rfl, hb⟩
  have K := Lib.hid (H.out.kept hb)
  have B := Lib.hid hb
  have p0 : w1.cell? ⟨q, 0, none⟩ = some (.slice (some ⟨g, 0, none⟩) 2 c) := K.out.cell 0
  have p1 : w1.cell? ⟨q, 1, none⟩ = some (.int .i64 0) := K.out.cell 1
  have f1 : w1.frozen? ⟨q, 1, none⟩ = false := K.out.frozen 1
  have g0 : w1.cell? ⟨g, 0, none⟩ = some (.int .u8 172) := (hb.cell (World.block_lt_of_cell? W _ G0.out)).trans G0.out
  have g1 : w1.cell? ⟨g, 1, none⟩ = some (.int .u8 2) := (hb.cell (World.block_lt_of_cell? W _ G1.out)).trans G1.out
  clear hb
  have a1 : bits .and .u8 172 127 = 44 := by decide
  have a2 : bits .and .u8 2 127 = 2 := by decide
  have a3 : bits .or .u64 0 44 = 44 := by decide
  have a4 : bits .or .u64 44 256 = 300 := by decide
  go_wp2
  refine wp_loop_rounds 2 ?_
  rw [rounds_succ]
  go_wp2
  rw [rounds_succ]
  go_wp2
  go_ret2
  exact ⟨rfl, w1, rfl, B.out⟩

set_option maxRecDepth 100000 in
theorem r_num_300 (q g c : Nat) (W : World) (h : Blk W q 95 (RdC (.slice (some ⟨g, 0, none⟩) 2 c) 0 .nilIface)) (h0 : W.cell? ⟨g, 0, none⟩ = some (.int .u8 172)) (h1 : W.cell? ⟨g, 1, none⟩ = some (.int .u8 2)) :
    Calls Tryd.prog 25 #[.pointer (some ⟨q, 0, none⟩), .int .i64 300] W fun e w' => e = .returned (.int .i64 300) ∧ Blk w' q 95 (RdC (.slice (some ⟨g, 0, none⟩) 2 c) 2 .nilIface) ∧ Tur (· = q) W w' := by
  have H := Lib.hid h
  have C := Lib.hid (r_sevens_300 q g c W h h0 h1)
  clear h h0 h1
  go_enter Tryd.func25, Tryd.ntmps25
  go_wp2_with fail
  go_at_call 62; (with_reducible refine C.out.mono ?_); rintro e w1 ⟨rfl, W2, hw, hb⟩
  have K : Blk w1 q 95 (RdC (.slice (some ⟨g, 0, none⟩) 2 c) 2 .nilIface) := hw ▸ (H.out.kept hb).set_ 1 _
  have T := Lib.hid (show Tur (· = q) W w1 from hw ▸ Tur.setCell (S := (· = q)) (p := ⟨q, 1, none⟩) (Tur.of_below hb) (.inl rfl) _)
  have HK := Lib.hid K
  clear hw hb K
  go_wp2_with fail
  go_at_call 63; (with_reducible refine (r_broken_no q _ _ _ HK.out).mono ?_); rintro e w2 ⟨rfl, hb⟩
  have T2 := Lib.hid (T.out.trans (Tur.of_below (S := fun _ => False) hb) (fun _ h => h.elim))
  have K2 := Lib.hid (HK.out.kept hb)
  clear hb
  go_wp2
  go_ret
  exact ⟨rfl, K2.out, T2.out⟩

theorem sev300 : sev 300 = [172, 2] := by rw [sev_big 300 (by omega), sev_small (300 / 128) (by omega)]; rfl
theorem head_bytes : [] ++ sev 300 ++ sev (zz (-64)) ++ sev 2 ++ strB { data := #[97, 98] } = [172, 2, 127, 2, 97, 98] := by
  rw [sev300, show zz (-64) = 127 from rfl, sev_small 127 (by omega), sev_small 2 (by omega)]
  rfl
theorem conv6 (w : World) (g c : Nat) (h0 : w.cell? ⟨g, 0, none⟩ = some (.int .u8 172)) (h1 : w.cell? ⟨g, 1, none⟩ = some (.int .u8 2)) (h2 : w.cell? ⟨g, 2, none⟩ = some (.int .u8 127)) (h3 : w.cell? ⟨g, 3, none⟩ = some (.int .u8 2)) (h4 : w.cell? ⟨g, 4, none⟩ = some (.int .u8 97)) (h5 : w.cell? ⟨g, 5, none⟩ = some (.int .u8 98)) :
    (convert 24 9 (.slice (some ⟨g, 0, none⟩) 6 c)).run Tryd.prog w = .ok (.string (strOfNums [172, 2, 127, 2, 97, 98])) w := by
  refine run_convert_bytes_arg (P := Tryd.prog) w _ _ Tryd.underlying24 Tryd.underlying5 g 0 6 c [172, 2, 127, 2, 97, 98] rfl (fun i hi => ?_) _ Tryd.underlying9
  rw [Nat.zero_add]
  match i, hi with
  | 0, _ => exact h0
  | 1, _ => exact h1
  | 2, _ => exact h2
  | 3, _ => exact h3
  | 4, _ => exact h4
  | 5, _ => exact h5

theorem cells_lit {W : World} : CellsAt (W.alloc (.cells #[.int .u8 172, .int .u8 2] 5)) (some ⟨W.heap.size, 0, none⟩) (bvs [172, 2]) := fun k hk => by
  simp [bvs] at hk
  match k, hk with
  | 0, _ => exact ⟨_, rfl, by simp, by simp [Addr.add, bvs]⟩
  | 1, _ => exact ⟨_, rfl, by simp, by simp [Addr.add, bvs]⟩
theorem cell_take {W : World} {g n : Nat} {cur : Array Value} {xs : List Value} (hg : Blk W g 5 cur) (ht : cur.toList.take n = xs) (k : Nat) {v : Value} (hv : xs[k]? = some v) : W.cell? ⟨g, k, none⟩ = some v := by
  rw [← ht, List.getElem?_take] at hv
  split at hv
  · rw [hg.cell k, ← Array.getElem?_toList]; exact hv
  · cases hv

theorem belowOf {X w' w4 : World} {q : Nat} (_ : Below X.heap.size X w') (h : Below q w4 X) : Below q w4 X := h
theorem turOf {S : Nat → Prop} {X w' w4 : World} {q : Nat} (_ : Tur S X w') (h : Below q w4 X) : Below q w4 X := h
theorem Wr.held {W X : World} {base p q : Nat} {v : Value} {bs : List Int} (h : Wr W base p v bs) (hb : Below q W X) (hp : p < q) (ho : ∀ k, v.ownBlock = some k → k < q) : Wr X base p v bs :=
  ⟨h.blk.below hb hp, ownsRow_tur (S := fun k => q ≤ k) h.own ⟨hb.os, hb.tape, hb.output, hb.size, fun k _ hn => hb.block k (by omega)⟩ (fun k hk => by have := ho k hk; omega), h.ne, h.base⟩
theorem Held.belowH {B : Nat} {w1 w' : World} (h : Held B w1 w') : Below B w1 w' := h.2.2.2
theorem Held.turn {B q : Nat} {w1 w' w2 : World} (h : Held B w1 w') (ht : Tur (· = q) w' w2) (hq : B ≤ q) : Held B w1 w2 :=
  Held.mk_ (h.2.2.2.trans (ht.below h.2.2.1 (fun k hk => by subst hk; exact hq))) (Nat.le_trans h.2.2.1 ht.size)

set_option maxHeartbeats 2000000 in
set_option maxRecDepth 100000 in
theorem head_any (w : World) :
    Calls Tryd.prog 19 #[] w fun e w' => e = .returned (.bool true) ∧ Below w.heap.size w w' := by
  have k6 := conv6
  go_enter Tryd.func19, Tryd.ntmps19
  have h0 : Wr (w.alloc (.cells #[.slice none 0 0] 49)) w.heap.size w.heap.size (.slice none 0 0) [] :=
    ⟨Blk.new _ _ _, World.ownsRow_nil _ _ _ _, by simp [Value.ownBlock], Nat.le_refl _⟩
  have H0 := Lib.hid h0
  clear h0
  go_wp2_with fail
  go_at_call 17; (with_reducible refine (w_num 300 (by omega) _ _ _ _ _ H0.out (by simp)).mono ?_); rintro e w1 ⟨rfl, v1, hw, hf⟩
  have F1 := Lib.hid (((Below.refl w.heap.size w).alloc (Nat.le_refl _) (.cells #[.slice none 0 0] 49)).trans (H0.out.fr_below hf))
  have H1 := Lib.hid hw
  clear hw hf
  go_wp2_with fail
  go_at_call 29; (with_reducible refine (w_int (-64) (by omega) (by omega) _ _ _ _ _ H1.out (by have := sev_len10 300 (by omega); simp; omega)).mono ?_); rintro e w2 ⟨rfl, v2, hw, hf⟩
  have F2 := Lib.hid (F1.out.trans (H1.out.fr_below hf))
  have H2 := Lib.hid hw
  clear hw hf
  go_wp2_with fail
  go_at_call 30; (with_reducible refine (w_text _ _ _ _ _ _ H2.out (by have := sev_len10 300 (by omega); have := sev_len10 (zz (-64)) (by decide); simp [ByteArray.size]; omega)).mono ?_); rintro e w3 ⟨rfl, v3, hw, hf⟩
  have F3 := Lib.hid (F2.out.trans (H2.out.fr_below hf))
  have H3 := Lib.hid (show Wr w3 w.heap.size w.heap.size v3 [172, 2, 127, 2, 97, 98] by rw [← head_bytes]; exact hw)
  clear hw hf
  go_wp2_with fail
  go_at_call 24; (with_reducible refine (r_read _ 2 2 [172, 2] _ rfl cells_lit (by omega)).mono ?_); rintro e w4 ⟨q, A, c, rfl, hq, hbk, hrow, hlt, hb⟩
  have HW := Lib.hid ((H3.out.kept ((Below.refl _ _).alloc (Nat.le_refl _) (.cells #[.int .u8 172, .int .u8 2] 5))).kept hb)
  have F4 := Lib.hid ((F3.out.alloc F3.out.size (.cells #[.int .u8 172, .int .u8 2] 5)).trans (hb.mono (by have := F3.out.size; simp; omega)))
  have hwq : w.heap.size < q := by
    have h1 := H3.out.blk.lt
    have h2 := hq
    simp at h2
    omega
  rcases hrow with ⟨_, h, _⟩ | ⟨g, cur, rfl, _, hg, _, _, ht⟩
  · cases h
  have hgq : g < q := hlt _ rfl
  have hq4 := hbk.lt
  have HB := Lib.hid hbk
  have g0 : w4.cell? ⟨g, 0, none⟩ = some (.int .u8 172) := cell_take hg ht 0 (by simp [bvs])
  have g1 : w4.cell? ⟨g, 1, none⟩ = some (.int .u8 2) := cell_take hg ht 1 (by simp [bvs])
  have G0 := Lib.hid g0
  have G1 := Lib.hid g1
  have HO := Lib.hid (show ∀ k, v3.ownBlock = some k → k < q from fun k hk => by
    have h1 := (H3.out.own.lt k hk).2
    have h2 := hq
    simp at h2
    omega)
  clear hq hbk hlt hb hg ht g0 g1
  go_wp2
  have bq := Lib.hid (show Below q w4 w4 from Below.refl _ _)
  go_region_with
    (first
      | (go_at_call 16; (with_reducible refine (w_bytes _ _ _ _ _ (HW.out.held (by first | exact bq.out | exact bq.out.drew | exact bq.out.alloc (Nat.le_of_lt (Nat.lt_of_lt_of_le hq4 (by first | exact Nat.le_refl _ | exact bs.out))) _ | exact (bq.out.alloc (Nat.le_of_lt (Nat.lt_of_lt_of_le hq4 (by first | exact Nat.le_refl _ | exact bs.out))) _).drew | exact bq.out.drew.alloc (Nat.le_of_lt hq4) _) hwq HO.out) (by simp)).mono ?_); rintro e w' ⟨A, rfl, hrow, hb⟩
         have b0 := belowOf hb (by first | exact bq.out | exact bq.out.drew | exact bq.out.alloc (Nat.le_of_lt (Nat.lt_of_lt_of_le hq4 (by first | exact Nat.le_refl _ | exact bs.out))) _ | exact (bq.out.alloc (Nat.le_of_lt (Nat.lt_of_lt_of_le hq4 (by first | exact Nat.le_refl _ | exact bs.out))) _).drew | exact bq.out.drew.alloc (Nat.le_of_lt hq4) _)
         have s0 := (b0.trans (hb.mono (Nat.le_of_lt (Nat.lt_of_lt_of_le hq4 b0.size))))
         have bs := Lib.hid (show w4.heap.size ≤ w'.heap.size from s0.size)
         have bq := Lib.hid s0
         have kq := Lib.hid (Blk.kept (by repeat (first | exact HB.out | exact kq.out | apply Blk.alloc | apply Blk.drew)) hb)
         (try (have kb := Blk.made hb; have m0 := kb.cell 0; have m1 := kb.cell 1; have m2 := kb.cell 2; have m3 := kb.cell 3; have m4 := kb.cell 4; have m5 := kb.cell 5; (try simp at m0); (try simp at m1); (try simp at m2); (try simp at m3); (try simp at m4); (try simp at m5)))
         (try (have kb := Blk.madeD hb; have m0 := kb.cell 0; have m1 := kb.cell 1; have m2 := kb.cell 2; have m3 := kb.cell 3; have m4 := kb.cell 4; have m5 := kb.cell 5; (try simp at m0); (try simp at m1); (try simp at m2); (try simp at m3); (try simp at m4); (try simp at m5)))
         rcases hrow with ⟨_, hf, _⟩ | ⟨gr, cr, rfl, _, hgr, _, _, htr⟩
         · cases hf
         have c0 := cell_take hgr htr 0 (by simp [bvs]; rfl); have c1 := cell_take hgr htr 1 (by simp [bvs]; rfl); have c2 := cell_take hgr htr 2 (by simp [bvs]; rfl); have c3 := cell_take hgr htr 3 (by simp [bvs]; rfl); have c4 := cell_take hgr htr 4 (by simp [bvs]; rfl); have c5 := cell_take hgr htr 5 (by simp [bvs]; rfl)
         have lgr := hgr.lt
         clear hgr htr hb b0 s0)
      | (go_at_call 25; (with_reducible refine (r_num_300 q g c _ (by repeat (first | exact HB.out | exact kq.out | apply Blk.alloc | apply Blk.drew)) (((show Below q w4 _ from (by first | exact bq.out | exact bq.out.drew | exact bq.out.alloc (Nat.le_of_lt (Nat.lt_of_lt_of_le hq4 (by first | exact Nat.le_refl _ | exact bs.out))) _ | exact (bq.out.alloc (Nat.le_of_lt (Nat.lt_of_lt_of_le hq4 (by first | exact Nat.le_refl _ | exact bs.out))) _).drew | exact bq.out.drew.alloc (Nat.le_of_lt hq4) _)).cell (p := ⟨g, 0, none⟩) hgq).trans G0.out) (((show Below q w4 _ from (by first | exact bq.out | exact bq.out.drew | exact bq.out.alloc (Nat.le_of_lt (Nat.lt_of_lt_of_le hq4 (by first | exact Nat.le_refl _ | exact bs.out))) _ | exact (bq.out.alloc (Nat.le_of_lt (Nat.lt_of_lt_of_le hq4 (by first | exact Nat.le_refl _ | exact bs.out))) _).drew | exact bq.out.drew.alloc (Nat.le_of_lt hq4) _)).cell (p := ⟨g, 1, none⟩) hgq).trans G1.out)).mono ?_); rintro e w' ⟨rfl, hk, ht⟩
         have b0 := turOf ht (by first | exact bq.out | exact bq.out.drew | exact bq.out.alloc (Nat.le_of_lt (Nat.lt_of_lt_of_le hq4 (by first | exact Nat.le_refl _ | exact bs.out))) _ | exact (bq.out.alloc (Nat.le_of_lt (Nat.lt_of_lt_of_le hq4 (by first | exact Nat.le_refl _ | exact bs.out))) _).drew | exact bq.out.drew.alloc (Nat.le_of_lt hq4) _)
         have s0 := b0.trans (ht.below (Nat.le_of_lt (Nat.lt_of_lt_of_le hq4 b0.size)) (fun k hk => by subst hk; exact Nat.le_refl _))
         have bs := Lib.hid (show w4.heap.size ≤ w'.heap.size from s0.size)
         have bq := Lib.hid s0
         have kq := Lib.hid hk
         clear hk ht b0 s0)
      | (go_at_call 27; (with_reducible refine (r_err_no q _ _ _ kq.out).mono ?_); rintro e w' ⟨rfl, hb⟩
         have bq := Lib.hid (bq.out.trans (hb.mono (Nat.le_of_lt (Nat.lt_of_lt_of_le hq4 bs.out))))
         clear hb))
  all_goals
    go_wp2
    go_ret
    exact ⟨by first | rfl | (simp only [Act.put, List.setIfInBounds_toArray, List.set_cons_zero, List.set_cons_succ]; simp; done) | (simp [Act.put]; done), F4.out.trans (bq.out.mono (Nat.le_of_lt hwq))⟩
end Go.Proofs.YtdgokebablhoiaaDoor
