/- Next, and that the row left behind it is new memory. -/
import Derived.Test.YtdgokebablhoiaaDoorWNextP
namespace Go.Proofs.YtdgokebablhoiaaDoor
open Go.RowKit

theorem Fm.swap2 {W W1 : World} {base q : Nat} {most : Int} {v : Value} {bs tail : List Int} (h : Fm W base q most v bs) (hb1 : Below W.heap.size W W1) (v2 : Value) (W2 : World) (hb : Below W1.heap.size W1 W2)
    (hown : W2.ownsRow W1.heap.size 5 1 v2 tail.length (bvs tail)) :
    Fm (W2.setCell ⟨q, 1, none⟩ v2) base q most v2 tail ∧ Tur (· = q) W (W2.setCell ⟨q, 1, none⟩ v2) ∧ ∀ k, v2.ownBlock = some k → W.heap.size ≤ k :=
  ⟨(h.swap hb1 v2 W2 hb hown).1, (h.swap hb1 v2 W2 hb hown).2, fun k hk => Nat.le_trans hb1.size (hown.lt k hk).1⟩
set_option maxHeartbeats 1000000 in
set_option maxRecDepth 100000 in
theorem f_next_yes2 (base q : Nat) (most : Int) (A : Option Addr) (n c : Nat) (b0 b1 b2 b3 : Nat) (k0 : b0 < 256) (k1 : b1 < 256) (k2 : b2 < 256) (k3 : b3 < 256) (body tail : List Int) (W : World) (h : Fm W base q most (.slice A n c) ((b0 : Int) :: b1 :: b2 :: b3 :: (body ++ tail))) (hn : n = (body ++ tail).length + 4) (hb : 1 ≤ be4 b0 b1 b2 b3 ∧ (be4 b0 b1 b2 b3 : Int) ≤ most) (hbl : body.length = be4 b0 b1 b2 b3) (hbig : n ≤ 140737488355328) :
    Calls Tryd.prog 40 #[.pointer (some ⟨q, 0, none⟩)] W fun e w' => ∃ A' c', e = .returned (.tuple #[.slice A' (be4 b0 b1 b2 b3) c', .bool true, .int .i64 0]) ∧ RowAt w' A' (be4 b0 b1 b2 b3) W.heap.size body ∧ ∃ A2 c2, Fm w' base q most (.slice A2 tail.length c2) tail ∧ Tur (· = q) W w' ∧ (∀ k, (Value.slice A2 tail.length c2).ownBlock = some k → W.heap.size ≤ k) ∧ (∀ k, (Value.slice A2 tail.length c2).ownBlock = some k → A' ≠ some ⟨k, 0, none⟩) ∧ w'.ownsRow W.heap.size 5 1 (.slice A' (be4 b0 b1 b2 b3) c') (be4 b0 b1 b2 b3) (bvs body) := by
  have H := Lib.hid h
  have p1 : W.cell? ⟨q, 1, none⟩ = some (.slice A n c) := h.blk.cell 1
  have p0 : W.cell? ⟨q, 0, none⟩ = some (.int .i64 most) := h.blk.cell 0
  have p2 : W.cell? ⟨q, 2, none⟩ = some .nilIface := h.blk.cell 2
  have h4 : 4 ≤ n := by omega
  obtain ⟨A', c', e, hr, hc⟩ := row_of_own h.own
  have HN0 := Lib.hid hn
  clear h hn
  rcases hr with ⟨_, h, _⟩ | ⟨g, cur, hA, _, hg, _, _, ht⟩
  · simp at h
  injection e with e1 e2 e3
  subst e1
  subst e3
  subst hA
  have g0 : W.cell? ⟨g, 0, none⟩ = some (.int .u8 (b0 : Int)) := cell_take hg ht 0 (by simp [bvs])
  have g1 : W.cell? ⟨g, 1, none⟩ = some (.int .u8 (b1 : Int)) := cell_take hg ht 1 (by simp [bvs])
  have g2 : W.cell? ⟨g, 2, none⟩ = some (.int .u8 (b2 : Int)) := cell_take hg ht 2 (by simp [bvs])
  have g3 : W.cell? ⟨g, 3, none⟩ = some (.int .u8 (b3 : Int)) := cell_take hg ht 3 (by simp [bvs])
  have hcn : n ≤ c := by rw [e2]; exact hc
  have HCE := Lib.hid (show ∀ k v, (bvs ((b0 : Int) :: b1 :: b2 :: b3 :: (body ++ tail)))[k]? = some v → W.cell? ⟨g, k, none⟩ = some v from fun k v hv => cell_take hg ht k hv)
  have hglt := hg.lt
  clear hg ht hc e2
  obtain ⟨N1, e1⟩ : ∃ N1, N1 = b0 * 256 + b1 := ⟨_, rfl⟩
  obtain ⟨N2, e2⟩ : ∃ N2, N2 = N1 * 256 + b2 := ⟨_, rfl⟩
  obtain ⟨N, e3⟩ : ∃ N, N = N2 * 256 + b3 := ⟨_, rfl⟩
  have hN : be4 b0 b1 b2 b3 = N := by unfold be4; rw [e3, e2, e1]
  rw [hN] at hb hbl ⊢
  obtain ⟨hb1, hb2⟩ := hb
  have o0 := or0 b0 k0
  have o1 : bits .or .i64 ((b0 : Int) * 256) (b1 : Int) = (N1 : Int) := by rw [or256 b0 b1 (by omega) k1]; omega
  have o2 : bits .or .i64 ((N1 : Int) * 256) (b2 : Int) = (N2 : Int) := by rw [or256 N1 b2 (by omega) k2]; omega
  have o3 : bits .or .i64 ((N2 : Int) * 256) (b3 : Int) = (N : Int) := by rw [or256 N2 b3 (by omega) k3]; omega
  have j1 : N1 ≤ 65535 := by omega
  have j2 : N2 ≤ 16777215 := by omega
  have j3 : N ≤ 4294967295 := by omega
  have hp : W.frozen? ⟨q, 2, none⟩ = false := H.out.blk.frozen 2
  have hlq := H.out.blk.lt
  clear e1 e2 e3 hN
  go_enter Tryd.func40, Tryd.ntmps40
  go_wp2_with (go_at_call 34; (with_reducible refine (is_nil _ _).mono ?_); rintro e w1 ⟨rfl, rfl⟩)
  refine wp_loop_rounds 5 ?_
  rw [rounds_succ]
  go_wp2
  rw [rounds_succ]
  go_wp2
  rw [rounds_succ]
  go_wp2
  rw [rounds_succ]
  go_wp2
  have h1 : decide ((N : Int) < 1) = false := by simp; omega
  have h2 : decide (most < (N : Int)) = false := by simpa using hb2
  have hnn : 4 + N ≤ n := by have hn := HN0.out; rw [List.length_append, hbl] at hn; omega
  have h3 : decide ((n : Int) < 4 + (N : Int)) = false := by simp; omega
  have hc4 : 4 + N ≤ c := Nat.le_trans hnn hcn
  have hc5 : ¬ (4 : Nat) = c := by omega
  have HBL := Lib.hid hbl
  clear hbl
  rw [rounds_succ]
  have C1 := Lib.hid (clone_some ⟨g, 4, none⟩ N (c - 4) body W HBL.out (cells_off hglt (fun k v hv => by
    have := HCE.out (4 + k) v (by
      rw [show (b0 : Int) :: b1 :: b2 :: b3 :: (body ++ tail) = [(b0 : Int), b1, b2, b3] ++ (body ++ tail) from rfl, bvs_append, bvs_append, List.getElem?_append_right (by simp [bvs]), List.getElem?_append_left (by have := (List.getElem?_eq_some_iff.1 hv).1; simp [bvs] at this ⊢; omega)]
      simpa [bvs] using hv)
    exact this)) (by omega))
  go_wp2_with fail
  go_at_call 59; (with_reducible refine C1.out.mono ?_); rintro e w1 ⟨v', rfl, hown, hb⟩
  obtain ⟨Ab, cb, rfl, hr, _⟩ := row_of_own hown
  have HO1 := Lib.hid hown
  have HR := Lib.hid hr
  have B1 := Lib.hid hb
  have H1 := Lib.hid (H.out.kept hb)
  have p1 : w1.cell? ⟨q, 1, none⟩ = some (.slice (some ⟨g, 0, none⟩) n c) := H1.out.blk.cell 1
  clear hown hr hb
  have HTL := Lib.hid (show n = 4 + N + tail.length by have := HN0.out; rw [List.length_append, HBL.out] at this; omega)
  have HS := Lib.hid (H.out.swap2 (tail := tail) B1.out)
  by_cases hcN : 4 + N = c
  · obtain rfl : tail = [] := List.eq_nil_of_length_eq_zero (by have := HTL.out; omega)
    have C2 := Lib.hid (clone_some ⟨g, 0, none⟩ 0 0 [] w1 rfl (fun k hk => absurd hk (by simp [bvs])) (by omega))
    go_wp2_with fail
    go_at_call 59; (with_reducible refine C2.out.mono ?_); rintro e w2 ⟨v2, rfl, hown, hb⟩
    obtain ⟨A2, c2, rfl, _, _⟩ := row_of_own hown
    have HDJ := Lib.hid (show ∀ k, (Value.slice A2 0 c2).ownBlock = some k → Ab ≠ some ⟨k, 0, none⟩ from fun k hk e => by
      have h1 := (hown.lt k hk).1
      have h2 := (HO1.out.lt k (by rw [e]; rfl)).2
      omega)
    have q0 : w2.cell? ⟨q, 1, none⟩ = some (.slice (some ⟨g, 0, none⟩) n c) := (H1.out.kept hb).blk.cell 1
    have q1 : w2.frozen? ⟨q, 1, none⟩ = false := (H1.out.kept hb).blk.frozen 1
    have HW := Lib.hid (HS.out _ _ hb hown)
    have HR2 := Lib.hid ((HR.out.kept hb).tur (Tur.setCell (S := (· = q)) (p := ⟨q, 1, none⟩) (Tur.refl _ _) (.inl rfl) (.slice A2 0 c2)) (fun k hk => by subst hk; exact hlq))
    have HO2 := Lib.hid (ownsRow_tur (ownsRow_tur HO1.out (Tur.of_below (S := fun _ => False) hb) (fun _ _ h => h)) (Tur.setCell (S := (· = q)) (p := ⟨q, 1, none⟩) (Tur.refl _ _) (.inl rfl) (.slice A2 0 c2)) (fun k hk e => by have := (HO1.out.lt k hk).1; omega))
    clear hown hb
    go_wp2
    exact bodyPost_ret (v := .tuple #[.slice Ab N cb, .bool true, .int .i64 0]) (by simp [results, Tryd.results40, go_sem]) rfl ⟨Ab, cb, rfl, HR2.out, A2, c2, HW.out.1, HW.out.2.1, HW.out.2.2, HDJ.out, HO2.out⟩
  · have C2 := Lib.hid (clone_some ⟨g, 4 + N, none⟩ (n - (4 + N)) (c - (4 + N)) tail w1 (by have := HTL.out; omega) (cells_off (Nat.lt_of_lt_of_le hglt B1.out.size) (fun k v hv => by
      have := HCE.out (4 + N + k) v (by
        rw [show (b0 : Int) :: b1 :: b2 :: b3 :: (body ++ tail) = ([(b0 : Int), b1, b2, b3] ++ body) ++ tail from rfl, bvs_append, List.getElem?_append_right (by rw [bvs_len, List.length_append, HBL.out]; simp), bvs_len, List.length_append, HBL.out]
        rw [← hv]; congr 1; simp)
      exact (B1.out.cell (p := ⟨g, 4 + N + k, none⟩) hglt).trans this)) (by omega))
    have htl : n - (4 + N) = tail.length := by have := HTL.out; omega
    rw [htl] at C2
    have HTL2 := Lib.hid htl
    clear htl
    go_wp2_with fail
    rw [HTL2.out]
    go_at_call 59; (with_reducible refine C2.out.mono ?_); rintro e w2 ⟨v2, rfl, hown, hb⟩
    obtain ⟨A2, c2, rfl, _, _⟩ := row_of_own hown
    have HDJ := Lib.hid (show ∀ k, (Value.slice A2 tail.length c2).ownBlock = some k → Ab ≠ some ⟨k, 0, none⟩ from fun k hk e => by
      have h1 := (hown.lt k hk).1
      have h2 := (HO1.out.lt k (by rw [e]; rfl)).2
      omega)
    have q0 : w2.cell? ⟨q, 1, none⟩ = some (.slice (some ⟨g, 0, none⟩) n c) := (H1.out.kept hb).blk.cell 1
    have q1 : w2.frozen? ⟨q, 1, none⟩ = false := (H1.out.kept hb).blk.frozen 1
    have HW := Lib.hid (HS.out _ _ hb hown)
    have HR2 := Lib.hid ((HR.out.kept hb).tur (Tur.setCell (S := (· = q)) (p := ⟨q, 1, none⟩) (Tur.refl _ _) (.inl rfl) (.slice A2 tail.length c2)) (fun k hk => by subst hk; exact hlq))
    have HO2 := Lib.hid (ownsRow_tur (ownsRow_tur HO1.out (Tur.of_below (S := fun _ => False) hb) (fun _ _ h => h)) (Tur.setCell (S := (· = q)) (p := ⟨q, 1, none⟩) (Tur.refl _ _) (.inl rfl) (.slice A2 tail.length c2)) (fun k hk e => by have := (HO1.out.lt k hk).1; omega))
    clear hown hb
    go_wp2
    exact bodyPost_ret (v := .tuple #[.slice Ab N cb, .bool true, .int .i64 0]) (by simp [results, Tryd.results40, go_sem]) rfl ⟨Ab, cb, rfl, HR2.out, A2, c2, HW.out.1, HW.out.2.1, HW.out.2.2, HDJ.out, HO2.out⟩
/-- What Next leaves, by the pure outcome. -/
def NextQ2 (W : World) (base q : Nat) (most : Int) (A : Option Addr) (n c : Nat) (o : NextO) (e : Ending) (w' : World) : Prop :=
  match o with
  | .wait => e = .returned (.tuple #[.slice none 0 0, .bool false, .int .i64 0]) ∧ W = w'
  | .bad => e = .returned (.tuple #[.slice none 0 0, .bool false, .int .i64 14]) ∧ (∃ g, Blk w' q 108 #[.int .i64 most, .slice A n c, errV g] ∧ Blk w' g 102 #[.int .i64 14, .int .i64 0] ∧ W.heap.size ≤ g) ∧ Tur (· = q) W w'
  | .yes body tail => ∃ A' c', e = .returned (.tuple #[.slice A' body.length c', .bool true, .int .i64 0]) ∧ RowAt w' A' body.length W.heap.size body ∧ ∃ v, Fm w' base q most v tail ∧ Tur (· = q) W w' ∧ (∀ k, v.ownBlock = some k → W.heap.size ≤ k) ∧ (∀ k, v.ownBlock = some k → A' ≠ some ⟨k, 0, none⟩) ∧ w'.ownsRow W.heap.size 5 1 (.slice A' body.length c') body.length (bvs body)
theorem f_next2 (base q : Nat) (most : Int) (A : Option Addr) (n c : Nat) (bs : List Int) (W : World) (h : Fm W base q most (.slice A n c) bs) (hn : bs.length = n) (hw : ∀ x ∈ bs, (Lit.int .u8 x).wf = true) (hbig : n ≤ 140737488355328) :
    Calls Tryd.prog 40 #[.pointer (some ⟨q, 0, none⟩)] W (NextQ2 W base q most A n c (nextP most bs)) := by
  match bs, h, hn, hw with
  | [], h, hn, _ => exact f_next_short base q most A n c _ W h (by simp at hn; omega)
  | [_], h, hn, _ => exact f_next_short base q most A n c _ W h (by simp at hn; omega)
  | [_, _], h, hn, _ => exact f_next_short base q most A n c _ W h (by simp at hn; omega)
  | [_, _, _], h, hn, _ => exact f_next_short base q most A n c _ W h (by simp at hn; omega)
  | b0 :: b1 :: b2 :: b3 :: rest, h, hn, hw =>
    obtain ⟨b0, rfl, k0⟩ := byte_nat (hw b0 (by simp))
    obtain ⟨b1, rfl, k1⟩ := byte_nat (hw b1 (by simp))
    obtain ⟨b2, rfl, k2⟩ := byte_nat (hw b2 (by simp))
    obtain ⟨b3, rfl, k3⟩ := byte_nat (hw b3 (by simp))
    have hn' : n = rest.length + 4 := by simp at hn; omega
    unfold nextP
    simp only [Int.toNat_natCast]
    by_cases hb : be4 b0 b1 b2 b3 < 1 ∨ most < (be4 b0 b1 b2 b3 : Int)
    · rw [if_pos hb]
      exact f_next_bad2 base q most A n c b0 b1 b2 b3 k0 k1 k2 k3 rest W h hn' hb
    · rw [if_neg hb]
      by_cases hs : rest.length < be4 b0 b1 b2 b3
      · rw [if_pos hs]
        exact f_next_wait base q most A n c b0 b1 b2 b3 k0 k1 k2 k3 rest W h hn' ⟨by omega, by omega⟩ (by omega)
      · rw [if_neg hs]
        have hl : (rest.take (be4 b0 b1 b2 b3)).length = be4 b0 b1 b2 b3 := by rw [List.length_take]; omega
        refine (f_next_yes2 base q most A n c b0 b1 b2 b3 k0 k1 k2 k3 (rest.take (be4 b0 b1 b2 b3)) (rest.drop (be4 b0 b1 b2 b3)) W (by rw [List.take_append_drop]; exact h) (by rw [List.take_append_drop]; exact hn') ⟨by omega, by omega⟩ hl hbig).mono ?_
        rintro e w' ⟨A', c', rfl, hr, A2, c2, hf, ht, hfr, hdj, hown⟩
        show ∃ A' c', _
        rw [hl]
        exact ⟨A', c', rfl, hr, _, hf, ht, hfr, hdj, hown⟩
end Go.Proofs.YtdgokebablhoiaaDoor
