/- The pure Next of frames; the program's follows it. -/
import Derived.Test.YtdgokebablhoiaaDoorWNext2
import Derived.Test.YtdgokebablhoiaaDoorWReader
namespace Go.Proofs.YtdgokebablhoiaaDoor
open Go.RowKit

set_option maxHeartbeats 1000000 in
set_option maxRecDepth 100000 in
theorem f_next_bad2 (base q : Nat) (most : Int) (A : Option Addr) (n c : Nat) (b0 b1 b2 b3 : Nat) (k0 : b0 < 256) (k1 : b1 < 256) (k2 : b2 < 256) (k3 : b3 < 256) (rest : List Int) (W : World) (h : Fm W base q most (.slice A n c) ((b0 : Int) :: b1 :: b2 :: b3 :: rest)) (hn : n = rest.length + 4) (hb : be4 b0 b1 b2 b3 < 1 ∨ most < (be4 b0 b1 b2 b3 : Int)) :
    Calls Tryd.prog 40 #[.pointer (some ⟨q, 0, none⟩)] W fun e w' => e = .returned (.tuple #[.slice none 0 0, .bool false, .int .i64 14]) ∧ (∃ g, Blk w' q 108 #[.int .i64 most, .slice A n c, errV g] ∧ Blk w' g 102 #[.int .i64 14, .int .i64 0] ∧ W.heap.size ≤ g) ∧ Tur (· = q) W w' := by
  have H := Lib.hid h
  have p1 : W.cell? ⟨q, 1, none⟩ = some (.slice A n c) := h.blk.cell 1
  have p0 : W.cell? ⟨q, 0, none⟩ = some (.int .i64 most) := h.blk.cell 0
  have p2 : W.cell? ⟨q, 2, none⟩ = some .nilIface := h.blk.cell 2
  have h4 : 4 ≤ n := by omega
  obtain ⟨A', c', e, hr, hc⟩ := row_of_own h.own
  clear h hn
  rcases hr with ⟨_, h, _⟩ | ⟨g, cur, hA, _, hg, _, _, ht⟩
  · simp at h
  injection e with e1 e2 e3
  subst e1
  subst e3
  subst hA
  have g0 : W.cell? ⟨g, 0, none⟩ = some (.int .u8 (b0 : Int)) := cell_take hg ht 0 (by simp [bvs])
  have g1 : W.cell? ⟨g, 1, none⟩ = some (.int .u8 (b1 : Int)) := cell_take hg ht 1 (by simp [bvs])
  have g2 : W.cell? ⟨g, 2, none⟩ = some (.int .u8 (b2 : Int)) := cell_take hg ht 2 (by simp [bvs])
  have g3 : W.cell? ⟨g, 3, none⟩ = some (.int .u8 (b3 : Int)) := cell_take hg ht 3 (by simp [bvs])
  have hcn : n ≤ c := by rw [e2]; exact hc
  clear hg ht hc e2
  obtain ⟨N1, e1⟩ : ∃ N1, N1 = b0 * 256 + b1 := ⟨_, rfl⟩
  obtain ⟨N2, e2⟩ : ∃ N2, N2 = N1 * 256 + b2 := ⟨_, rfl⟩
  obtain ⟨N, e3⟩ : ∃ N, N = N2 * 256 + b3 := ⟨_, rfl⟩
  have hN : be4 b0 b1 b2 b3 = N := by unfold be4; rw [e3, e2, e1]
  rw [hN] at hb
  have o0 := or0 b0 k0
  have o1 : bits .or .i64 ((b0 : Int) * 256) (b1 : Int) = (N1 : Int) := by rw [or256 b0 b1 (by omega) k1]; omega
  have o2 : bits .or .i64 ((N1 : Int) * 256) (b2 : Int) = (N2 : Int) := by rw [or256 N1 b2 (by omega) k2]; omega
  have o3 : bits .or .i64 ((N2 : Int) * 256) (b3 : Int) = (N : Int) := by rw [or256 N2 b3 (by omega) k3]; omega
  have j1 : N1 ≤ 65535 := by omega
  have j2 : N2 ≤ 16777215 := by omega
  have j3 : N ≤ 4294967295 := by omega
  have hp : W.frozen? ⟨q, 2, none⟩ = false := H.out.blk.frozen 2
  have hlq := H.out.blk.lt
  clear e1 e2 e3 hN
  go_enter Tryd.func40, Tryd.ntmps40
  go_wp2_with (go_at_call 34; (with_reducible refine (is_nil _ _).mono ?_); rintro e w1 ⟨rfl, rfl⟩)
  refine wp_loop_rounds 5 ?_
  rw [rounds_succ]
  go_wp2
  rw [rounds_succ]
  go_wp2
  rw [rounds_succ]
  go_wp2
  rw [rounds_succ]
  go_wp2
  by_cases hN1 : N < 1
  · clear hb
    rw [rounds_succ]
    go_wp2
    exact bodyPost_ret (v := .tuple #[.slice none 0 0, .bool false, .int .i64 14]) (by simp [results, Tryd.results40, go_sem]) rfl ⟨rfl, ⟨W.heap.size, (H.out.blk.set_ 2 _).alloc _, blk_last (by simp [World.setCell]), Nat.le_refl _⟩, (Tur.setCell (S := (· = q)) (p := ⟨q, 2, none⟩) (Tur.refl _ _) (.inl rfl) _).alloc _⟩
  · have hm : most < (N : Int) := by omega
    have h1 : decide ((N : Int) < 1) = false := by simp; omega
    have h2 : decide (most < (N : Int)) = true := by simpa using hm
    clear hb hN1
    rw [rounds_succ]
    go_wp2
    exact bodyPost_ret (v := .tuple #[.slice none 0 0, .bool false, .int .i64 14]) (by simp [results, Tryd.results40, go_sem]) rfl ⟨rfl, ⟨W.heap.size, (H.out.blk.set_ 2 _).alloc _, blk_last (by simp [World.setCell]), Nat.le_refl _⟩, (Tur.setCell (S := (· = q)) (p := ⟨q, 2, none⟩) (Tur.refl _ _) (.inl rfl) _).alloc _⟩


inductive NextO where
  | wait
  | bad
  | yes (body tail : List Int)
def nextP (most : Int) : List Int → NextO
  | b0 :: b1 :: b2 :: b3 :: rest =>
    if be4 b0.toNat b1.toNat b2.toNat b3.toNat < 1 ∨ most < (be4 b0.toNat b1.toNat b2.toNat b3.toNat : Int) then .bad
    else if rest.length < be4 b0.toNat b1.toNat b2.toNat b3.toNat then .wait
    else .yes (rest.take (be4 b0.toNat b1.toNat b2.toNat b3.toNat)) (rest.drop (be4 b0.toNat b1.toNat b2.toNat b3.toNat))
  | _ => .wait
/-- What Next leaves, by the pure outcome. -/
def NextQ (W : World) (base q : Nat) (most : Int) (A : Option Addr) (n c : Nat) (o : NextO) (e : Ending) (w' : World) : Prop :=
  match o with
  | .wait => e = .returned (.tuple #[.slice none 0 0, .bool false, .int .i64 0]) ∧ W = w'
  | .bad => e = .returned (.tuple #[.slice none 0 0, .bool false, .int .i64 14]) ∧ (∃ g, Blk w' q 108 #[.int .i64 most, .slice A n c, errV g] ∧ Blk w' g 102 #[.int .i64 14, .int .i64 0] ∧ W.heap.size ≤ g) ∧ Tur (· = q) W w'
  | .yes body tail => ∃ A' c', e = .returned (.tuple #[.slice A' body.length c', .bool true, .int .i64 0]) ∧ RowAt w' A' body.length W.heap.size body ∧ ∃ v, Fm w' base q most v tail ∧ Tur (· = q) W w'
theorem byte_nat {x : Int} (h : (Lit.int .u8 x).wf = true) : ∃ b : Nat, x = (b : Int) ∧ b < 256 := by
  have := bounds_u8 h
  exact ⟨x.toNat, by omega, by omega⟩
theorem f_next (base q : Nat) (most : Int) (A : Option Addr) (n c : Nat) (bs : List Int) (W : World) (h : Fm W base q most (.slice A n c) bs) (hn : bs.length = n) (hw : ∀ x ∈ bs, (Lit.int .u8 x).wf = true) (hbig : n ≤ 140737488355328) :
    Calls Tryd.prog 40 #[.pointer (some ⟨q, 0, none⟩)] W (NextQ W base q most A n c (nextP most bs)) := by
  match bs, h, hn, hw with
  | [], h, hn, _ => exact f_next_short base q most A n c _ W h (by simp at hn; omega)
  | [_], h, hn, _ => exact f_next_short base q most A n c _ W h (by simp at hn; omega)
  | [_, _], h, hn, _ => exact f_next_short base q most A n c _ W h (by simp at hn; omega)
  | [_, _, _], h, hn, _ => exact f_next_short base q most A n c _ W h (by simp at hn; omega)
  | b0 :: b1 :: b2 :: b3 :: rest, h, hn, hw =>
    obtain ⟨b0, rfl, k0⟩ := byte_nat (hw b0 (by simp))
    obtain ⟨b1, rfl, k1⟩ := byte_nat (hw b1 (by simp))
    obtain ⟨b2, rfl, k2⟩ := byte_nat (hw b2 (by simp))
    obtain ⟨b3, rfl, k3⟩ := byte_nat (hw b3 (by simp))
    have hn' : n = rest.length + 4 := by simp at hn; omega
    unfold nextP
    simp only [Int.toNat_natCast]
    by_cases hb : be4 b0 b1 b2 b3 < 1 ∨ most < (be4 b0 b1 b2 b3 : Int)
    · rw [if_pos hb]
      exact f_next_bad2 base q most A n c b0 b1 b2 b3 k0 k1 k2 k3 rest W h hn' hb
    · rw [if_neg hb]
      by_cases hs : rest.length < be4 b0 b1 b2 b3
      · rw [if_pos hs]
        exact f_next_wait base q most A n c b0 b1 b2 b3 k0 k1 k2 k3 rest W h hn' ⟨by omega, by omega⟩ (by omega)
      · rw [if_neg hs]
        have hl : (rest.take (be4 b0 b1 b2 b3)).length = be4 b0 b1 b2 b3 := by rw [List.length_take]; omega
        refine (f_next_yes base q most A n c b0 b1 b2 b3 k0 k1 k2 k3 (rest.take (be4 b0 b1 b2 b3)) (rest.drop (be4 b0 b1 b2 b3)) W (by rw [List.take_append_drop]; exact h) (by rw [List.take_append_drop]; exact hn') ⟨by omega, by omega⟩ hl hbig).mono ?_
        rintro e w' ⟨A', c', rfl, hr, A2, c2, hf, ht⟩
        show ∃ A' c', _
        rw [hl]
        exact ⟨A', c', rfl, hr, _, hf, ht⟩
/-- A frame of a body. -/
def frE (body : List Int) : List Int := len4 body.length ++ body
theorem frE_len (body : List Int) : (frE body).length = 4 + body.length := by simp [frE, len4]; omega
theorem nextP_len4 (most : Int) (n : Nat) (rest : List Int) (h1 : 1 ≤ n) (h2 : n ≤ 65536) (hm : (n : Int) ≤ most) : nextP most (len4 n ++ rest) = if rest.length < n then .wait else .yes (rest.take n) (rest.drop n) := by
  rw [show len4 n ++ rest = (n : Int) / 16777216 :: (n : Int) / 65536 :: (n : Int) / 256 % 256 :: (n : Int) % 256 :: rest from rfl]
  unfold nextP
  have e : be4 ((n : Int) / 16777216).toNat ((n : Int) / 65536).toNat ((n : Int) / 256 % 256).toNat ((n : Int) % 256).toNat = n := by
    rw [show ((n : Int) / 16777216).toNat = n / 16777216 by omega, show ((n : Int) / 65536).toNat = n / 65536 by omega, show ((n : Int) / 256 % 256).toNat = n / 256 % 256 by omega, show ((n : Int) % 256).toNat = n % 256 by omega]
    unfold be4
    omega
  simp only [e]
  rw [if_neg (by omega)]
theorem nextP_yes (most : Int) (body tail : List Int) (h1 : 1 ≤ body.length) (h2 : body.length ≤ 65536) (hm : (body.length : Int) ≤ most) : nextP most (frE body ++ tail) = .yes body tail := by
  unfold frE
  rw [List.append_assoc, nextP_len4 most _ _ h1 h2 hm, if_neg (by rw [List.length_append]; omega), List.take_left, List.drop_left]
theorem nextP_short (most : Int) (bs : List Int) (h : bs.length < 4) : nextP most bs = .wait := by
  match bs, h with
  | [], _ => rfl
  | [_], _ => rfl
  | [_, _], _ => rfl
  | [_, _, _], _ => rfl
  | _ :: _ :: _ :: _ :: _, h => simp at h; omega
theorem nextP_front (most : Int) (body : List Int) (j : Nat) (h1 : 1 ≤ body.length) (h2 : body.length ≤ 65536) (hm : (body.length : Int) ≤ most) (hj : j < 4 + body.length) : nextP most ((frE body).take j) = .wait := by
  by_cases h4 : j < 4
  · exact nextP_short _ _ (by rw [List.length_take]; omega)
  · unfold frE
    have hl : (len4 body.length).length = 4 := rfl
    rw [List.take_append, List.take_of_length_le (by omega), nextP_len4 most _ _ h1 h2 hm, if_pos (by rw [List.length_take]; omega)]
/-- One step of a row of frames: what is held is a front of what is to come. -/
theorem nextP_step (most : Int) (body F R E : List Int) (h : F ++ R = frE body ++ E) (h1 : 1 ≤ body.length) (h2 : body.length ≤ 65536) (hm : (body.length : Int) ≤ most) :
    (∃ F', nextP most F = .yes body F' ∧ F' ++ R = E ∧ F.length = 4 + body.length + F'.length) ∨ (nextP most F = .wait ∧ F.length < 4 + body.length) := by
  by_cases hl : F.length < 4 + body.length
  · refine .inr ⟨?_, hl⟩
    have e : F = (frE body).take F.length := by
      have := congrArg (List.take F.length) h
      rw [List.take_left, List.take_append_of_le_length (by rw [frE_len]; omega)] at this
      exact this
    rw [e]
    exact nextP_front most body _ h1 h2 hm (by omega)
  · left
    have e : F = frE body ++ F.drop (frE body).length := by
      have := congrArg (List.take (frE body).length) h
      rw [List.take_left, List.take_append_of_le_length (by rw [frE_len]; omega)] at this
      conv => lhs; rw [← List.take_append_drop (frE body).length F, this]
    refine ⟨F.drop (frE body).length, ?_, ?_, ?_⟩
    · conv => lhs; rw [e]
      exact nextP_yes most body _ h1 h2 hm
    · rw [e, List.append_assoc] at h
      exact List.append_cancel_left h
    · rw [List.length_drop, frE_len]; omega
end Go.Proofs.YtdgokebablhoiaaDoor
