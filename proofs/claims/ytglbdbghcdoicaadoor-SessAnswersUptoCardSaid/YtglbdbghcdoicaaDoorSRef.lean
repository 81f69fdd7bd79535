/- The document's Answer and Bad. -/
import Derived.Test.YtglbdbghcdoicaaDoorSAns
import Derived.Test.YtglbdbghcdoicaaDoorCRefs
namespace Go.Proofs.YtglbdbghcdoicaaDoor
open Go.RowKit

set_option maxRecDepth 100000 in
theorem rf_frame (A : Option Addr) (n c : Nat) (xs : List Int) (W : World) (hl : xs.length = n) (h : CellsAt W A (bvs xs)) (hA : A = none → c = 0) (h2 : n ≤ 65536) :
    Calls Tryd.prog 36 #[.slice A n c] W fun e w' => ∃ A' c', e = .returned (.slice A' (4 + n) c') ∧ RowAt w' A' (4 + n) W.heap.size (len4 n ++ xs) ∧ Below W.heap.size W w' := by
  have H := Lib.hid h
  have HL := Lib.hid hl
  have HA := Lib.hid hA
  clear h hl hA
  go_enter Tryd.func36, Tryd.ntmps36
  go_wp2_with (at_builtin; refine wpList_append_bytes rfl _ _ rfl W.heap.size _ 4 (len4 n) rfl (own_cells4 W _ _ _ _) A n c HA.out xs rfl HL.out (H.out.below ((Below.refl _ _).alloc (Nat.le_refl _) _)) (by omega) (by simp) ?_
               intro v' w2 hown hg hv
               have B2 := Lib.hid (below_grown ((Below.refl W.heap.size W).alloc (Nat.le_refl _) (.cells #[.int .u8 ((n : Int) / 16777216), .int .u8 ((n : Int) / 65536), .int .u8 ((n : Int) / 256 % 256), .int .u8 ((n : Int) % 256)] 5)) hg (by intro g hg; cases hg; exact Nat.le_refl _) (by simp))
               have HO := Lib.hid hown
               clear hown hg hv)
  go_ret
  obtain ⟨A', c', rfl, hr, _⟩ := row_of_own (xs := len4 n ++ xs) (by rw [bvs_append]; exact HO.out)
  exact ⟨A', c', rfl, hr, B2.out⟩
set_option maxHeartbeats 2000000 in
set_option maxRecDepth 100000 in
theorem rf_answer_yes {A : Option Addr} {n : Nat} {r : Rs} {W : World} (h : RsA W A n r) (c : Nat) (h0 : checkRs r = 0) :
    Calls Tryd.prog 11 #[.agg (rsC (.slice A n c) r)] W (AnsQ W (frE (encRs r)) 0) := by
  have bo := (Below.refl W.heap.size W).alloc (Nat.le_refl _) (.cells (rsC (.slice A n c) r) 27)
  have HB := Lib.hid bo
  have HL := Lib.hid (encS_len h)
  have C := Lib.hid (refenc_rs (h.below bo) c)
  have HF := frE_len (encRs r)
  have HFE := Lib.hid (show len4 (encRs r).length ++ encRs r = frE (encRs r) from rfl)
  rw [h0, show encS r = encRs r from if_pos h0] at C
  rw [show encS r = encRs r from if_pos h0] at HL
  have hk := (Blk.new W 27 (rsC (.slice A n c) r)).cell
  clear h bo h0
  generalize encRs r = bs at *
  generalize hm : bs.length = m at *
  generalize frE bs = fs at *
  go_enter Tryd.func11, Tryd.ntmps11
  go_wp2_with fail
  go_at_call 35; (with_reducible refine C.out.mono ?_); rintro e w1 ⟨v, rfl, ho, hb⟩
  obtain ⟨B, cB, rfl, hc, hn⟩ := ho.form
  have B1 := Lib.hid (below_step HB.out hb (Nat.le_refl _))
  have C2 := Lib.hid (rf_frame B bs.length cB bs w1 rfl hc hn (by have := HL.out; omega))
  rw [hm] at C2 ⊢
  clear ho hb hk hc hn
  go_wp2_with fail
  go_at_call 36; (with_reducible refine C2.out.mono ?_); rintro e w2 ⟨A', c', rfl, hr2, hb2⟩
  have R2 := Lib.hid hr2
  have B2 := Lib.hid (below_step B1.out hb2 (Nat.le_refl _))
  clear hr2 hb2 C2 C
  go_wp2
  go_ret2
  refine ⟨A', c', by rw [HF]; rfl, ?_, B2.out⟩
  rw [HF, ← HFE.out]
  exact R2.out.lower B1.out.size
set_option maxHeartbeats 2000000 in
set_option maxRecDepth 100000 in
theorem rf_answer_no {A : Option Addr} {n : Nat} {r : Rs} {W : World} (h : RsA W A n r) (c : Nat) (h0 : checkRs r ≠ 0) :
    Calls Tryd.prog 11 #[.agg (rsC (.slice A n c) r)] W (AnsQ W [] (checkRs r)) := by
  have bo := (Below.refl W.heap.size W).alloc (Nat.le_refl _) (.cells (rsC (.slice A n c) r) 27)
  have HB := Lib.hid bo
  have C := Lib.hid (refenc_rs (h.below bo) c)
  have hne : (checkRs r == 0) = false := by simpa using h0
  have hk := (Blk.new W 27 (rsC (.slice A n c) r)).cell
  clear h bo
  generalize encS r = bs at *
  generalize checkRs r = code at *
  go_enter Tryd.func11, Tryd.ntmps11
  go_wp2_with fail
  go_at_call 35; (with_reducible refine C.out.mono ?_); rintro e w1 ⟨v, rfl, ho, hb⟩
  obtain ⟨B, cB, rfl, hc, hn⟩ := ho.form
  have B1 := Lib.hid (below_step HB.out hb (Nat.le_refl _))
  clear ho hb hk C hc hn
  go_wp2
  go_ret2
  exact ⟨none, 0, rfl, .inl ⟨rfl, rfl, rfl⟩, B1.out⟩
theorem rf_answer {A : Option Addr} {n : Nat} {r : Rs} {W : World} (h : RsA W A n r) (c : Nat) :
    Calls Tryd.prog 11 #[.agg (rsC (.slice A n c) r)] W (AnsQ W (ansB r) (checkRs r)) := by
  unfold ansB
  by_cases h0 : checkRs r = 0
  · rw [if_pos h0, h0]
    exact rf_answer_yes h c h0
  · rw [if_neg h0]
    exact rf_answer_no h c h0
theorem rf_answer_err (k : Int) (W : World) :
    Calls Tryd.prog 11 #[.agg #[.int .i64 5, .int .i64 0, .int .i64 (okErr k), .int .i64 0, .slice none 0 0, .int .i64 0, .int .i64 0, .int .i64 0, .int .i64 0, .int .i64 0, .int .i64 0]] W (AnsQ W (badB k) 0) := by
  have h := rf_answer (RsA.err W (okErr k)) 0
  rw [ansB_err, errR_ok (okErr_bd k).1 (okErr_bd k).2] at h
  exact h
set_option maxHeartbeats 2000000 in
set_option maxRecDepth 100000 in
theorem rf_bad (k : Int) (W : World) : Calls Tryd.prog 14 #[.int .i64 k] W (BadQ W (badB k)) := by
  have C3 := Lib.hid (rf_answer_err k W)
  by_cases h1 : k < 1
  · have hko : okErr k = 1 := if_pos (.inl h1)
    rw [hko] at C3
    have d1 : decide (k < 1) = true := by simpa using h1
    clear h1 hko
    go_enter Tryd.func14, Tryd.ntmps14
    go_wp2_with fail
    go_at_call 11; (with_reducible refine C3.out.mono ?_); rintro e w3 ⟨B, c, rfl, hr, hb⟩
    go_wp2
    go_ret
    exact ⟨B, c, rfl, hr, hb⟩
  · have d1 : decide (k < 1) = false := by simpa using h1
    by_cases h2 : 255 < k
    · have hko : okErr k = 1 := if_pos (.inr h2)
      rw [hko] at C3
      have d2 : decide (255 < k) = true := by simpa using h2
      clear h1 h2 hko
      go_enter Tryd.func14, Tryd.ntmps14
      go_wp2_with fail
      go_at_call 11; (with_reducible refine C3.out.mono ?_); rintro e w3 ⟨B, c, rfl, hr, hb⟩
      go_wp2
      go_ret
      exact ⟨B, c, rfl, hr, hb⟩
    · have hko : okErr k = k := if_neg (by omega)
      rw [hko] at C3
      have d2 : decide (255 < k) = false := by simpa using h2
      clear h1 h2 hko
      go_enter Tryd.func14, Tryd.ntmps14
      go_wp2_with fail
      go_at_call 11; (with_reducible refine C3.out.mono ?_); rintro e w3 ⟨B, c, rfl, hr, hb⟩
      go_wp2
      go_ret
      exact ⟨B, c, rfl, hr, hb⟩
end Go.Proofs.YtglbdbghcdoicaaDoor
