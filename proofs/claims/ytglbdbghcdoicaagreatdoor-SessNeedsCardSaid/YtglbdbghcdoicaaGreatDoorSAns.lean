/- Answer and Bad. -/
import Derived.Test.YtglbdbghcdoicaaGreatDoorWNx
import Derived.Test.YtglbdbghcdoicaaGreatDoorCFrs
import Derived.Test.YtglbdbghcdoicaaGreatDoorAsE
namespace Go.Proofs.YtglbdbghcdoicaaGreatDoor
open Go.RowKit

def ansB (r : Rs) : List Int := if checkRs r = 0 then frE (encRs r) else []
/-- A frame at hand, and its code. -/
def AnsQ (W : World) (bs : List Int) (code : Int) (e : Ending) (w' : World) : Prop :=
  ∃ B c, e = .returned (.tuple #[.slice B bs.length c, .int .i64 code]) ∧ RowAt w' B bs.length W.heap.size bs ∧ Below W.heap.size W w'
theorem encRs_pos (r : Rs) : 2 ≤ (encRs r).length := by
  unfold encRs
  rw [List.length_append, List.length_append]
  have h1 := sev_pos r.kind.toNat
  have h2 := sev_pos r.id.toNat
  omega
set_option maxHeartbeats 2000000 in
set_option maxRecDepth 100000 in
theorem s_answer_yes (p : Option Addr) {A : Option Addr} {n : Nat} {r : Rs} {W : World} (h : RsA W A n r) (c : Nat) (h0 : checkRs r = 0) :
    Calls Tryz.prog 33 #[.pointer p, .agg (rsC (.slice A n c) r)] W (AnsQ W (frE (encRs r)) 0) := by
  have bo := (Below.refl W.heap.size W).alloc (Nat.le_refl _) (.cells (rsC (.slice A n c) r) 71)
  have HB := Lib.hid bo
  have HP := Lib.hid (encRs_pos r)
  have HL := Lib.hid (encS_len h)
  have C := Lib.hid (enc_rs (h.below bo) c)
  have HF := frE_len (encRs r)
  have HFE := Lib.hid (show len4 (encRs r).length ++ encRs r = frE (encRs r) from rfl)
  rw [h0, show encS r = encRs r from if_pos h0] at C
  rw [show encS r = encRs r from if_pos h0] at HL
  have hk := (Blk.new W 71 (rsC (.slice A n c) r)).cell
  clear h bo h0
  generalize encRs r = bs at *
  generalize hm : bs.length = m at *
  generalize frE bs = fs at *
  go_enter Tryz.func33, Tryz.ntmps33
  go_wp2_with fail
  go_at_call 59; (with_reducible refine C.out.mono ?_); rintro e w1 ⟨B, rfl, hr, hb⟩
  have B1 := Lib.hid (below_step HB.out hb (Nat.le_refl _))
  have C2 := Lib.hid (frame_yes B bs.length bs.length bs w1 rfl hr.cells (fun e => by rcases hr with ⟨_, h, _⟩ | ⟨g, _, h, _⟩ <;> first | exact h | (rw [e] at h; cases h)) (by have := HP.out; omega) (by have := HL.out; omega))
  rw [hm] at C2 ⊢
  clear hr hb hk
  go_wp2_with fail
  go_at_call 60; (with_reducible refine C2.out.mono ?_); rintro e w2 ⟨A', c', rfl, hr2, hb2⟩
  have R2 := Lib.hid hr2
  have B2 := Lib.hid (below_step B1.out hb2 (Nat.le_refl _))
  clear hr2 hb2 C2 C
  go_wp2
  go_ret2
  refine ⟨A', c', by rw [HF]; rfl, ?_, B2.out⟩
  rw [HF, ← HFE.out]
  exact R2.out.lower B1.out.size
set_option maxHeartbeats 2000000 in
set_option maxRecDepth 100000 in
theorem s_answer_no (p : Option Addr) {A : Option Addr} {n : Nat} {r : Rs} {W : World} (h : RsA W A n r) (c : Nat) (h0 : checkRs r ≠ 0) :
    Calls Tryz.prog 33 #[.pointer p, .agg (rsC (.slice A n c) r)] W (AnsQ W [] (checkRs r)) := by
  have bo := (Below.refl W.heap.size W).alloc (Nat.le_refl _) (.cells (rsC (.slice A n c) r) 71)
  have HB := Lib.hid bo
  have C := Lib.hid (enc_rs (h.below bo) c)
  have hne : (checkRs r == 0) = false := by simpa using h0
  have hk := (Blk.new W 71 (rsC (.slice A n c) r)).cell
  clear h bo
  generalize encS r = bs at *
  generalize checkRs r = code at *
  go_enter Tryz.func33, Tryz.ntmps33
  go_wp2_with fail
  go_at_call 59; (with_reducible refine C.out.mono ?_); rintro e w1 ⟨B, rfl, hr, hb⟩
  have B1 := Lib.hid (below_step HB.out hb (Nat.le_refl _))
  clear hr hb hk C
  go_wp2
  go_ret2
  exact ⟨none, 0, rfl, .inl ⟨rfl, rfl, rfl⟩, B1.out⟩
theorem s_answer (p : Option Addr) {A : Option Addr} {n : Nat} {r : Rs} {W : World} (h : RsA W A n r) (c : Nat) :
    Calls Tryz.prog 33 #[.pointer p, .agg (rsC (.slice A n c) r)] W (AnsQ W (ansB r) (checkRs r)) := by
  unfold ansB
  by_cases h0 : checkRs r = 0
  · rw [if_pos h0, h0]
    exact s_answer_yes p h c h0
  · rw [if_neg h0]
    exact s_answer_no p h c h0
/-- The response that tells an error. -/
abbrev errR (k : Int) : Rs := ⟨5, 0, k, 0, [], st0⟩
theorem errR_ok {k : Int} (h1 : 1 ≤ k) (h2 : k ≤ 255) : checkRs (errR k) = 0 := by
  have hs : ¬ (smallP (errR k).id = false ∨ spareP (errR k)) := by
    rintro (h | h)
    · exact absurd h (by show ¬ smallP 0 = false; decide)
    · unfold spareP at h
      rcases h with ⟨_, h⟩ | ⟨_, h⟩ | ⟨_, h⟩ | ⟨h, _⟩
      · exact h rfl
      · exact h rfl
      · exact h rfl
      · exact h rfl
  unfold checkRs
  rw [if_neg (show ¬ ((5 : Int) < 1 ∨ 5 < (5 : Int)) by decide), if_neg hs, if_neg (show ¬ 256 < ([] : List RowV).length by decide), if_neg (show ¬ firstR [] ≠ 0 by decide), if_neg (show ¬ (5 : Int) = 2 by decide), if_neg (show ¬ (5 : Int) = 4 by decide), if_pos (show (5 : Int) = 5 from rfl), if_neg (show ¬ (k < 1 ∨ 255 < k) by omega)]
def okErr (k : Int) : Int := if k < 1 ∨ 255 < k then 1 else k
def badB (k : Int) : List Int := frE (encRs (errR (okErr k)))
theorem okErr_bd (k : Int) : 1 ≤ okErr k ∧ okErr k ≤ 255 := by unfold okErr; split <;> omega
theorem ansB_err (k : Int) : ansB (errR (okErr k)) = badB k := by unfold ansB badB; rw [if_pos (errR_ok (okErr_bd k).1 (okErr_bd k).2)]
theorem RsA.err (W : World) (k : Int) : RsA W none 0 (errR k) := ⟨rfl, fun k hk => absurd hk (Nat.not_lt_zero _), by omega, fun x hx => absurd hx (List.not_mem_nil), fun x hx => absurd hx (List.not_mem_nil)⟩
theorem s_answer_err (p : Option Addr) (k : Int) (W : World) :
    Calls Tryz.prog 33 #[.pointer p, .agg #[.int .i64 5, .int .i64 0, .int .i64 (okErr k), .int .i64 0, .slice none 0 0, .int .i64 0, .int .i64 0, .int .i64 0, .int .i64 0, .int .i64 0, .int .i64 0]] W (AnsQ W (badB k) 0) := by
  have h := s_answer p (RsA.err W (okErr k)) 0
  rw [ansB_err, errR_ok (okErr_bd k).1 (okErr_bd k).2] at h
  exact h
/-- What Bad leaves. -/
def BadQ (W : World) (bs : List Int) (e : Ending) (w' : World) : Prop := ∃ B c, e = .returned (.slice B bs.length c) ∧ RowAt w' B bs.length W.heap.size bs ∧ Below W.heap.size W w'
set_option maxRecDepth 100000 in
theorem s_bad_nil (p : Option Addr) (W : World) : Calls Tryz.prog 27 #[.pointer p, .nilIface] W (BadQ W []) := by
  go_enter Tryz.func27, Tryz.ntmps27
  go_wp2
  go_ret
  exact ⟨none, 0, rfl, .inl ⟨rfl, rfl, rfl⟩, Below.refl _ _⟩
set_option maxHeartbeats 4000000 in
set_option maxRecDepth 100000 in
theorem s_bad_n (p : Option Addr) (k : Int) (W : World)
    (hA : Calls Tryz.prog 51 #[.iface 26 (.int .i64 k), .iface 112 (.pointer (some ⟨W.heap.size, 0, none⟩))] (W.alloc (.cells #[.int .i64 0] 26)) fun e w' => ∃ W2, e = .returned (.bool true) ∧ w' = W2.setCell ⟨W.heap.size, 0, none⟩ (.int .i64 k) ∧ Below (W.alloc (.cells #[.int .i64 0] 26)).heap.size (W.alloc (.cells #[.int .i64 0] 26)) W2) :
    Calls Tryz.prog 27 #[.pointer p, .iface 26 (.int .i64 k)] W (BadQ W (badB k)) := by
  have C := Lib.hid hA
  clear hA
  go_enter Tryz.func27, Tryz.ntmps27
  go_wp2_with fail
  go_at_call 51; (with_reducible refine C.out.mono ?_); rintro e w1 ⟨W2, rfl, hw, hb⟩
  have K1 := Lib.hid (show Blk w1 W.heap.size 26 #[.int .i64 k] from by rw [hw]; exact ((Blk.new W 26 #[.int .i64 0]).kept hb).set_ 0 _)
  have B1 := Lib.hid (show Below W.heap.size W w1 from by rw [hw]; exact (((Below.refl _ _).alloc (Nat.le_refl _) _).trans (hb.mono (by simp))).setCell (p := ⟨W.heap.size, 0, none⟩) (Nat.le_refl _) _)
  have hc0 : w1.cell? ⟨W.heap.size, 0, none⟩ = some (.int .i64 k) := K1.out.cell 0
  have hf0 : w1.frozen? ⟨W.heap.size, 0, none⟩ = false := K1.out.frozen 0
  clear hw hb C
  by_cases h1 : k < 1
  · have hko : okErr k = 1 := if_pos (.inl h1)
    have d1 : decide (k < 1) = true := by simpa using h1
    have K2 := Lib.hid (K1.out.set_ 0 (.int .i64 1))
    have B2 := Lib.hid (B1.out.setCell (p := ⟨W.heap.size, 0, none⟩) (Nat.le_refl _) (.int .i64 1))
    have C3 := Lib.hid (s_answer_err p k (w1.setCell ⟨W.heap.size, 0, none⟩ (.int .i64 1)))
    rw [hko] at C3
    have hc2 := K2.out.cell 0
    clear h1 hko
    go_wp2_with fail
    go_at_call 33; (with_reducible refine C3.out.mono ?_); rintro e w3 ⟨B, c, rfl, hr, hb⟩
    go_wp2
    go_ret
    exact ⟨B, c, rfl, hr.lower B2.out.size, below_step B2.out hb (Nat.le_refl _)⟩
  · have d1 : decide (k < 1) = false := by simpa using h1
    by_cases h2 : 255 < k
    · have hko : okErr k = 1 := if_pos (.inr h2)
      have d2 : decide (255 < k) = true := by simpa using h2
      have K2 := Lib.hid (K1.out.set_ 0 (.int .i64 1))
      have B2 := Lib.hid (B1.out.setCell (p := ⟨W.heap.size, 0, none⟩) (Nat.le_refl _) (.int .i64 1))
      have C3 := Lib.hid (s_answer_err p k (w1.setCell ⟨W.heap.size, 0, none⟩ (.int .i64 1)))
      rw [hko] at C3
      have hc2 := K2.out.cell 0
      clear h1 h2 hko
      go_wp2_with fail
      go_at_call 33; (with_reducible refine C3.out.mono ?_); rintro e w3 ⟨B, c, rfl, hr, hb⟩
      go_wp2
      go_ret
      exact ⟨B, c, rfl, hr.lower B2.out.size, below_step B2.out hb (Nat.le_refl _)⟩
    · have hko : okErr k = k := if_neg (by omega)
      have d2 : decide (255 < k) = false := by simpa using h2
      have C3 := Lib.hid (s_answer_err p k w1)
      rw [hko] at C3
      clear h1 h2 hko
      go_wp2_with fail
      go_at_call 33; (with_reducible refine C3.out.mono ?_); rintro e w3 ⟨B, c, rfl, hr, hb⟩
      go_wp2
      go_ret
      exact ⟨B, c, rfl, hr.lower B1.out.size, below_step B1.out hb (Nat.le_refl _)⟩
set_option maxHeartbeats 4000000 in
set_option maxRecDepth 100000 in
theorem s_bad_w (p : Option Addr) (g : Nat) (k : Int) (W : World)
    (hA : Calls Tryz.prog 51 #[errV g, .iface 112 (.pointer (some ⟨W.heap.size, 0, none⟩))] (W.alloc (.cells #[.int .i64 0] 26)) fun e w' => ∃ W2, e = .returned (.bool true) ∧ w' = W2.setCell ⟨W.heap.size, 0, none⟩ (.int .i64 k) ∧ Below (W.alloc (.cells #[.int .i64 0] 26)).heap.size (W.alloc (.cells #[.int .i64 0] 26)) W2) :
    Calls Tryz.prog 27 #[.pointer p, errV g] W (BadQ W (badB k)) := by
  have C := Lib.hid hA
  clear hA
  go_enter Tryz.func27, Tryz.ntmps27
  go_wp2_with fail
  go_at_call 51; (with_reducible refine C.out.mono ?_); rintro e w1 ⟨W2, rfl, hw, hb⟩
  have K1 := Lib.hid (show Blk w1 W.heap.size 26 #[.int .i64 k] from by rw [hw]; exact ((Blk.new W 26 #[.int .i64 0]).kept hb).set_ 0 _)
  have B1 := Lib.hid (show Below W.heap.size W w1 from by rw [hw]; exact (((Below.refl _ _).alloc (Nat.le_refl _) _).trans (hb.mono (by simp))).setCell (p := ⟨W.heap.size, 0, none⟩) (Nat.le_refl _) _)
  have hc0 : w1.cell? ⟨W.heap.size, 0, none⟩ = some (.int .i64 k) := K1.out.cell 0
  have hf0 : w1.frozen? ⟨W.heap.size, 0, none⟩ = false := K1.out.frozen 0
  clear hw hb C
  by_cases h1 : k < 1
  · have hko : okErr k = 1 := if_pos (.inl h1)
    have d1 : decide (k < 1) = true := by simpa using h1
    have K2 := Lib.hid (K1.out.set_ 0 (.int .i64 1))
    have B2 := Lib.hid (B1.out.setCell (p := ⟨W.heap.size, 0, none⟩) (Nat.le_refl _) (.int .i64 1))
    have C3 := Lib.hid (s_answer_err p k (w1.setCell ⟨W.heap.size, 0, none⟩ (.int .i64 1)))
    rw [hko] at C3
    have hc2 := K2.out.cell 0
    clear h1 hko
    go_wp2_with fail
    go_at_call 33; (with_reducible refine C3.out.mono ?_); rintro e w3 ⟨B, c, rfl, hr, hb⟩
    go_wp2
    go_ret
    exact ⟨B, c, rfl, hr.lower B2.out.size, below_step B2.out hb (Nat.le_refl _)⟩
  · have d1 : decide (k < 1) = false := by simpa using h1
    by_cases h2 : 255 < k
    · have hko : okErr k = 1 := if_pos (.inr h2)
      have d2 : decide (255 < k) = true := by simpa using h2
      have K2 := Lib.hid (K1.out.set_ 0 (.int .i64 1))
      have B2 := Lib.hid (B1.out.setCell (p := ⟨W.heap.size, 0, none⟩) (Nat.le_refl _) (.int .i64 1))
      have C3 := Lib.hid (s_answer_err p k (w1.setCell ⟨W.heap.size, 0, none⟩ (.int .i64 1)))
      rw [hko] at C3
      have hc2 := K2.out.cell 0
      clear h1 h2 hko
      go_wp2_with fail
      go_at_call 33; (with_reducible refine C3.out.mono ?_); rintro e w3 ⟨B, c, rfl, hr, hb⟩
      go_wp2
      go_ret
      exact ⟨B, c, rfl, hr.lower B2.out.size, below_step B2.out hb (Nat.le_refl _)⟩
    · have hko : okErr k = k := if_neg (by omega)
      have d2 : decide (255 < k) = false := by simpa using h2
      have C3 := Lib.hid (s_answer_err p k w1)
      rw [hko] at C3
      clear h1 h2 hko
      go_wp2_with fail
      go_at_call 33; (with_reducible refine C3.out.mono ?_); rintro e w3 ⟨B, c, rfl, hr, hb⟩
      go_wp2
      go_ret
      exact ⟨B, c, rfl, hr.lower B1.out.size, below_step B1.out hb (Nat.le_refl _)⟩
theorem s_bad_num (p : Option Addr) (k : Int) (W : World) (hT : W.cell? ⟨0, 0, none⟩ = some tyErr) :
    Calls Tryz.prog 27 #[.pointer p, .iface 26 (.int .i64 k)] W (BadQ W (badB k)) :=
  s_bad_n p k W (as_num k W.heap.size (.int .i64 0) _ (tyErr_alloc hT _) ((Blk.new W _ _).cell 0) ((Blk.new W _ _).frozen 0))
theorem s_bad_err (p : Option Addr) (g : Nat) (k pl : Int) (W : World) (hg : Blk W g 111 #[.int .i64 k, .int .i64 pl]) (hT : W.cell? ⟨0, 0, none⟩ = some tyErr) :
    Calls Tryz.prog 27 #[.pointer p, errV g] W (BadQ W (badB k)) :=
  s_bad_w p g k W (as_wrap g k pl W.heap.size (.int .i64 0) _ (hg.alloc _) (tyErr_alloc hT _) ((Blk.new W _ _).cell 0) ((Blk.new W _ _).frozen 0))
end Go.Proofs.YtglbdbghcdoicaaGreatDoor
