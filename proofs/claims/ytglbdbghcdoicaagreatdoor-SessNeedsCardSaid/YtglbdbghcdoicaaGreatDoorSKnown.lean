/- The law's own known: a Pin in two pieces, and its answer. The law's open: a session, or nil. -/
import Derived.Test.YtglbdbghcdoicaaGreatDoorSNext
import Derived.Test.YtglbdbghcdoicaaGreatDoorSAns
namespace Go.Proofs.YtglbdbghcdoicaaGreatDoor
open Go.RowKit

abbrev qPin : Rq := ⟨4, 7, 0, [], ⟨0, ⟨#[]⟩, 0⟩, ⟨0, ⟨#[]⟩, 0⟩, 0⟩
theorem qPin_ok : checkRq qPin = 0 := by decide
theorem encPin : encRq qPin = [4, 7] := by
  unfold encRq bodyRq
  simp [sev_small]
theorem decPin : decRq [4, 7] = (qPin, none) := by
  have := dec_enc_rq qPin_ok []
  rw [List.append_nil, encPin, if_pos rfl] at this
  exact this
abbrev rDone : Rs := ⟨3, 1, 0, 0, [], ⟨0, 0, 0, 0, 0, 0⟩⟩
theorem rDone_ok : checkRs rDone = 0 := by decide
theorem ansDone : ansB rDone = [0, 0, 0, 2, 3, 1] := by
  unfold ansB
  rw [if_pos rDone_ok]
  have e : encRs rDone = [3, 1] := by
    unfold encRs bodyRs
    simp [sev_small]
  rw [e]
  decide
theorem bad15 : (badB 15).length = 7 := by
  unfold badB
  rw [frE_len, show okErr 15 = 15 from rfl]
  have e : encRs (errR 15) = [5, 0, 15] := by
    unfold encRs bodyRs
    simp [sev_small]
  rw [e]
  rfl
theorem wf_small : ∀ xs : List Int, (∀ x ∈ xs, 0 ≤ x ∧ x < 256) → ∀ x ∈ xs, (Lit.int .u8 x).wf = true := fun xs h x hx => by
  have := h x hx
  show (decide (IntKind.u8.min ≤ x) && decide (x ≤ IntKind.u8.max)) = true
  simp only [Bool.and_eq_true, decide_eq_true_eq]
  exact ⟨this.1, by have : IntKind.u8.max = 255 := rfl
                    omega⟩
def st1 : Ses := sFeed ses0 [0, 0, 0]
def st2 : Ses := sFeed st1 [2, 4, 7, 0]
theorem known1 : sNext 16 st1 = (none, st1) := sNext_wait rfl (nextP_short _ _ (by decide))
theorem known2 : sNext 16 st2 = (some qPin, ⟨[0], 1, none⟩) := by
  have h := sNext_yes (most := 16) (s := st2) (body := [4, 7]) (tail := [0]) rfl (nextP_yes 16 [4, 7] [0] (by decide) (by decide) (by decide)) (by rw [decPin])
  rw [decPin] at h
  exact h
set_option maxHeartbeats 8000000 in
set_option maxRecDepth 100000 in
theorem known_true (W : World) (hT : W.cell? ⟨0, 0, none⟩ = some tyErr) :
    Calls Tryz.prog 8 #[] W fun e w' => e = .returned (.bool true) ∧ Below W.heap.size W w' := by
  have HT := Lib.hid (fun (W9 : World) (h : Below W.heap.size W W9) => (h.cell (p := ⟨0, 0, none⟩) (World.block_lt_of_cell? W _ hT)).trans hT)
  clear hT
  go_enter Tryz.func8, Tryz.ntmps8
  go_wp2_with fail
  go_at_call 9; (with_reducible refine (s_new_yes 16 W (by decide) (by decide)).mono ?_); rintro e w1 ⟨s, S, rfl, hx, hS, hb⟩
  have B1 := Lib.hid hb
  have HS := Lib.hid hS
  have bo := (Below.refl w1.heap.size w1).alloc (Nat.le_refl _) (.cells #[.int .u8 0, .int .u8 0, .int .u8 0] 5)
  have B2 := Lib.hid (below_step B1.out bo (Nat.le_refl _))
  have C2 := Lib.hid (s_feed (some ⟨w1.heap.size, 0, none⟩) 3 3 [0, 0, 0] S s 16 ses0 _ (hx.kept bo) rfl (cells_of_blk (more := []) (Blk.new w1 5 #[.int .u8 0, .int .u8 0, .int .u8 0]) rfl) (fun e => by cases e) (wf_small _ (by decide)) (by decide))
  clear hx hS hb bo
  go_wp2_with fail
  go_at_call 12; (with_reducible refine C2.out.mono ?_); rintro e w3 ⟨rfl, S3, hx3, hS3, ht3, hk3⟩
  have HS3 := Lib.hid (show ∀ k, S3 k → W.heap.size ≤ k from fun k hk => (hS3 k hk).elim (HS.out k) (fun h => Nat.le_trans B2.out.size h))
  have B3 := Lib.hid (show Below W.heap.size W w3 from B2.out.trans (ht3.below B2.out.size HS.out))
  have C3 := Lib.hid (s_next hx3 (HT.out _ B3.out) (by decide) (by decide))
  clear hx3 hS3 ht3 hk3 C2
  go_wp2_with fail
  go_at_call 28; (with_reducible refine C3.out.mono ?_); rintro e w4 hq
  unfold NxQ at hq
  rw [show sFeed ses0 [0, 0, 0] = st1 from rfl, known1] at hq
  obtain ⟨S4, A4, c4, ev4, rfl, hx4, hS4, ht4, hk4, hf4, -, -⟩ := hq
  obtain rfl : ev4 = .nilIface := hf4
  have HS4 := Lib.hid (show ∀ k, S4 k → W.heap.size ≤ k from fun k hk => (hS4 k hk).elim (HS3.out k) (fun h => Nat.le_trans B3.out.size h))
  have B4 := Lib.hid (show Below W.heap.size W w4 from B3.out.trans (ht4.below B3.out.size HS3.out))
  have bo4 := (Below.refl w4.heap.size w4).alloc (Nat.le_refl _) (.cells (rqC (.slice A4 rq0.cs.length c4) rq0) 43)
  have B5 := Lib.hid (below_step B4.out bo4 (Nat.le_refl _))
  have HX5 := Lib.hid (hx4.kept bo4)
  clear hx4 hS4 ht4 hk4 C3 bo4
  have bo6 := (Below.refl (w4.alloc (.cells (rqC (.slice A4 rq0.cs.length c4) rq0) 43)).heap.size (w4.alloc (.cells (rqC (.slice A4 rq0.cs.length c4) rq0) 43))).alloc (Nat.le_refl _) (.cells #[.int .u8 2, .int .u8 4, .int .u8 7, .int .u8 0] 5)
  have B6 := Lib.hid (below_step B5.out bo6 (Nat.le_refl _))
  have C6 := Lib.hid (s_feed (some ⟨(w4.alloc (.cells (rqC (.slice A4 rq0.cs.length c4) rq0) 43)).heap.size, 0, none⟩) 4 4 [2, 4, 7, 0] S4 s 16 st1 _ (HX5.out.kept bo6) rfl (cells_of_blk (more := []) (Blk.new _ 5 #[.int .u8 2, .int .u8 4, .int .u8 7, .int .u8 0]) rfl) (fun e => by cases e) (wf_small _ (by decide)) (by decide))
  have hsz5 : (w4.alloc (.cells (rqC (.slice A4 rq0.cs.length c4) rq0) 43)).heap.size = w4.heap.size + 1 := by simp
  rw [hsz5] at C6
  clear bo6 HX5 hsz5
  go_wp2_with fail
  go_at_call 12; (with_reducible refine C6.out.mono ?_); rintro e w7 ⟨rfl, S7, hx7, hS7, ht7, hk7⟩
  have HS7 := Lib.hid (show ∀ k, S7 k → W.heap.size ≤ k from fun k hk => (hS7 k hk).elim (HS4.out k) (fun h => Nat.le_trans B6.out.size h))
  have B7 := Lib.hid (show Below W.heap.size W w7 from B6.out.trans (ht7.below B6.out.size HS4.out))
  have C7 := Lib.hid (s_next hx7 (HT.out _ B7.out) (by decide) (by decide))
  clear hx7 hS7 ht7 hk7 C6
  go_wp2_with fail
  go_at_call 28; (with_reducible refine C7.out.mono ?_); rintro e w8 hq
  unfold NxQ at hq
  rw [show sFeed st1 [2, 4, 7, 0] = st2 from rfl, known2] at hq
  obtain ⟨S8, A8, c8, ev8, rfl, hx8, hS8, ht8, hk8, hf8, -, -⟩ := hq
  obtain rfl : ev8 = .nilIface := hf8
  have B8 := Lib.hid (show Below W.heap.size W w8 from B7.out.trans (ht8.below B7.out.size HS7.out))
  have bo8 := (Below.refl w8.heap.size w8).alloc (Nat.le_refl _) (.cells (rqC (.slice A8 0 c8) qPin) 43)
  have B9 := Lib.hid (below_step B8.out bo8 (Nat.le_refl _))
  have HX9 := Lib.hid (hx8.kept bo8)
  have K9 := Lib.hid (Blk.new w8 43 (rqC (.slice A8 0 c8) qPin))
  have C9 := Lib.hid (s_answer (some ⟨s, 0, none⟩) (A := none) (n := 0) (r := rDone) (W := w8.alloc (.cells (rqC (.slice A8 0 c8) qPin) 43)) ⟨rfl, fun k hk => absurd hk (Nat.not_lt_zero _), by omega, fun x hx => absurd hx (List.not_mem_nil), fun x hx => absurd hx (List.not_mem_nil)⟩ 0)
  rw [ansDone, rDone_ok] at C9
  clear hx8 hS8 ht8 hk8 C7 bo8
  go_wp2_with fail
  go_at_call 33; (with_reducible refine C9.out.mono ?_); rintro e wa ⟨Ba, ca, rfl, hra, hba⟩
  have Ba' := Lib.hid (below_step B9.out hba (Nat.le_refl _))
  have HXa := Lib.hid (HX9.out.kept hba)
  have Ka := Lib.hid (K9.out.kept hba)
  have RA := Lib.hid hra
  clear hra hba C9 HX9 K9
  have hck := Ka.out.cell
  have c1 : (convert 32 9 (.slice Ba 6 ca)).run Tryz.prog wa = .ok (.string (strOfNums [0, 0, 0, 2, 3, 1])) wa := conv_cells (xs := [0, 0, 0, 2, 3, 1]) RA.out.cells rfl ca
  have c2 : (convert 32 9 (.slice (some ⟨wa.heap.size, 0, none⟩) 6 6)).run Tryz.prog (wa.alloc (.cells #[.int .u8 0, .int .u8 0, .int .u8 0, .int .u8 2, .int .u8 3, .int .u8 1] 5)) = .ok (.string (strOfNums [0, 0, 0, 2, 3, 1])) (wa.alloc (.cells #[.int .u8 0, .int .u8 0, .int .u8 0, .int .u8 2, .int .u8 3, .int .u8 1] 5)) :=
    conv_cells (cells_of_blk (xs := [0, 0, 0, 2, 3, 1]) (more := []) (Blk.new wa 5 #[.int .u8 0, .int .u8 0, .int .u8 0, .int .u8 2, .int .u8 3, .int .u8 1]) rfl) rfl 6
  have bob := (Below.refl wa.heap.size wa).alloc (Nat.le_refl _) (.cells #[.int .u8 0, .int .u8 0, .int .u8 0, .int .u8 2, .int .u8 3, .int .u8 1] 5)
  have Bb := Lib.hid (below_step Ba'.out bob (Nat.le_refl _))
  have Cb := Lib.hid (s_bad_num (some ⟨s, 0, none⟩) 15 _ (HT.out _ Bb.out))
  have Cas := Lib.hid (s_asked S8 s 16 ⟨[0], 1, none⟩ wa HXa.out)
  clear bob
  generalize hstr : strOfNums [0, 0, 0, 2, 3, 1] = str at *
  clear hstr
  go_wp2_with fail
  go_at_call 29; (with_reducible refine Cas.out.mono ?_); rintro e wb ⟨rfl, rfl⟩
  go_wp2_with fail
  go_at_call 27; (with_reducible refine Cb.out.mono ?_); rintro e wc ⟨Bc, cc, rfl, hrc, hbc⟩
  have Bd := Lib.hid (below_step Bb.out hbc (Nat.le_refl _))
  rw [bad15]
  clear hrc hbc
  go_wp2
  go_ret
  exact ⟨rfl, Bd.out⟩
end Go.Proofs.YtglbdbghcdoicaaGreatDoor

namespace Go.Proofs.YtglbdbghcdoicaaGreatDoor
open Go.RowKit

set_option maxRecDepth 100000 in
theorem open_no (most : Int) (W : World) (h : most < 16 ∨ 65536 < most) :
    Calls Tryz.prog 23 #[.int .i64 most] W fun e w' => e = .returned (.pointer none) ∧ W = w' := by
  have C1 := Lib.hid (s_new_no most W h)
  clear h
  go_enter Tryz.func23, Tryz.ntmps23
  go_wp2_with fail
  go_at_call 9; (with_reducible refine C1.out.mono ?_); rintro e w2 ⟨rfl, rfl⟩
  go_wp2
  go_ret
  exact ⟨rfl, rfl⟩
set_option maxRecDepth 100000 in
theorem open_yes (most : Int) (W : World) (h1 : 16 ≤ most) (h2 : most ≤ 65536) :
    Calls Tryz.prog 23 #[.int .i64 most] W fun e w' => ∃ s S, e = .returned (.pointer (some ⟨s, 0, none⟩)) ∧ Sx w' S s most ses0 ∧ (∀ k, S k → W.heap.size ≤ k) ∧ Below W.heap.size W w' := by
  have C1 := Lib.hid (s_new_yes most W h1 h2)
  clear h1 h2
  go_enter Tryz.func23, Tryz.ntmps23
  go_wp2_with fail
  go_at_call 9; (with_reducible refine C1.out.mono ?_); rintro e w2 ⟨s, S, rfl, hx, hS, hb⟩
  go_wp2
  go_ret
  exact ⟨s, S, rfl, hx, hS, hb⟩
end Go.Proofs.YtglbdbghcdoicaaGreatDoor
