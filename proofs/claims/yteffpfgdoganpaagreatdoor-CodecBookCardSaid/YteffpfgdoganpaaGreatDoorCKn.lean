/- The law's own known: a Pin there and back. CodecForm: the walk. -/
import Derived.Test.YteffpfgdoganpaaGreatDoorCDecRw
import Derived.Test.YteffpfgdoganpaaGreatDoorCDecKs
import Derived.Test.YteffpfgdoganpaaGreatDoorCFrs
namespace Go.Proofs.YteffpfgdoganpaaGreatDoor
open Go.RowKit
set_option maxRecDepth 100000
set_option maxHeartbeats 32000000

abbrev qPin : Rq := ⟨4, 7, 0, [], ⟨0, ⟨#[]⟩, 0⟩, ⟨0, ⟨#[]⟩, 0⟩, 0⟩
abbrev rPin : Rs := ⟨2, 7, 0, 1, [], ⟨0, 0, 0, 0, 0, 0⟩⟩
theorem qPin_ok : checkRq qPin = 0 := by decide
theorem rPin_ok : checkRs rPin = 0 := by decide
theorem encPin : encRq qPin = [4, 7] := by
  unfold encRq bodyRq
  simp [sev_small]
theorem encPinS : encRs rPin = [2, 7, 1] := by
  unfold encRs bodyRs
  simp [sev_small]
theorem decPin : decRq [4, 7] = (qPin, none) := by
  have := dec_enc_rq qPin_ok []
  rw [List.append_nil, encPin, if_pos rfl] at this
  exact this
theorem decPinS : decRs [2, 7, 1] = (rPin, none) := by
  have := dec_enc_rs rPin_ok (fun x hx => absurd hx (List.not_mem_nil)) []
  rw [List.append_nil, encPinS, if_pos rfl] at this
  exact this
theorem wf_small : ∀ xs : List Int, (∀ x ∈ xs, 0 ≤ x ∧ x < 256) → ∀ x ∈ xs, (Lit.int .u8 x).wf = true := fun xs h x hx => by
  have := h x hx
  show (decide (IntKind.u8.min ≤ x) && decide (x ≤ IntKind.u8.max)) = true
  simp only [Bool.and_eq_true, decide_eq_true_eq]
  exact ⟨this.1, by have : IntKind.u8.max = 255 := rfl
                    omega⟩

theorem known_true (W : World) (hT : W.cell? ⟨0, 0, none⟩ = some tyErr) :
    Calls Tryz.prog 6 #[] W fun e w' => e = .returned (.bool true) ∧ Below W.heap.size W w' := by
  have HT := Lh (fun (W9 : World) (h : Below W.heap.size W W9) => (h.cell (p := ⟨0, 0, none⟩) (World.block_lt_of_cell? W _ hT)).trans hT)
  have CQ := Lh (encode_rq none 0 0 qPin W rfl (fun k hk => absurd hk (by simp)) (by omega) ⟨fun x hx => absurd hx (List.not_mem_nil), by decide, by decide⟩ qPin_ok)
  clear hT
  go_enter Tryz.func6, Tryz.ntmps6
  go_wp2_with fail
  go_at_call 21; (with_reducible refine CQ.out.mono ?_); rintro e w1 ⟨A1, rfl, hr1, hb1⟩
  rw [encPin] at hr1 ⊢
  have RA := Lh hr1
  have B1 := Lh hb1
  clear hr1 hb1 CQ
  have hc2 : CellsAt (w1.alloc (.cells #[.int .u8 4, .int .u8 7] 5)) (some ⟨w1.heap.size, 0, none⟩) (bvs [4, 7]) := cells_of_blk (more := []) (Blk.new w1 5 #[.int .u8 4, .int .u8 7]) rfl
  have B2 := Lh (B1.out.alloc B1.out.size (.cells #[.int .u8 4, .int .u8 7] 5))
  have C2 := Lh (decode_rq (some ⟨w1.heap.size, 0, none⟩) 2 2 [4, 7] (w1.alloc (.cells #[.int .u8 4, .int .u8 7] 5)) rfl hc2 (wf_small _ (by simp)) (by omega) (HT.out _ B2.out))
  clear hc2
  go_wp2_with fail
  go_at_call 8; (with_reducible refine C2.out.mono ?_); rintro e w3 ⟨hb3, hq⟩
  rw [decPin] at hq
  obtain ⟨v3, rfl, hv3⟩ := hq
  obtain ⟨A3, c3, rfl, _, _⟩ := CellsOwn.rd hv3
  have B3 := Lh (B2.out.trans (hb3.mono B2.out.size))
  have RA3 := Lh ((RA.out.kept_ ((Below.refl w1.heap.size w1).alloc (Nat.le_refl _) (.cells #[.int .u8 4, .int .u8 7] 5))).kept_ hb3)
  clear hb3 C2 RA hv3
  have hs4 : (w3.alloc (.cells (rqC (.slice A3 0 c3) qPin) 29)).heap.size = w3.heap.size + 1 := by simp
  have K3 := Lh ((Blk.new w3 29 (rqC (.slice A3 0 c3) qPin)).alloc (.cells #[.int .u8 2, .int .u8 7, .int .u8 1] 5))
  have hc5 : CellsAt ((w3.alloc (.cells (rqC (.slice A3 0 c3) qPin) 29)).alloc (.cells #[.int .u8 2, .int .u8 7, .int .u8 1] 5)) (some ⟨w3.heap.size + 1, 0, none⟩) (bvs [2, 7, 1]) := hs4 ▸ cells_of_blk (more := []) (Blk.new (w3.alloc (.cells (rqC (.slice A3 0 c3) qPin) 29)) 5 #[.int .u8 2, .int .u8 7, .int .u8 1]) rfl
  have B5 := Lh ((B3.out.alloc B3.out.size (.cells (rqC (.slice A3 0 c3) qPin) 29)).alloc (by have := B3.out.size; omega) (.cells #[.int .u8 2, .int .u8 7, .int .u8 1] 5))
  have RA5 := Lh ((RA3.out.kept_ ((Below.refl w3.heap.size w3).alloc (Nat.le_refl _) (.cells (rqC (.slice A3 0 c3) qPin) 29))).kept_ ((Below.refl _ _).alloc (Nat.le_refl _) (.cells #[.int .u8 2, .int .u8 7, .int .u8 1] 5)))
  have C5 := Lh (decode_rs (some ⟨w3.heap.size + 1, 0, none⟩) 3 3 [2, 7, 1] _ rfl hc5 (wf_small _ (by simp)) (by omega) (HT.out _ B5.out))
  clear hc5 RA3
  go_wp2_with fail
  go_at_call 9; (with_reducible refine C5.out.mono ?_); rintro e w6 ⟨hb6, hq⟩
  rw [decPinS] at hq
  obtain ⟨v6, rfl, hv6⟩ := hq
  obtain ⟨A6, c6, rfl, _, _⟩ := RowsOwn.rd hv6
  clear hv6
  have B6 := Lh (B5.out.trans (hb6.mono B5.out.size))
  have K6 := Lh (K3.out.kept hb6)
  have RA6 := Lh (RA5.out.kept_ hb6)
  clear hb6 C5 K3 RA5 hs4
  have K7 := Lh (K6.out.alloc (.cells (rsC (.slice A6 0 c6) rPin) 39))
  have L7 := Lh (Blk.new w6 39 (rsC (.slice A6 0 c6) rPin))
  have B7 := Lh (B6.out.alloc B6.out.size (.cells (rsC (.slice A6 0 c6) rPin) 39))
  have RA7 := Lh (RA6.out.kept_ ((Below.refl _ _).alloc (Nat.le_refl _) (.cells (rsC (.slice A6 0 c6) rPin) 39)))
  have hs7 : (w6.alloc (.cells (rsC (.slice A6 0 c6) rPin) 39)).heap.size = w6.heap.size + 1 := by simp
  have c1 : (convert 22 9 (.slice A1 2 2)).run Tryz.prog (w6.alloc (.cells (rsC (.slice A6 0 c6) rPin) 39)) = .ok (.string (strOfNums [4, 7])) (w6.alloc (.cells (rsC (.slice A6 0 c6) rPin) 39)) := conv_cells (xs := [4, 7]) RA7.out.cells rfl 2
  have c2 : (convert 22 9 (.slice (some ⟨w6.heap.size + 1, 0, none⟩) 2 2)).run Tryz.prog ((w6.alloc (.cells (rsC (.slice A6 0 c6) rPin) 39)).alloc (.cells #[.int .u8 4, .int .u8 7] 5)) = .ok (.string (strOfNums [4, 7])) ((w6.alloc (.cells (rsC (.slice A6 0 c6) rPin) 39)).alloc (.cells #[.int .u8 4, .int .u8 7] 5)) :=
    hs7 ▸ conv_cells (xs := [4, 7]) (cells_of_blk (xs := [4, 7]) (more := []) (Blk.new (w6.alloc (.cells (rsC (.slice A6 0 c6) rPin) 39)) 5 #[.int .u8 4, .int .u8 7]) rfl) rfl 2
  have B8 := Lh (B7.out.alloc B7.out.size (.cells #[.int .u8 4, .int .u8 7] 5))
  have k8 : ∀ i, ((w6.alloc (.cells (rsC (.slice A6 0 c6) rPin) 39)).alloc (.cells #[.int .u8 4, .int .u8 7] 5)).cell? ⟨w3.heap.size, i, none⟩ = (rqC (.slice A3 0 c3) qPin)[i]? := (K7.out.alloc _).cell
  have l8 : ∀ i, ((w6.alloc (.cells (rsC (.slice A6 0 c6) rPin) 39)).alloc (.cells #[.int .u8 4, .int .u8 7] 5)).cell? ⟨w6.heap.size, i, none⟩ = (rsC (.slice A6 0 c6) rPin)[i]? := (L7.out.alloc _).cell
  clear hs7
  generalize strOfNums [4, 7] = S at *
  go_wp2
  go_ret
  exact ⟨rfl, B8.out⟩
end Go.Proofs.YteffpfgdoganpaaGreatDoor

namespace Go.Proofs.YteffpfgdoganpaaGreatDoor
open Go.RowKit

theorem RqGood.ok {q : Rq} (h : RqGood q) : RqOk q := by
  refine ⟨fun x hx => by have := (h.cells x hx).k1; omega, ?_, ?_⟩
  · by_cases h3 : q.kind = 3
    · have := (h.scan h3).1.k1; omega
    · rw [(h.noscan h3).1]; decide
  · by_cases h3 : q.kind = 3
    · have := (h.scan h3).2.1.k1; omega
    · rw [(h.noscan h3).2.1]; decide
theorem RsGood.ok {r : Rs} (h : RsGood r) : RsOk r := fun x hx => by have := (h.rows x hx).cell.k1; omega
/-- What is decoded lies there as an argument. -/
theorem rqA_of {W : World} {B : Nat} {v : Value} {q : Rq} (h : CellsOwn W B v q.cs) (hg : RqGood q) : ∃ A c, v = .slice A q.cs.length c ∧ RqA W A q.cs.length q := by
  obtain ⟨A, c, e, hr, _⟩ := CellsOwn.rd h
  exact ⟨A, c, e, ⟨rfl, hr, by have := hg.len; omega, hg.ok⟩⟩
theorem rsA_of {W : World} {B : Nat} {v : Value} {r : Rs} (h : RowsOwn W B v r.rows) (hg : RsGood r) (hi : ∀ x ∈ r.rows, RowI x) : ∃ A c, v = .slice A r.rows.length c ∧ RsA W A r.rows.length r := by
  obtain ⟨A, c, e, hr, _⟩ := RowsOwn.rd h
  exact ⟨A, c, e, ⟨rfl, hr, by have := hg.len; omega, hg.ok, hi⟩⟩
theorem encB_ok {q : Rq} (h : checkRq q = 0) : encB q = encRq q := by unfold encB; rw [if_pos h]
theorem encS_ok {q : Rs} (h : checkRs q = 0) : encS q = encRs q := by unfold encS; rw [if_pos h]
end Go.Proofs.YteffpfgdoganpaaGreatDoor
