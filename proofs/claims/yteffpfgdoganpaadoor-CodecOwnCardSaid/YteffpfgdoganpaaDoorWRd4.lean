/- The Reader's Text by the pure reader. -/
import Derived.Test.YteffpfgdoganpaaDoorWRd3
import Derived.Test.YteffpfgdoganpaaDoorWBack
import Derived.Test.YteffpfgdoganpaaDoorWRow
namespace Go.Proofs.YteffpfgdoganpaaDoor
open Go.RowKit

section
variable {xs : List Int} {s s1 : RS} {most : Int} {m last mo : Nat}
theorem sevP_go (hr : sevP xs mo last s = (m, s1)) (h : s1.fault = none) : s.fault = none ∧ sevAll xs s.pos mo last = .ok m s1.pos := by
  unfold sevP at hr
  split at hr
  · rename_i hf; cases hr; rw [h] at hf; cases hf
  · rename_i hf
    split at hr
    · rename_i n1 k1 h1
      cases hr
      exact ⟨hf, h1⟩
    · cases hr; cases h
    · cases hr; cases h
theorem numS_none {r : Nat × RS} {pos : Nat} (h : (numS most pos r).fault = none) : numS most pos r = r.2 ∧ ¬ (most < 0 ∨ most < (r.1 : Int)) := by
  unfold numS at h ⊢
  split at h
  · have := fail_some r.2 (e := 16) (p := (pos : Int)) (by decide)
    rw [h] at this
    cases this
  · rename_i hb; rw [if_neg hb]; exact ⟨rfl, hb⟩
theorem numP_none (hr : numP xs most s = (m, s1)) (h : s1.fault = none) : s.fault = none ∧ sevAll xs s.pos 9 127 = .ok m s1.pos ∧ 0 ≤ most ∧ (m : Int) ≤ most := by
  unfold numP at hr
  rcases hs : sevP xs 9 127 s with ⟨m0, s0⟩
  rw [hs] at hr
  have h2 : numS most s.pos (m0, s0) = s1 := congrArg Prod.snd hr
  have h1 : (if (numS most s.pos (m0, s0)).fault.isSome then 0 else m0) = m := congrArg Prod.fst hr
  rw [h2, h] at h1
  obtain rfl : m0 = m := h1
  obtain ⟨h3, h4⟩ := numS_none (h2 ▸ h)
  rw [h2] at h3
  obtain rfl : s1 = s0 := h3
  have := sevP_go hs h
  simp only at h4
  exact ⟨this.1, this.2, by omega, by omega⟩
theorem numP_some (hr : numP xs most s = (m, s1)) (h : s1.fault.isSome = true) : m = 0 := by
  unfold numP at hr
  have h2 := congrArg Prod.snd hr
  have h1 := congrArg Prod.fst hr
  simp only at h1 h2
  rw [h2, h] at h1
  simpa using h1.symm
end
theorem conv_sub {W : World} {ad : Addr} {xs : List Int} {n pos m : Nat} (h : CellsAt W (some ad) (bvs xs)) (hl : xs.length = n) (hp : pos + m ≤ n) (c : Nat) :
    (convert 45 9 (.slice (some (ad.add pos)) m c)).run Tryd.prog W = .ok (.string (strOfNums ((xs.drop pos).take m))) W := by
  refine conv_cells (fun k hk => ?_) (by rw [List.length_take, List.length_drop]; omega) c
  rw [bvs_len, List.length_take, List.length_drop] at hk
  obtain ⟨ad', e, h1, h2⟩ := h (pos + k) (by rw [bvs_len]; omega)
  cases e
  refine ⟨_, rfl, by rw [blockAdd]; exact h1, ?_⟩
  rw [Go.Deep.add_add, h2]
  simp [bvs]
theorem conv_zero {W : World} {ad : Addr} (c : Nat) : (convert 45 9 (.slice (some ad) 0 c)).run Tryd.prog W = .ok (.string (strOfNums [])) W :=
  conv_cells (xs := []) (fun k hk => absurd hk (by simp [bvs])) rfl c

section
variable {q n c : Nat} {A : Option Addr} {xs : List Int} {s : RS} {fv : Value} {W : World}
set_option maxHeartbeats 1000000 in
set_option maxRecDepth 100000 in
theorem rd_text (h : RdIs W q A n c xs s fv) (most : Int) (hmo : most ≤ 9223372036854775807) :
    Calls Tryd.prog 89 #[.pointer (some ⟨q, 0, none⟩), .int .i64 most] W (RdQ W q A n c xs fv (.string (strOfNums (textP xs most s).1)) (textP xs most s).2) := by
  rcases hr : numP xs most s with ⟨m, s1⟩
  have C := Lib.hid (hr ▸ rd_num h most hmo)
  have HT := Lib.hid (show textP xs most s = textQ xs (m, s1) by unfold textP; rw [hr])
  have HR := Lib.hid hr
  have HL := Lib.hid h.len
  have HPL := Lib.hid h.posL
  have hn : (n : Int) ≤ 211106232532992 := by have := h.big; omega
  clear h hr
  rcases hf : s1.fault with _ | ⟨e, p⟩
  · by_cases hgt : n - s1.pos < m
    · have HE := Lib.hid (show textQ xs (m, s1) = ([], s1.fail 11 (n : Int)) by unfold textQ RS.fail; rw [hf]; simp only; rw [HL.out, if_pos hgt, if_neg (by decide)])
      clear hf
      go_enter Tryd.func89, Tryd.ntmps89
      go_wp2_with fail
      go_at_call 80; (with_reducible refine C.out.mono ?_); rintro e w1 ⟨rfl, fv1, h1, f1⟩
      have hp := h1.pos
      have hd : decide ((n : Int) - (s1.pos : Int) < (m : Int)) = true := by simp; omega
      have q0 : w1.cell? ⟨q, 0, none⟩ = some (.slice A n c) := h1.blk.cell 0
      have q1 : w1.cell? ⟨q, 1, none⟩ = some (.int .i64 (s1.pos : Int)) := h1.blk.cell 1
      have H1 := Lib.hid (fun k => h1.kept (below_drewN (Below.refl w1.heap.size w1) k))
      have F1 := Lib.hid f1
      clear h1 f1 hgt
      go_wp2
      go_quiet (fail)
      go_wp2_with fail
      go_at_call 60; (with_reducible refine (rd_fail (H1.out _) 11 (n : Int)).mono ?_); rintro e w2 ⟨rfl, fv2, h2, f2⟩
      have H2 := Lib.hid h2
      have F2 := Lib.hid ((F1.out.trans (RdFr.of_below (below_drewN (Below.refl _ _) _))).trans f2)
      clear h2 f2
      go_wp2_with fail
      go_at_call 87; (with_reducible refine (fail_some s1 (e := 11) (p := (n : Int)) (by decide) ▸ rd_broken H2.out).mono ?_); rintro e w3 ⟨rfl, hb⟩
      have H3 := Lib.hid (H2.out.kept hb)
      have F3 := Lib.hid (F2.out.trans (RdFr.of_below hb))
      clear hb
      go_wp2
      go_ret
      rw [HT.out, HE.out]
      exact ⟨rfl, _, H3.out, F3.out⟩
    · have hs := numP_none HR.out hf
      have hlt := sevAll_ok hs.2.1 HPL.out
      have HE := Lib.hid (show textQ xs (m, s1) = ((xs.drop s1.pos).take m, ⟨s1.pos + m, none⟩) by unfold textQ; rw [hf]; simp only; rw [HL.out, if_neg hgt])
      have HF := Lib.hid (show s1.fault.isSome = false by rw [hf]; rfl)
      clear hs
      have HLT := Lib.hid hlt
      clear hf hlt
      go_enter Tryd.func89, Tryd.ntmps89
      go_wp2_with fail
      go_at_call 80; (with_reducible refine C.out.mono ?_); rintro e w1 ⟨rfl, fv1, h1, f1⟩
      have hp := h1.pos
      have hcap := h1.cap
      have hd : decide ((n : Int) - (s1.pos : Int) < (m : Int)) = false := by simp; omega
      have q0 : w1.cell? ⟨q, 0, none⟩ = some (.slice A n c) := h1.blk.cell 0
      have q1 : w1.cell? ⟨q, 1, none⟩ = some (.int .i64 (s1.pos : Int)) := h1.blk.cell 1
      have H1 := Lib.hid (fun k => h1.kept (below_drewN (Below.refl w1.heap.size w1) k))
      have F1 := Lib.hid f1
      clear h1 f1
      go_wp2
      go_quiet (fail)
      go_wp2_with fail
      go_at_call 87; (with_reducible refine (HF.out ▸ rd_broken (H1.out _)).mono ?_); rintro e w3 ⟨rfl, hb⟩
      have h3 := (H1.out _).kept hb
      have F3 := Lib.hid (F1.out.trans (RdFr.of_below ((below_drewN (Below.refl _ _) _).trans hb)))
      have q0 : w3.cell? ⟨q, 0, none⟩ = some (.slice A n c) := h3.blk.cell 0
      have q1 : w3.cell? ⟨q, 1, none⟩ = some (.int .i64 (s1.pos : Int)) := h3.blk.cell 1
      have qf : w3.frozen? ⟨q, 1, none⟩ = false := h3.blk.frozen 1
      have hp0 : 0 < xs.length := by have := HLT.out; have := HL.out; omega
      obtain ⟨ad, rfl, _, _⟩ := h3.cells 0 (by rw [bvs_len]; exact hp0)
      have H3 := Lib.hid h3
      obtain ⟨S, hS⟩ : ∃ S, S = strOfNums ((xs.drop s1.pos).take m) := ⟨_, rfl⟩
      have HS := Lib.hid hS
      have b1 : s1.pos + m ≤ c := by omega
      have b2 : (s1.pos : Int) + (m : Int) ≤ (c : Int) := by omega
      have b3 : s1.pos ≤ s1.pos + m := by omega
      have b4 : (s1.pos : Int) + (m : Int) ≤ 211106232532992 := by omega
      have b5 : IntKind.i64.wrap ((s1.pos : Int) + (m : Int)) = ((s1.pos + m : Nat) : Int) := by rw [IntKind.wrap_i64]; omega
      have HPM := Lib.hid (show s1.pos + m ≤ n by omega)
      by_cases hcp : c = s1.pos
      · have hm0 : m = 0 := by omega
        have hcvN : ∀ c' k, (convert 45 9 (.slice (some ad) m c')).run Tryd.prog (w3.drewN k) = .ok (.string S) (w3.drewN k) := fun c' k => by
          rw [hS, hm0, List.take_zero]
          exact conv_zero c'
        subst hcp
        subst hm0
        clear hb h3 hS hgt
        go_wp2
        go_quiet (fail)
        have H4 := Lib.hid (H3.out.kept (below_drewN (Below.refl w3.heap.size w3) nq))
        have F4 := Lib.hid (F3.out.trans (RdFr.of_below (below_drewN (Below.refl w3.heap.size w3) nq)))
        clear hcvN
        go_wp2
        go_ret
        rw [HT.out, HE.out, ← HS.out]
        exact ⟨rfl, fv1, RdIs.put (s1 := ⟨s1.pos + 0, none⟩) H4.out (Tur.setCell (S := (· = q)) (p := ⟨q, 1, none⟩) (Tur.refl _ _) (.inl rfl) _) (H4.out.blk.set_ 1 (.int .i64 ((s1.pos : Int) + ((0 : Nat) : Int)))) HPM.out (fun _ => H4.out.no (by have := HF.out; cases h : s1.fault <;> simp_all)) (fun _ _ h => by cases h), F4.out.trans ⟨Tur.setCell (S := (· = q)) (p := ⟨q, 1, none⟩) (Tur.refl _ _) (.inl rfl) _, .inl rfl⟩⟩
      · have hcvN : ∀ c' k, (convert 45 9 (.slice (some (ad.add s1.pos)) m c')).run Tryd.prog (w3.drewN k) = .ok (.string S) (w3.drewN k) := fun c' k => by
          rw [hS]
          exact conv_sub (h3.kept (below_drewN (Below.refl w3.heap.size w3) k)).cells H3.out.len (by omega) c'
        clear hb h3 hS hgt
        go_wp2
        go_quiet (fail)
        have H4 := Lib.hid (H3.out.kept (below_drewN (Below.refl w3.heap.size w3) nq))
        have F4 := Lib.hid (F3.out.trans (RdFr.of_below (below_drewN (Below.refl w3.heap.size w3) nq)))
        clear hcvN
        go_wp2
        go_ret
        rw [HT.out, HE.out, ← HS.out]
        exact ⟨rfl, fv1, RdIs.put (s1 := ⟨s1.pos + m, none⟩) H4.out (Tur.setCell (S := (· = q)) (p := ⟨q, 1, none⟩) (Tur.refl _ _) (.inl rfl) _) (H4.out.blk.set_ 1 (.int .i64 ((s1.pos : Int) + (m : Int)))) HPM.out (fun _ => H4.out.no (by have := HF.out; cases h : s1.fault <;> simp_all)) (fun _ _ h => by cases h), F4.out.trans ⟨Tur.setCell (S := (· = q)) (p := ⟨q, 1, none⟩) (Tur.refl _ _) (.inl rfl) _, .inl rfl⟩⟩
  · have hs : s1.fault.isSome = true := by rw [hf]; rfl
    obtain rfl := numP_some HR.out hs
    have HE := Lib.hid (show textQ xs (0, s1) = ([], s1) by unfold textQ; rw [hf])
    have HF := Lib.hid hs
    clear hf hs
    go_enter Tryd.func89, Tryd.ntmps89
    go_wp2_with fail
    go_at_call 80; (with_reducible refine C.out.mono ?_); rintro e w1 ⟨rfl, fv1, h1, f1⟩
    have hp := h1.pos
    have hd : decide ((n : Int) - (s1.pos : Int) < 0) = false := by simp; omega
    have q0 : w1.cell? ⟨q, 0, none⟩ = some (.slice A n c) := h1.blk.cell 0
    have q1 : w1.cell? ⟨q, 1, none⟩ = some (.int .i64 (s1.pos : Int)) := h1.blk.cell 1
    have H1 := Lib.hid (fun k => h1.kept (below_drewN (Below.refl w1.heap.size w1) k))
    have F1 := Lib.hid f1
    clear h1 f1
    go_wp2
    go_quiet (fail)
    go_wp2_with fail
    go_at_call 87; (with_reducible refine (HF.out ▸ rd_broken (H1.out _)).mono ?_); rintro e w3 ⟨rfl, hb⟩
    have H3 := Lib.hid ((H1.out _).kept hb)
    have F3 := Lib.hid (F1.out.trans (RdFr.of_below ((below_drewN (Below.refl _ _) _).trans hb)))
    clear hb
    go_wp2
    go_ret
    rw [HT.out, HE.out]
    exact ⟨rfl, _, H3.out, F3.out⟩
end
end Go.Proofs.YteffpfgdoganpaaDoor
