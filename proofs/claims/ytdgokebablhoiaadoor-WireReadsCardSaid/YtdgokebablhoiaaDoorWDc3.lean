/- The document's Reader's End, Left, Text by the pure reader. -/
import Derived.Test.YtdgokebablhoiaaDoorWDc2
namespace Go.Proofs.YtdgokebablhoiaaDoor
open Go.RowKit

section
variable {q n c : Nat} {A : Option Addr} {xs : List Int} {s : RS} {W : World}
set_option maxRecDepth 100000 in
theorem dc_end (h : DocIs W q A n c xs s) :
    Calls Tryd.prog 50 #[.pointer (some ⟨q, 0, none⟩)] W (DcQ W q A n c xs (.tuple #[]) (endP xs s)) := by
  have p0 : W.cell? ⟨q, 0, none⟩ = some (.slice A n c) := h.blk.cell 0
  have p1 : W.cell? ⟨q, 1, none⟩ = some (.int .i64 (s.pos : Int)) := h.blk.cell 1
  have p2 : W.cell? ⟨q, 2, none⟩ = some (.int .i64 s.err) := h.blk.cell 2
  have H := Lib.hid (fun k => h.kept (below_drewN (Below.refl W.heap.size W) k))
  have HL := Lib.hid h.len
  have hdec := h.err_dec
  clear h
  rcases hf : s.fault.isSome
  · have hf0 : s.fault = none := by cases h : s.fault <;> simp_all
    rw [(DocIs.err_no hf0).1] at p2 hdec
    clear hdec hf hf0
    by_cases hk : s.pos < n
    · have HE := Lib.hid (show endP xs s = s.fail 13 (s.pos : Int) by unfold endP; rw [HL.out, if_pos hk])
      have hd : decide (s.pos < n) = true := by simpa using hk
      clear hk
      go_enter Tryd.func50, Tryd.ntmps50
      go_wp2
      go_quiet (fail)
      go_wp2_with fail
      go_at_call 54; (with_reducible refine (dc_fail (H.out _) 13 (s.pos : Int)).mono ?_); rintro e w2 ⟨rfl, h2, f2⟩
      go_wp2
      go_end0
      rw [HE.out]
      exact ⟨rfl, h2, (Tur.of_below (S := (· = q)) (below_drewN (Below.refl _ _) _)).trans f2 (fun _ h => .inl h)⟩
    · have HE := Lib.hid (show endP xs s = s by unfold endP; rw [HL.out, if_neg hk])
      have hd : decide (s.pos < n) = false := by simpa using hk
      clear hk
      go_enter Tryd.func50, Tryd.ntmps50
      go_wp2
      go_quiet (fail)
      go_wp2
      go_end0
      rw [HE.out]
      exact ⟨rfl, H.out _, Tur.of_below (S := (· = q)) (below_drewN (Below.refl _ _) _)⟩
  · rw [hf] at hdec
    have HE := Lib.hid (show endP xs s = s by
      unfold endP
      split
      · exact fail_stay _ _ hf
      · rfl)
    have hdec2 : (s.err == 0) = false := hdec
    generalize s.err = er at p2 hdec2
    clear hdec hf
    go_enter Tryd.func50, Tryd.ntmps50
    go_wp2
    go_quiet (fail)
    go_wp2
    go_end0
    rw [HE.out]
    exact ⟨rfl, H.out _, Tur.of_below (S := (· = q)) (below_drewN (Below.refl _ _) _)⟩

set_option maxRecDepth 100000 in
theorem dc_left (h : DocIs W q A n c xs s) :
    Calls Tryd.prog 52 #[.pointer (some ⟨q, 0, none⟩)] W fun e w' => e = .returned (.int .i64 (leftP xs s : Int)) ∧ Below W.heap.size W w' := by
  have p0 : W.cell? ⟨q, 0, none⟩ = some (.slice A n c) := h.blk.cell 0
  have p1 : W.cell? ⟨q, 1, none⟩ = some (.int .i64 (s.pos : Int)) := h.blk.cell 1
  have p2 : W.cell? ⟨q, 2, none⟩ = some (.int .i64 s.err) := h.blk.cell 2
  have HL := Lib.hid h.len
  have hdec := h.err_dec
  have hp : s.pos ≤ n := h.pos
  have hn : (n : Int) ≤ 140737488355328 := by have := h.big; omega
  clear h
  rcases hf : s.fault.isSome
  · have hf0 : s.fault = none := by cases h : s.fault <;> simp_all
    rw [(DocIs.err_no hf0).1] at p2 hdec
    have HF := Lib.hid hf
    clear hdec hf hf0
    go_enter Tryd.func52, Tryd.ntmps52
    go_wp2
    go_quiet (fail)
    go_wp2
    go_ret
    refine ⟨?_, below_drewN (Below.refl _ _) _⟩
    have e1 : leftP xs s = n - s.pos := by unfold leftP; rw [HF.out, HL.out]; rfl
    rw [e1, show ((n - s.pos : Nat) : Int) = (n : Int) - (s.pos : Int) by omega]
    rfl
  · rw [hf] at hdec
    have HF := Lib.hid hf
    have hdec2 : (s.err == 0) = false := hdec
    generalize s.err = er at p2 hdec2
    clear hdec hf
    go_enter Tryd.func52, Tryd.ntmps52
    go_wp2
    go_ret
    refine ⟨?_, Below.refl _ _⟩
    have e1 : leftP xs s = 0 := by unfold leftP; rw [HF.out]; rfl
    rw [e1]
    rfl

set_option maxHeartbeats 1000000 in
set_option maxRecDepth 100000 in
theorem dc_text (h : DocIs W q A n c xs s) (most : Int) (hmo : most ≤ 9223372036854775807) :
    Calls Tryd.prog 49 #[.pointer (some ⟨q, 0, none⟩), .int .i64 most] W (DcQ W q A n c xs (.string (strOfNums (textP xs most s).1)) (textP xs most s).2) := by
  rcases hr : numP xs most s with ⟨m, s1⟩
  have C := Lib.hid (hr ▸ dc_num h most hmo)
  have HT := Lib.hid (show textP xs most s = textQ xs (m, s1) by unfold textP; rw [hr])
  have HR := Lib.hid hr
  have HL := Lib.hid h.len
  have HPL := Lib.hid h.posL
  have hn : (n : Int) ≤ 140737488355328 := by have := h.big; omega
  clear h hr
  rcases hf : s1.fault with _ | ⟨e, p⟩
  · have HF0 := Lib.hid hf
    have HER := Lib.hid (DocIs.err_no hf).1
    by_cases hgt : n - s1.pos < m
    · have HE := Lib.hid (show textQ xs (m, s1) = ([], s1.fail 11 (n : Int)) by unfold textQ RS.fail; rw [hf]; simp only; rw [HL.out, if_pos hgt, if_neg (by decide)])
      clear hf
      go_enter Tryd.func49, Tryd.ntmps49
      go_wp2_with fail
      go_at_call 46; (with_reducible refine C.out.mono ?_); rintro e w1 ⟨rfl, h1, f1⟩
      have hp := h1.pos
      have hd : decide ((n : Int) - (s1.pos : Int) < (m : Int)) = true := by simp; omega
      have q0 : w1.cell? ⟨q, 0, none⟩ = some (.slice A n c) := h1.blk.cell 0
      have q1 : w1.cell? ⟨q, 1, none⟩ = some (.int .i64 (s1.pos : Int)) := h1.blk.cell 1
      have q2 : w1.cell? ⟨q, 2, none⟩ = some (.int .i64 0) := HER.out ▸ h1.blk.cell 2
      have H1 := Lib.hid (fun k => h1.kept (below_drewN (Below.refl w1.heap.size w1) k))
      have F1 := Lib.hid f1
      clear h1 f1 hgt
      go_wp2
      go_quiet (fail)
      go_wp2_with fail
      go_at_call 54; (with_reducible refine (dc_fail (H1.out _) 11 (n : Int)).mono ?_); rintro e w2 ⟨rfl, h2, f2⟩
      have H2 := Lib.hid h2
      have F2 := Lib.hid ((F1.out.trans (Tur.of_below (S := (· = q)) (below_drewN (Below.refl w1.heap.size w1) _)) (fun _ h => .inl h)).trans f2 (fun _ h => .inl h))
      clear h2 f2
      go_wp2
      go_ret
      rw [HT.out, HE.out]
      exact ⟨rfl, H2.out, F2.out⟩
    · have hs := numP_none HR.out hf
      have hlt := sevAll_ok hs.2.1 HPL.out
      have HE := Lib.hid (show textQ xs (m, s1) = ((xs.drop s1.pos).take m, ⟨s1.pos + m, none⟩) by unfold textQ; rw [hf]; simp only; rw [HL.out, if_neg hgt])
      clear hs
      have HLT := Lib.hid hlt
      clear hf hlt
      go_enter Tryd.func49, Tryd.ntmps49
      go_wp2_with fail
      go_at_call 46; (with_reducible refine C.out.mono ?_); rintro e w1 ⟨rfl, h1, f1⟩
      have hp := h1.pos
      have hcap := h1.cap
      have hd : decide ((n : Int) - (s1.pos : Int) < (m : Int)) = false := by simp; omega
      have q0 : w1.cell? ⟨q, 0, none⟩ = some (.slice A n c) := h1.blk.cell 0
      have q1 : w1.cell? ⟨q, 1, none⟩ = some (.int .i64 (s1.pos : Int)) := h1.blk.cell 1
      have q2 : w1.cell? ⟨q, 2, none⟩ = some (.int .i64 0) := HER.out ▸ h1.blk.cell 2
      have H1 := Lib.hid (fun k => h1.kept (below_drewN (Below.refl w1.heap.size w1) k))
      have F1 := Lib.hid f1
      clear h1 f1
      go_wp2
      go_quiet (fail)
      have h3 := H1.out nq
      have F3 := Lib.hid (F1.out.trans (Tur.of_below (S := (· = q)) (below_drewN (Below.refl w1.heap.size w1) nq)) (fun _ h => .inl h))
      obtain ⟨w3, hw3⟩ : ∃ w3, w3 = w1.drewN nq := ⟨_, rfl⟩
      rw [← hw3] at h3 F3 ⊢
      clear hw3
      have q0 : w3.cell? ⟨q, 0, none⟩ = some (.slice A n c) := h3.blk.cell 0
      have q1 : w3.cell? ⟨q, 1, none⟩ = some (.int .i64 (s1.pos : Int)) := h3.blk.cell 1
      have qf : w3.frozen? ⟨q, 1, none⟩ = false := h3.blk.frozen 1
      have hp0 : 0 < xs.length := by have := HLT.out; have := HL.out; omega
      obtain ⟨ad, rfl, _, _⟩ := h3.cells 0 (by rw [bvs_len]; exact hp0)
      have H3 := Lib.hid h3
      obtain ⟨S, hS⟩ : ∃ S, S = strOfNums ((xs.drop s1.pos).take m) := ⟨_, rfl⟩
      have HS := Lib.hid hS
      have b1 : s1.pos + m ≤ c := by omega
      have b2 : (s1.pos : Int) + (m : Int) ≤ (c : Int) := by omega
      have b3 : s1.pos ≤ s1.pos + m := by omega
      have b4 : (s1.pos : Int) + (m : Int) ≤ 140737488355328 := by omega
      have b5 : IntKind.i64.wrap ((s1.pos : Int) + (m : Int)) = ((s1.pos + m : Nat) : Int) := by rw [IntKind.wrap_i64]; omega
      have HPM := Lib.hid (show s1.pos + m ≤ n by omega)
      by_cases hcp : c = s1.pos
      · have hm0 : m = 0 := by omega
        have hcvN : ∀ c' k, (convert 24 9 (.slice (some ad) m c')).run Tryd.prog (w3.drewN k) = .ok (.string S) (w3.drewN k) := fun c' k => by
          rw [hS, hm0, List.take_zero]
          exact conv_zero c'
        subst hcp
        subst hm0
        clear h3 hS hgt
        go_wp2
        go_quiet (fail)
        have H4 := Lib.hid (H3.out.kept (below_drewN (Below.refl w3.heap.size w3) nq))
        have F4 := Lib.hid (F3.out.trans (Tur.of_below (S := (· = q)) (below_drewN (Below.refl w3.heap.size w3) nq)) (fun _ h => .inl h))
        clear hcvN
        go_wp2
        go_ret
        rw [HT.out, HE.out, ← HS.out]
        have hb := H4.out.blk.set_ 1 (.int .i64 ((s1.pos : Int) + ((0 : Nat) : Int)))
        rw [(DocIs.err_no HF0.out).1, (DocIs.err_no HF0.out).2] at hb
        exact ⟨rfl, DocIs.put (s1 := ⟨s1.pos + 0, none⟩) H4.out (Tur.setCell (S := (· = q)) (p := ⟨q, 1, none⟩) (Tur.refl _ _) (.inl rfl) _) hb HPM.out (fun _ _ h => by cases h), F4.out.trans (Tur.setCell (S := (· = q)) (p := ⟨q, 1, none⟩) (Tur.refl _ _) (.inl rfl) _) (fun _ h => .inl h)⟩
      · have hcvN : ∀ c' k, (convert 24 9 (.slice (some (ad.add s1.pos)) m c')).run Tryd.prog (w3.drewN k) = .ok (.string S) (w3.drewN k) := fun c' k => by
          rw [hS]
          exact conv_sub (h3.kept (below_drewN (Below.refl w3.heap.size w3) k)).cells H3.out.len (by omega) c'
        clear h3 hS hgt
        go_wp2
        go_quiet (fail)
        have H4 := Lib.hid (H3.out.kept (below_drewN (Below.refl w3.heap.size w3) nq))
        have F4 := Lib.hid (F3.out.trans (Tur.of_below (S := (· = q)) (below_drewN (Below.refl w3.heap.size w3) nq)) (fun _ h => .inl h))
        clear hcvN
        go_wp2
        go_ret
        rw [HT.out, HE.out, ← HS.out]
        have hb := H4.out.blk.set_ 1 (.int .i64 ((s1.pos : Int) + (m : Int)))
        rw [(DocIs.err_no HF0.out).1, (DocIs.err_no HF0.out).2] at hb
        exact ⟨rfl, DocIs.put (s1 := ⟨s1.pos + m, none⟩) H4.out (Tur.setCell (S := (· = q)) (p := ⟨q, 1, none⟩) (Tur.refl _ _) (.inl rfl) _) hb HPM.out (fun _ _ h => by cases h), F4.out.trans (Tur.setCell (S := (· = q)) (p := ⟨q, 1, none⟩) (Tur.refl _ _) (.inl rfl) _) (fun _ h => .inl h)⟩
  · have hs : s1.fault.isSome = true := by rw [hf]; rfl
    obtain rfl := numP_some HR.out hs
    have HE := Lib.hid (show textQ xs (0, s1) = ([], s1) by unfold textQ; rw [hf])
    have HF := Lib.hid hs
    clear hf hs
    go_enter Tryd.func49, Tryd.ntmps49
    go_wp2_with fail
    go_at_call 46; (with_reducible refine C.out.mono ?_); rintro e w1 ⟨rfl, h1, f1⟩
    have p2 : w1.cell? ⟨q, 2, none⟩ = some (.int .i64 s1.err) := h1.blk.cell 2
    have p3 := h1.err_yes HF.out
    have H1 := Lib.hid (And.intro h1 f1)
    generalize s1.err = er at p2 p3
    clear h1 f1
    go_wp2
    go_ret
    rw [HT.out, HE.out]
    exact ⟨rfl, H1.out⟩
end
end Go.Proofs.YtdgokebablhoiaaDoor
