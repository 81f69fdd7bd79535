/- The document's Reader by the pure reader. -/
import Derived.Test.YtdgokebablhoiaaDoorWRd4
namespace Go.Proofs.YtdgokebablhoiaaDoor
open Go.RowKit

abbrev DcC (v : Value) (at_ err on : Int) : Array Value := #[v, .int .i64 at_, .int .i64 err, .int .i64 on]
set_option maxRecDepth 100000 in
theorem dc_fail_set (q : Nat) (v : Value) (at_ code pl : Int) (W : World) (hc : (code == 0) = false) (h : Blk W q 111 (DcC v at_ 0 0)) :
    Calls Tryd.prog 54 #[.pointer (some ⟨q, 0, none⟩), .int .i64 code, .int .i64 pl] W fun e w' => e = .returned (.tuple #[]) ∧ Blk w' q 111 (DcC v at_ code pl) ∧ Tur (· = q) W w' := by
  have H := Lib.hid h
  have hc2 : (code != 0) = true := by unfold bne; rw [hc]; rfl
  have p2 : W.cell? ⟨q, 2, none⟩ = some (.int .i64 0) := h.cell 2
  have p3 : W.cell? ⟨q, 3, none⟩ = some (.int .i64 0) := h.cell 3
  have f2 : W.frozen? ⟨q, 2, none⟩ = false := h.frozen 2
  have f3 : W.frozen? ⟨q, 3, none⟩ = false := h.frozen 3
  clear h
  go_enter Tryd.func54, Tryd.ntmps54
  go_wp2
  go_end0
  exact ⟨rfl, (H.out.set_ 2 _).set_ 3 _, Tur.setCell (S := (· = q)) (p := ⟨q, 3, none⟩) (Tur.setCell (S := (· = q)) (p := ⟨q, 2, none⟩) (Tur.refl _ _) (.inl rfl) _) (.inl rfl) _⟩
set_option maxRecDepth 100000 in
theorem dc_fail_zero (q : Nat) (v : Value) (at_ err on pl : Int) (W : World) (h : Blk W q 111 (DcC v at_ err on)) :
    Calls Tryd.prog 54 #[.pointer (some ⟨q, 0, none⟩), .int .i64 0, .int .i64 pl] W fun e w' => e = .returned (.tuple #[]) ∧ W = w' := by
  have p2 : W.cell? ⟨q, 2, none⟩ = some (.int .i64 err) := h.cell 2
  clear h
  rcases hd : (err == 0)
  · go_enter Tryd.func54, Tryd.ntmps54
    go_wp2
    go_end0
    exact ⟨rfl, rfl⟩
  · go_enter Tryd.func54, Tryd.ntmps54
    go_wp2
    go_end0
    exact ⟨rfl, rfl⟩
set_option maxRecDepth 100000 in
theorem dc_fail_keep (q : Nat) (v : Value) (at_ err on code pl : Int) (W : World) (he : (err == 0) = false) (h : Blk W q 111 (DcC v at_ err on)) :
    Calls Tryd.prog 54 #[.pointer (some ⟨q, 0, none⟩), .int .i64 code, .int .i64 pl] W fun e w' => e = .returned (.tuple #[]) ∧ W = w' := by
  have p2 : W.cell? ⟨q, 2, none⟩ = some (.int .i64 err) := h.cell 2
  clear h
  go_enter Tryd.func54, Tryd.ntmps54
  go_wp2
  go_end0
  exact ⟨rfl, rfl⟩
/-- What the document's sevens leaves, by the pure outcome. -/
def DevQ (W : World) (q : Nat) (v : Value) (xs : List Int) (first : Nat) (o : SevO) (e : Ending) (w' : World) : Prop :=
  match o with
  | .ok n k => e = .returned (.tuple #[.int .u64 (n : Int), .int .i64 (first : Int)]) ∧ Blk w' q 111 (DcC v (k : Int) 0 0) ∧ Tur (· = q) W w'
  | .cut => e = .returned (.tuple #[.int .u64 0, .int .i64 (first : Int)]) ∧ Blk w' q 111 (DcC v (first : Int) 11 (xs.length : Int)) ∧ Tur (· = q) W w'
  | .form => e = .returned (.tuple #[.int .u64 0, .int .i64 (first : Int)]) ∧ Blk w' q 111 (DcC v (first : Int) 12 (first : Int)) ∧ Tur (· = q) W w'
section
variable {W w' : World} {q first : Nat} {v : Value} {xs : List Int} {o : SevO} {e : Ending}
theorem DevQ.mkOk {n k : Nat} (h : o = .ok n k) (he : e = .returned (.tuple #[.int .u64 (n : Int), .int .i64 (first : Int)])) (h1 : Blk w' q 111 (DcC v (k : Int) 0 0)) (h2 : Tur (· = q) W w') : DevQ W q v xs first o e w' := by
  subst h; exact ⟨he, h1, h2⟩
theorem DevQ.mkCut (h : o = .cut) {m : Nat} (hm : xs.length = m) (he : e = .returned (.tuple #[.int .u64 0, .int .i64 (first : Int)])) (h1 : Blk w' q 111 (DcC v (first : Int) 11 (m : Int)) ∧ Tur (· = q) W w') : DevQ W q v xs first o e w' := by
  subst h; subst hm; exact ⟨he, h1⟩
theorem DevQ.mkForm (h : o = .form) (he : e = .returned (.tuple #[.int .u64 0, .int .i64 (first : Int)])) (h1 : Blk w' q 111 (DcC v (first : Int) 12 (first : Int)) ∧ Tur (· = q) W w') : DevQ W q v xs first o e w' := by
  subst h; exact ⟨he, h1⟩
end

set_option maxHeartbeats 2000000 in
set_option maxRecDepth 100000 in
theorem dc_sevens_no (q : Nat) (A : Option Addr) (n c : Nat) (xs : List Int) (first most last : Nat) (W : World) (h : Blk W q 111 (DcC (.slice A n c) (first : Int) 0 0)) (hl : xs.length = n) (hx : CellsAt W A (bvs xs))
    (hw : ∀ x ∈ xs, (Lit.int .u8 x).wf = true) (hf : first ≤ n) (hn : n ≤ 140737488355328) (hm : 1 ≤ most ∧ most ≤ 10) (hla : last ≤ 127) (hml : most = 10 → last = 1) :
    Calls Tryd.prog 70 #[.pointer (some ⟨q, 0, none⟩), .int .i64 (most : Int), .int .u8 (last : Int)] W (DevQ W q (.slice A n c) xs first (sevAll xs first most last)) := by
  have H := Lib.hid h
  have HL := Lib.hid hl
  have HX := Lib.hid hx
  have HW := Lib.hid hw
  have HN := Lib.hid hn
  have p1 : W.cell? ⟨q, 1, none⟩ = some (.int .i64 (first : Int)) := h.cell 1
  have hm1 := hm.1
  have hm2 := hm.2
  have hfn : (first : Int) ≤ 140737488355328 := by omega
  clear h hl hx hw hn hm
  go_enter Tryd.func70, Tryd.ntmps70
  have K := H
  have B := Lib.hid (Below.refl W.heap.size W)
  have HX1 := HX
  have p0 : W.cell? ⟨q, 0, none⟩ = some (.slice A n c) := K.out.cell 0
  have p2 : W.cell? ⟨q, 2, none⟩ = some (.int .i64 0) := K.out.cell 2
  go_wp2
  go_loop [9, 10] (fun t9 t10 => ∃ i N : Nat, i < most ∧ t9 = .int .u64 (N : Int) ∧ t10 = .int .i64 (i : Int) ∧ Hid (SevI xs first most last i N)) (fun _ t10 => most - (intOf t10).toNat)
  case atStart => exact ⟨0, 0, by omega, rfl, rfl, Lib.hid (SevI.start xs first most last (by rw [HL.out]; exact hf))⟩
  case round =>
    obtain ⟨i, N, him, rfl, rfl, HP⟩ := hrel
    · by_cases hend : first + i = n
      · have hfe : decide ((n : Int) ≤ (first : Int) + (i : Int)) = true := by simp; omega
        go_wp2_with fail
        go_at_call 54; (with_reducible refine (dc_fail_set q _ _ 11 (n : Int) _ (by decide) K.out).mono ?_); rintro e w2 ⟨rfl, hk, ht⟩
        have HH := Lib.hid (And.intro hk ht)
        clear hk ht
        go_wp2
        go_ret2
        exact DevQ.mkCut (HP.out.cut him (by rw [HL.out]; exact hend)) HL.out rfl HH.out
      · have hlt : first + i < n := by have := HP.out.le; rw [HL.out] at this; omega
        have hfe : decide ((n : Int) ≤ (first : Int) + (i : Int)) = false := by simp; omega
        have hltx : first + i < xs.length := by rw [HL.out]; exact hlt
        obtain ⟨ad, rfl, hal, hcell⟩ := HX1.out (first + i) (by rw [bvs_len]; exact hltx)
        obtain ⟨cc, hcc, hc256⟩ : ∃ cc : Nat, xs[first + i] = (cc : Int) ∧ cc < 256 := by
          have hb := bounds_u8 (HW.out xs[first + i] (List.getElem_mem _))
          exact ⟨xs[first + i].toNat, by omega, by omega⟩
        have hcr : W.cell? (ad.add (first + i)) = some (.int .u8 (cc : Int)) := by rw [hcell]; simp [bvs, hcc]
        have ha := and127 cc hc256
        have HCC := Lib.hid hcc
        have q1 : W.cell? ⟨q, 1, none⟩ = some (.int .i64 (first : Int)) := K.out.cell 1
        have qf : W.frozen? ⟨q, 1, none⟩ = false := K.out.frozen 1
        clear hcell hcc hal
        by_cases hbad : 0 < i ∧ cc = 0
        · obtain ⟨hi0, rfl⟩ := hbad
          have z1 : decide ((last : Int) < 0) = false := by simp
          by_cases he : i = most - 1
          · have e1 : ((i : Int) == (most : Int) - 1) = true := by simp; omega
            clear he
            go_wp2_with fail
            go_at_call 54; (with_reducible refine (dc_fail_set q _ _ 12 (first : Int) _ (by decide) K.out).mono ?_); rintro e w2 ⟨rfl, hk, ht⟩
            have HH := Lib.hid (And.intro hk ht)
            clear hk ht
            go_wp2
            go_ret2
            exact DevQ.mkForm (HP.out.form him hltx HCC.out (.inr ⟨hi0, rfl⟩)) rfl HH.out
          · have e1 : ((i : Int) == (most : Int) - 1) = false := by simp; omega
            clear he
            go_wp2_with fail
            go_at_call 54; (with_reducible refine (dc_fail_set q _ _ 12 (first : Int) _ (by decide) K.out).mono ?_); rintro e w2 ⟨rfl, hk, ht⟩
            have HH := Lib.hid (And.intro hk ht)
            clear hk ht
            go_wp2
            go_ret2
            exact DevQ.mkForm (HP.out.form him hltx HCC.out (.inr ⟨hi0, rfl⟩)) rfl HH.out
        · have HNB := Lib.hid (show i = 0 ∨ 0 < cc by omega)
          by_cases he : i = most - 1
          · have HE := Lib.hid he
            have e1 : ((i : Int) == (most : Int) - 1) = true := by simp; omega
            by_cases hl : last < cc
            · have z1 : decide ((last : Int) < (cc : Int)) = true := by simp; omega
              clear he hbad
              go_wp2_with fail
              go_at_call 54; (with_reducible refine (dc_fail_set q _ _ 12 (first : Int) _ (by decide) K.out).mono ?_); rintro e w2 ⟨rfl, hk, ht⟩
              have HH := Lib.hid (And.intro hk ht)
              clear hk ht
              go_wp2
              go_ret2
              exact DevQ.mkForm (HP.out.form him hltx HCC.out (.inl ⟨HE.out, hl⟩)) rfl HH.out
            · have z1 : decide ((last : Int) < (cc : Int)) = false := by simp; omega
              have hc1 : cc < 128 := by omega
              have HBB := Lib.hid (show ¬ ((i = most - 1 ∧ last < cc) ∨ (0 < i ∧ cc = 0)) by have := HNB.out; omega)
              obtain ⟨M, hor, hM⟩ := HP.out.orLast him hm2 hml hc1 HBB.out
              have HM := Lib.hid hM
              have h7 : decide ((cc : Int) < 128) = true := by simp; omega
              clear hM he
              by_cases hi0 : 0 < i
              · have z0 : ((cc : Int) == 0) = false := by simp; omega
                clear hbad
                go_wp2
                go_ret2
                exact DevQ.mkOk (n := M) (by rw [HM.out.1]; exact HP.out.fin him hltx HCC.out HBB.out hc1) rfl (by rw [show ((first + i + 1 : Nat) : Int) = (first : Int) + (i : Int) + 1 by omega]; exact K.out.set_ 1 _) (Tur.setCell (S := (· = q)) (p := ⟨q, 1, none⟩) (Tur.refl _ _) (.inl rfl) _)
              · have hi1 : i = 0 := by omega
                have HI := Lib.hid hi1
                have hi2 : decide ((0 : Int) < (i : Int)) = false := by simp; omega
                clear hbad hi1
                by_cases hcz : cc = 0
                · have hN0 : N = 0 := by have h2 := HP.out.lt; rw [HI.out] at h2; simpa using h2
                  have hM0 : M = 0 := by have h1 := HM.out.1; rw [hcz, hN0] at h1; simpa using h1
                  subst hcz
                  subst hM0
                  subst hN0
                  have ha0 : bits .and .u8 0 127 = 0 := by decide
                  have hor0 : bits .or .u64 0 0 = 0 := by decide
                  clear hor ha
                  go_wp2
                  go_ret2
                  exact DevQ.mkOk (n := 0) (by rw [HM.out.1]; exact HP.out.fin him hltx HCC.out (by have := HBB.out; simpa using this) hc1) rfl (by rw [show ((first + i + 1 : Nat) : Int) = (first : Int) + (i : Int) + 1 by omega]; exact K.out.set_ 1 _) (Tur.setCell (S := (· = q)) (p := ⟨q, 1, none⟩) (Tur.refl _ _) (.inl rfl) _)
                · have z0 : ((cc : Int) == 0) = false := by simp; omega
                  clear hcz
                  go_wp2
                  go_ret2
                  exact DevQ.mkOk (n := M) (by rw [HM.out.1]; exact HP.out.fin him hltx HCC.out HBB.out hc1) rfl (by rw [show ((first + i + 1 : Nat) : Int) = (first : Int) + (i : Int) + 1 by omega]; exact K.out.set_ 1 _) (Tur.setCell (S := (· = q)) (p := ⟨q, 1, none⟩) (Tur.refl _ _) (.inl rfl) _)
          · have e1 : ((i : Int) == (most : Int) - 1) = false := by simp; omega
            by_cases hc1 : cc < 128
            · have HBB := Lib.hid (show ¬ ((i = most - 1 ∧ last < cc) ∨ (0 < i ∧ cc = 0)) by have := HNB.out; omega)
              obtain ⟨M, hor, hM⟩ := HP.out.orLast him hm2 hml hc1 HBB.out
              have HM := Lib.hid hM
              have h7 : decide ((cc : Int) < 128) = true := by simp; omega
              clear hM he
              by_cases hi0 : 0 < i
              · have z0 : ((cc : Int) == 0) = false := by simp; omega
                clear hbad
                go_wp2
                go_ret2
                exact DevQ.mkOk (n := M) (by rw [HM.out.1]; exact HP.out.fin him hltx HCC.out HBB.out hc1) rfl (by rw [show ((first + i + 1 : Nat) : Int) = (first : Int) + (i : Int) + 1 by omega]; exact K.out.set_ 1 _) (Tur.setCell (S := (· = q)) (p := ⟨q, 1, none⟩) (Tur.refl _ _) (.inl rfl) _)
              · have hi1 : i = 0 := by omega
                have HI := Lib.hid hi1
                have hi2 : decide ((0 : Int) < (i : Int)) = false := by simp; omega
                clear hbad hi1
                by_cases hcz : cc = 0
                · have hN0 : N = 0 := by have h2 := HP.out.lt; rw [HI.out] at h2; simpa using h2
                  have hM0 : M = 0 := by have h1 := HM.out.1; rw [hcz, hN0] at h1; simpa using h1
                  subst hcz
                  subst hM0
                  subst hN0
                  have ha0 : bits .and .u8 0 127 = 0 := by decide
                  have hor0 : bits .or .u64 0 0 = 0 := by decide
                  clear hor ha
                  go_wp2
                  go_ret2
                  exact DevQ.mkOk (n := 0) (by rw [HM.out.1]; exact HP.out.fin him hltx HCC.out (by have := HBB.out; simpa using this) hc1) rfl (by rw [show ((first + i + 1 : Nat) : Int) = (first : Int) + (i : Int) + 1 by omega]; exact K.out.set_ 1 _) (Tur.setCell (S := (· = q)) (p := ⟨q, 1, none⟩) (Tur.refl _ _) (.inl rfl) _)
                · have z0 : ((cc : Int) == 0) = false := by simp; omega
                  clear hcz
                  go_wp2
                  go_ret2
                  exact DevQ.mkOk (n := M) (by rw [HM.out.1]; exact HP.out.fin him hltx HCC.out HBB.out hc1) rfl (by rw [show ((first + i + 1 : Nat) : Int) = (first : Int) + (i : Int) + 1 by omega]; exact K.out.set_ 1 _) (Tur.setCell (S := (· = q)) (p := ⟨q, 1, none⟩) (Tur.refl _ _) (.inl rfl) _)
            · have HBB := Lib.hid (show ¬ ((i = most - 1 ∧ last < cc) ∨ (0 < i ∧ cc = 0)) by have := HNB.out; omega)
              have HNE := Lib.hid he
              obtain ⟨M, hor, hM⟩ := HP.out.orNext (by omega) (by omega) hc256
              have HNX := Lib.hid (hM ▸ HP.out.next him hltx HCC.out HBB.out (by omega) hc256)
              have HM := Lib.hid hM
              have h7 : decide ((cc : Int) < 128) = false := by simp; omega
              have z0 : ((cc : Int) == 0) = false := by simp; omega
              clear hM he
              go_wp2
              all_goals
                go_round
                case rel => exact ⟨i + 1, M, by have := HNE.out; omega, rfl, by go_num, HNX⟩
                case measure => simp [intOf]; omega
end Go.Proofs.YtdgokebablhoiaaDoor
