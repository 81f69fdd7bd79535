/- The document's Reader by the pure reader. The document's Reader's methods by the pure reader. The document's Reader's End, Left, Text by the pure reader. -/
import Derived.Test.YtglbdbghcdoicaaGreatDoorWRds
namespace Go.Proofs.YtglbdbghcdoicaaGreatDoor
open Go.RowKit

abbrev DcC (v : Value) (at_ err on : Int) : Array Value := #[v, .int .i64 at_, .int .i64 err, .int .i64 on]
set_option maxRecDepth 100000 in
theorem dc_fail_set (q : Nat) (v : Value) (at_ code pl : Int) (W : World) (hc : (code == 0) = false) (h : Blk W q 192 (DcC v at_ 0 0)) :
    Calls Tryz.prog 132 #[.pointer (some ⟨q, 0, none⟩), .int .i64 code, .int .i64 pl] W fun e w' => e = .returned (.tuple #[]) ∧ Blk w' q 192 (DcC v at_ code pl) ∧ Tur (· = q) W w' := by
  have H := Lib.hid h
  have hc2 : (code != 0) = true := by unfold bne; rw [hc]; rfl
  have p2 : W.cell? ⟨q, 2, none⟩ = some (.int .i64 0) := h.cell 2
  have p3 : W.cell? ⟨q, 3, none⟩ = some (.int .i64 0) := h.cell 3
  have f2 : W.frozen? ⟨q, 2, none⟩ = false := h.frozen 2
  have f3 : W.frozen? ⟨q, 3, none⟩ = false := h.frozen 3
  clear h
  go_enter Tryz.func132, Tryz.ntmps132
  go_wp2
  go_end0
  exact ⟨rfl, (H.out.set_ 2 _).set_ 3 _, Tur.setCell (S := (· = q)) (p := ⟨q, 3, none⟩) (Tur.setCell (S := (· = q)) (p := ⟨q, 2, none⟩) (Tur.refl _ _) (.inl rfl) _) (.inl rfl) _⟩
set_option maxRecDepth 100000 in
theorem dc_fail_zero (q : Nat) (v : Value) (at_ err on pl : Int) (W : World) (h : Blk W q 192 (DcC v at_ err on)) :
    Calls Tryz.prog 132 #[.pointer (some ⟨q, 0, none⟩), .int .i64 0, .int .i64 pl] W fun e w' => e = .returned (.tuple #[]) ∧ W = w' := by
  have p2 : W.cell? ⟨q, 2, none⟩ = some (.int .i64 err) := h.cell 2
  clear h
  rcases hd : (err == 0)
  · go_enter Tryz.func132, Tryz.ntmps132
    go_wp2
    go_end0
    exact ⟨rfl, rfl⟩
  · go_enter Tryz.func132, Tryz.ntmps132
    go_wp2
    go_end0
    exact ⟨rfl, rfl⟩
set_option maxRecDepth 100000 in
theorem dc_fail_keep (q : Nat) (v : Value) (at_ err on code pl : Int) (W : World) (he : (err == 0) = false) (h : Blk W q 192 (DcC v at_ err on)) :
    Calls Tryz.prog 132 #[.pointer (some ⟨q, 0, none⟩), .int .i64 code, .int .i64 pl] W fun e w' => e = .returned (.tuple #[]) ∧ W = w' := by
  have p2 : W.cell? ⟨q, 2, none⟩ = some (.int .i64 err) := h.cell 2
  clear h
  go_enter Tryz.func132, Tryz.ntmps132
  go_wp2
  go_end0
  exact ⟨rfl, rfl⟩
/-- What the document's sevens leaves, by the pure outcome. -/
def DevQ (W : World) (q : Nat) (v : Value) (xs : List Int) (first : Nat) (o : SevO) (e : Ending) (w' : World) : Prop :=
  match o with
  | .ok n k => e = .returned (.tuple #[.int .u64 (n : Int), .int .i64 (first : Int)]) ∧ Blk w' q 192 (DcC v (k : Int) 0 0) ∧ Tur (· = q) W w'
  | .cut => e = .returned (.tuple #[.int .u64 0, .int .i64 (first : Int)]) ∧ Blk w' q 192 (DcC v (first : Int) 11 (xs.length : Int)) ∧ Tur (· = q) W w'
  | .form => e = .returned (.tuple #[.int .u64 0, .int .i64 (first : Int)]) ∧ Blk w' q 192 (DcC v (first : Int) 12 (first : Int)) ∧ Tur (· = q) W w'
section
variable {W w' : World} {q first : Nat} {v : Value} {xs : List Int} {o : SevO} {e : Ending}
theorem DevQ.mkOk {n k : Nat} (h : o = .ok n k) (he : e = .returned (.tuple #[.int .u64 (n : Int), .int .i64 (first : Int)])) (h1 : Blk w' q 192 (DcC v (k : Int) 0 0)) (h2 : Tur (· = q) W w') : DevQ W q v xs first o e w' := by
  subst h; exact ⟨he, h1, h2⟩
theorem DevQ.mkCut (h : o = .cut) {m : Nat} (hm : xs.length = m) (he : e = .returned (.tuple #[.int .u64 0, .int .i64 (first : Int)])) (h1 : Blk w' q 192 (DcC v (first : Int) 11 (m : Int)) ∧ Tur (· = q) W w') : DevQ W q v xs first o e w' := by
  subst h; subst hm; exact ⟨he, h1⟩
theorem DevQ.mkForm (h : o = .form) (he : e = .returned (.tuple #[.int .u64 0, .int .i64 (first : Int)])) (h1 : Blk w' q 192 (DcC v (first : Int) 12 (first : Int)) ∧ Tur (· = q) W w') : DevQ W q v xs first o e w' := by
  subst h; exact ⟨he, h1⟩
end

set_option maxHeartbeats 2000000 in
set_option maxRecDepth 100000 in
theorem dc_sevens_no (q : Nat) (A : Option Addr) (n c : Nat) (xs : List Int) (first most last : Nat) (W : World) (h : Blk W q 192 (DcC (.slice A n c) (first : Int) 0 0)) (hl : xs.length = n) (hx : CellsAt W A (bvs xs))
    (hw : ∀ x ∈ xs, (Lit.int .u8 x).wf = true) (hf : first ≤ n) (hn : n ≤ 140737488355328) (hm : 1 ≤ most ∧ most ≤ 10) (hla : last ≤ 127) (hml : most = 10 → last = 1) :
    Calls Tryz.prog 147 #[.pointer (some ⟨q, 0, none⟩), .int .i64 (most : Int), .int .u8 (last : Int)] W (DevQ W q (.slice A n c) xs first (sevAll xs first most last)) := by
  have H := Lib.hid h
  have HL := Lib.hid hl
  have HX := Lib.hid hx
  have HW := Lib.hid hw
  have HN := Lib.hid hn
  have p1 : W.cell? ⟨q, 1, none⟩ = some (.int .i64 (first : Int)) := h.cell 1
  have hm1 := hm.1
  have hm2 := hm.2
  have hfn : (first : Int) ≤ 140737488355328 := by omega
  clear h hl hx hw hn hm
  go_enter Tryz.func147, Tryz.ntmps147
  have K := H
  have B := Lib.hid (Below.refl W.heap.size W)
  have HX1 := HX
  have p0 : W.cell? ⟨q, 0, none⟩ = some (.slice A n c) := K.out.cell 0
  have p2 : W.cell? ⟨q, 2, none⟩ = some (.int .i64 0) := K.out.cell 2
  go_wp2
  go_loop [9, 10] (fun t9 t10 => ∃ i N : Nat, i < most ∧ t9 = .int .u64 (N : Int) ∧ t10 = .int .i64 (i : Int) ∧ Hid (SevI xs first most last i N)) (fun _ t10 => most - (intOf t10).toNat)
  case atStart => exact ⟨0, 0, by omega, rfl, rfl, Lib.hid (SevI.start xs first most last (by rw [HL.out]; exact hf))⟩
  case round =>
    obtain ⟨i, N, him, rfl, rfl, HP⟩ := hrel
    · by_cases hend : first + i = n
      · have hfe : decide ((n : Int) ≤ (first : Int) + (i : Int)) = true := by simp; omega
        go_wp2_with fail
        go_at_call 132; (with_reducible refine (dc_fail_set q _ _ 11 (n : Int) _ (by decide) K.out).mono ?_); rintro e w2 ⟨rfl, hk, ht⟩
        have HH := Lib.hid (And.intro hk ht)
        clear hk ht
        go_wp2
        go_ret2
        exact DevQ.mkCut (HP.out.cut him (by rw [HL.out]; exact hend)) HL.out rfl HH.out
      · have hlt : first + i < n := by have := HP.out.le; rw [HL.out] at this; omega
        have hfe : decide ((n : Int) ≤ (first : Int) + (i : Int)) = false := by simp; omega
        have hltx : first + i < xs.length := by rw [HL.out]; exact hlt
        obtain ⟨ad, rfl, hal, hcell⟩ := HX1.out (first + i) (by rw [bvs_len]; exact hltx)
        obtain ⟨cc, hcc, hc256⟩ : ∃ cc : Nat, xs[first + i] = (cc : Int) ∧ cc < 256 := by
          have hb := bounds_u8 (HW.out xs[first + i] (List.getElem_mem _))
          exact ⟨xs[first + i].toNat, by omega, by omega⟩
        have hcr : W.cell? (ad.add (first + i)) = some (.int .u8 (cc : Int)) := by rw [hcell]; simp [bvs, hcc]
        have ha := and127 cc hc256
        have HCC := Lib.hid hcc
        have q1 : W.cell? ⟨q, 1, none⟩ = some (.int .i64 (first : Int)) := K.out.cell 1
        have qf : W.frozen? ⟨q, 1, none⟩ = false := K.out.frozen 1
        clear hcell hcc hal
        by_cases hbad : 0 < i ∧ cc = 0
        · obtain ⟨hi0, rfl⟩ := hbad
          have z1 : decide ((last : Int) < 0) = false := by simp
          by_cases he : i = most - 1
          · have e1 : ((i : Int) == (most : Int) - 1) = true := by simp; omega
            clear he
            go_wp2_with fail
            go_at_call 132; (with_reducible refine (dc_fail_set q _ _ 12 (first : Int) _ (by decide) K.out).mono ?_); rintro e w2 ⟨rfl, hk, ht⟩
            have HH := Lib.hid (And.intro hk ht)
            clear hk ht
            go_wp2
            go_ret2
            exact DevQ.mkForm (HP.out.form him hltx HCC.out (.inr ⟨hi0, rfl⟩)) rfl HH.out
          · have e1 : ((i : Int) == (most : Int) - 1) = false := by simp; omega
            clear he
            go_wp2_with fail
            go_at_call 132; (with_reducible refine (dc_fail_set q _ _ 12 (first : Int) _ (by decide) K.out).mono ?_); rintro e w2 ⟨rfl, hk, ht⟩
            have HH := Lib.hid (And.intro hk ht)
            clear hk ht
            go_wp2
            go_ret2
            exact DevQ.mkForm (HP.out.form him hltx HCC.out (.inr ⟨hi0, rfl⟩)) rfl HH.out
        · have HNB := Lib.hid (show i = 0 ∨ 0 < cc by omega)
          by_cases he : i = most - 1
          · have HE := Lib.hid he
            have e1 : ((i : Int) == (most : Int) - 1) = true := by simp; omega
            by_cases hl : last < cc
            · have z1 : decide ((last : Int) < (cc : Int)) = true := by simp; omega
              clear he hbad
              go_wp2_with fail
              go_at_call 132; (with_reducible refine (dc_fail_set q _ _ 12 (first : Int) _ (by decide) K.out).mono ?_); rintro e w2 ⟨rfl, hk, ht⟩
              have HH := Lib.hid (And.intro hk ht)
              clear hk ht
              go_wp2
              go_ret2
              exact DevQ.mkForm (HP.out.form him hltx HCC.out (.inl ⟨HE.out, hl⟩)) rfl HH.out
            · have z1 : decide ((last : Int) < (cc : Int)) = false := by simp; omega
              have hc1 : cc < 128 := by omega
              have HBB := Lib.hid (show ¬ ((i = most - 1 ∧ last < cc) ∨ (0 < i ∧ cc = 0)) by have := HNB.out; omega)
              obtain ⟨M, hor, hM⟩ := HP.out.orLast him hm2 hml hc1 HBB.out
              have HM := Lib.hid hM
              have h7 : decide ((cc : Int) < 128) = true := by simp; omega
              clear hM he
              by_cases hi0 : 0 < i
              · have z0 : ((cc : Int) == 0) = false := by simp; omega
                clear hbad
                go_wp2
                go_ret2
                exact DevQ.mkOk (n := M) (by rw [HM.out.1]; exact HP.out.fin him hltx HCC.out HBB.out hc1) rfl (by rw [show ((first + i + 1 : Nat) : Int) = (first : Int) + (i : Int) + 1 by omega]; exact K.out.set_ 1 _) (Tur.setCell (S := (· = q)) (p := ⟨q, 1, none⟩) (Tur.refl _ _) (.inl rfl) _)
              · have hi1 : i = 0 := by omega
                have HI := Lib.hid hi1
                have hi2 : decide ((0 : Int) < (i : Int)) = false := by simp; omega
                clear hbad hi1
                by_cases hcz : cc = 0
                · have hN0 : N = 0 := by have h2 := HP.out.lt; rw [HI.out] at h2; simpa using h2
                  have hM0 : M = 0 := by have h1 := HM.out.1; rw [hcz, hN0] at h1; simpa using h1
                  subst hcz
                  subst hM0
                  subst hN0
                  have ha0 : bits .and .u8 0 127 = 0 := by decide
                  have hor0 : bits .or .u64 0 0 = 0 := by decide
                  clear hor ha
                  go_wp2
                  go_ret2
                  exact DevQ.mkOk (n := 0) (by rw [HM.out.1]; exact HP.out.fin him hltx HCC.out (by have := HBB.out; simpa using this) hc1) rfl (by rw [show ((first + i + 1 : Nat) : Int) = (first : Int) + (i : Int) + 1 by omega]; exact K.out.set_ 1 _) (Tur.setCell (S := (· = q)) (p := ⟨q, 1, none⟩) (Tur.refl _ _) (.inl rfl) _)
                · have z0 : ((cc : Int) == 0) = false := by simp; omega
                  clear hcz
                  go_wp2
                  go_ret2
                  exact DevQ.mkOk (n := M) (by rw [HM.out.1]; exact HP.out.fin him hltx HCC.out HBB.out hc1) rfl (by rw [show ((first + i + 1 : Nat) : Int) = (first : Int) + (i : Int) + 1 by omega]; exact K.out.set_ 1 _) (Tur.setCell (S := (· = q)) (p := ⟨q, 1, none⟩) (Tur.refl _ _) (.inl rfl) _)
          · have e1 : ((i : Int) == (most : Int) - 1) = false := by simp; omega
            by_cases hc1 : cc < 128
            · have HBB := Lib.hid (show ¬ ((i = most - 1 ∧ last < cc) ∨ (0 < i ∧ cc = 0)) by have := HNB.out; omega)
              obtain ⟨M, hor, hM⟩ := HP.out.orLast him hm2 hml hc1 HBB.out
              have HM := Lib.hid hM
              have h7 : decide ((cc : Int) < 128) = true := by simp; omega
              clear hM he
              by_cases hi0 : 0 < i
              · have z0 : ((cc : Int) == 0) = false := by simp; omega
                clear hbad
                go_wp2
                go_ret2
                exact DevQ.mkOk (n := M) (by rw [HM.out.1]; exact HP.out.fin him hltx HCC.out HBB.out hc1) rfl (by rw [show ((first + i + 1 : Nat) : Int) = (first : Int) + (i : Int) + 1 by omega]; exact K.out.set_ 1 _) (Tur.setCell (S := (· = q)) (p := ⟨q, 1, none⟩) (Tur.refl _ _) (.inl rfl) _)
              · have hi1 : i = 0 := by omega
                have HI := Lib.hid hi1
                have hi2 : decide ((0 : Int) < (i : Int)) = false := by simp; omega
                clear hbad hi1
                by_cases hcz : cc = 0
                · have hN0 : N = 0 := by have h2 := HP.out.lt; rw [HI.out] at h2; simpa using h2
                  have hM0 : M = 0 := by have h1 := HM.out.1; rw [hcz, hN0] at h1; simpa using h1
                  subst hcz
                  subst hM0
                  subst hN0
                  have ha0 : bits .and .u8 0 127 = 0 := by decide
                  have hor0 : bits .or .u64 0 0 = 0 := by decide
                  clear hor ha
                  go_wp2
                  go_ret2
                  exact DevQ.mkOk (n := 0) (by rw [HM.out.1]; exact HP.out.fin him hltx HCC.out (by have := HBB.out; simpa using this) hc1) rfl (by rw [show ((first + i + 1 : Nat) : Int) = (first : Int) + (i : Int) + 1 by omega]; exact K.out.set_ 1 _) (Tur.setCell (S := (· = q)) (p := ⟨q, 1, none⟩) (Tur.refl _ _) (.inl rfl) _)
                · have z0 : ((cc : Int) == 0) = false := by simp; omega
                  clear hcz
                  go_wp2
                  go_ret2
                  exact DevQ.mkOk (n := M) (by rw [HM.out.1]; exact HP.out.fin him hltx HCC.out HBB.out hc1) rfl (by rw [show ((first + i + 1 : Nat) : Int) = (first : Int) + (i : Int) + 1 by omega]; exact K.out.set_ 1 _) (Tur.setCell (S := (· = q)) (p := ⟨q, 1, none⟩) (Tur.refl _ _) (.inl rfl) _)
            · have HBB := Lib.hid (show ¬ ((i = most - 1 ∧ last < cc) ∨ (0 < i ∧ cc = 0)) by have := HNB.out; omega)
              have HNE := Lib.hid he
              obtain ⟨M, hor, hM⟩ := HP.out.orNext (by omega) (by omega) hc256
              have HNX := Lib.hid (hM ▸ HP.out.next him hltx HCC.out HBB.out (by omega) hc256)
              have HM := Lib.hid hM
              have h7 : decide ((cc : Int) < 128) = false := by simp; omega
              have z0 : ((cc : Int) == 0) = false := by simp; omega
              clear hM he
              go_wp2
              all_goals
                go_round
                case rel => exact ⟨i + 1, M, by have := HNE.out; omega, rfl, by go_num, HNX⟩
                case measure => simp [intOf]; omega
end Go.Proofs.YtglbdbghcdoicaaGreatDoor

namespace Go.Proofs.YtglbdbghcdoicaaGreatDoor
open Go.RowKit

def RS.err (s : RS) : Int := match s.fault with | none => 0 | some (e, _) => e
def RS.on (s : RS) : Int := match s.fault with | none => 0 | some (_, p) => p
theorem CellsAt.tur2 {W W1 : World} {A : Option Addr} {xs : List Int} {S : Nat → Prop} (h : CellsAt W A (bvs xs)) (ht : Tur S W W1) (hS : xs ≠ [] → ∀ ad, A = some ad → ¬ S ad.block) : CellsAt W1 A (bvs xs) := by
  by_cases h0 : xs = []
  · subst h0; exact fun k hk => absurd hk (by simp [bvs])
  · exact h.tur ht (hS h0)
/-- The document's Reader at a state of the pure one. -/
structure DocIs (W : World) (q : Nat) (A : Option Addr) (n c : Nat) (xs : List Int) (s : RS) : Prop where
  blk : Blk W q 192 (DcC (.slice A n c) (s.pos : Int) s.err s.on)
  ok : ∀ e p, s.fault = some (e, p) → (e == 0) = false
  len : xs.length = n
  cells : CellsAt W A (bvs xs)
  apart : xs ≠ [] → ∀ ad, A = some ad → ad.block ≠ q
  wf : ∀ x ∈ xs, (Lit.int .u8 x).wf = true
  pos : s.pos ≤ n
  cap : n ≤ c
  big : n ≤ 140737488355328
section
variable {W W1 : World} {q n c : Nat} {A : Option Addr} {xs : List Int} {s s1 : RS}
theorem DocIs.lt256 (h : DocIs W q A n c xs s) : ∀ x ∈ xs, x < 256 := fun x hx => by have := bounds_u8 (h.wf x hx); omega
theorem DocIs.posL (h : DocIs W q A n c xs s) : s.pos ≤ xs.length := by rw [h.len]; exact h.pos
theorem DocIs.tur {S : Nat → Prop} (h : DocIs W q A n c xs s) (ht : Tur S W W1) (h1 : ¬ S q) (h2 : xs ≠ [] → ∀ ad, A = some ad → ¬ S ad.block) : DocIs W1 q A n c xs s :=
  ⟨h.blk.tur ht h1, h.ok, h.len, h.cells.tur2 ht h2, h.apart, h.wf, h.pos, h.cap, h.big⟩
theorem DocIs.kept (h : DocIs W q A n c xs s) (hb : Below W.heap.size W W1) : DocIs W1 q A n c xs s :=
  h.tur (Tur.of_below (S := fun _ => False) hb) (fun h => h) (fun _ _ _ h => h)
theorem DocIs.put (h : DocIs W q A n c xs s) (ht : Tur (· = q) W W1) (hb : Blk W1 q 192 (DcC (.slice A n c) (s1.pos : Int) s1.err s1.on)) (hp : s1.pos ≤ n) (ok : ∀ e p, s1.fault = some (e, p) → (e == 0) = false) : DocIs W1 q A n c xs s1 :=
  ⟨hb, ok, h.len, h.cells.tur2 ht h.apart, h.apart, h.wf, hp, h.cap, h.big⟩
theorem DocIs.err_no (hf : s.fault = none) : s.err = 0 ∧ s.on = 0 := by unfold RS.err RS.on; rw [hf]; exact ⟨rfl, rfl⟩
theorem DocIs.err_yes (h : DocIs W q A n c xs s) (hf : s.fault.isSome = true) : (s.err == 0) = false := by
  rcases he : s.fault with _ | ⟨e, p⟩
  · rw [he] at hf; cases hf
  · have : s.err = e := by unfold RS.err; rw [he]
    rw [this]; exact h.ok e p he
theorem DocIs.err_dec (h : DocIs W q A n c xs s) : (s.err == 0) = !s.fault.isSome := by
  rcases hf : s.fault.isSome
  · rw [(DocIs.err_no (s := s) (by cases h : s.fault <;> simp_all)).1]; rfl
  · rw [h.err_yes hf]; rfl
end
def DcQ (W : World) (q : Nat) (A : Option Addr) (n c : Nat) (xs : List Int) (ret : Value) (s' : RS) (e : Ending) (w' : World) : Prop :=
  e = .returned ret ∧ DocIs w' q A n c xs s' ∧ Tur (· = q) W w'

set_option maxRecDepth 100000 in
theorem dc_read (A : Option Addr) (n c : Nat) (xs : List Int) (W : World) (hl : xs.length = n) (h : CellsAt W A (bvs xs)) (hw : ∀ x ∈ xs, (Lit.int .u8 x).wf = true) (hn : n ≤ 140737488355328) (hc : n ≤ c) :
    Calls Tryz.prog 90 #[.slice A n c] W fun e w' => e = .returned (.pointer (some ⟨W.heap.size, 0, none⟩)) ∧ DocIs w' W.heap.size A n c xs ⟨0, none⟩ ∧ Below W.heap.size W w' := by
  have HX := Lib.hid h
  have HH := Lib.hid (And.intro hl (And.intro hw (And.intro hn hc)))
  clear hl h hw hn hc
  go_enter Tryz.func90, Tryz.ntmps90
  go_wp2
  go_ret
  have hb : Below W.heap.size W (W.alloc (.cells (DcC (.slice A n c) 0 0 0) 192)) := (Below.refl _ _).alloc (Nat.le_refl _) _
  exact ⟨rfl, ⟨Blk.new _ _ _, (fun _ _ h => by cases h), HH.out.1, HX.out.below hb, (fun h0 ad e => by
    subst e
    obtain ⟨ad', e, h1, _⟩ := HX.out 0 (by rw [bvs_len]; exact List.length_pos_iff.2 h0)
    cases e
    exact Nat.ne_of_lt h1), HH.out.2.1, Nat.zero_le _, HH.out.2.2.2, HH.out.2.2.1⟩, hb⟩

section
variable {q n c : Nat} {A : Option Addr} {xs : List Int} {s : RS} {W : World}
theorem dc_fail (h : DocIs W q A n c xs s) (code pl : Int) :
    Calls Tryz.prog 132 #[.pointer (some ⟨q, 0, none⟩), .int .i64 code, .int .i64 pl] W (DcQ W q A n c xs (.tuple #[]) (s.fail code pl)) := by
  rcases hf : s.fault with _ | ⟨e, p⟩
  · obtain ⟨h1, h2⟩ := DocIs.err_no hf
    by_cases hc : code = 0
    · subst hc
      refine (dc_fail_zero q _ _ _ _ pl W h.blk).mono ?_
      rintro e w' ⟨rfl, rfl⟩
      have e1 : s.fail 0 pl = s := by unfold RS.fail; rw [hf]; rfl
      rw [e1]
      exact ⟨rfl, h, Tur.refl _ _⟩
    · have hb := h.blk
      rw [h1, h2] at hb
      refine (dc_fail_set q _ _ code pl W (by simpa using hc) hb).mono ?_
      rintro e w' ⟨rfl, hb, ht⟩
      have e1 : s.fail code pl = ⟨s.pos, some (code, pl)⟩ := by unfold RS.fail; rw [hf]; simp only; rw [if_neg hc]
      rw [e1]
      exact ⟨rfl, h.put ht hb h.pos (fun e p he => by cases he; simpa using hc), ht⟩
  · have e1 : s.fail code pl = s := by unfold RS.fail; rw [hf]
    rw [e1]
    refine (dc_fail_keep q _ _ _ _ code pl W (h.err_yes (by rw [hf]; rfl)) h.blk).mono ?_
    rintro e w' ⟨rfl, rfl⟩
    exact ⟨rfl, h, Tur.refl _ _⟩
set_option maxRecDepth 100000 in
theorem dc_sevens_yes (most last : Nat) (hf : (s.err == 0) = false) (h : DocIs W q A n c xs s) :
    Calls Tryz.prog 147 #[.pointer (some ⟨q, 0, none⟩), .int .i64 (most : Int), .int .u8 (last : Int)] W fun e w' => e = .returned (.tuple #[.int .u64 0, .int .i64 (s.pos : Int)]) ∧ W = w' := by
  have p1 : W.cell? ⟨q, 1, none⟩ = some (.int .i64 (s.pos : Int)) := h.blk.cell 1
  have p2 : W.cell? ⟨q, 2, none⟩ = some (.int .i64 s.err) := h.blk.cell 2
  clear h
  generalize s.err = er at *
  go_enter Tryz.func147, Tryz.ntmps147
  go_wp2
  go_ret2
  exact ⟨rfl, rfl⟩
theorem dc_sevens (h : DocIs W q A n c xs s) {most last m : Nat} {s1 : RS} (hr : sevP xs most last s = (m, s1)) (hm : 1 ≤ most ∧ most ≤ 10) (hla : last ≤ 127) (hml : most = 10 → last = 1) :
    Calls Tryz.prog 147 #[.pointer (some ⟨q, 0, none⟩), .int .i64 (most : Int), .int .u8 (last : Int)] W (DcQ W q A n c xs (.tuple #[.int .u64 (m : Int), .int .i64 (s.pos : Int)]) s1) := by
  rcases hf : s.fault with _ | ⟨e, p⟩
  · obtain ⟨h1, h2⟩ := DocIs.err_no hf
    have hb := h.blk
    rw [h1, h2] at hb
    refine (dc_sevens_no q A n c xs s.pos most last W hb h.len h.cells h.wf h.pos h.big hm hla hml).mono ?_
    intro e w' hq
    unfold sevP at hr
    rw [hf] at hr
    simp only at hr
    unfold DevQ at hq
    split at hr
    · rename_i h1
      rw [h1] at hq
      cases hr
      obtain ⟨rfl, hb, ht⟩ := hq
      exact ⟨rfl, h.put ht hb (by rw [← h.len]; exact (sevAll_ok h1 h.posL).2.1) (fun _ _ h => by cases h), ht⟩
    · rename_i h1
      rw [h1] at hq
      cases hr
      obtain ⟨rfl, hb, ht⟩ := hq
      exact ⟨rfl, h.put ht hb h.pos (fun e p he => by cases he; rfl), ht⟩
    · rename_i h1
      rw [h1] at hq
      cases hr
      obtain ⟨rfl, hb, ht⟩ := hq
      exact ⟨rfl, h.put ht hb h.pos (fun e p he => by cases he; rfl), ht⟩
  · have : (m, s1) = (0, s) := by rw [← hr]; unfold sevP; rw [hf]
    cases this
    refine (dc_sevens_yes most last (h.err_yes (by rw [hf]; rfl)) h).mono ?_
    rintro e w' ⟨rfl, rfl⟩
    exact ⟨rfl, h, Tur.refl _ _⟩
theorem fail_stay {s : RS} (e p : Int) (h : s.fault.isSome = true) : s.fail e p = s := by
  unfold RS.fail
  split
  · rfl
  · rename_i hf; rw [hf] at h; cases h

set_option maxHeartbeats 1000000 in
set_option maxRecDepth 100000 in
theorem dc_num (h : DocIs W q A n c xs s) (most : Int) (hmo : most ≤ 9223372036854775807) :
    Calls Tryz.prog 133 #[.pointer (some ⟨q, 0, none⟩), .int .i64 most] W (DcQ W q A n c xs (.int .i64 ((numP xs most s).1 : Int)) (numP xs most s).2) := by
  rcases hr : sevP xs 9 127 s with ⟨m, s1⟩
  have hm9 := sevP_lt h.posL h.lt256 hr
  have C := Lib.hid (show Calls Tryz.prog 147 #[.pointer (some ⟨q, 0, none⟩), .int .i64 9, .int .u8 127] W _ from dc_sevens (most := 9) (last := 127) h hr ⟨by omega, by omega⟩ (by omega) (by omega))
  have HP := Lib.hid (show ∀ s2, numS most s.pos (m, s1) = s2 → numP xs most s = (if s2.fault.isSome then 0 else m, s2) from fun s2 h => by unfold numP; rw [hr, h])
  clear h hr
  rcases hf : s1.fault.isSome
  · have hf0 : s1.fault = none := by cases h : s1.fault <;> simp_all
    have HE := Lib.hid (DocIs.err_no hf0).1
    have HF := Lib.hid hf
    clear hf
    by_cases hb : most < 0 ∨ most < (m : Int)
    · have HS := Lib.hid (show numS most s.pos (m, s1) = s1.fail 16 (s.pos : Int) by unfold numS; rw [if_pos hb])
      have HS1 := Lib.hid (fail_some s1 (e := 16) (p := (s.pos : Int)) (by decide))
      by_cases hlt : most < 0
      · have hd : decide (most < 0) = true := by simpa using hlt
        clear hlt hb
        go_enter Tryz.func133, Tryz.ntmps133
        go_wp2_with fail
        go_at_call 147; (with_reducible refine C.out.mono ?_); rintro e w1 ⟨rfl, h1, f1⟩
        have p2 : w1.cell? ⟨q, 2, none⟩ = some (.int .i64 0) := HE.out ▸ h1.blk.cell 2
        have H1 := Lib.hid h1
        have F1 := Lib.hid f1
        clear h1 f1
        go_wp2_with fail
        go_at_call 132; (with_reducible refine (dc_fail H1.out 16 (s.pos : Int)).mono ?_); rintro e w2 ⟨rfl, h2, f2⟩
        have q2 : w2.cell? ⟨q, 2, none⟩ = some (.int .i64 (s1.fail 16 (s.pos : Int)).err) := h2.blk.cell 2
        have q3 := h2.err_yes HS1.out
        have H2 := Lib.hid h2
        have F2 := Lib.hid (F1.out.trans f2 (fun _ h => .inl h))
        generalize (s1.fail 16 (s.pos : Int)).err = er at q2 q3
        clear h2 f2
        go_wp2
        go_ret
        rw [HP.out _ HS.out, HS1.out]
        exact ⟨rfl, H2.out, F2.out⟩
      · obtain ⟨mo, rfl⟩ : ∃ mo : Nat, most = (mo : Int) := ⟨most.toNat, by omega⟩
        have hmm : mo < m := by omega
        have hd : decide ((mo : Int) < 0) = false := by simp
        have hd2 : decide (mo < m) = true := by simpa using hmm
        have hd3 : decide ((mo : Int) < (m : Int)) = true := by simpa using hmm
        clear hlt hb hmm
        go_enter Tryz.func133, Tryz.ntmps133
        go_wp2_with fail
        go_at_call 147; (with_reducible refine C.out.mono ?_); rintro e w1 ⟨rfl, h1, f1⟩
        have p2 : w1.cell? ⟨q, 2, none⟩ = some (.int .i64 0) := HE.out ▸ h1.blk.cell 2
        have H1 := Lib.hid h1
        have F1 := Lib.hid f1
        clear h1 f1
        go_wp2_with fail
        go_at_call 132; (with_reducible refine (dc_fail H1.out 16 (s.pos : Int)).mono ?_); rintro e w2 ⟨rfl, h2, f2⟩
        have q2 : w2.cell? ⟨q, 2, none⟩ = some (.int .i64 (s1.fail 16 (s.pos : Int)).err) := h2.blk.cell 2
        have q3 := h2.err_yes HS1.out
        have H2 := Lib.hid h2
        have F2 := Lib.hid (F1.out.trans f2 (fun _ h => .inl h))
        generalize (s1.fail 16 (s.pos : Int)).err = er at q2 q3
        clear h2 f2
        go_wp2
        go_ret
        rw [HP.out _ HS.out, HS1.out]
        exact ⟨rfl, H2.out, F2.out⟩
    · obtain ⟨mo, rfl⟩ : ∃ mo : Nat, most = (mo : Int) := ⟨most.toNat, by omega⟩
      have HS := Lib.hid (show numS (mo : Int) s.pos (m, s1) = s1 by unfold numS; rw [if_neg hb])
      have hmm : ¬ mo < m := by omega
      have hd : decide ((mo : Int) < 0) = false := by simp
      have hd2 : decide (mo < m) = false := by simpa using hmm
      have hd3 : decide ((mo : Int) < (m : Int)) = false := by simpa using hmm
      clear hb hmm
      go_enter Tryz.func133, Tryz.ntmps133
      go_wp2_with fail
      go_at_call 147; (with_reducible refine C.out.mono ?_); rintro e w1 ⟨rfl, h1, f1⟩
      have p2 : w1.cell? ⟨q, 2, none⟩ = some (.int .i64 0) := HE.out ▸ h1.blk.cell 2
      have H1 := Lib.hid h1
      have F1 := Lib.hid f1
      clear h1 f1
      go_wp2
      go_ret
      rw [HP.out _ HS.out, HF.out]
      exact ⟨rfl, H1.out, F1.out⟩
  · have HF := Lib.hid hf
    have HS := Lib.hid (show numS most s.pos (m, s1) = s1 by
      unfold numS
      split
      · exact fail_stay _ _ hf
      · rfl)
    clear hf
    go_enter Tryz.func133, Tryz.ntmps133
    go_wp2_with fail
    go_at_call 147; (with_reducible refine C.out.mono ?_); rintro e w1 ⟨rfl, h1, f1⟩
    have p2 : w1.cell? ⟨q, 2, none⟩ = some (.int .i64 s1.err) := h1.blk.cell 2
    have p3 := h1.err_yes HF.out
    have H1 := Lib.hid h1
    have F1 := Lib.hid f1
    generalize s1.err = er at p2 p3
    clear h1 f1
    go_wp2
    go_ret
    rw [HP.out _ HS.out, HF.out]
    exact ⟨rfl, H1.out, F1.out⟩

set_option maxHeartbeats 1000000 in
set_option maxRecDepth 100000 in
theorem dc_int (h : DocIs W q A n c xs s) :
    Calls Tryz.prog 135 #[.pointer (some ⟨q, 0, none⟩)] W (DcQ W q A n c xs (.int .i64 (intP xs s).1) (intP xs s).2) := by
  rcases hr : sevP xs 10 1 s with ⟨m, s1⟩
  have hm := sevP_lt64 h.lt256 hr
  have C := Lib.hid (show Calls Tryz.prog 147 #[.pointer (some ⟨q, 0, none⟩), .int .i64 10, .int .u8 1] W _ from dc_sevens (most := 10) (last := 1) h hr ⟨by omega, by omega⟩ (by omega) (by omega))
  have HP := Lib.hid (show intP xs s = (if s1.fault.isSome then 0 else unzz m, s1) by unfold intP; rw [hr])
  have hm2 : (m : Int) / 2 ≤ 9223372036854775807 := by omega
  clear h hr hm
  rcases hf : s1.fault.isSome
  · have hf0 : s1.fault = none := by cases h : s1.fault <;> simp_all
    have HE := Lib.hid (DocIs.err_no hf0).1
    have HF := Lib.hid hf
    clear hf
    rcases Nat.mod_two_eq_zero_or_one m with hp | hp
    · have hq : (m : Int) % 2 = 0 := by omega
      have HU := Lib.hid (show unzz m = (m : Int) / 2 by unfold unzz; rw [if_neg (by omega)])
      clear hp
      go_enter Tryz.func135, Tryz.ntmps135
      go_wp2_with fail
      go_at_call 147; (with_reducible refine C.out.mono ?_); rintro e w1 ⟨rfl, h1, f1⟩
      have p2 : w1.cell? ⟨q, 2, none⟩ = some (.int .i64 0) := HE.out ▸ h1.blk.cell 2
      have H1 := Lib.hid (And.intro h1 f1)
      clear h1 f1
      go_wp2
      go_ret
      rw [HP.out, HF.out]
      refine ⟨?_, H1.out⟩
      show _ = Ending.returned (Value.int .i64 (unzz m))
      rw [HU.out]; rfl
    · have hq : (m : Int) % 2 = 1 := by omega
      have HU := Lib.hid (show unzz m = -((m : Int) / 2) - 1 by unfold unzz; rw [if_pos hp]; omega)
      clear hp
      go_enter Tryz.func135, Tryz.ntmps135
      go_wp2_with fail
      go_at_call 147; (with_reducible refine C.out.mono ?_); rintro e w1 ⟨rfl, h1, f1⟩
      have p2 : w1.cell? ⟨q, 2, none⟩ = some (.int .i64 0) := HE.out ▸ h1.blk.cell 2
      have H1 := Lib.hid (And.intro h1 f1)
      clear h1 f1
      go_wp2
      go_ret
      rw [HP.out, HF.out]
      refine ⟨?_, H1.out⟩
      show _ = Ending.returned (Value.int .i64 (unzz m))
      rw [HU.out]
      exact ret_int (by omega)
  · have HF := Lib.hid hf
    clear hf
    go_enter Tryz.func135, Tryz.ntmps135
    go_wp2_with fail
    go_at_call 147; (with_reducible refine C.out.mono ?_); rintro e w1 ⟨rfl, h1, f1⟩
    have p2 : w1.cell? ⟨q, 2, none⟩ = some (.int .i64 s1.err) := h1.blk.cell 2
    have p3 := h1.err_yes HF.out
    have H1 := Lib.hid (And.intro h1 f1)
    generalize s1.err = er at p2 p3
    clear h1 f1
    go_wp2
    go_ret
    rw [HP.out, HF.out]
    exact ⟨rfl, H1.out⟩
end
end Go.Proofs.YtglbdbghcdoicaaGreatDoor

namespace Go.Proofs.YtglbdbghcdoicaaGreatDoor
open Go.RowKit

section
variable {q n c : Nat} {A : Option Addr} {xs : List Int} {s : RS} {W : World}
set_option maxRecDepth 100000 in
theorem dc_end (h : DocIs W q A n c xs s) :
    Calls Tryz.prog 95 #[.pointer (some ⟨q, 0, none⟩)] W (DcQ W q A n c xs (.tuple #[]) (endP xs s)) := by
  have p0 : W.cell? ⟨q, 0, none⟩ = some (.slice A n c) := h.blk.cell 0
  have p1 : W.cell? ⟨q, 1, none⟩ = some (.int .i64 (s.pos : Int)) := h.blk.cell 1
  have p2 : W.cell? ⟨q, 2, none⟩ = some (.int .i64 s.err) := h.blk.cell 2
  have H := Lib.hid (fun k => h.kept (below_drewN (Below.refl W.heap.size W) k))
  have HL := Lib.hid h.len
  have hdec := h.err_dec
  clear h
  rcases hf : s.fault.isSome
  · have hf0 : s.fault = none := by cases h : s.fault <;> simp_all
    rw [(DocIs.err_no hf0).1] at p2 hdec
    clear hdec hf hf0
    by_cases hk : s.pos < n
    · have HE := Lib.hid (show endP xs s = s.fail 13 (s.pos : Int) by unfold endP; rw [HL.out, if_pos hk])
      have hd : decide (s.pos < n) = true := by simpa using hk
      clear hk
      go_enter Tryz.func95, Tryz.ntmps95
      go_wp2
      go_quiet (fail)
      go_wp2_with fail
      go_at_call 132; (with_reducible refine (dc_fail (H.out _) 13 (s.pos : Int)).mono ?_); rintro e w2 ⟨rfl, h2, f2⟩
      go_wp2
      go_end0
      rw [HE.out]
      exact ⟨rfl, h2, (Tur.of_below (S := (· = q)) (below_drewN (Below.refl _ _) _)).trans f2 (fun _ h => .inl h)⟩
    · have HE := Lib.hid (show endP xs s = s by unfold endP; rw [HL.out, if_neg hk])
      have hd : decide (s.pos < n) = false := by simpa using hk
      clear hk
      go_enter Tryz.func95, Tryz.ntmps95
      go_wp2
      go_quiet (fail)
      go_wp2
      go_end0
      rw [HE.out]
      exact ⟨rfl, H.out _, Tur.of_below (S := (· = q)) (below_drewN (Below.refl _ _) _)⟩
  · rw [hf] at hdec
    have HE := Lib.hid (show endP xs s = s by
      unfold endP
      split
      · exact fail_stay _ _ hf
      · rfl)
    have hdec2 : (s.err == 0) = false := hdec
    generalize s.err = er at p2 hdec2
    clear hdec hf
    go_enter Tryz.func95, Tryz.ntmps95
    go_wp2
    go_quiet (fail)
    go_wp2
    go_end0
    rw [HE.out]
    exact ⟨rfl, H.out _, Tur.of_below (S := (· = q)) (below_drewN (Below.refl _ _) _)⟩

set_option maxHeartbeats 1000000 in
set_option maxRecDepth 100000 in
theorem dc_text (h : DocIs W q A n c xs s) (most : Int) (hmo : most ≤ 9223372036854775807) :
    Calls Tryz.prog 134 #[.pointer (some ⟨q, 0, none⟩), .int .i64 most] W (DcQ W q A n c xs (.string (strOfNums (textP xs most s).1)) (textP xs most s).2) := by
  rcases hr : numP xs most s with ⟨m, s1⟩
  have C := Lib.hid (hr ▸ dc_num h most hmo)
  have HT := Lib.hid (show textP xs most s = textQ xs (m, s1) by unfold textP; rw [hr])
  have HR := Lib.hid hr
  have HL := Lib.hid h.len
  have HPL := Lib.hid h.posL
  have hn : (n : Int) ≤ 140737488355328 := by have := h.big; omega
  clear h hr
  rcases hf : s1.fault with _ | ⟨e, p⟩
  · have HF0 := Lib.hid hf
    have HER := Lib.hid (DocIs.err_no hf).1
    by_cases hgt : n - s1.pos < m
    · have HE := Lib.hid (show textQ xs (m, s1) = ([], s1.fail 11 (n : Int)) by unfold textQ RS.fail; rw [hf]; simp only; rw [HL.out, if_pos hgt, if_neg (by decide)])
      clear hf
      go_enter Tryz.func134, Tryz.ntmps134
      go_wp2_with fail
      go_at_call 133; (with_reducible refine C.out.mono ?_); rintro e w1 ⟨rfl, h1, f1⟩
      have hp := h1.pos
      have hd : decide ((n : Int) - (s1.pos : Int) < (m : Int)) = true := by simp; omega
      have q0 : w1.cell? ⟨q, 0, none⟩ = some (.slice A n c) := h1.blk.cell 0
      have q1 : w1.cell? ⟨q, 1, none⟩ = some (.int .i64 (s1.pos : Int)) := h1.blk.cell 1
      have q2 : w1.cell? ⟨q, 2, none⟩ = some (.int .i64 0) := HER.out ▸ h1.blk.cell 2
      have H1 := Lib.hid (fun k => h1.kept (below_drewN (Below.refl w1.heap.size w1) k))
      have F1 := Lib.hid f1
      clear h1 f1 hgt
      go_wp2
      go_quiet (fail)
      go_wp2_with fail
      go_at_call 132; (with_reducible refine (dc_fail (H1.out _) 11 (n : Int)).mono ?_); rintro e w2 ⟨rfl, h2, f2⟩
      have H2 := Lib.hid h2
      have F2 := Lib.hid ((F1.out.trans (Tur.of_below (S := (· = q)) (below_drewN (Below.refl w1.heap.size w1) _)) (fun _ h => .inl h)).trans f2 (fun _ h => .inl h))
      clear h2 f2
      go_wp2
      go_ret
      rw [HT.out, HE.out]
      exact ⟨rfl, H2.out, F2.out⟩
    · have hs := numP_none HR.out hf
      have hlt := sevAll_ok hs.2.1 HPL.out
      have HE := Lib.hid (show textQ xs (m, s1) = ((xs.drop s1.pos).take m, ⟨s1.pos + m, none⟩) by unfold textQ; rw [hf]; simp only; rw [HL.out, if_neg hgt])
      clear hs
      have HLT := Lib.hid hlt
      clear hf hlt
      go_enter Tryz.func134, Tryz.ntmps134
      go_wp2_with fail
      go_at_call 133; (with_reducible refine C.out.mono ?_); rintro e w1 ⟨rfl, h1, f1⟩
      have hp := h1.pos
      have hcap := h1.cap
      have hd : decide ((n : Int) - (s1.pos : Int) < (m : Int)) = false := by simp; omega
      have q0 : w1.cell? ⟨q, 0, none⟩ = some (.slice A n c) := h1.blk.cell 0
      have q1 : w1.cell? ⟨q, 1, none⟩ = some (.int .i64 (s1.pos : Int)) := h1.blk.cell 1
      have q2 : w1.cell? ⟨q, 2, none⟩ = some (.int .i64 0) := HER.out ▸ h1.blk.cell 2
      have H1 := Lib.hid (fun k => h1.kept (below_drewN (Below.refl w1.heap.size w1) k))
      have F1 := Lib.hid f1
      clear h1 f1
      go_wp2
      go_quiet (fail)
      have h3 := H1.out nq
      have F3 := Lib.hid (F1.out.trans (Tur.of_below (S := (· = q)) (below_drewN (Below.refl w1.heap.size w1) nq)) (fun _ h => .inl h))
      obtain ⟨w3, hw3⟩ : ∃ w3, w3 = w1.drewN nq := ⟨_, rfl⟩
      rw [← hw3] at h3 F3 ⊢
      clear hw3
      have q0 : w3.cell? ⟨q, 0, none⟩ = some (.slice A n c) := h3.blk.cell 0
      have q1 : w3.cell? ⟨q, 1, none⟩ = some (.int .i64 (s1.pos : Int)) := h3.blk.cell 1
      have qf : w3.frozen? ⟨q, 1, none⟩ = false := h3.blk.frozen 1
      have hp0 : 0 < xs.length := by have := HLT.out; have := HL.out; omega
      obtain ⟨ad, rfl, _, _⟩ := h3.cells 0 (by rw [bvs_len]; exact hp0)
      have H3 := Lib.hid h3
      obtain ⟨S, hS⟩ : ∃ S, S = strOfNums ((xs.drop s1.pos).take m) := ⟨_, rfl⟩
      have HS := Lib.hid hS
      have b1 : s1.pos + m ≤ c := by omega
      have b2 : (s1.pos : Int) + (m : Int) ≤ (c : Int) := by omega
      have b3 : s1.pos ≤ s1.pos + m := by omega
      have b4 : (s1.pos : Int) + (m : Int) ≤ 140737488355328 := by omega
      have b5 : IntKind.i64.wrap ((s1.pos : Int) + (m : Int)) = ((s1.pos + m : Nat) : Int) := by rw [IntKind.wrap_i64]; omega
      have HPM := Lib.hid (show s1.pos + m ≤ n by omega)
      by_cases hcp : c = s1.pos
      · have hm0 : m = 0 := by omega
        have hcvN : ∀ c' k, (convert 32 9 (.slice (some ad) m c')).run Tryz.prog (w3.drewN k) = .ok (.string S) (w3.drewN k) := fun c' k => by
          rw [hS, hm0, List.take_zero]
          exact conv_zero c'
        subst hcp
        subst hm0
        clear h3 hS hgt
        go_wp2
        go_quiet (fail)
        have H4 := Lib.hid (H3.out.kept (below_drewN (Below.refl w3.heap.size w3) nq))
        have F4 := Lib.hid (F3.out.trans (Tur.of_below (S := (· = q)) (below_drewN (Below.refl w3.heap.size w3) nq)) (fun _ h => .inl h))
        clear hcvN
        go_wp2
        go_ret
        rw [HT.out, HE.out, ← HS.out]
        have hb := H4.out.blk.set_ 1 (.int .i64 ((s1.pos : Int) + ((0 : Nat) : Int)))
        rw [(DocIs.err_no HF0.out).1, (DocIs.err_no HF0.out).2] at hb
        exact ⟨rfl, DocIs.put (s1 := ⟨s1.pos + 0, none⟩) H4.out (Tur.setCell (S := (· = q)) (p := ⟨q, 1, none⟩) (Tur.refl _ _) (.inl rfl) _) hb HPM.out (fun _ _ h => by cases h), F4.out.trans (Tur.setCell (S := (· = q)) (p := ⟨q, 1, none⟩) (Tur.refl _ _) (.inl rfl) _) (fun _ h => .inl h)⟩
      · have hcvN : ∀ c' k, (convert 32 9 (.slice (some (ad.add s1.pos)) m c')).run Tryz.prog (w3.drewN k) = .ok (.string S) (w3.drewN k) := fun c' k => by
          rw [hS]
          exact conv_sub (h3.kept (below_drewN (Below.refl w3.heap.size w3) k)).cells H3.out.len (by omega) c'
        clear h3 hS hgt
        go_wp2
        go_quiet (fail)
        have H4 := Lib.hid (H3.out.kept (below_drewN (Below.refl w3.heap.size w3) nq))
        have F4 := Lib.hid (F3.out.trans (Tur.of_below (S := (· = q)) (below_drewN (Below.refl w3.heap.size w3) nq)) (fun _ h => .inl h))
        clear hcvN
        go_wp2
        go_ret
        rw [HT.out, HE.out, ← HS.out]
        have hb := H4.out.blk.set_ 1 (.int .i64 ((s1.pos : Int) + (m : Int)))
        rw [(DocIs.err_no HF0.out).1, (DocIs.err_no HF0.out).2] at hb
        exact ⟨rfl, DocIs.put (s1 := ⟨s1.pos + m, none⟩) H4.out (Tur.setCell (S := (· = q)) (p := ⟨q, 1, none⟩) (Tur.refl _ _) (.inl rfl) _) hb HPM.out (fun _ _ h => by cases h), F4.out.trans (Tur.setCell (S := (· = q)) (p := ⟨q, 1, none⟩) (Tur.refl _ _) (.inl rfl) _) (fun _ h => .inl h)⟩
  · have hs : s1.fault.isSome = true := by rw [hf]; rfl
    obtain rfl := numP_some HR.out hs
    have HE := Lib.hid (show textQ xs (0, s1) = ([], s1) by unfold textQ; rw [hf])
    have HF := Lib.hid hs
    clear hf hs
    go_enter Tryz.func134, Tryz.ntmps134
    go_wp2_with fail
    go_at_call 133; (with_reducible refine C.out.mono ?_); rintro e w1 ⟨rfl, h1, f1⟩
    have p2 : w1.cell? ⟨q, 2, none⟩ = some (.int .i64 s1.err) := h1.blk.cell 2
    have p3 := h1.err_yes HF.out
    have H1 := Lib.hid (And.intro h1 f1)
    generalize s1.err = er at p2 p3
    clear h1 f1
    go_wp2
    go_ret
    rw [HT.out, HE.out]
    exact ⟨rfl, H1.out⟩
end
end Go.Proofs.YtglbdbghcdoicaaGreatDoor
