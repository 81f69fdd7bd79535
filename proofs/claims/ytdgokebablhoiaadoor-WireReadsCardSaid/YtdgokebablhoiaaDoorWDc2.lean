/- The document's Reader's methods by the pure reader. -/
import Derived.Test.YtdgokebablhoiaaDoorWDc
namespace Go.Proofs.YtdgokebablhoiaaDoor
open Go.RowKit

def RS.err (s : RS) : Int := match s.fault with | none => 0 | some (e, _) => e
def RS.on (s : RS) : Int := match s.fault with | none => 0 | some (_, p) => p
theorem CellsAt.tur2 {W W1 : World} {A : Option Addr} {xs : List Int} {S : Nat → Prop} (h : CellsAt W A (bvs xs)) (ht : Tur S W W1) (hS : xs ≠ [] → ∀ ad, A = some ad → ¬ S ad.block) : CellsAt W1 A (bvs xs) := by
  by_cases h0 : xs = []
  · subst h0; exact fun k hk => absurd hk (by simp [bvs])
  · exact h.tur ht (hS h0)
/-- The document's Reader at a state of the pure one. -/
structure DocIs (W : World) (q : Nat) (A : Option Addr) (n c : Nat) (xs : List Int) (s : RS) : Prop where
  blk : Blk W q 111 (DcC (.slice A n c) (s.pos : Int) s.err s.on)
  ok : ∀ e p, s.fault = some (e, p) → (e == 0) = false
  len : xs.length = n
  cells : CellsAt W A (bvs xs)
  apart : xs ≠ [] → ∀ ad, A = some ad → ad.block ≠ q
  wf : ∀ x ∈ xs, (Lit.int .u8 x).wf = true
  pos : s.pos ≤ n
  cap : n ≤ c
  big : n ≤ 140737488355328
section
variable {W W1 : World} {q n c : Nat} {A : Option Addr} {xs : List Int} {s s1 : RS}
theorem DocIs.lt256 (h : DocIs W q A n c xs s) : ∀ x ∈ xs, x < 256 := fun x hx => by have := bounds_u8 (h.wf x hx); omega
theorem DocIs.posL (h : DocIs W q A n c xs s) : s.pos ≤ xs.length := by rw [h.len]; exact h.pos
theorem DocIs.tur {S : Nat → Prop} (h : DocIs W q A n c xs s) (ht : Tur S W W1) (h1 : ¬ S q) (h2 : xs ≠ [] → ∀ ad, A = some ad → ¬ S ad.block) : DocIs W1 q A n c xs s :=
  ⟨h.blk.tur ht h1, h.ok, h.len, h.cells.tur2 ht h2, h.apart, h.wf, h.pos, h.cap, h.big⟩
theorem DocIs.kept (h : DocIs W q A n c xs s) (hb : Below W.heap.size W W1) : DocIs W1 q A n c xs s :=
  h.tur (Tur.of_below (S := fun _ => False) hb) (fun h => h) (fun _ _ _ h => h)
theorem DocIs.put (h : DocIs W q A n c xs s) (ht : Tur (· = q) W W1) (hb : Blk W1 q 111 (DcC (.slice A n c) (s1.pos : Int) s1.err s1.on)) (hp : s1.pos ≤ n) (ok : ∀ e p, s1.fault = some (e, p) → (e == 0) = false) : DocIs W1 q A n c xs s1 :=
  ⟨hb, ok, h.len, h.cells.tur2 ht h.apart, h.apart, h.wf, hp, h.cap, h.big⟩
theorem DocIs.err_no (hf : s.fault = none) : s.err = 0 ∧ s.on = 0 := by unfold RS.err RS.on; rw [hf]; exact ⟨rfl, rfl⟩
theorem DocIs.err_yes (h : DocIs W q A n c xs s) (hf : s.fault.isSome = true) : (s.err == 0) = false := by
  rcases he : s.fault with _ | ⟨e, p⟩
  · rw [he] at hf; cases hf
  · have : s.err = e := by unfold RS.err; rw [he]
    rw [this]; exact h.ok e p he
theorem DocIs.err_dec (h : DocIs W q A n c xs s) : (s.err == 0) = !s.fault.isSome := by
  rcases hf : s.fault.isSome
  · rw [(DocIs.err_no (s := s) (by cases h : s.fault <;> simp_all)).1]; rfl
  · rw [h.err_yes hf]; rfl
end
def DcQ (W : World) (q : Nat) (A : Option Addr) (n c : Nat) (xs : List Int) (ret : Value) (s' : RS) (e : Ending) (w' : World) : Prop :=
  e = .returned ret ∧ DocIs w' q A n c xs s' ∧ Tur (· = q) W w'

set_option maxRecDepth 100000 in
theorem dc_read (A : Option Addr) (n c : Nat) (xs : List Int) (W : World) (hl : xs.length = n) (h : CellsAt W A (bvs xs)) (hw : ∀ x ∈ xs, (Lit.int .u8 x).wf = true) (hn : n ≤ 140737488355328) (hc : n ≤ c) :
    Calls Tryd.prog 45 #[.slice A n c] W fun e w' => e = .returned (.pointer (some ⟨W.heap.size, 0, none⟩)) ∧ DocIs w' W.heap.size A n c xs ⟨0, none⟩ ∧ Below W.heap.size W w' := by
  have HX := Lib.hid h
  have HH := Lib.hid (And.intro hl (And.intro hw (And.intro hn hc)))
  clear hl h hw hn hc
  go_enter Tryd.func45, Tryd.ntmps45
  go_wp2
  go_ret
  have hb : Below W.heap.size W (W.alloc (.cells (DcC (.slice A n c) 0 0 0) 111)) := (Below.refl _ _).alloc (Nat.le_refl _) _
  exact ⟨rfl, ⟨Blk.new _ _ _, (fun _ _ h => by cases h), HH.out.1, HX.out.below hb, (fun h0 ad e => by
    subst e
    obtain ⟨ad', e, h1, _⟩ := HX.out 0 (by rw [bvs_len]; exact List.length_pos_iff.2 h0)
    cases e
    exact Nat.ne_of_lt h1), HH.out.2.1, Nat.zero_le _, HH.out.2.2.2, HH.out.2.2.1⟩, hb⟩

section
variable {q n c : Nat} {A : Option Addr} {xs : List Int} {s : RS} {W : World}
theorem dc_fail (h : DocIs W q A n c xs s) (code pl : Int) :
    Calls Tryd.prog 54 #[.pointer (some ⟨q, 0, none⟩), .int .i64 code, .int .i64 pl] W (DcQ W q A n c xs (.tuple #[]) (s.fail code pl)) := by
  rcases hf : s.fault with _ | ⟨e, p⟩
  · obtain ⟨h1, h2⟩ := DocIs.err_no hf
    by_cases hc : code = 0
    · subst hc
      refine (dc_fail_zero q _ _ _ _ pl W h.blk).mono ?_
      rintro e w' ⟨rfl, rfl⟩
      have e1 : s.fail 0 pl = s := by unfold RS.fail; rw [hf]; rfl
      rw [e1]
      exact ⟨rfl, h, Tur.refl _ _⟩
    · have hb := h.blk
      rw [h1, h2] at hb
      refine (dc_fail_set q _ _ code pl W (by simpa using hc) hb).mono ?_
      rintro e w' ⟨rfl, hb, ht⟩
      have e1 : s.fail code pl = ⟨s.pos, some (code, pl)⟩ := by unfold RS.fail; rw [hf]; simp only; rw [if_neg hc]
      rw [e1]
      exact ⟨rfl, h.put ht hb h.pos (fun e p he => by cases he; simpa using hc), ht⟩
  · have e1 : s.fail code pl = s := by unfold RS.fail; rw [hf]
    rw [e1]
    refine (dc_fail_keep q _ _ _ _ code pl W (h.err_yes (by rw [hf]; rfl)) h.blk).mono ?_
    rintro e w' ⟨rfl, rfl⟩
    exact ⟨rfl, h, Tur.refl _ _⟩
set_option maxRecDepth 100000 in
theorem dc_sevens_yes (most last : Nat) (hf : (s.err == 0) = false) (h : DocIs W q A n c xs s) :
    Calls Tryd.prog 70 #[.pointer (some ⟨q, 0, none⟩), .int .i64 (most : Int), .int .u8 (last : Int)] W fun e w' => e = .returned (.tuple #[.int .u64 0, .int .i64 (s.pos : Int)]) ∧ W = w' := by
  have p1 : W.cell? ⟨q, 1, none⟩ = some (.int .i64 (s.pos : Int)) := h.blk.cell 1
  have p2 : W.cell? ⟨q, 2, none⟩ = some (.int .i64 s.err) := h.blk.cell 2
  clear h
  generalize s.err = er at *
  go_enter Tryd.func70, Tryd.ntmps70
  go_wp2
  go_ret2
  exact ⟨rfl, rfl⟩
theorem dc_sevens (h : DocIs W q A n c xs s) {most last m : Nat} {s1 : RS} (hr : sevP xs most last s = (m, s1)) (hm : 1 ≤ most ∧ most ≤ 10) (hla : last ≤ 127) (hml : most = 10 → last = 1) :
    Calls Tryd.prog 70 #[.pointer (some ⟨q, 0, none⟩), .int .i64 (most : Int), .int .u8 (last : Int)] W (DcQ W q A n c xs (.tuple #[.int .u64 (m : Int), .int .i64 (s.pos : Int)]) s1) := by
  rcases hf : s.fault with _ | ⟨e, p⟩
  · obtain ⟨h1, h2⟩ := DocIs.err_no hf
    have hb := h.blk
    rw [h1, h2] at hb
    refine (dc_sevens_no q A n c xs s.pos most last W hb h.len h.cells h.wf h.pos h.big hm hla hml).mono ?_
    intro e w' hq
    unfold sevP at hr
    rw [hf] at hr
    simp only at hr
    unfold DevQ at hq
    split at hr
    · rename_i h1
      rw [h1] at hq
      cases hr
      obtain ⟨rfl, hb, ht⟩ := hq
      exact ⟨rfl, h.put ht hb (by rw [← h.len]; exact (sevAll_ok h1 h.posL).2.1) (fun _ _ h => by cases h), ht⟩
    · rename_i h1
      rw [h1] at hq
      cases hr
      obtain ⟨rfl, hb, ht⟩ := hq
      exact ⟨rfl, h.put ht hb h.pos (fun e p he => by cases he; rfl), ht⟩
    · rename_i h1
      rw [h1] at hq
      cases hr
      obtain ⟨rfl, hb, ht⟩ := hq
      exact ⟨rfl, h.put ht hb h.pos (fun e p he => by cases he; rfl), ht⟩
  · have : (m, s1) = (0, s) := by rw [← hr]; unfold sevP; rw [hf]
    cases this
    refine (dc_sevens_yes most last (h.err_yes (by rw [hf]; rfl)) h).mono ?_
    rintro e w' ⟨rfl, rfl⟩
    exact ⟨rfl, h, Tur.refl _ _⟩
theorem fail_stay {s : RS} (e p : Int) (h : s.fault.isSome = true) : s.fail e p = s := by
  unfold RS.fail
  split
  · rfl
  · rename_i hf; rw [hf] at h; cases h

set_option maxHeartbeats 1000000 in
set_option maxRecDepth 100000 in
theorem dc_num (h : DocIs W q A n c xs s) (most : Int) (hmo : most ≤ 9223372036854775807) :
    Calls Tryd.prog 46 #[.pointer (some ⟨q, 0, none⟩), .int .i64 most] W (DcQ W q A n c xs (.int .i64 ((numP xs most s).1 : Int)) (numP xs most s).2) := by
  rcases hr : sevP xs 9 127 s with ⟨m, s1⟩
  have hm9 := sevP_lt h.posL h.lt256 hr
  have C := Lib.hid (show Calls Tryd.prog 70 #[.pointer (some ⟨q, 0, none⟩), .int .i64 9, .int .u8 127] W _ from dc_sevens (most := 9) (last := 127) h hr ⟨by omega, by omega⟩ (by omega) (by omega))
  have HP := Lib.hid (show ∀ s2, numS most s.pos (m, s1) = s2 → numP xs most s = (if s2.fault.isSome then 0 else m, s2) from fun s2 h => by unfold numP; rw [hr, h])
  clear h hr
  rcases hf : s1.fault.isSome
  · have hf0 : s1.fault = none := by cases h : s1.fault <;> simp_all
    have HE := Lib.hid (DocIs.err_no hf0).1
    have HF := Lib.hid hf
    clear hf
    by_cases hb : most < 0 ∨ most < (m : Int)
    · have HS := Lib.hid (show numS most s.pos (m, s1) = s1.fail 16 (s.pos : Int) by unfold numS; rw [if_pos hb])
      have HS1 := Lib.hid (fail_some s1 (e := 16) (p := (s.pos : Int)) (by decide))
      by_cases hlt : most < 0
      · have hd : decide (most < 0) = true := by simpa using hlt
        clear hlt hb
        go_enter Tryd.func46, Tryd.ntmps46
        go_wp2_with fail
        go_at_call 70; (with_reducible refine C.out.mono ?_); rintro e w1 ⟨rfl, h1, f1⟩
        have p2 : w1.cell? ⟨q, 2, none⟩ = some (.int .i64 0) := HE.out ▸ h1.blk.cell 2
        have H1 := Lib.hid h1
        have F1 := Lib.hid f1
        clear h1 f1
        go_wp2_with fail
        go_at_call 54; (with_reducible refine (dc_fail H1.out 16 (s.pos : Int)).mono ?_); rintro e w2 ⟨rfl, h2, f2⟩
        have q2 : w2.cell? ⟨q, 2, none⟩ = some (.int .i64 (s1.fail 16 (s.pos : Int)).err) := h2.blk.cell 2
        have q3 := h2.err_yes HS1.out
        have H2 := Lib.hid h2
        have F2 := Lib.hid (F1.out.trans f2 (fun _ h => .inl h))
        generalize (s1.fail 16 (s.pos : Int)).err = er at q2 q3
        clear h2 f2
        go_wp2
        go_ret
        rw [HP.out _ HS.out, HS1.out]
        exact ⟨rfl, H2.out, F2.out⟩
      · obtain ⟨mo, rfl⟩ : ∃ mo : Nat, most = (mo : Int) := ⟨most.toNat, by omega⟩
        have hmm : mo < m := by omega
        have hd : decide ((mo : Int) < 0) = false := by simp
        have hd2 : decide (mo < m) = true := by simpa using hmm
        have hd3 : decide ((mo : Int) < (m : Int)) = true := by simpa using hmm
        clear hlt hb hmm
        go_enter Tryd.func46, Tryd.ntmps46
        go_wp2_with fail
        go_at_call 70; (with_reducible refine C.out.mono ?_); rintro e w1 ⟨rfl, h1, f1⟩
        have p2 : w1.cell? ⟨q, 2, none⟩ = some (.int .i64 0) := HE.out ▸ h1.blk.cell 2
        have H1 := Lib.hid h1
        have F1 := Lib.hid f1
        clear h1 f1
        go_wp2_with fail
        go_at_call 54; (with_reducible refine (dc_fail H1.out 16 (s.pos : Int)).mono ?_); rintro e w2 ⟨rfl, h2, f2⟩
        have q2 : w2.cell? ⟨q, 2, none⟩ = some (.int .i64 (s1.fail 16 (s.pos : Int)).err) := h2.blk.cell 2
        have q3 := h2.err_yes HS1.out
        have H2 := Lib.hid h2
        have F2 := Lib.hid (F1.out.trans f2 (fun _ h => .inl h))
        generalize (s1.fail 16 (s.pos : Int)).err = er at q2 q3
        clear h2 f2
        go_wp2
        go_ret
        rw [HP.out _ HS.out, HS1.out]
        exact ⟨rfl, H2.out, F2.out⟩
    · obtain ⟨mo, rfl⟩ : ∃ mo : Nat, most = (mo : Int) := ⟨most.toNat, by omega⟩
      have HS := Lib.hid (show numS (mo : Int) s.pos (m, s1) = s1 by unfold numS; rw [if_neg hb])
      have hmm : ¬ mo < m := by omega
      have hd : decide ((mo : Int) < 0) = false := by simp
      have hd2 : decide (mo < m) = false := by simpa using hmm
      have hd3 : decide ((mo : Int) < (m : Int)) = false := by simpa using hmm
      clear hb hmm
      go_enter Tryd.func46, Tryd.ntmps46
      go_wp2_with fail
      go_at_call 70; (with_reducible refine C.out.mono ?_); rintro e w1 ⟨rfl, h1, f1⟩
      have p2 : w1.cell? ⟨q, 2, none⟩ = some (.int .i64 0) := HE.out ▸ h1.blk.cell 2
      have H1 := Lib.hid h1
      have F1 := Lib.hid f1
      clear h1 f1
      go_wp2
      go_ret
      rw [HP.out _ HS.out, HF.out]
      exact ⟨rfl, H1.out, F1.out⟩
  · have HF := Lib.hid hf
    have HS := Lib.hid (show numS most s.pos (m, s1) = s1 by
      unfold numS
      split
      · exact fail_stay _ _ hf
      · rfl)
    clear hf
    go_enter Tryd.func46, Tryd.ntmps46
    go_wp2_with fail
    go_at_call 70; (with_reducible refine C.out.mono ?_); rintro e w1 ⟨rfl, h1, f1⟩
    have p2 : w1.cell? ⟨q, 2, none⟩ = some (.int .i64 s1.err) := h1.blk.cell 2
    have p3 := h1.err_yes HF.out
    have H1 := Lib.hid h1
    have F1 := Lib.hid f1
    generalize s1.err = er at p2 p3
    clear h1 f1
    go_wp2
    go_ret
    rw [HP.out _ HS.out, HF.out]
    exact ⟨rfl, H1.out, F1.out⟩

set_option maxHeartbeats 1000000 in
set_option maxRecDepth 100000 in
theorem dc_int (h : DocIs W q A n c xs s) :
    Calls Tryd.prog 47 #[.pointer (some ⟨q, 0, none⟩)] W (DcQ W q A n c xs (.int .i64 (intP xs s).1) (intP xs s).2) := by
  rcases hr : sevP xs 10 1 s with ⟨m, s1⟩
  have hm := sevP_lt64 h.lt256 hr
  have C := Lib.hid (show Calls Tryd.prog 70 #[.pointer (some ⟨q, 0, none⟩), .int .i64 10, .int .u8 1] W _ from dc_sevens (most := 10) (last := 1) h hr ⟨by omega, by omega⟩ (by omega) (by omega))
  have HP := Lib.hid (show intP xs s = (if s1.fault.isSome then 0 else unzz m, s1) by unfold intP; rw [hr])
  have hm2 : (m : Int) / 2 ≤ 9223372036854775807 := by omega
  clear h hr hm
  rcases hf : s1.fault.isSome
  · have hf0 : s1.fault = none := by cases h : s1.fault <;> simp_all
    have HE := Lib.hid (DocIs.err_no hf0).1
    have HF := Lib.hid hf
    clear hf
    rcases Nat.mod_two_eq_zero_or_one m with hp | hp
    · have hq : (m : Int) % 2 = 0 := by omega
      have HU := Lib.hid (show unzz m = (m : Int) / 2 by unfold unzz; rw [if_neg (by omega)])
      clear hp
      go_enter Tryd.func47, Tryd.ntmps47
      go_wp2_with fail
      go_at_call 70; (with_reducible refine C.out.mono ?_); rintro e w1 ⟨rfl, h1, f1⟩
      have p2 : w1.cell? ⟨q, 2, none⟩ = some (.int .i64 0) := HE.out ▸ h1.blk.cell 2
      have H1 := Lib.hid (And.intro h1 f1)
      clear h1 f1
      go_wp2
      go_ret
      rw [HP.out, HF.out]
      refine ⟨?_, H1.out⟩
      show _ = Ending.returned (Value.int .i64 (unzz m))
      rw [HU.out]; rfl
    · have hq : (m : Int) % 2 = 1 := by omega
      have HU := Lib.hid (show unzz m = -((m : Int) / 2) - 1 by unfold unzz; rw [if_pos hp]; omega)
      clear hp
      go_enter Tryd.func47, Tryd.ntmps47
      go_wp2_with fail
      go_at_call 70; (with_reducible refine C.out.mono ?_); rintro e w1 ⟨rfl, h1, f1⟩
      have p2 : w1.cell? ⟨q, 2, none⟩ = some (.int .i64 0) := HE.out ▸ h1.blk.cell 2
      have H1 := Lib.hid (And.intro h1 f1)
      clear h1 f1
      go_wp2
      go_ret
      rw [HP.out, HF.out]
      refine ⟨?_, H1.out⟩
      show _ = Ending.returned (Value.int .i64 (unzz m))
      rw [HU.out]
      exact ret_int (by omega)
  · have HF := Lib.hid hf
    clear hf
    go_enter Tryd.func47, Tryd.ntmps47
    go_wp2_with fail
    go_at_call 70; (with_reducible refine C.out.mono ?_); rintro e w1 ⟨rfl, h1, f1⟩
    have p2 : w1.cell? ⟨q, 2, none⟩ = some (.int .i64 s1.err) := h1.blk.cell 2
    have p3 := h1.err_yes HF.out
    have H1 := Lib.hid (And.intro h1 f1)
    generalize s1.err = er at p2 p3
    clear h1 f1
    go_wp2
    go_ret
    rw [HP.out, HF.out]
    exact ⟨rfl, H1.out⟩
end
end Go.Proofs.YtdgokebablhoiaaDoor
