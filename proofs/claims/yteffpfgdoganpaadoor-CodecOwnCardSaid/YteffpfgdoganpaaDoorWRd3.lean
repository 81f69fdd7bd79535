/- The Reader's Int, Text, End, Left, Err by the pure reader. -/
import Derived.Test.YteffpfgdoganpaaDoorWRd2
namespace Go.Proofs.YteffpfgdoganpaaDoor
open Go.RowKit

theorem sevAll_lt64 {xs : List Int} {first n k : Nat} (hx : ∀ x ∈ xs, x < 256) (h : sevAll xs first 10 1 = .ok n k) : n < 18446744073709551616 := by
  have H : ∀ (f i N : Nat), sevGo xs first 10 1 f i N = .ok n k → i + f = 10 → N < 128 ^ i → n < 18446744073709551616 := by
    intro f
    induction f with
    | zero => intro i N h; rw [sevGo] at h; cases h
    | succ f ih =>
      intro i N h hi hN
      rw [sevGo] at h
      split at h
      · cases h
      · have hc : (xs.getD (first + i) 0).toNat < 256 := by
          rw [List.getD_eq_getElem?_getD]
          by_cases hl : first + i < xs.length
          · rw [List.getElem?_eq_getElem hl]
            have := hx _ (List.getElem_mem hl)
            simp only [Option.getD_some]; omega
          · rw [List.getElem?_eq_none (by omega)]; simp
        generalize (xs.getD (first + i) 0).toNat = c at *
        split at h
        · cases h
        · split at h
          · rename_i hb h1
            cases h
            have hP := pow_le i (by omega)
            by_cases h9 : i = 9
            · have := Nat.mul_le_mul_right (128 ^ i) (show c ≤ 1 by omega)
              omega
            · have h2 : 128 ^ i ≤ 72057594037927936 := Nat.le_trans (Nat.pow_le_pow_right (by omega) (show i ≤ 8 by omega)) (by decide)
              have := Nat.mul_le_mul (show c ≤ 127 by omega) h2
              omega
          · refine ih (i + 1) _ h (by omega) ?_
            rw [Nat.pow_succ]
            have := Nat.mul_le_mul_right (128 ^ i) (show c - 128 ≤ 127 by omega)
            omega
  exact H 10 0 0 h rfl (by simp)
section
variable {q n c : Nat} {A : Option Addr} {xs : List Int} {s : RS} {fv : Value} {W : World}
theorem sevP_lt64 {s1 : RS} {m : Nat} (hx : ∀ x ∈ xs, x < 256) (hr : sevP xs 10 1 s = (m, s1)) : m < 18446744073709551616 := by
  unfold sevP at hr
  split at hr
  · cases hr; omega
  · split at hr
    · rename_i n1 k1 h1
      cases hr
      exact sevAll_lt64 hx h1
    · cases hr; omega
    · cases hr; omega

set_option maxHeartbeats 1000000 in
set_option maxRecDepth 100000 in
theorem rd_int (h : RdIs W q A n c xs s fv) :
    Calls Tryd.prog 65 #[.pointer (some ⟨q, 0, none⟩)] W (RdQ W q A n c xs fv (.int .i64 (intP xs s).1) (intP xs s).2) := by
  rcases hr : sevP xs 10 1 s with ⟨m, s1⟩
  have hm := sevP_lt64 h.lt256 hr
  have C := Lib.hid (show Calls Tryd.prog 90 #[.pointer (some ⟨q, 0, none⟩), .int .i64 10, .int .u8 1] W _ from rd_sevens (most := 10) (last := 1) h hr ⟨by omega, by omega⟩ (by omega) (by omega))
  have HP := Lib.hid (show intP xs s = (if s1.fault.isSome then 0 else unzz m, s1) by unfold intP; rw [hr])
  have ha := and1 m hm
  have hx : bits .xor .i64 (-1) ((m : Int) / 2) = -1 - (m : Int) / 2 := by have := i64_not (m / 2) (by omega); simpa using this
  have hm2 : (m : Int) / 2 ≤ 9223372036854775807 := by omega
  clear h hr hm
  go_enter Tryd.func65, Tryd.ntmps65
  go_wp2_with fail
  go_at_call 90; (with_reducible refine C.out.mono ?_); rintro e w1 ⟨rfl, fv1, h1, f1⟩
  have H1 := Lib.hid h1
  have F1 := Lib.hid f1
  clear h1 f1
  go_wp2_with fail
  go_at_call 87; (with_reducible refine (rd_broken H1.out).mono ?_); rintro e w3 ⟨rfl, hb⟩
  have H3 := Lib.hid (H1.out.kept hb)
  have F3 := Lib.hid (F1.out.trans (RdFr.of_below hb))
  clear hb
  rcases hf : s1.fault.isSome
  · have HF := Lib.hid hf
    clear hf
    rcases Nat.mod_two_eq_zero_or_one m with hp | hp
    · rw [hp] at ha
      have HU := Lib.hid (show unzz m = (m : Int) / 2 by unfold unzz; rw [if_neg (by omega)])
      clear hp
      go_wp2
      go_ret
      rw [HP.out, HF.out]
      refine ⟨?_, _, H3.out, F3.out⟩
      show _ = Ending.returned (Value.int .i64 (unzz m))
      rw [HU.out]; rfl
    · rw [hp] at ha
      have HU := Lib.hid (show unzz m = -1 - (m : Int) / 2 by unfold unzz; rw [if_pos hp])
      clear hp
      go_wp2
      go_ret
      rw [HP.out, HF.out]
      refine ⟨?_, _, H3.out, F3.out⟩
      show _ = Ending.returned (Value.int .i64 (unzz m))
      rw [HU.out]; rfl
  · have HF := Lib.hid hf
    clear hf
    go_wp2
    go_ret
    rw [HP.out, HF.out]
    exact ⟨rfl, _, H3.out, F3.out⟩

set_option maxRecDepth 100000 in
theorem rd_end (h : RdIs W q A n c xs s fv) :
    Calls Tryd.prog 62 #[.pointer (some ⟨q, 0, none⟩)] W (RdQ W q A n c xs fv (.tuple #[]) (endP xs s)) := by
  have p0 : W.cell? ⟨q, 0, none⟩ = some (.slice A n c) := h.blk.cell 0
  have p1 : W.cell? ⟨q, 1, none⟩ = some (.int .i64 (s.pos : Int)) := h.blk.cell 1
  have H := Lib.hid (fun k => h.kept (below_drewN (Below.refl W.heap.size W) k))
  have HL := Lib.hid h.len
  have H0 := Lib.hid h
  clear h
  by_cases hk : s.pos < n
  · have HE := Lib.hid (show endP xs s = s.fail 13 (s.pos : Int) by unfold endP; rw [HL.out, if_pos hk])
    have hd : decide (s.pos < n) = true := by simpa using hk
    clear hk
    go_enter Tryd.func62, Tryd.ntmps62
    go_wp2
    go_quiet (fail)
    go_wp2_with fail
    go_at_call 60; (with_reducible refine (rd_fail (H.out _) 13 (s.pos : Int)).mono ?_); rintro e w2 ⟨rfl, fv2, h2, f2⟩
    go_wp2
    go_end0
    rw [HE.out]
    exact ⟨rfl, fv2, h2, (RdFr.of_below (below_drewN (Below.refl _ _) _)).trans f2⟩
  · have HE := Lib.hid (show endP xs s = s by unfold endP; rw [HL.out, if_neg hk])
    have hd : decide (s.pos < n) = false := by simpa using hk
    clear hk
    go_enter Tryd.func62, Tryd.ntmps62
    go_wp2
    go_quiet (fail)
    go_wp2
    go_end0
    rw [HE.out]
    exact ⟨rfl, fv, H.out _, RdFr.of_below (below_drewN (Below.refl _ _) _)⟩

set_option maxRecDepth 100000 in
theorem rd_left (h : RdIs W q A n c xs s fv) :
    Calls Tryd.prog 88 #[.pointer (some ⟨q, 0, none⟩)] W fun e w' => e = .returned (.int .i64 (leftP xs s : Int)) ∧ Below W.heap.size W w' := by
  have C := Lib.hid (rd_broken h)
  have HL := Lib.hid h.len
  have H := Lib.hid h
  have hp : s.pos ≤ n := h.pos
  have hn : (n : Int) ≤ 211106232532992 := by have := h.big; omega
  clear h
  rcases hf : s.fault.isSome
  · have HF := Lib.hid hf
    clear hf
    go_enter Tryd.func88, Tryd.ntmps88
    go_wp2_with fail
    go_at_call 87; (with_reducible refine (HF.out ▸ C.out).mono ?_); rintro e w1 ⟨rfl, hb⟩
    have p0 : w1.cell? ⟨q, 0, none⟩ = some (.slice A n c) := (H.out.kept hb).blk.cell 0
    have p1 : w1.cell? ⟨q, 1, none⟩ = some (.int .i64 (s.pos : Int)) := (H.out.kept hb).blk.cell 1
    have B := Lib.hid hb
    clear hb
    go_wp2
    go_quiet (fail)
    go_wp2
    go_ret
    refine ⟨?_, below_drewN B.out _⟩
    have e1 : leftP xs s = n - s.pos := by unfold leftP; rw [HF.out, HL.out]; rfl
    rw [e1, show ((n - s.pos : Nat) : Int) = (n : Int) - (s.pos : Int) by omega]
    rfl
  · have HF := Lib.hid hf
    clear hf
    go_enter Tryd.func88, Tryd.ntmps88
    go_wp2_with fail
    go_at_call 87; (with_reducible refine (HF.out ▸ C.out).mono ?_); rintro e w1 ⟨rfl, hb⟩
    go_wp2
    go_ret
    refine ⟨?_, hb⟩
    have e1 : leftP xs s = 0 := by unfold leftP; rw [HF.out]; rfl
    rw [e1]
    rfl
/-- Err: nil, or a new Error of the fault. -/
theorem rd_err (h : RdIs W q A n c xs s fv) :
    Calls Tryd.prog 61 #[.pointer (some ⟨q, 0, none⟩)] W fun e w' => Below W.heap.size W w' ∧ match s.fault with
      | none => e = .returned .nilIface
      | some (code, p) => ∃ g, e = .returned (errV g) ∧ Blk w' g 132 #[.int .i64 code, .int .i64 p] := by
  rcases hf : s.fault with _ | ⟨e, p⟩
  · obtain rfl := h.no hf
    exact (r_err_no q _ _ W h.blk).mono (fun e w' h => ⟨h.2, h.1⟩)
  · obtain ⟨g, rfl, hg⟩ := h.yes e p hf
    exact (r_err_yes q g _ _ e p W h.ty h.blk hg).mono (fun e w' ⟨g', h1, h2, h3⟩ => ⟨h3, g', h1, h2⟩)
end
end Go.Proofs.YteffpfgdoganpaaDoor
