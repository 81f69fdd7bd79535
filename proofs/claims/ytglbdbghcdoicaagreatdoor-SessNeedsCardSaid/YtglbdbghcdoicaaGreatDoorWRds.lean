/- The Reader, whatever its fault: the pure reader; sevens follows it. The Reader's methods, whatever the fault, by the pure reader. The Reader's Int, Text, End, Left, Err by the pure reader. The Reader's Text by the pure reader. -/
import Derived.Test.YtglbdbghcdoicaaGreatDoorWSN
import Derived.Test.YtglbdbghcdoicaaGreatDoorWLB
import Derived.Test.YtglbdbghcdoicaaGreatDoorWRows
namespace Go.Proofs.YtglbdbghcdoicaaGreatDoor
open Go.RowKit

inductive SevO where
  | ok (n k : Nat)
  | cut
  | form
/-- The number that begins there, byte after byte. -/
def sevGo (xs : List Int) (first most last : Nat) : Nat → Nat → Nat → SevO
  | 0, _, _ => .form
  | f + 1, i, N =>
    if first + i = xs.length then .cut
    else if (i = most - 1 ∧ last < (xs.getD (first + i) 0).toNat) ∨ (0 < i ∧ (xs.getD (first + i) 0).toNat = 0) then .form
    else if (xs.getD (first + i) 0).toNat < 128 then .ok (N + (xs.getD (first + i) 0).toNat * 128 ^ i) (first + i + 1)
    else sevGo xs first most last f (i + 1) (N + ((xs.getD (first + i) 0).toNat - 128) * 128 ^ i)
def sevAll (xs : List Int) (first most last : Nat) : SevO := sevGo xs first most last most 0 0

structure SevI (xs : List Int) (first most last i N : Nat) : Prop where
  lt : N < 128 ^ i
  le : first + i ≤ xs.length
  eq : sevGo xs first most last (most - i) i N = sevAll xs first most last
theorem SevI.start (xs : List Int) (first most last : Nat) (h : first ≤ xs.length) : SevI xs first most last 0 0 := ⟨by simp, by omega, rfl⟩
theorem getD_int {xs : List Int} {j c : Nat} (hlt : j < xs.length) (hc : xs[j] = (c : Int)) : (xs.getD j 0).toNat = c := by
  rw [List.getD_eq_getElem?_getD, List.getElem?_eq_getElem hlt, Option.getD_some, hc]; rfl
section
variable {xs : List Int} {first most last i N c : Nat}
theorem SevI.open_ (h : SevI xs first most last i N) (hi : i < most) : sevAll xs first most last = sevGo xs first most last (most - i - 1 + 1) i N := by
  rw [← h.eq, show most - i - 1 + 1 = most - i by omega]
theorem SevI.cut (h : SevI xs first most last i N) (hi : i < most) (he : first + i = xs.length) : sevAll xs first most last = .cut := by
  rw [h.open_ hi, sevGo, if_pos he]
theorem SevI.form (h : SevI xs first most last i N) (hi : i < most) (hlt : first + i < xs.length) (hc : xs[first + i] = (c : Int)) (hb : (i = most - 1 ∧ last < c) ∨ (0 < i ∧ c = 0)) : sevAll xs first most last = .form := by
  rw [h.open_ hi, sevGo, if_neg (by omega), getD_int hlt hc, if_pos hb]
theorem SevI.done (h : SevI xs first most last i N) (hi : i = most) : sevAll xs first most last = .form := by
  rw [← h.eq, hi, Nat.sub_self, sevGo]
theorem SevI.fin (h : SevI xs first most last i N) (hi : i < most) (hlt : first + i < xs.length) (hc : xs[first + i] = (c : Int)) (hb : ¬ ((i = most - 1 ∧ last < c) ∨ (0 < i ∧ c = 0))) (h1 : c < 128) : sevAll xs first most last = .ok (N + c * 128 ^ i) (first + i + 1) := by
  rw [h.open_ hi, sevGo, if_neg (by omega), getD_int hlt hc, if_neg hb, if_pos h1]
theorem SevI.next (h : SevI xs first most last i N) (hi : i < most) (hlt : first + i < xs.length) (hc : xs[first + i] = (c : Int)) (hb : ¬ ((i = most - 1 ∧ last < c) ∨ (0 < i ∧ c = 0))) (h1 : 128 ≤ c) (h256 : c < 256) : SevI xs first most last (i + 1) (N + (c - 128) * 128 ^ i) := by
  refine ⟨?_, by omega, ?_⟩
  · rw [Nat.pow_succ]
    have := Nat.mul_le_mul_right (128 ^ i) (show c - 128 ≤ 127 by omega)
    have := h.lt
    omega
  · rw [h.open_ hi, sevGo, if_neg (by omega), getD_int hlt hc, if_neg hb, if_neg (by omega), show most - (i + 1) = most - i - 1 by omega]
theorem SevI.orLast (h : SevI xs first most last i N) (hi : i < most) (hm : most ≤ 10) (hml : most = 10 → last = 1) (h1 : c < 128) (hb : ¬ ((i = most - 1 ∧ last < c) ∨ (0 < i ∧ c = 0))) :
    ∃ M : Nat, bits .or .u64 (N : Int) (IntKind.u64.wrap ((c : Int) % 128 * 2 ^ (7 * i))) = (M : Int) ∧ M = N + c * 128 ^ i ∧ M < 128 ^ (i + 1) ∧ M < 18446744073709551616 := by
  have hP := pow_le i (by omega)
  have hx : c * 128 ^ i ≤ 9223372036854775808 := by
    by_cases h9 : i = 9
    · have hc1 : c ≤ 1 := by have := hml (by omega); omega
      have := Nat.mul_le_mul_right (128 ^ i) hc1
      omega
    · have h1 : 128 ^ i ≤ 72057594037927936 := Nat.le_trans (Nat.pow_le_pow_right (by omega) (show i ≤ 8 by omega)) (by decide)
      have := Nat.mul_le_mul (show c ≤ 127 by omega) h1
      omega
  have hN := h.lt
  refine ⟨N + c * 128 ^ i, ?_, rfl, ?_, by omega⟩
  · rw [show (c : Int) % 128 = (c : Int) by omega]
    exact or_seven N c i hN (by omega) hP
  · rw [Nat.pow_succ]
    have := Nat.mul_le_mul_right (128 ^ i) (show c ≤ 127 by omega)
    omega
theorem SevI.orNext (h : SevI xs first most last i N) (hi : i ≤ 8) (h1 : 128 ≤ c) (h256 : c < 256) :
    ∃ M : Nat, bits .or .u64 (N : Int) (IntKind.u64.wrap ((c : Int) % 128 * 2 ^ (7 * i))) = (M : Int) ∧ M = N + (c - 128) * 128 ^ i := by
  have h2 : 128 ^ i ≤ 72057594037927936 := Nat.le_trans (Nat.pow_le_pow_right (by omega) hi) (by decide)
  have hx := Nat.mul_le_mul (show c - 128 ≤ 127 by omega) h2
  refine ⟨N + (c - 128) * 128 ^ i, ?_, rfl⟩
  rw [show (c : Int) % 128 = ((c - 128 : Nat) : Int) by omega]
  exact or_seven N (c - 128) i h.lt (by omega) (by omega)
end
/-- What a number that is read without a fault is. -/
theorem sevGo_ok {xs : List Int} {first most last : Nat} : ∀ (f i N n k : Nat), sevGo xs first most last f i N = .ok n k → first + i ≤ xs.length → i + f ≤ most → first + i < k ∧ k ≤ xs.length ∧ k ≤ first + most
  | 0, i, N, n, k, h, _, _ => by rw [sevGo] at h; cases h
  | f + 1, i, N, n, k, h, hl, hm => by
    rw [sevGo] at h
    split at h
    · cases h
    · split at h
      · cases h
      · split at h
        · cases h; omega
        · have := sevGo_ok f (i + 1) _ n k h (by omega) (by omega); omega
theorem sevAll_ok {xs : List Int} {first most last n k : Nat} (h : sevAll xs first most last = .ok n k) (hl : first ≤ xs.length) : first < k ∧ k ≤ xs.length ∧ k ≤ first + most := by
  have := sevGo_ok most 0 0 n k h (by omega) (by omega); omega
theorem sevGo_lt {xs : List Int} {first most last : Nat} (hx : ∀ x ∈ xs, x < 256) : ∀ (f i N n k : Nat), sevGo xs first most last f i N = .ok n k → N < 128 ^ i → n < 128 ^ (k - first)
  | 0, i, N, n, k, h, _ => by rw [sevGo] at h; cases h
  | f + 1, i, N, n, k, h, hN => by
    rw [sevGo] at h
    split at h
    · cases h
    · have hc : (xs.getD (first + i) 0).toNat < 256 := by
        rw [List.getD_eq_getElem?_getD]
        by_cases hl : first + i < xs.length
        · rw [List.getElem?_eq_getElem hl]
          have := hx _ (List.getElem_mem hl)
          simp only [Option.getD_some]; omega
        · rw [List.getElem?_eq_none (by omega)]; simp
      generalize (xs.getD (first + i) 0).toNat = c at *
      split at h
      · cases h
      · split at h
        · cases h
          rw [show first + i + 1 - first = i + 1 by omega, Nat.pow_succ]
          have := Nat.mul_le_mul_right (128 ^ i) (show c ≤ 127 by omega)
          omega
        · refine sevGo_lt hx f (i + 1) _ n k h ?_
          rw [Nat.pow_succ]
          have := Nat.mul_le_mul_right (128 ^ i) (show c - 128 ≤ 127 by omega)
          omega
theorem sevAll_lt {xs : List Int} {first most last n k : Nat} (hx : ∀ x ∈ xs, x < 256) (h : sevAll xs first most last = .ok n k) : n < 128 ^ (k - first) := sevGo_lt hx most 0 0 n k h (by simp)

set_option maxRecDepth 100000 in
/-- Fail where there is no fault yet; where the fault lies. -/
theorem rd_fail_set (q : Nat) (v : Value) (at_ code pl : Int) (W : World) (hc : (code == 0) = false) (h : Blk W q 219 (RdC v at_ .nilIface)) :
    Calls Tryz.prog 73 #[.pointer (some ⟨q, 0, none⟩), .int .i64 code, .int .i64 pl] W fun e w' => e = .returned (.tuple #[]) ∧ ∃ g, W.heap.size ≤ g ∧ Blk w' q 219 (RdC v at_ (errV g)) ∧ Blk w' g 111 #[.int .i64 code, .int .i64 pl] ∧ Tur (· = q) W w' := by
  have H := Lib.hid h
  have hc2 : (code != 0) = true := by unfold bne; rw [hc]; rfl
  clear h
  go_enter Tryz.func73, Tryz.ntmps73
  go_wp2_with fail
  go_at_call 116; (with_reducible refine (r_broken_no q _ _ _ H.out).mono ?_); rintro e w1 ⟨rfl, hb⟩
  have K := Lib.hid (H.out.kept hb)
  have B := Lib.hid hb
  have f2 : w1.frozen? ⟨q, 2, none⟩ = false := K.out.frozen 2
  have p2 : w1.cell? ⟨q, 2, none⟩ = some .nilIface := K.out.cell 2
  have hlq := K.out.lt
  clear hb
  go_wp2
  go_end0
  refine ⟨rfl, w1.heap.size, B.out.size, ?_, ?_, ?_⟩
  · exact (K.out.set_ 2 _).alloc _
  · exact blk_last (by simp [World.setCell])
  · exact (Tur.setCell (S := (· = q)) (p := ⟨q, 2, none⟩) (Tur.of_below B.out) (.inl rfl) _).alloc _

/-- What sevens leaves, by the pure outcome. -/
def SevQ (W : World) (q : Nat) (v : Value) (xs : List Int) (first : Nat) (o : SevO) (e : Ending) (w' : World) : Prop :=
  match o with
  | .ok n k => e = .returned (.tuple #[.int .u64 (n : Int), .int .i64 (first : Int)]) ∧ Blk w' q 219 (RdC v (k : Int) .nilIface) ∧ Tur (· = q) W w'
  | .cut => e = .returned (.tuple #[.int .u64 0, .int .i64 (first : Int)]) ∧ ∃ g, W.heap.size ≤ g ∧ Blk w' q 219 (RdC v (first : Int) (errV g)) ∧ Blk w' g 111 #[.int .i64 11, .int .i64 (xs.length : Int)] ∧ Tur (· = q) W w'
  | .form => e = .returned (.tuple #[.int .u64 0, .int .i64 (first : Int)]) ∧ ∃ g, W.heap.size ≤ g ∧ Blk w' q 219 (RdC v (first : Int) (errV g)) ∧ Blk w' g 111 #[.int .i64 12, .int .i64 (first : Int)] ∧ Tur (· = q) W w'
section
variable {W w' : World} {q first : Nat} {v : Value} {xs : List Int} {o : SevO} {e : Ending}
theorem SevQ.mkOk {n k : Nat} (h : o = .ok n k) (he : e = .returned (.tuple #[.int .u64 (n : Int), .int .i64 (first : Int)])) (h1 : Blk w' q 219 (RdC v (k : Int) .nilIface)) (h2 : Tur (· = q) W w') : SevQ W q v xs first o e w' := by
  subst h; exact ⟨he, h1, h2⟩
theorem SevQ.mkCut (h : o = .cut) {m : Nat} (hm : xs.length = m) (he : e = .returned (.tuple #[.int .u64 0, .int .i64 (first : Int)])) (h1 : ∃ g, W.heap.size ≤ g ∧ Blk w' q 219 (RdC v (first : Int) (errV g)) ∧ Blk w' g 111 #[.int .i64 11, .int .i64 (m : Int)] ∧ Tur (· = q) W w') : SevQ W q v xs first o e w' := by
  subst h; subst hm; exact ⟨he, h1⟩
theorem SevQ.mkForm (h : o = .form) (he : e = .returned (.tuple #[.int .u64 0, .int .i64 (first : Int)])) (h1 : ∃ g, W.heap.size ≤ g ∧ Blk w' q 219 (RdC v (first : Int) (errV g)) ∧ Blk w' g 111 #[.int .i64 12, .int .i64 (first : Int)] ∧ Tur (· = q) W w') : SevQ W q v xs first o e w' := by
  subst h; exact ⟨he, h1⟩
end

set_option maxHeartbeats 2000000 in
set_option maxRecDepth 100000 in
theorem rd_sevens_no (q : Nat) (A : Option Addr) (n c : Nat) (xs : List Int) (first most last : Nat) (W : World) (h : Blk W q 219 (RdC (.slice A n c) (first : Int) .nilIface)) (hl : xs.length = n) (hx : CellsAt W A (bvs xs)) (hq : ∀ ad, A = some ad → ad.block ≠ q)
    (hw : ∀ x ∈ xs, (Lit.int .u8 x).wf = true) (hf : first ≤ n) (hn : n ≤ 211106232532992) (hm : 1 ≤ most ∧ most ≤ 10) (hla : last ≤ 127) (hml : most = 10 → last = 1) :
    Calls Tryz.prog 142 #[.pointer (some ⟨q, 0, none⟩), .int .i64 (most : Int), .int .u8 (last : Int)] W (SevQ W q (.slice A n c) xs first (sevAll xs first most last)) := by
  have H := Lib.hid h
  have HL := Lib.hid hl
  have HX := Lib.hid hx
  have HQ := Lib.hid hq
  have HW := Lib.hid hw
  have HN := Lib.hid hn
  have p1 : W.cell? ⟨q, 1, none⟩ = some (.int .i64 (first : Int)) := h.cell 1
  have hm1 := hm.1
  have hm2 := hm.2
  have hfn : (first : Int) ≤ 211106232532992 := by omega
  clear h hl hx hq hw hn hm
  go_enter Tryz.func142, Tryz.ntmps142
  go_wp2_with fail
  go_at_call 116; (with_reducible refine (r_broken_no q _ _ _ H.out).mono ?_); rintro e w1 ⟨rfl, hb⟩
  have K := Lib.hid (H.out.kept hb)
  have B := Lib.hid hb
  have HX1 := Lib.hid (HX.out.below hb)
  have p0 : w1.cell? ⟨q, 0, none⟩ = some (.slice A n c) := K.out.cell 0
  clear hb p1
  go_wp2
  go_loop [6, 7, 18] (fun t6 t7 t18 => ∃ i N : Nat, i ≤ most ∧ t6 = .int .u64 (N : Int) ∧ t7 = .int .i64 (first : Int) ∧ t18 = .int .i64 (i : Int) ∧ Hid (SevI xs first most last i N)) (fun _ _ t18 => most - (intOf t18).toNat)
  case atStart => exact ⟨0, 0, Nat.zero_le _, rfl, rfl, rfl, Lib.hid (SevI.start xs first most last (by rw [HL.out]; exact hf))⟩
  case round =>
    obtain ⟨i, N, hi, rfl, rfl, rfl, HP⟩ := hrel
    by_cases him : i < most
    · by_cases hend : first + i = n
      · have hfe : ((first : Int) + (i : Int) == (n : Int)) = true := by simp; omega
        go_wp2_with fail
        go_at_call 73; (with_reducible refine (rd_fail_set q _ _ 11 (n : Int) _ (by decide) K.out).mono ?_); rintro e w2 ⟨rfl, g, hg0, hk, hg, ht⟩
        have HH := Lib.hid (show ∃ g, W.heap.size ≤ g ∧ Blk w2 q 219 (RdC _ (first : Int) (errV g)) ∧ Blk w2 g 111 #[.int .i64 11, .int .i64 (n : Int)] ∧ Tur (· = q) W w2 from ⟨g, Nat.le_trans B.out.size hg0, hk, hg, (Tur.of_below (S := (· = q)) B.out).trans ht (fun _ h => .inl h)⟩)
        clear hg0 hk hg ht
        go_wp2
        go_ret2
        exact SevQ.mkCut (HP.out.cut him (by rw [HL.out]; exact hend)) HL.out rfl HH.out
      · have hlt : first + i < n := by have := HP.out.le; rw [HL.out] at this; omega
        have hfe : ((first : Int) + (i : Int) == (n : Int)) = false := by simp; omega
        have hltx : first + i < xs.length := by rw [HL.out]; exact hlt
        obtain ⟨ad, rfl, hal, hcell⟩ := HX1.out (first + i) (by rw [bvs_len]; exact hltx)
        obtain ⟨cc, hcc, hc256⟩ : ∃ cc : Nat, xs[first + i] = (cc : Int) ∧ cc < 256 := by
          have hb := bounds_u8 (HW.out xs[first + i] (List.getElem_mem _))
          exact ⟨xs[first + i].toNat, by omega, by omega⟩
        have hcr : w1.cell? (ad.add (first + i)) = some (.int .u8 (cc : Int)) := by rw [hcell]; simp [bvs, hcc]
        have ha := and127 cc hc256
        have HCC := Lib.hid hcc
        have q1 : w1.cell? ⟨q, 1, none⟩ = some (.int .i64 (first : Int)) := K.out.cell 1
        have qf : w1.frozen? ⟨q, 1, none⟩ = false := K.out.frozen 1
        clear hcell hcc hal
        by_cases hbad : 0 < i ∧ cc = 0
        · obtain ⟨hi0, rfl⟩ := hbad
          have z1 : decide ((last : Int) < 0) = false := by simp
          by_cases he : i = most - 1
          · have e1 : ((i : Int) == (most : Int) - 1) = true := by simp; omega
            clear he
            go_wp2_with fail
            go_at_call 73; (with_reducible refine (rd_fail_set q _ _ 12 (first : Int) _ (by decide) K.out).mono ?_); rintro e w2 ⟨rfl, g, hg0, hk, hg, ht⟩
            have HH := Lib.hid (show ∃ g, W.heap.size ≤ g ∧ Blk w2 q 219 (RdC _ (first : Int) (errV g)) ∧ Blk w2 g 111 #[.int .i64 12, .int .i64 (first : Int)] ∧ Tur (· = q) W w2 from ⟨g, Nat.le_trans B.out.size hg0, hk, hg, (Tur.of_below (S := (· = q)) B.out).trans ht (fun _ h => .inl h)⟩)
            clear hg0 hk hg ht
            go_wp2
            go_ret2
            exact SevQ.mkForm (HP.out.form him hltx HCC.out (.inr ⟨hi0, rfl⟩)) rfl HH.out
          · have e1 : ((i : Int) == (most : Int) - 1) = false := by simp; omega
            clear he
            go_wp2_with fail
            go_at_call 73; (with_reducible refine (rd_fail_set q _ _ 12 (first : Int) _ (by decide) K.out).mono ?_); rintro e w2 ⟨rfl, g, hg0, hk, hg, ht⟩
            have HH := Lib.hid (show ∃ g, W.heap.size ≤ g ∧ Blk w2 q 219 (RdC _ (first : Int) (errV g)) ∧ Blk w2 g 111 #[.int .i64 12, .int .i64 (first : Int)] ∧ Tur (· = q) W w2 from ⟨g, Nat.le_trans B.out.size hg0, hk, hg, (Tur.of_below (S := (· = q)) B.out).trans ht (fun _ h => .inl h)⟩)
            clear hg0 hk hg ht
            go_wp2
            go_ret2
            exact SevQ.mkForm (HP.out.form him hltx HCC.out (.inr ⟨hi0, rfl⟩)) rfl HH.out
        · have HNB := Lib.hid (show i = 0 ∨ 0 < cc by omega)
          by_cases he : i = most - 1
          · have HE := Lib.hid he
            have e1 : ((i : Int) == (most : Int) - 1) = true := by simp; omega
            by_cases hl : last < cc
            · have z1 : decide ((last : Int) < (cc : Int)) = true := by simp; omega
              clear he hbad
              go_wp2_with fail
              go_at_call 73; (with_reducible refine (rd_fail_set q _ _ 12 (first : Int) _ (by decide) K.out).mono ?_); rintro e w2 ⟨rfl, g, hg0, hk, hg, ht⟩
              have HH := Lib.hid (show ∃ g, W.heap.size ≤ g ∧ Blk w2 q 219 (RdC _ (first : Int) (errV g)) ∧ Blk w2 g 111 #[.int .i64 12, .int .i64 (first : Int)] ∧ Tur (· = q) W w2 from ⟨g, Nat.le_trans B.out.size hg0, hk, hg, (Tur.of_below (S := (· = q)) B.out).trans ht (fun _ h => .inl h)⟩)
              clear hg0 hk hg ht
              go_wp2
              go_ret2
              exact SevQ.mkForm (HP.out.form him hltx HCC.out (.inl ⟨HE.out, hl⟩)) rfl HH.out
            · have z1 : decide ((last : Int) < (cc : Int)) = false := by simp; omega
              have hc1 : cc < 128 := by omega
              have HBB := Lib.hid (show ¬ ((i = most - 1 ∧ last < cc) ∨ (0 < i ∧ cc = 0)) by have := HNB.out; omega)
              obtain ⟨M, hor, hM⟩ := HP.out.orLast him hm2 hml hc1 HBB.out
              have HM := Lib.hid hM
              have h7 : decide ((cc : Int) < 128) = true := by simp; omega
              clear hM he
              by_cases hi0 : 0 < i
              · have z0 : ((cc : Int) == 0) = false := by simp; omega
                clear hbad
                go_wp2
                go_ret2
                exact SevQ.mkOk (n := M) (by rw [HM.out.1]; exact HP.out.fin him hltx HCC.out HBB.out hc1) rfl (by rw [show ((first + i + 1 : Nat) : Int) = (first : Int) + (i : Int) + 1 by omega]; exact K.out.set_ 1 _) (Tur.setCell (S := (· = q)) (p := ⟨q, 1, none⟩) (Tur.of_below B.out) (.inl rfl) _)
              · have hi1 : i = 0 := by omega
                have HI := Lib.hid hi1
                have hi2 : decide ((0 : Int) < (i : Int)) = false := by simp; omega
                clear hbad hi1
                go_wp2
                go_ret2
                exact SevQ.mkOk (n := M) (by rw [HM.out.1]; exact HP.out.fin him hltx HCC.out HBB.out hc1) rfl (by rw [show ((first + i + 1 : Nat) : Int) = (first : Int) + (i : Int) + 1 by omega]; exact K.out.set_ 1 _) (Tur.setCell (S := (· = q)) (p := ⟨q, 1, none⟩) (Tur.of_below B.out) (.inl rfl) _)
          · have e1 : ((i : Int) == (most : Int) - 1) = false := by simp; omega
            by_cases hc1 : cc < 128
            · have HBB := Lib.hid (show ¬ ((i = most - 1 ∧ last < cc) ∨ (0 < i ∧ cc = 0)) by have := HNB.out; omega)
              obtain ⟨M, hor, hM⟩ := HP.out.orLast him hm2 hml hc1 HBB.out
              have HM := Lib.hid hM
              have h7 : decide ((cc : Int) < 128) = true := by simp; omega
              clear hM he
              by_cases hi0 : 0 < i
              · have z0 : ((cc : Int) == 0) = false := by simp; omega
                clear hbad
                go_wp2
                go_ret2
                exact SevQ.mkOk (n := M) (by rw [HM.out.1]; exact HP.out.fin him hltx HCC.out HBB.out hc1) rfl (by rw [show ((first + i + 1 : Nat) : Int) = (first : Int) + (i : Int) + 1 by omega]; exact K.out.set_ 1 _) (Tur.setCell (S := (· = q)) (p := ⟨q, 1, none⟩) (Tur.of_below B.out) (.inl rfl) _)
              · have hi1 : i = 0 := by omega
                have HI := Lib.hid hi1
                have hi2 : decide ((0 : Int) < (i : Int)) = false := by simp; omega
                clear hbad hi1
                go_wp2
                go_ret2
                exact SevQ.mkOk (n := M) (by rw [HM.out.1]; exact HP.out.fin him hltx HCC.out HBB.out hc1) rfl (by rw [show ((first + i + 1 : Nat) : Int) = (first : Int) + (i : Int) + 1 by omega]; exact K.out.set_ 1 _) (Tur.setCell (S := (· = q)) (p := ⟨q, 1, none⟩) (Tur.of_below B.out) (.inl rfl) _)
            · have HBB := Lib.hid (show ¬ ((i = most - 1 ∧ last < cc) ∨ (0 < i ∧ cc = 0)) by have := HNB.out; omega)
              obtain ⟨M, hor, hM⟩ := HP.out.orNext (by omega) (by omega) hc256
              have HNX := Lib.hid (hM ▸ HP.out.next him hltx HCC.out HBB.out (by omega) hc256)
              have HM := Lib.hid hM
              have h7 : decide ((cc : Int) < 128) = false := by simp; omega
              have z0 : ((cc : Int) == 0) = false := by simp; omega
              clear hM he
              go_wp2
              all_goals
                go_round
                case rel => exact ⟨i + 1, M, by omega, rfl, rfl, by go_num, HNX⟩
                case measure => simp [intOf]; omega
    · go_wp2_with fail
      go_at_call 73; (with_reducible refine (rd_fail_set q _ _ 12 (first : Int) _ (by decide) K.out).mono ?_); rintro e w2 ⟨rfl, g, hg0, hk, hg, ht⟩
      have HH := Lib.hid (show ∃ g, W.heap.size ≤ g ∧ Blk w2 q 219 (RdC _ (first : Int) (errV g)) ∧ Blk w2 g 111 #[.int .i64 12, .int .i64 (first : Int)] ∧ Tur (· = q) W w2 from ⟨g, Nat.le_trans B.out.size hg0, hk, hg, (Tur.of_below (S := (· = q)) B.out).trans ht (fun _ h => .inl h)⟩)
      clear hg0 hk hg ht
      go_wp2
      go_ret2
      exact SevQ.mkForm (HP.out.done (by omega)) rfl HH.out
end Go.Proofs.YtglbdbghcdoicaaGreatDoor

namespace Go.Proofs.YtglbdbghcdoicaaGreatDoor
open Go.RowKit

/-- Where a Reader stands, and its fault: the code and its place. -/
structure RS where
  pos : Nat
  fault : Option (Int × Int)
def RS.fail (s : RS) (e p : Int) : RS :=
  match s.fault with
  | some _ => s
  | none => if e = 0 then s else ⟨s.pos, some (e, p)⟩
def sevP (xs : List Int) (most last : Nat) (s : RS) : Nat × RS :=
  match s.fault with
  | some _ => (0, s)
  | none => match sevAll xs s.pos most last with
    | .ok n k => (n, ⟨k, none⟩)
    | .cut => (0, ⟨s.pos, some (11, (xs.length : Int))⟩)
    | .form => (0, ⟨s.pos, some (12, (s.pos : Int))⟩)
def numS (most : Int) (pos : Nat) (r : Nat × RS) : RS := if most < 0 ∨ most < (r.1 : Int) then r.2.fail 16 (pos : Int) else r.2
def numP (xs : List Int) (most : Int) (s : RS) : Nat × RS :=
  (if (numS most s.pos (sevP xs 9 127 s)).fault.isSome then 0 else (sevP xs 9 127 s).1, numS most s.pos (sevP xs 9 127 s))
def intP (xs : List Int) (s : RS) : Int × RS :=
  (if (sevP xs 10 1 s).2.fault.isSome then 0 else unzz (sevP xs 10 1 s).1, (sevP xs 10 1 s).2)
def textQ (xs : List Int) (r : Nat × RS) : List Int × RS :=
  match r.2.fault with
  | some _ => ([], r.2)
  | none => if xs.length - r.2.pos < r.1 then ([], ⟨r.2.pos, some (11, (xs.length : Int))⟩) else ((xs.drop r.2.pos).take r.1, ⟨r.2.pos + r.1, none⟩)
def textP (xs : List Int) (most : Int) (s : RS) : List Int × RS := textQ xs (numP xs most s)
def endP (xs : List Int) (s : RS) : RS := if s.pos < xs.length then s.fail 13 (s.pos : Int) else s
def leftP (xs : List Int) (s : RS) : Nat := if s.fault.isSome then 0 else xs.length - s.pos

section
variable {xs : List Int} {s s1 : RS} {most last m : Nat}
theorem fail_pos (s : RS) (e p : Int) : (s.fail e p).pos = s.pos := by
  unfold RS.fail; split
  · rfl
  · split <;> rfl
theorem fail_some (s : RS) {e p : Int} (h : e ≠ 0) : (s.fail e p).fault.isSome = true := by
  unfold RS.fail; split
  · rename_i h; rw [h]; rfl
  · rw [if_neg h]; rfl
theorem sevP_pos (h : s.pos ≤ xs.length) (hr : sevP xs most last s = (m, s1)) : s1.pos ≤ xs.length := by
  unfold sevP at hr
  split at hr
  · cases hr; exact h
  · split at hr
    · rename_i h1; cases hr; exact (sevAll_ok h1 h).2.1
    · cases hr; exact h
    · cases hr; exact h
theorem sevP_lt (h : s.pos ≤ xs.length) (hx : ∀ x ∈ xs, x < 256) (hr : sevP xs 9 last s = (m, s1)) : (m : Int) ≤ 9223372036854775807 := by
  unfold sevP at hr
  split at hr
  · cases hr; omega
  · split at hr
    · rename_i n1 k1 h1
      cases hr
      have h2 := sevAll_lt hx h1
      have h3 := sevAll_ok h1 h
      have := Nat.pow_le_pow_right (show 0 < 128 by omega) (show k1 - s.pos ≤ 9 by omega)
      omega
    · cases hr; omega
    · cases hr; omega
end

theorem blockAdd (ad : Addr) (k : Nat) : (ad.add k).block = ad.block := by cases k <;> rfl
theorem CellsAt.tur {W W1 : World} {A : Option Addr} {us : List Value} {S : Nat → Prop} (h : CellsAt W A us) (ht : Tur S W W1) (hS : ∀ ad, A = some ad → ¬ S ad.block) : CellsAt W1 A us := fun k hk => by
  obtain ⟨ad, e, h1, h2⟩ := h k hk
  refine ⟨ad, e, Nat.lt_of_lt_of_le h1 ht.size, ?_⟩
  have hb := ht.block (ad.add k).block (by rw [blockAdd]; exact h1) (by rw [blockAdd]; exact hS ad e)
  rw [← h2]
  simp only [World.cell?, hb]

/-- The program's Reader at a state of the pure one. -/
structure RdIs (W : World) (q : Nat) (A : Option Addr) (n c : Nat) (xs : List Int) (s : RS) (fv : Value) : Prop where
  blk : Blk W q 219 (RdC (.slice A n c) (s.pos : Int) fv)
  no : s.fault = none → fv = .nilIface
  yes : ∀ e p, s.fault = some (e, p) → ∃ g, fv = errV g ∧ Blk W g 111 #[.int .i64 e, .int .i64 p]
  len : xs.length = n
  cells : CellsAt W A (bvs xs)
  apart : ∀ ad, A = some ad → ad.block ≠ q
  wf : ∀ x ∈ xs, (Lit.int .u8 x).wf = true
  pos : s.pos ≤ n
  cap : n ≤ c
  big : n ≤ 211106232532992
  ty : W.cell? ⟨0, 0, none⟩ = some tyErr
  q0 : 0 < q
/-- What an operation on a Reader turns; where its fault comes from. -/
def RdFr (W : World) (q : Nat) (fv : Value) (W' : World) (fv' : Value) : Prop := Tur (· = q) W W' ∧ (fv' = fv ∨ ∃ g, fv' = errV g ∧ W.heap.size ≤ g)
section
variable {W W1 W2 : World} {q n c : Nat} {A : Option Addr} {xs : List Int} {s s1 : RS} {fv fv1 fv2 : Value}
theorem RdFr.refl (W : World) (q : Nat) (fv : Value) : RdFr W q fv W fv := ⟨Tur.refl _ _, .inl rfl⟩
theorem RdFr.trans (h : RdFr W q fv W1 fv1) (h' : RdFr W1 q fv1 W2 fv2) : RdFr W q fv W2 fv2 := by
  refine ⟨h.1.trans h'.1 (fun _ h => .inl h), ?_⟩
  rcases h'.2 with e | ⟨g, e, hg⟩
  · rw [e]; exact h.2
  · exact .inr ⟨g, e, Nat.le_trans h.1.size hg⟩
theorem RdFr.of_below (hb : Below W.heap.size W W1) : RdFr W q fv W1 fv := ⟨Tur.of_below hb, .inl rfl⟩
theorem RdIs.lt256 (h : RdIs W q A n c xs s fv) : ∀ x ∈ xs, x < 256 := fun x hx => by have := bounds_u8 (h.wf x hx); omega
theorem RdIs.posL (h : RdIs W q A n c xs s fv) : s.pos ≤ xs.length := by rw [h.len]; exact h.pos
theorem RdIs.tur {S : Nat → Prop} (h : RdIs W q A n c xs s fv) (ht : Tur S W W1) (h1 : ¬ S q) (h2 : ∀ ad, A = some ad → ¬ S ad.block) (h3 : ∀ g, fv = errV g → ¬ S g) (h4 : ¬ S 0) : RdIs W1 q A n c xs s fv := by
  refine ⟨h.blk.tur ht h1, h.no, fun e p hs => ?_, h.len, h.cells.tur ht h2, h.apart, h.wf, h.pos, h.cap, h.big, ?_, h.q0⟩
  · obtain ⟨g, e1, hg⟩ := h.yes e p hs
    exact ⟨g, e1, hg.tur ht (h3 g e1)⟩
  · have hb := ht.block 0 (World.block_lt_of_cell? W _ h.ty) h4
    rw [← h.ty]
    simp only [World.cell?, hb]
theorem RdIs.kept (h : RdIs W q A n c xs s fv) (hb : Below W.heap.size W W1) : RdIs W1 q A n c xs s fv :=
  h.tur (Tur.of_below (S := fun _ => False) hb) (fun h => h) (fun _ _ h => h) (fun _ _ h => h) (fun h => h)
theorem RdIs.put (h : RdIs W q A n c xs s fv) (ht : Tur (· = q) W W1) (hb : Blk W1 q 219 (RdC (.slice A n c) (s1.pos : Int) fv1)) (hp : s1.pos ≤ n)
    (no : s1.fault = none → fv1 = .nilIface) (yes : ∀ e p, s1.fault = some (e, p) → ∃ g, fv1 = errV g ∧ Blk W1 g 111 #[.int .i64 e, .int .i64 p]) : RdIs W1 q A n c xs s1 fv1 :=
  ⟨hb, no, yes, h.len, h.cells.tur ht h.apart, h.apart, h.wf, hp, h.cap, h.big, hT_tur h.ty ht h.q0, h.q0⟩
end
/-- What a method of a Reader leaves. -/
def RdQ (W : World) (q : Nat) (A : Option Addr) (n c : Nat) (xs : List Int) (fv : Value) (ret : Value) (s' : RS) (e : Ending) (w' : World) : Prop :=
  e = .returned ret ∧ ∃ fv', RdIs w' q A n c xs s' fv' ∧ RdFr W q fv w' fv'

set_option maxRecDepth 100000 in
theorem rd_read (A : Option Addr) (n c : Nat) (xs : List Int) (W : World) (hl : xs.length = n) (h : CellsAt W A (bvs xs)) (hw : ∀ x ∈ xs, (Lit.int .u8 x).wf = true) (hn : n ≤ 211106232532992) (hT : W.cell? ⟨0, 0, none⟩ = some tyErr) :
    Calls Tryz.prog 70 #[.slice A n c] W fun e w' => ∃ q A' c', e = .returned (.pointer (some ⟨q, 0, none⟩)) ∧ W.heap.size ≤ q ∧ RdIs w' q A' n c' xs ⟨0, none⟩ .nilIface ∧ (∀ ad, A' = some ad → W.heap.size ≤ ad.block ∧ ad.block < w'.heap.size) ∧ Below W.heap.size W w' := by
  have C := Lib.hid (clone_wide A n c xs W hl h hn)
  have HH := Lib.hid (And.intro hl (And.intro hw (And.intro hn hT)))
  clear hl h hn hw hT
  go_enter Tryz.func70, Tryz.ntmps70
  go_wp2_with fail
  go_at_call 69; (with_reducible refine C.out.mono ?_); rintro e w1 ⟨v', rfl, hown, hb⟩
  obtain ⟨A', c', rfl, hr, hc⟩ := row_of_own hown
  have HR := Lib.hid hr
  have B := Lib.hid hb
  have HC := Lib.hid hc
  clear hown hr hb hc
  go_wp2
  go_ret
  have hlt : ∀ ad, A' = some ad → W.heap.size ≤ ad.block ∧ ad.block < w1.heap.size := by
    rintro ad rfl
    rcases HR.out with ⟨h, _⟩ | ⟨g, cur, h, h1, hg, _⟩
    · cases h
    · cases h; exact ⟨h1, hg.lt⟩
  have hty : w1.cell? ⟨0, 0, none⟩ = some tyErr := (B.out.cell (p := ⟨0, 0, none⟩) (World.block_lt_of_cell? W _ HH.out.2.2.2)).trans HH.out.2.2.2
  refine ⟨w1.heap.size, A', c', rfl, B.out.size, ⟨Blk.new _ _ _, fun _ => rfl, (fun _ _ h => by cases h), HH.out.1, (HR.out.kept ((Below.refl _ _).alloc (Nat.le_refl _) _)).cells, fun ad h => Nat.ne_of_lt (hlt ad h).2, HH.out.2.1, Nat.zero_le _, HC.out, HH.out.2.2.1, tyErr_alloc hty _, ?_⟩, fun ad h => ⟨(hlt ad h).1, by have := (hlt ad h).2; simp; omega⟩, B.out.alloc B.out.size _⟩
  exact World.block_lt_of_cell? w1 _ hty

section
variable {q n c : Nat} {A : Option Addr} {xs : List Int} {s : RS} {fv : Value} {W : World}
theorem rd_broken (h : RdIs W q A n c xs s fv) :
    Calls Tryz.prog 116 #[.pointer (some ⟨q, 0, none⟩)] W fun e w' => e = .returned (.bool s.fault.isSome) ∧ Below W.heap.size W w' := by
  rcases hf : s.fault with _ | ⟨e, p⟩
  · obtain rfl := h.no hf
    exact r_broken_no q _ _ W h.blk
  · obtain ⟨g, rfl, hg⟩ := h.yes e p hf
    exact r_broken_yes q g _ _ W h.ty h.blk
set_option maxRecDepth 100000 in
theorem rd_fail_ok (pl : Int) (hc : Calls Tryz.prog 116 #[.pointer (some ⟨q, 0, none⟩)] W fun e w' => e = .returned (.bool false) ∧ Below W.heap.size W w') :
    Calls Tryz.prog 73 #[.pointer (some ⟨q, 0, none⟩), .int .i64 0, .int .i64 pl] W fun e w' => e = .returned (.tuple #[]) ∧ Below W.heap.size W w' := by
  have C := Lib.hid hc
  clear hc
  go_enter Tryz.func73, Tryz.ntmps73
  go_wp2_with fail
  go_at_call 116; (with_reducible refine C.out.mono ?_); rintro e w1 ⟨rfl, hb⟩
  go_wp2
  go_end0
  exact ⟨rfl, hb⟩
theorem rd_fail (h : RdIs W q A n c xs s fv) (code pl : Int) :
    Calls Tryz.prog 73 #[.pointer (some ⟨q, 0, none⟩), .int .i64 code, .int .i64 pl] W (RdQ W q A n c xs fv (.tuple #[]) (s.fail code pl)) := by
  rcases hf : s.fault with _ | ⟨e, p⟩
  · obtain rfl := h.no hf
    by_cases hc : code = 0
    · subst hc
      refine (rd_fail_ok pl (r_broken_no q _ _ W h.blk)).mono ?_
      rintro e w' ⟨rfl, hb⟩
      have e1 : s.fail 0 pl = s := by unfold RS.fail; rw [hf]; rfl
      rw [e1]
      exact ⟨rfl, _, h.kept hb, RdFr.of_below hb⟩
    · refine (rd_fail_set q _ _ code pl W (by simpa using hc) h.blk).mono ?_
      rintro e w' ⟨rfl, g, hg, hb, hg1, ht⟩
      have e1 : s.fail code pl = ⟨s.pos, some (code, pl)⟩ := by unfold RS.fail; rw [hf]; simp only; rw [if_neg hc]
      rw [e1]
      exact ⟨rfl, errV g, h.put ht hb h.pos (fun h => by cases h) (fun e p he => by cases he; exact ⟨g, rfl, hg1⟩), ht, .inr ⟨g, rfl, hg⟩⟩
  · have e1 : s.fail code pl = s := by unfold RS.fail; rw [hf]
    rw [e1]
    obtain ⟨g, rfl, hg⟩ := h.yes e p hf
    refine (r_fail_keep q g _ _ code pl W h.ty h.blk).mono ?_
    rintro e w' ⟨rfl, hb⟩
    exact ⟨rfl, _, h.kept hb, RdFr.of_below hb⟩
set_option maxRecDepth 100000 in
theorem rd_sevens_yes (most last : Nat) (hf : s.fault.isSome = true) (h : RdIs W q A n c xs s fv) :
    Calls Tryz.prog 142 #[.pointer (some ⟨q, 0, none⟩), .int .i64 (most : Int), .int .u8 (last : Int)] W fun e w' => e = .returned (.tuple #[.int .u64 0, .int .i64 (s.pos : Int)]) ∧ Below W.heap.size W w' := by
  have H := Lib.hid h
  have p1 : W.cell? ⟨q, 1, none⟩ = some (.int .i64 (s.pos : Int)) := h.blk.cell 1
  have C := Lib.hid (hf ▸ rd_broken h)
  clear h hf
  go_enter Tryz.func142, Tryz.ntmps142
  go_wp2_with fail
  go_at_call 116; (with_reducible refine C.out.mono ?_); rintro e w1 ⟨rfl, hb⟩
  go_wp2
  go_ret2
  exact ⟨rfl, hb⟩
theorem rd_sevens (h : RdIs W q A n c xs s fv) {most last m : Nat} {s1 : RS} (hr : sevP xs most last s = (m, s1)) (hm : 1 ≤ most ∧ most ≤ 10) (hla : last ≤ 127) (hml : most = 10 → last = 1) :
    Calls Tryz.prog 142 #[.pointer (some ⟨q, 0, none⟩), .int .i64 (most : Int), .int .u8 (last : Int)] W (RdQ W q A n c xs fv (.tuple #[.int .u64 (m : Int), .int .i64 (s.pos : Int)]) s1) := by
  rcases hf : s.fault with _ | ⟨e, p⟩
  · obtain rfl := h.no hf
    refine (rd_sevens_no q A n c xs s.pos most last W h.blk h.len h.cells h.apart h.wf h.pos h.big hm hla hml).mono ?_
    intro e w' hq
    unfold sevP at hr
    rw [hf] at hr
    simp only at hr
    unfold SevQ at hq
    split at hr
    · rename_i h1
      rw [h1] at hq
      cases hr
      obtain ⟨rfl, hb, ht⟩ := hq
      exact ⟨rfl, _, h.put ht hb (by rw [← h.len]; exact (sevAll_ok h1 h.posL).2.1) (fun _ => rfl) (fun _ _ h => by cases h), ht, .inl rfl⟩
    · rename_i h1
      rw [h1] at hq
      cases hr
      obtain ⟨rfl, g, hg, hb, hg1, ht⟩ := hq
      exact ⟨rfl, errV g, h.put ht hb h.pos (fun h => by cases h) (fun e p he => by cases he; exact ⟨g, rfl, hg1⟩), ht, .inr ⟨g, rfl, hg⟩⟩
    · rename_i h1
      rw [h1] at hq
      cases hr
      obtain ⟨rfl, g, hg, hb, hg1, ht⟩ := hq
      exact ⟨rfl, errV g, h.put ht hb h.pos (fun h => by cases h) (fun e p he => by cases he; exact ⟨g, rfl, hg1⟩), ht, .inr ⟨g, rfl, hg⟩⟩
  · have : (m, s1) = (0, s) := by rw [← hr]; unfold sevP; rw [hf]
    cases this
    refine (rd_sevens_yes most last (by rw [hf]; rfl) h).mono ?_
    rintro e w' ⟨rfl, hb⟩
    exact ⟨rfl, _, h.kept hb, RdFr.of_below hb⟩
end

set_option maxHeartbeats 1000000 in
set_option maxRecDepth 100000 in
theorem rd_num {q n c : Nat} {A : Option Addr} {xs : List Int} {s : RS} {fv : Value} {W : World} (h : RdIs W q A n c xs s fv) (most : Int) (hmo : most ≤ 9223372036854775807) :
    Calls Tryz.prog 109 #[.pointer (some ⟨q, 0, none⟩), .int .i64 most] W (RdQ W q A n c xs fv (.int .i64 ((numP xs most s).1 : Int)) (numP xs most s).2) := by
  rcases hr : sevP xs 9 127 s with ⟨m, s1⟩
  have hm9 := sevP_lt h.posL h.lt256 hr
  have C := Lib.hid (show Calls Tryz.prog 142 #[.pointer (some ⟨q, 0, none⟩), .int .i64 9, .int .u8 127] W _ from rd_sevens (most := 9) (last := 127) h hr ⟨by omega, by omega⟩ (by omega) (by omega))
  have HP := Lib.hid (show ∀ s2, numS most s.pos (m, s1) = s2 → numP xs most s = (if s2.fault.isSome then 0 else m, s2) from fun s2 h => by unfold numP; rw [hr, h])
  have H0 := Lib.hid h
  clear h hr
  by_cases hlt : most < 0
  · have HS := Lib.hid (show numS most s.pos (m, s1) = s1.fail 16 (s.pos : Int) by unfold numS; rw [if_pos (.inl hlt)])
    have hd : decide (most < 0) = true := by simpa using hlt
    clear hlt
    go_enter Tryz.func109, Tryz.ntmps109
    go_wp2_with fail
    go_at_call 142; (with_reducible refine C.out.mono ?_); rintro e w1 ⟨rfl, fv1, h1, f1⟩
    have H1 := Lib.hid h1
    have F1 := Lib.hid f1
    clear h1 f1
    go_wp2_with fail
    go_at_call 73; (with_reducible refine (rd_fail H1.out 16 (s.pos : Int)).mono ?_); rintro e w2 ⟨rfl, fv2, h2, f2⟩
    have H2 := Lib.hid h2
    have F2 := Lib.hid (F1.out.trans f2)
    clear h2 f2
    go_wp2_with fail
    go_at_call 116; (with_reducible refine (fail_some s1 (e := 16) (p := (s.pos : Int)) (by decide) ▸ rd_broken H2.out).mono ?_); rintro e w3 ⟨rfl, hb⟩
    have H3 := Lib.hid (H2.out.kept hb)
    have F3 := Lib.hid (F2.out.trans (RdFr.of_below hb))
    clear hb
    go_wp2
    go_ret
    rw [HP.out _ HS.out, fail_some s1 (by decide)]
    exact ⟨rfl, _, H3.out, F3.out⟩
  · obtain ⟨mo, rfl⟩ : ∃ mo : Nat, most = (mo : Int) := ⟨most.toNat, by omega⟩
    have hd : decide ((mo : Int) < 0) = false := by simp
    clear hlt
    by_cases hmm : mo < m
    · have HS := Lib.hid (show numS (mo : Int) s.pos (m, s1) = s1.fail 16 (s.pos : Int) by unfold numS; rw [if_pos (.inr (by simp only; omega))])
      have hd2 : decide (mo < m) = true := by simpa using hmm
      have hd3 : decide ((mo : Int) < (m : Int)) = true := by simpa using hmm
      clear hmm
      go_enter Tryz.func109, Tryz.ntmps109
      go_wp2_with fail
      go_at_call 142; (with_reducible refine C.out.mono ?_); rintro e w1 ⟨rfl, fv1, h1, f1⟩
      have H1 := Lib.hid h1
      have F1 := Lib.hid f1
      clear h1 f1
      go_wp2_with fail
      go_at_call 73; (with_reducible refine (rd_fail H1.out 16 (s.pos : Int)).mono ?_); rintro e w2 ⟨rfl, fv2, h2, f2⟩
      have H2 := Lib.hid h2
      have F2 := Lib.hid (F1.out.trans f2)
      clear h2 f2
      go_wp2_with fail
      go_at_call 116; (with_reducible refine (fail_some s1 (e := 16) (p := (s.pos : Int)) (by decide) ▸ rd_broken H2.out).mono ?_); rintro e w3 ⟨rfl, hb⟩
      have H3 := Lib.hid (H2.out.kept hb)
      have F3 := Lib.hid (F2.out.trans (RdFr.of_below hb))
      clear hb
      go_wp2
      go_ret
      rw [HP.out _ HS.out, fail_some s1 (by decide)]
      exact ⟨rfl, _, H3.out, F3.out⟩
    · have HS := Lib.hid (show numS (mo : Int) s.pos (m, s1) = s1 by unfold numS; rw [if_neg (by simp only; omega)])
      have hd2 : decide (mo < m) = false := by simpa using hmm
      have hd3 : decide ((mo : Int) < (m : Int)) = false := by simpa using hmm
      clear hmm
      go_enter Tryz.func109, Tryz.ntmps109
      go_wp2_with fail
      go_at_call 142; (with_reducible refine C.out.mono ?_); rintro e w1 ⟨rfl, fv1, h1, f1⟩
      have H1 := Lib.hid h1
      have F1 := Lib.hid f1
      clear h1 f1
      go_wp2_with fail
      go_at_call 116; (with_reducible refine (rd_broken H1.out).mono ?_); rintro e w3 ⟨rfl, hb⟩
      have H3 := Lib.hid (H1.out.kept hb)
      have F3 := Lib.hid (F1.out.trans (RdFr.of_below hb))
      clear hb
      rcases hf : s1.fault.isSome
      · have HF := Lib.hid hf
        clear hf
        go_wp2
        go_ret
        rw [HP.out _ HS.out, HF.out]
        exact ⟨rfl, _, H3.out, F3.out⟩
      · have HF := Lib.hid hf
        clear hf
        go_wp2
        go_ret
        rw [HP.out _ HS.out, HF.out]
        exact ⟨rfl, _, H3.out, F3.out⟩
end Go.Proofs.YtglbdbghcdoicaaGreatDoor

namespace Go.Proofs.YtglbdbghcdoicaaGreatDoor
open Go.RowKit

theorem sevAll_lt64 {xs : List Int} {first n k : Nat} (hx : ∀ x ∈ xs, x < 256) (h : sevAll xs first 10 1 = .ok n k) : n < 18446744073709551616 := by
  have H : ∀ (f i N : Nat), sevGo xs first 10 1 f i N = .ok n k → i + f = 10 → N < 128 ^ i → n < 18446744073709551616 := by
    intro f
    induction f with
    | zero => intro i N h; rw [sevGo] at h; cases h
    | succ f ih =>
      intro i N h hi hN
      rw [sevGo] at h
      split at h
      · cases h
      · have hc : (xs.getD (first + i) 0).toNat < 256 := by
          rw [List.getD_eq_getElem?_getD]
          by_cases hl : first + i < xs.length
          · rw [List.getElem?_eq_getElem hl]
            have := hx _ (List.getElem_mem hl)
            simp only [Option.getD_some]; omega
          · rw [List.getElem?_eq_none (by omega)]; simp
        generalize (xs.getD (first + i) 0).toNat = c at *
        split at h
        · cases h
        · split at h
          · rename_i hb h1
            cases h
            have hP := pow_le i (by omega)
            by_cases h9 : i = 9
            · have := Nat.mul_le_mul_right (128 ^ i) (show c ≤ 1 by omega)
              omega
            · have h2 : 128 ^ i ≤ 72057594037927936 := Nat.le_trans (Nat.pow_le_pow_right (by omega) (show i ≤ 8 by omega)) (by decide)
              have := Nat.mul_le_mul (show c ≤ 127 by omega) h2
              omega
          · refine ih (i + 1) _ h (by omega) ?_
            rw [Nat.pow_succ]
            have := Nat.mul_le_mul_right (128 ^ i) (show c - 128 ≤ 127 by omega)
            omega
  exact H 10 0 0 h rfl (by simp)
section
variable {q n c : Nat} {A : Option Addr} {xs : List Int} {s : RS} {fv : Value} {W : World}
theorem sevP_lt64 {s1 : RS} {m : Nat} (hx : ∀ x ∈ xs, x < 256) (hr : sevP xs 10 1 s = (m, s1)) : m < 18446744073709551616 := by
  unfold sevP at hr
  split at hr
  · cases hr; omega
  · split at hr
    · rename_i n1 k1 h1
      cases hr
      exact sevAll_lt64 hx h1
    · cases hr; omega
    · cases hr; omega

set_option maxHeartbeats 1000000 in
set_option maxRecDepth 100000 in
theorem rd_int (h : RdIs W q A n c xs s fv) :
    Calls Tryz.prog 151 #[.pointer (some ⟨q, 0, none⟩)] W (RdQ W q A n c xs fv (.int .i64 (intP xs s).1) (intP xs s).2) := by
  rcases hr : sevP xs 10 1 s with ⟨m, s1⟩
  have hm := sevP_lt64 h.lt256 hr
  have C := Lib.hid (show Calls Tryz.prog 142 #[.pointer (some ⟨q, 0, none⟩), .int .i64 10, .int .u8 1] W _ from rd_sevens (most := 10) (last := 1) h hr ⟨by omega, by omega⟩ (by omega) (by omega))
  have HP := Lib.hid (show intP xs s = (if s1.fault.isSome then 0 else unzz m, s1) by unfold intP; rw [hr])
  have ha := and1 m hm
  have hx : bits .xor .i64 (-1) ((m : Int) / 2) = -1 - (m : Int) / 2 := by have := i64_not (m / 2) (by omega); simpa using this
  have hm2 : (m : Int) / 2 ≤ 9223372036854775807 := by omega
  clear h hr hm
  go_enter Tryz.func151, Tryz.ntmps151
  go_wp2_with fail
  go_at_call 142; (with_reducible refine C.out.mono ?_); rintro e w1 ⟨rfl, fv1, h1, f1⟩
  have H1 := Lib.hid h1
  have F1 := Lib.hid f1
  clear h1 f1
  go_wp2_with fail
  go_at_call 116; (with_reducible refine (rd_broken H1.out).mono ?_); rintro e w3 ⟨rfl, hb⟩
  have H3 := Lib.hid (H1.out.kept hb)
  have F3 := Lib.hid (F1.out.trans (RdFr.of_below hb))
  clear hb
  rcases hf : s1.fault.isSome
  · have HF := Lib.hid hf
    clear hf
    rcases Nat.mod_two_eq_zero_or_one m with hp | hp
    · rw [hp] at ha
      have HU := Lib.hid (show unzz m = (m : Int) / 2 by unfold unzz; rw [if_neg (by omega)])
      clear hp
      go_wp2
      go_ret
      rw [HP.out, HF.out]
      refine ⟨?_, _, H3.out, F3.out⟩
      show _ = Ending.returned (Value.int .i64 (unzz m))
      rw [HU.out]; rfl
    · rw [hp] at ha
      have HU := Lib.hid (show unzz m = -1 - (m : Int) / 2 by unfold unzz; rw [if_pos hp])
      clear hp
      go_wp2
      go_ret
      rw [HP.out, HF.out]
      refine ⟨?_, _, H3.out, F3.out⟩
      show _ = Ending.returned (Value.int .i64 (unzz m))
      rw [HU.out]; rfl
  · have HF := Lib.hid hf
    clear hf
    go_wp2
    go_ret
    rw [HP.out, HF.out]
    exact ⟨rfl, _, H3.out, F3.out⟩

set_option maxRecDepth 100000 in
theorem rd_end (h : RdIs W q A n c xs s fv) :
    Calls Tryz.prog 75 #[.pointer (some ⟨q, 0, none⟩)] W (RdQ W q A n c xs fv (.tuple #[]) (endP xs s)) := by
  have p0 : W.cell? ⟨q, 0, none⟩ = some (.slice A n c) := h.blk.cell 0
  have p1 : W.cell? ⟨q, 1, none⟩ = some (.int .i64 (s.pos : Int)) := h.blk.cell 1
  have H := Lib.hid (fun k => h.kept (below_drewN (Below.refl W.heap.size W) k))
  have HL := Lib.hid h.len
  have H0 := Lib.hid h
  clear h
  by_cases hk : s.pos < n
  · have HE := Lib.hid (show endP xs s = s.fail 13 (s.pos : Int) by unfold endP; rw [HL.out, if_pos hk])
    have hd : decide (s.pos < n) = true := by simpa using hk
    clear hk
    go_enter Tryz.func75, Tryz.ntmps75
    go_wp2
    go_quiet (fail)
    go_wp2_with fail
    go_at_call 73; (with_reducible refine (rd_fail (H.out _) 13 (s.pos : Int)).mono ?_); rintro e w2 ⟨rfl, fv2, h2, f2⟩
    go_wp2
    go_end0
    rw [HE.out]
    exact ⟨rfl, fv2, h2, (RdFr.of_below (below_drewN (Below.refl _ _) _)).trans f2⟩
  · have HE := Lib.hid (show endP xs s = s by unfold endP; rw [HL.out, if_neg hk])
    have hd : decide (s.pos < n) = false := by simpa using hk
    clear hk
    go_enter Tryz.func75, Tryz.ntmps75
    go_wp2
    go_quiet (fail)
    go_wp2
    go_end0
    rw [HE.out]
    exact ⟨rfl, fv, H.out _, RdFr.of_below (below_drewN (Below.refl _ _) _)⟩

set_option maxRecDepth 100000 in
theorem rd_left (h : RdIs W q A n c xs s fv) :
    Calls Tryz.prog 149 #[.pointer (some ⟨q, 0, none⟩)] W fun e w' => e = .returned (.int .i64 (leftP xs s : Int)) ∧ Below W.heap.size W w' := by
  have C := Lib.hid (rd_broken h)
  have HL := Lib.hid h.len
  have H := Lib.hid h
  have hp : s.pos ≤ n := h.pos
  have hn : (n : Int) ≤ 211106232532992 := by have := h.big; omega
  clear h
  rcases hf : s.fault.isSome
  · have HF := Lib.hid hf
    clear hf
    go_enter Tryz.func149, Tryz.ntmps149
    go_wp2_with fail
    go_at_call 116; (with_reducible refine (HF.out ▸ C.out).mono ?_); rintro e w1 ⟨rfl, hb⟩
    have p0 : w1.cell? ⟨q, 0, none⟩ = some (.slice A n c) := (H.out.kept hb).blk.cell 0
    have p1 : w1.cell? ⟨q, 1, none⟩ = some (.int .i64 (s.pos : Int)) := (H.out.kept hb).blk.cell 1
    have B := Lib.hid hb
    clear hb
    go_wp2
    go_quiet (fail)
    go_wp2
    go_ret
    refine ⟨?_, below_drewN B.out _⟩
    have e1 : leftP xs s = n - s.pos := by unfold leftP; rw [HF.out, HL.out]; rfl
    rw [e1, show ((n - s.pos : Nat) : Int) = (n : Int) - (s.pos : Int) by omega]
    rfl
  · have HF := Lib.hid hf
    clear hf
    go_enter Tryz.func149, Tryz.ntmps149
    go_wp2_with fail
    go_at_call 116; (with_reducible refine (HF.out ▸ C.out).mono ?_); rintro e w1 ⟨rfl, hb⟩
    go_wp2
    go_ret
    refine ⟨?_, hb⟩
    have e1 : leftP xs s = 0 := by unfold leftP; rw [HF.out]; rfl
    rw [e1]
    rfl
/-- Err: nil, or a new Error of the fault. -/
theorem rd_err (h : RdIs W q A n c xs s fv) :
    Calls Tryz.prog 74 #[.pointer (some ⟨q, 0, none⟩)] W fun e w' => Below W.heap.size W w' ∧ match s.fault with
      | none => e = .returned .nilIface
      | some (code, p) => ∃ g, e = .returned (errV g) ∧ Blk w' g 111 #[.int .i64 code, .int .i64 p] := by
  rcases hf : s.fault with _ | ⟨e, p⟩
  · obtain rfl := h.no hf
    exact (r_err_no q _ _ W h.blk).mono (fun e w' h => ⟨h.2, h.1⟩)
  · obtain ⟨g, rfl, hg⟩ := h.yes e p hf
    exact (r_err_yes q g _ _ e p W h.ty h.blk hg).mono (fun e w' ⟨g', h1, h2, h3⟩ => ⟨h3, g', h1, h2⟩)
end
end Go.Proofs.YtglbdbghcdoicaaGreatDoor

namespace Go.Proofs.YtglbdbghcdoicaaGreatDoor
open Go.RowKit

section
variable {xs : List Int} {s s1 : RS} {most : Int} {m last mo : Nat}
theorem sevP_go (hr : sevP xs mo last s = (m, s1)) (h : s1.fault = none) : s.fault = none ∧ sevAll xs s.pos mo last = .ok m s1.pos := by
  unfold sevP at hr
  split at hr
  · rename_i hf; cases hr; rw [h] at hf; cases hf
  · rename_i hf
    split at hr
    · rename_i n1 k1 h1
      cases hr
      exact ⟨hf, h1⟩
    · cases hr; cases h
    · cases hr; cases h
theorem numS_none {r : Nat × RS} {pos : Nat} (h : (numS most pos r).fault = none) : numS most pos r = r.2 ∧ ¬ (most < 0 ∨ most < (r.1 : Int)) := by
  unfold numS at h ⊢
  split at h
  · have := fail_some r.2 (e := 16) (p := (pos : Int)) (by decide)
    rw [h] at this
    cases this
  · rename_i hb; rw [if_neg hb]; exact ⟨rfl, hb⟩
theorem numP_none (hr : numP xs most s = (m, s1)) (h : s1.fault = none) : s.fault = none ∧ sevAll xs s.pos 9 127 = .ok m s1.pos ∧ 0 ≤ most ∧ (m : Int) ≤ most := by
  unfold numP at hr
  rcases hs : sevP xs 9 127 s with ⟨m0, s0⟩
  rw [hs] at hr
  have h2 : numS most s.pos (m0, s0) = s1 := congrArg Prod.snd hr
  have h1 : (if (numS most s.pos (m0, s0)).fault.isSome then 0 else m0) = m := congrArg Prod.fst hr
  rw [h2, h] at h1
  obtain rfl : m0 = m := h1
  obtain ⟨h3, h4⟩ := numS_none (h2 ▸ h)
  rw [h2] at h3
  obtain rfl : s1 = s0 := h3
  have := sevP_go hs h
  simp only at h4
  exact ⟨this.1, this.2, by omega, by omega⟩
theorem numP_some (hr : numP xs most s = (m, s1)) (h : s1.fault.isSome = true) : m = 0 := by
  unfold numP at hr
  have h2 := congrArg Prod.snd hr
  have h1 := congrArg Prod.fst hr
  simp only at h1 h2
  rw [h2, h] at h1
  simpa using h1.symm
end
theorem conv_sub {W : World} {ad : Addr} {xs : List Int} {n pos m : Nat} (h : CellsAt W (some ad) (bvs xs)) (hl : xs.length = n) (hp : pos + m ≤ n) (c : Nat) :
    (convert 32 9 (.slice (some (ad.add pos)) m c)).run Tryz.prog W = .ok (.string (strOfNums ((xs.drop pos).take m))) W := by
  refine conv_cells (fun k hk => ?_) (by rw [List.length_take, List.length_drop]; omega) c
  rw [bvs_len, List.length_take, List.length_drop] at hk
  obtain ⟨ad', e, h1, h2⟩ := h (pos + k) (by rw [bvs_len]; omega)
  cases e
  refine ⟨_, rfl, by rw [blockAdd]; exact h1, ?_⟩
  rw [Go.Deep.add_add, h2]
  simp [bvs]
theorem conv_zero {W : World} {ad : Addr} (c : Nat) : (convert 32 9 (.slice (some ad) 0 c)).run Tryz.prog W = .ok (.string (strOfNums [])) W :=
  conv_cells (xs := []) (fun k hk => absurd hk (by simp [bvs])) rfl c

section
variable {q n c : Nat} {A : Option Addr} {xs : List Int} {s : RS} {fv : Value} {W : World}
set_option maxHeartbeats 1000000 in
set_option maxRecDepth 100000 in
theorem rd_text (h : RdIs W q A n c xs s fv) (most : Int) (hmo : most ≤ 9223372036854775807) :
    Calls Tryz.prog 150 #[.pointer (some ⟨q, 0, none⟩), .int .i64 most] W (RdQ W q A n c xs fv (.string (strOfNums (textP xs most s).1)) (textP xs most s).2) := by
  rcases hr : numP xs most s with ⟨m, s1⟩
  have C := Lib.hid (hr ▸ rd_num h most hmo)
  have HT := Lib.hid (show textP xs most s = textQ xs (m, s1) by unfold textP; rw [hr])
  have HR := Lib.hid hr
  have HL := Lib.hid h.len
  have HPL := Lib.hid h.posL
  have hn : (n : Int) ≤ 211106232532992 := by have := h.big; omega
  clear h hr
  rcases hf : s1.fault with _ | ⟨e, p⟩
  · by_cases hgt : n - s1.pos < m
    · have HE := Lib.hid (show textQ xs (m, s1) = ([], s1.fail 11 (n : Int)) by unfold textQ RS.fail; rw [hf]; simp only; rw [HL.out, if_pos hgt, if_neg (by decide)])
      clear hf
      go_enter Tryz.func150, Tryz.ntmps150
      go_wp2_with fail
      go_at_call 109; (with_reducible refine C.out.mono ?_); rintro e w1 ⟨rfl, fv1, h1, f1⟩
      have hp := h1.pos
      have hd : decide ((n : Int) - (s1.pos : Int) < (m : Int)) = true := by simp; omega
      have q0 : w1.cell? ⟨q, 0, none⟩ = some (.slice A n c) := h1.blk.cell 0
      have q1 : w1.cell? ⟨q, 1, none⟩ = some (.int .i64 (s1.pos : Int)) := h1.blk.cell 1
      have H1 := Lib.hid (fun k => h1.kept (below_drewN (Below.refl w1.heap.size w1) k))
      have F1 := Lib.hid f1
      clear h1 f1 hgt
      go_wp2
      go_quiet (fail)
      go_wp2_with fail
      go_at_call 73; (with_reducible refine (rd_fail (H1.out _) 11 (n : Int)).mono ?_); rintro e w2 ⟨rfl, fv2, h2, f2⟩
      have H2 := Lib.hid h2
      have F2 := Lib.hid ((F1.out.trans (RdFr.of_below (below_drewN (Below.refl _ _) _))).trans f2)
      clear h2 f2
      go_wp2_with fail
      go_at_call 116; (with_reducible refine (fail_some s1 (e := 11) (p := (n : Int)) (by decide) ▸ rd_broken H2.out).mono ?_); rintro e w3 ⟨rfl, hb⟩
      have H3 := Lib.hid (H2.out.kept hb)
      have F3 := Lib.hid (F2.out.trans (RdFr.of_below hb))
      clear hb
      go_wp2
      go_ret
      rw [HT.out, HE.out]
      exact ⟨rfl, _, H3.out, F3.out⟩
    · have hs := numP_none HR.out hf
      have hlt := sevAll_ok hs.2.1 HPL.out
      have HE := Lib.hid (show textQ xs (m, s1) = ((xs.drop s1.pos).take m, ⟨s1.pos + m, none⟩) by unfold textQ; rw [hf]; simp only; rw [HL.out, if_neg hgt])
      have HF := Lib.hid (show s1.fault.isSome = false by rw [hf]; rfl)
      clear hs
      have HLT := Lib.hid hlt
      clear hf hlt
      go_enter Tryz.func150, Tryz.ntmps150
      go_wp2_with fail
      go_at_call 109; (with_reducible refine C.out.mono ?_); rintro e w1 ⟨rfl, fv1, h1, f1⟩
      have hp := h1.pos
      have hcap := h1.cap
      have hd : decide ((n : Int) - (s1.pos : Int) < (m : Int)) = false := by simp; omega
      have q0 : w1.cell? ⟨q, 0, none⟩ = some (.slice A n c) := h1.blk.cell 0
      have q1 : w1.cell? ⟨q, 1, none⟩ = some (.int .i64 (s1.pos : Int)) := h1.blk.cell 1
      have H1 := Lib.hid (fun k => h1.kept (below_drewN (Below.refl w1.heap.size w1) k))
      have F1 := Lib.hid f1
      clear h1 f1
      go_wp2
      go_quiet (fail)
      go_wp2_with fail
      go_at_call 116; (with_reducible refine (HF.out ▸ rd_broken (H1.out _)).mono ?_); rintro e w3 ⟨rfl, hb⟩
      have h3 := (H1.out _).kept hb
      have F3 := Lib.hid (F1.out.trans (RdFr.of_below ((below_drewN (Below.refl _ _) _).trans hb)))
      have q0 : w3.cell? ⟨q, 0, none⟩ = some (.slice A n c) := h3.blk.cell 0
      have q1 : w3.cell? ⟨q, 1, none⟩ = some (.int .i64 (s1.pos : Int)) := h3.blk.cell 1
      have qf : w3.frozen? ⟨q, 1, none⟩ = false := h3.blk.frozen 1
      have hp0 : 0 < xs.length := by have := HLT.out; have := HL.out; omega
      obtain ⟨ad, rfl, _, _⟩ := h3.cells 0 (by rw [bvs_len]; exact hp0)
      have H3 := Lib.hid h3
      obtain ⟨S, hS⟩ : ∃ S, S = strOfNums ((xs.drop s1.pos).take m) := ⟨_, rfl⟩
      have HS := Lib.hid hS
      have b1 : s1.pos + m ≤ c := by omega
      have b2 : (s1.pos : Int) + (m : Int) ≤ (c : Int) := by omega
      have b3 : s1.pos ≤ s1.pos + m := by omega
      have b4 : (s1.pos : Int) + (m : Int) ≤ 211106232532992 := by omega
      have b5 : IntKind.i64.wrap ((s1.pos : Int) + (m : Int)) = ((s1.pos + m : Nat) : Int) := by rw [IntKind.wrap_i64]; omega
      have HPM := Lib.hid (show s1.pos + m ≤ n by omega)
      by_cases hcp : c = s1.pos
      · have hm0 : m = 0 := by omega
        have hcvN : ∀ c' k, (convert 32 9 (.slice (some ad) m c')).run Tryz.prog (w3.drewN k) = .ok (.string S) (w3.drewN k) := fun c' k => by
          rw [hS, hm0, List.take_zero]
          exact conv_zero c'
        subst hcp
        subst hm0
        clear hb h3 hS hgt
        go_wp2
        go_quiet (fail)
        have H4 := Lib.hid (H3.out.kept (below_drewN (Below.refl w3.heap.size w3) nq))
        have F4 := Lib.hid (F3.out.trans (RdFr.of_below (below_drewN (Below.refl w3.heap.size w3) nq)))
        clear hcvN
        go_wp2
        go_ret
        rw [HT.out, HE.out, ← HS.out]
        exact ⟨rfl, fv1, RdIs.put (s1 := ⟨s1.pos + 0, none⟩) H4.out (Tur.setCell (S := (· = q)) (p := ⟨q, 1, none⟩) (Tur.refl _ _) (.inl rfl) _) (H4.out.blk.set_ 1 (.int .i64 ((s1.pos : Int) + ((0 : Nat) : Int)))) HPM.out (fun _ => H4.out.no (by have := HF.out; cases h : s1.fault <;> simp_all)) (fun _ _ h => by cases h), F4.out.trans ⟨Tur.setCell (S := (· = q)) (p := ⟨q, 1, none⟩) (Tur.refl _ _) (.inl rfl) _, .inl rfl⟩⟩
      · have hcvN : ∀ c' k, (convert 32 9 (.slice (some (ad.add s1.pos)) m c')).run Tryz.prog (w3.drewN k) = .ok (.string S) (w3.drewN k) := fun c' k => by
          rw [hS]
          exact conv_sub (h3.kept (below_drewN (Below.refl w3.heap.size w3) k)).cells H3.out.len (by omega) c'
        clear hb h3 hS hgt
        go_wp2
        go_quiet (fail)
        have H4 := Lib.hid (H3.out.kept (below_drewN (Below.refl w3.heap.size w3) nq))
        have F4 := Lib.hid (F3.out.trans (RdFr.of_below (below_drewN (Below.refl w3.heap.size w3) nq)))
        clear hcvN
        go_wp2
        go_ret
        rw [HT.out, HE.out, ← HS.out]
        exact ⟨rfl, fv1, RdIs.put (s1 := ⟨s1.pos + m, none⟩) H4.out (Tur.setCell (S := (· = q)) (p := ⟨q, 1, none⟩) (Tur.refl _ _) (.inl rfl) _) (H4.out.blk.set_ 1 (.int .i64 ((s1.pos : Int) + (m : Int)))) HPM.out (fun _ => H4.out.no (by have := HF.out; cases h : s1.fault <;> simp_all)) (fun _ _ h => by cases h), F4.out.trans ⟨Tur.setCell (S := (· = q)) (p := ⟨q, 1, none⟩) (Tur.refl _ _) (.inl rfl) _, .inl rfl⟩⟩
  · have hs : s1.fault.isSome = true := by rw [hf]; rfl
    obtain rfl := numP_some HR.out hs
    have HE := Lib.hid (show textQ xs (0, s1) = ([], s1) by unfold textQ; rw [hf])
    have HF := Lib.hid hs
    clear hf hs
    go_enter Tryz.func150, Tryz.ntmps150
    go_wp2_with fail
    go_at_call 109; (with_reducible refine C.out.mono ?_); rintro e w1 ⟨rfl, fv1, h1, f1⟩
    have hp := h1.pos
    have hd : decide ((n : Int) - (s1.pos : Int) < 0) = false := by simp; omega
    have q0 : w1.cell? ⟨q, 0, none⟩ = some (.slice A n c) := h1.blk.cell 0
    have q1 : w1.cell? ⟨q, 1, none⟩ = some (.int .i64 (s1.pos : Int)) := h1.blk.cell 1
    have H1 := Lib.hid (fun k => h1.kept (below_drewN (Below.refl w1.heap.size w1) k))
    have F1 := Lib.hid f1
    clear h1 f1
    go_wp2
    go_quiet (fail)
    go_wp2_with fail
    go_at_call 116; (with_reducible refine (HF.out ▸ rd_broken (H1.out _)).mono ?_); rintro e w3 ⟨rfl, hb⟩
    have H3 := Lib.hid ((H1.out _).kept hb)
    have F3 := Lib.hid (F1.out.trans (RdFr.of_below ((below_drewN (Below.refl _ _) _).trans hb)))
    clear hb
    go_wp2
    go_ret
    rw [HT.out, HE.out]
    exact ⟨rfl, _, H3.out, F3.out⟩
end
end Go.Proofs.YtglbdbghcdoicaaGreatDoor
