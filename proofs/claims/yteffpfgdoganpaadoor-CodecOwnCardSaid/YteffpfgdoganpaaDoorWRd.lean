/- The Reader, whatever its fault: the pure reader; sevens follows it. -/
import Derived.Test.YteffpfgdoganpaaDoorWNumber
namespace Go.Proofs.YteffpfgdoganpaaDoor
open Go.RowKit

inductive SevO where
  | ok (n k : Nat)
  | cut
  | form
/-- The number that begins there, byte after byte. -/
def sevGo (xs : List Int) (first most last : Nat) : Nat → Nat → Nat → SevO
  | 0, _, _ => .form
  | f + 1, i, N =>
    if first + i = xs.length then .cut
    else if (i = most - 1 ∧ last < (xs.getD (first + i) 0).toNat) ∨ (0 < i ∧ (xs.getD (first + i) 0).toNat = 0) then .form
    else if (xs.getD (first + i) 0).toNat < 128 then .ok (N + (xs.getD (first + i) 0).toNat * 128 ^ i) (first + i + 1)
    else sevGo xs first most last f (i + 1) (N + ((xs.getD (first + i) 0).toNat - 128) * 128 ^ i)
def sevAll (xs : List Int) (first most last : Nat) : SevO := sevGo xs first most last most 0 0

structure SevI (xs : List Int) (first most last i N : Nat) : Prop where
  lt : N < 128 ^ i
  le : first + i ≤ xs.length
  eq : sevGo xs first most last (most - i) i N = sevAll xs first most last
theorem SevI.start (xs : List Int) (first most last : Nat) (h : first ≤ xs.length) : SevI xs first most last 0 0 := ⟨by simp, by omega, rfl⟩
theorem getD_int {xs : List Int} {j c : Nat} (hlt : j < xs.length) (hc : xs[j] = (c : Int)) : (xs.getD j 0).toNat = c := by
  rw [List.getD_eq_getElem?_getD, List.getElem?_eq_getElem hlt, Option.getD_some, hc]; rfl
section
variable {xs : List Int} {first most last i N c : Nat}
theorem SevI.open_ (h : SevI xs first most last i N) (hi : i < most) : sevAll xs first most last = sevGo xs first most last (most - i - 1 + 1) i N := by
  rw [← h.eq, show most - i - 1 + 1 = most - i by omega]
theorem SevI.cut (h : SevI xs first most last i N) (hi : i < most) (he : first + i = xs.length) : sevAll xs first most last = .cut := by
  rw [h.open_ hi, sevGo, if_pos he]
theorem SevI.form (h : SevI xs first most last i N) (hi : i < most) (hlt : first + i < xs.length) (hc : xs[first + i] = (c : Int)) (hb : (i = most - 1 ∧ last < c) ∨ (0 < i ∧ c = 0)) : sevAll xs first most last = .form := by
  rw [h.open_ hi, sevGo, if_neg (by omega), getD_int hlt hc, if_pos hb]
theorem SevI.done (h : SevI xs first most last i N) (hi : i = most) : sevAll xs first most last = .form := by
  rw [← h.eq, hi, Nat.sub_self, sevGo]
theorem SevI.fin (h : SevI xs first most last i N) (hi : i < most) (hlt : first + i < xs.length) (hc : xs[first + i] = (c : Int)) (hb : ¬ ((i = most - 1 ∧ last < c) ∨ (0 < i ∧ c = 0))) (h1 : c < 128) : sevAll xs first most last = .ok (N + c * 128 ^ i) (first + i + 1) := by
  rw [h.open_ hi, sevGo, if_neg (by omega), getD_int hlt hc, if_neg hb, if_pos h1]
theorem SevI.next (h : SevI xs first most last i N) (hi : i < most) (hlt : first + i < xs.length) (hc : xs[first + i] = (c : Int)) (hb : ¬ ((i = most - 1 ∧ last < c) ∨ (0 < i ∧ c = 0))) (h1 : 128 ≤ c) (h256 : c < 256) : SevI xs first most last (i + 1) (N + (c - 128) * 128 ^ i) := by
  refine ⟨?_, by omega, ?_⟩
  · rw [Nat.pow_succ]
    have := Nat.mul_le_mul_right (128 ^ i) (show c - 128 ≤ 127 by omega)
    have := h.lt
    omega
  · rw [h.open_ hi, sevGo, if_neg (by omega), getD_int hlt hc, if_neg hb, if_neg (by omega), show most - (i + 1) = most - i - 1 by omega]
theorem SevI.orLast (h : SevI xs first most last i N) (hi : i < most) (hm : most ≤ 10) (hml : most = 10 → last = 1) (h1 : c < 128) (hb : ¬ ((i = most - 1 ∧ last < c) ∨ (0 < i ∧ c = 0))) :
    ∃ M : Nat, bits .or .u64 (N : Int) (IntKind.u64.wrap ((c : Int) % 128 * 2 ^ (7 * i))) = (M : Int) ∧ M = N + c * 128 ^ i ∧ M < 128 ^ (i + 1) ∧ M < 18446744073709551616 := by
  have hP := pow_le i (by omega)
  have hx : c * 128 ^ i ≤ 9223372036854775808 := by
    by_cases h9 : i = 9
    · have hc1 : c ≤ 1 := by have := hml (by omega); omega
      have := Nat.mul_le_mul_right (128 ^ i) hc1
      omega
    · have h1 : 128 ^ i ≤ 72057594037927936 := Nat.le_trans (Nat.pow_le_pow_right (by omega) (show i ≤ 8 by omega)) (by decide)
      have := Nat.mul_le_mul (show c ≤ 127 by omega) h1
      omega
  have hN := h.lt
  refine ⟨N + c * 128 ^ i, ?_, rfl, ?_, by omega⟩
  · rw [show (c : Int) % 128 = (c : Int) by omega]
    exact or_seven N c i hN (by omega) hP
  · rw [Nat.pow_succ]
    have := Nat.mul_le_mul_right (128 ^ i) (show c ≤ 127 by omega)
    omega
theorem SevI.orNext (h : SevI xs first most last i N) (hi : i ≤ 8) (h1 : 128 ≤ c) (h256 : c < 256) :
    ∃ M : Nat, bits .or .u64 (N : Int) (IntKind.u64.wrap ((c : Int) % 128 * 2 ^ (7 * i))) = (M : Int) ∧ M = N + (c - 128) * 128 ^ i := by
  have h2 : 128 ^ i ≤ 72057594037927936 := Nat.le_trans (Nat.pow_le_pow_right (by omega) hi) (by decide)
  have hx := Nat.mul_le_mul (show c - 128 ≤ 127 by omega) h2
  refine ⟨N + (c - 128) * 128 ^ i, ?_, rfl⟩
  rw [show (c : Int) % 128 = ((c - 128 : Nat) : Int) by omega]
  exact or_seven N (c - 128) i h.lt (by omega) (by omega)
end
/-- What a number that is read without a fault is. -/
theorem sevGo_ok {xs : List Int} {first most last : Nat} : ∀ (f i N n k : Nat), sevGo xs first most last f i N = .ok n k → first + i ≤ xs.length → i + f ≤ most → first + i < k ∧ k ≤ xs.length ∧ k ≤ first + most
  | 0, i, N, n, k, h, _, _ => by rw [sevGo] at h; cases h
  | f + 1, i, N, n, k, h, hl, hm => by
    rw [sevGo] at h
    split at h
    · cases h
    · split at h
      · cases h
      · split at h
        · cases h; omega
        · have := sevGo_ok f (i + 1) _ n k h (by omega) (by omega); omega
theorem sevAll_ok {xs : List Int} {first most last n k : Nat} (h : sevAll xs first most last = .ok n k) (hl : first ≤ xs.length) : first < k ∧ k ≤ xs.length ∧ k ≤ first + most := by
  have := sevGo_ok most 0 0 n k h (by omega) (by omega); omega
theorem sevGo_lt {xs : List Int} {first most last : Nat} (hx : ∀ x ∈ xs, x < 256) : ∀ (f i N n k : Nat), sevGo xs first most last f i N = .ok n k → N < 128 ^ i → n < 128 ^ (k - first)
  | 0, i, N, n, k, h, _ => by rw [sevGo] at h; cases h
  | f + 1, i, N, n, k, h, hN => by
    rw [sevGo] at h
    split at h
    · cases h
    · have hc : (xs.getD (first + i) 0).toNat < 256 := by
        rw [List.getD_eq_getElem?_getD]
        by_cases hl : first + i < xs.length
        · rw [List.getElem?_eq_getElem hl]
          have := hx _ (List.getElem_mem hl)
          simp only [Option.getD_some]; omega
        · rw [List.getElem?_eq_none (by omega)]; simp
      generalize (xs.getD (first + i) 0).toNat = c at *
      split at h
      · cases h
      · split at h
        · cases h
          rw [show first + i + 1 - first = i + 1 by omega, Nat.pow_succ]
          have := Nat.mul_le_mul_right (128 ^ i) (show c ≤ 127 by omega)
          omega
        · refine sevGo_lt hx f (i + 1) _ n k h ?_
          rw [Nat.pow_succ]
          have := Nat.mul_le_mul_right (128 ^ i) (show c - 128 ≤ 127 by omega)
          omega
theorem sevAll_lt {xs : List Int} {first most last n k : Nat} (hx : ∀ x ∈ xs, x < 256) (h : sevAll xs first most last = .ok n k) : n < 128 ^ (k - first) := sevGo_lt hx most 0 0 n k h (by simp)

set_option maxRecDepth 100000 in
/-- Fail where there is no fault yet; where the fault lies. -/
theorem rd_fail_set (q : Nat) (v : Value) (at_ code pl : Int) (W : World) (hc : (code == 0) = false) (h : Blk W q 145 (RdC v at_ .nilIface)) :
    Calls Tryd.prog 60 #[.pointer (some ⟨q, 0, none⟩), .int .i64 code, .int .i64 pl] W fun e w' => e = .returned (.tuple #[]) ∧ ∃ g, W.heap.size ≤ g ∧ Blk w' q 145 (RdC v at_ (errV g)) ∧ Blk w' g 132 #[.int .i64 code, .int .i64 pl] ∧ Tur (· = q) W w' := by
  have H := Lib.hid h
  have hc2 : (code != 0) = true := by unfold bne; rw [hc]; rfl
  clear h
  go_enter Tryd.func60, Tryd.ntmps60
  go_wp2_with fail
  go_at_call 87; (with_reducible refine (r_broken_no q _ _ _ H.out).mono ?_); rintro e w1 ⟨rfl, hb⟩
  have K := Lib.hid (H.out.kept hb)
  have B := Lib.hid hb
  have f2 : w1.frozen? ⟨q, 2, none⟩ = false := K.out.frozen 2
  have p2 : w1.cell? ⟨q, 2, none⟩ = some .nilIface := K.out.cell 2
  have hlq := K.out.lt
  clear hb
  go_wp2
  go_end0
  refine ⟨rfl, w1.heap.size, B.out.size, ?_, ?_, ?_⟩
  · exact (K.out.set_ 2 _).alloc _
  · exact blk_last (by simp [World.setCell])
  · exact (Tur.setCell (S := (· = q)) (p := ⟨q, 2, none⟩) (Tur.of_below B.out) (.inl rfl) _).alloc _

/-- What sevens leaves, by the pure outcome. -/
def SevQ (W : World) (q : Nat) (v : Value) (xs : List Int) (first : Nat) (o : SevO) (e : Ending) (w' : World) : Prop :=
  match o with
  | .ok n k => e = .returned (.tuple #[.int .u64 (n : Int), .int .i64 (first : Int)]) ∧ Blk w' q 145 (RdC v (k : Int) .nilIface) ∧ Tur (· = q) W w'
  | .cut => e = .returned (.tuple #[.int .u64 0, .int .i64 (first : Int)]) ∧ ∃ g, W.heap.size ≤ g ∧ Blk w' q 145 (RdC v (first : Int) (errV g)) ∧ Blk w' g 132 #[.int .i64 11, .int .i64 (xs.length : Int)] ∧ Tur (· = q) W w'
  | .form => e = .returned (.tuple #[.int .u64 0, .int .i64 (first : Int)]) ∧ ∃ g, W.heap.size ≤ g ∧ Blk w' q 145 (RdC v (first : Int) (errV g)) ∧ Blk w' g 132 #[.int .i64 12, .int .i64 (first : Int)] ∧ Tur (· = q) W w'
section
variable {W w' : World} {q first : Nat} {v : Value} {xs : List Int} {o : SevO} {e : Ending}
theorem SevQ.mkOk {n k : Nat} (h : o = .ok n k) (he : e = .returned (.tuple #[.int .u64 (n : Int), .int .i64 (first : Int)])) (h1 : Blk w' q 145 (RdC v (k : Int) .nilIface)) (h2 : Tur (· = q) W w') : SevQ W q v xs first o e w' := by
  subst h; exact ⟨he, h1, h2⟩
theorem SevQ.mkCut (h : o = .cut) {m : Nat} (hm : xs.length = m) (he : e = .returned (.tuple #[.int .u64 0, .int .i64 (first : Int)])) (h1 : ∃ g, W.heap.size ≤ g ∧ Blk w' q 145 (RdC v (first : Int) (errV g)) ∧ Blk w' g 132 #[.int .i64 11, .int .i64 (m : Int)] ∧ Tur (· = q) W w') : SevQ W q v xs first o e w' := by
  subst h; subst hm; exact ⟨he, h1⟩
theorem SevQ.mkForm (h : o = .form) (he : e = .returned (.tuple #[.int .u64 0, .int .i64 (first : Int)])) (h1 : ∃ g, W.heap.size ≤ g ∧ Blk w' q 145 (RdC v (first : Int) (errV g)) ∧ Blk w' g 132 #[.int .i64 12, .int .i64 (first : Int)] ∧ Tur (· = q) W w') : SevQ W q v xs first o e w' := by
  subst h; exact ⟨he, h1⟩
end

set_option maxHeartbeats 2000000 in
set_option maxRecDepth 100000 in
theorem rd_sevens_no (q : Nat) (A : Option Addr) (n c : Nat) (xs : List Int) (first most last : Nat) (W : World) (h : Blk W q 145 (RdC (.slice A n c) (first : Int) .nilIface)) (hl : xs.length = n) (hx : CellsAt W A (bvs xs)) (hq : ∀ ad, A = some ad → ad.block ≠ q)
    (hw : ∀ x ∈ xs, (Lit.int .u8 x).wf = true) (hf : first ≤ n) (hn : n ≤ 211106232532992) (hm : 1 ≤ most ∧ most ≤ 10) (hla : last ≤ 127) (hml : most = 10 → last = 1) :
    Calls Tryd.prog 90 #[.pointer (some ⟨q, 0, none⟩), .int .i64 (most : Int), .int .u8 (last : Int)] W (SevQ W q (.slice A n c) xs first (sevAll xs first most last)) := by
  have H := Lib.hid h
  have HL := Lib.hid hl
  have HX := Lib.hid hx
  have HQ := Lib.hid hq
  have HW := Lib.hid hw
  have HN := Lib.hid hn
  have p1 : W.cell? ⟨q, 1, none⟩ = some (.int .i64 (first : Int)) := h.cell 1
  have hm1 := hm.1
  have hm2 := hm.2
  have hfn : (first : Int) ≤ 211106232532992 := by omega
  clear h hl hx hq hw hn hm
  go_enter Tryd.func90, Tryd.ntmps90
  go_wp2_with fail
  go_at_call 87; (with_reducible refine (r_broken_no q _ _ _ H.out).mono ?_); rintro e w1 ⟨rfl, hb⟩
  have K := Lib.hid (H.out.kept hb)
  have B := Lib.hid hb
  have HX1 := Lib.hid (HX.out.below hb)
  have p0 : w1.cell? ⟨q, 0, none⟩ = some (.slice A n c) := K.out.cell 0
  clear hb p1
  go_wp2
  go_loop [6, 7, 18] (fun t6 t7 t18 => ∃ i N : Nat, i ≤ most ∧ t6 = .int .u64 (N : Int) ∧ t7 = .int .i64 (first : Int) ∧ t18 = .int .i64 (i : Int) ∧ Hid (SevI xs first most last i N)) (fun _ _ t18 => most - (intOf t18).toNat)
  case atStart => exact ⟨0, 0, Nat.zero_le _, rfl, rfl, rfl, Lib.hid (SevI.start xs first most last (by rw [HL.out]; exact hf))⟩
  case round =>
    obtain ⟨i, N, hi, rfl, rfl, rfl, HP⟩ := hrel
    by_cases him : i < most
    · by_cases hend : first + i = n
      · have hfe : ((first : Int) + (i : Int) == (n : Int)) = true := by simp; omega
        go_wp2_with fail
        go_at_call 60; (with_reducible refine (rd_fail_set q _ _ 11 (n : Int) _ (by decide) K.out).mono ?_); rintro e w2 ⟨rfl, g, hg0, hk, hg, ht⟩
        have HH := Lib.hid (show ∃ g, W.heap.size ≤ g ∧ Blk w2 q 145 (RdC _ (first : Int) (errV g)) ∧ Blk w2 g 132 #[.int .i64 11, .int .i64 (n : Int)] ∧ Tur (· = q) W w2 from ⟨g, Nat.le_trans B.out.size hg0, hk, hg, (Tur.of_below (S := (· = q)) B.out).trans ht (fun _ h => .inl h)⟩)
        clear hg0 hk hg ht
        go_wp2
        go_ret2
        exact SevQ.mkCut (HP.out.cut him (by rw [HL.out]; exact hend)) HL.out rfl HH.out
      · have hlt : first + i < n := by have := HP.out.le; rw [HL.out] at this; omega
        have hfe : ((first : Int) + (i : Int) == (n : Int)) = false := by simp; omega
        have hltx : first + i < xs.length := by rw [HL.out]; exact hlt
        obtain ⟨ad, rfl, hal, hcell⟩ := HX1.out (first + i) (by rw [bvs_len]; exact hltx)
        obtain ⟨cc, hcc, hc256⟩ : ∃ cc : Nat, xs[first + i] = (cc : Int) ∧ cc < 256 := by
          have hb := bounds_u8 (HW.out xs[first + i] (List.getElem_mem _))
          exact ⟨xs[first + i].toNat, by omega, by omega⟩
        have hcr : w1.cell? (ad.add (first + i)) = some (.int .u8 (cc : Int)) := by rw [hcell]; simp [bvs, hcc]
        have ha := and127 cc hc256
        have HCC := Lib.hid hcc
        have q1 : w1.cell? ⟨q, 1, none⟩ = some (.int .i64 (first : Int)) := K.out.cell 1
        have qf : w1.frozen? ⟨q, 1, none⟩ = false := K.out.frozen 1
        clear hcell hcc hal
        by_cases hbad : 0 < i ∧ cc = 0
        · obtain ⟨hi0, rfl⟩ := hbad
          have z1 : decide ((last : Int) < 0) = false := by simp
          by_cases he : i = most - 1
          · have e1 : ((i : Int) == (most : Int) - 1) = true := by simp; omega
            clear he
            go_wp2_with fail
            go_at_call 60; (with_reducible refine (rd_fail_set q _ _ 12 (first : Int) _ (by decide) K.out).mono ?_); rintro e w2 ⟨rfl, g, hg0, hk, hg, ht⟩
            have HH := Lib.hid (show ∃ g, W.heap.size ≤ g ∧ Blk w2 q 145 (RdC _ (first : Int) (errV g)) ∧ Blk w2 g 132 #[.int .i64 12, .int .i64 (first : Int)] ∧ Tur (· = q) W w2 from ⟨g, Nat.le_trans B.out.size hg0, hk, hg, (Tur.of_below (S := (· = q)) B.out).trans ht (fun _ h => .inl h)⟩)
            clear hg0 hk hg ht
            go_wp2
            go_ret2
            exact SevQ.mkForm (HP.out.form him hltx HCC.out (.inr ⟨hi0, rfl⟩)) rfl HH.out
          · have e1 : ((i : Int) == (most : Int) - 1) = false := by simp; omega
            clear he
            go_wp2_with fail
            go_at_call 60; (with_reducible refine (rd_fail_set q _ _ 12 (first : Int) _ (by decide) K.out).mono ?_); rintro e w2 ⟨rfl, g, hg0, hk, hg, ht⟩
            have HH := Lib.hid (show ∃ g, W.heap.size ≤ g ∧ Blk w2 q 145 (RdC _ (first : Int) (errV g)) ∧ Blk w2 g 132 #[.int .i64 12, .int .i64 (first : Int)] ∧ Tur (· = q) W w2 from ⟨g, Nat.le_trans B.out.size hg0, hk, hg, (Tur.of_below (S := (· = q)) B.out).trans ht (fun _ h => .inl h)⟩)
            clear hg0 hk hg ht
            go_wp2
            go_ret2
            exact SevQ.mkForm (HP.out.form him hltx HCC.out (.inr ⟨hi0, rfl⟩)) rfl HH.out
        · have HNB := Lib.hid (show i = 0 ∨ 0 < cc by omega)
          by_cases he : i = most - 1
          · have HE := Lib.hid he
            have e1 : ((i : Int) == (most : Int) - 1) = true := by simp; omega
            by_cases hl : last < cc
            · have z1 : decide ((last : Int) < (cc : Int)) = true := by simp; omega
              clear he hbad
              go_wp2_with fail
              go_at_call 60; (with_reducible refine (rd_fail_set q _ _ 12 (first : Int) _ (by decide) K.out).mono ?_); rintro e w2 ⟨rfl, g, hg0, hk, hg, ht⟩
              have HH := Lib.hid (show ∃ g, W.heap.size ≤ g ∧ Blk w2 q 145 (RdC _ (first : Int) (errV g)) ∧ Blk w2 g 132 #[.int .i64 12, .int .i64 (first : Int)] ∧ Tur (· = q) W w2 from ⟨g, Nat.le_trans B.out.size hg0, hk, hg, (Tur.of_below (S := (· = q)) B.out).trans ht (fun _ h => .inl h)⟩)
              clear hg0 hk hg ht
              go_wp2
              go_ret2
              exact SevQ.mkForm (HP.out.form him hltx HCC.out (.inl ⟨HE.out, hl⟩)) rfl HH.out
            · have z1 : decide ((last : Int) < (cc : Int)) = false := by simp; omega
              have hc1 : cc < 128 := by omega
              have HBB := Lib.hid (show ¬ ((i = most - 1 ∧ last < cc) ∨ (0 < i ∧ cc = 0)) by have := HNB.out; omega)
              obtain ⟨M, hor, hM⟩ := HP.out.orLast him hm2 hml hc1 HBB.out
              have HM := Lib.hid hM
              have h7 : decide ((cc : Int) < 128) = true := by simp; omega
              clear hM he
              by_cases hi0 : 0 < i
              · have z0 : ((cc : Int) == 0) = false := by simp; omega
                clear hbad
                go_wp2
                go_ret2
                exact SevQ.mkOk (n := M) (by rw [HM.out.1]; exact HP.out.fin him hltx HCC.out HBB.out hc1) rfl (by rw [show ((first + i + 1 : Nat) : Int) = (first : Int) + (i : Int) + 1 by omega]; exact K.out.set_ 1 _) (Tur.setCell (S := (· = q)) (p := ⟨q, 1, none⟩) (Tur.of_below B.out) (.inl rfl) _)
              · have hi1 : i = 0 := by omega
                have HI := Lib.hid hi1
                have hi2 : decide ((0 : Int) < (i : Int)) = false := by simp; omega
                clear hbad hi1
                go_wp2
                go_ret2
                exact SevQ.mkOk (n := M) (by rw [HM.out.1]; exact HP.out.fin him hltx HCC.out HBB.out hc1) rfl (by rw [show ((first + i + 1 : Nat) : Int) = (first : Int) + (i : Int) + 1 by omega]; exact K.out.set_ 1 _) (Tur.setCell (S := (· = q)) (p := ⟨q, 1, none⟩) (Tur.of_below B.out) (.inl rfl) _)
          · have e1 : ((i : Int) == (most : Int) - 1) = false := by simp; omega
            by_cases hc1 : cc < 128
            · have HBB := Lib.hid (show ¬ ((i = most - 1 ∧ last < cc) ∨ (0 < i ∧ cc = 0)) by have := HNB.out; omega)
              obtain ⟨M, hor, hM⟩ := HP.out.orLast him hm2 hml hc1 HBB.out
              have HM := Lib.hid hM
              have h7 : decide ((cc : Int) < 128) = true := by simp; omega
              clear hM he
              by_cases hi0 : 0 < i
              · have z0 : ((cc : Int) == 0) = false := by simp; omega
                clear hbad
                go_wp2
                go_ret2
                exact SevQ.mkOk (n := M) (by rw [HM.out.1]; exact HP.out.fin him hltx HCC.out HBB.out hc1) rfl (by rw [show ((first + i + 1 : Nat) : Int) = (first : Int) + (i : Int) + 1 by omega]; exact K.out.set_ 1 _) (Tur.setCell (S := (· = q)) (p := ⟨q, 1, none⟩) (Tur.of_below B.out) (.inl rfl) _)
              · have hi1 : i = 0 := by omega
                have HI := Lib.hid hi1
                have hi2 : decide ((0 : Int) < (i : Int)) = false := by simp; omega
                clear hbad hi1
                go_wp2
                go_ret2
                exact SevQ.mkOk (n := M) (by rw [HM.out.1]; exact HP.out.fin him hltx HCC.out HBB.out hc1) rfl (by rw [show ((first + i + 1 : Nat) : Int) = (first : Int) + (i : Int) + 1 by omega]; exact K.out.set_ 1 _) (Tur.setCell (S := (· = q)) (p := ⟨q, 1, none⟩) (Tur.of_below B.out) (.inl rfl) _)
            · have HBB := Lib.hid (show ¬ ((i = most - 1 ∧ last < cc) ∨ (0 < i ∧ cc = 0)) by have := HNB.out; omega)
              obtain ⟨M, hor, hM⟩ := HP.out.orNext (by omega) (by omega) hc256
              have HNX := Lib.hid (hM ▸ HP.out.next him hltx HCC.out HBB.out (by omega) hc256)
              have HM := Lib.hid hM
              have h7 : decide ((cc : Int) < 128) = false := by simp; omega
              have z0 : ((cc : Int) == 0) = false := by simp; omega
              clear hM he
              go_wp2
              all_goals
                go_round
                case rel => exact ⟨i + 1, M, by omega, rfl, rfl, by go_num, HNX⟩
                case measure => simp [intOf]; omega
    · go_wp2_with fail
      go_at_call 60; (with_reducible refine (rd_fail_set q _ _ 12 (first : Int) _ (by decide) K.out).mono ?_); rintro e w2 ⟨rfl, g, hg0, hk, hg, ht⟩
      have HH := Lib.hid (show ∃ g, W.heap.size ≤ g ∧ Blk w2 q 145 (RdC _ (first : Int) (errV g)) ∧ Blk w2 g 132 #[.int .i64 12, .int .i64 (first : Int)] ∧ Tur (· = q) W w2 from ⟨g, Nat.le_trans B.out.size hg0, hk, hg, (Tur.of_below (S := (· = q)) B.out).trans ht (fun _ h => .inl h)⟩)
      clear hg0 hk hg ht
      go_wp2
      go_ret2
      exact SevQ.mkForm (HP.out.done (by omega)) rfl HH.out
end Go.Proofs.YteffpfgdoganpaaDoor
