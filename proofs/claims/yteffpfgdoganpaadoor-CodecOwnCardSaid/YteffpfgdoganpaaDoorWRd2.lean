/- The Reader's methods, whatever the fault, by the pure reader. -/
import Derived.Test.YteffpfgdoganpaaDoorWRd
namespace Go.Proofs.YteffpfgdoganpaaDoor
open Go.RowKit

/-- Where a Reader stands, and its fault: the code and its place. -/
structure RS where
  pos : Nat
  fault : Option (Int × Int)
def RS.fail (s : RS) (e p : Int) : RS :=
  match s.fault with
  | some _ => s
  | none => if e = 0 then s else ⟨s.pos, some (e, p)⟩
def sevP (xs : List Int) (most last : Nat) (s : RS) : Nat × RS :=
  match s.fault with
  | some _ => (0, s)
  | none => match sevAll xs s.pos most last with
    | .ok n k => (n, ⟨k, none⟩)
    | .cut => (0, ⟨s.pos, some (11, (xs.length : Int))⟩)
    | .form => (0, ⟨s.pos, some (12, (s.pos : Int))⟩)
def numS (most : Int) (pos : Nat) (r : Nat × RS) : RS := if most < 0 ∨ most < (r.1 : Int) then r.2.fail 16 (pos : Int) else r.2
def numP (xs : List Int) (most : Int) (s : RS) : Nat × RS :=
  (if (numS most s.pos (sevP xs 9 127 s)).fault.isSome then 0 else (sevP xs 9 127 s).1, numS most s.pos (sevP xs 9 127 s))
def intP (xs : List Int) (s : RS) : Int × RS :=
  (if (sevP xs 10 1 s).2.fault.isSome then 0 else unzz (sevP xs 10 1 s).1, (sevP xs 10 1 s).2)
def textQ (xs : List Int) (r : Nat × RS) : List Int × RS :=
  match r.2.fault with
  | some _ => ([], r.2)
  | none => if xs.length - r.2.pos < r.1 then ([], ⟨r.2.pos, some (11, (xs.length : Int))⟩) else ((xs.drop r.2.pos).take r.1, ⟨r.2.pos + r.1, none⟩)
def textP (xs : List Int) (most : Int) (s : RS) : List Int × RS := textQ xs (numP xs most s)
def endP (xs : List Int) (s : RS) : RS := if s.pos < xs.length then s.fail 13 (s.pos : Int) else s
def leftP (xs : List Int) (s : RS) : Nat := if s.fault.isSome then 0 else xs.length - s.pos

section
variable {xs : List Int} {s s1 : RS} {most last m : Nat}
theorem fail_pos (s : RS) (e p : Int) : (s.fail e p).pos = s.pos := by
  unfold RS.fail; split
  · rfl
  · split <;> rfl
theorem fail_some (s : RS) {e p : Int} (h : e ≠ 0) : (s.fail e p).fault.isSome = true := by
  unfold RS.fail; split
  · rename_i h; rw [h]; rfl
  · rw [if_neg h]; rfl
theorem sevP_pos (h : s.pos ≤ xs.length) (hr : sevP xs most last s = (m, s1)) : s1.pos ≤ xs.length := by
  unfold sevP at hr
  split at hr
  · cases hr; exact h
  · split at hr
    · rename_i h1; cases hr; exact (sevAll_ok h1 h).2.1
    · cases hr; exact h
    · cases hr; exact h
theorem sevP_lt (h : s.pos ≤ xs.length) (hx : ∀ x ∈ xs, x < 256) (hr : sevP xs 9 last s = (m, s1)) : (m : Int) ≤ 9223372036854775807 := by
  unfold sevP at hr
  split at hr
  · cases hr; omega
  · split at hr
    · rename_i n1 k1 h1
      cases hr
      have h2 := sevAll_lt hx h1
      have h3 := sevAll_ok h1 h
      have := Nat.pow_le_pow_right (show 0 < 128 by omega) (show k1 - s.pos ≤ 9 by omega)
      omega
    · cases hr; omega
    · cases hr; omega
end

theorem blockAdd (ad : Addr) (k : Nat) : (ad.add k).block = ad.block := by cases k <;> rfl
theorem CellsAt.tur {W W1 : World} {A : Option Addr} {us : List Value} {S : Nat → Prop} (h : CellsAt W A us) (ht : Tur S W W1) (hS : ∀ ad, A = some ad → ¬ S ad.block) : CellsAt W1 A us := fun k hk => by
  obtain ⟨ad, e, h1, h2⟩ := h k hk
  refine ⟨ad, e, Nat.lt_of_lt_of_le h1 ht.size, ?_⟩
  have hb := ht.block (ad.add k).block (by rw [blockAdd]; exact h1) (by rw [blockAdd]; exact hS ad e)
  rw [← h2]
  simp only [World.cell?, hb]

/-- The program's Reader at a state of the pure one. -/
structure RdIs (W : World) (q : Nat) (A : Option Addr) (n c : Nat) (xs : List Int) (s : RS) (fv : Value) : Prop where
  blk : Blk W q 145 (RdC (.slice A n c) (s.pos : Int) fv)
  no : s.fault = none → fv = .nilIface
  yes : ∀ e p, s.fault = some (e, p) → ∃ g, fv = errV g ∧ Blk W g 132 #[.int .i64 e, .int .i64 p]
  len : xs.length = n
  cells : CellsAt W A (bvs xs)
  apart : ∀ ad, A = some ad → ad.block ≠ q
  wf : ∀ x ∈ xs, (Lit.int .u8 x).wf = true
  pos : s.pos ≤ n
  cap : n ≤ c
  big : n ≤ 211106232532992
  ty : W.cell? ⟨0, 0, none⟩ = some tyErr
  q0 : 0 < q
/-- What an operation on a Reader turns; where its fault comes from. -/
def RdFr (W : World) (q : Nat) (fv : Value) (W' : World) (fv' : Value) : Prop := Tur (· = q) W W' ∧ (fv' = fv ∨ ∃ g, fv' = errV g ∧ W.heap.size ≤ g)
section
variable {W W1 W2 : World} {q n c : Nat} {A : Option Addr} {xs : List Int} {s s1 : RS} {fv fv1 fv2 : Value}
theorem RdFr.refl (W : World) (q : Nat) (fv : Value) : RdFr W q fv W fv := ⟨Tur.refl _ _, .inl rfl⟩
theorem RdFr.trans (h : RdFr W q fv W1 fv1) (h' : RdFr W1 q fv1 W2 fv2) : RdFr W q fv W2 fv2 := by
  refine ⟨h.1.trans h'.1 (fun _ h => .inl h), ?_⟩
  rcases h'.2 with e | ⟨g, e, hg⟩
  · rw [e]; exact h.2
  · exact .inr ⟨g, e, Nat.le_trans h.1.size hg⟩
theorem RdFr.of_below (hb : Below W.heap.size W W1) : RdFr W q fv W1 fv := ⟨Tur.of_below hb, .inl rfl⟩
theorem RdIs.lt256 (h : RdIs W q A n c xs s fv) : ∀ x ∈ xs, x < 256 := fun x hx => by have := bounds_u8 (h.wf x hx); omega
theorem RdIs.posL (h : RdIs W q A n c xs s fv) : s.pos ≤ xs.length := by rw [h.len]; exact h.pos
theorem RdIs.tur {S : Nat → Prop} (h : RdIs W q A n c xs s fv) (ht : Tur S W W1) (h1 : ¬ S q) (h2 : ∀ ad, A = some ad → ¬ S ad.block) (h3 : ∀ g, fv = errV g → ¬ S g) (h4 : ¬ S 0) : RdIs W1 q A n c xs s fv := by
  refine ⟨h.blk.tur ht h1, h.no, fun e p hs => ?_, h.len, h.cells.tur ht h2, h.apart, h.wf, h.pos, h.cap, h.big, ?_, h.q0⟩
  · obtain ⟨g, e1, hg⟩ := h.yes e p hs
    exact ⟨g, e1, hg.tur ht (h3 g e1)⟩
  · have hb := ht.block 0 (World.block_lt_of_cell? W _ h.ty) h4
    rw [← h.ty]
    simp only [World.cell?, hb]
theorem RdIs.kept (h : RdIs W q A n c xs s fv) (hb : Below W.heap.size W W1) : RdIs W1 q A n c xs s fv :=
  h.tur (Tur.of_below (S := fun _ => False) hb) (fun h => h) (fun _ _ h => h) (fun _ _ h => h) (fun h => h)
theorem RdIs.put (h : RdIs W q A n c xs s fv) (ht : Tur (· = q) W W1) (hb : Blk W1 q 145 (RdC (.slice A n c) (s1.pos : Int) fv1)) (hp : s1.pos ≤ n)
    (no : s1.fault = none → fv1 = .nilIface) (yes : ∀ e p, s1.fault = some (e, p) → ∃ g, fv1 = errV g ∧ Blk W1 g 132 #[.int .i64 e, .int .i64 p]) : RdIs W1 q A n c xs s1 fv1 :=
  ⟨hb, no, yes, h.len, h.cells.tur ht h.apart, h.apart, h.wf, hp, h.cap, h.big, hT_tur h.ty ht h.q0, h.q0⟩
end
/-- What a method of a Reader leaves. -/
def RdQ (W : World) (q : Nat) (A : Option Addr) (n c : Nat) (xs : List Int) (fv : Value) (ret : Value) (s' : RS) (e : Ending) (w' : World) : Prop :=
  e = .returned ret ∧ ∃ fv', RdIs w' q A n c xs s' fv' ∧ RdFr W q fv w' fv'

set_option maxRecDepth 100000 in
theorem rd_read (A : Option Addr) (n c : Nat) (xs : List Int) (W : World) (hl : xs.length = n) (h : CellsAt W A (bvs xs)) (hw : ∀ x ∈ xs, (Lit.int .u8 x).wf = true) (hn : n ≤ 211106232532992) (hT : W.cell? ⟨0, 0, none⟩ = some tyErr) :
    Calls Tryd.prog 57 #[.slice A n c] W fun e w' => ∃ q A' c', e = .returned (.pointer (some ⟨q, 0, none⟩)) ∧ W.heap.size ≤ q ∧ RdIs w' q A' n c' xs ⟨0, none⟩ .nilIface ∧ (∀ ad, A' = some ad → W.heap.size ≤ ad.block ∧ ad.block < w'.heap.size) ∧ Below W.heap.size W w' := by
  have C := Lib.hid (clone_wide A n c xs W hl h hn)
  have HH := Lib.hid (And.intro hl (And.intro hw (And.intro hn hT)))
  clear hl h hn hw hT
  go_enter Tryd.func57, Tryd.ntmps57
  go_wp2_with fail
  go_at_call 76; (with_reducible refine C.out.mono ?_); rintro e w1 ⟨v', rfl, hown, hb⟩
  obtain ⟨A', c', rfl, hr, hc⟩ := row_of_own hown
  have HR := Lib.hid hr
  have B := Lib.hid hb
  have HC := Lib.hid hc
  clear hown hr hb hc
  go_wp2
  go_ret
  have hlt : ∀ ad, A' = some ad → W.heap.size ≤ ad.block ∧ ad.block < w1.heap.size := by
    rintro ad rfl
    rcases HR.out with ⟨h, _⟩ | ⟨g, cur, h, h1, hg, _⟩
    · cases h
    · cases h; exact ⟨h1, hg.lt⟩
  have hty : w1.cell? ⟨0, 0, none⟩ = some tyErr := (B.out.cell (p := ⟨0, 0, none⟩) (World.block_lt_of_cell? W _ HH.out.2.2.2)).trans HH.out.2.2.2
  refine ⟨w1.heap.size, A', c', rfl, B.out.size, ⟨Blk.new _ _ _, fun _ => rfl, (fun _ _ h => by cases h), HH.out.1, (HR.out.kept ((Below.refl _ _).alloc (Nat.le_refl _) _)).cells, fun ad h => Nat.ne_of_lt (hlt ad h).2, HH.out.2.1, Nat.zero_le _, HC.out, HH.out.2.2.1, tyErr_alloc hty _, ?_⟩, fun ad h => ⟨(hlt ad h).1, by have := (hlt ad h).2; simp; omega⟩, B.out.alloc B.out.size _⟩
  exact World.block_lt_of_cell? w1 _ hty

section
variable {q n c : Nat} {A : Option Addr} {xs : List Int} {s : RS} {fv : Value} {W : World}
theorem rd_broken (h : RdIs W q A n c xs s fv) :
    Calls Tryd.prog 87 #[.pointer (some ⟨q, 0, none⟩)] W fun e w' => e = .returned (.bool s.fault.isSome) ∧ Below W.heap.size W w' := by
  rcases hf : s.fault with _ | ⟨e, p⟩
  · obtain rfl := h.no hf
    exact r_broken_no q _ _ W h.blk
  · obtain ⟨g, rfl, hg⟩ := h.yes e p hf
    exact r_broken_yes q g _ _ W h.ty h.blk
set_option maxRecDepth 100000 in
theorem rd_fail_ok (pl : Int) (hc : Calls Tryd.prog 87 #[.pointer (some ⟨q, 0, none⟩)] W fun e w' => e = .returned (.bool false) ∧ Below W.heap.size W w') :
    Calls Tryd.prog 60 #[.pointer (some ⟨q, 0, none⟩), .int .i64 0, .int .i64 pl] W fun e w' => e = .returned (.tuple #[]) ∧ Below W.heap.size W w' := by
  have C := Lib.hid hc
  clear hc
  go_enter Tryd.func60, Tryd.ntmps60
  go_wp2_with fail
  go_at_call 87; (with_reducible refine C.out.mono ?_); rintro e w1 ⟨rfl, hb⟩
  go_wp2
  go_end0
  exact ⟨rfl, hb⟩
theorem rd_fail (h : RdIs W q A n c xs s fv) (code pl : Int) :
    Calls Tryd.prog 60 #[.pointer (some ⟨q, 0, none⟩), .int .i64 code, .int .i64 pl] W (RdQ W q A n c xs fv (.tuple #[]) (s.fail code pl)) := by
  rcases hf : s.fault with _ | ⟨e, p⟩
  · obtain rfl := h.no hf
    by_cases hc : code = 0
    · subst hc
      refine (rd_fail_ok pl (r_broken_no q _ _ W h.blk)).mono ?_
      rintro e w' ⟨rfl, hb⟩
      have e1 : s.fail 0 pl = s := by unfold RS.fail; rw [hf]; rfl
      rw [e1]
      exact ⟨rfl, _, h.kept hb, RdFr.of_below hb⟩
    · refine (rd_fail_set q _ _ code pl W (by simpa using hc) h.blk).mono ?_
      rintro e w' ⟨rfl, g, hg, hb, hg1, ht⟩
      have e1 : s.fail code pl = ⟨s.pos, some (code, pl)⟩ := by unfold RS.fail; rw [hf]; simp only; rw [if_neg hc]
      rw [e1]
      exact ⟨rfl, errV g, h.put ht hb h.pos (fun h => by cases h) (fun e p he => by cases he; exact ⟨g, rfl, hg1⟩), ht, .inr ⟨g, rfl, hg⟩⟩
  · have e1 : s.fail code pl = s := by unfold RS.fail; rw [hf]
    rw [e1]
    obtain ⟨g, rfl, hg⟩ := h.yes e p hf
    refine (r_fail_keep q g _ _ code pl W h.ty h.blk).mono ?_
    rintro e w' ⟨rfl, hb⟩
    exact ⟨rfl, _, h.kept hb, RdFr.of_below hb⟩
set_option maxRecDepth 100000 in
theorem rd_sevens_yes (most last : Nat) (hf : s.fault.isSome = true) (h : RdIs W q A n c xs s fv) :
    Calls Tryd.prog 90 #[.pointer (some ⟨q, 0, none⟩), .int .i64 (most : Int), .int .u8 (last : Int)] W fun e w' => e = .returned (.tuple #[.int .u64 0, .int .i64 (s.pos : Int)]) ∧ Below W.heap.size W w' := by
  have H := Lib.hid h
  have p1 : W.cell? ⟨q, 1, none⟩ = some (.int .i64 (s.pos : Int)) := h.blk.cell 1
  have C := Lib.hid (hf ▸ rd_broken h)
  clear h hf
  go_enter Tryd.func90, Tryd.ntmps90
  go_wp2_with fail
  go_at_call 87; (with_reducible refine C.out.mono ?_); rintro e w1 ⟨rfl, hb⟩
  go_wp2
  go_ret2
  exact ⟨rfl, hb⟩
theorem rd_sevens (h : RdIs W q A n c xs s fv) {most last m : Nat} {s1 : RS} (hr : sevP xs most last s = (m, s1)) (hm : 1 ≤ most ∧ most ≤ 10) (hla : last ≤ 127) (hml : most = 10 → last = 1) :
    Calls Tryd.prog 90 #[.pointer (some ⟨q, 0, none⟩), .int .i64 (most : Int), .int .u8 (last : Int)] W (RdQ W q A n c xs fv (.tuple #[.int .u64 (m : Int), .int .i64 (s.pos : Int)]) s1) := by
  rcases hf : s.fault with _ | ⟨e, p⟩
  · obtain rfl := h.no hf
    refine (rd_sevens_no q A n c xs s.pos most last W h.blk h.len h.cells h.apart h.wf h.pos h.big hm hla hml).mono ?_
    intro e w' hq
    unfold sevP at hr
    rw [hf] at hr
    simp only at hr
    unfold SevQ at hq
    split at hr
    · rename_i h1
      rw [h1] at hq
      cases hr
      obtain ⟨rfl, hb, ht⟩ := hq
      exact ⟨rfl, _, h.put ht hb (by rw [← h.len]; exact (sevAll_ok h1 h.posL).2.1) (fun _ => rfl) (fun _ _ h => by cases h), ht, .inl rfl⟩
    · rename_i h1
      rw [h1] at hq
      cases hr
      obtain ⟨rfl, g, hg, hb, hg1, ht⟩ := hq
      exact ⟨rfl, errV g, h.put ht hb h.pos (fun h => by cases h) (fun e p he => by cases he; exact ⟨g, rfl, hg1⟩), ht, .inr ⟨g, rfl, hg⟩⟩
    · rename_i h1
      rw [h1] at hq
      cases hr
      obtain ⟨rfl, g, hg, hb, hg1, ht⟩ := hq
      exact ⟨rfl, errV g, h.put ht hb h.pos (fun h => by cases h) (fun e p he => by cases he; exact ⟨g, rfl, hg1⟩), ht, .inr ⟨g, rfl, hg⟩⟩
  · have : (m, s1) = (0, s) := by rw [← hr]; unfold sevP; rw [hf]
    cases this
    refine (rd_sevens_yes most last (by rw [hf]; rfl) h).mono ?_
    rintro e w' ⟨rfl, hb⟩
    exact ⟨rfl, _, h.kept hb, RdFr.of_below hb⟩
end

set_option maxHeartbeats 1000000 in
set_option maxRecDepth 100000 in
theorem rd_num {q n c : Nat} {A : Option Addr} {xs : List Int} {s : RS} {fv : Value} {W : World} (h : RdIs W q A n c xs s fv) (most : Int) (hmo : most ≤ 9223372036854775807) :
    Calls Tryd.prog 80 #[.pointer (some ⟨q, 0, none⟩), .int .i64 most] W (RdQ W q A n c xs fv (.int .i64 ((numP xs most s).1 : Int)) (numP xs most s).2) := by
  rcases hr : sevP xs 9 127 s with ⟨m, s1⟩
  have hm9 := sevP_lt h.posL h.lt256 hr
  have C := Lib.hid (show Calls Tryd.prog 90 #[.pointer (some ⟨q, 0, none⟩), .int .i64 9, .int .u8 127] W _ from rd_sevens (most := 9) (last := 127) h hr ⟨by omega, by omega⟩ (by omega) (by omega))
  have HP := Lib.hid (show ∀ s2, numS most s.pos (m, s1) = s2 → numP xs most s = (if s2.fault.isSome then 0 else m, s2) from fun s2 h => by unfold numP; rw [hr, h])
  have H0 := Lib.hid h
  clear h hr
  by_cases hlt : most < 0
  · have HS := Lib.hid (show numS most s.pos (m, s1) = s1.fail 16 (s.pos : Int) by unfold numS; rw [if_pos (.inl hlt)])
    have hd : decide (most < 0) = true := by simpa using hlt
    clear hlt
    go_enter Tryd.func80, Tryd.ntmps80
    go_wp2_with fail
    go_at_call 90; (with_reducible refine C.out.mono ?_); rintro e w1 ⟨rfl, fv1, h1, f1⟩
    have H1 := Lib.hid h1
    have F1 := Lib.hid f1
    clear h1 f1
    go_wp2_with fail
    go_at_call 60; (with_reducible refine (rd_fail H1.out 16 (s.pos : Int)).mono ?_); rintro e w2 ⟨rfl, fv2, h2, f2⟩
    have H2 := Lib.hid h2
    have F2 := Lib.hid (F1.out.trans f2)
    clear h2 f2
    go_wp2_with fail
    go_at_call 87; (with_reducible refine (fail_some s1 (e := 16) (p := (s.pos : Int)) (by decide) ▸ rd_broken H2.out).mono ?_); rintro e w3 ⟨rfl, hb⟩
    have H3 := Lib.hid (H2.out.kept hb)
    have F3 := Lib.hid (F2.out.trans (RdFr.of_below hb))
    clear hb
    go_wp2
    go_ret
    rw [HP.out _ HS.out, fail_some s1 (by decide)]
    exact ⟨rfl, _, H3.out, F3.out⟩
  · obtain ⟨mo, rfl⟩ : ∃ mo : Nat, most = (mo : Int) := ⟨most.toNat, by omega⟩
    have hd : decide ((mo : Int) < 0) = false := by simp
    clear hlt
    by_cases hmm : mo < m
    · have HS := Lib.hid (show numS (mo : Int) s.pos (m, s1) = s1.fail 16 (s.pos : Int) by unfold numS; rw [if_pos (.inr (by simp only; omega))])
      have hd2 : decide (mo < m) = true := by simpa using hmm
      have hd3 : decide ((mo : Int) < (m : Int)) = true := by simpa using hmm
      clear hmm
      go_enter Tryd.func80, Tryd.ntmps80
      go_wp2_with fail
      go_at_call 90; (with_reducible refine C.out.mono ?_); rintro e w1 ⟨rfl, fv1, h1, f1⟩
      have H1 := Lib.hid h1
      have F1 := Lib.hid f1
      clear h1 f1
      go_wp2_with fail
      go_at_call 60; (with_reducible refine (rd_fail H1.out 16 (s.pos : Int)).mono ?_); rintro e w2 ⟨rfl, fv2, h2, f2⟩
      have H2 := Lib.hid h2
      have F2 := Lib.hid (F1.out.trans f2)
      clear h2 f2
      go_wp2_with fail
      go_at_call 87; (with_reducible refine (fail_some s1 (e := 16) (p := (s.pos : Int)) (by decide) ▸ rd_broken H2.out).mono ?_); rintro e w3 ⟨rfl, hb⟩
      have H3 := Lib.hid (H2.out.kept hb)
      have F3 := Lib.hid (F2.out.trans (RdFr.of_below hb))
      clear hb
      go_wp2
      go_ret
      rw [HP.out _ HS.out, fail_some s1 (by decide)]
      exact ⟨rfl, _, H3.out, F3.out⟩
    · have HS := Lib.hid (show numS (mo : Int) s.pos (m, s1) = s1 by unfold numS; rw [if_neg (by simp only; omega)])
      have hd2 : decide (mo < m) = false := by simpa using hmm
      have hd3 : decide ((mo : Int) < (m : Int)) = false := by simpa using hmm
      clear hmm
      go_enter Tryd.func80, Tryd.ntmps80
      go_wp2_with fail
      go_at_call 90; (with_reducible refine C.out.mono ?_); rintro e w1 ⟨rfl, fv1, h1, f1⟩
      have H1 := Lib.hid h1
      have F1 := Lib.hid f1
      clear h1 f1
      go_wp2_with fail
      go_at_call 87; (with_reducible refine (rd_broken H1.out).mono ?_); rintro e w3 ⟨rfl, hb⟩
      have H3 := Lib.hid (H1.out.kept hb)
      have F3 := Lib.hid (F1.out.trans (RdFr.of_below hb))
      clear hb
      rcases hf : s1.fault.isSome
      · have HF := Lib.hid hf
        clear hf
        go_wp2
        go_ret
        rw [HP.out _ HS.out, HF.out]
        exact ⟨rfl, _, H3.out, F3.out⟩
      · have HF := Lib.hid hf
        clear hf
        go_wp2
        go_ret
        rw [HP.out _ HS.out, HF.out]
        exact ⟨rfl, _, H3.out, F3.out⟩
end Go.Proofs.YteffpfgdoganpaaDoor
