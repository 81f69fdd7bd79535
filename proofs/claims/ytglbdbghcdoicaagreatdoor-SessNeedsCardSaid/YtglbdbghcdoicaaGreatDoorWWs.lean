/- The Writer's methods. The Writer's methods Num, Int, Text, Bytes. slices.Clone, slices.Clip at bytes; the Writer's Bytes; Read. -/
import Derived.Test.YtglbdbghcdoicaaGreatDoorWBase
import Derived.Deep.DeepAppendWide
import Derived.Laws.BitsAllLaws
import Derived.Lib.AppendStr
import Derived.WalkLawsBesides
namespace Go.Proofs.YtglbdbghcdoicaaGreatDoor
open Go.RowKit

/-- A number's bytes by sevens, the lowest first. -/
def sev (n : Nat) : List Int := if n < 128 then [(n : Int)] else ((n % 128 + 128 : Nat) : Int) :: sev (n / 128)
termination_by n
decreasing_by omega
theorem sev_small (n : Nat) (h : n < 128) : sev n = [(n : Int)] := by rw [sev, if_pos h]
theorem sev_big (n : Nat) (h : ¬ n < 128) : sev n = ((n % 128 + 128 : Nat) : Int) :: sev (n / 128) := by rw [sev, if_neg h]
theorem sev_len : ∀ (k n : Nat), n < 128 ^ (k + 1) → (sev n).length ≤ k + 1
  | 0, n, h => by rw [sev_small n (by omega)]; simp
  | k + 1, n, h => by
    by_cases h1 : n < 128
    · rw [sev_small n h1]; simp
    · rw [sev_big n h1, List.length_cons]
      have := sev_len k (n / 128) (by rw [Nat.div_lt_iff_lt_mul (by omega)]; rw [Nat.pow_succ] at h; exact h)
      omega
theorem sev_len10 (n : Nat) (h : n < 18446744073709551616) : (sev n).length ≤ 10 := sev_len 9 n (by omega)

/-- append onto an owned row up to growslice's own bound; where the row lies then. -/
theorem run_append_wide_at {P : Program} (w : World) (base : Nat) (t ty e : TypeId) (i : TypeInfo) (z : Value) (size bytes : Nat) (ht : P.underlying t = some (.slice e)) (hi : P.info? e = some i) (hz : i.zero = some z)
    (hsize : i.size = size) (hby : i.bytes = bytes) (hzs : z.cells.size = size) (hsz : 0 < size)
    (v : Value) (n : Nat) (xs : List Value) (hown : w.ownsRow base e size v n xs)
    (ad : Addr) (m c : Nat) (news : List Value) (hl : news.length = m * size) (hnews : ∀ j u, news[j]? = some u → w.cell? (ad.add j) = some u) (h1 : ∀ u ∈ news, u.oneCell' = true)
    (h63 : n + m ≤ maxLen) (hbytes : ((n + m) + (n + m) / 4 + 192) * bytes ≤ 281474976710656) (hbase : base ≤ w.heap.size) :
    ∃ v' w', (Builtin.append_ #[t, t] ty #[v, .slice (some ad) m c]).run P w = .ok v' w' ∧ w'.ownsRow base e size v' (n + m) (xs ++ news) ∧ w.grownBy w' v.ownBlock ∧ (v'.ownBlock = v.ownBlock ∨ v'.ownBlock = some w.heap.size) := by
  subst hsize
  subst hby
  obtain ⟨v', w', hr, h2, h3, h4⟩ := run_append_own_wide (P := P) w base t ty e i z i.size i.bytes ht hi hz rfl rfl hzs hsz v n xs hown ad m c news hl hnews h1 h63 hbytes hbase
  have hsmall : n + m ≤ 9223372036854775807 := by simp only [maxLen] at h63; omega
  refine ⟨v', w', hr, h2, h3, ?_⟩
  rcases hown.2 with ⟨rfl, rfl⟩ | ⟨g, cap, cur, rfl, _, hg, hnc, hcm, hcs, _⟩
  · by_cases hm : m = 0
    · rw [h4.2 ⟨rfl, hm⟩]; exact .inl rfl
    · have hr2 := run_append_nil (P := P) w t ty e i z ht hi hz ad m c news hl hnews (by omega) (by omega) (by have hb := hbytes; simp only [Nat.zero_add] at hb; exact Nat.le_trans (Nat.mul_le_mul_right _ (by omega)) hb)
      rw [hr] at hr2
      injection hr2 with e1 e2
      rw [e1]; exact .inr rfl
  · by_cases hroom : n + m ≤ cap
    · have hfit : n * i.size + news.length ≤ cur.size := by rw [hl, hcs, ← Nat.add_mul]; exact Nat.mul_le_mul_right _ hroom
      have hr2 := run_append_room (P := P) w t ty e i ht hi g n cap cur hg ad m c news hl hnews h1 hroom hfit
      rw [hr] at hr2
      injection hr2 with e1 e2
      rw [e1]; exact .inl rfl
    · have hr2 := run_append_grow (P := P) w t ty e i z ht hi hz ⟨g, 0, none⟩ n cap xs hown.1 (hown.cells (g := g) rfl) ad m c news hl hnews (by omega) (by omega) (growslice_fits_wide (by omega) hbytes)
      rw [hr] at hr2
      injection hr2 with e1 e2
      rw [e1]; exact .inr rfl

section
variable {w : World}
/-- append of a row of bytes onto an owned one. -/
theorem wpList_append_bytes {ops : Array Oper} {rest : List Oper} {o : Oper} {a : Act} {Q : Exit → Act → World → Prop} (hgd : o.guard = none) (s x : Operand)
    (ho : o.op = .call { callee := .builtin .append, args := #[s, x], argTypes := #[32, 32] })
    (base : Nat) (v : Value) (n : Nat) (xs : List Int) (hs : a.eval s = v) (hown : w.ownsRow base 5 1 v n (bvs xs))
    (A : Option Addr) (m c : Nat) (hA : A = none → c = 0) (news : List Int) (hx : a.eval x = .slice A m c) (hl : news.length = m) (hnews : CellsAt w A (bvs news))
    (h63 : n + m ≤ 211106232532992) (hbase : base ≤ w.heap.size)
    (h : ∀ v' w', w'.ownsRow base 5 1 v' (n + m) (bvs xs ++ bvs news) → w.grownBy w' v.ownBlock → (v'.ownBlock = v.ownBlock ∨ v'.ownBlock = some w.heap.size) → wpList Tryz.prog ops Q rest (a.put o.dst v') w') :
    wpList Tryz.prog ops Q (o :: rest) a w := by
  obtain ⟨i0, hi, hz0, hz1, hz2⟩ := info_parts info_u8
  refine wpList_plain hgd fun K hK => ?_
  obtain ⟨v', w', hr, h2, h3, h5⟩ : ∃ v' w', (Builtin.append_ #[32, 32] o.type #[v, .slice A m c]).run Tryz.prog w = .ok v' w' ∧ w'.ownsRow base 5 1 v' (n + m) (bvs xs ++ bvs news) ∧ w.grownBy w' v.ownBlock ∧ (v'.ownBlock = v.ownBlock ∨ v'.ownBlock = some w.heap.size) := by
    cases A with
    | none =>
      have hm : news = [] := by
        cases news with
        | nil => rfl
        | cons u us => obtain ⟨ad, h, _⟩ := hnews 0 (by simp [bvs]); cases h
      subst hm
      simp at hl
      obtain rfl := hl.symm
      obtain rfl := hA rfl
      exact ⟨v, w, run_append_owned_none (P := Tryz.prog) (w := w) base _ o.type _ i0 1 Tryz.underlying32 hi v n (bvs xs) hown, by simpa [bvs] using hown, ⟨rfl, rfl, rfl, Nat.le_refl _, fun _ _ _ => rfl⟩, .inl rfl⟩
    | some ad =>
      exact run_append_wide_at (P := Tryz.prog) w base _ o.type _ i0 _ 1 1 Tryz.underlying32 hi hz0 hz1 hz2 rfl (by omega) v n (bvs xs) hown ad m c (bvs news) (by rw [bvs_len, hl, Nat.mul_one])
        (fun j u hj => by
          obtain ⟨hlt, rfl⟩ := List.getElem?_eq_some_iff.1 hj
          obtain ⟨ad', h, _, hc⟩ := hnews j hlt
          cases h
          exact hc) (bvs_one _) (by unfold maxLen; omega) (by omega) hbase
  unfold Oper.wp execOp
  simp only [ho, resolve, invoke, builtin, Sem.run_bind, Sem.run_pure, Result.andThen_ok, List.map_toArray, List.map_cons, List.map_nil, hs, hx, hr]
  exact hK _ _ (h v' w' h2 h3 h5)
end

theorem cells_one (W : World) (t : TypeId) (x : Value) : CellsAt (W.alloc (.cells #[x] t)) (some ⟨W.heap.size, 0, none⟩) [x] := fun k hk => by
  simp at hk
  subst hk
  exact ⟨_, rfl, by simp, by simp [Addr.add]⟩

theorem u8_of (m : Nat) : IntKind.u8.wrap (m : Int) = ((m % 256 : Nat) : Int) := by simp [IntKind.wrap, IntKind.signed, IntKind.bits]

set_option maxRecDepth 100000 in
theorem or128_ : ∀ x : Fin 256, bits .or .u8 (x.val : Int) 128 = ((x.val % 128 + 128 : Nat) : Int) := by decide
theorem or128 (m : Nat) : bits .or .u8 ((m : Int) % 256) 128 = ((m % 128 + 128 : Nat) : Int) := by
  have h := or128_ ⟨m % 256, by omega⟩
  have e : m % 256 % 128 = m % 128 := by omega
  simp only [e] at h
  rw [← h]
  simp

set_option maxHeartbeats 1000000 in
set_option maxRecDepth 100000 in
theorem w_sevens (n : Nat) (hn : n < 18446744073709551616) (base p : Nat) (v : Value) (bs : List Int) (W : World) (h : Wr W base p v bs) (hbs : bs.length + 10 ≤ 211106232532992) :
    Calls Tryz.prog 129 #[.pointer (some ⟨p, 0, none⟩), .int .u64 (n : Int)] W fun e w' => e = .returned (.tuple #[]) ∧ ∃ v', Wr w' base p v' (bs ++ sev n) ∧ WrFr W p v w' v' := by
  have H := Lib.hid h
  have HN := Lib.hid (sev_len10 n hn)
  have hb := h.base
  have hlt := h.blk.lt
  have HBS := Lib.hid hbs
  clear h hn hbs
  go_enter Tryz.func129, Tryz.ntmps129
  go_wp2
  go_loopw [1] (fun t1 wr => ∃ (m : Nat) (pre cur : List Int) (A : Option Addr) (l c : Nat), t1 = .int .u64 (m : Int) ∧ m ≤ n ∧ Hid (bs ++ sev n = cur ++ sev m ∧ cur = bs ++ pre ∧ Wr wr base p (.slice A l c) cur ∧ WrFr W p v wr (.slice A l c))) (fun t1 _ => (intOf t1).toNat)
  case atStart =>
    obtain ⟨A, c, rfl, _, _, _⟩ := owned_form H.out.own
    exact ⟨n, [], bs, A, _, c, rfl, Nat.le_refl _, Lib.hid ⟨rfl, by simp, H.out, WrFr.refl _ _ _⟩⟩
  case round =>
    obtain ⟨m, pre, cur, A, l, c, rfl, hm, HP⟩ := hrel
    have HPL : Hid (cur.length + 1 ≤ bs.length + 10) := Lib.hid (by
      have h1 := congrArg List.length HP.out.1
      rw [List.length_append, List.length_append] at h1
      have h3 : 1 ≤ (sev m).length := by rw [sev]; split <;> simp
      have := HN.out
      omega)
    have p0 : wr.cell? ⟨p, 0, none⟩ = some (.slice A l c) := HP.out.2.2.1.blk.cell 0
    by_cases h128 : m < 128
    · have HSm := Lib.hid (sev_small m h128)
      have h1 : Wr (wr.alloc (.cells #[.int .u8 (m : Int)] 5)) base p (.slice A l c) cur := HP.out.2.2.1.kept ((Below.refl _ _).alloc (Nat.le_refl _) _)
      have f1 : WrFr W p v (wr.alloc (.cells #[.int .u8 (m : Int)] 5)) (.slice A l c) := HP.out.2.2.2.trans ⟨(Tur.refl _ _).alloc _, .inl rfl⟩
      have H1 := Lib.hid h1
      have F1 := Lib.hid f1
      have S1 := Lib.hid (show base ≤ (wr.alloc (.cells #[.int .u8 (m : Int)] 5)).heap.size from Nat.le_trans h1.base (Nat.le_of_lt h1.blk.lt))
      clear h1 f1
      go_wp2_with (at_builtin; refine wpList_append_bytes rfl _ _ rfl base _ _ cur rfl H1.out.own (some ⟨wr.heap.size, 0, none⟩) 1 1 (fun h => by cases h) [(m : Int)] rfl rfl (cells_one wr _ _) (by have := HBS.out; have := HPL.out; omega) S1.out ?_
                   intro v' w2 hown hg hv
                   obtain ⟨A', c', rfl, _, _, _⟩ := owned_form hown
                   have q0 : w2.cell? ⟨p, 0, none⟩ = some (.slice A l c) := (H1.out.blk.grown hg (fun e => H1.out.ne e.symm)).cell 0
                   have q1 : w2.frozen? ⟨p, 0, none⟩ = false := (H1.out.blk.grown hg (fun e => H1.out.ne e.symm)).frozen 0
                   have HW := Lib.hid (H1.out.put (more := [(m : Int)]) hown hg hv)
                   clear hown hg hv)
      go_end0
      exact ⟨rfl, _, by rw [HP.out.1, HSm.out]; exact HW.out.1, F1.out.trans HW.out.2⟩
    · have hor := or128 m
      have HBg := Lib.hid (sev_big m h128)
      have h1 : Wr (wr.alloc (.cells #[.int .u8 ((m % 128 + 128 : Nat) : Int)] 5)) base p (.slice A l c) cur := HP.out.2.2.1.kept ((Below.refl _ _).alloc (Nat.le_refl _) _)
      have f1 : WrFr W p v (wr.alloc (.cells #[.int .u8 ((m % 128 + 128 : Nat) : Int)] 5)) (.slice A l c) := HP.out.2.2.2.trans ⟨(Tur.refl _ _).alloc _, .inl rfl⟩
      have H1 := Lib.hid h1
      have F1 := Lib.hid f1
      have S1 := Lib.hid (show base ≤ (wr.alloc (.cells #[.int .u8 ((m % 128 + 128 : Nat) : Int)] 5)).heap.size from Nat.le_trans h1.base (Nat.le_of_lt h1.blk.lt))
      clear h1 f1
      go_wp2_with (at_builtin; refine wpList_append_bytes rfl _ _ rfl base _ _ cur rfl H1.out.own (some ⟨wr.heap.size, 0, none⟩) 1 1 (fun h => by cases h) [((m % 128 + 128 : Nat) : Int)] rfl rfl (cells_one wr _ _) (by have := HBS.out; have := HPL.out; omega) S1.out ?_
                   intro v' w2 hown hg hv
                   obtain ⟨A', c', rfl, _, _, _⟩ := owned_form hown
                   have q0 : w2.cell? ⟨p, 0, none⟩ = some (.slice A l c) := (H1.out.blk.grown hg (fun e => H1.out.ne e.symm)).cell 0
                   have q1 : w2.frozen? ⟨p, 0, none⟩ = false := (H1.out.blk.grown hg (fun e => H1.out.ne e.symm)).frozen 0
                   have HW := Lib.hid (H1.out.put (more := [((m % 128 + 128 : Nat) : Int)]) hown hg hv)
                   clear hown hg hv)
      go_roundw
      case rel => exact ⟨m / 128, pre ++ [((m % 128 + 128 : Nat) : Int)], cur ++ [((m % 128 + 128 : Nat) : Int)], _, _, _, by go_num, by omega, Lib.hid ⟨by rw [HP.out.1, HBg.out, List.append_assoc]; rfl, by rw [HP.out.2.1, List.append_assoc], HW.out.1, F1.out.trans HW.out.2⟩⟩
      case measure => simp [intOf]; omega
end Go.Proofs.YtglbdbghcdoicaaGreatDoor

namespace Go.Proofs.YtglbdbghcdoicaaGreatDoor
open Go.RowKit

theorem w_num_nat (n : Nat) (hn : n ≤ 9223372036854775807) (base p : Nat) (v : Value) (bs : List Int) (W : World) (h : Wr W base p v bs) (hbs : bs.length + 10 ≤ 211106232532992) :
    Calls Tryz.prog 85 #[.pointer (some ⟨p, 0, none⟩), .int .i64 (n : Int)] W fun e w' => e = .returned (.tuple #[]) ∧ ∃ v', Wr w' base p v' (bs ++ sev n) ∧ WrFr W p v w' v' := by
  have C := Lib.hid (w_sevens n (by omega) base p v bs W h hbs)
  clear h hbs
  have h0 : ¬ (n : Int) < 0 := by omega
  go_enter Tryz.func85, Tryz.ntmps85
  go_wp2_with fail
  go_at_call 129; (with_reducible refine C.out.mono ?_); rintro e w1 ⟨rfl, hw⟩
  have HW := Lib.hid hw
  clear hw
  go_wp2
  go_end0
  exact ⟨rfl, HW.out⟩
theorem w_num_neg (n : Int) (hn : n < 0) (base p : Nat) (v : Value) (bs : List Int) (W : World) (h : Wr W base p v bs) (hbs : bs.length + 10 ≤ 211106232532992) :
    Calls Tryz.prog 85 #[.pointer (some ⟨p, 0, none⟩), .int .i64 n] W fun e w' => e = .returned (.tuple #[]) ∧ ∃ v', Wr w' base p v' (bs ++ sev 0) ∧ WrFr W p v w' v' := by
  have C := Lib.hid (show Calls Tryz.prog 129 #[.pointer (some ⟨p, 0, none⟩), .int .u64 0] W _ from w_sevens 0 (by omega) base p v bs W h hbs)
  clear h hbs
  go_enter Tryz.func85, Tryz.ntmps85
  go_wp2_with fail
  go_at_call 129; (with_reducible refine C.out.mono ?_); rintro e w1 ⟨rfl, hw⟩
  have HW := Lib.hid hw
  clear hw
  go_wp2
  go_end0
  exact ⟨rfl, HW.out⟩
theorem w_num (n : Int) (hn : n ≤ 9223372036854775807) (base p : Nat) (v : Value) (bs : List Int) (W : World) (h : Wr W base p v bs) (hbs : bs.length + 10 ≤ 211106232532992) :
    Calls Tryz.prog 85 #[.pointer (some ⟨p, 0, none⟩), .int .i64 n] W fun e w' => e = .returned (.tuple #[]) ∧ ∃ v', Wr w' base p v' (bs ++ sev n.toNat) ∧ WrFr W p v w' v' := by
  by_cases h0 : n < 0
  · have e : n.toNat = 0 := by omega
    rw [e]
    exact w_num_neg n h0 base p v bs W h hbs
  · obtain ⟨m, rfl⟩ : ∃ m : Nat, n = (m : Int) := ⟨n.toNat, by omega⟩
    exact w_num_nat m (by omega) base p v bs W h hbs

/-- The number that Int writes of n. -/
def zz (n : Int) : Nat := if n < 0 then (-2 * n - 1).toNat else (2 * n).toNat
theorem xor_ones (a : Nat) (ha : a < 18446744073709551616) : bits .xor .u64 (a : Int) 18446744073709551615 = ((18446744073709551615 - a : Nat) : Int) := by
  have h := u64_xor_nat a 18446744073709551615 ha (by omega)
  rw [show ((18446744073709551615 : Nat) : Int) = 18446744073709551615 from rfl] at h
  rw [h]
  have e : a ^^^ 18446744073709551615 = 18446744073709551615 - a := by
    have h2 := congrArg BitVec.toNat (BitVec.xor_allOnes (x := BitVec.ofNat 64 a))
    have h3 : a % 18446744073709551616 = a := Nat.mod_eq_of_lt ha
    simpa [BitVec.toNat_xor, BitVec.toNat_not, BitVec.toNat_allOnes, h3] using h2
  rw [e]
theorem xor_zero (a : Nat) (ha : a < 18446744073709551616) : bits .xor .u64 (a : Int) 0 = (a : Int) := by
  have h := u64_xor_nat a 0 ha (by omega)
  simpa using h

theorem w_int_pos (n : Nat) (hn : n < 9223372036854775808) (base p : Nat) (v : Value) (bs : List Int) (W : World) (h : Wr W base p v bs) (hbs : bs.length + 10 ≤ 211106232532992) :
    Calls Tryz.prog 88 #[.pointer (some ⟨p, 0, none⟩), .int .i64 (n : Int)] W fun e w' => e = .returned (.tuple #[]) ∧ ∃ v', Wr w' base p v' (bs ++ sev (2 * n)) ∧ WrFr W p v w' v' := by
  obtain ⟨m, hm⟩ : ∃ m, m = 2 * n := ⟨_, rfl⟩
  rw [← hm]
  have C := Lib.hid (w_sevens m (by omega) base p v bs W h hbs)
  have hx : bits .xor .u64 ((n : Int) * 2) ((n : Int) / 9223372036854775808) = (m : Int) := by
    rw [show (n : Int) / 9223372036854775808 = 0 by omega, show (n : Int) * 2 = (m : Int) by omega]
    exact xor_zero m (by omega)
  clear h hbs hm
  have h0 : (0 : Int) ≤ (n : Int) := by omega
  have h9 : (n : Int) ≤ 9223372036854775807 := by omega
  go_enter Tryz.func88, Tryz.ntmps88
  go_wp2_with fail
  go_at_call 129; (with_reducible refine C.out.mono ?_); rintro e w1 ⟨rfl, hw⟩
  have HW := Lib.hid hw
  clear hw
  go_wp2
  go_end0
  exact ⟨rfl, HW.out⟩
theorem w_int_neg (n : Int) (h1 : n < 0) (hn : -9223372036854775808 ≤ n) (base p : Nat) (v : Value) (bs : List Int) (W : World) (h : Wr W base p v bs) (hbs : bs.length + 10 ≤ 211106232532992) :
    Calls Tryz.prog 88 #[.pointer (some ⟨p, 0, none⟩), .int .i64 n] W fun e w' => e = .returned (.tuple #[]) ∧ ∃ v', Wr w' base p v' (bs ++ sev (-2 * n - 1).toNat) ∧ WrFr W p v w' v' := by
  obtain ⟨m, hm⟩ : ∃ m, m = (-2 * n - 1).toNat := ⟨_, rfl⟩
  rw [← hm]
  have C := Lib.hid (w_sevens m (by omega) base p v bs W h hbs)
  have hx : bits .xor .u64 (IntKind.u64.wrap (IntKind.u64.wrap n * 2)) (IntKind.u64.wrap (n / 9223372036854775808)) = (m : Int) := by
    have e : (((18446744073709551615 - m : Nat) : Nat) : Int) = IntKind.u64.wrap (IntKind.u64.wrap n * 2) := by
      rw [IntKind.wrap_u64, IntKind.wrap_u64]; omega
    have e2 : IntKind.u64.wrap (n / 9223372036854775808) = 18446744073709551615 := by
      rw [IntKind.wrap_u64]; omega
    rw [← e, e2, xor_ones _ (by omega)]
    omega
  clear h hbs hm
  go_enter Tryz.func88, Tryz.ntmps88
  go_wp2_with fail
  go_at_call 129; (with_reducible refine C.out.mono ?_); rintro e w1 ⟨rfl, hw⟩
  have HW := Lib.hid hw
  clear hw
  go_wp2
  go_end0
  exact ⟨rfl, HW.out⟩
theorem w_int (n : Int) (h1 : -9223372036854775808 ≤ n) (h2 : n ≤ 9223372036854775807) (base p : Nat) (v : Value) (bs : List Int) (W : World) (h : Wr W base p v bs) (hbs : bs.length + 10 ≤ 211106232532992) :
    Calls Tryz.prog 88 #[.pointer (some ⟨p, 0, none⟩), .int .i64 n] W fun e w' => e = .returned (.tuple #[]) ∧ ∃ v', Wr w' base p v' (bs ++ sev (zz n)) ∧ WrFr W p v w' v' := by
  unfold zz
  by_cases h0 : n < 0
  · rw [if_pos h0]
    exact w_int_neg n h0 h1 base p v bs W h hbs
  · rw [if_neg h0]
    obtain ⟨m, rfl⟩ : ∃ m : Nat, n = (m : Int) := ⟨n.toNat, by omega⟩
    have e : (2 * (m : Int)).toNat = 2 * m := by omega
    rw [e]
    exact w_int_pos m (by omega) base p v bs W h hbs

/-- A string's bytes. -/
def strB (s : ByteArray) : List Int := s.data.toList.map fun b => (b.toNat : Int)
theorem strB_cells (s : ByteArray) : Lib.strCells s = bvs (strB s) := by simp [Lib.strCells, bvs, strB]
theorem strB_len (s : ByteArray) : (strB s).length = s.size := by simp [strB]

theorem run_append_text_wide (w : World) (base : Nat) (ty : TypeId) (v : Value) (n : Nat) (xs : List Int) (hown : w.ownsRow base 5 1 v n (bvs xs)) (s : ByteArray) (h63 : n + s.size ≤ 211106232532992) (hbase : base ≤ w.heap.size) :
    ∃ v' w', (Builtin.append_ #[32, 9] ty #[v, .string s]).run Tryz.prog w = .ok v' w' ∧ w'.ownsRow base 5 1 v' (n + s.size) (bvs xs ++ bvs (strB s)) ∧ w.grownBy w' v.ownBlock ∧ (v'.ownBlock = v.ownBlock ∨ v'.ownBlock = some w.heap.size) := by
  obtain ⟨i0, hi, hz0, hz1, hz2⟩ := info_parts info_u8
  have hxl : (bvs xs).length = n := by simpa using hown.1
  have hsl : (Lib.strCells s).length = s.size := by rw [strB_cells, bvs_len, strB_len]
  rw [← strB_cells]
  -- a row that has moved
  have moved : ∀ (ws : Array Value) (cap : Nat) (W1 : World) (b : Option Nat), W1 = w.drew.alloc (.cells ws 5) → n + s.size ≤ cap → cap ≤ maxLen → ws.size = cap → ws.toList.take (n + s.size) = bvs xs ++ Lib.strCells s →
      W1.ownsRow base 5 1 (.slice (some ⟨w.heap.size, 0, none⟩) (n + s.size) cap) (n + s.size) (bvs xs ++ Lib.strCells s) ∧ w.grownBy W1 b := fun ws cap W1 b e h1 h2 h3 h4 => by
    subst e
    exact ⟨⟨by rw [List.length_append, hxl, hsl, Nat.mul_one], .inr ⟨w.heap.size, cap, ws, rfl, hbase, heap_alloc_new w.drew _, h1, h2, by rw [h3, Nat.mul_one], by rw [Nat.mul_one]; exact h4⟩⟩, ⟨rfl, rfl, rfl, by simp, fun k hk _ => heap_alloc_old w.drew _ hk⟩⟩
  have hge := fun old => grownCap_ge w (n + s.size) old 5
  have hcm := fun old => grownCap_le_maxLen w (n + s.size) old 5 (by unfold maxLen; omega)
  have hz1' : (Value.int IntKind.u8 0).cells.size = 1 := rfl
  have wsz : ∀ (old : Nat), ((bvs xs).toArray ++ (Lib.strCells s).toArray ++ Builtin.zeroCells (Value.int .u8 0).cells (grownCap w (n + s.size) old 5 - (n + s.size))).size = grownCap w (n + s.size) old 5 := fun old => by
    have := hge old
    simp only [Array.size_append, List.size_toArray, size_zeroCells, hz1', hxl, hsl]
    omega
  have wtk : ∀ (old : Nat), ((bvs xs).toArray ++ (Lib.strCells s).toArray ++ Builtin.zeroCells (Value.int .u8 0).cells (grownCap w (n + s.size) old 5 - (n + s.size))).toList.take (n + s.size) = bvs xs ++ Lib.strCells s := fun old => by
    have e : n + s.size = (bvs xs ++ Lib.strCells s).length := by rw [List.length_append, hxl, hsl]
    simp only [Array.toList_append]
    rw [e]
    exact List.take_left
  rcases hown.2 with ⟨rfl, rfl⟩ | ⟨g, cap, cur, rfl, hbg, hg, hnc, hcap, hcs, htk⟩
  · by_cases hm : s.size = 0
    · obtain ⟨v', w', hr, h2, h3, h4⟩ := Lib.run_append_own_string (P := Tryz.prog) w base 32 9 ty 5 i0 Tryz.underlying32 Tryz.underlying9 hi hz0 hz1 hz2 (.slice none 0 0) 0 (bvs xs) hown s (by unfold maxLen; omega) (by omega) hbase
      exact ⟨v', w', hr, h2, h3, by rw [h4.2 ⟨rfl, hm⟩]; exact .inl rfl⟩
    · have hr := run_append_nil_string (P := Tryz.prog) w 32 9 ty 5 i0 _ Tryz.underlying32 Tryz.underlying9 hi hz0 s (by omega) (by omega) (by rw [hz2]; omega)
      have hx0 : bvs xs = [] := List.eq_nil_of_length_eq_zero hxl
      have e1 : (s.data.map fun b => Value.int .u8 b.toNat) = (bvs xs).toArray ++ (Lib.strCells s).toArray := by
        rw [hx0]
        apply Array.ext'
        simp [Lib.strCells]
      rw [e1] at hr
      have hmv := moved _ (grownCap w (0 + s.size) 0 5) _ (Value.ownBlock (.slice none 0 0)) rfl (hge 0) (hcm 0) (wsz 0) (wtk 0)
      simp only [Nat.zero_add] at hmv ⊢
      exact ⟨_, _, hr, hmv.1, hmv.2, .inr rfl⟩
  · by_cases hroom : n + s.size ≤ cap
    · have hcs' : cur.size = cap := by simpa using hcs
      have hr := Lib.run_append_room_string (P := Tryz.prog) w 32 9 ty 5 i0 Tryz.underlying32 Tryz.underlying9 hi hz1 g n cap cur hg s hroom (by omega)
      have ht' : cur.toList.take n = bvs xs := by simpa using htk
      refine ⟨_, _, hr, ⟨by rw [List.length_append, hxl, hsl, Nat.mul_one], .inr ⟨g, cap, _, rfl, hbg, setRow_heap w g cur _ _ _ hg, hroom, hcap, ?_, ?_⟩⟩, ⟨rfl, rfl, rfl, by simp, fun k _ hk => setRow_other w g k _ (fun e => hk (by simp [Value.ownBlock, e]))⟩, .inl rfl⟩
      · simp only [List.size_toArray, List.length_append, List.length_take, List.length_drop, Array.length_toList, hsl]
        omega
      · have e : (n + s.size) * 1 = (bvs xs ++ Lib.strCells s).length := by rw [List.length_append, hxl, hsl, Nat.mul_one]
        rw [ht', e]
        exact List.take_left
    · have hr := Lib.run_append_grow_string (P := Tryz.prog) w 32 9 ty 5 i0 _ Tryz.underlying32 Tryz.underlying9 hi hz0 ⟨g, 0, none⟩ n cap (bvs xs) (by rw [hz1]; exact hown.1) (hown.cells (g := g) rfl) s (by omega) (by omega) (by rw [hz2]; exact growslice_fits_wide (by omega) (by omega))
      have hmv := moved _ (grownCap w (n + s.size) cap 5) _ (Value.ownBlock (.slice (some ⟨g, 0, none⟩) n cap)) rfl (hge cap) (hcm cap) (wsz cap) (wtk cap)
      exact ⟨_, _, hr, hmv.1, hmv.2, .inr rfl⟩

section
variable {w : World}
theorem wpList_append_text {ops : Array Oper} {rest : List Oper} {o : Oper} {a : Act} {Q : Exit → Act → World → Prop} (hgd : o.guard = none) (sl x : Operand)
    (ho : o.op = .call { callee := .builtin .append, args := #[sl, x], argTypes := #[32, 9] })
    (base : Nat) (v : Value) (n : Nat) (xs : List Int) (hs : a.eval sl = v) (hown : w.ownsRow base 5 1 v n (bvs xs)) (s : ByteArray) (hx : a.eval x = .string s)
    (h63 : n + s.size ≤ 211106232532992) (hbase : base ≤ w.heap.size)
    (h : ∀ v' w', w'.ownsRow base 5 1 v' (n + s.size) (bvs xs ++ bvs (strB s)) → w.grownBy w' v.ownBlock → (v'.ownBlock = v.ownBlock ∨ v'.ownBlock = some w.heap.size) → wpList Tryz.prog ops Q rest (a.put o.dst v') w') :
    wpList Tryz.prog ops Q (o :: rest) a w := by
  obtain ⟨i0, hi, hz0, hz1, hz2⟩ := info_parts info_u8
  refine wpList_plain hgd fun K hK => ?_
  obtain ⟨v', w', hr, h2, h3, hblk⟩ := run_append_text_wide w base o.type v n xs hown s h63 hbase
  unfold Oper.wp execOp
  simp only [ho, resolve, invoke, builtin, Sem.run_bind, Sem.run_pure, Result.andThen_ok, List.map_toArray, List.map_cons, List.map_nil, hs, hx, hr]
  exact hK _ _ (h v' w' h2 h3 hblk)
end

set_option maxHeartbeats 1000000 in
set_option maxRecDepth 100000 in
theorem w_text (s : ByteArray) (base p : Nat) (v : Value) (bs : List Int) (W : World) (h : Wr W base p v bs) (hbs : bs.length + 10 + s.size ≤ 211106232532992) :
    Calls Tryz.prog 130 #[.pointer (some ⟨p, 0, none⟩), .string s] W fun e w' => e = .returned (.tuple #[]) ∧ ∃ v', Wr w' base p v' (bs ++ sev s.size ++ strB s) ∧ WrFr W p v w' v' := by
  have C := Lib.hid (w_num_nat s.size (by omega) base p v bs W h (by omega))
  have HB := Lib.hid hbs
  have HN := Lib.hid (sev_len10 s.size (by omega))
  clear h hbs
  go_enter Tryz.func130, Tryz.ntmps130
  go_wp2_with fail
  go_at_call 85; (with_reducible refine C.out.mono ?_); rintro e w1 ⟨rfl, v1, hw, hf⟩
  obtain ⟨cur, hcur⟩ : ∃ cur, cur = bs ++ sev s.size := ⟨_, rfl⟩
  rw [← hcur] at hw
  obtain ⟨A, c, rfl, _, _, _⟩ := owned_form hw.own
  have H1 := Lib.hid hw
  have F1 := Lib.hid hf
  have HC := Lib.hid hcur
  have S1 := Lib.hid (show base ≤ w1.heap.size from Nat.le_trans hw.base (Nat.le_of_lt hw.blk.lt))
  have p0 : w1.cell? ⟨p, 0, none⟩ = some (.slice A cur.length c) := hw.blk.cell 0
  clear hw hf hcur
  go_wp2_with (at_builtin; refine wpList_append_text rfl _ _ rfl base _ _ cur rfl H1.out.own s rfl (by have := HB.out; have := HN.out; rw [HC.out, List.length_append]; omega) S1.out ?_
               intro v' w2 hown hg hv
               obtain ⟨A', c', rfl, _, _, _⟩ := owned_form hown
               have q0 : w2.cell? ⟨p, 0, none⟩ = some (.slice A cur.length c) := (H1.out.blk.grown hg (fun e => H1.out.ne e.symm)).cell 0
               have q1 : w2.frozen? ⟨p, 0, none⟩ = false := (H1.out.blk.grown hg (fun e => H1.out.ne e.symm)).frozen 0
               have HW := Lib.hid (H1.out.put (more := strB s) (by rw [strB_len]; exact hown) hg hv)
               clear hown hg hv)
  go_end0
  exact ⟨rfl, _, by rw [← HC.out]; exact HW.out.1, F1.out.trans HW.out.2⟩
end Go.Proofs.YtglbdbghcdoicaaGreatDoor

namespace Go.Proofs.YtglbdbghcdoicaaGreatDoor
open Go.RowKit

theorem own_cells_alloc (W : World) : (W.alloc (.cells #[] 5)).ownsRow W.heap.size 5 1 (.slice (some ⟨W.heap.size, 0, none⟩) 0 0) 0 (bvs []) :=
  World.ownsRow_lit W #[] 0 (Nat.le_refl _) (by unfold maxLen; omega) (by simp)

theorem eqNil (w : World) (a : Option Addr) (n c : Nat) : (binOp .eql 32 (.slice a n c) (.slice none 0 0)).run Tryz.prog w = .ok (.bool a.isNone) w := Lib.run_eql_slice_nil w _ _ a n c 0 0 Tryz.underlying32
set_option maxRecDepth 100000 in
theorem clone_nil (c : Nat) (W : World) :
    Calls Tryz.prog 69 #[.slice none 0 c] W fun e w' => e = .returned (.slice none 0 0) ∧ W = w' := by
  have ke := fun (w : World) (a : Option Addr) (n c : Nat) => eqNil w a n c
  go_enter Tryz.func69, Tryz.ntmps69
  go_wp2
  go_ret
  exact ⟨rfl, rfl⟩
set_option maxRecDepth 100000 in
theorem clone_some (ad : Addr) (n c : Nat) (xs : List Int) (W : World) (hl : xs.length = n) (h : CellsAt W (some ad) (bvs xs)) (hn : n ≤ 211106232532992) :
    Calls Tryz.prog 69 #[.slice (some ad) n c] W fun e w' => ∃ v', e = .returned v' ∧ w'.ownsRow W.heap.size 5 1 v' n (bvs xs) ∧ Below W.heap.size W w' := by
  have H := Lib.hid h
  have HL := Lib.hid hl
  have HN := Lib.hid hn
  clear h hl hn
  have ke := fun (w : World) (a : Option Addr) (n c : Nat) => eqNil w a n c
  go_enter Tryz.func69, Tryz.ntmps69
  go_wp2_with (at_builtin; refine wpList_append_bytes rfl _ _ rfl W.heap.size _ 0 [] rfl (own_cells_alloc W) (some ad) n c (fun h => by cases h) xs rfl HL.out (H.out.below ((Below.refl _ _).alloc (Nat.le_refl _) _)) (by have := HN.out; omega) (by simp) ?_
               intro v' w2 hown hg hv
               have B2 := Lib.hid (below_grown ((Below.refl W.heap.size W).alloc (Nat.le_refl _) (.cells #[] 5)) hg (by intro g hg; cases hg; exact Nat.le_refl _) (by simp))
               have HO := Lib.hid hown
               clear hown hg hv)
  go_ret
  exact ⟨_, rfl, by simpa [bvs] using HO.out, B2.out⟩
theorem clone_wide (A : Option Addr) (n c : Nat) (xs : List Int) (W : World) (hl : xs.length = n) (h : CellsAt W A (bvs xs)) (hn : n ≤ 211106232532992) :
    Calls Tryz.prog 69 #[.slice A n c] W fun e w' => ∃ v', e = .returned v' ∧ w'.ownsRow W.heap.size 5 1 v' n (bvs xs) ∧ Below W.heap.size W w' := by
  cases A with
  | some ad => exact clone_some ad n c xs W hl h hn
  | none =>
    have hx : xs = [] := by
      cases xs with
      | nil => rfl
      | cons u us => obtain ⟨ad, h, _⟩ := h 0 (by simp [bvs]); cases h
    subst hx
    simp at hl
    subst hl
    refine (clone_nil c W).mono ?_
    rintro e w' ⟨rfl, rfl⟩
    exact ⟨_, rfl, World.ownsRow_nil W _ _ _, Below.refl _ _⟩

theorem clone_any (A : Option Addr) (n c : Nat) (xs : List Int) (W : World) (hl : xs.length = n) (h : CellsAt W A (bvs xs)) (hn : n ≤ 140737488355328) :
    Calls Tryz.prog 69 #[.slice A n c] W fun e w' => ∃ v', e = .returned v' ∧ w'.ownsRow W.heap.size 5 1 v' n (bvs xs) ∧ Below W.heap.size W w' := clone_wide A n c xs W hl h (by omega)
/-- A slice at the head of a row that is known: nil, or a block of bytes. -/
def RowAt (W : World) (A : Option Addr) (n lo : Nat) (xs : List Int) : Prop :=
  (A = none ∧ n = 0 ∧ xs = []) ∨ ∃ g cur, A = some ⟨g, 0, none⟩ ∧ lo ≤ g ∧ Blk W g 5 cur ∧ xs.length = n ∧ n ≤ cur.size ∧ cur.toList.take n = bvs xs
theorem row_of_own {W : World} {base : Nat} {v : Value} {n : Nat} {xs : List Int} (h : W.ownsRow base 5 1 v n (bvs xs)) : ∃ A c, v = .slice A n c ∧ RowAt W A n base xs ∧ n ≤ c := by
  obtain ⟨hl, h⟩ := h
  rcases h with ⟨rfl, rfl⟩ | ⟨g, cap, cur, rfl, hb, hg, hnc, _, hcs, htake⟩
  · have : xs = [] := List.eq_nil_of_length_eq_zero (by simpa [bvs] using hl)
    exact ⟨none, 0, rfl, .inl ⟨rfl, rfl, this⟩, Nat.le_refl _⟩
  · exact ⟨_, cap, rfl, .inr ⟨g, cur, rfl, hb, hg, by simpa [bvs] using hl, by omega, by simpa using htake⟩, hnc⟩
theorem RowAt.cells {W : World} {A : Option Addr} {n lo : Nat} {xs : List Int} (h : RowAt W A n lo xs) : CellsAt W A (bvs xs) := fun k hk => by
  rcases h with ⟨_, _, rfl⟩ | ⟨g, cur, rfl, _, hg, hl, hn, ht⟩
  · simp [bvs] at hk
  · refine ⟨_, rfl, hg.lt, ?_⟩
    have e : (⟨g, 0, none⟩ : Addr).add k = ⟨g, k, none⟩ := by cases k <;> simp [Addr.add]
    have hk' : k < n := by rw [bvs_len] at hk; omega
    rw [e, hg.cell k]
    have h1 : (cur.toList.take n)[k]? = (bvs xs)[k]? := by rw [ht]
    rw [List.getElem?_take, if_pos hk'] at h1
    rw [← Array.getElem?_toList, h1, List.getElem?_eq_getElem hk]
theorem RowAt.kept {W W' : World} {A : Option Addr} {n lo : Nat} {xs : List Int} (h : RowAt W A n lo xs) (hb : Below W.heap.size W W') : RowAt W' A n lo xs := by
  rcases h with h | ⟨g, cur, rfl, h1, hg, r⟩
  · exact .inl h
  · exact .inr ⟨g, cur, rfl, h1, hg.kept hb, r⟩
theorem RowAt.len {W : World} {A : Option Addr} {n lo : Nat} {xs : List Int} (h : RowAt W A n lo xs) : xs.length = n := by
  rcases h with ⟨_, rfl, rfl⟩ | ⟨_, _, _, _, _, h, _⟩
  · rfl
  · exact h
/-- 'string(b)'. -/
theorem RowAt.conv {W : World} {A : Option Addr} {n lo : Nat} {xs : List Int} (h : RowAt W A n lo xs) (c : Nat) : (convert 32 9 (.slice A n c)).run Tryz.prog W = .ok (.string (strOfNums xs)) W := by
  have hc := h.cells
  have hl := h.len
  rcases h with ⟨rfl, rfl, rfl⟩ | ⟨g, cur, rfl, _, hg, _, hn, ht⟩
  · exact run_convert_bytes_nil (P := Tryz.prog) W _ _ Tryz.underlying32 Tryz.underlying5 0 c _ Tryz.underlying9
  · refine run_convert_bytes_arg (P := Tryz.prog) W _ _ Tryz.underlying32 Tryz.underlying5 g 0 n c xs hl (fun i hi => ?_) _ Tryz.underlying9
    obtain ⟨ad, e, _, h2⟩ := hc i (by rw [bvs_len]; omega)
    cases e
    have e : (⟨g, 0, none⟩ : Addr).add i = ⟨g, i, none⟩ := by cases i <;> simp [Addr.add]
    rw [e] at h2
    rw [Nat.zero_add, h2]
    simp [bvs, List.getD, List.getElem?_eq_getElem (show i < xs.length by omega)]

set_option maxRecDepth 100000 in
theorem clip_any (A : Option Addr) (n c : Nat) (hc : n ≤ c) (hA : A = none → n = 0) (W : World) :
    Calls Tryz.prog 131 #[.slice A n c] W fun e w' => e = .returned (.slice A n n) ∧ W = w' := by
  cases A with
  | none =>
    obtain rfl := hA rfl
    go_enter Tryz.func131, Tryz.ntmps131
    go_wp2
    go_ret
    exact ⟨rfl, rfl⟩
  | some ad =>
    clear hA
    go_enter Tryz.func131, Tryz.ntmps131
    go_wp2
    all_goals
      go_ret
      exact ⟨rfl, rfl⟩

set_option maxRecDepth 100000 in
theorem w_bytes_wide (base p : Nat) (v : Value) (bs : List Int) (W : World) (h : Wr W base p v bs) (hbs : bs.length ≤ 211106232532992) :
    Calls Tryz.prog 89 #[.pointer (some ⟨p, 0, none⟩)] W fun e w' => ∃ A, e = .returned (.slice A bs.length bs.length) ∧ RowAt w' A bs.length W.heap.size bs ∧ Below W.heap.size W w' := by
  obtain ⟨A, c, rfl, hr, hc⟩ := row_of_own h.own
  have p0 : W.cell? ⟨p, 0, none⟩ = some (.slice A bs.length c) := h.blk.cell 0
  have C := Lib.hid (clone_wide A bs.length c bs W rfl hr.cells hbs)
  generalize hn : bs.length = n at p0 C ⊢
  have HN := Lib.hid hn
  clear h hr hc hbs hn
  go_enter Tryz.func89, Tryz.ntmps89
  go_wp2_with fail
  go_at_call 69; (with_reducible refine C.out.mono ?_); rintro e w1 ⟨v', rfl, hown, hb⟩
  obtain ⟨A', c', rfl, hr, hc⟩ := row_of_own hown
  have HR := Lib.hid hr
  have B := Lib.hid hb
  have hA : A' = none → n = 0 := by
    rcases hr with ⟨_, h, _⟩ | ⟨g, cur, h, _⟩
    · exact fun _ => h
    · exact fun h' => by rw [h] at h'; cases h'
  have C2 := Lib.hid (clip_any A' n c' hc hA w1)
  clear hown hr hb hA
  go_wp2_with fail
  go_at_call 131; (with_reducible refine C2.out.mono ?_); rintro e w2 ⟨rfl, rfl⟩
  go_wp2
  go_ret
  exact ⟨A', rfl, HR.out, B.out⟩
theorem w_bytes (base p : Nat) (v : Value) (bs : List Int) (W : World) (h : Wr W base p v bs) (hbs : bs.length ≤ 140737488355328) :
    Calls Tryz.prog 89 #[.pointer (some ⟨p, 0, none⟩)] W fun e w' => ∃ A, e = .returned (.slice A bs.length bs.length) ∧ RowAt w' A bs.length W.heap.size bs ∧ Below W.heap.size W w' := w_bytes_wide base p v bs W h (by omega)
end Go.Proofs.YtglbdbghcdoicaaGreatDoor
