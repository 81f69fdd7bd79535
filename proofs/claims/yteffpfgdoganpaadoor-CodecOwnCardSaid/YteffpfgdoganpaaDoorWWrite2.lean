/- The Writer's methods Num, Int, Text, Bytes. -/
import Derived.Test.YteffpfgdoganpaaDoorWWrite
import Derived.Laws.BitsAllLaws
import Derived.Lib.AppendStr
namespace Go.Proofs.YteffpfgdoganpaaDoor
open Go.RowKit

theorem w_num_nat (n : Nat) (hn : n ≤ 9223372036854775807) (base p : Nat) (v : Value) (bs : List Int) (W : World) (h : Wr W base p v bs) (hbs : bs.length + 10 ≤ 211106232532992) :
    Calls Tryd.prog 49 #[.pointer (some ⟨p, 0, none⟩), .int .i64 (n : Int)] W fun e w' => e = .returned (.tuple #[]) ∧ ∃ v', Wr w' base p v' (bs ++ sev n) ∧ WrFr W p v w' v' := by
  have C := Lib.hid (w_sevens n (by omega) base p v bs W h hbs)
  clear h hbs
  have h0 : ¬ (n : Int) < 0 := by omega
  go_enter Tryd.func49, Tryd.ntmps49
  go_wp2_with fail
  go_at_call 69; (with_reducible refine C.out.mono ?_); rintro e w1 ⟨rfl, hw⟩
  have HW := Lib.hid hw
  clear hw
  go_wp2
  go_end0
  exact ⟨rfl, HW.out⟩
theorem w_num_neg (n : Int) (hn : n < 0) (base p : Nat) (v : Value) (bs : List Int) (W : World) (h : Wr W base p v bs) (hbs : bs.length + 10 ≤ 211106232532992) :
    Calls Tryd.prog 49 #[.pointer (some ⟨p, 0, none⟩), .int .i64 n] W fun e w' => e = .returned (.tuple #[]) ∧ ∃ v', Wr w' base p v' (bs ++ sev 0) ∧ WrFr W p v w' v' := by
  have C := Lib.hid (show Calls Tryd.prog 69 #[.pointer (some ⟨p, 0, none⟩), .int .u64 0] W _ from w_sevens 0 (by omega) base p v bs W h hbs)
  clear h hbs
  go_enter Tryd.func49, Tryd.ntmps49
  go_wp2_with fail
  go_at_call 69; (with_reducible refine C.out.mono ?_); rintro e w1 ⟨rfl, hw⟩
  have HW := Lib.hid hw
  clear hw
  go_wp2
  go_end0
  exact ⟨rfl, HW.out⟩
theorem w_num (n : Int) (hn : n ≤ 9223372036854775807) (base p : Nat) (v : Value) (bs : List Int) (W : World) (h : Wr W base p v bs) (hbs : bs.length + 10 ≤ 211106232532992) :
    Calls Tryd.prog 49 #[.pointer (some ⟨p, 0, none⟩), .int .i64 n] W fun e w' => e = .returned (.tuple #[]) ∧ ∃ v', Wr w' base p v' (bs ++ sev n.toNat) ∧ WrFr W p v w' v' := by
  by_cases h0 : n < 0
  · have e : n.toNat = 0 := by omega
    rw [e]
    exact w_num_neg n h0 base p v bs W h hbs
  · obtain ⟨m, rfl⟩ : ∃ m : Nat, n = (m : Int) := ⟨n.toNat, by omega⟩
    exact w_num_nat m (by omega) base p v bs W h hbs

/-- The number that Int writes of n. -/
def zz (n : Int) : Nat := if n < 0 then (-2 * n - 1).toNat else (2 * n).toNat
theorem xor_ones (a : Nat) (ha : a < 18446744073709551616) : bits .xor .u64 (a : Int) 18446744073709551615 = ((18446744073709551615 - a : Nat) : Int) := by
  have h := u64_xor_nat a 18446744073709551615 ha (by omega)
  rw [show ((18446744073709551615 : Nat) : Int) = 18446744073709551615 from rfl] at h
  rw [h]
  have e : a ^^^ 18446744073709551615 = 18446744073709551615 - a := by
    have h2 := congrArg BitVec.toNat (BitVec.xor_allOnes (x := BitVec.ofNat 64 a))
    have h3 : a % 18446744073709551616 = a := Nat.mod_eq_of_lt ha
    simpa [BitVec.toNat_xor, BitVec.toNat_not, BitVec.toNat_allOnes, h3] using h2
  rw [e]
theorem xor_zero (a : Nat) (ha : a < 18446744073709551616) : bits .xor .u64 (a : Int) 0 = (a : Int) := by
  have h := u64_xor_nat a 0 ha (by omega)
  simpa using h

theorem w_int_pos (n : Nat) (hn : n < 9223372036854775808) (base p : Nat) (v : Value) (bs : List Int) (W : World) (h : Wr W base p v bs) (hbs : bs.length + 10 ≤ 211106232532992) :
    Calls Tryd.prog 53 #[.pointer (some ⟨p, 0, none⟩), .int .i64 (n : Int)] W fun e w' => e = .returned (.tuple #[]) ∧ ∃ v', Wr w' base p v' (bs ++ sev (2 * n)) ∧ WrFr W p v w' v' := by
  obtain ⟨m, hm⟩ : ∃ m, m = 2 * n := ⟨_, rfl⟩
  rw [← hm]
  have C := Lib.hid (w_sevens m (by omega) base p v bs W h hbs)
  have hx : bits .xor .u64 ((n : Int) * 2) ((n : Int) / 9223372036854775808) = (m : Int) := by
    rw [show (n : Int) / 9223372036854775808 = 0 by omega, show (n : Int) * 2 = (m : Int) by omega]
    exact xor_zero m (by omega)
  clear h hbs hm
  have h0 : (0 : Int) ≤ (n : Int) := by omega
  have h9 : (n : Int) ≤ 9223372036854775807 := by omega
  go_enter Tryd.func53, Tryd.ntmps53
  go_wp2_with fail
  go_at_call 69; (with_reducible refine C.out.mono ?_); rintro e w1 ⟨rfl, hw⟩
  have HW := Lib.hid hw
  clear hw
  go_wp2
  go_end0
  exact ⟨rfl, HW.out⟩
theorem w_int_neg (n : Int) (h1 : n < 0) (hn : -9223372036854775808 ≤ n) (base p : Nat) (v : Value) (bs : List Int) (W : World) (h : Wr W base p v bs) (hbs : bs.length + 10 ≤ 211106232532992) :
    Calls Tryd.prog 53 #[.pointer (some ⟨p, 0, none⟩), .int .i64 n] W fun e w' => e = .returned (.tuple #[]) ∧ ∃ v', Wr w' base p v' (bs ++ sev (-2 * n - 1).toNat) ∧ WrFr W p v w' v' := by
  obtain ⟨m, hm⟩ : ∃ m, m = (-2 * n - 1).toNat := ⟨_, rfl⟩
  rw [← hm]
  have C := Lib.hid (w_sevens m (by omega) base p v bs W h hbs)
  have hx : bits .xor .u64 (IntKind.u64.wrap (IntKind.u64.wrap n * 2)) (IntKind.u64.wrap (n / 9223372036854775808)) = (m : Int) := by
    have e : (((18446744073709551615 - m : Nat) : Nat) : Int) = IntKind.u64.wrap (IntKind.u64.wrap n * 2) := by
      rw [IntKind.wrap_u64, IntKind.wrap_u64]; omega
    have e2 : IntKind.u64.wrap (n / 9223372036854775808) = 18446744073709551615 := by
      rw [IntKind.wrap_u64]; omega
    rw [← e, e2, xor_ones _ (by omega)]
    omega
  clear h hbs hm
  go_enter Tryd.func53, Tryd.ntmps53
  go_wp2_with fail
  go_at_call 69; (with_reducible refine C.out.mono ?_); rintro e w1 ⟨rfl, hw⟩
  have HW := Lib.hid hw
  clear hw
  go_wp2
  go_end0
  exact ⟨rfl, HW.out⟩
theorem w_int (n : Int) (h1 : -9223372036854775808 ≤ n) (h2 : n ≤ 9223372036854775807) (base p : Nat) (v : Value) (bs : List Int) (W : World) (h : Wr W base p v bs) (hbs : bs.length + 10 ≤ 211106232532992) :
    Calls Tryd.prog 53 #[.pointer (some ⟨p, 0, none⟩), .int .i64 n] W fun e w' => e = .returned (.tuple #[]) ∧ ∃ v', Wr w' base p v' (bs ++ sev (zz n)) ∧ WrFr W p v w' v' := by
  unfold zz
  by_cases h0 : n < 0
  · rw [if_pos h0]
    exact w_int_neg n h0 h1 base p v bs W h hbs
  · rw [if_neg h0]
    obtain ⟨m, rfl⟩ : ∃ m : Nat, n = (m : Int) := ⟨n.toNat, by omega⟩
    have e : (2 * (m : Int)).toNat = 2 * m := by omega
    rw [e]
    exact w_int_pos m (by omega) base p v bs W h hbs

/-- A string's bytes. -/
def strB (s : ByteArray) : List Int := s.data.toList.map fun b => (b.toNat : Int)
theorem strB_cells (s : ByteArray) : Lib.strCells s = bvs (strB s) := by simp [Lib.strCells, bvs, strB]
theorem strB_len (s : ByteArray) : (strB s).length = s.size := by simp [strB]

theorem run_append_text_wide (w : World) (base : Nat) (ty : TypeId) (v : Value) (n : Nat) (xs : List Int) (hown : w.ownsRow base 5 1 v n (bvs xs)) (s : ByteArray) (h63 : n + s.size ≤ 211106232532992) (hbase : base ≤ w.heap.size) :
    ∃ v' w', (Builtin.append_ #[45, 9] ty #[v, .string s]).run Tryd.prog w = .ok v' w' ∧ w'.ownsRow base 5 1 v' (n + s.size) (bvs xs ++ bvs (strB s)) ∧ w.grownBy w' v.ownBlock ∧ (v'.ownBlock = v.ownBlock ∨ v'.ownBlock = some w.heap.size) := by
  obtain ⟨i0, hi, hz0, hz1, hz2⟩ := info_parts info_u8
  have hxl : (bvs xs).length = n := by simpa using hown.1
  have hsl : (Lib.strCells s).length = s.size := by rw [strB_cells, bvs_len, strB_len]
  rw [← strB_cells]
  -- a row that has moved
  have moved : ∀ (ws : Array Value) (cap : Nat) (W1 : World) (b : Option Nat), W1 = w.drew.alloc (.cells ws 5) → n + s.size ≤ cap → cap ≤ maxLen → ws.size = cap → ws.toList.take (n + s.size) = bvs xs ++ Lib.strCells s →
      W1.ownsRow base 5 1 (.slice (some ⟨w.heap.size, 0, none⟩) (n + s.size) cap) (n + s.size) (bvs xs ++ Lib.strCells s) ∧ w.grownBy W1 b := fun ws cap W1 b e h1 h2 h3 h4 => by
    subst e
    exact ⟨⟨by rw [List.length_append, hxl, hsl, Nat.mul_one], .inr ⟨w.heap.size, cap, ws, rfl, hbase, heap_alloc_new w.drew _, h1, h2, by rw [h3, Nat.mul_one], by rw [Nat.mul_one]; exact h4⟩⟩, ⟨rfl, rfl, rfl, by simp, fun k hk _ => heap_alloc_old w.drew _ hk⟩⟩
  have hge := fun old => grownCap_ge w (n + s.size) old 5
  have hcm := fun old => grownCap_le_maxLen w (n + s.size) old 5 (by unfold maxLen; omega)
  have hz1' : (Value.int IntKind.u8 0).cells.size = 1 := rfl
  have wsz : ∀ (old : Nat), ((bvs xs).toArray ++ (Lib.strCells s).toArray ++ Builtin.zeroCells (Value.int .u8 0).cells (grownCap w (n + s.size) old 5 - (n + s.size))).size = grownCap w (n + s.size) old 5 := fun old => by
    have := hge old
    simp only [Array.size_append, List.size_toArray, size_zeroCells, hz1', hxl, hsl]
    omega
  have wtk : ∀ (old : Nat), ((bvs xs).toArray ++ (Lib.strCells s).toArray ++ Builtin.zeroCells (Value.int .u8 0).cells (grownCap w (n + s.size) old 5 - (n + s.size))).toList.take (n + s.size) = bvs xs ++ Lib.strCells s := fun old => by
    have e : n + s.size = (bvs xs ++ Lib.strCells s).length := by rw [List.length_append, hxl, hsl]
    simp only [Array.toList_append]
    rw [e]
    exact List.take_left
  rcases hown.2 with ⟨rfl, rfl⟩ | ⟨g, cap, cur, rfl, hbg, hg, hnc, hcap, hcs, htk⟩
  · by_cases hm : s.size = 0
    · obtain ⟨v', w', hr, h2, h3, h4⟩ := Lib.run_append_own_string (P := Tryd.prog) w base 45 9 ty 5 i0 Tryd.underlying45 Tryd.underlying9 hi hz0 hz1 hz2 (.slice none 0 0) 0 (bvs xs) hown s (by unfold maxLen; omega) (by omega) hbase
      exact ⟨v', w', hr, h2, h3, by rw [h4.2 ⟨rfl, hm⟩]; exact .inl rfl⟩
    · have hr := run_append_nil_string (P := Tryd.prog) w 45 9 ty 5 i0 _ Tryd.underlying45 Tryd.underlying9 hi hz0 s (by omega) (by omega) (by rw [hz2]; omega)
      have hx0 : bvs xs = [] := List.eq_nil_of_length_eq_zero hxl
      have e1 : (s.data.map fun b => Value.int .u8 b.toNat) = (bvs xs).toArray ++ (Lib.strCells s).toArray := by
        rw [hx0]
        apply Array.ext'
        simp [Lib.strCells]
      rw [e1] at hr
      have hmv := moved _ (grownCap w (0 + s.size) 0 5) _ (Value.ownBlock (.slice none 0 0)) rfl (hge 0) (hcm 0) (wsz 0) (wtk 0)
      simp only [Nat.zero_add] at hmv ⊢
      exact ⟨_, _, hr, hmv.1, hmv.2, .inr rfl⟩
  · by_cases hroom : n + s.size ≤ cap
    · have hcs' : cur.size = cap := by simpa using hcs
      have hr := Lib.run_append_room_string (P := Tryd.prog) w 45 9 ty 5 i0 Tryd.underlying45 Tryd.underlying9 hi hz1 g n cap cur hg s hroom (by omega)
      have ht' : cur.toList.take n = bvs xs := by simpa using htk
      refine ⟨_, _, hr, ⟨by rw [List.length_append, hxl, hsl, Nat.mul_one], .inr ⟨g, cap, _, rfl, hbg, setRow_heap w g cur _ _ _ hg, hroom, hcap, ?_, ?_⟩⟩, ⟨rfl, rfl, rfl, by simp, fun k _ hk => setRow_other w g k _ (fun e => hk (by simp [Value.ownBlock, e]))⟩, .inl rfl⟩
      · simp only [List.size_toArray, List.length_append, List.length_take, List.length_drop, Array.length_toList, hsl]
        omega
      · have e : (n + s.size) * 1 = (bvs xs ++ Lib.strCells s).length := by rw [List.length_append, hxl, hsl, Nat.mul_one]
        rw [ht', e]
        exact List.take_left
    · have hr := Lib.run_append_grow_string (P := Tryd.prog) w 45 9 ty 5 i0 _ Tryd.underlying45 Tryd.underlying9 hi hz0 ⟨g, 0, none⟩ n cap (bvs xs) (by rw [hz1]; exact hown.1) (hown.cells (g := g) rfl) s (by omega) (by omega) (by rw [hz2]; exact growslice_fits_wide (by omega) (by omega))
      have hmv := moved _ (grownCap w (n + s.size) cap 5) _ (Value.ownBlock (.slice (some ⟨g, 0, none⟩) n cap)) rfl (hge cap) (hcm cap) (wsz cap) (wtk cap)
      exact ⟨_, _, hr, hmv.1, hmv.2, .inr rfl⟩

section
variable {w : World}
theorem wpList_append_text {ops : Array Oper} {rest : List Oper} {o : Oper} {a : Act} {Q : Exit → Act → World → Prop} (hgd : o.guard = none) (sl x : Operand)
    (ho : o.op = .call { callee := .builtin .append, args := #[sl, x], argTypes := #[45, 9] })
    (base : Nat) (v : Value) (n : Nat) (xs : List Int) (hs : a.eval sl = v) (hown : w.ownsRow base 5 1 v n (bvs xs)) (s : ByteArray) (hx : a.eval x = .string s)
    (h63 : n + s.size ≤ 211106232532992) (hbase : base ≤ w.heap.size)
    (h : ∀ v' w', w'.ownsRow base 5 1 v' (n + s.size) (bvs xs ++ bvs (strB s)) → w.grownBy w' v.ownBlock → (v'.ownBlock = v.ownBlock ∨ v'.ownBlock = some w.heap.size) → wpList Tryd.prog ops Q rest (a.put o.dst v') w') :
    wpList Tryd.prog ops Q (o :: rest) a w := by
  obtain ⟨i0, hi, hz0, hz1, hz2⟩ := info_parts info_u8
  refine wpList_plain hgd fun K hK => ?_
  obtain ⟨v', w', hr, h2, h3, hblk⟩ := run_append_text_wide w base o.type v n xs hown s h63 hbase
  unfold Oper.wp execOp
  simp only [ho, resolve, invoke, builtin, Sem.run_bind, Sem.run_pure, Result.andThen_ok, List.map_toArray, List.map_cons, List.map_nil, hs, hx, hr]
  exact hK _ _ (h v' w' h2 h3 hblk)
end

set_option maxHeartbeats 1000000 in
set_option maxRecDepth 100000 in
theorem w_text (s : ByteArray) (base p : Nat) (v : Value) (bs : List Int) (W : World) (h : Wr W base p v bs) (hbs : bs.length + 10 + s.size ≤ 211106232532992) :
    Calls Tryd.prog 77 #[.pointer (some ⟨p, 0, none⟩), .string s] W fun e w' => e = .returned (.tuple #[]) ∧ ∃ v', Wr w' base p v' (bs ++ sev s.size ++ strB s) ∧ WrFr W p v w' v' := by
  have C := Lib.hid (w_num_nat s.size (by omega) base p v bs W h (by omega))
  have HB := Lib.hid hbs
  have HN := Lib.hid (sev_len10 s.size (by omega))
  clear h hbs
  go_enter Tryd.func77, Tryd.ntmps77
  go_wp2_with fail
  go_at_call 49; (with_reducible refine C.out.mono ?_); rintro e w1 ⟨rfl, v1, hw, hf⟩
  obtain ⟨cur, hcur⟩ : ∃ cur, cur = bs ++ sev s.size := ⟨_, rfl⟩
  rw [← hcur] at hw
  obtain ⟨A, c, rfl, _, _, _⟩ := owned_form hw.own
  have H1 := Lib.hid hw
  have F1 := Lib.hid hf
  have HC := Lib.hid hcur
  have S1 := Lib.hid (show base ≤ w1.heap.size from Nat.le_trans hw.base (Nat.le_of_lt hw.blk.lt))
  have p0 : w1.cell? ⟨p, 0, none⟩ = some (.slice A cur.length c) := hw.blk.cell 0
  clear hw hf hcur
  go_wp2_with (at_builtin; refine wpList_append_text rfl _ _ rfl base _ _ cur rfl H1.out.own s rfl (by have := HB.out; have := HN.out; rw [HC.out, List.length_append]; omega) S1.out ?_
               intro v' w2 hown hg hv
               obtain ⟨A', c', rfl, _, _, _⟩ := owned_form hown
               have q0 : w2.cell? ⟨p, 0, none⟩ = some (.slice A cur.length c) := (H1.out.blk.grown hg (fun e => H1.out.ne e.symm)).cell 0
               have q1 : w2.frozen? ⟨p, 0, none⟩ = false := (H1.out.blk.grown hg (fun e => H1.out.ne e.symm)).frozen 0
               have HW := Lib.hid (H1.out.put (more := strB s) (by rw [strB_len]; exact hown) hg hv)
               clear hown hg hv)
  go_end0
  exact ⟨rfl, _, by rw [← HC.out]; exact HW.out.1, F1.out.trans HW.out.2⟩
end Go.Proofs.YteffpfgdoganpaaDoor
