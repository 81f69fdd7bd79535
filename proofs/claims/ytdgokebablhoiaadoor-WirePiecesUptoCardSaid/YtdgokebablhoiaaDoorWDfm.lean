/- The document's Frames; the program's with a fault. -/
import Derived.Test.YtdgokebablhoiaaDoorWOwO
import Derived.Test.YtdgokebablhoiaaDoorWNextP
import Derived.Test.YtdgokebablhoiaaDoorWIs
namespace Go.Proofs.YtdgokebablhoiaaDoor
open Go.RowKit

theorem RowAt.lt2 {W : World} {A : Option Addr} {n lo g : Nat} {xs : List Int} (h : RowAt W A n lo xs) (hA : A = some ⟨g, 0, none⟩) : lo ≤ g ∧ g < W.heap.size := by
  rcases h with ⟨rfl, _, _⟩ | ⟨g', cur, rfl, h1, hg, _⟩
  · cases hA
  · cases hA; exact ⟨h1, hg.lt⟩
theorem RowAt.turn2 {W W' : World} {A : Option Addr} {n lo : Nat} {xs : List Int} {S : Nat → Prop} (h : RowAt W A n lo xs) (ht : Tur S W W') (hS : ∀ g, A = some ⟨g, 0, none⟩ → ¬ S g) : RowAt W' A n lo xs := by
  rcases h with h | ⟨g, cur, rfl, h1, hg, r⟩
  · exact .inl h
  · exact .inr ⟨g, cur, rfl, h1, hg.tur ht (hS g rfl), r⟩
set_option maxRecDepth 100000 in
theorem ff_feed (q g : Nat) (m v : Value) (A : Option Addr) (n c : Nat) (W : World) (h : Blk W q 108 #[m, v, errV g]) (hg : Blk W g 102 #[.int .i64 14, .int .i64 0]) :
    Calls Tryd.prog 37 #[.pointer (some ⟨q, 0, none⟩), .slice A n c] W fun e w' => e = .returned (.tuple #[]) ∧ W = w' := by
  have p2 : W.cell? ⟨q, 2, none⟩ = some (errV g) := h.cell 2
  have C := Lib.hid (show Calls Tryd.prog 34 #[errV g, .iface 35 (.int .i64 14)] W fun e w' => e = .returned (.bool true) ∧ W = w' from is_err g 14 0 14 W hg)
  clear h hg
  go_enter Tryd.func37, Tryd.ntmps37
  go_wp2_with fail
  go_at_call 34; (with_reducible refine C.out.mono ?_); rintro e w1 ⟨rfl, rfl⟩
  go_wp2
  go_end0
  exact ⟨rfl, rfl⟩
set_option maxRecDepth 100000 in
theorem ff_next (q g : Nat) (m v : Value) (W : World) (h : Blk W q 108 #[m, v, errV g]) (hg : Blk W g 102 #[.int .i64 14, .int .i64 0]) :
    Calls Tryd.prog 40 #[.pointer (some ⟨q, 0, none⟩)] W fun e w' => e = .returned (.tuple #[.slice none 0 0, .bool false, .int .i64 14]) ∧ W = w' := by
  have p2 : W.cell? ⟨q, 2, none⟩ = some (errV g) := h.cell 2
  have C := Lib.hid (show Calls Tryd.prog 34 #[errV g, .iface 35 (.int .i64 14)] W fun e w' => e = .returned (.bool true) ∧ W = w' from is_err g 14 0 14 W hg)
  clear h hg
  go_enter Tryd.func40, Tryd.ntmps40
  go_wp2_with fail
  go_at_call 34; (with_reducible refine C.out.mono ?_); rintro e w1 ⟨rfl, rfl⟩
  go_wp2
  exact bodyPost_ret (v := .tuple #[.slice none 0 0, .bool false, .int .i64 14]) (by simp [results, Tryd.results40, go_sem]) rfl ⟨rfl, rfl⟩

/-- The document's Frames. -/
structure Df (W : World) (base r : Nat) (most : Int) (v : Value) (bs : List Int) : Prop where
  blk : Blk W r 69 #[.int .i64 most, v, .bool false]
  own : OwO W base v bs
  ne : v.ownBlock ≠ some r
  base : base ≤ r
set_option maxRecDepth 100000 in
theorem d_new_no (most : Int) (W : World) (h : most < 1 ∨ 65536 < most) :
    Calls Tryd.prog 36 #[.int .i64 most] W fun e w' => e = .returned (.tuple #[.pointer none, .int .i64 1]) ∧ W = w' := by
  rcases h with h | h
  · have h1 : decide (most < 1) = true := by simpa using h
    clear h
    go_enter Tryd.func36, Tryd.ntmps36
    go_wp2
    go_ret2
    exact ⟨rfl, rfl⟩
  · have h1 : decide (most < 1) = false := by simp; omega
    have h2 : decide (65536 < most) = true := by simpa using h
    clear h
    go_enter Tryd.func36, Tryd.ntmps36
    go_wp2
    go_ret2
    exact ⟨rfl, rfl⟩
set_option maxRecDepth 100000 in
theorem d_new_yes (most : Int) (W : World) (h1 : 1 ≤ most) (h2 : most ≤ 65536) :
    Calls Tryd.prog 36 #[.int .i64 most] W fun e w' => e = .returned (.tuple #[.pointer (some ⟨W.heap.size, 0, none⟩), .int .i64 0]) ∧ Df w' W.heap.size W.heap.size most (.slice none 0 0) [] ∧ Below W.heap.size W w' := by
  have e1 : decide (most < 1) = false := by simp; omega
  have e2 : decide (65536 < most) = false := by simp; omega
  clear h1 h2
  go_enter Tryd.func36, Tryd.ntmps36
  go_wp2
  go_ret2
  exact ⟨rfl, ⟨Blk.new _ _ _, OwO.nil _ _, by simp [Value.ownBlock], Nat.le_refl _⟩, (Below.refl _ _).alloc (Nat.le_refl _) _⟩
section
variable {W W1 : World} {base r : Nat} {most : Int} {v v1 : Value} {bs bs1 : List Int}
theorem Df.kept (h : Df W base r most v bs) (hb : Below W.heap.size W W1) : Df W1 base r most v bs :=
  ⟨h.blk.kept hb, h.own.kept (Tur.of_below (S := fun _ => False) hb) (fun _ _ h => h), h.ne, h.base⟩
theorem Df.put {more : List Int} (h : Df W base r most v bs) (hown : OwO W1 base v1 (bs ++ more)) (hg : W.grownBy W1 v.ownBlock) (hv : v1.ownBlock = v.ownBlock ∨ ∃ k, v1.ownBlock = some k ∧ W.heap.size ≤ k) :
    Df (W1.setCell ⟨r, 1, none⟩ v1) base r most v1 (bs ++ more) ∧ WrFr W r v (W1.setCell ⟨r, 1, none⟩ v1) v1 := by
  have hp : Blk W1 r 69 #[.int .i64 most, v, .bool false] := h.blk.grown hg (fun e => h.ne e.symm)
  have hne : v1.ownBlock ≠ some r := by
    rcases hv with e | ⟨k, e, hk⟩
    · rw [e]; exact h.ne
    · rw [e]; intro e2; cases e2
      have := h.blk.lt
      omega
  exact ⟨⟨hp.set_ 1 v1, hown.kept (S := (· = r)) (Tur.setCell (S := (· = r)) (p := ⟨r, 1, none⟩) (Tur.refl _ _) (.inl rfl) v1) (fun k hk e => hne (e ▸ hk)), hne, h.base⟩,
    (Tur.of_grown (S := WrS r v) hg (fun k hk => .inr hk)).setCell (p := ⟨r, 1, none⟩) (.inl (.inl rfl)) v1, hv⟩
end
set_option maxRecDepth 100000 in
theorem d_feed (A : Option Addr) (n c : Nat) (xs : List Int) (base r : Nat) (most : Int) (v : Value) (bs : List Int) (W : World) (h : Df W base r most v bs) (hl : xs.length = n) (hx : CellsAt W A (bvs xs)) (hA : A = none → c = 0) (hn : bs.length + n ≤ 140737488355328) :
    Calls Tryd.prog 38 #[.pointer (some ⟨r, 0, none⟩), .slice A n c] W fun e w' => e = .returned (.tuple #[]) ∧ ∃ v', Df w' base r most v' (bs ++ xs) ∧ WrFr W r v w' v' := by
  obtain ⟨A1, c1, hv, _, _, _⟩ := h.own.cellsAt
  obtain ⟨l1, hl1⟩ : ∃ l1, l1 = bs.length := ⟨_, rfl⟩
  rw [← hl1] at hv
  subst hv
  have H := Lib.hid h
  have HX := Lib.hid hx
  have HL := Lib.hid hl
  have HA := Lib.hid hA
  have HN := Lib.hid hn
  have p1 : W.cell? ⟨r, 1, none⟩ = some (.slice A1 l1 c1) := h.blk.cell 1
  have p2 : W.cell? ⟨r, 2, none⟩ = some (.bool false) := h.blk.cell 2
  have S1 := Lib.hid (show base ≤ W.heap.size from Nat.le_trans h.base (Nat.le_of_lt h.blk.lt))
  clear h hl hx hA hn hl1
  go_enter Tryd.func38, Tryd.ntmps38
  go_wp2_with (at_builtin; refine wpList_append_oo rfl _ _ rfl base _ bs rfl H.out.own A n c HA.out xs rfl HL.out HX.out HN.out S1.out ?_
               intro v' w2 hown hg hv
               obtain ⟨A', c', hv', _, _, _⟩ := hown.cellsAt
               obtain ⟨l2, hl2⟩ : ∃ l2, l2 = (bs ++ xs).length := ⟨_, rfl⟩
               rw [← hl2] at hv'
               subst hv'
               clear hl2
               have hb2 := H.out.blk.grown hg (fun e => H.out.ne e.symm)
               have q1 : w2.cell? ⟨r, 1, none⟩ = some (.slice A1 l1 c1) := hb2.cell 1
               have q2 : w2.frozen? ⟨r, 1, none⟩ = false := hb2.frozen 1
               have HPUT := Lib.hid (H.out.put hown hg hv)
               clear hown hg hv hb2)
  go_end0
  exact ⟨rfl, _, HPUT.out.1, HPUT.out.2⟩

theorem or_pow (s a c : Nat) (ha : a * 2 ^ s < 4611686018427387904) (hs : 2 ^ s ≤ 4611686018427387904) (hc : c < 2 ^ s) : bits .or .i64 ((a * 2 ^ s : Nat) : Int) (c : Int) = ((a * 2 ^ s + c : Nat) : Int) := by
  have h1 : ∀ m : Nat, m < 18446744073709551616 → (BitVec.ofInt 64 (m : Int)).toNat = m := fun m hm => by
    rw [BitVec.ofInt_natCast, BitVec.toNat_ofNat]; exact Nat.mod_eq_of_lt (by omega)
  show IntKind.i64.wrap ((BitVec.ofInt 64 ((a * 2 ^ s : Nat) : Int) ||| BitVec.ofInt 64 (c : Int)).toNat : Int) = _
  rw [BitVec.toNat_or, h1 _ (by omega), h1 _ (by omega)]
  have h2 : a * 2 ^ s ||| c = a * 2 ^ s + c := by
    have h := Nat.two_pow_add_eq_or_of_lt (i := s) (b := c) hc a
    rw [Nat.mul_comm a]
    exact h.symm
  rw [h2, IntKind.wrap_i64]
  omega
/-- The number of four bytes, as the document reckons it. -/
theorem or4_1 (b0 b1 : Nat) (k0 : b0 < 256) (k1 : b1 < 256) : bits .or .i64 ((b0 : Int) * 16777216) ((b1 : Int) * 65536) = (((b0 * 256 + b1) * 65536 : Nat) : Int) := by
  have h := or_pow 24 b0 (b1 * 65536) (by omega) (by decide) (by omega)
  rw [show ((b0 * 2 ^ 24 : Nat) : Int) = (b0 : Int) * 16777216 by omega, show ((b1 * 65536 : Nat) : Int) = (b1 : Int) * 65536 by omega] at h
  rw [h, show b0 * 2 ^ 24 + b1 * 65536 = (b0 * 256 + b1) * 65536 by omega]
theorem or4_2 (a b2 : Nat) (ka : a < 65536) (k2 : b2 < 256) : bits .or .i64 ((a * 65536 : Nat) : Int) ((b2 : Int) * 256) = (((a * 256 + b2) * 256 : Nat) : Int) := by
  have h := or_pow 16 a (b2 * 256) (by omega) (by decide) (by omega)
  rw [show ((b2 * 256 : Nat) : Int) = (b2 : Int) * 256 by omega] at h
  rw [show (a * 65536 : Nat) = a * 2 ^ 16 by omega, h, show a * 2 ^ 16 + b2 * 256 = (a * 256 + b2) * 256 by omega]
theorem or4_3 (a b3 : Nat) (ka : a < 16777216) (k3 : b3 < 256) : bits .or .i64 ((a * 256 : Nat) : Int) (b3 : Int) = ((a * 256 + b3 : Nat) : Int) := by
  have h := or_pow 8 a b3 (by omega) (by decide) (by omega)
  rw [show (a * 256 : Nat) = a * 2 ^ 8 by omega, h]
set_option maxRecDepth 100000 in
theorem d_next_fault (r : Nat) (m v : Value) (W : World) (h : Blk W r 69 #[m, v, .bool true]) :
    Calls Tryd.prog 41 #[.pointer (some ⟨r, 0, none⟩)] W fun e w' => e = .returned (.tuple #[.slice none 0 0, .bool false, .int .i64 14]) ∧ W = w' := by
  have p2 : W.cell? ⟨r, 2, none⟩ = some (.bool true) := h.cell 2
  clear h
  go_enter Tryd.func41, Tryd.ntmps41
  go_wp2
  exact bodyPost_ret (v := .tuple #[.slice none 0 0, .bool false, .int .i64 14]) (by simp [results, Tryd.results41, go_sem]) rfl ⟨rfl, rfl⟩
set_option maxRecDepth 100000 in
theorem d_feed_fault (r : Nat) (m v : Value) (A : Option Addr) (n c : Nat) (W : World) (h : Blk W r 69 #[m, v, .bool true]) :
    Calls Tryd.prog 38 #[.pointer (some ⟨r, 0, none⟩), .slice A n c] W fun e w' => e = .returned (.tuple #[]) ∧ W = w' := by
  have p2 : W.cell? ⟨r, 2, none⟩ = some (.bool true) := h.cell 2
  clear h
  go_enter Tryd.func38, Tryd.ntmps38
  go_wp2
  go_end0
  exact ⟨rfl, rfl⟩
set_option maxRecDepth 100000 in
theorem d_next_short (base r : Nat) (most : Int) (A : Option Addr) (n c : Nat) (bs : List Int) (W : World) (h : Df W base r most (.slice A n c) bs) (hn : n < 4) :
    Calls Tryd.prog 41 #[.pointer (some ⟨r, 0, none⟩)] W fun e w' => e = .returned (.tuple #[.slice none 0 0, .bool false, .int .i64 0]) ∧ W = w' := by
  have p1 : W.cell? ⟨r, 1, none⟩ = some (.slice A n c) := h.blk.cell 1
  have p2 : W.cell? ⟨r, 2, none⟩ = some (.bool false) := h.blk.cell 2
  clear h
  go_enter Tryd.func41, Tryd.ntmps41
  go_wp2
  exact bodyPost_ret (v := .tuple #[.slice none 0 0, .bool false, .int .i64 0]) (by simp [results, Tryd.results41, go_sem]) rfl ⟨rfl, rfl⟩
set_option maxHeartbeats 1000000 in
set_option maxRecDepth 100000 in
theorem d_next_bad (base r : Nat) (most : Int) (g off cap : Nat) (b0 b1 b2 b3 : Nat) (k0 : b0 < 256) (k1 : b1 < 256) (k2 : b2 < 256) (k3 : b3 < 256) (rest : List Int) (W : World) (v : Value) (h : Df W base r most v ((b0 : Int) :: b1 :: b2 :: b3 :: rest)) (hf : OwOForm W base g off cap v ((b0 : Int) :: b1 :: b2 :: b3 :: rest)) (hb : be4 b0 b1 b2 b3 < 1 ∨ most < (be4 b0 b1 b2 b3 : Int)) :
    Calls Tryd.prog 41 #[.pointer (some ⟨r, 0, none⟩)] W fun e w' => e = .returned (.tuple #[.slice none 0 0, .bool false, .int .i64 14]) ∧ Blk w' r 69 #[.int .i64 most, v, .bool true] ∧ Tur (· = r) W w' := by
  obtain ⟨n, hn⟩ : ∃ n, n = ((b0 : Int) :: b1 :: b2 :: b3 :: rest).length := ⟨_, rfl⟩
  have hv := hf.val
  rw [← hn] at hv
  subst hv
  have h4 : 4 ≤ n := by rw [hn]; simp
  have H := Lib.hid h
  have p0 : W.cell? ⟨r, 0, none⟩ = some (.int .i64 most) := h.blk.cell 0
  have p1 : W.cell? ⟨r, 1, none⟩ = some (.slice (some ⟨g, off, none⟩) n cap) := h.blk.cell 1
  have p2 : W.cell? ⟨r, 2, none⟩ = some (.bool false) := h.blk.cell 2
  have pf : W.frozen? ⟨r, 2, none⟩ = false := h.blk.frozen 2
  have g0 : W.cell? ⟨g, off, none⟩ = some (.int .u8 (b0 : Int)) := hf.cells 0 (by simp)
  have g1 : W.cell? ⟨g, off + 1, none⟩ = some (.int .u8 (b1 : Int)) := hf.cells 1 (by simp)
  have g2 : W.cell? ⟨g, off + 2, none⟩ = some (.int .u8 (b2 : Int)) := hf.cells 2 (by simp)
  have g3 : W.cell? ⟨g, off + 3, none⟩ = some (.int .u8 (b3 : Int)) := hf.cells 3 (by simp)
  have o1 := or4_1 b0 b1 k0 k1
  have o2 := or4_2 (b0 * 256 + b1) b2 (by omega) k2
  have o3 := or4_3 ((b0 * 256 + b1) * 256 + b2) b3 (by omega) k3
  obtain ⟨N, hN⟩ : ∃ N, N = be4 b0 b1 b2 b3 := ⟨_, rfl⟩
  have hN9 : N ≤ 4294967295 := by rw [hN]; unfold be4; omega
  rw [← hN] at hb
  rw [show ((b0 * 256 + b1) * 256 + b2) * 256 + b3 = N by rw [hN]; rfl] at o3
  generalize ((b0 * 256 + b1) * 65536 : Nat) = N1 at o1 o2
  generalize (((b0 * 256 + b1) * 256 + b2) * 256 : Nat) = N2 at o2 o3
  clear h hf hn hN
  go_enter Tryd.func41, Tryd.ntmps41
  go_wp2
  go_quiet (fail)
  have HQ := Lib.hid (H.out.blk.drewN nq)
  have p0 : (W.drewN nq).cell? ⟨r, 0, none⟩ = some (.int .i64 most) := HQ.out.cell 0
  have pf : (W.drewN nq).frozen? ⟨r, 2, none⟩ = false := HQ.out.frozen 2
  clear o1 o2 o3 g0 g1 g2 g3
  by_cases hN1 : N < 1
  · have h1 : decide ((N : Int) < 1) = true := by simp; omega
    clear hb
    go_wp2
    exact bodyPost_ret (v := .tuple #[.slice none 0 0, .bool false, .int .i64 14]) (by simp [results, Tryd.results41, go_sem]) rfl ⟨rfl, HQ.out.set_ 2 _, Tur.setCell (S := (· = r)) (p := ⟨r, 2, none⟩) (Tur.of_below (below_drewN (Below.refl _ _) _)) (.inl rfl) _⟩
  · have hm : most < (N : Int) := by omega
    have h1 : decide ((N : Int) < 1) = false := by simp; omega
    have h2 : decide (most < (N : Int)) = true := by simpa using hm
    clear hb hN1
    go_wp2
    exact bodyPost_ret (v := .tuple #[.slice none 0 0, .bool false, .int .i64 14]) (by simp [results, Tryd.results41, go_sem]) rfl ⟨rfl, HQ.out.set_ 2 _, Tur.setCell (S := (· = r)) (p := ⟨r, 2, none⟩) (Tur.of_below (below_drewN (Below.refl _ _) _)) (.inl rfl) _⟩
set_option maxHeartbeats 1000000 in
set_option maxRecDepth 100000 in
theorem d_next_wait (base r : Nat) (most : Int) (g off cap : Nat) (b0 b1 b2 b3 : Nat) (k0 : b0 < 256) (k1 : b1 < 256) (k2 : b2 < 256) (k3 : b3 < 256) (rest : List Int) (W : World) (v : Value) (h : Df W base r most v ((b0 : Int) :: b1 :: b2 :: b3 :: rest)) (hf : OwOForm W base g off cap v ((b0 : Int) :: b1 :: b2 :: b3 :: rest)) (hb : ¬ (be4 b0 b1 b2 b3 < 1 ∨ most < (be4 b0 b1 b2 b3 : Int))) (hw : rest.length < be4 b0 b1 b2 b3) (hbig : rest.length ≤ 140737488355328) :
    Calls Tryd.prog 41 #[.pointer (some ⟨r, 0, none⟩)] W fun e w' => e = .returned (.tuple #[.slice none 0 0, .bool false, .int .i64 0]) ∧ Below W.heap.size W w' := by
  obtain ⟨n, hn⟩ : ∃ n, n = ((b0 : Int) :: b1 :: b2 :: b3 :: rest).length := ⟨_, rfl⟩
  have hv := hf.val
  rw [← hn] at hv
  subst hv
  have h4 : 4 ≤ n := by rw [hn]; simp
  have H := Lib.hid h
  have p0 : W.cell? ⟨r, 0, none⟩ = some (.int .i64 most) := h.blk.cell 0
  have p1 : W.cell? ⟨r, 1, none⟩ = some (.slice (some ⟨g, off, none⟩) n cap) := h.blk.cell 1
  have p2 : W.cell? ⟨r, 2, none⟩ = some (.bool false) := h.blk.cell 2
  have pf : W.frozen? ⟨r, 2, none⟩ = false := h.blk.frozen 2
  have g0 : W.cell? ⟨g, off, none⟩ = some (.int .u8 (b0 : Int)) := hf.cells 0 (by simp)
  have g1 : W.cell? ⟨g, off + 1, none⟩ = some (.int .u8 (b1 : Int)) := hf.cells 1 (by simp)
  have g2 : W.cell? ⟨g, off + 2, none⟩ = some (.int .u8 (b2 : Int)) := hf.cells 2 (by simp)
  have g3 : W.cell? ⟨g, off + 3, none⟩ = some (.int .u8 (b3 : Int)) := hf.cells 3 (by simp)
  have o1 := or4_1 b0 b1 k0 k1
  have o2 := or4_2 (b0 * 256 + b1) b2 (by omega) k2
  have o3 := or4_3 ((b0 * 256 + b1) * 256 + b2) b3 (by omega) k3
  obtain ⟨N, hN⟩ : ∃ N, N = be4 b0 b1 b2 b3 := ⟨_, rfl⟩
  have hN9 : N ≤ 4294967295 := by rw [hN]; unfold be4; omega
  rw [← hN] at hb hw
  have hn2 : n = rest.length + 4 := by rw [hn]; simp
  have hn9 : (n : Int) ≤ 140737488355332 := by omega
  rw [show ((b0 * 256 + b1) * 256 + b2) * 256 + b3 = N by rw [hN]; rfl] at o3
  generalize ((b0 * 256 + b1) * 65536 : Nat) = N1 at o1 o2
  generalize (((b0 * 256 + b1) * 256 + b2) * 256 : Nat) = N2 at o2 o3
  clear h hf hn hN
  go_enter Tryd.func41, Tryd.ntmps41
  go_wp2
  go_quiet (fail)
  have HQ := Lib.hid (H.out.blk.drewN nq)
  have p0 : (W.drewN nq).cell? ⟨r, 0, none⟩ = some (.int .i64 most) := HQ.out.cell 0
  have p1 : (W.drewN nq).cell? ⟨r, 1, none⟩ = some (.slice (some ⟨g, off, none⟩) n cap) := HQ.out.cell 1
  have h1 : decide ((N : Int) < 1) = false := by simp; omega
  have hm2 : (N : Int) ≤ most := by omega
  have h2 : decide (most < (N : Int)) = false := by simpa using hm2
  have h3 : decide ((n : Int) - 4 < (N : Int)) = true := by simp; omega
  clear o1 o2 o3 g0 g1 g2 g3 hb hw hn2
  go_wp2
  exact bodyPost_ret (v := .tuple #[.slice none 0 0, .bool false, .int .i64 0]) (by simp [results, Tryd.results41, go_sem]) rfl ⟨rfl, below_drewN (Below.refl _ _) _⟩
set_option maxHeartbeats 1000000 in
set_option maxRecDepth 100000 in
theorem d_next_yes (base r : Nat) (most : Int) (g off cap : Nat) (b0 b1 b2 b3 : Nat) (k0 : b0 < 256) (k1 : b1 < 256) (k2 : b2 < 256) (k3 : b3 < 256) (rest : List Int) (W : World) (v : Value) (h : Df W base r most v ((b0 : Int) :: b1 :: b2 :: b3 :: rest)) (hf : OwOForm W base g off cap v ((b0 : Int) :: b1 :: b2 :: b3 :: rest)) (hb : ¬ (be4 b0 b1 b2 b3 < 1 ∨ most < (be4 b0 b1 b2 b3 : Int))) (hw : ¬ rest.length < be4 b0 b1 b2 b3) (hbig : rest.length ≤ 140737488355328) :
    Calls Tryd.prog 41 #[.pointer (some ⟨r, 0, none⟩)] W fun e w' => ∃ A' c', e = .returned (.tuple #[.slice A' (be4 b0 b1 b2 b3) c', .bool true, .int .i64 0]) ∧ RowAt w' A' (be4 b0 b1 b2 b3) W.heap.size (rest.take (be4 b0 b1 b2 b3)) ∧ ∃ v', Df w' base r most v' (rest.drop (be4 b0 b1 b2 b3)) ∧ Tur (· = r) W w' ∧ v'.ownBlock = v.ownBlock := by
  obtain ⟨n, hn⟩ : ∃ n, n = ((b0 : Int) :: b1 :: b2 :: b3 :: rest).length := ⟨_, rfl⟩
  have hv := hf.val
  rw [← hn] at hv
  subst hv
  have h4 : 4 ≤ n := by rw [hn]; simp
  have H := Lib.hid h
  have HF := Lib.hid hf
  have p0 : W.cell? ⟨r, 0, none⟩ = some (.int .i64 most) := h.blk.cell 0
  have p1 : W.cell? ⟨r, 1, none⟩ = some (.slice (some ⟨g, off, none⟩) n cap) := h.blk.cell 1
  have p2 : W.cell? ⟨r, 2, none⟩ = some (.bool false) := h.blk.cell 2
  have pf : W.frozen? ⟨r, 2, none⟩ = false := h.blk.frozen 2
  have g0 : W.cell? ⟨g, off, none⟩ = some (.int .u8 (b0 : Int)) := hf.cells 0 (by simp)
  have g1 : W.cell? ⟨g, off + 1, none⟩ = some (.int .u8 (b1 : Int)) := hf.cells 1 (by simp)
  have g2 : W.cell? ⟨g, off + 2, none⟩ = some (.int .u8 (b2 : Int)) := hf.cells 2 (by simp)
  have g3 : W.cell? ⟨g, off + 3, none⟩ = some (.int .u8 (b3 : Int)) := hf.cells 3 (by simp)
  have o1 := or4_1 b0 b1 k0 k1
  have o2 := or4_2 (b0 * 256 + b1) b2 (by omega) k2
  have o3 := or4_3 ((b0 * 256 + b1) * 256 + b2) b3 (by omega) k3
  obtain ⟨N, hN⟩ : ∃ N, N = be4 b0 b1 b2 b3 := ⟨_, rfl⟩
  have hN9 : N ≤ 4294967295 := by rw [hN]; unfold be4; omega
  rw [← hN] at hb hw ⊢
  have HN2 := Lib.hid (show n = rest.length + 4 by rw [hn]; simp)
  have hn9 : (n : Int) ≤ 140737488355332 := by have := HN2.out; omega
  have HW2 := Lib.hid (show N ≤ rest.length by omega)
  have hcap : n ≤ cap := by rw [hn]; exact hf.fits
  rw [show ((b0 * 256 + b1) * 256 + b2) * 256 + b3 = N by rw [hN]; rfl] at o3
  generalize ((b0 * 256 + b1) * 65536 : Nat) = N1 at o1 o2
  generalize (((b0 * 256 + b1) * 256 + b2) * 256 : Nat) = N2 at o2 o3
  have hn3 := Lib.hid hn
  clear h hf hn hN
  go_enter Tryd.func41, Tryd.ntmps41
  go_wp2
  go_quiet (fail)
  have HQ := Lib.hid (H.out.blk.drewN nq)
  have p0 : (W.drewN nq).cell? ⟨r, 0, none⟩ = some (.int .i64 most) := HQ.out.cell 0
  have p1 : (W.drewN nq).cell? ⟨r, 1, none⟩ = some (.slice (some ⟨g, off, none⟩) n cap) := HQ.out.cell 1
  have h1 : decide ((N : Int) < 1) = false := by simp; omega
  have hm2 : (N : Int) ≤ most := by omega
  have h2 : decide (most < (N : Int)) = false := by simpa using hm2
  have hnn : 4 + N ≤ n := by have := HN2.out; have := HW2.out; omega
  have h3 : decide ((n : Int) - 4 < (N : Int)) = false := by simp; omega
  have hc4 : 4 + N ≤ cap := Nat.le_trans hnn hcap
  have hc5 : ¬ (4 : Nat) = cap := by omega
  have HTL := Lib.hid (show (rest.take N).length = N by have := HW2.out; rw [List.length_take]; omega)
  have HDL := Lib.hid (show (rest.drop N).length = n - (4 + N) by have := HN2.out; rw [List.length_drop]; omega)
  have HLN := Lib.hid (show ((b0 : Int) :: b1 :: b2 :: b3 :: rest).length = n from hn3.out.symm)
  have HDP := Lib.hid (show ((b0 : Int) :: b1 :: b2 :: b3 :: rest).drop (4 + N) = rest.drop N by rw [Nat.add_comm]; rfl)
  have HGR := Lib.hid (show ¬ g = r from fun e => H.out.ne (by rw [e]; rfl))
  have HCX := Lib.hid (show CellsAt (W.drewN nq) (some ⟨g, off + 4, none⟩) (bvs (rest.take N)) from fun j hj => by
    rw [bvs_len, HTL.out] at hj
    refine ⟨_, rfl, HF.out.lt, ?_⟩
    rw [add_off]
    have h := HF.out.cells (4 + j) (by rw [HLN.out]; omega)
    rw [← Nat.add_assoc] at h
    have h : (W.drewN nq).cell? ⟨g, off + 4 + j, none⟩ = _ := h
    rw [h]
    have e : ((b0 : Int) :: b1 :: b2 :: b3 :: rest)[4 + j]'(by rw [HLN.out]; omega) = rest[j]'(by have := HW2.out; omega) := by
      simp only [show 4 + j = j + 4 by omega]
      rfl
    rw [e]
    simp [bvs])
  clear o1 o2 o3 g0 g1 g2 g3 hb hw
  by_cases hck : 4 + N = cap
  · have hnN : n = 4 + N := by omega
    have HNN := Lib.hid hnN
    clear hnN
    subst hck
    go_wp2_with (first
      | (at_builtin; refine wpList_append_bytes rfl _ _ rfl W.heap.size _ 0 [] rfl (World.ownsRow_nil _ _ _ _) (some ⟨g, off + 4, none⟩) (4 + N - 4) N (fun h => by cases h) (rest.take N) rfl (by rw [HTL.out]; omega) HCX.out (by omega) (Nat.le_refl _) ?_
         intro v' w2 hown hg hv
         obtain ⟨A2, c2, hv2, _, _, _⟩ := owned_form hown
         have hv3 : v' = .slice A2 N c2 := by rw [hv2]; simp
         subst hv3
         have hb2 : Below W.heap.size W w2 := below_grown (below_drewN (Below.refl W.heap.size W) nq) hg (by intro k hk; cases hk) (Nat.le_refl _)
         have q1 : w2.cell? ⟨r, 1, none⟩ = some (.slice (some ⟨g, off, none⟩) n (4 + N)) := (H.out.blk.kept hb2).cell 1
         have q2 : w2.frozen? ⟨r, 1, none⟩ = false := (H.out.blk.kept hb2).frozen 1
         have HB2 := Lib.hid hb2
         have HO2 := Lib.hid hown
         clear hown hg hv hb2 hv2)
      | fail)
    have HR2 := Lib.hid (show RowAt w2 A2 N W.heap.size (rest.take N) by
      obtain ⟨A', c', e, hr, _⟩ := row_of_own (xs := rest.take N) (n := N) (v := .slice A2 N c2) (base := W.heap.size) (W := w2) (by have h := HO2.out; simpa [bvs] using h)
      cases e
      exact hr)
    refine bodyPost_ret (v := .tuple #[.slice A2 N c2, .bool true, .int .i64 0]) (by simp [results, Tryd.results41, go_sem]) rfl ⟨A2, c2, rfl, ?_, .slice (some ⟨g, off, none⟩) 0 0, ⟨(H.out.blk.kept HB2.out).set_ 1 _, ?_, ?_, H.out.base⟩, ?_, rfl⟩
    · exact HR2.out.turn2 (S := (· = r)) (Tur.setCell (S := (· = r)) (p := ⟨r, 1, none⟩) (Tur.refl _ _) (.inl rfl) _) (fun g' hA hs => by have := (HR2.out.lt2 hA).1; have := H.out.blk.lt; omega)
    · have HD0 : (rest.drop N).length = 0 := by have := HDL.out; have := HNN.out; omega
      have h0 : OwO W base (.slice (some ⟨g, off, none⟩) 0 0) (rest.drop N) := .inr ⟨g, off, 0, by rw [HD0], HF.out.low, HF.out.lt, by rw [HD0]; omega, fun j hj => by rw [HD0] at hj; omega, fun j hj => by omega⟩
      exact (h0.kept (S := fun _ => False) (Tur.of_below HB2.out) (fun _ _ h => h)).kept (S := (· = r)) (Tur.setCell (S := (· = r)) (p := ⟨r, 1, none⟩) (Tur.refl _ _) (.inl rfl) _) (fun k hk e => HGR.out (by cases hk; exact e))
    · intro e; cases e; exact HGR.out rfl
    · exact Tur.setCell (S := (· = r)) (p := ⟨r, 1, none⟩) (Tur.of_below HB2.out) (.inl rfl) _
  · have hck2 : ¬ cap = 4 + N := fun h => hck h.symm
    clear hck
    go_wp2_with (first
      | (at_builtin; refine wpList_append_bytes rfl _ _ rfl W.heap.size _ 0 [] rfl (World.ownsRow_nil _ _ _ _) (some ⟨g, off + 4, none⟩) (4 + N - 4) (cap - 4) (fun h => by cases h) (rest.take N) rfl (by rw [HTL.out]; omega) HCX.out (by omega) (Nat.le_refl _) ?_
         intro v' w2 hown hg hv
         obtain ⟨A2, c2, hv2, _, _, _⟩ := owned_form hown
         have hv3 : v' = .slice A2 N c2 := by rw [hv2]; simp
         subst hv3
         have hb2 : Below W.heap.size W w2 := below_grown (below_drewN (Below.refl W.heap.size W) nq) hg (by intro k hk; cases hk) (Nat.le_refl _)
         have q1 : w2.cell? ⟨r, 1, none⟩ = some (.slice (some ⟨g, off, none⟩) n cap) := (H.out.blk.kept hb2).cell 1
         have q2 : w2.frozen? ⟨r, 1, none⟩ = false := (H.out.blk.kept hb2).frozen 1
         have HB2 := Lib.hid hb2
         have HO2 := Lib.hid hown
         clear hown hg hv hb2 hv2)
      | fail)
    have HR2 := Lib.hid (show RowAt w2 A2 N W.heap.size (rest.take N) by
      obtain ⟨A', c', e, hr, _⟩ := row_of_own (xs := rest.take N) (n := N) (v := .slice A2 N c2) (base := W.heap.size) (W := w2) (by have h := HO2.out; simpa [bvs] using h)
      cases e
      exact hr)
    refine bodyPost_ret (v := .tuple #[.slice A2 N c2, .bool true, .int .i64 0]) (by simp [results, Tryd.results41, go_sem]) rfl ⟨A2, c2, rfl, ?_, .slice (some ⟨g, off + (4 + N), none⟩) (n - (4 + N)) (cap - (4 + N)), ⟨(H.out.blk.kept HB2.out).set_ 1 _, ?_, ?_, H.out.base⟩, ?_, rfl⟩
    · exact HR2.out.turn2 (S := (· = r)) (Tur.setCell (S := (· = r)) (p := ⟨r, 1, none⟩) (Tur.refl _ _) (.inl rfl) _) (fun g' hA hs => by have := (HR2.out.lt2 hA).1; have := H.out.blk.lt; omega)
    · have h0 : OwO W base (.slice (some ⟨g, off + (4 + N), none⟩) (n - (4 + N)) (cap - (4 + N))) (rest.drop N) := .inr ⟨g, off + (4 + N), cap - (4 + N), by have h := OwO.cut HF.out (4 + N) (by rw [HLN.out]; exact hnn); rw [HLN.out, HDP.out] at h; exact h⟩
      exact (h0.kept (S := fun _ => False) (Tur.of_below HB2.out) (fun _ _ h => h)).kept (S := (· = r)) (Tur.setCell (S := (· = r)) (p := ⟨r, 1, none⟩) (Tur.refl _ _) (.inl rfl) _) (fun k hk e => HGR.out (by cases hk; exact e))
    · intro e; cases e; exact HGR.out rfl
    · exact Tur.setCell (S := (· = r)) (p := ⟨r, 1, none⟩) (Tur.of_below HB2.out) (.inl rfl) _
end Go.Proofs.YtdgokebablhoiaaDoor
