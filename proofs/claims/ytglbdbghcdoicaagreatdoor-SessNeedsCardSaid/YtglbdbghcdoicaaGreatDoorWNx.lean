/- Frame, the program's and the document's; the law's own Lend and Back. Frames: the contracts of NewFrames, Feed, Next, Held where there is no fault yet. Frames' Next and Held. Frames' Next where no whole frame is there yet. The pure Next of frames; the program's follows it. Next, and that the row left behind it is new memory. A broken Frames takes bytes; a Frames elsewhere is as it was. -/
import Derived.Test.YtglbdbghcdoicaaGreatDoorWHead
import Derived.LaidEql
import Derived.Stop.Asserts
import Derived.Laws.BitsAllLaws
import Derived.Test.YtglbdbghcdoicaaGreatDoorWReader
import Derived.Test.YtglbdbghcdoicaaGreatDoorWIs
namespace Go.Proofs.YtglbdbghcdoicaaGreatDoor
open Go.RowKit
theorem RowAt.tur {S : Nat → Prop} {W W' : World} {A : Option Addr} {n lo : Nat} {xs : List Int} (h : RowAt W A n lo xs) (ht : Tur S W W') (hs : ∀ k, S k → k < lo) : RowAt W' A n lo xs := by
  rcases h with h | ⟨g, cur, rfl, h1, hg, r⟩
  · exact .inl h
  · exact .inr ⟨g, cur, rfl, h1, hg.tur ht (fun hk => by have := hs g hk; omega), r⟩
end Go.Proofs.YtglbdbghcdoicaaGreatDoor

namespace Go.Proofs.YtglbdbghcdoicaaGreatDoor
open Go.RowKit

/-- Bytes of a frame of n bytes: four for the length. -/
def len4 (n : Nat) : List Int := [(n : Int) / 16777216, (n : Int) / 65536, (n : Int) / 256 % 256, (n : Int) % 256]

theorem own_cells4 (W : World) (a b c d : Int) : (W.alloc (.cells #[.int .u8 a, .int .u8 b, .int .u8 c, .int .u8 d] 5)).ownsRow W.heap.size 5 1 (.slice (some ⟨W.heap.size, 0, none⟩) 4 4) 4 (bvs [a, b, c, d]) :=
  World.ownsRow_lit W _ 4 (Nat.le_refl _) (by unfold maxLen; omega) (by simp)

set_option maxRecDepth 100000 in
theorem frame_no (A : Option Addr) (n c : Nat) (W : World) (h : n < 1 ∨ 65536 < n) (hn : n ≤ 9223372036854775807) :
    Calls Tryz.prog 60 #[.slice A n c] W fun e w' => e = .returned (.tuple #[.slice none 0 0, .int .i64 14]) ∧ W = w' := by
  rcases h with h | h
  · go_enter Tryz.func60, Tryz.ntmps60
    go_wp2
    go_ret2
    exact ⟨rfl, rfl⟩
  · have h1 : decide (n < 1) = false := by simp; omega
    go_enter Tryz.func60, Tryz.ntmps60
    go_wp2
    go_ret2
    exact ⟨rfl, rfl⟩
set_option maxRecDepth 100000 in
theorem frame_yes (A : Option Addr) (n c : Nat) (xs : List Int) (W : World) (hl : xs.length = n) (h : CellsAt W A (bvs xs)) (hA : A = none → c = 0) (h1 : 1 ≤ n) (h2 : n ≤ 65536) :
    Calls Tryz.prog 60 #[.slice A n c] W fun e w' => ∃ A' c', e = .returned (.tuple #[.slice A' (4 + n) c', .int .i64 0]) ∧ RowAt w' A' (4 + n) W.heap.size (len4 n ++ xs) ∧ Below W.heap.size W w' := by
  have H := Lib.hid h
  have HL := Lib.hid hl
  have HA := Lib.hid hA
  clear h hl hA
  go_enter Tryz.func60, Tryz.ntmps60
  go_wp2_with (at_builtin; refine wpList_append_bytes rfl _ _ rfl W.heap.size _ 4 (len4 n) rfl (own_cells4 W _ _ _ _) A n c HA.out xs rfl HL.out (H.out.below ((Below.refl _ _).alloc (Nat.le_refl _) _)) (by omega) (by simp) ?_
               intro v' w2 hown hg hv
               have B2 := Lib.hid (below_grown ((Below.refl W.heap.size W).alloc (Nat.le_refl _) (.cells #[.int .u8 ((n : Int) / 16777216), .int .u8 ((n : Int) / 65536), .int .u8 ((n : Int) / 256 % 256), .int .u8 ((n : Int) % 256)] 5)) hg (by intro g hg; cases hg; exact Nat.le_refl _) (by simp))
               have HO := Lib.hid hown
               clear hown hg hv)
  go_ret2
  obtain ⟨A', c', rfl, hr, _⟩ := row_of_own (xs := len4 n ++ xs) (by rw [bvs_append]; exact HO.out)
  exact ⟨A', c', rfl, hr, B2.out⟩
set_option maxRecDepth 100000 in
theorem rframe_no (A : Option Addr) (n c : Nat) (W : World) (h : n < 1 ∨ 65536 < n) (hn : n ≤ 9223372036854775807) :
    Calls Tryz.prog 56 #[.slice A n c] W fun e w' => e = .returned (.tuple #[.slice none 0 0, .int .i64 14]) ∧ W = w' := by
  rcases h with h | h
  · go_enter Tryz.func56, Tryz.ntmps56
    go_wp2
    go_ret2
    exact ⟨rfl, rfl⟩
  · have h1 : decide (n < 1) = false := by simp; omega
    go_enter Tryz.func56, Tryz.ntmps56
    go_wp2
    go_ret2
    exact ⟨rfl, rfl⟩
set_option maxRecDepth 100000 in
theorem rframe_yes (A : Option Addr) (n c : Nat) (xs : List Int) (W : World) (hl : xs.length = n) (h : CellsAt W A (bvs xs)) (hA : A = none → c = 0) (h1 : 1 ≤ n) (h2 : n ≤ 65536) :
    Calls Tryz.prog 56 #[.slice A n c] W fun e w' => ∃ A' c', e = .returned (.tuple #[.slice A' (4 + n) c', .int .i64 0]) ∧ RowAt w' A' (4 + n) W.heap.size (len4 n ++ xs) ∧ Below W.heap.size W w' := by
  have H := Lib.hid h
  have HL := Lib.hid hl
  have HA := Lib.hid hA
  clear h hl hA
  go_enter Tryz.func56, Tryz.ntmps56
  go_wp2_with (at_builtin; refine wpList_append_bytes rfl _ _ rfl W.heap.size _ 4 (len4 n) rfl (own_cells4 W _ _ _ _) A n c HA.out xs rfl HL.out (H.out.below ((Below.refl _ _).alloc (Nat.le_refl _) _)) (by omega) (by simp) ?_
               intro v' w2 hown hg hv
               have B2 := Lib.hid (below_grown ((Below.refl W.heap.size W).alloc (Nat.le_refl _) (.cells #[.int .u8 ((n : Int) / 16777216), .int .u8 ((n : Int) / 65536), .int .u8 ((n : Int) / 256 % 256), .int .u8 ((n : Int) % 256)] 5)) hg (by intro g hg; cases hg; exact Nat.le_refl _) (by simp))
               have HO := Lib.hid hown
               clear hown hg hv)
  go_ret2
  obtain ⟨A', c', rfl, hr, _⟩ := row_of_own (xs := len4 n ++ xs) (by rw [bvs_append]; exact HO.out)
  exact ⟨A', c', rfl, hr, B2.out⟩
end Go.Proofs.YtglbdbghcdoicaaGreatDoor

namespace Go.Proofs.YtglbdbghcdoicaaGreatDoor
open Go.RowKit Go.Extern.Stop Go.Stop

/-- errors.Is(nil, an Errno). -/
theorem is_nil (k : Int) (W : World) :
    Calls Tryz.prog 54 #[.nilIface, .iface 26 (.int .i64 k)] W fun e w' => e = .returned (.bool false) ∧ W = w' := by
  have hn := fun w => run_eql_iface_nil_left (P := Tryz.prog) w 26 (.int .i64 k) Tryz.underlying56
  go_enter Tryz.func54, Tryz.ntmps54
  go_wp2
  go_ret
  exact ⟨rfl, rfl⟩

/-- Frames at block q without a fault: its row of bytes is its own. -/
structure Fm (W : World) (base q : Nat) (most : Int) (v : Value) (bs : List Int) : Prop where
  blk : Blk W q 125 #[.int .i64 most, v, .nilIface]
  own : W.ownsRow base 5 1 v bs.length (bvs bs)
  ne : v.ownBlock ≠ some q
  base : base ≤ q
section
variable {W W1 : World} {base q : Nat} {most : Int} {v v1 : Value} {bs : List Int}
theorem Fm.fr_below (h : Fm W base q most v bs) (f : WrFr W q v W1 v1) : Below base W W1 :=
  f.1.below (Nat.le_trans h.base (Nat.le_of_lt h.blk.lt)) (fun k hk => by
    rcases hk with rfl | hk
    · exact h.base
    · exact (h.own.lt k hk).1)
theorem Fm.kept (h : Fm W base q most v bs) (hb : Below W.heap.size W W1) : Fm W1 base q most v bs :=
  ⟨h.blk.kept hb, ownsRow_tur h.own (Tur.of_below (S := fun _ => False) hb) (fun _ _ h => h), h.ne, h.base⟩
theorem Fm.put {more : List Int} (h : Fm W base q most v bs) (hown : W1.ownsRow base 5 1 v1 (bs.length + more.length) (bvs bs ++ bvs more)) (hg : W.grownBy W1 v.ownBlock) (hv : v1.ownBlock = v.ownBlock ∨ v1.ownBlock = some W.heap.size) :
    Fm (W1.setCell ⟨q, 1, none⟩ v1) base q most v1 (bs ++ more) ∧ WrFr W q v (W1.setCell ⟨q, 1, none⟩ v1) v1 := by
  have hp : Blk W1 q 125 #[.int .i64 most, v, .nilIface] := h.blk.grown hg (fun e => h.ne e.symm)
  have hne : v1.ownBlock ≠ some q := by
    rcases hv with e | e
    · rw [e]; exact h.ne
    · rw [e]; intro h'; cases h'; exact absurd h.blk.lt (by omega)
  refine ⟨⟨hp.set_ 1 v1, ?_, hne, h.base⟩, Tur.setCell (p := ⟨q, 1, none⟩) (Tur.of_grown hg (fun k e => .inr e)) (.inl (.inl rfl)) v1, ?_⟩
  · rw [List.length_append, bvs_append]
    exact ownsRow_setCell_other hown hne v1
  · rcases hv with e | e
    · exact .inl e
    · exact .inr ⟨_, e, Nat.le_refl _⟩
end

set_option maxRecDepth 100000 in
theorem f_new_no (most : Int) (W : World) (h : most < 1 ∨ 65536 < most) :
    Calls Tryz.prog 39 #[.int .i64 most] W fun e w' => e = .returned (.tuple #[.pointer none, .int .i64 1]) ∧ W = w' := by
  rcases h with h | h
  · go_enter Tryz.func39, Tryz.ntmps39
    go_wp2
    go_ret2
    exact ⟨rfl, rfl⟩
  · have h1 : decide (most < 1) = false := by simp; omega
    go_enter Tryz.func39, Tryz.ntmps39
    go_wp2
    go_ret2
    exact ⟨rfl, rfl⟩
set_option maxRecDepth 100000 in
theorem f_new_yes (most : Int) (W : World) (h1 : 1 ≤ most) (h2 : most ≤ 65536) :
    Calls Tryz.prog 39 #[.int .i64 most] W fun e w' => e = .returned (.tuple #[.pointer (some ⟨W.heap.size, 0, none⟩), .int .i64 0]) ∧ Fm w' W.heap.size W.heap.size most (.slice none 0 0) [] ∧ Below W.heap.size W w' := by
  go_enter Tryz.func39, Tryz.ntmps39
  go_wp2
  go_ret2
  exact ⟨rfl, ⟨Blk.new _ _ _, World.ownsRow_nil _ _ _ _, by simp [Value.ownBlock], Nat.le_refl _⟩, (Below.refl _ _).alloc (Nat.le_refl _) _⟩

set_option maxRecDepth 100000 in
theorem f_feed (A : Option Addr) (n c : Nat) (xs : List Int) (base q : Nat) (most : Int) (v : Value) (bs : List Int) (W : World) (h : Fm W base q most v bs) (hl : xs.length = n) (hx : CellsAt W A (bvs xs)) (hA : A = none → c = 0) (hn : bs.length + n ≤ 140737488355328) :
    Calls Tryz.prog 40 #[.pointer (some ⟨q, 0, none⟩), .slice A n c] W fun e w' => e = .returned (.tuple #[]) ∧ ∃ v', Fm w' base q most v' (bs ++ xs) ∧ WrFr W q v w' v' := by
  obtain ⟨A1, c1, rfl, _, _, _⟩ := owned_form h.own
  have H := Lib.hid h
  have HX := Lib.hid hx
  have HL := Lib.hid hl
  have HA := Lib.hid hA
  have HN := Lib.hid hn
  have p1 : W.cell? ⟨q, 1, none⟩ = some (.slice A1 bs.length c1) := h.blk.cell 1
  have p2 : W.cell? ⟨q, 2, none⟩ = some .nilIface := h.blk.cell 2
  generalize hm : bs.length = m at *
  have HM := Lib.hid hm
  have S1 := Lib.hid (show base ≤ W.heap.size from Nat.le_trans h.base (Nat.le_of_lt h.blk.lt))
  clear h hl hx hA hn hm
  go_enter Tryz.func40, Tryz.ntmps40
  go_wp2_with (first
    | (go_at_call 54; (with_reducible refine (is_nil _ _).mono ?_); rintro e w1 ⟨rfl, rfl⟩)
    | (at_builtin; refine wpList_append_bytes rfl _ _ rfl base _ m bs rfl (by rw [← HM.out]; rw [HM.out]; exact HM.out ▸ H.out.own) A n c HA.out xs rfl HL.out HX.out (Nat.le_trans HN.out (by omega)) S1.out ?_
       intro v' w2 hown hg hv
       obtain ⟨A', c', rfl, _, _, _⟩ := owned_form hown
       have q0 : w2.cell? ⟨q, 1, none⟩ = some (.slice A1 m c1) := (H.out.blk.grown hg (fun e => H.out.ne e.symm)).cell 1
       have q1 : w2.frozen? ⟨q, 1, none⟩ = false := (H.out.blk.grown hg (fun e => H.out.ne e.symm)).frozen 1
       have HW := Lib.hid (H.out.put (more := xs) (by rw [HM.out, HL.out]; exact hown) hg hv)
       clear hown hg hv))
  go_end0
  exact ⟨rfl, _, HW.out.1, HW.out.2⟩
end Go.Proofs.YtglbdbghcdoicaaGreatDoor

namespace Go.Proofs.YtglbdbghcdoicaaGreatDoor
open Go.RowKit

theorem Fm.swap {W W1 : World} {base q : Nat} {most : Int} {v : Value} {bs tail : List Int} (h : Fm W base q most v bs) (hb1 : Below W.heap.size W W1) (v2 : Value) (W2 : World) (hb : Below W1.heap.size W1 W2)
    (hown : W2.ownsRow W1.heap.size 5 1 v2 tail.length (bvs tail)) :
    Fm (W2.setCell ⟨q, 1, none⟩ v2) base q most v2 tail ∧ Tur (· = q) W (W2.setCell ⟨q, 1, none⟩ v2) := by
  have hlt := h.blk.lt
  have hle := hb1.size
  have hne : v2.ownBlock ≠ some q := fun e => by have := (hown.lt q e).1; omega
  refine ⟨⟨((h.blk.kept hb1).kept hb).set_ 1 v2, ?_, hne, h.base⟩, Tur.setCell (S := (· = q)) (p := ⟨q, 1, none⟩) (Tur.of_below (hb1.trans (hb.mono hle))) (.inl rfl) v2⟩
  refine ownsRow_setCell_other ?_ hne v2
  refine ⟨hown.1, ?_⟩
  rcases hown.2 with h0 | ⟨g, cap, cur, e1, hbg, r⟩
  · exact .inl h0
  · exact .inr ⟨g, cap, cur, e1, by have := h.base; omega, r⟩

theorem or256 (a c : Nat) (ha : a < 1099511627776) (hc : c < 256) : bits .or .i64 ((a : Int) * 256) (c : Int) = (a : Int) * 256 + (c : Int) := by
  have h1 : ∀ m : Nat, m < 18446744073709551616 → (BitVec.ofInt 64 (m : Int)).toNat = m := fun m hm => by
    rw [BitVec.ofInt_natCast, BitVec.toNat_ofNat]; exact Nat.mod_eq_of_lt (by omega)
  have e : (a : Int) * 256 = ((a * 256 : Nat) : Int) := by omega
  rw [e]
  show IntKind.i64.wrap ((BitVec.ofInt 64 ((a * 256 : Nat) : Int) ||| BitVec.ofInt 64 (c : Int)).toNat : Int) = _
  rw [BitVec.toNat_or, h1 _ (by omega), h1 _ (by omega)]
  have h2 : a * 256 ||| c = a * 256 + c := by
    have h := Nat.two_pow_add_eq_or_of_lt (i := 8) (b := c) (by omega) a
    rw [Nat.mul_comm a 256]
    exact h.symm
  rw [h2, IntKind.wrap_i64]
  omega
theorem or0 (c : Nat) (hc : c < 256) : bits .or .i64 0 (c : Int) = (c : Int) := by
  have h := or256 0 c (by omega) hc
  simpa using h

theorem add_off (g o k : Nat) : (⟨g, o, none⟩ : Addr).add k = ⟨g, o + k, none⟩ := by unfold Addr.add; split <;> simp_all
theorem cells_off {W : World} {g o : Nat} {xs : List Int} (hg : g < W.heap.size) (h : ∀ k v, (bvs xs)[k]? = some v → W.cell? ⟨g, o + k, none⟩ = some v) : CellsAt W (some ⟨g, o, none⟩) (bvs xs) := fun k hk =>
  ⟨_, rfl, hg, by rw [add_off]; exact h k _ (List.getElem?_eq_getElem hk)⟩

/-- The number that four bytes tell. -/
def be4 (b0 b1 b2 b3 : Nat) : Nat := ((b0 * 256 + b1) * 256 + b2) * 256 + b3

end Go.Proofs.YtglbdbghcdoicaaGreatDoor

namespace Go.Proofs.YtglbdbghcdoicaaGreatDoor
open Go.RowKit

set_option maxRecDepth 100000 in
theorem f_next_short (base q : Nat) (most : Int) (A : Option Addr) (n c : Nat) (bs : List Int) (W : World) (h : Fm W base q most (.slice A n c) bs) (hn : n < 4) :
    Calls Tryz.prog 52 #[.pointer (some ⟨q, 0, none⟩)] W fun e w' => e = .returned (.tuple #[.slice none 0 0, .bool false, .int .i64 0]) ∧ W = w' := by
  have p1 : W.cell? ⟨q, 1, none⟩ = some (.slice A n c) := h.blk.cell 1
  have p2 : W.cell? ⟨q, 2, none⟩ = some .nilIface := h.blk.cell 2
  clear h
  go_enter Tryz.func52, Tryz.ntmps52
  go_wp2_with (go_at_call 54; (with_reducible refine (is_nil _ _).mono ?_); rintro e w1 ⟨rfl, rfl⟩)
  exact bodyPost_ret (v := .tuple #[.slice none 0 0, .bool false, .int .i64 0]) (by simp [results, Tryz.results52, go_sem]) rfl ⟨rfl, rfl⟩
set_option maxHeartbeats 1000000 in
set_option maxRecDepth 100000 in
theorem f_next_wait (base q : Nat) (most : Int) (A : Option Addr) (n c : Nat) (b0 b1 b2 b3 : Nat) (k0 : b0 < 256) (k1 : b1 < 256) (k2 : b2 < 256) (k3 : b3 < 256) (rest : List Int) (W : World) (h : Fm W base q most (.slice A n c) ((b0 : Int) :: b1 :: b2 :: b3 :: rest)) (hn : n = rest.length + 4) (hb : 1 ≤ be4 b0 b1 b2 b3 ∧ (be4 b0 b1 b2 b3 : Int) ≤ most) (hw : n < 4 + be4 b0 b1 b2 b3) :
    Calls Tryz.prog 52 #[.pointer (some ⟨q, 0, none⟩)] W fun e w' => e = .returned (.tuple #[.slice none 0 0, .bool false, .int .i64 0]) ∧ W = w' := by
  have H := Lib.hid h
  have p1 : W.cell? ⟨q, 1, none⟩ = some (.slice A n c) := h.blk.cell 1
  have p0 : W.cell? ⟨q, 0, none⟩ = some (.int .i64 most) := h.blk.cell 0
  have p2 : W.cell? ⟨q, 2, none⟩ = some .nilIface := h.blk.cell 2
  have h4 : 4 ≤ n := by omega
  obtain ⟨A', c', e, hr, hc⟩ := row_of_own h.own
  clear h hn
  rcases hr with ⟨_, h, _⟩ | ⟨g, cur, hA, _, hg, _, _, ht⟩
  · simp at h
  injection e with e1 e2 e3
  subst e1
  subst e3
  subst hA
  have g0 : W.cell? ⟨g, 0, none⟩ = some (.int .u8 (b0 : Int)) := cell_take hg ht 0 (by simp [bvs])
  have g1 : W.cell? ⟨g, 1, none⟩ = some (.int .u8 (b1 : Int)) := cell_take hg ht 1 (by simp [bvs])
  have g2 : W.cell? ⟨g, 2, none⟩ = some (.int .u8 (b2 : Int)) := cell_take hg ht 2 (by simp [bvs])
  have g3 : W.cell? ⟨g, 3, none⟩ = some (.int .u8 (b3 : Int)) := cell_take hg ht 3 (by simp [bvs])
  have hcn : n ≤ c := by rw [e2]; exact hc
  clear hg ht hc e2
  obtain ⟨N1, e1⟩ : ∃ N1, N1 = b0 * 256 + b1 := ⟨_, rfl⟩
  obtain ⟨N2, e2⟩ : ∃ N2, N2 = N1 * 256 + b2 := ⟨_, rfl⟩
  obtain ⟨N, e3⟩ : ∃ N, N = N2 * 256 + b3 := ⟨_, rfl⟩
  have hN : be4 b0 b1 b2 b3 = N := by unfold be4; rw [e3, e2, e1]
  rw [hN] at hb hw
  obtain ⟨hb1, hb2⟩ := hb
  have h1 : decide ((N : Int) < 1) = false := by simp; omega
  have h2 : decide (most < (N : Int)) = false := by simpa using hb2
  have h3 : decide ((n : Int) < 4 + (N : Int)) = true := by simp; omega
  have hw4 : (n : Int) < 4 + (N : Int) := by omega
  clear hw
  have o0 := or0 b0 k0
  have o1 : bits .or .i64 ((b0 : Int) * 256) (b1 : Int) = (N1 : Int) := by rw [or256 b0 b1 (by omega) k1]; omega
  have o2 : bits .or .i64 ((N1 : Int) * 256) (b2 : Int) = (N2 : Int) := by rw [or256 N1 b2 (by omega) k2]; omega
  have o3 : bits .or .i64 ((N2 : Int) * 256) (b3 : Int) = (N : Int) := by rw [or256 N2 b3 (by omega) k3]; omega
  have j1 : N1 ≤ 65535 := by omega
  have j2 : N2 ≤ 16777215 := by omega
  have j3 : N ≤ 4294967295 := by omega
  clear e1 e2 e3 hN
  go_enter Tryz.func52, Tryz.ntmps52
  go_wp2_with (go_at_call 54; (with_reducible refine (is_nil _ _).mono ?_); rintro e w1 ⟨rfl, rfl⟩)
  refine wp_loop_rounds 5 ?_
  rw [rounds_succ]
  go_wp2
  rw [rounds_succ]
  go_wp2
  rw [rounds_succ]
  go_wp2
  rw [rounds_succ]
  go_wp2
  rw [rounds_succ]
  go_wp2
  exact bodyPost_ret (v := .tuple #[.slice none 0 0, .bool false, .int .i64 0]) (by simp [results, Tryz.results52, go_sem]) rfl ⟨rfl, rfl⟩
end Go.Proofs.YtglbdbghcdoicaaGreatDoor

namespace Go.Proofs.YtglbdbghcdoicaaGreatDoor
open Go.RowKit

set_option maxHeartbeats 1000000 in
set_option maxRecDepth 100000 in
theorem f_next_bad2 (base q : Nat) (most : Int) (A : Option Addr) (n c : Nat) (b0 b1 b2 b3 : Nat) (k0 : b0 < 256) (k1 : b1 < 256) (k2 : b2 < 256) (k3 : b3 < 256) (rest : List Int) (W : World) (h : Fm W base q most (.slice A n c) ((b0 : Int) :: b1 :: b2 :: b3 :: rest)) (hn : n = rest.length + 4) (hb : be4 b0 b1 b2 b3 < 1 ∨ most < (be4 b0 b1 b2 b3 : Int)) :
    Calls Tryz.prog 52 #[.pointer (some ⟨q, 0, none⟩)] W fun e w' => e = .returned (.tuple #[.slice none 0 0, .bool false, .int .i64 14]) ∧ (∃ g, Blk w' q 125 #[.int .i64 most, .slice A n c, errV g] ∧ Blk w' g 111 #[.int .i64 14, .int .i64 0] ∧ W.heap.size ≤ g) ∧ Tur (· = q) W w' := by
  have H := Lib.hid h
  have p1 : W.cell? ⟨q, 1, none⟩ = some (.slice A n c) := h.blk.cell 1
  have p0 : W.cell? ⟨q, 0, none⟩ = some (.int .i64 most) := h.blk.cell 0
  have p2 : W.cell? ⟨q, 2, none⟩ = some .nilIface := h.blk.cell 2
  have h4 : 4 ≤ n := by omega
  obtain ⟨A', c', e, hr, hc⟩ := row_of_own h.own
  clear h hn
  rcases hr with ⟨_, h, _⟩ | ⟨g, cur, hA, _, hg, _, _, ht⟩
  · simp at h
  injection e with e1 e2 e3
  subst e1
  subst e3
  subst hA
  have g0 : W.cell? ⟨g, 0, none⟩ = some (.int .u8 (b0 : Int)) := cell_take hg ht 0 (by simp [bvs])
  have g1 : W.cell? ⟨g, 1, none⟩ = some (.int .u8 (b1 : Int)) := cell_take hg ht 1 (by simp [bvs])
  have g2 : W.cell? ⟨g, 2, none⟩ = some (.int .u8 (b2 : Int)) := cell_take hg ht 2 (by simp [bvs])
  have g3 : W.cell? ⟨g, 3, none⟩ = some (.int .u8 (b3 : Int)) := cell_take hg ht 3 (by simp [bvs])
  have hcn : n ≤ c := by rw [e2]; exact hc
  clear hg ht hc e2
  obtain ⟨N1, e1⟩ : ∃ N1, N1 = b0 * 256 + b1 := ⟨_, rfl⟩
  obtain ⟨N2, e2⟩ : ∃ N2, N2 = N1 * 256 + b2 := ⟨_, rfl⟩
  obtain ⟨N, e3⟩ : ∃ N, N = N2 * 256 + b3 := ⟨_, rfl⟩
  have hN : be4 b0 b1 b2 b3 = N := by unfold be4; rw [e3, e2, e1]
  rw [hN] at hb
  have o0 := or0 b0 k0
  have o1 : bits .or .i64 ((b0 : Int) * 256) (b1 : Int) = (N1 : Int) := by rw [or256 b0 b1 (by omega) k1]; omega
  have o2 : bits .or .i64 ((N1 : Int) * 256) (b2 : Int) = (N2 : Int) := by rw [or256 N1 b2 (by omega) k2]; omega
  have o3 : bits .or .i64 ((N2 : Int) * 256) (b3 : Int) = (N : Int) := by rw [or256 N2 b3 (by omega) k3]; omega
  have j1 : N1 ≤ 65535 := by omega
  have j2 : N2 ≤ 16777215 := by omega
  have j3 : N ≤ 4294967295 := by omega
  have hp : W.frozen? ⟨q, 2, none⟩ = false := H.out.blk.frozen 2
  have hlq := H.out.blk.lt
  clear e1 e2 e3 hN
  go_enter Tryz.func52, Tryz.ntmps52
  go_wp2_with (go_at_call 54; (with_reducible refine (is_nil _ _).mono ?_); rintro e w1 ⟨rfl, rfl⟩)
  refine wp_loop_rounds 5 ?_
  rw [rounds_succ]
  go_wp2
  rw [rounds_succ]
  go_wp2
  rw [rounds_succ]
  go_wp2
  rw [rounds_succ]
  go_wp2
  by_cases hN1 : N < 1
  · clear hb
    rw [rounds_succ]
    go_wp2
    exact bodyPost_ret (v := .tuple #[.slice none 0 0, .bool false, .int .i64 14]) (by simp [results, Tryz.results52, go_sem]) rfl ⟨rfl, ⟨W.heap.size, (H.out.blk.set_ 2 _).alloc _, blk_last (by simp [World.setCell]), Nat.le_refl _⟩, (Tur.setCell (S := (· = q)) (p := ⟨q, 2, none⟩) (Tur.refl _ _) (.inl rfl) _).alloc _⟩
  · have hm : most < (N : Int) := by omega
    have h1 : decide ((N : Int) < 1) = false := by simp; omega
    have h2 : decide (most < (N : Int)) = true := by simpa using hm
    clear hb hN1
    rw [rounds_succ]
    go_wp2
    exact bodyPost_ret (v := .tuple #[.slice none 0 0, .bool false, .int .i64 14]) (by simp [results, Tryz.results52, go_sem]) rfl ⟨rfl, ⟨W.heap.size, (H.out.blk.set_ 2 _).alloc _, blk_last (by simp [World.setCell]), Nat.le_refl _⟩, (Tur.setCell (S := (· = q)) (p := ⟨q, 2, none⟩) (Tur.refl _ _) (.inl rfl) _).alloc _⟩


inductive NextO where
  | wait
  | bad
  | yes (body tail : List Int)
def nextP (most : Int) : List Int → NextO
  | b0 :: b1 :: b2 :: b3 :: rest =>
    if be4 b0.toNat b1.toNat b2.toNat b3.toNat < 1 ∨ most < (be4 b0.toNat b1.toNat b2.toNat b3.toNat : Int) then .bad
    else if rest.length < be4 b0.toNat b1.toNat b2.toNat b3.toNat then .wait
    else .yes (rest.take (be4 b0.toNat b1.toNat b2.toNat b3.toNat)) (rest.drop (be4 b0.toNat b1.toNat b2.toNat b3.toNat))
  | _ => .wait
theorem byte_nat {x : Int} (h : (Lit.int .u8 x).wf = true) : ∃ b : Nat, x = (b : Int) ∧ b < 256 := by
  have := bounds_u8 h
  exact ⟨x.toNat, by omega, by omega⟩
/-- A frame of a body. -/
def frE (body : List Int) : List Int := len4 body.length ++ body
theorem frE_len (body : List Int) : (frE body).length = 4 + body.length := by simp [frE, len4]; omega
theorem nextP_len4 (most : Int) (n : Nat) (rest : List Int) (h1 : 1 ≤ n) (h2 : n ≤ 65536) (hm : (n : Int) ≤ most) : nextP most (len4 n ++ rest) = if rest.length < n then .wait else .yes (rest.take n) (rest.drop n) := by
  rw [show len4 n ++ rest = (n : Int) / 16777216 :: (n : Int) / 65536 :: (n : Int) / 256 % 256 :: (n : Int) % 256 :: rest from rfl]
  unfold nextP
  have e : be4 ((n : Int) / 16777216).toNat ((n : Int) / 65536).toNat ((n : Int) / 256 % 256).toNat ((n : Int) % 256).toNat = n := by
    rw [show ((n : Int) / 16777216).toNat = n / 16777216 by omega, show ((n : Int) / 65536).toNat = n / 65536 by omega, show ((n : Int) / 256 % 256).toNat = n / 256 % 256 by omega, show ((n : Int) % 256).toNat = n % 256 by omega]
    unfold be4
    omega
  simp only [e]
  rw [if_neg (by omega)]
theorem nextP_yes (most : Int) (body tail : List Int) (h1 : 1 ≤ body.length) (h2 : body.length ≤ 65536) (hm : (body.length : Int) ≤ most) : nextP most (frE body ++ tail) = .yes body tail := by
  unfold frE
  rw [List.append_assoc, nextP_len4 most _ _ h1 h2 hm, if_neg (by rw [List.length_append]; omega), List.take_left, List.drop_left]
theorem nextP_short (most : Int) (bs : List Int) (h : bs.length < 4) : nextP most bs = .wait := by
  match bs, h with
  | [], _ => rfl
  | [_], _ => rfl
  | [_, _], _ => rfl
  | [_, _, _], _ => rfl
  | _ :: _ :: _ :: _ :: _, h => simp at h; omega
theorem nextP_front (most : Int) (body : List Int) (j : Nat) (h1 : 1 ≤ body.length) (h2 : body.length ≤ 65536) (hm : (body.length : Int) ≤ most) (hj : j < 4 + body.length) : nextP most ((frE body).take j) = .wait := by
  by_cases h4 : j < 4
  · exact nextP_short _ _ (by rw [List.length_take]; omega)
  · unfold frE
    have hl : (len4 body.length).length = 4 := rfl
    rw [List.take_append, List.take_of_length_le (by omega), nextP_len4 most _ _ h1 h2 hm, if_pos (by rw [List.length_take]; omega)]
/-- One step of a row of frames: what is held is a front of what is to come. -/
theorem nextP_step (most : Int) (body F R E : List Int) (h : F ++ R = frE body ++ E) (h1 : 1 ≤ body.length) (h2 : body.length ≤ 65536) (hm : (body.length : Int) ≤ most) :
    (∃ F', nextP most F = .yes body F' ∧ F' ++ R = E ∧ F.length = 4 + body.length + F'.length) ∨ (nextP most F = .wait ∧ F.length < 4 + body.length) := by
  by_cases hl : F.length < 4 + body.length
  · refine .inr ⟨?_, hl⟩
    have e : F = (frE body).take F.length := by
      have := congrArg (List.take F.length) h
      rw [List.take_left, List.take_append_of_le_length (by rw [frE_len]; omega)] at this
      exact this
    rw [e]
    exact nextP_front most body _ h1 h2 hm (by omega)
  · left
    have e : F = frE body ++ F.drop (frE body).length := by
      have := congrArg (List.take (frE body).length) h
      rw [List.take_left, List.take_append_of_le_length (by rw [frE_len]; omega)] at this
      conv => lhs; rw [← List.take_append_drop (frE body).length F, this]
    refine ⟨F.drop (frE body).length, ?_, ?_, ?_⟩
    · conv => lhs; rw [e]
      exact nextP_yes most body _ h1 h2 hm
    · rw [e, List.append_assoc] at h
      exact List.append_cancel_left h
    · rw [List.length_drop, frE_len]; omega
end Go.Proofs.YtglbdbghcdoicaaGreatDoor

namespace Go.Proofs.YtglbdbghcdoicaaGreatDoor
open Go.RowKit

theorem Fm.swap2 {W W1 : World} {base q : Nat} {most : Int} {v : Value} {bs tail : List Int} (h : Fm W base q most v bs) (hb1 : Below W.heap.size W W1) (v2 : Value) (W2 : World) (hb : Below W1.heap.size W1 W2)
    (hown : W2.ownsRow W1.heap.size 5 1 v2 tail.length (bvs tail)) :
    Fm (W2.setCell ⟨q, 1, none⟩ v2) base q most v2 tail ∧ Tur (· = q) W (W2.setCell ⟨q, 1, none⟩ v2) ∧ ∀ k, v2.ownBlock = some k → W.heap.size ≤ k :=
  ⟨(h.swap hb1 v2 W2 hb hown).1, (h.swap hb1 v2 W2 hb hown).2, fun k hk => Nat.le_trans hb1.size (hown.lt k hk).1⟩
set_option maxHeartbeats 1000000 in
set_option maxRecDepth 100000 in
theorem f_next_yes2 (base q : Nat) (most : Int) (A : Option Addr) (n c : Nat) (b0 b1 b2 b3 : Nat) (k0 : b0 < 256) (k1 : b1 < 256) (k2 : b2 < 256) (k3 : b3 < 256) (body tail : List Int) (W : World) (h : Fm W base q most (.slice A n c) ((b0 : Int) :: b1 :: b2 :: b3 :: (body ++ tail))) (hn : n = (body ++ tail).length + 4) (hb : 1 ≤ be4 b0 b1 b2 b3 ∧ (be4 b0 b1 b2 b3 : Int) ≤ most) (hbl : body.length = be4 b0 b1 b2 b3) (hbig : n ≤ 140737488355328) :
    Calls Tryz.prog 52 #[.pointer (some ⟨q, 0, none⟩)] W fun e w' => ∃ A' c', e = .returned (.tuple #[.slice A' (be4 b0 b1 b2 b3) c', .bool true, .int .i64 0]) ∧ RowAt w' A' (be4 b0 b1 b2 b3) W.heap.size body ∧ ∃ A2 c2, Fm w' base q most (.slice A2 tail.length c2) tail ∧ Tur (· = q) W w' ∧ (∀ k, (Value.slice A2 tail.length c2).ownBlock = some k → W.heap.size ≤ k) ∧ (∀ k, (Value.slice A2 tail.length c2).ownBlock = some k → A' ≠ some ⟨k, 0, none⟩) ∧ w'.ownsRow W.heap.size 5 1 (.slice A' (be4 b0 b1 b2 b3) c') (be4 b0 b1 b2 b3) (bvs body) := by
  have H := Lib.hid h
  have p1 : W.cell? ⟨q, 1, none⟩ = some (.slice A n c) := h.blk.cell 1
  have p0 : W.cell? ⟨q, 0, none⟩ = some (.int .i64 most) := h.blk.cell 0
  have p2 : W.cell? ⟨q, 2, none⟩ = some .nilIface := h.blk.cell 2
  have h4 : 4 ≤ n := by omega
  obtain ⟨A', c', e, hr, hc⟩ := row_of_own h.own
  have HN0 := Lib.hid hn
  clear h hn
  rcases hr with ⟨_, h, _⟩ | ⟨g, cur, hA, _, hg, _, _, ht⟩
  · simp at h
  injection e with e1 e2 e3
  subst e1
  subst e3
  subst hA
  have g0 : W.cell? ⟨g, 0, none⟩ = some (.int .u8 (b0 : Int)) := cell_take hg ht 0 (by simp [bvs])
  have g1 : W.cell? ⟨g, 1, none⟩ = some (.int .u8 (b1 : Int)) := cell_take hg ht 1 (by simp [bvs])
  have g2 : W.cell? ⟨g, 2, none⟩ = some (.int .u8 (b2 : Int)) := cell_take hg ht 2 (by simp [bvs])
  have g3 : W.cell? ⟨g, 3, none⟩ = some (.int .u8 (b3 : Int)) := cell_take hg ht 3 (by simp [bvs])
  have hcn : n ≤ c := by rw [e2]; exact hc
  have HCE := Lib.hid (show ∀ k v, (bvs ((b0 : Int) :: b1 :: b2 :: b3 :: (body ++ tail)))[k]? = some v → W.cell? ⟨g, k, none⟩ = some v from fun k v hv => cell_take hg ht k hv)
  have hglt := hg.lt
  clear hg ht hc e2
  obtain ⟨N1, e1⟩ : ∃ N1, N1 = b0 * 256 + b1 := ⟨_, rfl⟩
  obtain ⟨N2, e2⟩ : ∃ N2, N2 = N1 * 256 + b2 := ⟨_, rfl⟩
  obtain ⟨N, e3⟩ : ∃ N, N = N2 * 256 + b3 := ⟨_, rfl⟩
  have hN : be4 b0 b1 b2 b3 = N := by unfold be4; rw [e3, e2, e1]
  rw [hN] at hb hbl ⊢
  obtain ⟨hb1, hb2⟩ := hb
  have o0 := or0 b0 k0
  have o1 : bits .or .i64 ((b0 : Int) * 256) (b1 : Int) = (N1 : Int) := by rw [or256 b0 b1 (by omega) k1]; omega
  have o2 : bits .or .i64 ((N1 : Int) * 256) (b2 : Int) = (N2 : Int) := by rw [or256 N1 b2 (by omega) k2]; omega
  have o3 : bits .or .i64 ((N2 : Int) * 256) (b3 : Int) = (N : Int) := by rw [or256 N2 b3 (by omega) k3]; omega
  have j1 : N1 ≤ 65535 := by omega
  have j2 : N2 ≤ 16777215 := by omega
  have j3 : N ≤ 4294967295 := by omega
  have hp : W.frozen? ⟨q, 2, none⟩ = false := H.out.blk.frozen 2
  have hlq := H.out.blk.lt
  clear e1 e2 e3 hN
  go_enter Tryz.func52, Tryz.ntmps52
  go_wp2_with (go_at_call 54; (with_reducible refine (is_nil _ _).mono ?_); rintro e w1 ⟨rfl, rfl⟩)
  refine wp_loop_rounds 5 ?_
  rw [rounds_succ]
  go_wp2
  rw [rounds_succ]
  go_wp2
  rw [rounds_succ]
  go_wp2
  rw [rounds_succ]
  go_wp2
  have h1 : decide ((N : Int) < 1) = false := by simp; omega
  have h2 : decide (most < (N : Int)) = false := by simpa using hb2
  have hnn : 4 + N ≤ n := by have hn := HN0.out; rw [List.length_append, hbl] at hn; omega
  have h3 : decide ((n : Int) < 4 + (N : Int)) = false := by simp; omega
  have hc4 : 4 + N ≤ c := Nat.le_trans hnn hcn
  have hc5 : ¬ (4 : Nat) = c := by omega
  have HBL := Lib.hid hbl
  clear hbl
  rw [rounds_succ]
  have C1 := Lib.hid (clone_some ⟨g, 4, none⟩ N (c - 4) body W HBL.out (cells_off hglt (fun k v hv => by
    have := HCE.out (4 + k) v (by
      rw [show (b0 : Int) :: b1 :: b2 :: b3 :: (body ++ tail) = [(b0 : Int), b1, b2, b3] ++ (body ++ tail) from rfl, bvs_append, bvs_append, List.getElem?_append_right (by simp [bvs]), List.getElem?_append_left (by have := (List.getElem?_eq_some_iff.1 hv).1; simp [bvs] at this ⊢; omega)]
      simpa [bvs] using hv)
    exact this)) (by omega))
  go_wp2_with fail
  go_at_call 69; (with_reducible refine C1.out.mono ?_); rintro e w1 ⟨v', rfl, hown, hb⟩
  obtain ⟨Ab, cb, rfl, hr, _⟩ := row_of_own hown
  have HO1 := Lib.hid hown
  have HR := Lib.hid hr
  have B1 := Lib.hid hb
  have H1 := Lib.hid (H.out.kept hb)
  have p1 : w1.cell? ⟨q, 1, none⟩ = some (.slice (some ⟨g, 0, none⟩) n c) := H1.out.blk.cell 1
  clear hown hr hb
  have HTL := Lib.hid (show n = 4 + N + tail.length by have := HN0.out; rw [List.length_append, HBL.out] at this; omega)
  have HS := Lib.hid (H.out.swap2 (tail := tail) B1.out)
  by_cases hcN : 4 + N = c
  · obtain rfl : tail = [] := List.eq_nil_of_length_eq_zero (by have := HTL.out; omega)
    have C2 := Lib.hid (clone_some ⟨g, 0, none⟩ 0 0 [] w1 rfl (fun k hk => absurd hk (by simp [bvs])) (by omega))
    go_wp2_with fail
    go_at_call 69; (with_reducible refine C2.out.mono ?_); rintro e w2 ⟨v2, rfl, hown, hb⟩
    obtain ⟨A2, c2, rfl, _, _⟩ := row_of_own hown
    have HDJ := Lib.hid (show ∀ k, (Value.slice A2 0 c2).ownBlock = some k → Ab ≠ some ⟨k, 0, none⟩ from fun k hk e => by
      have h1 := (hown.lt k hk).1
      have h2 := (HO1.out.lt k (by rw [e]; rfl)).2
      omega)
    have q0 : w2.cell? ⟨q, 1, none⟩ = some (.slice (some ⟨g, 0, none⟩) n c) := (H1.out.kept hb).blk.cell 1
    have q1 : w2.frozen? ⟨q, 1, none⟩ = false := (H1.out.kept hb).blk.frozen 1
    have HW := Lib.hid (HS.out _ _ hb hown)
    have HR2 := Lib.hid ((HR.out.kept hb).tur (Tur.setCell (S := (· = q)) (p := ⟨q, 1, none⟩) (Tur.refl _ _) (.inl rfl) (.slice A2 0 c2)) (fun k hk => by subst hk; exact hlq))
    have HO2 := Lib.hid (ownsRow_tur (ownsRow_tur HO1.out (Tur.of_below (S := fun _ => False) hb) (fun _ _ h => h)) (Tur.setCell (S := (· = q)) (p := ⟨q, 1, none⟩) (Tur.refl _ _) (.inl rfl) (.slice A2 0 c2)) (fun k hk e => by have := (HO1.out.lt k hk).1; omega))
    clear hown hb
    go_wp2
    exact bodyPost_ret (v := .tuple #[.slice Ab N cb, .bool true, .int .i64 0]) (by simp [results, Tryz.results52, go_sem]) rfl ⟨Ab, cb, rfl, HR2.out, A2, c2, HW.out.1, HW.out.2.1, HW.out.2.2, HDJ.out, HO2.out⟩
  · have C2 := Lib.hid (clone_some ⟨g, 4 + N, none⟩ (n - (4 + N)) (c - (4 + N)) tail w1 (by have := HTL.out; omega) (cells_off (Nat.lt_of_lt_of_le hglt B1.out.size) (fun k v hv => by
      have := HCE.out (4 + N + k) v (by
        rw [show (b0 : Int) :: b1 :: b2 :: b3 :: (body ++ tail) = ([(b0 : Int), b1, b2, b3] ++ body) ++ tail from rfl, bvs_append, List.getElem?_append_right (by rw [bvs_len, List.length_append, HBL.out]; simp), bvs_len, List.length_append, HBL.out]
        rw [← hv]; congr 1; simp)
      exact (B1.out.cell (p := ⟨g, 4 + N + k, none⟩) hglt).trans this)) (by omega))
    have htl : n - (4 + N) = tail.length := by have := HTL.out; omega
    rw [htl] at C2
    have HTL2 := Lib.hid htl
    clear htl
    go_wp2_with fail
    rw [HTL2.out]
    go_at_call 69; (with_reducible refine C2.out.mono ?_); rintro e w2 ⟨v2, rfl, hown, hb⟩
    obtain ⟨A2, c2, rfl, _, _⟩ := row_of_own hown
    have HDJ := Lib.hid (show ∀ k, (Value.slice A2 tail.length c2).ownBlock = some k → Ab ≠ some ⟨k, 0, none⟩ from fun k hk e => by
      have h1 := (hown.lt k hk).1
      have h2 := (HO1.out.lt k (by rw [e]; rfl)).2
      omega)
    have q0 : w2.cell? ⟨q, 1, none⟩ = some (.slice (some ⟨g, 0, none⟩) n c) := (H1.out.kept hb).blk.cell 1
    have q1 : w2.frozen? ⟨q, 1, none⟩ = false := (H1.out.kept hb).blk.frozen 1
    have HW := Lib.hid (HS.out _ _ hb hown)
    have HR2 := Lib.hid ((HR.out.kept hb).tur (Tur.setCell (S := (· = q)) (p := ⟨q, 1, none⟩) (Tur.refl _ _) (.inl rfl) (.slice A2 tail.length c2)) (fun k hk => by subst hk; exact hlq))
    have HO2 := Lib.hid (ownsRow_tur (ownsRow_tur HO1.out (Tur.of_below (S := fun _ => False) hb) (fun _ _ h => h)) (Tur.setCell (S := (· = q)) (p := ⟨q, 1, none⟩) (Tur.refl _ _) (.inl rfl) (.slice A2 tail.length c2)) (fun k hk e => by have := (HO1.out.lt k hk).1; omega))
    clear hown hb
    go_wp2
    exact bodyPost_ret (v := .tuple #[.slice Ab N cb, .bool true, .int .i64 0]) (by simp [results, Tryz.results52, go_sem]) rfl ⟨Ab, cb, rfl, HR2.out, A2, c2, HW.out.1, HW.out.2.1, HW.out.2.2, HDJ.out, HO2.out⟩
/-- What Next leaves, by the pure outcome. -/
def NextQ2 (W : World) (base q : Nat) (most : Int) (A : Option Addr) (n c : Nat) (o : NextO) (e : Ending) (w' : World) : Prop :=
  match o with
  | .wait => e = .returned (.tuple #[.slice none 0 0, .bool false, .int .i64 0]) ∧ W = w'
  | .bad => e = .returned (.tuple #[.slice none 0 0, .bool false, .int .i64 14]) ∧ (∃ g, Blk w' q 125 #[.int .i64 most, .slice A n c, errV g] ∧ Blk w' g 111 #[.int .i64 14, .int .i64 0] ∧ W.heap.size ≤ g) ∧ Tur (· = q) W w'
  | .yes body tail => ∃ A' c', e = .returned (.tuple #[.slice A' body.length c', .bool true, .int .i64 0]) ∧ RowAt w' A' body.length W.heap.size body ∧ ∃ v, Fm w' base q most v tail ∧ Tur (· = q) W w' ∧ (∀ k, v.ownBlock = some k → W.heap.size ≤ k) ∧ (∀ k, v.ownBlock = some k → A' ≠ some ⟨k, 0, none⟩) ∧ w'.ownsRow W.heap.size 5 1 (.slice A' body.length c') body.length (bvs body)
theorem f_next2 (base q : Nat) (most : Int) (A : Option Addr) (n c : Nat) (bs : List Int) (W : World) (h : Fm W base q most (.slice A n c) bs) (hn : bs.length = n) (hw : ∀ x ∈ bs, (Lit.int .u8 x).wf = true) (hbig : n ≤ 140737488355328) :
    Calls Tryz.prog 52 #[.pointer (some ⟨q, 0, none⟩)] W (NextQ2 W base q most A n c (nextP most bs)) := by
  match bs, h, hn, hw with
  | [], h, hn, _ => exact f_next_short base q most A n c _ W h (by simp at hn; omega)
  | [_], h, hn, _ => exact f_next_short base q most A n c _ W h (by simp at hn; omega)
  | [_, _], h, hn, _ => exact f_next_short base q most A n c _ W h (by simp at hn; omega)
  | [_, _, _], h, hn, _ => exact f_next_short base q most A n c _ W h (by simp at hn; omega)
  | b0 :: b1 :: b2 :: b3 :: rest, h, hn, hw =>
    obtain ⟨b0, rfl, k0⟩ := byte_nat (hw b0 (by simp))
    obtain ⟨b1, rfl, k1⟩ := byte_nat (hw b1 (by simp))
    obtain ⟨b2, rfl, k2⟩ := byte_nat (hw b2 (by simp))
    obtain ⟨b3, rfl, k3⟩ := byte_nat (hw b3 (by simp))
    have hn' : n = rest.length + 4 := by simp at hn; omega
    unfold nextP
    simp only [Int.toNat_natCast]
    by_cases hb : be4 b0 b1 b2 b3 < 1 ∨ most < (be4 b0 b1 b2 b3 : Int)
    · rw [if_pos hb]
      exact f_next_bad2 base q most A n c b0 b1 b2 b3 k0 k1 k2 k3 rest W h hn' hb
    · rw [if_neg hb]
      by_cases hs : rest.length < be4 b0 b1 b2 b3
      · rw [if_pos hs]
        exact f_next_wait base q most A n c b0 b1 b2 b3 k0 k1 k2 k3 rest W h hn' ⟨by omega, by omega⟩ (by omega)
      · rw [if_neg hs]
        have hl : (rest.take (be4 b0 b1 b2 b3)).length = be4 b0 b1 b2 b3 := by rw [List.length_take]; omega
        refine (f_next_yes2 base q most A n c b0 b1 b2 b3 k0 k1 k2 k3 (rest.take (be4 b0 b1 b2 b3)) (rest.drop (be4 b0 b1 b2 b3)) W (by rw [List.take_append_drop]; exact h) (by rw [List.take_append_drop]; exact hn') ⟨by omega, by omega⟩ hl hbig).mono ?_
        rintro e w' ⟨A', c', rfl, hr, A2, c2, hf, ht, hfr, hdj, hown⟩
        show ∃ A' c', _
        rw [hl]
        exact ⟨A', c', rfl, hr, _, hf, ht, hfr, hdj, hown⟩
end Go.Proofs.YtglbdbghcdoicaaGreatDoor

namespace Go.Proofs.YtglbdbghcdoicaaGreatDoor
open Go.RowKit

set_option maxRecDepth 100000 in
theorem ff_feed (q g : Nat) (m v : Value) (A : Option Addr) (n c : Nat) (W : World) (h : Blk W q 125 #[m, v, errV g]) (hg : Blk W g 111 #[.int .i64 14, .int .i64 0]) :
    Calls Tryz.prog 40 #[.pointer (some ⟨q, 0, none⟩), .slice A n c] W fun e w' => e = .returned (.tuple #[]) ∧ W = w' := by
  have p2 : W.cell? ⟨q, 2, none⟩ = some (errV g) := h.cell 2
  have C := Lib.hid (show Calls Tryz.prog 54 #[errV g, .iface 26 (.int .i64 14)] W fun e w' => e = .returned (.bool true) ∧ W = w' from is_err g 14 0 14 W hg)
  clear h hg
  go_enter Tryz.func40, Tryz.ntmps40
  go_wp2_with fail
  go_at_call 54; (with_reducible refine C.out.mono ?_); rintro e w1 ⟨rfl, rfl⟩
  go_wp2
  go_end0
  exact ⟨rfl, rfl⟩
theorem Fm.turn {W W1 : World} {base q : Nat} {most : Int} {v : Value} {bs : List Int} {S : Nat → Prop} (h : Fm W base q most v bs) (ht : Tur S W W1) (hq : ¬ S q) (hv : ∀ k, v.ownBlock = some k → ¬ S k) : Fm W1 base q most v bs :=
  ⟨h.blk.tur ht hq, ownsRow_tur h.own ht hv, h.ne, h.base⟩
theorem Fm.lt {W : World} {base q : Nat} {most : Int} {v : Value} {bs : List Int} (h : Fm W base q most v bs) : ∀ k, v.ownBlock = some k → base ≤ k ∧ k < W.heap.size := fun k hk => h.own.lt k hk
end Go.Proofs.YtglbdbghcdoicaaGreatDoor
