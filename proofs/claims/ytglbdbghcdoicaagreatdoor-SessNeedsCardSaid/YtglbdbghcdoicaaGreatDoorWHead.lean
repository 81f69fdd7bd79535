/- The Reader where it has no fault. -/
import Derived.Test.YtglbdbghcdoicaaGreatDoorWWs
import Derived.Test.YtglbdbghcdoicaaGreatDoorAsW
import Derived.Laws.Bits64
namespace Go.Proofs.YtglbdbghcdoicaaGreatDoor
open Go.RowKit

/-- A Reader's block. -/
abbrev RdC (v : Value) (at_ : Int) (f : Value) : Array Value := #[v, .int .i64 at_, f]

set_option maxRecDepth 100000 in
theorem r_read (A : Option Addr) (n c : Nat) (xs : List Int) (W : World) (hl : xs.length = n) (h : CellsAt W A (bvs xs)) (hn : n ≤ 211106232532992) :
    Calls Tryz.prog 70 #[.slice A n c] W fun e w' => ∃ q A' c', e = .returned (.pointer (some ⟨q, 0, none⟩)) ∧ W.heap.size ≤ q ∧ Blk w' q 219 (RdC (.slice A' n c') 0 .nilIface) ∧ RowAt w' A' n W.heap.size xs ∧ (∀ ad, A' = some ad → ad.block < q) ∧ Below W.heap.size W w' := by
  have C := Lib.hid (clone_wide A n c xs W hl h hn)
  clear hl h hn
  go_enter Tryz.func70, Tryz.ntmps70
  go_wp2_with fail
  go_at_call 69; (with_reducible refine C.out.mono ?_); rintro e w1 ⟨v', rfl, hown, hb⟩
  obtain ⟨A', c', rfl, hr, hc⟩ := row_of_own hown
  have HR := Lib.hid hr
  have B := Lib.hid hb
  clear hown hr hb hc
  go_wp2
  go_ret
  refine ⟨w1.heap.size, A', c', rfl, B.out.size, Blk.new _ _ _, HR.out.kept ((Below.refl _ _).alloc (Nat.le_refl _) _), ?_, B.out.alloc B.out.size _⟩
  rintro ad rfl
  rcases HR.out with ⟨h, _⟩ | ⟨g, cur, h, _, hg, _⟩
  · cases h
  · cases h; exact hg.lt

set_option maxRecDepth 100000 in
theorem r_broken_no (q : Nat) (v : Value) (at_ : Int) (W : World) (h : Blk W q 219 (RdC v at_ .nilIface)) :
    Calls Tryz.prog 116 #[.pointer (some ⟨q, 0, none⟩)] W fun e w' => e = .returned (.bool false) ∧ Below W.heap.size W w' := by
  have p2 : W.cell? ⟨q, 2, none⟩ = some .nilIface := h.cell 2
  have hlt := h.lt
  clear h
  go_enter Tryz.func116, Tryz.ntmps116
  go_wp2_with fail
  go_at_call 51; (with_reducible refine (as_nil _ _).mono ?_); rintro e w1 ⟨rfl, rfl⟩
  go_wp2
  go_ret
  exact ⟨rfl, (Below.refl _ _).alloc (Nat.le_refl _) _⟩
set_option maxRecDepth 100000 in
theorem r_err_no (q : Nat) (v : Value) (at_ : Int) (W : World) (h : Blk W q 219 (RdC v at_ .nilIface)) :
    Calls Tryz.prog 74 #[.pointer (some ⟨q, 0, none⟩)] W fun e w' => e = .returned .nilIface ∧ Below W.heap.size W w' := by
  have p2 : W.cell? ⟨q, 2, none⟩ = some .nilIface := h.cell 2
  have hlt := h.lt
  clear h
  go_enter Tryz.func74, Tryz.ntmps74
  go_wp2_with fail
  go_at_call 51; (with_reducible refine (as_nil _ _).mono ?_); rintro e w1 ⟨rfl, rfl⟩
  go_wp2
  go_ret
  exact ⟨rfl, (Below.refl _ _).alloc (Nat.le_refl _) _⟩

theorem cell_take {W : World} {g n : Nat} {cur : Array Value} {xs : List Value} (hg : Blk W g 5 cur) (ht : cur.toList.take n = xs) (k : Nat) {v : Value} (hv : xs[k]? = some v) : W.cell? ⟨g, k, none⟩ = some v := by
  rw [← ht, List.getElem?_take] at hv
  split at hv
  · rw [hg.cell k, ← Array.getElem?_toList]; exact hv
  · cases hv

theorem belowOf {X w' w4 : World} {q : Nat} (_ : Below X.heap.size X w') (h : Below q w4 X) : Below q w4 X := h
theorem turOf {S : Nat → Prop} {X w' w4 : World} {q : Nat} (_ : Tur S X w') (h : Below q w4 X) : Below q w4 X := h
theorem Wr.held {W X : World} {base p q : Nat} {v : Value} {bs : List Int} (h : Wr W base p v bs) (hb : Below q W X) (hp : p < q) (ho : ∀ k, v.ownBlock = some k → k < q) : Wr X base p v bs :=
  ⟨h.blk.below hb hp, ownsRow_tur (S := fun k => q ≤ k) h.own ⟨hb.os, hb.tape, hb.output, hb.size, fun k _ hn => hb.block k (by omega)⟩ (fun k hk => by have := ho k hk; omega), h.ne, h.base⟩
theorem Held.belowH {B : Nat} {w1 w' : World} (h : Held B w1 w') : Below B w1 w' := h.2.2.2
theorem Held.turn {B q : Nat} {w1 w' w2 : World} (h : Held B w1 w') (ht : Tur (· = q) w' w2) (hq : B ≤ q) : Held B w1 w2 :=
  Held.mk_ (h.2.2.2.trans (ht.below h.2.2.1 (fun k hk => by subst hk; exact hq))) (Nat.le_trans h.2.2.1 ht.size)

end Go.Proofs.YtglbdbghcdoicaaGreatDoor
