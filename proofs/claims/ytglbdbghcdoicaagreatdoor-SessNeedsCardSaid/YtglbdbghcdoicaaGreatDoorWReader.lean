/- The Reader with a fault: broken, Fail, Err. -/
import Derived.Test.YtglbdbghcdoicaaGreatDoorWHead
import Derived.Test.YtglbdbghcdoicaaGreatDoorTied
namespace Go.Proofs.YtglbdbghcdoicaaGreatDoor
open Go.RowKit

abbrev errV (g : Nat) : Value := .iface 107 (.pointer (some ⟨g, 0, none⟩))
theorem as_err (g t : Nat) (old : Value) (W : World) (hg : W.cell? ⟨0, 0, none⟩ = some tyErr) (ht : W.cell? ⟨t, 0, none⟩ = some old) (hf : W.frozen? ⟨t, 0, none⟩ = false) :
    Calls Tryz.prog 51 #[errV g, .iface 109 (.pointer (some ⟨t, 0, none⟩))] W fun e w' => ∃ W2, e = .returned (.bool true) ∧ w' = W2.setCell ⟨t, 0, none⟩ (.pointer (some ⟨g, 0, none⟩)) ∧ Below W.heap.size W W2 := by
  refine (as_hit ⟨g, 0, none⟩ ⟨t, 0, none⟩ old W hg ht hf).mono ?_
  rintro e w' ⟨rfl, rfl⟩
  exact ⟨_, rfl, rfl, ((((Below.refl _ _).alloc (Nat.le_refl _) _).alloc (by simp) _).alloc (by simp; omega) _).alloc (by simp; omega) _⟩

theorem tyErr_alloc {W : World} (h : W.cell? ⟨0, 0, none⟩ = some tyErr) (o : Obj) : (W.alloc o).cell? ⟨0, 0, none⟩ = some tyErr :=
  (((Below.refl W.heap.size W).alloc (Nat.le_refl _) o).cell (p := ⟨0, 0, none⟩) (World.block_lt_of_cell? W _ h)).trans h

theorem blk_last {W : World} {t : TypeId} {cs : Array Value} {n : Nat} (h : W.heap.size = n) : Blk (W.alloc (.cells cs t)) n t cs := h ▸ Blk.new W t cs
set_option maxRecDepth 100000 in
theorem r_broken_yes (q g : Nat) (v : Value) (at_ : Int) (W : World) (hT : W.cell? ⟨0, 0, none⟩ = some tyErr) (h : Blk W q 219 (RdC v at_ (errV g))) :
    Calls Tryz.prog 116 #[.pointer (some ⟨q, 0, none⟩)] W fun e w' => e = .returned (.bool true) ∧ Below W.heap.size W w' := by
  have p2 : W.cell? ⟨q, 2, none⟩ = some (errV g) := h.cell 2
  have hlt := h.lt
  have HT := Lib.hid hT
  clear h hT
  go_enter Tryz.func116, Tryz.ntmps116
  go_wp2_with fail
  go_at_call 51; (with_reducible refine (as_err g W.heap.size (.pointer none) _ (tyErr_alloc HT.out _) ((Blk.new W _ _).cell 0) ((Blk.new W _ _).frozen 0)).mono ?_); rintro e w1 ⟨W2, rfl, hw, hb⟩
  have B := Lib.hid (show Below W.heap.size W w1 from hw ▸ (((Below.refl _ _).alloc (Nat.le_refl _) _).trans (hb.mono (by simp))).setCell (p := ⟨W.heap.size, 0, none⟩) (Nat.le_refl _) _)
  clear hw hb
  go_wp2
  go_ret
  exact ⟨rfl, B.out⟩

set_option maxRecDepth 100000 in
theorem r_err_yes (q g : Nat) (v : Value) (at_ : Int) (code pl : Int) (W : World) (hT : W.cell? ⟨0, 0, none⟩ = some tyErr) (h : Blk W q 219 (RdC v at_ (errV g))) (hg : Blk W g 111 #[.int .i64 code, .int .i64 pl]) :
    Calls Tryz.prog 74 #[.pointer (some ⟨q, 0, none⟩)] W fun e w' => ∃ g', e = .returned (errV g') ∧ Blk w' g' 111 #[.int .i64 code, .int .i64 pl] ∧ Below W.heap.size W w' := by
  have p2 : W.cell? ⟨q, 2, none⟩ = some (errV g) := h.cell 2
  have hlt := h.lt
  have HG := Lib.hid hg
  have HT := Lib.hid hT
  clear h hg hT
  go_enter Tryz.func74, Tryz.ntmps74
  go_wp2_with fail
  go_at_call 51; (with_reducible refine (as_err g W.heap.size (.pointer none) _ (tyErr_alloc HT.out _) ((Blk.new W _ _).cell 0) ((Blk.new W _ _).frozen 0)).mono ?_); rintro e w1 ⟨W2, rfl, hw, hb⟩
  have lg := HG.out.lt
  have K : Blk w1 g 111 #[.int .i64 code, .int .i64 pl] := hw ▸ ((HG.out.alloc _).kept hb).far (p := ⟨W.heap.size, 0, none⟩) (Nat.ne_of_lt lg) _
  have t0 : w1.cell? ⟨W.heap.size, 0, none⟩ = some (.pointer (some ⟨g, 0, none⟩)) := by
    have := ((Blk.new W 107 #[.pointer none]).kept hb).set_ 0 (.pointer (some ⟨g, 0, none⟩))
    rw [hw]
    exact this.cell 0
  have k0 : w1.cell? ⟨g, 0, none⟩ = some (.int .i64 code) := K.cell 0
  have k1 : w1.cell? ⟨g, 1, none⟩ = some (.int .i64 pl) := K.cell 1
  have B := Lib.hid (show Below W.heap.size W w1 from hw ▸ (((Below.refl _ _).alloc (Nat.le_refl _) _).trans (hb.mono (by simp))).setCell (p := ⟨W.heap.size, 0, none⟩) (Nat.le_refl _) _)
  clear hw hb K
  go_wp2
  go_region
  all_goals
    go_wp2
    go_ret
    exact ⟨_, rfl, Blk.new _ _ _, (B.out.drew).alloc (by have := B.out.size; simpa using this) _⟩

set_option maxRecDepth 100000 in
/-- Fail where there is no fault yet. -/
theorem r_fail_set (q : Nat) (v : Value) (at_ code pl : Int) (W : World) (hc : (code == 0) = false) (h : Blk W q 219 (RdC v at_ .nilIface)) :
    Calls Tryz.prog 73 #[.pointer (some ⟨q, 0, none⟩), .int .i64 code, .int .i64 pl] W fun e w' => e = .returned (.tuple #[]) ∧ ∃ g, Blk w' q 219 (RdC v at_ (errV g)) ∧ Blk w' g 111 #[.int .i64 code, .int .i64 pl] ∧ Tur (· = q) W w' := by
  have H := Lib.hid h
  have hc2 : (code != 0) = true := by unfold bne; rw [hc]; rfl
  clear h
  go_enter Tryz.func73, Tryz.ntmps73
  go_wp2_with fail
  go_at_call 116; (with_reducible refine (r_broken_no q _ _ _ H.out).mono ?_); rintro e w1 ⟨rfl, hb⟩
  have K := Lib.hid (H.out.kept hb)
  have B := Lib.hid hb
  have f2 : w1.frozen? ⟨q, 2, none⟩ = false := K.out.frozen 2
  have p2 : w1.cell? ⟨q, 2, none⟩ = some .nilIface := K.out.cell 2
  have hlq := K.out.lt
  clear hb
  go_wp2
  go_end0
  refine ⟨rfl, w1.heap.size, ?_, ?_, ?_⟩
  · exact (K.out.set_ 2 _).alloc _
  · exact blk_last (by simp [World.setCell])
  · exact (Tur.setCell (S := (· = q)) (p := ⟨q, 2, none⟩) (Tur.of_below B.out) (.inl rfl) _).alloc _
set_option maxRecDepth 100000 in
theorem r_fail_keep (q g : Nat) (v : Value) (at_ code pl : Int) (W : World) (hT : W.cell? ⟨0, 0, none⟩ = some tyErr) (h : Blk W q 219 (RdC v at_ (errV g))) :
    Calls Tryz.prog 73 #[.pointer (some ⟨q, 0, none⟩), .int .i64 code, .int .i64 pl] W fun e w' => e = .returned (.tuple #[]) ∧ Below W.heap.size W w' := by
  have H := Lib.hid h
  have HT := Lib.hid hT
  clear h hT
  go_enter Tryz.func73, Tryz.ntmps73
  go_wp2_with fail
  go_at_call 116; (with_reducible refine (r_broken_yes q g _ _ _ HT.out H.out).mono ?_); rintro e w1 ⟨rfl, hb⟩
  go_wp2
  go_end0
  exact ⟨rfl, hb⟩
end Go.Proofs.YtglbdbghcdoicaaGreatDoor
