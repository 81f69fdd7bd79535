/- Frames: the contracts of NewFrames, Feed, Next, Held where there is no fault yet. -/
import Derived.Test.YtdgokebablhoiaaDoorWBodies
import Derived.LaidEql
import Derived.Stop.Asserts
namespace Go.Proofs.YtdgokebablhoiaaDoor
open Go.RowKit Go.Extern.Stop Go.Stop

/-- errors.Is(nil, an Errno). -/
theorem is_nil (k : Int) (W : World) :
    Calls Tryd.prog 34 #[.nilIface, .iface 35 (.int .i64 k)] W fun e w' => e = .returned (.bool false) ∧ W = w' := by
  have hn := fun w => run_eql_iface_nil_left (P := Tryd.prog) w 35 (.int .i64 k) Tryd.underlying46
  go_enter Tryd.func34, Tryd.ntmps34
  go_wp2
  go_ret
  exact ⟨rfl, rfl⟩

/-- Frames at block q without a fault: its row of bytes is its own. -/
structure Fm (W : World) (base q : Nat) (most : Int) (v : Value) (bs : List Int) : Prop where
  blk : Blk W q 108 #[.int .i64 most, v, .nilIface]
  own : W.ownsRow base 5 1 v bs.length (bvs bs)
  ne : v.ownBlock ≠ some q
  base : base ≤ q
section
variable {W W1 : World} {base q : Nat} {most : Int} {v v1 : Value} {bs : List Int}
theorem Fm.fr_below (h : Fm W base q most v bs) (f : WrFr W q v W1 v1) : Below base W W1 :=
  f.1.below (Nat.le_trans h.base (Nat.le_of_lt h.blk.lt)) (fun k hk => by
    rcases hk with rfl | hk
    · exact h.base
    · exact (h.own.lt k hk).1)
theorem Fm.kept (h : Fm W base q most v bs) (hb : Below W.heap.size W W1) : Fm W1 base q most v bs :=
  ⟨h.blk.kept hb, ownsRow_tur h.own (Tur.of_below (S := fun _ => False) hb) (fun _ _ h => h), h.ne, h.base⟩
theorem Fm.put {more : List Int} (h : Fm W base q most v bs) (hown : W1.ownsRow base 5 1 v1 (bs.length + more.length) (bvs bs ++ bvs more)) (hg : W.grownBy W1 v.ownBlock) (hv : v1.ownBlock = v.ownBlock ∨ v1.ownBlock = some W.heap.size) :
    Fm (W1.setCell ⟨q, 1, none⟩ v1) base q most v1 (bs ++ more) ∧ WrFr W q v (W1.setCell ⟨q, 1, none⟩ v1) v1 := by
  have hp : Blk W1 q 108 #[.int .i64 most, v, .nilIface] := h.blk.grown hg (fun e => h.ne e.symm)
  have hne : v1.ownBlock ≠ some q := by
    rcases hv with e | e
    · rw [e]; exact h.ne
    · rw [e]; intro h'; cases h'; exact absurd h.blk.lt (by omega)
  refine ⟨⟨hp.set_ 1 v1, ?_, hne, h.base⟩, Tur.setCell (p := ⟨q, 1, none⟩) (Tur.of_grown hg (fun k e => .inr e)) (.inl (.inl rfl)) v1, ?_⟩
  · rw [List.length_append, bvs_append]
    exact ownsRow_setCell_other hown hne v1
  · rcases hv with e | e
    · exact .inl e
    · exact .inr ⟨_, e, Nat.le_refl _⟩
end

set_option maxRecDepth 100000 in
theorem f_new_no (most : Int) (W : World) (h : most < 1 ∨ 65536 < most) :
    Calls Tryd.prog 35 #[.int .i64 most] W fun e w' => e = .returned (.tuple #[.pointer none, .int .i64 1]) ∧ W = w' := by
  rcases h with h | h
  · go_enter Tryd.func35, Tryd.ntmps35
    go_wp2
    go_ret2
    exact ⟨rfl, rfl⟩
  · have h1 : decide (most < 1) = false := by simp; omega
    go_enter Tryd.func35, Tryd.ntmps35
    go_wp2
    go_ret2
    exact ⟨rfl, rfl⟩
set_option maxRecDepth 100000 in
theorem f_new_yes (most : Int) (W : World) (h1 : 1 ≤ most) (h2 : most ≤ 65536) :
    Calls Tryd.prog 35 #[.int .i64 most] W fun e w' => e = .returned (.tuple #[.pointer (some ⟨W.heap.size, 0, none⟩), .int .i64 0]) ∧ Fm w' W.heap.size W.heap.size most (.slice none 0 0) [] ∧ Below W.heap.size W w' := by
  go_enter Tryd.func35, Tryd.ntmps35
  go_wp2
  go_ret2
  exact ⟨rfl, ⟨Blk.new _ _ _, World.ownsRow_nil _ _ _ _, by simp [Value.ownBlock], Nat.le_refl _⟩, (Below.refl _ _).alloc (Nat.le_refl _) _⟩

set_option maxRecDepth 100000 in
theorem f_feed (A : Option Addr) (n c : Nat) (xs : List Int) (base q : Nat) (most : Int) (v : Value) (bs : List Int) (W : World) (h : Fm W base q most v bs) (hl : xs.length = n) (hx : CellsAt W A (bvs xs)) (hA : A = none → c = 0) (hn : bs.length + n ≤ 140737488355328) :
    Calls Tryd.prog 37 #[.pointer (some ⟨q, 0, none⟩), .slice A n c] W fun e w' => e = .returned (.tuple #[]) ∧ ∃ v', Fm w' base q most v' (bs ++ xs) ∧ WrFr W q v w' v' := by
  obtain ⟨A1, c1, rfl, _, _, _⟩ := owned_form h.own
  have H := Lib.hid h
  have HX := Lib.hid hx
  have HL := Lib.hid hl
  have HA := Lib.hid hA
  have HN := Lib.hid hn
  have p1 : W.cell? ⟨q, 1, none⟩ = some (.slice A1 bs.length c1) := h.blk.cell 1
  have p2 : W.cell? ⟨q, 2, none⟩ = some .nilIface := h.blk.cell 2
  generalize hm : bs.length = m at *
  have HM := Lib.hid hm
  have S1 := Lib.hid (show base ≤ W.heap.size from Nat.le_trans h.base (Nat.le_of_lt h.blk.lt))
  clear h hl hx hA hn hm
  go_enter Tryd.func37, Tryd.ntmps37
  go_wp2_with (first
    | (go_at_call 34; (with_reducible refine (is_nil _ _).mono ?_); rintro e w1 ⟨rfl, rfl⟩)
    | (at_builtin; refine wpList_append_bytes rfl _ _ rfl base _ m bs rfl (by rw [← HM.out]; rw [HM.out]; exact HM.out ▸ H.out.own) A n c HA.out xs rfl HL.out HX.out (Nat.le_trans HN.out (by omega)) S1.out ?_
       intro v' w2 hown hg hv
       obtain ⟨A', c', rfl, _, _, _⟩ := owned_form hown
       have q0 : w2.cell? ⟨q, 1, none⟩ = some (.slice A1 m c1) := (H.out.blk.grown hg (fun e => H.out.ne e.symm)).cell 1
       have q1 : w2.frozen? ⟨q, 1, none⟩ = false := (H.out.blk.grown hg (fun e => H.out.ne e.symm)).frozen 1
       have HW := Lib.hid (H.out.put (more := xs) (by rw [HM.out, HL.out]; exact hown) hg hv)
       clear hown hg hv))
  go_end0
  exact ⟨rfl, _, HW.out.1, HW.out.2⟩
end Go.Proofs.YtdgokebablhoiaaDoor
