/- EncodeRequest: the walk. -/
import Derived.Test.YtglbdbghcdoicaaGreatDoorCEncs
import Derived.Deep.RegionHeld3
namespace Go.Proofs.YtglbdbghcdoicaaGreatDoor
open Go.RowKit
set_option maxRecDepth 100000
set_option maxHeartbeats 32000000

theorem take_q {P : Program} {ops : Array Oper} {md : Region.Mode} {Q : Exit → Act → World → Prop} {S : World → Prop} {i : Nat} {oi : Oper} {d : Tmp} {v : Value} {fuel : Nat} {listed : Array Bool} {a : Act} {w : World} (hi : ops[i]? = some oi) (hd : oi.dst = some d)
  (hs : Region.noSelect ops = true) (hf : Region.free md ops listed i = true) (hr : (Region.ready md ops listed).contains i = true)
  (hQ : ∀ c a w, Q (.panic c) (a.put oi.dst v) w → Q (.panic c) a w) (hw : Region.wanted oi (yielded ops a.tmps) = true) (hy : ∀ w, S w → (execOp a.eval oi).run P w = .ok (.value v) w) (hS : S w)
  (h : wpAnyH P md ops Q S fuel (listed.setIfInBounds i true) (a.put (some d) v) w) : wpAnyH P md ops Q S (fuel + 1) listed a w :=
 wpAnyH_take hi hs hf hr hQ (.inl ⟨hw, hy⟩) hS (hd ▸ h)
theorem Lh {P : Prop} (h : P) : Hid P := Lib.hid h
theorem z1 {α : Type} (l : List α) (i : Nat) (a : α) : l.toArray.setIfInBounds i a = (l.set i a).toArray := List.setIfInBounds_toArray l i a
theorem z2 {α : Type} (a b : α) (l : List α) : (a :: l).set 0 b = b :: l := List.set_cons_zero
theorem z3 {α : Type} (a b : α) (l : List α) (n : Nat) : (a :: l).set (n + 1) b = a :: l.set n b := List.set_cons_succ
theorem tr {P : Program} {ops : Array Oper} {md : Region.Mode} {Q : Exit → Act → World → Prop} {S : World → Prop} {oi : Oper} {v : Value} {fuel : Nat} {listed : Array Bool} {a : Act} {w : World} (i : Nat) (d : Tmp)
  (hy : ∀ w, S w → (execOp a.eval oi).run P w = .ok (.value v) w) (h : wpAnyH P md ops Q S fuel (listed.setIfInBounds i true) (a.put (some d) v) w)
  (hi : ops[i]? = some oi := by rfl) (hd : oi.dst = some d := by rfl) (hs : Region.noSelect ops = true := by kernel_rfl) (hf : Region.free md ops listed i = true := by kernel_rfl) (hr : (Region.ready md ops listed).contains i = true := by kernel_rfl)
  (hQ : ∀ c a w, Q (.panic c) (a.put oi.dst v) w → Q (.panic c) a w := by exact fun _ _ _ h => h) (hw : Region.wanted oi (yielded ops a.tmps) = true := by kernel_rfl) (hS : S w := by assumption) : wpAnyH P md ops Q S (fuel + 1) listed a w :=
 take_q hi hd hs hf hr hQ hw hy hS h
theorem tq {P : Program} {ops : Array Oper} {md : Region.Mode} {Q : Exit → Act → World → Prop} {S : World → Prop} {oi : Oper} {v : Value} {fuel : Nat} {listed : Array Bool} {a : Act} {w : World} (i : Nat) (d : Tmp)
  (h : wpAnyH P md ops Q S fuel (listed.setIfInBounds i true) (a.put (some d) v) w)
  (hi : ops[i]? = some oi := by rfl) (hd : oi.dst = some d := by rfl) (hs : Region.noSelect ops = true := by kernel_rfl) (hf : Region.free md ops listed i = true := by kernel_rfl) (hr : (Region.ready md ops listed).contains i = true := by kernel_rfl)
  (hQ : ∀ c a w, Q (.panic c) (a.put oi.dst v) w → Q (.panic c) a w := by exact fun _ _ _ h => h) (hw : Region.wanted oi (yielded ops a.tmps) = true := by kernel_rfl) (hS : S w := by assumption)
  (hy : ∀ w, S w → (execOp a.eval oi).run P w = .ok (.value v) w := by intro w9 hSw; first | (go_simp; done) | (go_simp; with_reducible rfl)) : wpAnyH P md ops Q S (fuel + 1) listed a w :=
 take_q hi hd hs hf hr hQ hw hy hS h
theorem out_new (W : World) : Wr (W.alloc (.cells #[.slice none 0 0] 167)) W.heap.size W.heap.size (.slice none 0 0) [] :=
 ⟨Blk.new W _ _, ⟨rfl, .inl ⟨rfl, rfl⟩⟩, by simp [Value.ownBlock], Nat.le_refl _⟩
theorem RowAt.lower {W : World} {A : Option Addr} {n lo lo' : Nat} {xs : List Int} (h : RowAt W A n lo xs) (hl : lo' ≤ lo) : RowAt W A n lo' xs := by
 rcases h with h | ⟨g, cur, rfl, h1, r⟩
 ·exact .inl h
 ·exact .inr ⟨g, cur, rfl, by omega, r⟩
theorem Oc.kept {W W' W'' : World} {p base i : Nat} {v0 v : Value} {t : TypeId} {cs : Array Value} {bs : List Int} (h : Oc W p base v0 i t cs v bs W') (hb : Below W'.heap.size W' W'') : Oc W p base v0 i t cs v bs W'' :=
 h.step (h.wr.kept hb) ⟨Tur.of_below hb, .inl rfl⟩
/-- What an Encode that goes through tells. -/
def EncQ (W : World) (bs : List Int) (e : Ending) (w' : World) : Prop := ∃ A, e = .returned (.tuple #[.slice A bs.length bs.length, .int .i64 0]) ∧ RowAt w' A bs.length W.heap.size bs ∧ Below W.heap.size W w'

end Go.Proofs.YtglbdbghcdoicaaGreatDoor
