/- Plain words for memory that the walks of this seat share: frames, blocks that are known whole. -/
import Derived.WalkKit
import Derived.WalkSpells
import Derived.WalkLawsBesides
import Derived.KernelRfl
import Derived.Outline
import Derived.OwnWalk
import Derived.Below
import Derived.Handy
import Derived.Deep.Draws
import Derived.Deep.AppendLies
import Derived.Maps.AppendAt
import Derived.Laws.MakeOwn
import Derived.Laws.OwnMore
import Derived.Laws.Rows
import Derived.Deep.OwnRows
import Derived.Deep.LoopGhost
import Derived.Deep.QuietTactic
import Derived.BigQuiet
import Derived.WideLaws
import Derived.Deep.DeepCutAuto
import Derived.Deep.CutBlock
import Derived.Deep.RegionHeld3
import Derived.Deep.RegionWith
import Derived.Deep.DeepFit
import Derived.RowKit3
import Derived.OrdersHeld
import Derived.Lib.Hide
import Derived.IntWalk
namespace Go.Proofs.YtglbdbghcdoicaaGreatDoor
open Go.RowKit

def Blk (w : World) (g : Nat) (t : TypeId) (cs : Array Value) : Prop := w.heap[g]? = some (.cells cs t (0, 0))

section
variable {w w' : World} {g : Nat} {t : TypeId} {cs : Array Value}
theorem Blk.lt (h : Blk w g t cs) : g < w.heap.size := by
  rcases Nat.lt_or_ge g w.heap.size with hlt | hge
  · exact hlt
  · unfold Blk at h; rw [Array.getElem?_eq_none hge] at h; cases h
theorem Blk.cell (h : Blk w g t cs) (i : Nat) : w.cell? ⟨g, i, none⟩ = cs[i]? := cell_of_row w g i cs t (0, 0) h
theorem Blk.frozen (h : Blk w g t cs) (i : Nat) : w.frozen? ⟨g, i, none⟩ = false := by
  unfold Blk at h
  simp [World.frozen?, h]
theorem Blk.new (w : World) (t : TypeId) (cs : Array Value) : Blk (w.alloc (.cells cs t)) w.heap.size t cs := heap_alloc_new w _
theorem Blk.drew (h : Blk w g t cs) : Blk w.drew g t cs := h
theorem Blk.drewN (h : Blk w g t cs) (n : Nat) : Blk (w.drewN n) g t cs := h
theorem Blk.alloc (h : Blk w g t cs) (o : Obj) : Blk (w.alloc o) g t cs := (Below.heap_alloc w o g h.lt).trans h
theorem Blk.set_ (h : Blk w g t cs) (i : Nat) (u : Value) : Blk (w.setCell ⟨g, i, none⟩ u) g t (cs.setIfInBounds i u) := by
  unfold Blk at h ⊢
  simp [World.setCell, Array.getElem?_modify, h]
theorem Blk.far (h : Blk w g t cs) {p : Addr} (hp : g ≠ p.block) (u : Value) : Blk (w.setCell p u) g t cs := (Below.heap_setCell w p u g hp).trans h
theorem Blk.below {B : Nat} (h : Blk w g t cs) (hb : Below B w w') (hg : g < B) : Blk w' g t cs := (hb.block g hg).trans h
theorem Blk.grown {row : Option Nat} (h : Blk w g t cs) (hb : w.grownBy w' row) (hg : some g ≠ row) : Blk w' g t cs := (hb.block g h.lt hg).trans h
theorem Blk.ne_ {g' : Nat} {t' : TypeId} {cs' : Array Value} (h : Blk w g t cs) (h' : Blk w g' t' cs') (hne : t ≠ t') : g ≠ g' := by
  rintro rfl
  unfold Blk at h h'
  rw [h] at h'
  injection h' with h'
  injection h' with _ ht
  exact hne ht
end

/-- Below block number B the world w' is as w1 was, in the form in which a region that draws its order asks for it. -/
abbrev Held (B : Nat) (w1 w' : World) : Prop :=
  (∀ b o, b < B → w'.cell? ⟨b, o, none⟩ = w1.cell? ⟨b, o, none⟩) ∧ (∀ b o, b < B → w'.frozen? ⟨b, o, none⟩ = w1.frozen? ⟨b, o, none⟩) ∧ B ≤ w'.heap.size ∧ Below B w1 w'

section
variable {B : Nat} {w1 w' w2 : World}
theorem Held.of (hb : Below B w1 w') (hB : B ≤ w1.heap.size) : Held B w1 w' :=
  ⟨fun b o h => hb.cell (p := ⟨b, o, none⟩) h, fun b o h => hb.frozen (p := ⟨b, o, none⟩) h, Nat.le_trans hB hb.size, hb⟩
theorem Held.mk_ (hb : Below B w1 w') (hB : B ≤ w'.heap.size) : Held B w1 w' :=
  ⟨fun b o h => hb.cell (p := ⟨b, o, none⟩) h, fun b o h => hb.frozen (p := ⟨b, o, none⟩) h, hB, hb⟩
theorem Held.step (h : Held B w1 w') (hb : Below w'.heap.size w' w2) : Held B w1 w2 := Held.mk_ (h.2.2.2.trans (hb.mono h.2.2.1)) (Nat.le_trans h.2.2.1 hb.size)
theorem Held.drew (h : Held B w1 w') : Held B w1 w'.drew := Held.mk_ h.2.2.2.drew h.2.2.1
theorem Held.alloc (h : Held B w1 w') (o : Obj) : Held B w1 (w'.alloc o) := Held.mk_ (h.2.2.2.alloc h.2.2.1 o) (by have := h.2.2.1; simp; omega)
theorem Held.set_ (h : Held B w1 w') {p : Addr} (hp : B ≤ p.block) (u : Value) : Held B w1 (w'.setCell p u) := Held.mk_ (h.2.2.2.setCell hp u) (by have := h.2.2.1; simpa [World.setCell] using this)
end

theorem ite_pos_ {c p q : Prop} [Decidable c] (h : c) (hp : p) : if c then p else q := by rw [if_pos h]; exact hp
theorem ite_neg_ {c p q : Prop} [Decidable c] (h : ¬ c) (hq : q) : if c then p else q := by rw [if_neg h]; exact hq

/-- The same behind a name that no rule opens. -/
def HeldC (B : Nat) (w1 w' : World) : Prop := Held B w1 w'
theorem HeldC.mk {B : Nat} {w1 w' : World} (h : Held B w1 w') : HeldC B w1 w' := h
theorem HeldC.out {B : Nat} {w1 w' : World} (h : HeldC B w1 w') : Held B w1 w' := h
theorem HeldC.step {B : Nat} {w1 w' w2 : World} (h : Held B w1 w') (hb : Below w'.heap.size w' w2) : HeldC B w1 w2 := Held.step h hb

/-- A region that draws its order, walked once in the order of the text: every operation gives one value in every world of the class, and leaves a world of it. -/
theorem wp_region_heldq {P : Program} {id : Nat} {Q : Exit → Act → World → Prop} {a : Act} {w : World} {l : List Oper} {B : Nat} {w1 : World} (hm : P.follows .mixedOrders = true)
    (hB : Region.lexB .any l.toArray = true) (hC : Held B w1 w.drew) (h : wpQuiet P l.toArray (HeldC B w1) (fun a' => ∀ w', Held B w1 w' → Q .normal a' w') l a) : (Code.region id l.toArray true).wp P Q a w :=
  wp_region_quiet (C := HeldC B w1) hm hB hC (by rw [List.toList_toArray]; exact h)

theorem Blk.made {X w2 : World} {t : TypeId} {cs : Array Value} (hb : Below (X.alloc (.cells cs t)).heap.size (X.alloc (.cells cs t)) w2) : Blk w2 X.heap.size t cs :=
  (Blk.new X t cs).below hb (by simp)
theorem Blk.madeD {X w2 : World} {t : TypeId} {cs : Array Value} (hb : Below (X.alloc (.cells cs t)).drew.heap.size (X.alloc (.cells cs t)).drew w2) : Blk w2 X.heap.size t cs :=
  ((Blk.new X t cs).drew).below hb (by simp)
theorem Blk.kept {X w2 : World} {t : TypeId} {g : Nat} {cs : Array Value} (h : Blk X g t cs) (hb : Below X.heap.size X w2) : Blk w2 g t cs := h.below hb h.lt

theorem below_drewN {B : Nat} {a w : World} (h : Below B a w) (n : Nat) : Below B a (w.drewN n) := ⟨h.os, h.tape, h.output, h.size, h.block⟩
/-- Two results, the first a struct in a block that is known whole. -/
theorem ret_cell_tmp {P : Program} {fn : Func} {p u : Tmp} {ty : TypeId} (h : fn.results = #[.cell p ty, .tmp u]) (tmps : Array Value) (w : World) (g : Nat) (t : TypeId) (cs : Array Value) (d : TypeDesc)
    (hp : tmps.getD p undef = .pointer (some ⟨g, 0, none⟩)) (hg : Blk w g t cs)
    (hu : P.underlying ty = some d) (hd : (match d with | .struct _ | .array _ _ => true | _ => false) = true) (hi : (P.info? ty).map (·.size) = some cs.size) :
    (results fn tmps).run P w = .ok (.tuple #[.agg cs, tmps.getD u undef]) w := by
  have hp' : tmps[p]?.getD undef = .pointer (some ⟨g, 0, none⟩) := by simpa using hp
  simp [results, h, hp', asAddr, run_loadVar_row w g t ty cs (0, 0) d hg hu hd hi]

theorem ret_int {k : IntKind} {a b : Int} (h : a = b) : Ending.returned (.int k a) = .returned (.int k b) := by rw [h]
theorem ret_bool {a b : Bool} (h : a = b) : Ending.returned (.bool a) = .returned (.bool b) := by rw [h]

end Go.Proofs.YtglbdbghcdoicaaGreatDoor
