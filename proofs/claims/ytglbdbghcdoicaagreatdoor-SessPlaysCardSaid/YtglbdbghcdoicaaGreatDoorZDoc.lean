/- What the document's Decode leaves on its way. -/
import Derived.Test.YtglbdbghcdoicaaGreatDoorZLect
namespace Go.Proofs.YtglbdbghcdoicaaGreatDoor
open Go.RowKit

/-- The Lector at j over the Reader at q, the answer's fields at b, a row of its own in hand. -/
structure DxIs (W0 : World) (q j b : Nat) (T : TypeId) (A : Option Addr) (n c : Nat) (xs : List Int) (cs : Array Value) (s : RS) (E : TypeId) (sz : Nat) (v : Value) (m : Nat) (ys : List Value) (W : World) : Prop where
  blk : Blk W b T cs
  own : W.ownsRow W0.heap.size E sz v m ys
  rd : DocIs W q A n c xs s
  lx : LxB W j q
  tur : Tur (fun k => k = q ∨ k = b) W0 W
  bq : b ≠ q
  jq : j ≠ q
  jb : j ≠ b
  bl : b < W0.heap.size
  ql : q < W0.heap.size
  jl : j < W0.heap.size
  bA : xs ≠ [] → ∀ ad, A = some ad → ad.block ≠ b ∧ ad.block < W0.heap.size
section
variable {W0 W W1 : World} {q j b n c : Nat} {T : TypeId} {A : Option Addr} {xs : List Int} {cs cs1 : Array Value} {s s1 : RS} {E : TypeId} {sz m m1 : Nat} {v v1 : Value} {ys ys1 : List Value}
theorem DxIs.kept (h : DxIs W0 q j b T A n c xs cs s E sz v m ys W) (hb : Below W.heap.size W W1) : DxIs W0 q j b T A n c xs cs s E sz v m ys W1 :=
  ⟨h.blk.kept hb, ownsRow_tur h.own (Tur.of_below (S := fun _ => False) hb) (fun _ _ h => h), h.rd.kept hb, h.lx.kept hb, h.tur.trans (Tur.of_below (S := fun _ => False) hb) (fun _ e => e.elim), h.bq, h.jq, h.jb, h.bl, h.ql, h.jl, h.bA⟩
theorem DxIs.alloc (h : DxIs W0 q j b T A n c xs cs s E sz v m ys W) (o : Obj) : DxIs W0 q j b T A n c xs cs s E sz v m ys (W.alloc o) := h.kept ((Below.refl _ _).alloc (Nat.le_refl _) o)
theorem DxIs.drew (h : DxIs W0 q j b T A n c xs cs s E sz v m ys W) : DxIs W0 q j b T A n c xs cs s E sz v m ys W.drew := h.kept (Below.refl _ _).drew
theorem DxIs.read (h : DxIs W0 q j b T A n c xs cs s E sz v m ys W) (hr : DocIs W1 q A n c xs s1) (hf : Tur (· = q) W W1) : DxIs W0 q j b T A n c xs cs s1 E sz v m ys W1 :=
  ⟨h.blk.tur hf h.bq, ownsRow_tur h.own hf (fun k e hs => by have := (h.own.lt k e).1; have := h.ql; omega), hr, h.lx.tur hf h.jq, h.tur.trans hf (fun k e => .inl (.inl e)), h.bq, h.jq, h.jb, h.bl, h.ql, h.jl, h.bA⟩
theorem DxIs.put (h : DxIs W0 q j b T A n c xs cs s E sz v m ys W) (i : Nat) (u : Value) (e : cs.setIfInBounds i u = cs1) : DxIs W0 q j b T A n c xs cs1 s E sz v m ys (W.setCell ⟨b, i, none⟩ u) := by
  have ht : Tur (· = b) W (W.setCell ⟨b, i, none⟩ u) := (Tur.refl (· = b) W).setCell (p := ⟨b, i, none⟩) (.inl rfl) u
  exact ⟨e ▸ h.blk.set_ i u, ownsRow_tur h.own ht (fun k e hs => by have := (h.own.lt k e).1; have := h.bl; omega), h.rd.tur ht (fun e => h.bq e.symm) (fun h0 ad e => (h.bA h0 ad e).1), h.lx.tur ht h.jb, h.tur.trans ht (fun k e => .inl (.inr e)), h.bq, h.jq, h.jb, h.bl, h.ql, h.jl, h.bA⟩
theorem DxIs.grown (h : DxIs W0 q j b T A n c xs cs s E sz v m ys W) (hg : W.grownBy W1 v.ownBlock) (hown : W1.ownsRow W0.heap.size E sz v1 m1 ys1) : DxIs W0 q j b T A n c xs cs s E sz v1 m1 ys1 W1 := by
  have hk : ∀ k, v.ownBlock = some k → W0.heap.size ≤ k := fun k e => (h.own.lt k e).1
  have ht : Tur (fun k => v.ownBlock = some k) W W1 := Tur.of_grown hg (fun k e => e)
  exact ⟨h.blk.tur ht (fun e => by have := hk _ e; have := h.bl; omega), hown, h.rd.tur ht (fun e => by have := hk _ e; have := h.ql; omega) (fun h0 ad e e2 => by have := hk _ e2; have := (h.bA h0 ad e).2; omega),
    h.lx.tur ht (fun e => by have := hk _ e; have := h.jl; omega), h.tur.trans ht (fun k e => .inr (hk k e)), h.bq, h.jq, h.jb, h.bl, h.ql, h.jl, h.bA⟩
theorem DxIs.to (h : DxIs W0 q j b T A n c xs cs s E sz v m ys W) (e1 : m = m1) (e2 : ys = ys1) : DxIs W0 q j b T A n c xs cs s E sz v m1 ys1 W := e1 ▸ e2 ▸ h
theorem DxIs.toV (h : DxIs W0 q j b T A n c xs cs s E sz v m ys W) (e : v = v1) : DxIs W0 q j b T A n c xs cs s E sz v1 m ys W := e ▸ h
theorem DxIs.start (hr : DocIs W q A n c xs s) (T : TypeId) (cs : Array Value) (E : TypeId) (sz : Nat) (hA : xs ≠ [] → ∀ ad, A = some ad → ad.block < W.heap.size) :
    DxIs ((W.alloc (.cells #[.pointer (some ⟨q, 0, none⟩)] 187)).alloc (.cells cs T)) q W.heap.size (W.heap.size + 1) T A n c xs cs s E sz (.slice none 0 0) 0 [] ((W.alloc (.cells #[.pointer (some ⟨q, 0, none⟩)] 187)).alloc (.cells cs T)) := by
  have hql := hr.blk.lt
  have e1 : (W.alloc (.cells #[.pointer (some ⟨q, 0, none⟩)] 187)).heap.size = W.heap.size + 1 := by simp
  have e2 : ((W.alloc (.cells #[.pointer (some ⟨q, 0, none⟩)] 187)).alloc (.cells cs T)).heap.size = W.heap.size + 2 := by simp
  have bl1 := (Below.refl W.heap.size W).alloc (Nat.le_refl _) (.cells #[.pointer (some ⟨q, 0, none⟩)] 187)
  have bl2 := (Below.refl _ (W.alloc (.cells #[.pointer (some ⟨q, 0, none⟩)] 187))).alloc (Nat.le_refl _) (.cells cs T)
  refine ⟨?_, World.ownsRow_nil _ _ _ _, (hr.kept bl1).kept bl2, (Blk.new W _ _).kept bl2, Tur.refl _ _, by omega, by omega, by omega, by omega, by omega, by omega, fun h0 ad e => ⟨?_, ?_⟩⟩
  · have := Blk.new (W.alloc (.cells #[.pointer (some ⟨q, 0, none⟩)] 187)) T cs
    rwa [e1] at this
  · have := hA h0 ad e; omega
  · have := hA h0 ad e; omega
end
/-- The document goes on with its cells behind a fault: what it has then does not matter. -/
def dcells (xs : List Int) : Nat → List CellV × RS → List CellV × RS
  | 0, st => st
  | k + 1, st => ((dcells xs k st).1 ++ [(cellP xs (dcells xs k st).2).1], (cellP xs (dcells xs k st).2).2)
theorem dcells_len (xs : List Int) (st : List CellV × RS) : ∀ k, (dcells xs k st).1.length = st.1.length + k
  | 0 => rfl
  | k + 1 => by simp [dcells, dcells_len xs st k]; omega
theorem cellP_stay {xs : List Int} {s : RS} (h : s.fault.isSome = true) : (cellP xs s).2 = s := Stays.cell xs s h
theorem dcells_same (xs : List Int) (st : List CellV × RS) : ∀ k, (dcells xs k st).2 = (cellsP xs k st).2 ∧ ((cellsP xs k st).2.fault = none → (dcells xs k st).1 = (cellsP xs k st).1)
  | 0 => ⟨rfl, fun _ => rfl⟩
  | k + 1 => by
    obtain ⟨h1, h2⟩ := dcells_same xs st k
    simp only [dcells, cellsP, stepC]
    rcases hf : (cellsP xs k st).2.fault with _ | x
    · simp only [Option.isSome_none, Bool.false_eq_true, if_false]
      rw [h1, h2 hf]
      exact ⟨rfl, fun _ => rfl⟩
    · simp only [Option.isSome_some, if_true]
      rw [h1]
      exact ⟨cellP_stay (by rw [hf]; rfl), fun h => by rw [hf] at h; cases h⟩
def drows (xs : List Int) : Nat → List RowV × RS → List RowV × RS
  | 0, st => st
  | k + 1, st => ((drows xs k st).1 ++ [(rowD xs (drows xs k st).2).1], (rowD xs (drows xs k st).2).2)
theorem drows_len (xs : List Int) (st : List RowV × RS) : ∀ k, (drows xs k st).1.length = st.1.length + k
  | 0 => rfl
  | k + 1 => by simp [drows, drows_len xs st k]; omega
theorem drows_same (xs : List Int) (st : List RowV × RS) : ∀ k, (drows xs k st).2 = (iterG rowD xs k st).2 ∧ ((iterG rowD xs k st).2.fault = none → (drows xs k st).1 = (iterG rowD xs k st).1)
  | 0 => ⟨rfl, fun _ => rfl⟩
  | k + 1 => by
    obtain ⟨h1, h2⟩ := drows_same xs st k
    simp only [drows, iterG, stepG]
    rcases hf : (iterG rowD xs k st).2.fault with _ | x
    · simp only [Option.isSome_none, Bool.false_eq_true, if_false]
      rw [h1, h2 hf]
      exact ⟨rfl, fun _ => rfl⟩
    · simp only [Option.isSome_some, if_true]
      rw [h1]
      exact ⟨Stays.rowT xs _ (by rw [hf]; rfl), fun h => by rw [hf] at h; cases h⟩
/-- What the document's DecodeRequest, DecodeResponse tell. -/
def DocQ (W : World) (y : Rq × Option (Int × Int)) (e : Ending) (w' : World) : Prop :=
  Below W.heap.size W w' ∧ match y.2 with
    | none => ∃ v, e = .returned (.tuple #[.agg (rqC v y.1), .int .i64 0, .int .i64 0]) ∧ CellsOwn w' W.heap.size v y.1.cs
    | some (code, p) => e = .returned (.tuple #[.agg (rqC nilS rq0), .int .i64 code, .int .i64 p])
def DocS (W : World) (y : Rs × Option (Int × Int)) (e : Ending) (w' : World) : Prop :=
  Below W.heap.size W w' ∧ match y.2 with
    | none => ∃ v, e = .returned (.tuple #[.agg (rsC v y.1), .int .i64 0, .int .i64 0]) ∧ RowsOwn w' W.heap.size v y.1.rows
    | some (code, p) => e = .returned (.tuple #[.agg (rsC nilS rs0), .int .i64 code, .int .i64 p])
end Go.Proofs.YtglbdbghcdoicaaGreatDoor
