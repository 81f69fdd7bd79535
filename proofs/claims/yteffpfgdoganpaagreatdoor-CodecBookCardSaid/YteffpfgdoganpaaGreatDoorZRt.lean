/- Plain: the number of a fault is never 0; what is decoded with a fault is nothing. CodecReads: the walk. CodecTurns: the walk. -/
import Derived.Test.YteffpfgdoganpaaGreatDoorCPls
import Derived.Test.YteffpfgdoganpaaGreatDoorZDocS
import Derived.Test.YteffpfgdoganpaaGreatDoorCKn
import Derived.Test.YteffpfgdoganpaaGreatDoorCSameRq
import Derived.Test.YteffpfgdoganpaaGreatDoorCRefs
namespace Go.Proofs.YteffpfgdoganpaaGreatDoor
open Go.RowKit

def Fok (s : RS) : Prop := ∀ e p, s.fault = some (e, p) → e ≠ 0
theorem Fok.none {k : Nat} : Fok ⟨k, none⟩ := fun _ _ h => by cases h
theorem Fok.some_ {k : Nat} {e p : Int} (h : e ≠ 0) : Fok ⟨k, some (e, p)⟩ := fun e' p' he => by
  injection he with he
  injection he with h1 h2
  exact h1 ▸ h
theorem Fok.fail {s : RS} (h : Fok s) (e p : Int) : Fok (s.fail e p) := by
  unfold RS.fail
  rcases hf : s.fault with _ | x
  · dsimp only
    split
    · exact h
    · rename_i h0; exact Fok.some_ h0
  · dsimp only; exact h
theorem Fok.sev {xs : List Int} {most last : Nat} {s : RS} (h : Fok s) : Fok (sevP xs most last s).2 := by
  unfold sevP
  rcases hf : s.fault with _ | x
  · dsimp only
    rcases sevAll xs s.pos most last with _ | _ | _
    all_goals first | exact Fok.none | exact Fok.some_ (by decide)
  · dsimp only; exact h
def Keeps {α : Type} (f : List Int → RS → α × RS) : Prop := ∀ xs s, Fok s → Fok (f xs s).2
section
variable {α β : Type} {f : List Int → RS → α × RS} {g : α → List Int → RS → β × RS}
theorem Keeps.ret (a : α) : Keeps (retR a) := fun _ _ h => h
theorem Keeps.bind (hf : Keeps f) (hg : ∀ a, Keeps (g a)) : Keeps (bindR f g) := fun xs s h => hg _ xs _ (hf xs s h)
theorem Keeps.numM (most : Int) : Keeps (fun xs s => numP xs most s) := fun xs s h => by
  show Fok (numS most s.pos (sevP xs 9 127 s))
  unfold numS
  split
  · exact Fok.fail (Fok.sev h) _ _
  · exact Fok.sev h
theorem Keeps.num : Keeps numR := Keeps.numM M40
theorem Keeps.int : Keeps intR := fun _ _ h => Fok.sev h
theorem Keeps.text : Keeps textR := fun xs s h => by
  show Fok (textQ xs (numP xs 32 s)).2
  have h1 : Fok (numP xs 32 s).2 := Keeps.numM 32 xs s h
  unfold textQ
  rcases hf : (numP xs 32 s).2.fault with _ | x
  · dsimp only
    split
    · exact Fok.some_ (by decide)
    · exact Fok.none
  · dsimp only; exact h1
theorem Keeps.cell : Keeps cellR := Keeps.bind (f := numR) (g := fun v => bindR textR (fun t => bindR intR (fun i => retR (⟨(v : Int), strOfNums t, i⟩ : CellV)))) Keeps.num (fun _ => Keeps.bind Keeps.text (fun _ => Keeps.bind Keeps.int (fun _ => Keeps.ret _)))
theorem Keeps.count (most : Int) : Keeps (fun xs s => countP xs most s) := fun xs s h => by
  show Fok (countP xs most s).2
  have h1 : Fok (numP xs M40 s).2 := Keeps.num xs s h
  unfold countP
  split
  · exact h1.fail _ _
  · exact h1
theorem Keeps.row : Keeps (fun xs s => rowD xs s) :=
  Keeps.bind (f := cellR) (g := fun c => bindR intR (fun a => bindR intR (fun b => bindR intR (fun d => bindR intR (fun e => retR (⟨c, a, b, d, e⟩ : RowV)))))) Keeps.cell (fun _ => Keeps.bind Keeps.int (fun _ => Keeps.bind Keeps.int (fun _ => Keeps.bind Keeps.int (fun _ => Keeps.bind Keeps.int (fun _ => Keeps.ret _)))))
theorem Fok.iter (hf : Keeps f) (xs : List Int) (st : List α × RS) (h : Fok st.2) : ∀ k, Fok (iterG f xs k st).2
  | 0 => h
  | k + 1 => by
    have ih := Fok.iter hf xs st h k
    unfold iterG stepG
    split
    · exact ih
    · exact hf xs _ ih
theorem Fok.cells (xs : List Int) (st : List CellV × RS) (h : Fok st.2) : ∀ k, Fok (cellsP xs k st).2
  | 0 => h
  | k + 1 => by
    have ih := Fok.cells xs st h k
    unfold cellsP stepC
    split
    · exact ih
    · exact Keeps.cell xs _ ih
theorem Fok.kind (xs : List Int) : Fok (kindD xs).2 := Keeps.num xs _ Fok.none
theorem Fok.readQ (xs : List Int) : Fok (readD xs).2 := by
  have h1 : Fok (numP xs M40 (kindD xs).2).2 := Keeps.num xs _ (Fok.kind xs)
  have h2 : Fok (numP xs M40 (numP xs M40 (kindD xs).2).2).2 := Keeps.num xs _ h1
  unfold readD bodyD
  dsimp only
  split
  · exact Keeps.cell xs _ h2
  · split
    · exact Fok.cells xs _ (Keeps.count 16 xs _ h2) _
    · split
      · have c1 : Fok (cellP xs (numP xs M40 (numP xs M40 (kindD xs).2).2).2).2 := Keeps.cell xs _ h2
        have c2 : Fok (cellP xs (cellP xs (numP xs M40 (numP xs M40 (kindD xs).2).2).2).2).2 := Keeps.cell xs _ c1
        have c3 : Fok (numP xs M40 (cellP xs (cellP xs (numP xs M40 (numP xs M40 (kindD xs).2).2).2).2).2).2 := Keeps.num xs _ c2
        exact c3
      · split
        · exact h2
        · exact h1
theorem Fok.readS (xs : List Int) : Fok (readS xs).2 := by
  have h1 : Fok (numP xs M40 (kindD xs).2).2 := Keeps.num xs _ (Fok.kind xs)
  have h2 : Fok (numP xs M40 (numP xs M40 (kindD xs).2).2).2 := Keeps.num xs _ h1
  unfold Go.Proofs.YteffpfgdoganpaaGreatDoor.readS bodyS
  dsimp only
  split
  · exact Fok.iter Keeps.row xs _ (Keeps.count 256 xs _ h1) _
  · split
    · exact h2
    · split
      · exact Keeps.num xs _ (Keeps.num xs _ (Keeps.num xs _ (Keeps.num xs _ (Keeps.num xs _ (Keeps.num xs _ h1)))))
      · split
        · exact h2
        · exact h1
theorem Fok.end_ {xs : List Int} {s : RS} (h : Fok s) : Fok (endP xs s) := by
  unfold endP
  split
  · exact h.fail _ _
  · exact h
theorem Fok.check {code : Int} {s : RS} (h : Fok s) : Fok (checkD code s) := by
  unfold checkD
  split
  · exact h
  · exact h.fail _ _
end
/-- A fault's number is not 0; with a fault there is nothing. -/
theorem decRq_fault {xs : List Int} {q : Rq} {e p : Int} (h : decRq xs = (q, some (e, p))) : q = rq0 ∧ (e == 0) = false := by
  unfold decRq at h
  split at h
  · injection h with h1 h2
    exact ⟨h1.symm, by simpa using (Fok.kind xs).fail 15 0 e p h2⟩
  · split at h
    · injection h with h1 h2
      exact ⟨h1.symm, by simpa using (Fok.readQ xs).end_.check e p h2⟩
    · injection h with h1 h2; cases h2
theorem decRs_fault {xs : List Int} {q : Rs} {e p : Int} (h : decRs xs = (q, some (e, p))) : q = rs0 ∧ (e == 0) = false := by
  unfold decRs at h
  split at h
  · injection h with h1 h2
    exact ⟨h1.symm, by simpa using (Fok.kind xs).fail 15 0 e p h2⟩
  · split at h
    · injection h with h1 h2
      exact ⟨h1.symm, by simpa using (Fok.readS xs).end_.check e p h2⟩
    · injection h with h1 h2; cases h2
end Go.Proofs.YteffpfgdoganpaaGreatDoor

namespace Go.Proofs.YteffpfgdoganpaaGreatDoor
open Go.RowKit

theorem bytes_cap {H : Type} {enc : TypeId × Value → H} {P : Program} {W : World} {t e : TypeId} {A : Option Addr} {n c : Nat} {d : DataW H} {p : List MemPlace}
    (ht : P.underlying t = some (.slice e)) (he : P.underlying e = some (.int .u8)) (hc : P.cellsOf e = 1) (h : DataW.Trod enc P W 0 (fun _ => true) true t (.slice A n c) d p) : n ≤ c := by
  obtain ⟨fuel, hf⟩ := h
  rcases Go.ChangeShapes.open_ints ht he hc hf with ⟨hcs, _⟩ | ⟨a, len, cap, zs, hcs, _, hl, _⟩
  · simp [Value.cells] at hcs
    obtain ⟨rfl, rfl, rfl⟩ := hcs
    exact Nat.le_refl _
  · simp [Value.cells] at hcs
    obtain ⟨rfl, rfl, rfl⟩ := hcs
    exact hl
/-- An error that says so. -/
def FV (W : World) (ev : Value) : Option (Int × Int) → Prop
  | none => ev = .nilIface
  | some (e, p) => (e == 0) = false ∧ ∃ g, ev = errV g ∧ Blk W g 110 #[.int .i64 e, .int .i64 p]
def fcode : Option (Int × Int) → Int
  | none => 0
  | some (e, _) => e
def fplace : Option (Int × Int) → Int
  | none => 0
  | some (_, p) => p
section
variable {W W' : World} {ev : Value} {f : Option (Int × Int)}
theorem FV.kept (h : FV W ev f) (hb : Below W.heap.size W W') : FV W' ev f := by
  rcases f with _ | ⟨e, p⟩
  · exact h
  · obtain ⟨h0, g, h1, h2⟩ := h
    exact ⟨h0, g, h1, h2.kept hb⟩
theorem FV.tur {k : Nat} {t : TypeId} {cs : Array Value} (h : FV W ev f) (ht : Tur (· = k) W W') (hk : Blk W k t cs) (hne : 110 ≠ t) : FV W' ev f := by
  rcases f with _ | ⟨e, p⟩
  · exact h
  · obtain ⟨h0, g, h1, h2⟩ := h
    exact ⟨h0, g, h1, h2.tur ht (fun e => (h2.ne_ hk hne) e)⟩
theorem fault_any (h : FV W ev f) (hT : W.cell? ⟨0, 0, none⟩ = some tyErr) :
    Calls Tryz.prog 13 #[ev, .int .i64 (fcode f), .int .i64 (fplace f)] W fun e w' => e = .returned (.bool true) ∧ Below W.heap.size W w' := by
  rcases f with _ | ⟨e, p⟩
  · obtain rfl := h
    exact fault_no 0 W
  · obtain ⟨h0, g, rfl, h2⟩ := h
    exact fault_yes g e p W hT h0 h2
end
section
variable {W w' : World} {e : Ending} {xs : List Int}
theorem DecQ.open_ (h : DecQ W (decRq xs) e w') : ∃ v ev, e = .returned (.tuple #[.agg (rqC v (decRq xs).1), ev]) ∧ CellsOwn w' W.heap.size v (decRq xs).1.cs ∧ FV w' ev (decRq xs).2 ∧ Below W.heap.size W w' := by
  obtain ⟨hb, h⟩ := h
  rcases hd : decRq xs with ⟨q, _ | ⟨c, p⟩⟩
  · rw [hd] at h
    obtain ⟨v, h1, h2⟩ := h
    exact ⟨v, _, h1, h2, rfl, hb⟩
  · obtain ⟨rfl, h0⟩ := decRq_fault hd
    rw [hd] at h
    obtain ⟨g, h1, h2⟩ := h
    exact ⟨nilS, _, h1, World.ownsRow_nil _ _ _ _, ⟨h0, g, rfl, h2⟩, hb⟩
theorem DesQ.open_ (h : DesQ W (decRs xs) e w') : ∃ v ev, e = .returned (.tuple #[.agg (rsC v (decRs xs).1), ev]) ∧ RowsOwn w' W.heap.size v (decRs xs).1.rows ∧ FV w' ev (decRs xs).2 ∧ Below W.heap.size W w' := by
  obtain ⟨hb, h⟩ := h
  rcases hd : decRs xs with ⟨q, _ | ⟨c, p⟩⟩
  · rw [hd] at h
    obtain ⟨v, h1, h2⟩ := h
    exact ⟨v, _, h1, h2, rfl, hb⟩
  · obtain ⟨rfl, h0⟩ := decRs_fault hd
    rw [hd] at h
    obtain ⟨g, h1, h2⟩ := h
    exact ⟨nilS, _, h1, World.ownsRow_nil _ _ _ _, ⟨h0, g, rfl, h2⟩, hb⟩
theorem DocQ.open_ (h : DocQ W (decRq xs) e w') : ∃ v, e = .returned (.tuple #[.agg (rqC v (decRq xs).1), .int .i64 (fcode (decRq xs).2), .int .i64 (fplace (decRq xs).2)]) ∧ CellsOwn w' W.heap.size v (decRq xs).1.cs ∧ Below W.heap.size W w' := by
  obtain ⟨hb, h⟩ := h
  rcases hd : decRq xs with ⟨q, _ | ⟨c, p⟩⟩
  · rw [hd] at h
    obtain ⟨v, h1, h2⟩ := h
    exact ⟨v, h1, h2, hb⟩
  · obtain ⟨rfl, h0⟩ := decRq_fault hd
    rw [hd] at h
    exact ⟨nilS, h, World.ownsRow_nil _ _ _ _, hb⟩
theorem DocS.open_ (h : DocS W (decRs xs) e w') : ∃ v, e = .returned (.tuple #[.agg (rsC v (decRs xs).1), .int .i64 (fcode (decRs xs).2), .int .i64 (fplace (decRs xs).2)]) ∧ RowsOwn w' W.heap.size v (decRs xs).1.rows ∧ Below W.heap.size W w' := by
  obtain ⟨hb, h⟩ := h
  rcases hd : decRs xs with ⟨q, _ | ⟨c, p⟩⟩
  · rw [hd] at h
    obtain ⟨v, h1, h2⟩ := h
    exact ⟨v, h1, h2, hb⟩
  · obtain ⟨rfl, h0⟩ := decRs_fault hd
    rw [hd] at h
    exact ⟨nilS, h, World.ownsRow_nil _ _ _ _, hb⟩
end
theorem same_self (q : Rq) : decide (sameRq q q) = true := by rw [decide_eq_true_eq, sameRq_eq]
theorem same_selfS (q : Rs) : decide (sameRs q q) = true := by rw [decide_eq_true_eq, sameRs_eq]
theorem CellsOwn.kept_ {W W1 : World} {B : Nat} {v : Value} {cs : List CellV} (h : CellsOwn W B v cs) (hb : Below W.heap.size W W1) : CellsOwn W1 B v cs := ownsRow_tur h (Tur.of_below (S := fun _ => False) hb) (fun _ _ h => h)
theorem RowsOwn.kept_ {W W1 : World} {B : Nat} {v : Value} {cs : List RowV} (h : RowsOwn W B v cs) (hb : Below W.heap.size W W1) : RowsOwn W1 B v cs := ownsRow_tur h (Tur.of_below (S := fun _ => False) hb) (fun _ _ h => h)
end Go.Proofs.YteffpfgdoganpaaGreatDoor

namespace Go.Proofs.YteffpfgdoganpaaGreatDoor
open Go.RowKit

theorem encB_two {q : Rq} (h : checkRq q = 0) : 2 ≤ (encB q).length ∧ (encB q).length ≤ 800 := by rw [encB_ok h]; exact encRq_le (rq_good h)
theorem encS_two {q : Rs} (h : checkRs q = 0) (hi : ∀ x ∈ q.rows, RowI x) : 2 ≤ (encS q).length ∧ (encS q).length ≤ 30000 := by rw [encS_ok h]; exact encRs_le (rs_good h) hi
theorem Byt.take {xs : List Int} (h : Byt xs) (k : Nat) : Byt (xs.take k) := fun x hx => h x (List.mem_of_mem_take hx)
theorem Byt.set {xs : List Int} (h : Byt xs) (k : Nat) {u : Int} (hu : 0 ≤ u ∧ u < 256) : Byt (xs.set k u) := fun x hx => by
  rcases List.mem_or_eq_of_mem_set hx with e | e
  · exact h x e
  · exact e ▸ hu
/-- A row that one's own memory holds reads as these bytes. -/
theorem own_cells {W : World} {base n : Nat} {v : Value} {xs : List Int} (h : W.ownsRow base 5 1 v n (bvs xs)) : ∃ A c, v = .slice A n c ∧ CellsAt W A (bvs xs) ∧ xs.length = n := by
  obtain ⟨A, c, e, hr, _⟩ := row_of_own h
  refine ⟨A, c, e, hr.cells, ?_⟩
  have := h.1
  rw [bvs_len] at this
  omega
theorem own_blk {W : World} {base n : Nat} {v : Value} {xs : List Int} (h : W.ownsRow base 5 1 v n (bvs xs)) (hn : 0 < n) : ∃ g c cur, v = .slice (some ⟨g, 0, none⟩) n c ∧ base ≤ g ∧ n ≤ c ∧ Blk W g 5 cur ∧ cur.size = c ∧ cur.toList.take n = bvs xs := by
  rcases h.2 with ⟨_, h0⟩ | ⟨g, cap, cur, e, h1, h2, h3, _, h5, h6⟩
  · omega
  · exact ⟨g, cap, cur, e, h1, h3, h2, by omega, by rw [Nat.mul_one] at h6; exact h6⟩
theorem blk_cells {W : World} {g : Nat} {t : TypeId} {cur : Array Value} {n : Nat} {xs : List Int} (h : Blk W g t cur) (ht : cur.toList.take n = bvs xs) : CellsAt W (some ⟨g, 0, none⟩) (bvs xs) := fun j hj => by
  refine ⟨_, rfl, h.lt, ?_⟩
  have h1 := h.cell j
  have h2 : (cur.toList.take n)[j]? = some (bvs xs)[j] := by rw [ht]; exact List.getElem?_eq_getElem hj
  rw [List.getElem?_take] at h2
  split at h2
  · rw [Array.getElem?_toList] at h2
    rw [h2] at h1
    have e : Addr.add ⟨g, 0, none⟩ j = ⟨g, j, none⟩ := by cases j <;> simp [Addr.add]
    rw [e]
    exact h1
  · cases h2
theorem cell_of_take {W : World} {g n k : Nat} {t : TypeId} {cur : Array Value} {xs : List Int} {x : Int} (h : Blk W g t cur) (ht : cur.toList.take n = bvs xs) (hk : k < n) (hx : xs[k]? = some x) : W.cell? ⟨g, k, none⟩ = some (.int .u8 x) := by
  have h1 : (bvs xs)[k]? = some (.int .u8 x) := by unfold bvs; rw [List.getElem?_map, hx]; rfl
  rw [← ht, List.getElem?_take, if_pos hk, Array.getElem?_toList] at h1
  rw [h.cell k, h1]
theorem takeAt {W : World} {A : Option Addr} {xs : List Int} {k : Nat} (h : CellsAt W A (bvs xs)) : CellsAt W A (bvs (xs.take k)) := by
  have := h.take_ k
  rwa [show (bvs xs).take k = bvs (xs.take k) by simp [bvs, List.map_take]] at this
theorem take_set_bvs {cur : Array Value} {n k : Nat} {xs : List Int} (h : cur.toList.take n = bvs xs) (u : Int) : (cur.setIfInBounds k (.int .u8 u)).toList.take n = bvs (xs.set k u) := by
  rw [Array.toList_setIfInBounds, List.take_set, h]
  unfold bvs
  rw [List.map_set]
end Go.Proofs.YteffpfgdoganpaaGreatDoor
