/- Requests and responses as plain data: what may be written. place, cell, bound, small, and the document's own: the walks. SameRequest, SameResponse, the lists' own sameness: the walks. slices.Equal of cells, of rows: the walks. -/
import Derived.Test.YtglbdbghcdoicaaGreatDoorWWs
import Derived.Deep.Slices
import Derived.Deep.Fields
namespace Go.Proofs.YtglbdbghcdoicaaGreatDoor
open Go.RowKit

structure CellV where
  view : Int
  key : ByteArray
  start : Int
theorem CellV.ext_iff_ (a b : CellV) : a = b ↔ a.view = b.view ∧ a.key = b.key ∧ a.start = b.start := by
  cases a; cases b; simp
instance : DecidableEq CellV := fun a b => decidable_of_iff _ (CellV.ext_iff_ a b).symm
instance : Inhabited CellV := ⟨⟨0, ⟨#[]⟩, 0⟩⟩
def CellV.cells (c : CellV) : List Value := [.int .i64 c.view, .string c.key, .int .i64 c.start]
def cell0 : CellV := ⟨0, ⟨#[]⟩, 0⟩
structure Rq where
  kind : Int
  id : Int
  epoch : Int
  cs : List CellV
  frm : CellV
  too : CellV
  limit : Int
structure RowV where
  cell : CellV
  count : Int
  sum : Int
  min : Int
  max : Int
theorem RowV.ext_iff_ (a b : RowV) : a = b ↔ a.cell = b.cell ∧ a.count = b.count ∧ a.sum = b.sum ∧ a.min = b.min ∧ a.max = b.max := by
  cases a; cases b; simp
instance : DecidableEq RowV := fun a b => decidable_of_iff _ (RowV.ext_iff_ a b).symm
instance : Inhabited RowV := ⟨⟨cell0, 0, 0, 0, 0⟩⟩
def RowV.cells (r : RowV) : List Value := r.cell.cells ++ [.int .i64 r.count, .int .i64 r.sum, .int .i64 r.min, .int .i64 r.max]
structure StV where
  taken : Int
  late : Int
  over : Int
  full : Int
  cells : Int
  now : Int
theorem StV.ext_iff_ (a b : StV) : a = b ↔ a.taken = b.taken ∧ a.late = b.late ∧ a.over = b.over ∧ a.full = b.full ∧ a.cells = b.cells ∧ a.now = b.now := by
  cases a; cases b; simp
instance : DecidableEq StV := fun a b => decidable_of_iff _ (StV.ext_iff_ a b).symm
def st0 : StV := ⟨0, 0, 0, 0, 0, 0⟩
structure Rs where
  kind : Int
  id : Int
  err : Int
  epoch : Int
  rows : List RowV
  st : StV
/-- A cell's error: the most View, the least bytes of a Key. -/
def placeP (c : CellV) (most least : Int) : Int :=
  if c.view < 0 ∨ most < c.view then 23
  else if (c.key.size : Int) < least ∨ 32 < (c.key.size : Int) then 21
  else if c.start < -2305843009213693952 ∨ 2305843009213693952 < c.start then 22
  else 0
def smallP (n : Int) : Bool := decide (0 ≤ n) && decide (n ≤ 1099511627776)
/-- The first error of a row of cells. -/
def firstP : List CellV → Int
  | [] => 0
  | c :: cs => if placeP c 3 1 = 0 then firstP cs else placeP c 3 1
/-- Has a request something that its kind does not name? -/
def unusedP (q : Rq) : Prop := (q.kind ≠ 3 ∧ (q.frm ≠ cell0 ∨ q.too ≠ cell0 ∨ q.limit ≠ 0)) ∨ (q.kind ≠ 1 ∧ q.kind ≠ 2 ∧ q.cs ≠ []) ∨ ((q.kind = 4 ∨ q.kind = 7) ∧ q.epoch ≠ 0)
instance (q : Rq) : Decidable (unusedP q) := by unfold unusedP; infer_instance
def scanP (q : Rq) : Int := if placeP q.frm 4 0 ≠ 0 then placeP q.frm 4 0 else if placeP q.too 4 0 ≠ 0 then placeP q.too 4 0 else if q.limit < 1 ∨ 256 < q.limit then 2 else 0
def checkRq (q : Rq) : Int :=
  if q.kind < 1 ∨ 7 < q.kind then 15
  else if smallP q.id = false ∨ unusedP q ∨ smallP q.epoch = false then 16
  else if (q.kind = 5 ∨ q.kind = 6) ∧ q.epoch = 0 then 16
  else if (q.kind = 1 ∧ q.cs.length ≠ 1) ∨ (q.kind = 2 ∧ q.cs.length = 0) then 16
  else if 16 < q.cs.length then 2
  else if firstP q.cs ≠ 0 then firstP q.cs
  else if q.kind = 3 then scanP q else 0
def sameRq (a b : Rq) : Prop := a.kind = b.kind ∧ a.id = b.id ∧ a.epoch = b.epoch ∧ a.cs = b.cs ∧ a.frm = b.frm ∧ a.too = b.too ∧ a.limit = b.limit
instance (a b : Rq) : Decidable (sameRq a b) := by unfold sameRq; infer_instance
/-- A row's error. -/
def rowP (r : RowV) : Int :=
  if placeP r.cell 3 1 ≠ 0 then placeP r.cell 3 1
  else if r.count < 0 ∨ (r.count = 0 ∧ (r.sum ≠ 0 ∨ r.min ≠ 0 ∨ r.max ≠ 0)) ∨ r.max < r.min then 16 else 0
def firstR : List RowV → Int
  | [] => 0
  | r :: rs => if rowP r = 0 then firstR rs else rowP r
def spareP (r : Rs) : Prop := (r.kind ≠ 1 ∧ r.rows ≠ []) ∨ (r.kind ≠ 2 ∧ r.epoch ≠ 0) ∨ (r.kind ≠ 4 ∧ r.st ≠ st0) ∨ (r.kind ≠ 5 ∧ r.err ≠ 0)
instance (r : Rs) : Decidable (spareP r) := by unfold spareP; infer_instance
def stP (s : StV) : Int := if smallP s.taken && smallP s.late && smallP s.over && smallP s.full && smallP s.cells && smallP s.now then 0 else 16
def checkRs (r : Rs) : Int :=
  if r.kind < 1 ∨ 5 < r.kind then 15
  else if smallP r.id = false ∨ spareP r then 16
  else if 256 < r.rows.length then 2
  else if firstR r.rows ≠ 0 then firstR r.rows
  else if r.kind = 2 then (if r.epoch < 1 ∨ 1099511627776 < r.epoch then 16 else 0)
  else if r.kind = 4 then stP r.st
  else if r.kind = 5 then (if r.err < 1 ∨ 255 < r.err then 16 else 0)
  else 0
def sameRs (a b : Rs) : Prop := a.kind = b.kind ∧ a.id = b.id ∧ a.err = b.err ∧ a.epoch = b.epoch ∧ a.rows = b.rows ∧ a.st = b.st
instance (a b : Rs) : Decidable (sameRs a b) := by unfold sameRs; infer_instance

/-- The slice reads as these cells. -/
def CellsRd (W : World) (A : Option Addr) (cs : List CellV) : Prop :=
  ∀ k (h : k < cs.length), ∃ ad, A = some ad ∧ ad.block < W.heap.size ∧ ∀ j v, (cs[k].cells)[j]? = some v → W.cell? (ad.add (k * 3 + j)) = some v
def RowsRd (W : World) (A : Option Addr) (rs : List RowV) : Prop :=
  ∀ k (h : k < rs.length), ∃ ad, A = some ad ∧ ad.block < W.heap.size ∧ ∀ j v, (rs[k].cells)[j]? = some v → W.cell? (ad.add (k * 7 + j)) = some v
theorem block_addC (ad : Addr) (k : Nat) : (ad.add k).block = ad.block := by cases k <;> rfl
theorem CellsRd.below {W W' : World} {A : Option Addr} {cs : List CellV} (h : CellsRd W A cs) (hb : Below W.heap.size W W') : CellsRd W' A cs := fun k hk => by
  obtain ⟨ad, e, hl, hc⟩ := h k hk
  exact ⟨ad, e, Nat.lt_of_lt_of_le hl hb.size, fun j v hj => (hb.cell (by rw [block_addC]; exact hl)).trans (hc j v hj)⟩
theorem RowsRd.below {W W' : World} {A : Option Addr} {rs : List RowV} (h : RowsRd W A rs) (hb : Below W.heap.size W W') : RowsRd W' A rs := fun k hk => by
  obtain ⟨ad, e, hl, hc⟩ := h k hk
  exact ⟨ad, e, Nat.lt_of_lt_of_le hl hb.size, fun j v hj => (hb.cell (by rw [block_addC]; exact hl)).trans (hc j v hj)⟩
abbrev cellV (c : CellV) : Value := .agg #[.int .i64 c.view, .string c.key, .int .i64 c.start]
abbrev rowV (r : RowV) : Value := .agg #[.int .i64 r.cell.view, .string r.cell.key, .int .i64 r.cell.start, .int .i64 r.count, .int .i64 r.sum, .int .i64 r.min, .int .i64 r.max]
abbrev rqC (s : Value) (q : Rq) : Array Value := #[.int .i64 q.kind, .int .i64 q.id, .int .i64 q.epoch, s, .int .i64 q.frm.view, .string q.frm.key, .int .i64 q.frm.start, .int .i64 q.too.view, .string q.too.key, .int .i64 q.too.start, .int .i64 q.limit]
abbrev rsC (s : Value) (r : Rs) : Array Value := #[.int .i64 r.kind, .int .i64 r.id, .int .i64 r.err, .int .i64 r.epoch, s, .int .i64 r.st.taken, .int .i64 r.st.late, .int .i64 r.st.over, .int .i64 r.st.full, .int .i64 r.st.cells, .int .i64 r.st.now]
end Go.Proofs.YtglbdbghcdoicaaGreatDoor

namespace Go.Proofs.YtglbdbghcdoicaaGreatDoor
open Go.RowKit

set_option maxRecDepth 100000 in
theorem place_any (c : CellV) (most least : Int) (W : World) (hk : c.key.size ≤ 9223372036854775807) :
    Calls Tryz.prog 145 #[cellV c, .int .i64 most, .int .i64 least] W fun e w' => e = .returned (.int .i64 (placeP c most least)) ∧ Below W.heap.size W w' := by
  obtain ⟨v, k, s⟩ := c
  replace hk : k.size ≤ 9223372036854775807 := hk
  have hb : Below W.heap.size W (W.alloc (.cells #[.int .i64 v, .string k, .int .i64 s] 41)) := (Below.refl _ _).alloc (Nat.le_refl _) _
  have HB := Lib.hid hb
  clear hb
  go_enter Tryz.func145, Tryz.ntmps145
  go_wp2
  all_goals
    go_ret
    refine ⟨ret_int ?_, HB.out⟩
    clear HB
    unfold placeP
    simp only
    repeat' split
  all_goals first | rfl | (exfalso; omega)
theorem ccell_any (c : CellV) (W : World) (hk : c.key.size ≤ 9223372036854775807) :
    Calls Tryz.prog 119 #[cellV c] W fun e w' => e = .returned (.int .i64 (placeP c 3 1)) ∧ Below W.heap.size W w' := by
  have C := Lib.hid (fun W' => place_any c 3 1 W' hk)
  have hb : ∀ w', Below (W.alloc (.cells #[.int .i64 c.view, .string c.key, .int .i64 c.start] 41)).heap.size (W.alloc (.cells #[.int .i64 c.view, .string c.key, .int .i64 c.start] 41)) w' → Below W.heap.size W w' := fun w' h => ((Below.refl _ _).alloc (Nat.le_refl _) _).trans (h.mono (by simp))
  have HB := Lib.hid hb
  clear hb hk
  go_enter Tryz.func119, Tryz.ntmps119
  go_wp2_with fail
  go_at_call 145; (with_reducible refine (C.out _).mono ?_); rintro e w1 ⟨rfl, hb⟩
  have HB2 := Lib.hid (HB.out _ hb)
  clear hb
  go_wp2
  go_ret
  exact ⟨rfl, HB2.out⟩
theorem cbound_any (c : CellV) (W : World) (hk : c.key.size ≤ 9223372036854775807) :
    Calls Tryz.prog 120 #[cellV c] W fun e w' => e = .returned (.int .i64 (placeP c 4 0)) ∧ Below W.heap.size W w' := by
  have C := Lib.hid (fun W' => place_any c 4 0 W' hk)
  have hb : ∀ w', Below (W.alloc (.cells #[.int .i64 c.view, .string c.key, .int .i64 c.start] 41)).heap.size (W.alloc (.cells #[.int .i64 c.view, .string c.key, .int .i64 c.start] 41)) w' → Below W.heap.size W w' := fun w' h => ((Below.refl _ _).alloc (Nat.le_refl _) _).trans (h.mono (by simp))
  have HB := Lib.hid hb
  clear hb hk
  go_enter Tryz.func120, Tryz.ntmps120
  go_wp2_with fail
  go_at_call 145; (with_reducible refine (C.out _).mono ?_); rintro e w1 ⟨rfl, hb⟩
  have HB2 := Lib.hid (HB.out _ hb)
  clear hb
  go_wp2
  go_ret
  exact ⟨rfl, HB2.out⟩
theorem small_any (n : Int) (W : World) :
    Calls Tryz.prog 118 #[.int .i64 n] W fun e w' => e = .returned (.bool (smallP n)) ∧ W = w' := by
  go_enter Tryz.func118, Tryz.ntmps118
  go_wp2
  all_goals
    go_ret
    refine ⟨ret_bool ?_, rfl⟩
    unfold smallP
    rw [Bool.eq_iff_iff]
    simp
    omega
theorem rin_any (n : Int) (W : World) :
    Calls Tryz.prog 121 #[.int .i64 n] W fun e w' => e = .returned (.bool (smallP n)) ∧ W = w' := by
  go_enter Tryz.func121, Tryz.ntmps121
  go_wp2
  all_goals
    go_ret
    refine ⟨ret_bool ?_, rfl⟩
    unfold smallP
    rw [Bool.eq_iff_iff]
    simp
    omega
set_option maxRecDepth 100000 in
theorem inside_no (c : CellV) (W : World) (hk : c.key.size ≤ 9223372036854775807) :
    Calls Tryz.prog 123 #[cellV c, .bool false] W fun e w' => e = .returned (.int .i64 (placeP c 3 1)) ∧ Below W.heap.size W w' := by
  obtain ⟨v, k, s⟩ := c
  replace hk : k.size ≤ 9223372036854775807 := hk
  have hb : Below W.heap.size W (W.alloc (.cells #[.int .i64 v, .string k, .int .i64 s] 41)) := (Below.refl _ _).alloc (Nat.le_refl _) _
  have HB := Lib.hid hb
  clear hb
  go_enter Tryz.func123, Tryz.ntmps123
  go_wp2
  all_goals
    go_ret
    refine ⟨ret_int ?_, HB.out⟩
    clear HB
    unfold placeP
    simp only
    repeat' split
  all_goals first | rfl | (exfalso; omega)
set_option maxRecDepth 100000 in
theorem inside_yes (c : CellV) (W : World) (hk : c.key.size ≤ 9223372036854775807) :
    Calls Tryz.prog 123 #[cellV c, .bool true] W fun e w' => e = .returned (.int .i64 (placeP c 4 0)) ∧ Below W.heap.size W w' := by
  obtain ⟨v, k, s⟩ := c
  replace hk : k.size ≤ 9223372036854775807 := hk
  have hb : Below W.heap.size W (W.alloc (.cells #[.int .i64 v, .string k, .int .i64 s] 41)) := (Below.refl _ _).alloc (Nat.le_refl _) _
  have HB := Lib.hid hb
  clear hb
  go_enter Tryz.func123, Tryz.ntmps123
  go_wp2
  all_goals
    go_ret
    refine ⟨ret_int ?_, HB.out⟩
    clear HB
    unfold placeP
    simp only
    repeat' split
  all_goals first | rfl | (exfalso; omega)
end Go.Proofs.YtglbdbghcdoicaaGreatDoor

namespace Go.Proofs.YtglbdbghcdoicaaGreatDoor
open Go.RowKit

theorem key_iff (a b : ByteArray) : a.toList = b.toList ↔ a = b := by
  rw [ByteArray.toList_eq, ByteArray.toList_eq]
  obtain ⟨⟨x⟩⟩ := a
  obtain ⟨⟨y⟩⟩ := b
  constructor
  · intro h; have h : x = y := h; rw [h]
  · intro h; rw [h]
theorem eqlCell (a b : CellV) (w : World) : (binOp .eql 41 (cellV a) (cellV b)).run Tryz.prog w = .ok (.bool (decide (a = b))) w := by
  go_simp
  simp only [key_iff, CellV.ext_iff_]
  repeat' split
  all_goals simp_all
theorem neqCell (a b : CellV) (w : World) : (binOp .neq 41 (cellV a) (cellV b)).run Tryz.prog w = .ok (.bool (!decide (a = b))) w := by
  go_simp
  simp only [key_iff, CellV.ext_iff_]
  repeat' split
  all_goals simp_all
theorem eqlRow (a b : RowV) (w : World) : (binOp .eql 123 (rowV a) (rowV b)).run Tryz.prog w = .ok (.bool (decide (a = b))) w := by
  go_simp
  simp only [key_iff, RowV.ext_iff_, CellV.ext_iff_]
  repeat' split
  all_goals simp_all
theorem neqRow (a b : RowV) (w : World) : (binOp .neq 123 (rowV a) (rowV b)).run Tryz.prog w = .ok (.bool (!decide (a = b))) w := by
  go_simp
  simp only [key_iff, RowV.ext_iff_, CellV.ext_iff_]
  repeat' split
  all_goals simp_all
abbrev stV (s : StV) : Value := .agg #[.int .i64 s.taken, .int .i64 s.late, .int .i64 s.over, .int .i64 s.full, .int .i64 s.cells, .int .i64 s.now]
theorem eqlSt (a b : StV) (w : World) : (binOp .eql 69 (stV a) (stV b)).run Tryz.prog w = .ok (.bool (decide (a = b))) w := by
  go_simp
  simp only [StV.ext_iff_]
  repeat' split
  all_goals simp_all
theorem neqSt (a b : StV) (w : World) : (binOp .neq 69 (stV a) (stV b)).run Tryz.prog w = .ok (.bool (!decide (a = b))) w := by
  go_simp
  simp only [StV.ext_iff_]
  repeat' split
  all_goals simp_all
end Go.Proofs.YtglbdbghcdoicaaGreatDoor

namespace Go.Proofs.YtglbdbghcdoicaaGreatDoor
open Go.RowKit

/-- The place of a field of an element. -/
abbrev fldN (ad : Addr) (s k j : Nat) : Addr := ⟨(ad.add (k * s)).block, (ad.add (k * s)).off + j, none⟩
theorem fldN_eq (ad : Addr) (s k j : Nat) (hj : 0 < j) : ad.add (k * s + j) = fldN ad s k j := by
  rw [← Go.Deep.add_add]
  obtain ⟨i, rfl⟩ : ∃ i, j = i + 1 := ⟨j - 1, by omega⟩
  rfl
theorem CellsRd.at {W W' : World} {A : Option Addr} {cs : List CellV} (h : CellsRd W A cs) (hb : Below W.heap.size W W') (k : Nat) (hk : k < cs.length) :
    ∃ ad, A = some ad ∧ W'.cell? (ad.add (k * 3)) = some (.int .i64 cs[k].view) ∧ W'.cell? (fldN ad 3 k 1) = some (.string cs[k].key) ∧ W'.cell? (fldN ad 3 k 2) = some (.int .i64 cs[k].start) := by
  obtain ⟨ad, e, hl, hc⟩ := h k hk
  have hc' : ∀ j v, (cs[k].cells)[j]? = some v → W'.cell? (ad.add (k * 3 + j)) = some v := fun j v hj => (hb.cell (by rw [block_addC]; exact hl)).trans (hc j v hj)
  exact ⟨ad, e, hc' 0 _ rfl, fldN_eq ad 3 k 1 (by omega) ▸ hc' 1 _ rfl, fldN_eq ad 3 k 2 (by omega) ▸ hc' 2 _ rfl⟩
theorem RowsRd.at {W W' : World} {A : Option Addr} {rs : List RowV} (h : RowsRd W A rs) (hb : Below W.heap.size W W') (k : Nat) (hk : k < rs.length) :
    ∃ ad, A = some ad ∧ W'.cell? (ad.add (k * 7)) = some (.int .i64 rs[k].cell.view) ∧ W'.cell? (fldN ad 7 k 1) = some (.string rs[k].cell.key) ∧ W'.cell? (fldN ad 7 k 2) = some (.int .i64 rs[k].cell.start) ∧
      W'.cell? (fldN ad 7 k 3) = some (.int .i64 rs[k].count) ∧ W'.cell? (fldN ad 7 k 4) = some (.int .i64 rs[k].sum) ∧ W'.cell? (fldN ad 7 k 5) = some (.int .i64 rs[k].min) ∧ W'.cell? (fldN ad 7 k 6) = some (.int .i64 rs[k].max) := by
  obtain ⟨ad, e, hl, hc⟩ := h k hk
  have hc' : ∀ j v, (rs[k].cells)[j]? = some v → W'.cell? (ad.add (k * 7 + j)) = some v := fun j v hj => (hb.cell (by rw [block_addC]; exact hl)).trans (hc j v hj)
  exact ⟨ad, e, hc' 0 _ rfl, fldN_eq ad 7 k 1 (by omega) ▸ hc' 1 _ rfl, fldN_eq ad 7 k 2 (by omega) ▸ hc' 2 _ rfl, fldN_eq ad 7 k 3 (by omega) ▸ hc' 3 _ rfl, fldN_eq ad 7 k 4 (by omega) ▸ hc' 4 _ rfl, fldN_eq ad 7 k 5 (by omega) ▸ hc' 5 _ rfl, fldN_eq ad 7 k 6 (by omega) ▸ hc' 6 _ rfl⟩
theorem take_succ_eq {α : Type} {xs ys : List α} {k : Nat} (h : xs.take k = ys.take k) (hx : k < xs.length) (hy : k < ys.length) (e : xs[k] = ys[k]) : xs.take (k + 1) = ys.take (k + 1) := by
  rw [List.take_add_one, List.take_add_one, h, List.getElem?_eq_getElem hx, List.getElem?_eq_getElem hy, e]

set_option maxHeartbeats 1000000 in
set_option maxRecDepth 100000 in
theorem equal_cells (A B : Option Addr) (n m c d : Nat) (xs ys : List CellV) (W : World) (hla : xs.length = n) (hlb : ys.length = m) (ha : CellsRd W A xs) (hb : CellsRd W B ys) (hn : n ≤ 9223372036854775807) (hm : m ≤ 9223372036854775807) :
    Calls Tryz.prog 64 #[.slice A n c, .slice B m d] W fun e w' => e = .returned (.bool (decide (xs = ys))) ∧ Below W.heap.size W w' := by
  have HLA := Lib.hid hla
  have HLB := Lib.hid hlb
  have HA := Lib.hid ha
  have HB := Lib.hid hb
  clear hla hlb ha hb
  by_cases hnm : n = m
  · subst hnm
    go_enter Tryz.func64, Tryz.ntmps64
    go_wp2
    go_loopw [13] (fun t13 wz => ∃ k : Nat, t13 = .int .i64 (k : Int) ∧ k ≤ n ∧ Hid (xs.take k = ys.take k ∧ Below W.heap.size W wz)) (fun t13 _ => n - (intOf t13).toNat)
    case atStart => exact ⟨0, rfl, Nat.zero_le _, Lib.hid ⟨rfl, Below.refl _ _⟩⟩
    case round =>
      obtain ⟨k, rfl, hk, HP⟩ := hrel
      rename World => wz
      by_cases hkn : k < n
      · have hkx : k < xs.length := by rw [HLA.out]; exact hkn
        have hky : k < ys.length := by rw [HLB.out]; exact hkn
        obtain ⟨ad, rfl, a0, a1, a2⟩ := HA.out.at HP.out.2 k hkx
        obtain ⟨bd, rfl, b0, b1, b2⟩ := HB.out.at HP.out.2 k hky
        have e0 := neqCell xs[k] ys[k]
        have HE := Lib.hid (fun (e : xs[k] = ys[k]) => take_succ_eq HP.out.1 hkx hky e)
        have HN := Lib.hid (fun (e : ¬ xs[k] = ys[k]) (h : xs = ys) => e (by subst h; rfl))
        generalize xs[k] = x at *
        generalize ys[k] = y at *
        by_cases hxy : x = y
        · rw [decide_eq_true hxy] at e0
          have e1 : ∀ w : World, (binOp .neq 41 (.agg #[.int .i64 x.view, .string x.key, .int .i64 x.start]) (.agg #[.int .i64 y.view, .string y.key, .int .i64 y.start])).run Tryz.prog w = .ok (.bool false) w := e0
          have HXY := Lib.hid hxy
          clear hxy e0
          go_wp2
          go_quiet (fail)
          have HB2 := Lib.hid (HP.out.2.trans (below_drewN (Below.refl wz.heap.size wz) nq |>.mono HP.out.2.size))
          generalize wz.drewN nq = w2 at HB2 ⊢
          go_wp2
          go_roundw
          case rel => exact ⟨k + 1, by go_num, by omega, Lib.hid ⟨HE.out HXY.out, HB2.out⟩⟩
          case measure => simp [intOf]; omega
        · rw [decide_eq_false hxy] at e0
          have e1 : ∀ w : World, (binOp .neq 41 (.agg #[.int .i64 x.view, .string x.key, .int .i64 x.start]) (.agg #[.int .i64 y.view, .string y.key, .int .i64 y.start])).run Tryz.prog w = .ok (.bool true) w := e0
          have HXY := Lib.hid (decide_eq_false (HN.out hxy))
          clear hxy e0
          go_wp2
          go_quiet (fail)
          have HB2 := Lib.hid (HP.out.2.trans (below_drewN (Below.refl wz.heap.size wz) nq |>.mono HP.out.2.size))
          generalize wz.drewN nq = w2 at HB2 ⊢
          go_wp2
          go_ret
          exact ⟨ret_bool HXY.out.symm, HB2.out⟩
      · have HT := Lib.hid (show decide (xs = ys) = true by
          have h := HP.out.1
          rw [List.take_of_length_le (by rw [HLA.out]; omega), List.take_of_length_le (by rw [HLB.out]; omega)] at h
          exact decide_eq_true h)
        go_wp2
        go_ret
        exact ⟨ret_bool HT.out.symm, HP.out.2⟩
  · have hne : ((n : Int) != (m : Int)) = true := by simpa [bne_iff_ne] using fun h => hnm (by omega)
    have HT := Lib.hid (show decide (xs = ys) = false from decide_eq_false (fun h => hnm (by rw [← HLA.out, ← HLB.out, h])))
    clear hnm
    go_enter Tryz.func64, Tryz.ntmps64
    go_wp2
    go_ret
    exact ⟨ret_bool HT.out.symm, Below.refl _ _⟩
set_option maxHeartbeats 1000000 in
set_option maxRecDepth 100000 in
theorem equal_rows (A B : Option Addr) (n m c d : Nat) (xs ys : List RowV) (W : World) (hla : xs.length = n) (hlb : ys.length = m) (ha : RowsRd W A xs) (hb : RowsRd W B ys) (hn : n ≤ 9223372036854775807) (hm : m ≤ 9223372036854775807) :
    Calls Tryz.prog 146 #[.slice A n c, .slice B m d] W fun e w' => e = .returned (.bool (decide (xs = ys))) ∧ Below W.heap.size W w' := by
  have HLA := Lib.hid hla
  have HLB := Lib.hid hlb
  have HA := Lib.hid ha
  have HB := Lib.hid hb
  clear hla hlb ha hb
  by_cases hnm : n = m
  · subst hnm
    go_enter Tryz.func146, Tryz.ntmps146
    go_wp2
    go_loopw [13] (fun t13 wz => ∃ k : Nat, t13 = .int .i64 (k : Int) ∧ k ≤ n ∧ Hid (xs.take k = ys.take k ∧ Below W.heap.size W wz)) (fun t13 _ => n - (intOf t13).toNat)
    case atStart => exact ⟨0, rfl, Nat.zero_le _, Lib.hid ⟨rfl, Below.refl _ _⟩⟩
    case round =>
      obtain ⟨k, rfl, hk, HP⟩ := hrel
      rename World => wz
      by_cases hkn : k < n
      · have hkx : k < xs.length := by rw [HLA.out]; exact hkn
        have hky : k < ys.length := by rw [HLB.out]; exact hkn
        obtain ⟨ad, rfl, a0, a1, a2, a3, a4, a5, a6⟩ := HA.out.at HP.out.2 k hkx
        obtain ⟨bd, rfl, b0, b1, b2, b3, b4, b5, b6⟩ := HB.out.at HP.out.2 k hky
        have e0 := neqRow xs[k] ys[k]
        have HE := Lib.hid (fun (e : xs[k] = ys[k]) => take_succ_eq HP.out.1 hkx hky e)
        have HN := Lib.hid (fun (e : ¬ xs[k] = ys[k]) (h : xs = ys) => e (by subst h; rfl))
        generalize xs[k] = x at *
        generalize ys[k] = y at *
        by_cases hxy : x = y
        · rw [decide_eq_true hxy] at e0
          have e1 : ∀ w : World, (binOp .neq 123 (.agg #[.int .i64 x.cell.view, .string x.cell.key, .int .i64 x.cell.start, .int .i64 x.count, .int .i64 x.sum, .int .i64 x.min, .int .i64 x.max]) (.agg #[.int .i64 y.cell.view, .string y.cell.key, .int .i64 y.cell.start, .int .i64 y.count, .int .i64 y.sum, .int .i64 y.min, .int .i64 y.max])).run Tryz.prog w = .ok (.bool false) w := e0
          have HXY := Lib.hid hxy
          clear hxy e0
          go_wp2
          go_quiet (fail)
          have HB2 := Lib.hid (HP.out.2.trans (below_drewN (Below.refl wz.heap.size wz) nq |>.mono HP.out.2.size))
          generalize wz.drewN nq = w2 at HB2 ⊢
          go_wp2
          go_roundw
          case rel => exact ⟨k + 1, by go_num, by omega, Lib.hid ⟨HE.out HXY.out, HB2.out⟩⟩
          case measure => simp [intOf]; omega
        · rw [decide_eq_false hxy] at e0
          have e1 : ∀ w : World, (binOp .neq 123 (.agg #[.int .i64 x.cell.view, .string x.cell.key, .int .i64 x.cell.start, .int .i64 x.count, .int .i64 x.sum, .int .i64 x.min, .int .i64 x.max]) (.agg #[.int .i64 y.cell.view, .string y.cell.key, .int .i64 y.cell.start, .int .i64 y.count, .int .i64 y.sum, .int .i64 y.min, .int .i64 y.max])).run Tryz.prog w = .ok (.bool true) w := e0
          have HXY := Lib.hid (decide_eq_false (HN.out hxy))
          clear hxy e0
          go_wp2
          go_quiet (fail)
          have HB2 := Lib.hid (HP.out.2.trans (below_drewN (Below.refl wz.heap.size wz) nq |>.mono HP.out.2.size))
          generalize wz.drewN nq = w2 at HB2 ⊢
          go_wp2
          go_ret
          exact ⟨ret_bool HXY.out.symm, HB2.out⟩
      · have HT := Lib.hid (show decide (xs = ys) = true by
          have h := HP.out.1
          rw [List.take_of_length_le (by rw [HLA.out]; omega), List.take_of_length_le (by rw [HLB.out]; omega)] at h
          exact decide_eq_true h)
        go_wp2
        go_ret
        exact ⟨ret_bool HT.out.symm, HP.out.2⟩
  · have hne : ((n : Int) != (m : Int)) = true := by simpa [bne_iff_ne] using fun h => hnm (by omega)
    have HT := Lib.hid (show decide (xs = ys) = false from decide_eq_false (fun h => hnm (by rw [← HLA.out, ← HLB.out, h])))
    clear hnm
    go_enter Tryz.func146, Tryz.ntmps146
    go_wp2
    go_ret
    exact ⟨ret_bool HT.out.symm, Below.refl _ _⟩
end Go.Proofs.YtglbdbghcdoicaaGreatDoor
