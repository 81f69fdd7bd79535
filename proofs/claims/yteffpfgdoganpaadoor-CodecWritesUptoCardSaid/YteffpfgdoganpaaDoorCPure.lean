/- Requests and responses as plain data: what may be written. -/
import Derived.Test.YteffpfgdoganpaaDoorWWrite2
namespace Go.Proofs.YteffpfgdoganpaaDoor
open Go.RowKit

structure CellV where
  view : Int
  key : ByteArray
  start : Int
theorem CellV.ext_iff_ (a b : CellV) : a = b ↔ a.view = b.view ∧ a.key = b.key ∧ a.start = b.start := by
  cases a; cases b; simp
instance : DecidableEq CellV := fun a b => decidable_of_iff _ (CellV.ext_iff_ a b).symm
instance : Inhabited CellV := ⟨⟨0, ⟨#[]⟩, 0⟩⟩
def CellV.cells (c : CellV) : List Value := [.int .i64 c.view, .string c.key, .int .i64 c.start]
def cell0 : CellV := ⟨0, ⟨#[]⟩, 0⟩
structure Rq where
  kind : Int
  id : Int
  epoch : Int
  cs : List CellV
  frm : CellV
  too : CellV
  limit : Int
structure RowV where
  cell : CellV
  count : Int
  sum : Int
  min : Int
  max : Int
theorem RowV.ext_iff_ (a b : RowV) : a = b ↔ a.cell = b.cell ∧ a.count = b.count ∧ a.sum = b.sum ∧ a.min = b.min ∧ a.max = b.max := by
  cases a; cases b; simp
instance : DecidableEq RowV := fun a b => decidable_of_iff _ (RowV.ext_iff_ a b).symm
instance : Inhabited RowV := ⟨⟨cell0, 0, 0, 0, 0⟩⟩
def RowV.cells (r : RowV) : List Value := r.cell.cells ++ [.int .i64 r.count, .int .i64 r.sum, .int .i64 r.min, .int .i64 r.max]
structure StV where
  taken : Int
  late : Int
  over : Int
  full : Int
  cells : Int
  now : Int
theorem StV.ext_iff_ (a b : StV) : a = b ↔ a.taken = b.taken ∧ a.late = b.late ∧ a.over = b.over ∧ a.full = b.full ∧ a.cells = b.cells ∧ a.now = b.now := by
  cases a; cases b; simp
instance : DecidableEq StV := fun a b => decidable_of_iff _ (StV.ext_iff_ a b).symm
def st0 : StV := ⟨0, 0, 0, 0, 0, 0⟩
structure Rs where
  kind : Int
  id : Int
  err : Int
  epoch : Int
  rows : List RowV
  st : StV
/-- A cell's error: the most View, the least bytes of a Key. -/
def placeP (c : CellV) (most least : Int) : Int :=
  if c.view < 0 ∨ most < c.view then 23
  else if (c.key.size : Int) < least ∨ 32 < (c.key.size : Int) then 21
  else if c.start < -2305843009213693952 ∨ 2305843009213693952 < c.start then 22
  else 0
def smallP (n : Int) : Bool := decide (0 ≤ n) && decide (n ≤ 1099511627776)
/-- The first error of a row of cells. -/
def firstP : List CellV → Int
  | [] => 0
  | c :: cs => if placeP c 3 1 = 0 then firstP cs else placeP c 3 1
/-- Has a request something that its kind does not name? -/
def unusedP (q : Rq) : Prop := (q.kind ≠ 3 ∧ (q.frm ≠ cell0 ∨ q.too ≠ cell0 ∨ q.limit ≠ 0)) ∨ (q.kind ≠ 1 ∧ q.kind ≠ 2 ∧ q.cs ≠ []) ∨ ((q.kind = 4 ∨ q.kind = 7) ∧ q.epoch ≠ 0)
instance (q : Rq) : Decidable (unusedP q) := by unfold unusedP; infer_instance
def scanP (q : Rq) : Int := if placeP q.frm 4 0 ≠ 0 then placeP q.frm 4 0 else if placeP q.too 4 0 ≠ 0 then placeP q.too 4 0 else if q.limit < 1 ∨ 256 < q.limit then 2 else 0
def checkRq (q : Rq) : Int :=
  if q.kind < 1 ∨ 7 < q.kind then 15
  else if smallP q.id = false ∨ unusedP q ∨ smallP q.epoch = false then 16
  else if (q.kind = 5 ∨ q.kind = 6) ∧ q.epoch = 0 then 16
  else if (q.kind = 1 ∧ q.cs.length ≠ 1) ∨ (q.kind = 2 ∧ q.cs.length = 0) then 16
  else if 16 < q.cs.length then 2
  else if firstP q.cs ≠ 0 then firstP q.cs
  else if q.kind = 3 then scanP q else 0
def sameRq (a b : Rq) : Prop := a.kind = b.kind ∧ a.id = b.id ∧ a.epoch = b.epoch ∧ a.cs = b.cs ∧ a.frm = b.frm ∧ a.too = b.too ∧ a.limit = b.limit
instance (a b : Rq) : Decidable (sameRq a b) := by unfold sameRq; infer_instance
/-- A row's error. -/
def rowP (r : RowV) : Int :=
  if placeP r.cell 3 1 ≠ 0 then placeP r.cell 3 1
  else if r.count < 0 ∨ (r.count = 0 ∧ (r.sum ≠ 0 ∨ r.min ≠ 0 ∨ r.max ≠ 0)) ∨ r.max < r.min then 16 else 0
def firstR : List RowV → Int
  | [] => 0
  | r :: rs => if rowP r = 0 then firstR rs else rowP r
def spareP (r : Rs) : Prop := (r.kind ≠ 1 ∧ r.rows ≠ []) ∨ (r.kind ≠ 2 ∧ r.epoch ≠ 0) ∨ (r.kind ≠ 4 ∧ r.st ≠ st0) ∨ (r.kind ≠ 5 ∧ r.err ≠ 0)
instance (r : Rs) : Decidable (spareP r) := by unfold spareP; infer_instance
def stP (s : StV) : Int := if smallP s.taken && smallP s.late && smallP s.over && smallP s.full && smallP s.cells && smallP s.now then 0 else 16
def checkRs (r : Rs) : Int :=
  if r.kind < 1 ∨ 5 < r.kind then 15
  else if smallP r.id = false ∨ spareP r then 16
  else if 256 < r.rows.length then 2
  else if firstR r.rows ≠ 0 then firstR r.rows
  else if r.kind = 2 then (if r.epoch < 1 ∨ 1099511627776 < r.epoch then 16 else 0)
  else if r.kind = 4 then stP r.st
  else if r.kind = 5 then (if r.err < 1 ∨ 255 < r.err then 16 else 0)
  else 0
def sameRs (a b : Rs) : Prop := a.kind = b.kind ∧ a.id = b.id ∧ a.err = b.err ∧ a.epoch = b.epoch ∧ a.rows = b.rows ∧ a.st = b.st
instance (a b : Rs) : Decidable (sameRs a b) := by unfold sameRs; infer_instance

/-- The slice reads as these cells. -/
def CellsRd (W : World) (A : Option Addr) (cs : List CellV) : Prop :=
  ∀ k (h : k < cs.length), ∃ ad, A = some ad ∧ ad.block < W.heap.size ∧ ∀ j v, (cs[k].cells)[j]? = some v → W.cell? (ad.add (k * 3 + j)) = some v
def RowsRd (W : World) (A : Option Addr) (rs : List RowV) : Prop :=
  ∀ k (h : k < rs.length), ∃ ad, A = some ad ∧ ad.block < W.heap.size ∧ ∀ j v, (rs[k].cells)[j]? = some v → W.cell? (ad.add (k * 7 + j)) = some v
theorem block_addC (ad : Addr) (k : Nat) : (ad.add k).block = ad.block := by cases k <;> rfl
theorem CellsRd.below {W W' : World} {A : Option Addr} {cs : List CellV} (h : CellsRd W A cs) (hb : Below W.heap.size W W') : CellsRd W' A cs := fun k hk => by
  obtain ⟨ad, e, hl, hc⟩ := h k hk
  exact ⟨ad, e, Nat.lt_of_lt_of_le hl hb.size, fun j v hj => (hb.cell (by rw [block_addC]; exact hl)).trans (hc j v hj)⟩
theorem RowsRd.below {W W' : World} {A : Option Addr} {rs : List RowV} (h : RowsRd W A rs) (hb : Below W.heap.size W W') : RowsRd W' A rs := fun k hk => by
  obtain ⟨ad, e, hl, hc⟩ := h k hk
  exact ⟨ad, e, Nat.lt_of_lt_of_le hl hb.size, fun j v hj => (hb.cell (by rw [block_addC]; exact hl)).trans (hc j v hj)⟩
abbrev cellV (c : CellV) : Value := .agg #[.int .i64 c.view, .string c.key, .int .i64 c.start]
abbrev rowV (r : RowV) : Value := .agg #[.int .i64 r.cell.view, .string r.cell.key, .int .i64 r.cell.start, .int .i64 r.count, .int .i64 r.sum, .int .i64 r.min, .int .i64 r.max]
abbrev rqC (s : Value) (q : Rq) : Array Value := #[.int .i64 q.kind, .int .i64 q.id, .int .i64 q.epoch, s, .int .i64 q.frm.view, .string q.frm.key, .int .i64 q.frm.start, .int .i64 q.too.view, .string q.too.key, .int .i64 q.too.start, .int .i64 q.limit]
abbrev rsC (s : Value) (r : Rs) : Array Value := #[.int .i64 r.kind, .int .i64 r.id, .int .i64 r.err, .int .i64 r.epoch, s, .int .i64 r.st.taken, .int .i64 r.st.late, .int .i64 r.st.over, .int .i64 r.st.full, .int .i64 r.st.cells, .int .i64 r.st.now]
end Go.Proofs.YteffpfgdoganpaaDoor
