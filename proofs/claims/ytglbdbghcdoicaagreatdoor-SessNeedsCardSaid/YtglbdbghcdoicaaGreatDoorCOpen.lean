/- Requests and responses that came in, as plain data. A slice of ints that came in. -/
import Derived.Test.YtglbdbghcdoicaaGreatDoorWRows
import Derived.Test.YtglbdbghcdoicaaGreatDoorRows
import Derived.Test.YtglbdbghcdoicaaGreatDoorCEncRs
import Derived.Lib.SmallJoins
import Derived.Deep.Slices
import Derived.Deep.Fields
import Derived.Test.YtglbdbghcdoicaaGreatDoorWBase
namespace Go.Proofs.YtglbdbghcdoicaaGreatDoor
open Go.Joins Go.ChangeShapes Go.WideShapes Go.ChangeAt Go.RowKit Go.Deep

theorem I64C.of {x : Int} (h : (Lit.int .i64 x).wf = true) : I64C x := by
  have h' : (decide (IntKind.i64.min ≤ x) && decide (x ≤ IntKind.i64.max)) = true := h
  simp only [Bool.and_eq_true, decide_eq_true_eq] at h'
  exact ⟨h'.1, h'.2⟩
structure CellI (c : CellV) : Prop where
  view : I64C c.view
  start : I64C c.start
  key : c.key.size ≤ maxLen
structure RqI (q : Rq) : Prop where
  kind : I64C q.kind
  id : I64C q.id
  epoch : I64C q.epoch
  cs : ∀ x ∈ q.cs, CellI x
  frm : CellI q.frm
  too : CellI q.too
  limit : I64C q.limit
theorem RqI.ok {q : Rq} (h : RqI q) : RqOk q := by
  have e : maxLen = 9223372036854775807 := rfl
  exact ⟨fun x hx => by have := (h.cs x hx).key; omega, by have := h.frm.key; omega, by have := h.too.key; omega⟩
structure RsI (r : Rs) : Prop where
  kind : I64C r.kind
  id : I64C r.id
  err : I64C r.err
  epoch : I64C r.epoch
  cells : ∀ x ∈ r.rows, CellI x.cell
  rows : ∀ x ∈ r.rows, RowI x
  taken : I64C r.st.taken
  late : I64C r.st.late
  over : I64C r.st.over
  full : I64C r.st.full
  cellsn : I64C r.st.cells
  now : I64C r.st.now
theorem RsI.ok {r : Rs} (h : RsI r) : RsOk r := by
  have e : maxLen = 9223372036854775807 := rfl
  exact fun x hx => by have := (h.cells x hx).key; omega

def flds (P : Program) (fs : Array Field) : List (TypeId × Nat × Nat) := fs.toList.map fun f => (f.type, f.offset, P.cellsOf f.type)
theorem cellFs : ∃ fs, Tryz.prog.underlying 41 = some (.struct fs) ∧ flds Tryz.prog fs = [(3, 0, 1), (9, 1, 1), (2, 2, 1)] := ⟨_, Tryz.underlying41, by kernel_rfl⟩
theorem aggFs : ∃ fs, Tryz.prog.underlying 121 = some (.struct fs) ∧ flds Tryz.prog fs = [(2, 0, 1), (2, 1, 1), (2, 2, 1), (2, 3, 1)] := ⟨_, Tryz.underlying121, by kernel_rfl⟩
theorem rowFs : ∃ fs, Tryz.prog.underlying 123 = some (.struct fs) ∧ flds Tryz.prog fs = [(41, 0, 3), (121, 3, 4)] := ⟨_, Tryz.underlying123, by kernel_rfl⟩
theorem statFs : ∃ fs, Tryz.prog.underlying 69 = some (.struct fs) ∧ flds Tryz.prog fs = [(3, 0, 1), (3, 1, 1), (3, 2, 1), (3, 3, 1), (3, 4, 1), (3, 5, 1)] := ⟨_, Tryz.underlying69, by kernel_rfl⟩
theorem rqFs : ∃ fs, Tryz.prog.underlying 43 = some (.struct fs) ∧ flds Tryz.prog fs = [(3, 0, 1), (3, 1, 1), (3, 2, 1), (39, 3, 1), (41, 4, 3), (41, 7, 3), (3, 10, 1)] := ⟨_, Tryz.underlying43, by kernel_rfl⟩
theorem rsFs : ∃ fs, Tryz.prog.underlying 71 = some (.struct fs) ∧ flds Tryz.prog fs = [(3, 0, 1), (3, 1, 1), (26, 2, 1), (3, 3, 1), (67, 4, 1), (69, 5, 6)] := ⟨_, Tryz.underlying71, by kernel_rfl⟩
theorem cellsCell : Tryz.prog.cellsOf 41 = 3 := by kernel_rfl
theorem cellsAgg4 : Tryz.prog.cellsOf 121 = 4 := by kernel_rfl
theorem cellsRowT : Tryz.prog.cellsOf 123 = 7 := by kernel_rfl
theorem cellsStat : Tryz.prog.cellsOf 69 = 6 := by kernel_rfl
theorem cellsRq : Tryz.prog.cellsOf 43 = 11 := by kernel_rfl
theorem cellsRs : Tryz.prog.cellsOf 71 = 11 := by kernel_rfl

theorem bulk_one {H : Type} (d : DataW H) : 1 ≤ Rows.uptoBulk d := by
  cases d with
  | lit l => cases l <;> simp [Rows.uptoBulk]
  | _ => simp [Rows.uptoBulk]
theorem bulk_part {H : Type} {d : DataW H} {l : List (DataW H)} (h : d ∈ l) : Rows.uptoBulk d ≤ Rows.uptoBulkAll l := by
  induction l with
  | nil => cases h
  | cons x r ih =>
    simp only [Rows.uptoBulkAll]
    rcases List.mem_cons.1 h with e | e
    · subst e; omega
    · have := ih e; omega
theorem bulk_len {H : Type} : ∀ l : List (DataW H), l.length ≤ Rows.uptoBulkAll l
  | [] => by simp
  | x :: r => by have := bulk_one x; have := bulk_len r; simp only [Rows.uptoBulkAll, List.length_cons]; omega

section
variable {H : Type} {enc : TypeId × Value → H} {W : World}
theorem struct_at {P : Program} {base : Nat} {spare : Nat → Bool} {held : Bool} {fuel : Nat} {t : TypeId} {cs : List Value} {x : DataW H × List MemPlace} {fs : Array Field} {l : List (TypeId × Nat × Nat)} (hu : P.underlying t = some (.struct fs)) (hl : flds P fs = l)
    (h : DataW.trod enc P W base spare held fuel t cs = some x) :
    ∃ (xs : List (DataW H × List MemPlace)) (n : Nat), x = (.agg (xs.map (·.1)), xs.flatMap (·.2)) ∧ cs.length = P.cellsOf t ∧ xs.length = l.length ∧
      ∀ (i : Nat) (ty : TypeId) (off sz : Nat), l[i]? = some (ty, off, sz) → ∃ y, y ∈ xs ∧ DataW.trod enc P W base spare held n ty ((cs.drop off).take sz) = some y := by
  obtain ⟨xs, n, _, hx, hc, hxl, hf⟩ := DataW.trod_struct hu h
  subst hl
  refine ⟨xs, n, hx, hc, by simp [flds, hxl], fun i ty off sz hi => ?_⟩
  unfold flds at hi
  rw [List.getElem?_map, Array.getElem?_toList] at hi
  cases hfi : fs[i]? with
  | none => rw [hfi] at hi; cases hi
  | some f =>
    rw [hfi] at hi
    injection hi with hi
    injection hi with h1 h2
    injection h2 with h2 h3
    have := hf i f hfi
    have hlt : i < xs.length := by rw [hxl]; exact (Array.getElem?_eq_some_iff.1 hfi).1
    rw [h3, h1, h2, List.getElem?_eq_getElem hlt] at this
    exact ⟨_, List.getElem_mem hlt, this⟩
theorem bulk_agg {xs : List (DataW H × List MemPlace)} {y : DataW H × List MemPlace} {x : DataW H × List MemPlace} (hx : x = (.agg (xs.map (·.1)), xs.flatMap (·.2))) (hy : y ∈ xs) : Rows.uptoBulk y.1 ≤ Rows.uptoBulk x.1 := by
  rw [hx]
  have := bulk_part (List.mem_map_of_mem (f := (·.1)) hy)
  simp only [Rows.uptoBulk]
  omega
variable {base : Nat} {fuel : Nat} {cs' : List Value} {y : DataW H × List MemPlace}
set_option maxRecDepth 100000 in
theorem cell_at (h : DataW.trod enc Tryz.prog W base (fun _ => true) true fuel 41 cs' = some y) :
    ∃ c : CellV, cs' = c.cells ∧ CellI c ∧ c.key.size ≤ Rows.uptoBulk y.1 := by
  obtain ⟨fs, hu, hl⟩ := cellFs
  obtain ⟨ys, n, hy, hcl, _, hf⟩ := struct_at hu hl h
  rw [cellsCell] at hcl
  match cs', hcl with
  | [c0, c1, c2], _ =>
    obtain ⟨y0, _, g0⟩ := hf 0 _ _ _ rfl
    obtain ⟨y1, m1, g1⟩ := hf 1 _ _ _ rfl
    obtain ⟨y2, _, g2⟩ := hf 2 _ _ _ rfl
    obtain ⟨vi, q0, _, w0⟩ := DataW.trod_int Tryz.underlying3 g0
    obtain ⟨s, q1, r1, w1⟩ := DataW.trod_string Tryz.underlying9 g1
    obtain ⟨st, q2, _, w2⟩ := DataW.trod_int Tryz.underlying2 g2
    simp at q0 q1 q2
    subst q0 q1 q2
    refine ⟨⟨vi, s, st⟩, rfl, ⟨.of w0, .of w2, w1⟩, ?_⟩
    have := bulk_agg hy m1
    rw [r1] at this
    have hs : s.data.toList.length = s.size := by simp
    simp only [Rows.uptoBulk] at this ⊢
    omega
set_option maxRecDepth 100000 in
theorem row_at (h : DataW.trod enc Tryz.prog W base (fun _ => true) true fuel 123 cs' = some y) :
    ∃ r : RowV, cs' = r.cells ∧ CellI r.cell ∧ RowI r ∧ r.cell.key.size ≤ Rows.uptoBulk y.1 := by
  obtain ⟨fs, hu, hl⟩ := rowFs
  obtain ⟨ys, n, hy, hcl, _, hf⟩ := struct_at hu hl h
  rw [cellsRowT] at hcl
  match cs', hcl with
  | [c0, c1, c2, c3, c4, c5, c6], _ =>
    obtain ⟨y0, m0, g0⟩ := hf 0 _ _ _ rfl
    obtain ⟨y1, _, g1⟩ := hf 1 _ _ _ rfl
    obtain ⟨c, e, hc, hk⟩ := cell_at g0
    obtain ⟨fs2, hu2, hl2⟩ := aggFs
    obtain ⟨zs, n2, _, _, _, hf2⟩ := struct_at hu2 hl2 g1
    obtain ⟨_, _, a0⟩ := hf2 0 _ _ _ rfl
    obtain ⟨_, _, a1⟩ := hf2 1 _ _ _ rfl
    obtain ⟨_, _, a2⟩ := hf2 2 _ _ _ rfl
    obtain ⟨_, _, a3⟩ := hf2 3 _ _ _ rfl
    obtain ⟨x0, q0, _, w0⟩ := DataW.trod_int Tryz.underlying2 a0
    obtain ⟨x1, q1, _, w1⟩ := DataW.trod_int Tryz.underlying2 a1
    obtain ⟨x2, q2, _, w2⟩ := DataW.trod_int Tryz.underlying2 a2
    obtain ⟨x3, q3, _, w3⟩ := DataW.trod_int Tryz.underlying2 a3
    simp at q0 q1 q2 q3
    simp [CellV.cells] at e
    obtain ⟨e0, e1, e2⟩ := e
    subst q0 q1 q2 q3 e0 e1 e2
    exact ⟨⟨c, x0, x1, x2, x3⟩, rfl, hc, ⟨.of w0, .of w1, .of w2, .of w3⟩, Nat.le_trans hk (bulk_agg hy m0)⟩
theorem cells_at_arg {A : Option Addr} {n c : Nat} (h : DataW.trod enc Tryz.prog W base (fun _ => true) true fuel 39 [.slice A n c] = some y) :
    ∃ cs : List CellV, cs.length = n ∧ CellsRd W A cs ∧ (∀ x ∈ cs, CellI x) ∧ (∀ x ∈ cs, x.key.size ≤ Rows.uptoBulk y.1) ∧ n ≤ Rows.uptoBulk y.1 ∧ n ≤ maxLen := by
  rcases open_slice Tryz.underlying39 h with ⟨hcs, _⟩ | ⟨a, len, cap, m, k, D, Pl, hcs, _, hl, hm, hmm, hx, hi⟩
  · simp at hcs
    obtain ⟨rfl, rfl, rfl⟩ := hcs
    exact ⟨[], rfl, fun k hk => absurd hk (by simp), (fun x hx => by cases hx), (fun x hx => by cases hx), Nat.zero_le _, Nat.zero_le _⟩
  · simp at hcs
    obtain ⟨rfl, rfl, rfl⟩ := hcs
    have hD : ∀ i, i < n → ∃ x : CellV, (∀ j v, (x.cells)[j]? = some v → W.cell? (a.add (i * 3 + j)) = some v) ∧ CellI x ∧ x.key.size ≤ Rows.uptoBulk (D i) := fun i hin => by
      obtain ⟨cs', hc, ht⟩ := hi i (by rw [hmm]; simp only [if_true]; omega)
      obtain ⟨x, rfl, h1, h2⟩ := cell_at ht
      rw [cellsCell] at hc
      obtain ⟨_, _, hat⟩ := World.cells?_some hc
      refine ⟨x, fun j v hj => ?_, h1, h2⟩
      have hj5 : j < 3 := (List.getElem?_eq_some_iff.1 hj).1
      rw [← hj, ← hat j hj5, add_add]
    obtain ⟨F, hF⟩ := choose_lt hD
    have hbl : n ≤ Rows.uptoBulk y.1 ∧ ∀ i, i < n → Rows.uptoBulk (D i) ≤ Rows.uptoBulk y.1 := by
      rw [hx]
      refine ⟨?_, fun i hin => ?_⟩
      · have := bulk_len ((List.range n).map D)
        simp only [Rows.uptoBulk]
        simp at this
        omega
      · have := bulk_part (List.mem_map_of_mem (f := D) (List.mem_range.2 hin))
        simp only [Rows.uptoBulk]
        omega
    refine ⟨(List.range n).map F, by simp, fun k hk => ?_, fun x hx => ?_, fun x hx => ?_, hbl.1, by omega⟩
    · have hk' : k < n := by simpa using hk
      have h0 := (hF k hk').1
      refine ⟨a, rfl, ?_, fun j v hj => h0 j v (by simpa using hj)⟩
      have := World.block_lt_of_cell? W _ (h0 0 _ rfl)
      rwa [block_addC] at this
    · obtain ⟨i, hi, rfl⟩ := List.mem_map.1 hx
      exact (hF i (List.mem_range.1 hi)).2.1
    · obtain ⟨i, hi, rfl⟩ := List.mem_map.1 hx
      exact Nat.le_trans (hF i (List.mem_range.1 hi)).2.2 (hbl.2 i (List.mem_range.1 hi))
theorem rows_at_arg {A : Option Addr} {n c : Nat} (h : DataW.trod enc Tryz.prog W base (fun _ => true) true fuel 67 [.slice A n c] = some y) :
    ∃ rs : List RowV, rs.length = n ∧ RowsRd W A rs ∧ (∀ x ∈ rs, CellI x.cell ∧ RowI x) ∧ (∀ x ∈ rs, x.cell.key.size ≤ Rows.uptoBulk y.1) ∧ n ≤ Rows.uptoBulk y.1 ∧ n ≤ maxLen := by
  rcases open_slice Tryz.underlying67 h with ⟨hcs, _⟩ | ⟨a, len, cap, m, k, D, Pl, hcs, _, hl, hm, hmm, hx, hi⟩
  · simp at hcs
    obtain ⟨rfl, rfl, rfl⟩ := hcs
    exact ⟨[], rfl, fun k hk => absurd hk (by simp), (fun x hx => by cases hx), (fun x hx => by cases hx), Nat.zero_le _, Nat.zero_le _⟩
  · simp at hcs
    obtain ⟨rfl, rfl, rfl⟩ := hcs
    have hD : ∀ i, i < n → ∃ x : RowV, (∀ j v, (x.cells)[j]? = some v → W.cell? (a.add (i * 7 + j)) = some v) ∧ (CellI x.cell ∧ RowI x) ∧ x.cell.key.size ≤ Rows.uptoBulk (D i) := fun i hin => by
      obtain ⟨cs', hc, ht⟩ := hi i (by rw [hmm]; simp only [if_true]; omega)
      obtain ⟨x, rfl, h1, h1', h2⟩ := row_at ht
      rw [cellsRowT] at hc
      obtain ⟨_, _, hat⟩ := World.cells?_some hc
      refine ⟨x, fun j v hj => ?_, ⟨h1, h1'⟩, h2⟩
      have hj5 : j < 7 := (List.getElem?_eq_some_iff.1 hj).1
      rw [← hj, ← hat j hj5, add_add]
    obtain ⟨F, hF⟩ := choose_lt hD
    have hbl : n ≤ Rows.uptoBulk y.1 ∧ ∀ i, i < n → Rows.uptoBulk (D i) ≤ Rows.uptoBulk y.1 := by
      rw [hx]
      refine ⟨?_, fun i hin => ?_⟩
      · have := bulk_len ((List.range n).map D)
        simp only [Rows.uptoBulk]
        simp at this
        omega
      · have := bulk_part (List.mem_map_of_mem (f := D) (List.mem_range.2 hin))
        simp only [Rows.uptoBulk]
        omega
    refine ⟨(List.range n).map F, by simp, fun k hk => ?_, fun x hx => ?_, fun x hx => ?_, hbl.1, by omega⟩
    · have hk' : k < n := by simpa using hk
      have h0 := (hF k hk').1
      refine ⟨a, rfl, ?_, fun j v hj => h0 j v (by simpa using hj)⟩
      have := World.block_lt_of_cell? W _ (h0 0 _ rfl)
      rwa [block_addC] at this
    · obtain ⟨i, hi, rfl⟩ := List.mem_map.1 hx
      exact (hF i (List.mem_range.1 hi)).2.1
    · obtain ⟨i, hi, rfl⟩ := List.mem_map.1 hx
      exact Nat.le_trans (hF i (List.mem_range.1 hi)).2.2 (hbl.2 i (List.mem_range.1 hi))
theorem slice_form {t e : TypeId} {v : Value} (hu : Tryz.prog.underlying t = some (.slice e)) (h : DataW.trod enc Tryz.prog W base (fun _ => true) true fuel t [v] = some y) : ∃ A n c, v = .slice A n c := by
  rcases open_slice hu h with ⟨hcs, _⟩ | ⟨a, len, cap, m, k, D, Pl, hcs, _⟩
  · simp at hcs
    exact ⟨none, 0, 0, hcs⟩
  · simp at hcs
    exact ⟨some a, len, cap, hcs⟩
set_option maxRecDepth 100000 in
theorem rq_arg {r : Reach} {b0 : Nat} {v : Value} {d : DataW H} {p : List MemPlace} (hv : Value.okWide Tryz.prog W r b0 43 v) (h : DataW.Trod enc Tryz.prog W base (fun _ => true) true 43 v d p) :
    ∃ (q : Rq) (A : Option Addr) (n c : Nat), v = .agg (rqC (.slice A n c) q) ∧ q.cs.length = n ∧ CellsRd W A q.cs ∧ RqI q ∧ n ≤ maxLen ∧ n ≤ Rows.uptoBulk d ∧ (∀ x ∈ q.cs, x.key.size ≤ Rows.uptoBulk d) ∧ q.frm.key.size ≤ Rows.uptoBulk d ∧ q.too.key.size ≤ Rows.uptoBulk d := by
  obtain ⟨fs, hu, hl⟩ := rqFs
  obtain ⟨cs, rfl, hsz⟩ := okWide_struct hu hv
  obtain ⟨l⟩ := cs
  obtain ⟨fuel, hf⟩ := h
  obtain ⟨xs, n, hx, hcl, _, hg⟩ := struct_at hu hl hf
  rw [cellsRq] at hcl
  have hc0 : (Value.agg ⟨l⟩).cells.toList = l := rfl
  match l, (show l.length = 11 from hcl) with
  | [c0, c1, c2, c3, c4, c5, c6, c7, c8, c9, c10], _ =>
    obtain ⟨y0, _, g0⟩ := hg 0 _ _ _ rfl
    obtain ⟨y1, _, g1⟩ := hg 1 _ _ _ rfl
    obtain ⟨y2, _, g2⟩ := hg 2 _ _ _ rfl
    obtain ⟨y3, m3, g3⟩ := hg 3 _ _ _ rfl
    obtain ⟨y4, m4, g4⟩ := hg 4 _ _ _ rfl
    obtain ⟨y5, m5, g5⟩ := hg 5 _ _ _ rfl
    obtain ⟨y6, _, g6⟩ := hg 6 _ _ _ rfl
    obtain ⟨x0, q0, _, w0⟩ := DataW.trod_int Tryz.underlying3 g0
    obtain ⟨x1, q1, _, w1⟩ := DataW.trod_int Tryz.underlying3 g1
    obtain ⟨x2, q2, _, w2⟩ := DataW.trod_int Tryz.underlying3 g2
    obtain ⟨x6, q6, _, w6⟩ := DataW.trod_int Tryz.underlying3 g6
    obtain ⟨A, nn, cc, rfl⟩ := slice_form (v := c3) Tryz.underlying39 g3
    obtain ⟨cs, hn, hr, hi, hk, hb, hm⟩ := cells_at_arg (A := A) (n := nn) (c := cc) g3
    obtain ⟨f, ef, hfi, hfk⟩ := cell_at g4
    obtain ⟨g, eg, hgi, hgk⟩ := cell_at g5
    simp [Value.cells] at q0 q1 q2 q6
    simp [Value.cells, CellV.cells] at ef eg
    obtain ⟨e4, e5, e6⟩ := ef
    obtain ⟨e7, e8, e9⟩ := eg
    subst q0 q1 q2 q6 e4 e5 e6 e7 e8 e9
    have b3 := bulk_agg hx m3
    have b4 := bulk_agg hx m4
    have b5 := bulk_agg hx m5
    exact ⟨⟨x0, x1, x2, cs, f, g, x6⟩, A, nn, cc, rfl, hn, hr, ⟨.of w0, .of w1, .of w2, hi, hfi, hgi, .of w6⟩, hm, Nat.le_trans hb b3, fun x hx => Nat.le_trans (hk x hx) b3, Nat.le_trans hfk b4, Nat.le_trans hgk b5⟩
set_option maxRecDepth 100000 in
theorem rs_arg {r : Reach} {b0 : Nat} {v : Value} {d : DataW H} {p : List MemPlace} (hv : Value.okWide Tryz.prog W r b0 71 v) (h : DataW.Trod enc Tryz.prog W base (fun _ => true) true 71 v d p) :
    ∃ (q : Rs) (A : Option Addr) (n c : Nat), v = .agg (rsC (.slice A n c) q) ∧ q.rows.length = n ∧ RowsRd W A q.rows ∧ RsI q ∧ n ≤ maxLen ∧ n ≤ Rows.uptoBulk d ∧ (∀ x ∈ q.rows, x.cell.key.size ≤ Rows.uptoBulk d) := by
  obtain ⟨fs, hu, hl⟩ := rsFs
  obtain ⟨cs, rfl, hsz⟩ := okWide_struct hu hv
  obtain ⟨l⟩ := cs
  obtain ⟨fuel, hf⟩ := h
  obtain ⟨xs, n, hx, hcl, _, hg⟩ := struct_at hu hl hf
  rw [cellsRs] at hcl
  match l, (show l.length = 11 from hcl) with
  | [c0, c1, c2, c3, c4, c5, c6, c7, c8, c9, c10], _ =>
    obtain ⟨y0, _, g0⟩ := hg 0 _ _ _ rfl
    obtain ⟨y1, _, g1⟩ := hg 1 _ _ _ rfl
    obtain ⟨y2, _, g2⟩ := hg 2 _ _ _ rfl
    obtain ⟨y3, _, g3⟩ := hg 3 _ _ _ rfl
    obtain ⟨y4, m4, g4⟩ := hg 4 _ _ _ rfl
    obtain ⟨y5, _, g5⟩ := hg 5 _ _ _ rfl
    obtain ⟨x0, q0, _, w0⟩ := DataW.trod_int Tryz.underlying3 g0
    obtain ⟨x1, q1, _, w1⟩ := DataW.trod_int Tryz.underlying3 g1
    obtain ⟨x2, q2, _, w2⟩ := DataW.trod_int Tryz.underlying26 g2
    obtain ⟨x3, q3, _, w3⟩ := DataW.trod_int Tryz.underlying3 g3
    obtain ⟨A, nn, cc, rfl⟩ := slice_form (v := c4) Tryz.underlying67 g4
    obtain ⟨rs, hn, hr, hi, hk, hb, hm⟩ := rows_at_arg (A := A) (n := nn) (c := cc) g4
    obtain ⟨fs2, hu2, hl2⟩ := statFs
    obtain ⟨zs, n2, _, _, _, hf2⟩ := struct_at hu2 hl2 g5
    obtain ⟨_, _, a0⟩ := hf2 0 _ _ _ rfl
    obtain ⟨_, _, a1⟩ := hf2 1 _ _ _ rfl
    obtain ⟨_, _, a2⟩ := hf2 2 _ _ _ rfl
    obtain ⟨_, _, a3⟩ := hf2 3 _ _ _ rfl
    obtain ⟨_, _, a4⟩ := hf2 4 _ _ _ rfl
    obtain ⟨_, _, a5⟩ := hf2 5 _ _ _ rfl
    obtain ⟨z0, p0, _, v0⟩ := DataW.trod_int Tryz.underlying3 a0
    obtain ⟨z1, p1, _, v1⟩ := DataW.trod_int Tryz.underlying3 a1
    obtain ⟨z2, p2, _, v2⟩ := DataW.trod_int Tryz.underlying3 a2
    obtain ⟨z3, p3, _, v3⟩ := DataW.trod_int Tryz.underlying3 a3
    obtain ⟨z4, p4, _, v4⟩ := DataW.trod_int Tryz.underlying3 a4
    obtain ⟨z5, p5, _, v5⟩ := DataW.trod_int Tryz.underlying3 a5
    simp [Value.cells] at q0 q1 q2 q3 p0 p1 p2 p3 p4 p5
    subst q0 q1 q2 q3 p0 p1 p2 p3 p4 p5
    have b4 := bulk_agg hx m4
    exact ⟨⟨x0, x1, x2, x3, rs, ⟨z0, z1, z2, z3, z4, z5⟩⟩, A, nn, cc, rfl, hn, hr, ⟨.of w0, .of w1, .of w2, .of w3, fun x hx => (hi x hx).1, fun x hx => (hi x hx).2, .of v0, .of v1, .of v2, .of v3, .of v4, .of v5⟩, hm, Nat.le_trans hb b4, fun x hx => Nat.le_trans (hk x hx) b4⟩
end
end Go.Proofs.YtglbdbghcdoicaaGreatDoor

namespace Go.Proofs.YtglbdbghcdoicaaGreatDoor
open Go.ChangeShapes Go.WideShapes Go.ChangeAt Go.RowKit Go.Deep

theorem block_add_si (a : Addr) (n : Nat) : (a.add n).block = a.block := by unfold Addr.add; split <;> rfl
section
variable {H : Type} {enc : TypeId × Value → H} {P : Program} {W : World}
theorem sints_arg {t e : TypeId} {A : Option Addr} {n c : Nat} {d : DataW H} {p : List MemPlace} (ht : P.underlying t = some (.slice e)) (he : P.underlying e = some (.int .i64)) (hc : P.cellsOf e = 1)
    (h : DataW.Trod enc P W 0 (fun _ => true) true t (.slice A n c) d p) : ∃ zs : List Int, zs.length = n ∧ CellsAt W A (zs.map (Value.int .i64 ·)) ∧ n ≤ maxLen := by
  obtain ⟨fuel, hf⟩ := h
  rcases open_ints ht he hc hf with ⟨hcs, _⟩ | ⟨a, len, cap, zs, hcs, _, hl, hm, hz, hx, hcell, hwf⟩
  · simp [Value.cells] at hcs
    obtain ⟨rfl, rfl, rfl⟩ := hcs
    exact ⟨[], rfl, fun k hk => absurd hk (by simp), Nat.zero_le _⟩
  · simp [Value.cells] at hcs
    obtain ⟨rfl, rfl, rfl⟩ := hcs
    have hzc : zs.length = c := by simpa using hz
    refine ⟨zs.take n, by simp; omega, fun k hk => ?_, Nat.le_trans hl hm⟩
    have hk' : k < n := by simp at hk; omega
    have h1 := hcell k (by omega)
    have h2 : zs.getD k 0 = (zs.take n)[k]'(by simp; omega) := by
      rw [List.getElem_take, List.getD_eq_getElem?_getD, List.getElem?_eq_getElem (by omega)]; rfl
    rw [h2] at h1
    exact ⟨a, rfl, by have := World.block_lt_of_cell? W _ h1; rwa [block_add_si] at this, by rw [h1]; simp⟩
theorem sints_arg2 {t e : TypeId} {A : Option Addr} {n c : Nat} {d : DataW H} {p : List MemPlace} (ht : P.underlying t = some (.slice e)) (he : P.underlying e = some (.int .i64)) (hc : P.cellsOf e = 1)
    (h : DataW.Trod enc P W 0 (fun _ => true) true t (.slice A n c) d p) : ∃ zs : List Int, zs.length = n ∧ CellsAt W A (zs.map (Value.int .i64 ·)) ∧ (A = none → c = 0) ∧ (n = 0 ∨ ∃ el sp, d = .slice el sp ∧ n ≤ el.length + sp.length) := by
  obtain ⟨fuel, hf⟩ := h
  rcases open_ints ht he hc hf with ⟨hcs, _⟩ | ⟨a, len, cap, zs, hcs, _, hl, hm, hz, hx, hcell, hwf⟩
  · simp [Value.cells] at hcs
    obtain ⟨rfl, rfl, rfl⟩ := hcs
    exact ⟨[], rfl, fun k hk => absurd hk (by simp), fun _ => rfl, .inl rfl⟩
  · simp [Value.cells] at hcs
    obtain ⟨rfl, rfl, rfl⟩ := hcs
    have hzc : zs.length = c := by simpa using hz
    refine ⟨zs.take n, by simp; omega, fun k hk => ?_, (fun h => by cases h), .inr ?_⟩
    rotate_left
    · injection hx with h1 _
      exact ⟨_, _, h1, by simp [lits]; omega⟩
    have hk' : k < n := by simp at hk; omega
    have h1 := hcell k (by omega)
    have h2 : zs.getD k 0 = (zs.take n)[k]'(by simp; omega) := by
      rw [List.getElem_take, List.getD_eq_getElem?_getD, List.getElem?_eq_getElem (by omega)]; rfl
    rw [h2] at h1
    exact ⟨a, rfl, by have := World.block_lt_of_cell? W _ h1; rwa [block_add_si] at this, by rw [h1]; simp⟩
end
theorem ints_bound {H : Type} {P : Program} {ts : List TypeId} {ds : List (DataW H)} {j n : Nat} {t e : TypeId} {d : DataW H} (h : (DataW.weightsEach P ts ds).all (· ≤ reachBytes) = true) (ht : ts[j]? = some t) (hj : ds[j]? = some d)
    (hd : n = 0 ∨ ∃ el sp, d = .slice el sp ∧ n ≤ el.length + sp.length) (hu : P.underlying t = some (.slice e)) (hb : P.bytesOf e = 8) : n * 8 ≤ 140737488351232 := by
  rcases hd with rfl | ⟨el, sp, rfl, hn⟩
  · omega
  · have := sized_slice h ht hj hu
    rw [hb] at this
    have e : reachBytes = 140737488351232 := by decide
    omega
end Go.Proofs.YtglbdbghcdoicaaGreatDoor
