/- A slice of Calls that came in, as a list. -/
import Derived.Test.YtdgokebablhoiaaDoorWRow
import Derived.Test.YtdgokebablhoiaaDoorWWrite2
import Derived.Test.YtdgokebablhoiaaDoorRows
import Derived.Deep.Slices
import Derived.Deep.Fields
namespace Go.Proofs.YtdgokebablhoiaaDoor
open Go.ChangeShapes Go.WideShapes Go.ChangeAt Go.RowKit Go.Deep

structure Cl where
  kind : Int
  n : Int
  i : Int
  s : ByteArray
  most : Int
instance : Inhabited Cl := ⟨⟨0, 0, 0, ⟨#[]⟩, 0⟩⟩
def Cl.cells (c : Cl) : List Value := [.int .i64 c.kind, .int .i64 c.n, .int .i64 c.i, .string c.s, .int .i64 c.most]
structure I64 (x : Int) : Prop where
  lo : -9223372036854775808 ≤ x
  hi : x ≤ 9223372036854775807
theorem I64.of {x : Int} (h : (Lit.int .i64 x).wf = true) : I64 x := by
  have h' : (decide (IntKind.i64.min ≤ x) && decide (x ≤ IntKind.i64.max)) = true := h
  simp only [Bool.and_eq_true, decide_eq_true_eq] at h'
  exact ⟨h'.1, h'.2⟩
structure Cl.Ok (c : Cl) : Prop where
  kind : I64 c.kind
  n : I64 c.n
  i : I64 c.i
  most : I64 c.most
  s : c.s.size ≤ maxLen

/-- The slice reads as these calls. -/
def CallsAt (W : World) (A : Option Addr) (cs : List Cl) : Prop :=
  ∀ k (h : k < cs.length), ∃ ad, A = some ad ∧ ad.block < W.heap.size ∧ ∀ j v, (cs[k].cells)[j]? = some v → W.cell? (ad.add (k * 5 + j)) = some v
theorem CallsAt.below {B : Nat} {W W' : World} {A : Option Addr} {cs : List Cl} (h : CallsAt W A cs) (hb : Below B W W') (hA : ∀ ad, A = some ad → ad.block < B) : CallsAt W' A cs := fun k hk => by
  obtain ⟨ad, e, hl, hc⟩ := h k hk
  exact ⟨ad, e, Nat.lt_of_lt_of_le hl hb.size, fun j v hj => (hb.cell (by rw [block_add]; exact hA ad e)).trans (hc j v hj)⟩
theorem cellsCall : Tryd.prog.cellsOf 29 = 5 := by kernel_rfl
theorem callOne : ∃ f0 f1 f2 f3 f4 : Field, Tryd.prog.underlying 29 = some (.struct #[f0, f1, f2, f3, f4]) ∧ oneCellFields Tryd.prog #[f0, f1, f2, f3, f4] = true ∧
    f0.type = 3 ∧ f1.type = 3 ∧ f2.type = 2 ∧ f3.type = 9 ∧ f4.type = 3 :=
  ⟨_, _, _, _, _, Tryd.underlying29, by kernel_rfl, rfl, rfl, rfl, rfl, rfl⟩

theorem bulk_one {H : Type} (d : DataW H) : 1 ≤ Rows.uptoBulk d := by
  cases d with
  | lit l => cases l <;> simp [Rows.uptoBulk]
  | _ => simp [Rows.uptoBulk]
theorem bulk_part {H : Type} {d : DataW H} {l : List (DataW H)} (h : d ∈ l) : Rows.uptoBulk d ≤ Rows.uptoBulkAll l := by
  induction l with
  | nil => cases h
  | cons x r ih =>
    simp only [Rows.uptoBulkAll]
    rcases List.mem_cons.1 h with e | e
    · subst e; omega
    · have := ih e; omega

theorem weightsEach_at {H : Type} {P : Program} : ∀ {ts : List TypeId} {ds : List (DataW H)} {j : Nat} {t : TypeId} {d : DataW H}, ts[j]? = some t → ds[j]? = some d → ∀ n ∈ d.weights P t, n ∈ DataW.weightsEach P ts ds
  | [], _, _, _, _, h, _, _, _ => by simp at h
  | _ :: _, [], _, _, _, _, h, _, _ => by simp at h
  | t0 :: ts, d0 :: ds, 0, t, d, ht, hd, n, hn => by
    simp at ht hd
    subst ht hd
    simp only [DataW.weightsEach, List.mem_append]
    exact .inl hn
  | t0 :: ts, d0 :: ds, j + 1, t, d, ht, hd, n, hn => by
    simp only [DataW.weightsEach, List.mem_append]
    exact .inr (weightsEach_at (by simpa using ht) (by simpa using hd) n hn)
theorem weightsAll_at {H : Type} {P : Program} {e : TypeId} : ∀ {ds : List (DataW H)} {d : DataW H}, d ∈ ds → ∀ n ∈ d.weights P e, n ∈ DataW.weightsAll P e ds
  | d0 :: ds, d, hd, n, hn => by
    simp only [DataW.weightsAll, List.mem_append]
    rcases List.mem_cons.1 hd with rfl | hd
    · exact .inl hn
    · exact .inr (weightsAll_at hd n hn)
theorem sized_weights {H : Type} {P : Program} {ts : List TypeId} {ds : List (DataW H)} {j : Nat} {t : TypeId} {d : DataW H} (h : (DataW.weightsEach P ts ds).all (· ≤ reachBytes) = true) (ht : ts[j]? = some t) (hd : ds[j]? = some d) : ∀ n ∈ d.weights P t, n ≤ 140737488351232 := fun n hn => by
  have := List.all_eq_true.1 h n (weightsEach_at ht hd n hn)
  have e : reachBytes = 140737488351232 := by decide
  have := of_decide_eq_true this
  omega

section
variable {H : Type} {enc : TypeId × Value → H} {W : World}
set_option maxRecDepth 100000 in
theorem call_at {base : Nat} {fuel : Nat} {cs' : List Value} {y : DataW H × List MemPlace} (h : DataW.trod enc Tryd.prog W base (fun _ => true) true fuel 29 cs' = some y) :
    ∃ c : Cl, cs' = c.cells ∧ c.Ok ∧ c.s.size ≤ Rows.uptoBulk y.1 ∧ ∀ B, (∀ n ∈ y.1.weights Tryd.prog 29, n ≤ B) → c.s.size ≤ B := by
  obtain ⟨f0, f1, f2, f3, f4, hu, hone, e0, e1, e2, e3, e4⟩ := callOne
  obtain ⟨ys, n, _, hy, hcl, hyl, hf⟩ := DataW.trod_struct hu h
  rw [cellsCall] at hcl
  match cs', hcl with
  | [c0, c1, c2, c3, c4], _ =>
    match ys, hyl with
    | [y0, y1, y2, y3, y4], _ =>
      obtain ⟨o0, k0⟩ := hone_of hone 0 f0 rfl
      obtain ⟨o1, k1⟩ := hone_of hone 1 f1 rfl
      obtain ⟨o2, k2⟩ := hone_of hone 2 f2 rfl
      obtain ⟨o3, k3⟩ := hone_of hone 3 f3 rfl
      obtain ⟨o4, k4⟩ := hone_of hone 4 f4 rfl
      have g0 := hf 0 f0 rfl
      have g1 := hf 1 f1 rfl
      have g2 := hf 2 f2 rfl
      have g3 := hf 3 f3 rfl
      have g4 := hf 4 f4 rfl
      rw [o0, k0, e0] at g0
      rw [o1, k1, e1] at g1
      rw [o2, k2, e2] at g2
      rw [o3, k3, e3] at g3
      rw [o4, k4, e4] at g4
      obtain ⟨kind, q0, _, w0⟩ := DataW.trod_int Tryd.underlying3 g0
      obtain ⟨nn, q1, _, w1⟩ := DataW.trod_int Tryd.underlying3 g1
      obtain ⟨ii, q2, _, w2⟩ := DataW.trod_int Tryd.underlying2 g2
      obtain ⟨s, q3, r3, w3⟩ := DataW.trod_string Tryd.underlying9 g3
      obtain ⟨mo, q4, _, w4⟩ := DataW.trod_int Tryd.underlying3 g4
      simp at q0 q1 q2 q3 q4
      subst q0 q1 q2 q3 q4
      refine ⟨⟨kind, nn, ii, s, mo⟩, rfl, ⟨.of w0, .of w1, .of w2, .of w4, w3⟩, ?_, fun B hB => ?_⟩
      rotate_left
      · refine hB s.size ?_
        rw [hy, r3]
        simp only [DataW.weights, hu]
        refine weightsEach_at (j := 3) (t := f3.type) (d := .lit (.string s.data.toList)) rfl rfl _ ?_
        simp [DataW.weights]
      rw [hy, r3]
      show s.size ≤ _
      have hs : s.data.toList.length = s.size := by simp
      have := bulk_part (H := H) (d := .lit (.string s.data.toList)) (l := ([y0, y1, y2, (.lit (.string s.data.toList), []), y4].map (·.1))) (by simp)
      simp only [Rows.uptoBulk] at this ⊢
      omega
theorem calls_at_arg {A : Option Addr} {n c : Nat} {d : DataW H} {p : List MemPlace} (h : DataW.Trod enc Tryd.prog W 0 (fun _ => true) true 22 (.slice A n c) d p) :
    ∃ cs : List Cl, cs.length = n ∧ CallsAt W A cs ∧ (∀ x ∈ cs, x.Ok) ∧ (∀ x ∈ cs, x.s.size ≤ Rows.uptoBulk d) ∧ n ≤ Rows.uptoBulk d ∧ (n = 0 ∨ ∃ el sp, d = .slice el sp ∧ n ≤ el.length + sp.length) ∧ (∀ B, (∀ n ∈ d.weights Tryd.prog 22, n ≤ B) → ∀ x ∈ cs, x.s.size ≤ B) ∧ n ≤ maxLen := by
  obtain ⟨fuel, hf⟩ := h
  rcases open_slice Tryd.underlying22 hf with ⟨hcs, _⟩ | ⟨a, len, cap, m, k, D, Pl, hcs, _, hl, hm, hmm, hx, hi⟩
  · simp [Value.cells] at hcs
    obtain ⟨rfl, rfl, rfl⟩ := hcs
    exact ⟨[], rfl, fun k hk => absurd hk (by simp), (fun x hx => by cases hx), (fun x hx => by cases hx), Nat.zero_le _, .inl rfl, (fun _ _ x hx => by cases hx), Nat.zero_le _⟩
  · simp [Value.cells] at hcs
    obtain ⟨rfl, rfl, rfl⟩ := hcs
    have hD : ∀ i, i < n → ∃ x : Cl, (∀ j v, (x.cells)[j]? = some v → W.cell? (a.add (i * 5 + j)) = some v) ∧ x.Ok ∧ x.s.size ≤ Rows.uptoBulk (D i) ∧ ∀ B, (∀ n ∈ (D i).weights Tryd.prog 29, n ≤ B) → x.s.size ≤ B := fun i hin => by
      obtain ⟨cs', hc, ht⟩ := hi i (by rw [hmm]; simp only [if_true]; omega)
      obtain ⟨x, rfl, h1, h2⟩ := call_at ht
      rw [cellsCall] at hc
      obtain ⟨_, _, hat⟩ := World.cells?_some hc
      refine ⟨x, fun j v hj => ?_, h1, h2⟩
      have hj5 : j < 5 := (List.getElem?_eq_some_iff.1 hj).1
      rw [← hj, ← hat j hj5, add_add]
    obtain ⟨F, hF⟩ := choose_lt hD
    injection hx with hx1 _
    refine ⟨(List.range n).map F, by simp, fun k hk => ?_, fun x hx => ?_, fun x hx => ?_, ?_, .inr ⟨_, _, hx1, by simp⟩, fun B hB x hx => ?_, by omega⟩
    · have hk' : k < n := by simpa using hk
      have h0 := (hF k hk').1
      refine ⟨a, rfl, ?_, fun j v hj => h0 j v (by simpa using hj)⟩
      have := World.block_lt_of_cell? W _ (h0 0 _ rfl)
      rwa [block_add] at this
    · obtain ⟨i, hi, rfl⟩ := List.mem_map.1 hx
      exact (hF i (List.mem_range.1 hi)).2.1
    · obtain ⟨i, hi, rfl⟩ := List.mem_map.1 hx
      refine Nat.le_trans (hF i (List.mem_range.1 hi)).2.2.1 ?_
      rw [hx1]
      have := bulk_part (List.mem_map_of_mem (f := D) hi)
      simp only [Rows.uptoBulk]
      omega
    · rw [hx1]
      have : ∀ l : List (DataW H), l.length ≤ Rows.uptoBulkAll l := fun l => by
        induction l with
        | nil => simp
        | cons x r ih => have := bulk_one x; simp only [Rows.uptoBulkAll, List.length_cons]; omega
      have := this ((List.range n).map D)
      simp only [Rows.uptoBulk]
      simp at this
      omega
    · obtain ⟨i, hi, rfl⟩ := List.mem_map.1 hx
      refine (hF i (List.mem_range.1 hi)).2.2.2 B (fun m hm => hB m ?_)
      rw [hx1]
      simp only [DataW.weights, Tryd.underlying22]
      exact List.mem_cons_of_mem _ (List.mem_append_left _ (weightsAll_at (List.mem_map_of_mem (f := D) hi) m hm))
end
end Go.Proofs.YtdgokebablhoiaaDoor
