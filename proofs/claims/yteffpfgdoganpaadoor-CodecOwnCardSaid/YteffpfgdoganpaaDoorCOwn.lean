/- CodecOwn: the walk. -/
import Derived.Test.YteffpfgdoganpaaDoorCFronts
import Derived.Test.YteffpfgdoganpaaDoorWLendO
import Derived.Test.YteffpfgdoganpaaDoorCGr
import Derived.Laws.IdiomStrings
namespace Go.Proofs.YteffpfgdoganpaaDoor
open Go.RowKit

theorem infoSlB0 : (Tryd.prog.info? 45).map (fun i => (i.zero, i.size, i.bytes)) = some (some (.slice none 0 0), 1, 24) := by kernel_rfl
theorem infoStr0 : (Tryd.prog.info? 9).map (fun i => (i.zero, i.size, i.bytes)) = some (some (.string ⟨#[]⟩), 1, 16) := by kernel_rfl

/-- A row that was told: its bytes then, its bytes now. -/
structure Kr where
  A : Option Addr
  n : Nat
  c : Nat
  xs : List Int
  ys : List Int
abbrev Kr.v (k : Kr) : Value := .slice k.A k.n k.c
def rK (lo : Nat) (k : Kr) : Rsc := rG lo 1 k.v k.n (bvs k.ys)
abbrev krS (k : Kr) : Value := .string (strOfNums k.xs)
/-- The rows that were told, the row of them, the row of their strings. -/
structure OwnS (lo nk cK cS : Nat) (AK AS : Option Addr) (ks : List Kr) (w wr : World) : Prop where
  sep : Sep lo wr (rG lo 1 (.slice AK nk cK) nk (ks.map Kr.v) :: rG lo 1 (.slice AS nk cS) nk (ks.map krS) :: ks.map (rK lo))
  len : ks.length = nk
  ok : ∀ k ∈ ks, k.xs.length = k.n ∧ k.ys.length = k.n ∧ k.n ≤ 100000
  below : Below lo w wr
  lo_ : lo ≤ wr.heap.size
section
variable {lo nk cK cS : Nat} {AK AS : Option Addr} {ks : List Kr} {w wr w1 : World}
theorem OwnS.kept (h : OwnS lo nk cK cS AK AS ks w wr) (hb : Below wr.heap.size wr w1) : OwnS lo nk cK cS AK AS ks w w1 :=
  ⟨h.sep.kept hb h.lo_, h.len, h.ok, h.below.trans (hb.mono h.lo_), Nat.le_trans h.lo_ hb.size⟩
theorem OwnS.rowK (h : OwnS lo nk cK cS AK AS ks w wr) : OwG wr lo 1 (.slice AK nk cK) nk (ks.map Kr.v) := h.sep.at 0 (by simp)
theorem OwnS.rowS (h : OwnS lo nk cK cS AK AS ks w wr) : OwG wr lo 1 (.slice AS nk cS) nk (ks.map krS) := h.sep.at 1 (by simp)
theorem OwnS.row (h : OwnS lo nk cK cS AK AS ks w wr) {k : Kr} (hk : k ∈ ks) : OwG wr lo 1 k.v k.n (bvs k.ys) :=
  h.sep.ok (R := rK lo k) (by simp only [List.mem_cons, List.mem_map]; exact .inr (.inr ⟨k, hk, rfl⟩))
theorem OwnS.cellK (h : OwnS lo nk cK cS AK AS ks w wr) (i : Nat) (hi : i < nk) : ∃ g, AK = some ⟨g, 0, none⟩ ∧ g < wr.heap.size ∧ wr.cell? ⟨g, i, none⟩ = some (ks[i]'(by rw [h.len]; exact hi)).v := by
  rcases h.rowK with ⟨h1, h0, _⟩ | ⟨g, c, hf⟩
  · omega
  · have e := hf.val
    injection e with e
    have hlt : i < (ks.map Kr.v).length := by rw [List.length_map, h.len]; exact hi
    exact ⟨g, e, hf.lt, by rw [hf.cells i hlt, List.getElem_map]⟩
theorem OwnS.cellS (h : OwnS lo nk cK cS AK AS ks w wr) (i : Nat) (hi : i < nk) : ∃ g, AS = some ⟨g, 0, none⟩ ∧ g < wr.heap.size ∧ wr.cell? ⟨g, i, none⟩ = some (krS (ks[i]'(by rw [h.len]; exact hi))) := by
  rcases h.rowS with ⟨h1, h0, _⟩ | ⟨g, c, hf⟩
  · omega
  · have e := hf.val
    injection e with e
    have hlt : i < (ks.map krS).length := by rw [List.length_map, h.len]; exact hi
    exact ⟨g, e, hf.lt, by rw [hf.cells i hlt, List.getElem_map]⟩
end
abbrev TwoL (lo nk cS cK2 : Nat) (AS AK2 : Option Addr) (ks : List Kr) (a b : Kr) : List Rsc :=
  rG lo 1 (.slice AS nk cS) nk (ks.map krS) :: rG lo 1 (.slice AK2 (nk + 2) cK2) (nk + 2) (ks.map Kr.v ++ [a.v, b.v]) :: (ks.map (rK lo) ++ [rK lo a, rK lo b])
/-- Two rows more. -/
theorem OwnS.two1 {lo nk cK cS cK2 : Nat} {AK AS AK2 : Option Addr} {ks : List Kr} {w wr w1 w2 w3 w4 : World} {a b : Kr} (h : OwnS lo nk cK cS AK AS ks w wr)
    (b1 : Below wr.heap.size wr w1) (oa : OwG w1 wr.heap.size 1 a.v a.n (bvs a.ys)) (b2 : Below w1.heap.size w1 w2) (ob : OwG w2 w1.heap.size 1 b.v b.n (bvs b.ys))
    (b3 : Below w2.heap.size w2 w3) (oK : OwG w4 lo 1 (.slice AK2 (nk + 2) cK2) (nk + 2) (ks.map Kr.v ++ [a.v, b.v])) (gK : w3.grownBy w4 (Value.slice AK nk cK).ownBlock) (vK : ∀ x, (Value.slice AK2 (nk + 2) cK2).ownBlock = some x → (Value.slice AK nk cK).ownBlock = some x ∨ w3.heap.size ≤ x) :
    Sep lo w4 (TwoL lo nk cS cK2 AS AK2 ks a b) ∧ Below lo wr w4 := by
  have s1 := h.sep.add (R' := rK lo a) b1 h.lo_ (oa.mono h.lo_) (fun k hk => oa.lt k (own_list.1 hk))
  have l1 := Nat.le_trans h.lo_ b1.size
  have s2 := s1.add (R' := rK lo b) b2 l1 (ob.mono l1) (fun k hk => ob.lt k (own_list.1 hk))
  have l2 := Nat.le_trans l1 b2.size
  have p1 : (rK lo b :: rK lo a :: rG lo 1 (.slice AK nk cK) nk (ks.map Kr.v) :: rG lo 1 (.slice AS nk cS) nk (ks.map krS) :: ks.map (rK lo)).Perm (rG lo 1 (.slice AK nk cK) nk (ks.map Kr.v) :: rG lo 1 (.slice AS nk cS) nk (ks.map krS) :: (ks.map (rK lo) ++ [rK lo a, rK lo b])) := by
    refine List.Perm.trans (List.perm_append_comm (l₁ := [rK lo b, rK lo a])) ?_
    show (rG lo 1 (.slice AK nk cK) nk (ks.map Kr.v) :: rG lo 1 (.slice AS nk cS) nk (ks.map krS) :: (ks.map (rK lo) ++ [rK lo b, rK lo a])).Perm _
    exact ((List.Perm.append_left _ (List.Perm.swap _ _ _)).cons _).cons _
  obtain ⟨s3, c3⟩ := (s2.perm p1).growG b3 l2 oK gK vK
  exact ⟨s3.perm (List.Perm.swap _ _ _), ((b1.mono h.lo_).trans (b2.mono l1)).trans c3⟩
theorem OwnS.two2 {lo nk cK cS cK2 cS2 : Nat} {AK AS AK2 AS2 : Option Addr} {ks : List Kr} {w wr w4 w5 w6 : World} {a b : Kr} (h : OwnS lo nk cK cS AK AS ks w wr) (ht : Sep lo w4 (TwoL lo nk cS cK2 AS AK2 ks a b) ∧ Below lo wr w4) (ha : a.xs.length = a.n ∧ a.ys.length = a.n ∧ a.n ≤ 100000) (hb : b.xs.length = b.n ∧ b.ys.length = b.n ∧ b.n ≤ 100000)
    (b5 : Below w4.heap.size w4 w5) (oS : OwG w6 lo 1 (.slice AS2 (nk + 2) cS2) (nk + 2) (ks.map krS ++ [krS a, krS b])) (gS : w5.grownBy w6 (Value.slice AS nk cS).ownBlock) (vS : ∀ x, (Value.slice AS2 (nk + 2) cS2).ownBlock = some x → (Value.slice AS nk cS).ownBlock = some x ∨ w5.heap.size ≤ x) :
    OwnS lo (nk + 2) cK2 cS2 AK2 AS2 (ks ++ [a, b]) w w6 := by
  have l3 : lo ≤ w4.heap.size := Nat.le_trans h.lo_ ht.2.size
  obtain ⟨s4, c4⟩ := ht.1.growG b5 l3 oS gS vS
  refine ⟨?_, by rw [List.length_append, h.len]; rfl, fun k hk => ?_, (h.below.trans ht.2).trans c4, Nat.le_trans l3 c4.size⟩
  · rw [List.map_append, List.map_append, List.map_append]
    exact s4.perm (List.Perm.swap _ _ _)
  · rcases List.mem_append.1 hk with e | e
    · exact h.ok k e
    · rcases List.mem_cons.1 e with rfl | e
      · exact ha
      · rw [List.mem_singleton] at e; exact e ▸ hb
theorem one1 {x : Value} (h : x.oneCell' = true) {y : Value} (h2 : y.oneCell' = true) : ∀ u ∈ [x, y], u.oneCell' = true := fun u hu => by
  rcases List.mem_cons.1 hu with rfl | hu
  · exact h
  · rw [List.mem_singleton] at hu; exact hu ▸ h2
abbrev OwL (lo nk cK cS : Nat) (AK AS : Option Addr) (ks : List Kr) : List Rsc := rG lo 1 (.slice AK nk cK) nk (ks.map Kr.v) :: rG lo 1 (.slice AS nk cS) nk (ks.map krS) :: ks.map (rK lo)
section
variable {lo nk cK cS : Nat} {AK AS : Option Addr} {ks : List Kr} {w wr w1 w2 : World}
theorem OwL.get (i : Nat) (hi : i < ks.length) : (OwL lo nk cK cS AK AS ks)[i + 2]'(by simp [OwL]; exact hi) = rK lo ks[i] := by simp [OwL]
theorem OwL.len : (OwL lo nk cK cS AK AS ks).length = ks.length + 2 := by simp [OwL]
/-- The row at i has grown: both as bytes. -/
theorem OwnS.grow (h : OwnS lo nk cK cS AK AS ks w wr) (i : Nat) (hi : i < ks.length) (hb : Below wr.heap.size wr w1) {v' : Value} {m : Nat} {zs : List Int} (hold : OwG w2 lo 1 ks[i].v ks[i].n (bvs ks[i].ys)) (hnew : OwG w2 lo 1 v' m (bvs zs)) (hg : w1.grownBy w2 ks[i].v.ownBlock) (hv : ∀ b, v'.ownBlock = some b → ks[i].v.ownBlock = some b ∨ w1.heap.size ≤ b) :
    Sep lo w2 ((OwL lo nk cK cS AK AS ks).set (i + 2) (rAny2 lo ks[i].v v' ks[i].n m)) ∧ Below lo w w2 := by
  have h1 := h.kept hb
  have ht : Tur (fun k => ks[i].v.ownBlock = some k) w1 w2 := Tur.of_grown hg (fun k e => e)
  have hlen : i + 2 < (OwL lo nk cK cS AK AS ks).length := by rw [OwL.len]; omega
  have hsub : ∀ k, k < w1.heap.size → ks[i].v.ownBlock = some k → k ∈ ((OwL lo nk cK cS AK AS ks)[i + 2]).own := fun k _ e => by rw [OwL.get i hi]; exact own_list.2 e
  refine ⟨h1.sep.turn (i + 2) hlen ht hsub h1.lo_ ⟨⟨_, hold⟩, ⟨_, hnew⟩⟩ (fun k hk => ?_), h1.below.trans (h1.sep.belowAt (i + 2) hlen ht hsub h1.lo_)⟩
  rw [OwL.get i hi]
  rcases List.mem_append.1 hk with e | e
  · exact ⟨.inl e, (hold.lt k (own_list.1 e)).2⟩
  · exact ⟨(hv k (own_list.1 e)).imp (fun e => own_list.2 e) id, (hnew.lt k (own_list.1 e)).2⟩
theorem OwnS.back (hlen : ks.length = nk) (hok : ∀ k ∈ ks, k.xs.length = k.n ∧ k.ys.length = k.n ∧ k.n ≤ 100000) (i : Nat) (hi : i < ks.length) {v' : Value} {m : Nat} (hs : Sep lo wr ((OwL lo nk cK cS AK AS ks).set (i + 2) (rAny2 lo ks[i].v v' ks[i].n m))) (hb : Below lo w wr) (hlo : lo ≤ wr.heap.size) :
    ∃ ys, OwnS lo nk cK cS AK AS (ks.set i ⟨ks[i].A, ks[i].n, ks[i].c, ks[i].xs, ys⟩) w wr := by
  have hl2 : i + 2 < ((OwL lo nk cK cS AK AS ks).set (i + 2) (rAny2 lo ks[i].v v' ks[i].n m)).length := by rw [List.length_set, OwL.len]; omega
  have h0 := hs.at (i + 2) hl2
  rw [List.getElem_set_self] at h0
  obtain ⟨⟨ys, h1⟩, _⟩ := h0
  have hyl : ys.length = ks[i].n := by have := h1.len; rw [bvs_len] at this; omega
  refine ⟨ys, ?_⟩
  have h2 := hs.turn (R' := rK lo ⟨ks[i].A, ks[i].n, ks[i].c, ks[i].xs, ys⟩) (i + 2) hl2 (Tur.refl (fun _ => False) wr) (fun _ _ e => e.elim) hlo h1 (fun k hk => by
    rw [List.getElem_set_self]
    exact ⟨.inl (List.mem_append_left _ hk), (h1.lt k (own_list.1 hk)).2⟩)
  rw [List.set_set] at h2
  have e : (OwL lo nk cK cS AK AS ks).set (i + 2) (rK lo ⟨ks[i].A, ks[i].n, ks[i].c, ks[i].xs, ys⟩) = OwL lo nk cK cS AK AS (ks.set i ⟨ks[i].A, ks[i].n, ks[i].c, ks[i].xs, ys⟩) := by
    have ev : (ks.set i ⟨ks[i].A, ks[i].n, ks[i].c, ks[i].xs, ys⟩).map Kr.v = ks.map Kr.v := by
      rw [List.map_set]
      have : (ks.map Kr.v)[i]'(by simpa using hi) = ks[i].v := by rw [List.getElem_map]
      show (ks.map Kr.v).set i ks[i].v = _
      rw [← this, List.set_getElem_self]
    have es : (ks.set i ⟨ks[i].A, ks[i].n, ks[i].c, ks[i].xs, ys⟩).map krS = ks.map krS := by
      rw [List.map_set]
      have : (ks.map krS)[i]'(by simpa using hi) = krS ks[i] := by rw [List.getElem_map]
      show (ks.map krS).set i (krS ks[i]) = _
      rw [← this, List.set_getElem_self]
    unfold OwL
    rw [ev, es, List.map_set]
    rfl
  rw [e] at h2
  refine ⟨h2, by rw [List.length_set]; exact hlen, fun k hk => ?_, hb, hlo⟩
  rcases List.mem_or_eq_of_mem_set hk with h3 | h3
  · exact hok k h3
  · rw [h3]
    obtain ⟨o1, _, o3⟩ := hok _ (List.getElem_mem hi)
    exact ⟨o1, hyl, o3⟩
end
theorem infoU8_ : ∃ i z, Tryd.prog.info? 5 = some i ∧ i.zero = some z ∧ i.size = 1 ∧ i.bytes = 1 ∧ z.cells.size = 1 := by
  obtain ⟨i0, hi, hz0, hz1, hz2⟩ := info_parts info_u8
  exact ⟨i0, _, hi, hz0, hz1, hz2, rfl⟩
theorem OwnS.growK {lo nk cK cS : Nat} {AK AS : Option Addr} {ks : List Kr} {w wr w1 w2 : World} {kr : Kr} (h : OwnS lo nk cK cS AK AS ks w wr) (i : Nat) (hk : ks[i]? = some kr) (hb : Below wr.heap.size wr w1) {v' : Value} {m : Nat} {zs : List Int} (hold : OwG w2 lo 1 kr.v kr.n (bvs kr.ys)) (hnew : OwG w2 lo 1 v' m (bvs zs)) (hg : w1.grownBy w2 kr.v.ownBlock) (hv : ∀ b, v'.ownBlock = some b → kr.v.ownBlock = some b ∨ w1.heap.size ≤ b) :
    Sep lo w2 ((OwL lo nk cK cS AK AS ks).set (i + 2) (rAny2 lo kr.v v' kr.n m)) ∧ Below lo w w2 := by
  obtain ⟨hi, rfl⟩ := List.getElem?_eq_some_iff.1 hk
  exact h.grow i hi hb hold hnew hg hv
theorem OwnS.backK {lo nk cK cS : Nat} {AK AS : Option Addr} {ks : List Kr} {w wr : World} {kr : Kr} (hlen : ks.length = nk) (hok : ∀ k ∈ ks, k.xs.length = k.n ∧ k.ys.length = k.n ∧ k.n ≤ 100000) (i : Nat) (hk : ks[i]? = some kr) {v' : Value} {m : Nat} (hs : Sep lo wr ((OwL lo nk cK cS AK AS ks).set (i + 2) (rAny2 lo kr.v v' kr.n m))) (hb : Below lo w wr) (hlo : lo ≤ wr.heap.size) :
    ∃ ys, OwnS lo nk cK cS AK AS (ks.set i ⟨kr.A, kr.n, kr.c, kr.xs, ys⟩) w wr ∧ (ks.set i ⟨kr.A, kr.n, kr.c, kr.xs, ys⟩).map Kr.xs = ks.map Kr.xs := by
  obtain ⟨hi, rfl⟩ := List.getElem?_eq_some_iff.1 hk
  obtain ⟨ys, h⟩ := OwnS.back hlen hok i hi hs hb hlo
  refine ⟨ys, h, ?_⟩
  rw [List.map_set]
  have e : (ks.map Kr.xs)[i]'(by rw [List.length_map]; exact hi) = ks[i].xs := by rw [List.getElem_map]
  show (ks.map Kr.xs).set i ks[i].xs = _
  rw [← e, List.set_getElem_self]
/-- []byte(s). -/
theorem bytes_conv (w : World) (XS : List Int) (hb : Byt XS) : ∃ cb wb, (convert 9 45 (.string (strOfNums XS))).run Tryd.prog w = .ok (.slice (some ⟨w.heap.size, 0, none⟩) XS.length cb) wb ∧ Below w.heap.size w wb ∧ CellsAt wb (some ⟨w.heap.size, 0, none⟩) (bvs XS) := by
  have h := run_bytes_of_string (P := Tryd.prog) w 9 45 5 (strOfNums XS) Tryd.underlying9 Tryd.underlying45 Tryd.underlying5
  rw [strOf_size] at h
  refine ⟨_, _, h, (Below.refl _ _).drew.alloc (Nat.le_refl _) _, fun j hj => ⟨_, rfl, by show w.heap.size < (w.heap.push _).size; simp, ?_⟩⟩
  have hn : (w.drew.alloc (.cells (bytesRow (strOfNums XS) (grownCap w XS.length 0 5)) 5 ((bytesRow (strOfNums XS) (grownCap w XS.length 0 5)).size, (bytesRow (strOfNums XS) (grownCap w XS.length 0 5)).size + 1))).heap[w.heap.size]? = some (.cells (bytesRow (strOfNums XS) (grownCap w XS.length 0 5)) 5 ((bytesRow (strOfNums XS) (grownCap w XS.length 0 5)).size, (bytesRow (strOfNums XS) (grownCap w XS.length 0 5)).size + 1)) := heap_alloc_new w.drew _
  have hc := cell_of_row _ w.heap.size j _ 5 _ hn
  have e : Addr.add ⟨w.heap.size, 0, none⟩ j = ⟨w.heap.size, j, none⟩ := by cases j <;> simp [Addr.add]
  rw [e, hc]
  have hj2 : j < (strOfNums XS).data.size := by
    show j < (strOfNums XS).size
    rw [strOf_size]
    rwa [bvs_len] at hj
  rw [bytesRow_at _ _ _ hj2]
  have h1 := strB_strOfNums hb
  have h2 : (bvs (strB (strOfNums XS)))[j]? = some (.int .u8 ((strOfNums XS).data[j].toNat : Int)) := by
    unfold bvs strB
    rw [List.map_map, List.getElem?_map, Array.getElem?_toList, Array.getElem?_eq_getElem hj2]
    rfl
  rw [h1, List.getElem?_eq_getElem hj] at h2
  exact h2.symm
theorem eqlNil1 (w : World) : (binOp .eql 54 .nilIface .nilIface).run Tryd.prog w = .ok (.bool true) w := by go_simp
theorem eqlNil2 (g : Nat) (w : World) : (binOp .eql 54 (errV g) .nilIface).run Tryd.prog w = .ok (.bool false) w := by go_simp
theorem eqGuardNil (o : Operand) (c : Value) (w : World) : (eqGuard .eql 54 o (.const .nilIface) c .nilIface).run Tryd.prog w = .ok () w := by
  unfold eqGuard
  go_simp
  cases c <;> go_simp
/-- What Decode tells, in one form. -/
theorem DecQ.one {W w' : World} {y : Rq × Option (Int × Int)} {e : Ending} (h : DecQ W y e w') : ∃ (A : Option Addr) (c : Nat) (r : Rq) (ev : Value), (r = if y.2.isNone then y.1 else rq0) ∧ e = .returned (.tuple #[.agg (rqC (.slice A r.cs.length c) r), ev]) ∧ CellsOwn w' W.heap.size (.slice A r.cs.length c) r.cs ∧ (∀ w, (binOp .eql 54 ev .nilIface).run Tryd.prog w = .ok (.bool y.2.isNone) w) ∧ ev.oneCell' = true ∧ Below W.heap.size W w' := by
  obtain ⟨hb, h⟩ := h
  rcases hd : y.2 with _ | ⟨c, p⟩
  · rw [hd] at h
    obtain ⟨v, h1, h2⟩ := h
    obtain ⟨A, c, rfl⟩ := own_form3 h2
    exact ⟨A, c, y.1, _, rfl, h1, h2, eqlNil1, rfl, hb⟩
  · rw [hd] at h
    obtain ⟨g, h1, h2⟩ := h
    exact ⟨none, 0, rq0, _, rfl, h1, World.ownsRow_nil _ _ _ _, eqlNil2 g, rfl, hb⟩
theorem DesQ.one {W w' : World} {y : Rs × Option (Int × Int)} {e : Ending} (h : DesQ W y e w') : ∃ (A : Option Addr) (c : Nat) (r : Rs) (ev : Value), (r = if y.2.isNone then y.1 else rs0) ∧ e = .returned (.tuple #[.agg (rsC (.slice A r.rows.length c) r), ev]) ∧ RowsOwn w' W.heap.size (.slice A r.rows.length c) r.rows ∧ (∀ w, (binOp .eql 54 ev .nilIface).run Tryd.prog w = .ok (.bool y.2.isNone) w) ∧ ev.oneCell' = true ∧ Below W.heap.size W w' := by
  obtain ⟨hb, h⟩ := h
  rcases hd : y.2 with _ | ⟨c, p⟩
  · rw [hd] at h
    obtain ⟨v, h1, h2⟩ := h
    obtain ⟨A, c, rfl⟩ := own_form3 h2
    exact ⟨A, c, y.1, _, rfl, h1, h2, eqlNil1, rfl, hb⟩
  · rw [hd] at h
    obtain ⟨g, h1, h2⟩ := h
    exact ⟨none, 0, rs0, _, rfl, h1, World.ownsRow_nil _ _ _ _, eqlNil2 g, rfl, hb⟩
theorem cellsKept {W W1 : World} {B : Nat} {v : Value} {cs : List CellV} (h : CellsOwn W B v cs) (hb : Below W.heap.size W W1) : CellsOwn W1 B v cs := ownsRow_tur h (Tur.of_below (S := fun _ => False) hb) (fun _ _ h => h)
theorem rowsKept {W W1 : World} {B : Nat} {v : Value} {cs : List RowV} (h : RowsOwn W B v cs) (hb : Below W.heap.size W W1) : RowsOwn W1 B v cs := ownsRow_tur h (Tur.of_below (S := fun _ => False) hb) (fun _ _ h => h)
theorem ownRd {W : World} {B : Nat} {A : Option Addr} {n c : Nat} {cs : List CellV} (h : CellsOwn W B (.slice A n c) cs) : CellsRd W A cs ∧ n ≤ 9223372036854775807 := by
  obtain ⟨A', c', e, hr, _⟩ := CellsOwn.rd h
  injection e with e1 e2 e3
  subst e1
  refine ⟨hr, ?_⟩
  have := CellsOwn.le h
  omega
theorem ownRdS {W : World} {B : Nat} {A : Option Addr} {n c : Nat} {cs : List RowV} (h : RowsOwn W B (.slice A n c) cs) : RowsRd W A cs ∧ n ≤ 9223372036854775807 := by
  obtain ⟨A', c', e, hr, _⟩ := RowsOwn.rd h
  injection e with e1 e2 e3
  subst e1
  refine ⟨hr, ?_⟩
  have := RowsOwn.le h
  omega
theorem OwG.room3 {W : World} {B sz n g c : Nat} {ys : List Value} (h : OwG W B sz (.slice (some ⟨g, 0, none⟩) n c) n ys) (_hs : 0 < sz) (j : Nat) (hj : j < n) : ∀ i, i < sz → (W.cell? ⟨g, j * sz + i, none⟩).isSome = true ∧ W.frozen? ⟨g, j * sz + i, none⟩ = false := fun i hi => by
  rcases h with ⟨h0, _, _⟩ | ⟨g', c', hf⟩
  · cases h0
  · have e := hf.val
    injection e with e1 _ e3
    injection e1 with e1
    injection e1 with e1
    subst e1
    refine hf.room _ ?_
    have := Nat.mul_le_mul_right sz (show j + 1 ≤ c' by have := hf.fits; omega)
    rw [Nat.add_mul] at this
    omega
theorem OwG.setE {W : World} {B sz n g c : Nat} {ys : List Value} (h : OwG W B sz (.slice (some ⟨g, 0, none⟩) n c) n ys) (j : Nat) (hj : j < n) (us : List Value) (hu : us.length = sz) : OwG (W.setCells g (j * sz) us) B sz (.slice (some ⟨g, 0, none⟩) n c) n (putL ys (j * sz) us) := by
  rcases h with ⟨h0, _, _⟩ | ⟨g', c', hf⟩
  · cases h0
  · have e := hf.val
    injection e with e1 _ e3
    injection e1 with e1
    injection e1 with e1
    subst e1
    refine .inr ⟨g, c', OwGForm.setL us _ _ _ hf ?_⟩
    have := Nat.mul_le_mul_right sz (show j + 1 ≤ n from hj)
    rw [Nat.add_mul] at this
    omega
theorem bytSet {xs : List Int} (h : Byt xs) (k : Nat) {u : Int} (hu : 0 ≤ u ∧ u < 256) : Byt (xs.set k u) := fun x hx => by
  rcases List.mem_or_eq_of_mem_set hx with e | e
  · exact h x e
  · exact e ▸ hu
def mkO (i _k : Nat) : List Value := [.int .u8 (100 + (i : Int))]
abbrev pgK (k : Kr) : Pg := ⟨k.v, k.v, k.n, k.n, bvs k.ys, bvs k.ys⟩
theorem OwnS.gri {lo nk cK cS : Nat} {AK AS : Option Addr} {ks : List Kr} {w wr : World} (h : OwnS lo nk cK cS AK AS ks w wr) : GrI lo 1 nk (.slice AK nk cK) (.slice AS nk cS) nk (ks.map krS) (ks.map Kr.v) (ks.map pgK) wr wr (PhA 1 mkO 0 0) := by
  have e1 : (ks.map pgK).map Pg.v = ks.map Kr.v := by rw [List.map_map]; rfl
  refine GrI.start2 ?_ (fun p hp => ?_) (by rw [List.length_map]; exact h.len) e1 h.lo_ (fun j hj => ?_)
  · have e2 : (ks.map pgK).map (fun p => rG lo 1 p.v p.n p.ys) = ks.map (rK lo) := by rw [List.map_map]; rfl
    rw [e2]
    exact h.sep
  · obtain ⟨k, _, rfl⟩ := List.mem_map.1 hp
    exact ⟨rfl, rfl, rfl⟩
  · rw [List.getElem_map]
    rw [List.length_map] at hj
    have hm := List.getElem_mem hj
    obtain ⟨_, o2, o3⟩ := h.ok _ hm
    exact ⟨by show ks[j].n ≤ 1000000; omega, by show (bvs ks[j].ys).length = ks[j].n * 1; rw [bvs_len]; omega, rfl, rfl, rfl, fun t ht ho => by omega⟩
def LA (eb es : List Int) : Nat → List (List Int)
  | 0 => []
  | k + 1 => LA eb es k ++ [eb, es]
theorem la_two {eb es : List Int} {ks : List Kr} (h : ks.map Kr.xs = LA eb es 2) : ∃ hl : ks.length = 4, (ks[0]'(by omega)).xs = eb ∧ (ks[1]'(by omega)).xs = es ∧ (ks[2]'(by omega)).xs = eb ∧ (ks[3]'(by omega)).xs = es := by
  have h : ks.map Kr.xs = [eb, es, eb, es] := h
  rcases ks with _ | ⟨r0, _ | ⟨r1, _ | ⟨r2, _ | ⟨r3, _ | ⟨r4, l⟩⟩⟩⟩⟩
  all_goals simp at h
  obtain ⟨h0, h1, h2, h3⟩ := h
  exact ⟨rfl, h0, h1, h2, h3⟩
set_option maxHeartbeats 32000000 in
set_option maxRecDepth 100000 in
theorem law_own (CK : KnownOk) (A C : Option Addr) (n c k c2 : Nat) (q : Rq) (r : Rs) (at_ by_ : Int) (W : World) (hT : W.cell? ⟨0, 0, none⟩ = some tyErr) (hq : RqA W A n q) (hr : RsA W C k r) (hby : 0 ≤ by_ ∧ by_ < 256) :
    Calls Tryd.prog 8 #[.agg (rqC (.slice A n c) q), .agg (rsC (.slice C k c2) r), .int .i64 at_, .int .u8 by_] W fun e w' => e = .returned (.bool true) ∧ Below W.heap.size W w' := by
  have HBX := Lib.hid (box2 W 26 32 (rqC (.slice A n c) q) (rsC (.slice C k c2) r))
  have HT := Lib.hid (fun (W9 : World) (h : Below W.heap.size W W9) => (h.cell (p := ⟨0, 0, none⟩) (World.block_lt_of_cell? W _ hT)).trans hT)
  have HQ := Lib.hid hq
  have HR := Lib.hid hr
  have HBY := Lib.hid hby
  have CK := Lib.hid CK
  clear hT hq hr hby
  go_enter Tryd.func8, Tryd.ntmps8
  go_wp2_with fail
  generalize ((W.alloc (.cells (rqC (.slice A n c) q) 26)).alloc (.cells (rsC (.slice C k c2) r) 32)) = W0 at *
  obtain ⟨k1, k2, hb0⟩ := HBX.out
  have K1 := Lib.hid k1
  have K2 := Lib.hid k2
  have B0 := Lib.hid hb0
  have HQ0 := Lib.hid (HQ.out.below hb0)
  have HR0 := Lib.hid (HR.out.below hb0)
  clear k1 k2 hb0 HBX HQ HR
  go_at_call 10; (with_reducible refine (CK.out _ (HT.out _ B0.out)).mono ?_); rintro e w1 ⟨rfl, hb1⟩
  have B1 := Lib.hid (below_step B0.out hb1 (Nat.le_refl _))
  have K1 := Lib.hid (K1.out.kept hb1)
  have K2 := Lib.hid (K2.out.kept hb1)
  have HQ1 := Lib.hid (HQ0.out.below hb1)
  have HR1 := Lib.hid (HR0.out.below hb1)
  clear hb1 HQ0 HR0 B0
  have HBE := Lib.hid (show (encB q).length ≤ 100000 ∧ (encS r).length ≤ 100000 by
    refine ⟨?_, ?_⟩
    · by_cases h : checkRq q = 0
      · have := encB_two h; omega
      · unfold encB; rw [if_neg h]; simp
    · by_cases h : checkRs r = 0
      · have := encS_two h HR1.out.rows; omega
      · unfold encS; rw [if_neg h]; simp)
  have HBB := Lib.hid (encB_byt q)
  have HBS := Lib.hid (encS_byt r)
  have CQ := Lib.hid (fun (W9 : World) (h : Below w1.heap.size w1 W9) => enc_rq (HQ1.out.below h) c)
  have CS := Lib.hid (fun (W9 : World) (h : Below w1.heap.size w1 W9) => enc_rs (HR1.out.below h) c2)
  have KQ := Lib.hid (fun (W9 : World) (h : Below w1.heap.size w1 W9) => (K1.out.kept h).cell)
  have KS := Lib.hid (fun (W9 : World) (h : Below w1.heap.size w1 W9) => (K2.out.kept h).cell)
  clear K1 K2 HQ1 HR1
  generalize hEB : encB q = EB at *
  generalize hES : encS r = ES at *
  clear hEB hES
  go_wp2
  go_loopw [9, 10, 11] (fun t9 t10 t11 wr => ∃ (i cK cS : Nat) (AK AS : Option Addr), t11 = .int .i64 (i : Int) ∧ i ≤ 2 ∧ t9 = .slice AK (2 * i) cK ∧ t10 = .slice AS (2 * i) cS ∧ Hid (∃ ks, OwnS w1.heap.size (2 * i) cK cS AK AS ks w1 wr ∧ ks.map Kr.xs = LA EB ES i ∧ ∀ k ∈ ks, k.ys = k.xs)) (fun _ _ t11 _ => 2 - (intOf t11).toNat)
  case atStart => exact ⟨0, 0, 0, none, none, rfl, by omega, rfl, rfl, Lib.hid ⟨[], ⟨(((Sep.nil _ _).free (R := rG _ 1 (.slice none 0 0) 0 []) (OwG.nil _ _ _) rfl).free (R := rG _ 1 (.slice none 0 0) 0 []) (OwG.nil _ _ _) rfl), rfl, (fun _ h => by cases h), Below.refl _ _, Nat.le_refl _⟩, rfl, fun _ h => by cases h⟩⟩
  case round =>
    obtain ⟨i, cK, cS, AK, AS, rfl, hi, rfl, rfl, HP0⟩ := hrel
    rename World => wr
    by_cases hi2 : i < 2
    · obtain ⟨ks, hP, hxs, hys⟩ := HP0.out
      have HP := Lib.hid hP
      have HX := Lib.hid hxs
      have HY := Lib.hid hys
      have BR := Lib.hid hP.below
      have hcq : ∀ j, wr.cell? ⟨W.heap.size, j, none⟩ = (rqC (.slice A n c) q)[j]? := KQ.out _ hP.below
      clear HP0 hP hxs hys
      go_wp2_with fail
      go_at_call 23; (with_reducible refine (CQ.out _ BR.out).mono ?_); rintro e w2 ⟨Aa, rfl, hra, hb2⟩
      have B2 := Lib.hid (below_step BR.out hb2 (Nat.le_refl _))
      have RA := Lib.hid hra
      have HB2 := Lib.hid hb2
      have hcr : ∀ j, w2.cell? ⟨W.heap.size + 1, j, none⟩ = (rsC (.slice C k c2) r)[j]? := KS.out _ B2.out
      clear hra hb2 hcq
      go_wp2_with fail
      go_at_call 24; (with_reducible refine (CS.out _ B2.out).mono ?_); rintro e w3 ⟨Ab, rfl, hrb, hb3⟩
      have B3 := Lib.hid (below_step B2.out hb3 (Nat.le_refl _))
      have RB := Lib.hid hrb
      have HB3 := Lib.hid hb3
      clear hrb hb3 hcr
      obtain ⟨iK, hiK, hK0, hK1, hK2⟩ := info_parts infoSlB0
      obtain ⟨iS, hiS, hS0, hS1, hS2⟩ := info_parts infoStr0
      obtain ⟨ra, hra⟩ : ∃ ra : Kr, ra = ⟨Aa, EB.length, EB.length, EB, EB⟩ := ⟨_, rfl⟩
      obtain ⟨rb, hrb⟩ : ∃ rb : Kr, rb = ⟨Ab, ES.length, ES.length, ES, ES⟩ := ⟨_, rfl⟩
      have HRA := Lib.hid hra
      have HRB := Lib.hid hrb
      have b31 : Below w3.heap.size w3 (w3.alloc (.cells #[.slice Aa EB.length EB.length, .slice Ab ES.length ES.length] 45)) := (Below.refl _ _).alloc (Nat.le_refl _) _
      have HB31 := Lib.hid b31
      have hcl := HP.out.len
      have HOK := Lib.hid (show OwG (w3.alloc (.cells #[.slice Aa EB.length EB.length, .slice Ab ES.length ES.length] 45)) w1.heap.size 1 (.slice AK (2 * i) cK) (2 * i) (ks.map Kr.v) from ((HP.out.rowK.below HB2.out).below HB3.out).below b31)
      have HCK := Lib.hid (show CellsAt (w3.alloc (.cells #[.slice Aa EB.length EB.length, .slice Ab ES.length ES.length] 45)) (some ⟨w3.heap.size, 0, none⟩) [.slice Aa EB.length EB.length, .slice Ab ES.length ES.length] from alloc_cells w3 _ [_, _])
      have HLO := Lib.hid (show w1.heap.size ≤ (w3.alloc (.cells #[.slice Aa EB.length EB.length, .slice Ab ES.length ES.length] 45)).heap.size from Nat.le_trans B3.out.size b31.size)
      clear hra hrb b31 hcl
      go_wp2_with (first
        | (at_builtin; refine wpList_append_keepG rfl _ _ _ rfl _ iK _ 1 24 Tryd.underlying61 hiK hK0 hK1 hK2 rfl (by decide) w1.heap.size (.slice AK (2 * i) cK) (2 * i) (ks.map Kr.v) rfl HOK.out ⟨w3.heap.size, 0, none⟩ 2 2 [.slice Aa EB.length EB.length, .slice Ab ES.length ES.length] rfl rfl HCK.out (one1 rfl rfl) (by unfold maxLen; omega) (by omega) HLO.out ?_
           intro v4 w4 hold hnew hg hv
           obtain ⟨A4, c4, hv4, _⟩ := hnew.form
           subst hv4
           have T1 := Lib.hid (HP.out.two1 (a := ra) (b := rb) HB2.out (by rw [HRA.out]; exact RA.out.owg) HB3.out (by rw [HRB.out]; exact RB.out.owg) HB31.out (by rw [HRA.out, HRB.out]; exact hnew) hg (grown_kind hv))
           have HS5 := Lib.hid (show OwG (w4.alloc (.cells #[.string (strOfNums EB), .string (strOfNums ES)] 9)) w1.heap.size 1 (.slice AS (2 * i) cS) (2 * i) (ks.map krS) from (show OwG w4 w1.heap.size 1 (.slice AS (2 * i) cS) (2 * i) (ks.map krS) from T1.out.1.at 0 (by simp)).below ((Below.refl _ _).alloc (Nat.le_refl _) _))
           have HC5 := Lib.hid (show CellsAt (w4.alloc (.cells #[.string (strOfNums EB), .string (strOfNums ES)] 9)) (some ⟨w4.heap.size, 0, none⟩) [.string (strOfNums EB), .string (strOfNums ES)] from alloc_cells w4 _ [_, _])
           have HL5 := Lib.hid (show w1.heap.size ≤ (w4.alloc (.cells #[.string (strOfNums EB), .string (strOfNums ES)] 9)).heap.size from Nat.le_trans (Nat.le_trans HLO.out hg.size) ((Below.refl w4.heap.size w4).alloc (Nat.le_refl _) _).size)
           have oa : OwG w4 w1.heap.size 1 ra.v ra.n (bvs ra.ys) := T1.out.1.ok (R := rK w1.heap.size ra) (by simp)
           have ob : OwG w4 w1.heap.size 1 rb.v rb.n (bvs rb.ys) := T1.out.1.ok (R := rK w1.heap.size rb) (by simp)
           rw [HRA.out] at oa
           rw [HRB.out] at ob
           have cv1 := conv_cells (oa.at rfl) rfl EB.length
           have cv2 := conv_cells (ob.at rfl) rfl ES.length
           clear hold hnew hg hv oa ob)
        | (at_builtin; refine wpList_append_keepG rfl _ _ _ rfl _ iS _ 1 16 Tryd.underlying62 hiS hS0 hS1 hS2 rfl (by decide) w1.heap.size (.slice AS (2 * i) cS) (2 * i) (ks.map krS) rfl HS5.out ⟨w4.heap.size, 0, none⟩ 2 2 [.string (strOfNums EB), .string (strOfNums ES)] rfl rfl HC5.out (one1 rfl rfl) (by unfold maxLen; omega) (by omega) HL5.out ?_
           intro v6 w6 hold hnew hg hv
           obtain ⟨A6, c6, hv6, _⟩ := hnew.form
           subst hv6
           have T2 := Lib.hid (show OwnS w1.heap.size (2 * i + 2) c4 c6 A4 A6 (ks ++ [ra, rb]) w1 w6 from HP.out.two2 (a := ra) (b := rb) T1.out (by rw [HRA.out]; exact ⟨rfl, rfl, HBE.out.1⟩) (by rw [HRB.out]; exact ⟨rfl, rfl, HBE.out.2⟩) ((Below.refl w4.heap.size w4).alloc (Nat.le_refl _) (.cells #[.string (strOfNums EB), .string (strOfNums ES)] 9)) (by rw [HRA.out, HRB.out]; exact hnew) hg (grown_kind hv))
           clear hold hnew hg hv)
        | fail)
      go_roundw
      case rel => exact ⟨i + 1, c4, c6, A4, A6, by go_num, by omega, rfl, rfl, Lib.hid ⟨_, T2.out, by rw [List.map_append, HX.out, HRA.out, HRB.out]; rfl, fun k hk => by
        rcases List.mem_append.1 hk with e | e
        · exact HY.out k e
        · rcases List.mem_cons.1 e with e | e
          · rw [e, HRA.out]
          · rw [List.mem_singleton] at e; rw [e, HRB.out]⟩⟩
      case measure => simp [intOf]; omega
    · obtain rfl : i = 2 := by omega
      obtain ⟨ks, hP, hxs, hys⟩ := HP0.out
      obtain ⟨hl4, x0, x1, x2, x3⟩ := la_two hxs
      have HL4 := Lib.hid hl4
      have HX0 := Lib.hid x0
      have HX1 := Lib.hid x1
      have HX2 := Lib.hid x2
      have HX3 := Lib.hid x3
      have HYX := Lib.hid hys
      obtain ⟨gS, hgS, hsl, s0⟩ := hP.cellS 0 (by omega)
      obtain ⟨gS1, hgS1, _, s1⟩ := hP.cellS 1 (by omega)
      obtain ⟨gS2, hgS2, _, s2⟩ := hP.cellS 2 (by omega)
      obtain ⟨gS3, hgS3, _, s3⟩ := hP.cellS 3 (by omega)
      subst hgS
      injection hgS1 with e; injection e with e; subst e
      injection hgS2 with e; injection e with e; subst e
      injection hgS3 with e; injection e with e; subst e
      rw [show krS (ks[0]'(by omega)) = .string (strOfNums EB) by unfold krS; rw [x0]] at s0
      rw [show krS (ks[1]'(by omega)) = .string (strOfNums ES) by unfold krS; rw [x1]] at s1
      rw [show krS (ks[2]'(by omega)) = .string (strOfNums EB) by unfold krS; rw [x2]] at s2
      rw [show krS (ks[3]'(by omega)) = .string (strOfNums ES) by unfold krS; rw [x3]] at s3
      obtain ⟨gK, hgK, hy1, hy2⟩ := hP.cellK 0 (by omega)
      subst hgK
      clear hy1 hy2
      have HXS := Lib.hid (show ks.map Kr.xs = [EB, ES, EB, ES] from hxs)
      have HP := Lib.hid (show OwnS w1.heap.size 4 cK cS (some ⟨gK, 0, none⟩) (some ⟨gS, 0, none⟩) ks w1 wr from hP)
      clear HP0 hi2 hP hxs hys x0 x1 x2 x3 hl4 HX0 HX1 HX2 HX3 HL4 hi CQ CS KQ KS
      go_wp2
      refine wp_region_heldq (B := wr.heap.size) (w1 := wr) (by kernel_rfl) (by kernel_rfl) (Held.of (Below.refl _ _).drew (Nat.le_refl _)) ?_
      repeat
        (with_reducible refine wpQuiet_step (fun K hK => ?_))
        first
          | ((with_reducible refine ite_pos_ ?_ ?_); (focus (go_simp; done)); apply Exists.intro; refine ⟨fun wz hzC => ?_, hK _ ?_⟩; (have hz := HeldC.out hzC; clear hzC; unfold Oper.quietAt; go_simp; (first | done | ((have h0 := (hz.1 gS 0 hsl).trans s0); (have h1 := (hz.1 gS 1 hsl).trans s1); (have h2 := (hz.1 gS 2 hsl).trans s2); (have h3 := (hz.1 gS 3 hsl).trans s3); go_simp; (first | done | (with_reducible rfl))) | (with_reducible rfl))); clear hK K; (try simp only [Act.put, List.setIfInBounds_toArray, List.set_cons_zero, List.set_cons_succ]))
          | ((with_reducible refine ite_neg_ ?_ ?_); (focus (go_simp; done)); refine hK _ ?_; clear hK K; (try simp only [Act.put, List.setIfInBounds_toArray, List.set_cons_zero, List.set_cons_succ]))
      (with_reducible refine wpQuiet_nil ?_)
      intro wz hz
      have HP2 := Lib.hid (HP.out.kept hz.2.2.2)
      clear hz s0 s1 s2 s3 hsl HP
      go_wp2
      go_loopw [16] (fun t16 wr => ∃ i : Nat, t16 = .int .i64 (i : Int) ∧ i ≤ 4 ∧ Hid (∃ ks, OwnS w1.heap.size 4 cK cS (some ⟨gK, 0, none⟩) (some ⟨gS, 0, none⟩) ks w1 wr ∧ ks.map Kr.xs = [EB, ES, EB, ES] ∧ ∀ j (h : j < ks.length), i ≤ j → ks[j].ys = ks[j].xs)) (fun t16 _ => 4 - (intOf t16).toNat)
      case atStart => exact ⟨0, rfl, by omega, Lib.hid ⟨ks, HP2.out, HXS.out, fun j h _ => HYX.out _ (List.getElem_mem h)⟩⟩
      case round =>
        clear HP2 HXS HYX
        obtain ⟨i, rfl, hi, HP0⟩ := hrel
        rename World => wr
        by_cases hi4 : i < 4
        · obtain ⟨ks, hP, hxs, hys⟩ := HP0.out
          have hil : i < ks.length := by rw [hP.len]; exact hi4
          obtain ⟨gK', hgK', hkl, c0⟩ := hP.cellK i hi4
          injection hgK' with e; injection e with e; subst e
          obtain ⟨gS', hgS', hsl, d0⟩ := hP.cellS i hi4
          injection hgS' with e; injection e with e; subst e
          obtain ⟨o1, o2, o3⟩ := hP.ok _ (List.getElem_mem hil)
          have hyx := hys i hil (Nat.le_refl _)
          have HROW := Lib.hid (hP.row (List.getElem_mem hil))
          have HP := Lib.hid hP
          have HXS := Lib.hid hxs
          have HYS := Lib.hid hys
          have HIL := Lib.hid hil
          obtain ⟨kr, hkr⟩ : ∃ kr, kr = ks[i] := ⟨_, rfl⟩
          have HKR := Lib.hid (show ks[i]? = some kr by rw [hkr]; exact List.getElem?_eq_getElem hil)
          have c1 : wr.cell? ⟨gK, i, none⟩ = some kr.v := by rw [hkr]; exact c0
          have d1 : wr.cell? ⟨gS, i, none⟩ = some (krS kr) := by rw [hkr]; exact d0
          have p1 : kr.xs.length = kr.n := by rw [hkr]; exact o1
          have p3 : kr.n ≤ 100000 := by rw [hkr]; exact o3
          have pyx : kr.ys = kr.xs := by rw [hkr]; exact hyx
          have HROW0 := Lib.hid (show OwG wr w1.heap.size 1 kr.v kr.n (bvs kr.ys) by rw [hkr]; exact HROW.out)
          clear c0 d0 o1 o2 o3 hyx HROW HP0 hP hxs hys hkr hil
          have HROW := HROW0
          have c0 := c1
          have d0 := d1
          have o1 := p1
          have o3 := p3
          have hyx := pyx
          clear HROW0 c1 d1 p1 p3 pyx
          obtain ⟨kA, kn, kc, kx, ky⟩ := kr
          dsimp only at o1 o3 hyx HROW
          subst hyx
          have HO1 := Lib.hid o1
          have c0 : wr.cell? ⟨gK, i, none⟩ = some (.slice kA kn kc) := c0
          have d0 : wr.cell? ⟨gS, i, none⟩ = some (.string (strOfNums ky)) := d0
          have hcv : ∀ j c', (convert 45 9 (.slice kA kn c')).run Tryd.prog (wr.drewN j) = .ok (.string (strOfNums ky)) (wr.drewN j) := fun j c' => conv_cells ((HROW.out.at rfl).below (below_drewN (Below.refl _ _) j)) HO1.out c'
          clear o1
          go_wp2
          go_quiet (fail)
          have hbd : Below wr.heap.size wr (wr.drewN nq) := below_drewN (Below.refl _ _) _
          have HP2 := Lib.hid (HP.out.kept hbd)
          have HROW2 := Lib.hid (HROW.out.below hbd)
          have c1 := (hbd.cell (p := ⟨gK, i, none⟩) hkl).trans c0
          clear hbd c0 d0 hcv HP HROW hkl hsl
          generalize wr.drewN nq = w2 at *
          obtain ⟨i0, z0, hi0, hz0, hz1, hz2, hz3⟩ := infoU8_
          have hb3 : Below w2.heap.size w2 (w2.alloc (.cells #[.int .u8 1, .int .u8 2, .int .u8 3, .int .u8 4] 5)) := (Below.refl _ _).alloc (Nat.le_refl _) _
          have HB3 := Lib.hid hb3
          have HO3 := Lib.hid (HROW2.out.below hb3)
          have HC3 := Lib.hid (alloc_cells w2 5 [.int .u8 1, .int .u8 2, .int .u8 3, .int .u8 4])
          have HL3 := Lib.hid (Nat.le_trans HP2.out.lo_ hb3.size)
          clear hb3
          go_wp2_with (first
            | (at_builtin; refine wpList_append_keepG rfl _ _ _ rfl _ i0 z0 1 1 Tryd.underlying45 hi0 hz0 hz1 hz2 hz3 (by decide) w1.heap.size (.slice kA kn kc) kn (bvs ky) rfl HO3.out ⟨w2.heap.size, 0, none⟩ 4 4 [.int .u8 1, .int .u8 2, .int .u8 3, .int .u8 4] rfl rfl HC3.out (by intro u hu; simp only [List.mem_cons, List.not_mem_nil, or_false] at hu; rcases hu with rfl | rfl | rfl | rfl <;> rfl) (by unfold maxLen; omega) (by omega) HL3.out ?_
               intro v4 w4 hold hnew hg hv
               obtain ⟨A4, c4, hv4, _⟩ := hnew.form
               subst hv4
               have HG4 := Lib.hid (show Sep w1.heap.size w4 ((OwL w1.heap.size 4 cK cS (some ⟨gK, 0, none⟩) (some ⟨gS, 0, none⟩) ks).set (i + 2) (rAny2 w1.heap.size (.slice kA kn kc) (.slice A4 (kn + 4) c4) kn (kn + 4))) ∧ Below w1.heap.size w1 w4 from by
                 exact HP2.out.growK i HKR.out HB3.out (v' := .slice A4 (kn + 4) c4) (m := kn + 4) (zs := ky ++ [1, 2, 3, 4]) hold (by rw [bvs_append]; exact hnew) hg (grown_kind hv))
               have HL4 := Lib.hid (Nat.le_trans HL3.out hg.size)
               clear hold hnew hg hv)
            | fail)
          clear HO3 HC3 HL3 c1 HB3 HROW2
          go_loopw [18] (fun t18 wr => ∃ j : Nat, t18 = .int .i64 (j : Int) ∧ j ≤ kn + 4 ∧ Hid ((Sep w1.heap.size wr ((OwL w1.heap.size 4 cK cS (some ⟨gK, 0, none⟩) (some ⟨gS, 0, none⟩) ks).set (i + 2) (rAny2 w1.heap.size (.slice kA kn kc) (.slice A4 (kn + 4) c4) kn (kn + 4))) ∧ Below w1.heap.size w1 wr) ∧ w1.heap.size ≤ wr.heap.size)) (fun t18 _ => kn + 4 - (intOf t18).toNat)
          case atStart => exact ⟨0, rfl, Nat.zero_le _, Lib.hid ⟨HG4.out, HL4.out⟩⟩
          case round =>
            clear HG4 HL4
            obtain ⟨j, rfl, hj, HJ⟩ := hrel
            rename World => wy
            have hl2 : i + 2 < ((OwL w1.heap.size 4 cK cS (some ⟨gK, 0, none⟩) (some ⟨gS, 0, none⟩) ks).set (i + 2) (rAny2 w1.heap.size (.slice kA kn kc) (.slice A4 (kn + 4) c4) kn (kn + 4))).length := by rw [List.length_set, OwL.len]; have := HIL.out; omega
            by_cases hjn : j < kn + 4
            · have h0 := HJ.out.1.1.at (i + 2) hl2
              rw [List.getElem_set_self] at h0
              obtain ⟨g, c9, hv9, _, hrm⟩ := h0.2.room (by omega)
              injection hv9 with e1 _ e3
              subst e1
              subst e3
              obtain ⟨⟨u0, hu⟩, hf⟩ := hrm j hjn
              have HSET := Lib.hid (fun (x : Int) => show (Sep w1.heap.size (wy.setCell ⟨g, j, none⟩ (.int .u8 x)) ((OwL w1.heap.size 4 cK cS (some ⟨gK, 0, none⟩) (some ⟨gS, 0, none⟩) ks).set (i + 2) (rAny2 w1.heap.size (.slice kA kn kc) (.slice (some ⟨g, 0, none⟩) (kn + 4) c4) kn (kn + 4))) ∧ Below w1.heap.size w1 (wy.setCell ⟨g, j, none⟩ (.int .u8 x))) ∧ w1.heap.size ≤ (wy.setCell ⟨g, j, none⟩ (.int .u8 x)).heap.size from by
                have ht : Tur (· = g) wy (wy.setCell ⟨g, j, none⟩ (.int .u8 x)) := Tur.setCell (S := (· = g)) (p := ⟨g, j, none⟩) (Tur.refl _ _) (.inl rfl) _
                have hsub : ∀ k, k < wy.heap.size → k = g → k ∈ (((OwL w1.heap.size 4 cK cS (some ⟨gK, 0, none⟩) (some ⟨gS, 0, none⟩) ks).set (i + 2) (rAny2 w1.heap.size (.slice kA kn kc) (.slice (some ⟨g, 0, none⟩) (kn + 4) c4) kn (kn + 4)))[i + 2]'hl2).own := fun k _ e => by
                  rw [List.getElem_set_self, e]
                  exact List.mem_append_right _ (own_list.2 rfl)
                have h1 := HJ.out.1.1.turn (R' := rAny2 w1.heap.size (.slice kA kn kc) (.slice (some ⟨g, 0, none⟩) (kn + 4) c4) kn (kn + 4)) (i + 2) hl2 ht hsub HJ.out.2 ⟨h0.1.set x, h0.2.set x⟩ (fun k hk => by
                  rw [List.getElem_set_self]
                  exact ⟨.inl hk, Nat.lt_of_lt_of_le ((HJ.out.1.1.ltAt (i + 2) hl2 k (by rw [List.getElem_set_self]; exact hk)).2) ht.size⟩)
                rw [List.set_set] at h1
                exact ⟨⟨h1, HJ.out.1.2.trans (HJ.out.1.1.belowAt (i + 2) hl2 ht hsub HJ.out.2)⟩, Nat.le_trans HJ.out.2 ht.size⟩)
              clear h0 hrm hl2
              go_wp2
              go_roundw
              case rel => exact ⟨j + 1, by go_num, by omega, Lib.hid (HSET.out _)⟩
              case measure => simp [intOf]; omega
            · obtain ⟨ys, hB, hBX⟩ := OwnS.backK HP2.out.len HP2.out.ok i HKR.out HJ.out.1.1 HJ.out.1.2 HJ.out.2
              have HBX := Lib.hid hBX
              have HB := Lib.hid hB
              clear hB hBX hl2
              go_wp2
              go_roundw
              case rel => exact ⟨i + 1, by go_num, by omega, Lib.hid ⟨_, HB.out, by
                rw [HBX.out]
                exact HXS.out, fun t ht hit => by
                rw [List.length_set] at ht
                rw [List.getElem_set_ne (by omega)]
                exact HYS.out t ht (by omega)⟩⟩
              case measure => simp [intOf]; omega
        · obtain rfl : i = 4 := by omega
          obtain ⟨ks, hP, hxs, _⟩ := HP0.out
          have HP := Lib.hid hP
          have HXS := Lib.hid hxs
          clear HP0 hP hxs hi4 hi
          have HG := Lib.hid HP.out.gri
          have HBW := Lib.hid HP.out.below
          have HVB := Lib.hid (show ∀ j, vB (ks.map Kr.v) j → w1.heap.size ≤ j from fun j hj => by
            obtain ⟨v, hv, e⟩ := hj
            obtain ⟨k, hk, rfl⟩ := List.mem_map.1 hv
            exact ((HP.out.row hk).lt j e).1)
          have HSTR := Lib.hid (show (ks.map krS)[0]? = some (.string (strOfNums EB)) ∧ (ks.map krS)[1]? = some (.string (strOfNums ES)) by
            have h := HXS.out
            rcases ks with _ | ⟨r0, _ | ⟨r1, l⟩⟩
            · simp at h
            · simp at h
            · simp at h
              obtain ⟨h0, h1, _⟩ := h
              simp [krS, h0, h1])
          generalize ks.map Kr.v = vs at *
          generalize ks.map krS = strs at *
          obtain ⟨ps, hps⟩ : ∃ ps, ps = ks.map pgK := ⟨_, rfl⟩
          rw [← hps] at HG
          clear HP HXS hps
          rename World => w8
          go_wp2
          go_loopw [19] (fun t19 wr => ∃ i : Nat, t19 = .int .i64 (i : Int) ∧ i ≤ 4 ∧ Hid (∃ ps, GrI w1.heap.size 1 4 (.slice (some ⟨gK, 0, none⟩) 4 cK) (.slice (some ⟨gS, 0, none⟩) 4 cS) 4 strs vs ps w8 wr (PhA 1 mkO i 0))) (fun t19 _ => 4 - (intOf t19).toNat)
          case atStart => exact ⟨0, rfl, Nat.zero_le _, Lib.hid ⟨_, HG.out⟩⟩
          case round =>
            clear HG
            obtain ⟨i, rfl, hi, HP0⟩ := hrel
            rename World => wr
            by_cases hin : i < 4
            · obtain ⟨ps, hP⟩ := HP0.out
              have HP := Lib.hid hP
              clear HP0 hP
              go_wp2
              go_loopw [20] (fun t20 wr => ∃ k : Nat, t20 = .int .i64 (k : Int) ∧ Hid (∃ ps, GrI w1.heap.size 1 4 (.slice (some ⟨gK, 0, none⟩) 4 cK) (.slice (some ⟨gS, 0, none⟩) 4 cS) 4 strs vs ps w8 wr (PhA 1 mkO i k) ∧ ∃ h : i < ps.length, k ≤ ps[i].n)) (fun t20 _ => 1000000 - (intOf t20).toNat)
              case atStart => exact ⟨0, rfl, Lib.hid ⟨_, HP.out, by rw [HP.out.plen]; exact hin, Nat.zero_le _⟩⟩
              case round =>
                clear HP
                obtain ⟨k, rfl, HP0⟩ := hrel
                rename World => wr
                obtain ⟨ps, hP, hip, hkn⟩ := HP0.out
                have HP := Lib.hid hP
                obtain ⟨gk, ck2, hK, hgl, ck0⟩ := hP.cellK i hin
                injection hK with hK1 _ hK2
                injection hK1 with hK1
                injection hK1 with hK1
                subst hK1
                subst hK2
                obtain ⟨⟨Ai, ci, hvi⟩, _⟩ := hP.form i hip
                rw [hvi] at ck0
                have hn6 := (hP.phi i hip).1
                have hST := fun hk => hP.store (Φ' := PhA 1 mkO i (k + 1)) i hip k hk (mkO i k) rfl
                have HPH := Lib.hid (fun hk => (hP.phi i hip).put (us := mkO i k) rfl rfl hk)
                obtain ⟨n, hn⟩ : ∃ n, n = ps[i].n := ⟨_, rfl⟩
                have HNN := Lib.hid hn
                rw [← hn] at ck0 hn6 hST hvi hkn
                clear HP0 hP hn hgl
                by_cases hlt : k < n
                · obtain ⟨g, c2, hv2, hroom, hnew⟩ := hST hlt
                  rw [hvi] at hv2
                  injection hv2 with hv3 _ _
                  subst hv3
                  have HNEW := Lib.hid hnew
                  obtain ⟨u0, d0⟩ := Option.isSome_iff_exists.1 (hroom k (by omega)).1
                  have f0 := (hroom k (by omega)).2
                  have HFIN := HNEW.out wr (Below.refl _ _) (by rw [HNN.out]; exact HPH.out (by rw [← HNN.out]; exact hlt)) (fun j hj hne h => h.other hne _)
                  rw [Nat.mul_one] at HFIN
                  have HFIN := Lib.hid (show ∃ ps', GrI w1.heap.size 1 4 (.slice (some ⟨gK, 0, none⟩) 4 cK) (.slice (some ⟨gS, 0, none⟩) 4 cS) 4 strs vs ps' w8 (wr.setCells g k (mkO i k)) (PhA 1 mkO i (k + 1)) ∧ ∃ h : i < ps'.length, k + 1 ≤ ps'[i].n from
                    ⟨_, HFIN, by rw [List.length_set]; exact hip, by rw [List.getElem_set_self]; show k + 1 ≤ n; omega⟩)
                  clear hnew hroom hST
                  go_wp2
                  go_roundw
                  case rel => exact ⟨k + 1, by go_num, Lib.hid HFIN.out⟩
                  case measure => simp [intOf]; omega
                · clear hST
                  go_wp2
                  go_roundw
                  case rel => exact ⟨i + 1, by go_num, by omega, Lib.hid ⟨_, HP.out.weak (fun j hj h => h.next (fun e => by subst e; have := HNN.out; omega))⟩⟩
                  case measure => simp [intOf]; omega
            · obtain rfl : i = 4 := by omega
              obtain ⟨ps, hP⟩ := HP0.out
              have HP := Lib.hid hP
              clear HP0 hP hin hi
              go_wp2
              go_loopw [21] (fun t21 wr => ∃ i : Nat, t21 = .int .i64 (i : Int) ∧ i ≤ 4 ∧ Hid (GrI w1.heap.size 1 4 (.slice (some ⟨gK, 0, none⟩) 4 cK) (.slice (some ⟨gS, 0, none⟩) 4 cS) 4 strs vs ps w8 wr (PhA 1 mkO 4 0))) (fun t21 _ => 4 - (intOf t21).toNat)
              case atStart => exact ⟨0, rfl, Nat.zero_le _, HP⟩
              case round =>
                obtain ⟨i, rfl, hi, HPz⟩ := hrel
                rename World => wz
                clear HP
                by_cases hin : i < 4
                · go_wp2
                  go_loopw [22] (fun t22 wr => ∃ k : Nat, t22 = .int .i64 (k : Int) ∧ Hid (GrI w1.heap.size 1 4 (.slice (some ⟨gK, 0, none⟩) 4 cK) (.slice (some ⟨gS, 0, none⟩) 4 cS) 4 strs vs ps w8 wr (PhA 1 mkO 4 0)) ∧ Hid (∃ h : i < ps.length, k ≤ ps[i].n)) (fun t22 _ => 1000000 - (intOf t22).toNat)
                  case atStart => exact ⟨0, rfl, HPz, Lib.hid ⟨by rw [HPz.out.plen]; exact hin, Nat.zero_le _⟩⟩
                  case round =>
                    clear HPz
                    obtain ⟨k, rfl, HP, HKN⟩ := hrel
                    rename World => wr
                    obtain ⟨hip, hkn⟩ := HKN.out
                    have hP := HP.out
                    obtain ⟨gk, ck2, hK, hgl, ck0⟩ := hP.cellK i hin
                    injection hK with hK1 _ hK2
                    injection hK1 with hK1
                    injection hK1 with hK1
                    subst hK1
                    subst hK2
                    obtain ⟨⟨Ai, ci, hvi⟩, _⟩ := hP.form i hip
                    rw [hvi] at ck0
                    have HOW := Lib.hid (show OwG wr w1.heap.size 1 (.slice Ai ps[i].n ci) ps[i].n ps[i].ys by rw [← hvi]; exact (hP.pair i hip).1)
                    have HPH := Lib.hid (hP.phi i hip)
                    have hn6 : ps[i].n ≤ 1000000 := HPH.out.1
                    obtain ⟨n, hn⟩ : ∃ n, n = ps[i].n := ⟨_, rfl⟩
                    have HNN := Lib.hid hn
                    rw [← hn] at ck0 hn6 hkn HOW
                    clear hP hn hgl hvi HKN
                    by_cases hlt : k < n
                    · obtain ⟨g, c9, hv9, _⟩ := HOW.out.some_ (by omega)
                      injection hv9 with e1 _ e3
                      subst e1
                      subst e3
                      have b0 : wr.cell? ⟨g, k, none⟩ = some (.int .u8 (100 + (i : Int))) := (by have h := HOW.out.el rfl (HPH.out.2.2.2.2.2 k (by rw [← HNN.out]; exact hlt) (.inl hin)) (j := 0) (by decide) rfl; rwa [Nat.mul_one] at h)
                      go_wp2
                      go_roundw
                      case rel => exact ⟨k + 1, by go_num, HP, Lib.hid ⟨hip, by rw [← HNN.out]; omega⟩⟩
                      case measure => simp [intOf]; omega
                    · go_wp2
                      go_roundw
                      case rel => exact ⟨i + 1, by go_num, by omega, HP⟩
                      case measure => simp [intOf]; omega
                · obtain rfl : i = 4 := by omega
                  have HRS := Lib.hid (show OwG wz w1.heap.size 1 (.slice (some ⟨gS, 0, none⟩) 4 cS) 4 strs from HPz.out.more)
                  have HBZ := Lib.hid (show Below w1.heap.size w1 wz from HBW.out.trans (HPz.out.tur.below HBW.out.size HVB.out))
                  clear HPz HBW HVB
                  rename World => w9
                  go_wp2
                  go_loopw [23] (fun t23 wr => ∃ n : Nat, t23 = .int .i64 (n : Int) ∧ n ≤ 2 ∧ Hid (Below w9.heap.size w9 wr)) (fun t23 _ => 2 - (intOf t23).toNat)
                  case atStart => exact ⟨0, rfl, Nat.zero_le _, Lib.hid (Below.refl _ _)⟩
                  case round =>
                    obtain ⟨n, rfl, hn, HP⟩ := hrel
                    rename World => wr
                    by_cases hn2 : n < 2
                    · obtain ⟨XS, hxs1, hxs2, hxs3⟩ : ∃ XS : List Int, strs[n]? = some (.string (strOfNums XS)) ∧ XS.length ≤ 100000 ∧ Byt XS := by
                        obtain e | e : n = 0 ∨ n = 1 := by omega
                        · exact ⟨EB, by rw [e]; exact HSTR.out.1, HBE.out.1, HBB.out⟩
                        · exact ⟨ES, by rw [e]; exact HSTR.out.2, HBE.out.2, HBS.out⟩
                      have HXL := Lib.hid hxs2
                      have HXB := Lib.hid hxs3
                      have c0 : wr.cell? ⟨gS, n, none⟩ = some (.string (strOfNums XS)) := by
                        have h := HRS.out.below (HP.out)
                        have h2 := h.el rfl (t := n) (j := 0) (e := [.string (strOfNums XS)]) (fun c hc => by
                          obtain rfl : c = 0 := by omega
                          rw [Nat.mul_one]
                          exact hxs1) (by decide) rfl
                        rwa [Nat.mul_one] at h2
                      have hsz : (strOfNums XS).size = XS.length := strOf_size XS
                      clear hxs1 hxs2 hxs3
                      by_cases h0 : XS.length = 0
                      · rw [h0] at hsz
                        generalize strOfNums XS = SX at *
                        go_wp2
                        go_roundw
                        case rel => exact ⟨n + 1, by go_num, by omega, HP⟩
                        case measure => simp [intOf]; omega
                      · have hsz1 : ¬ (strOfNums XS).size = 0 := by omega
                        have hsz2 : (strOfNums XS).size ≤ 100000 := by rw [hsz]; exact HXL.out
                        have HSZ := Lib.hid hsz
                        obtain ⟨SX, hSX⟩ : ∃ SX, SX = strOfNums XS := ⟨_, rfl⟩
                        obtain ⟨cb, wb, hcv, hbb, hcb⟩ := bytes_conv wr XS HXB.out
                        rw [← hSX] at c0 hsz1 hsz2 hcv
                        have BB := Lib.hid (show Below w9.heap.size w9 wb from HP.out.trans (hbb.mono HP.out.size))
                        have HCB := Lib.hid hcb
                        clear hsz hSX hbb hcb HSZ
                        go_wp2_with fail
                        go_at_call 30; (with_reducible refine (lend_any (some ⟨wr.heap.size, 0, none⟩) XS.length cb XS wb rfl HCB.out (by have := HXL.out; omega)).mono ?_); rintro e wc ⟨g, cur, rfl, hg, hgb, hcu, hbc⟩
                        have BC := Lib.hid (show Below w9.heap.size w9 wc from BB.out.trans (hbc.mono BB.out.size))
                        have HG0 := Lib.hid (Nat.le_trans BB.out.size hg)
                        have HGB := Lib.hid hgb
                        have HCU := Lib.hid hcu
                        obtain ⟨nn, hnn⟩ : ∃ nn, nn = XS.length := ⟨_, rfl⟩
                        have HNN := Lib.hid hnn
                        have hnn0 : 0 < nn := by omega
                        have hnn9 : nn ≤ 100000 := by rw [hnn]; exact HXL.out
                        rw [← hnn]
                        obtain ⟨R, hR, CW⟩ := within_any at_ nn (by omega) (by omega)
                        have CW := Lib.hid CW
                        clear hg hgb hcu hbc hcv c0 HCB BB h0 hsz1 hsz2 hnn
                        go_wp2
                        go_loopw [25] (fun t25 wr => ∃ k : Nat, t25 = .int .i64 (k : Int) ∧ k ≤ 2 ∧ Hid (∃ cur xs, (Blk wr g 5 cur ∧ cur.toList = bvs (xs ++ List.replicate 37 169)) ∧ xs.length = nn ∧ Byt xs ∧ Below w9.heap.size w9 wr)) (fun t25 _ => 2 - (intOf t25).toNat)
                        case atStart => exact ⟨0, rfl, by omega, Lib.hid ⟨_, _, ⟨HGB.out, HCU.out⟩, HNN.out.symm, HXB.out, BC.out⟩⟩
                        case round =>
                          clear HGB HCU BC HXB HXL HNN HP
                          obtain ⟨k, rfl, hk, HP0⟩ := hrel
                          rename World => wr
                          by_cases hk2 : k < 2
                          · obtain ⟨cur, xs, ⟨hgb, hcu⟩, hxl, hxb, hbw⟩ := HP0.out
                            have HGB := Lib.hid hgb
                            have HCU := Lib.hid hcu
                            have HXL := Lib.hid hxl
                            have HXB := Lib.hid hxb
                            have BW := Lib.hid hbw
                            have BWS := Lib.hid hbw.size
                            have BT := Lib.hid (fun (W9 : World) (h : Below w9.heap.size w9 W9) => HT.out W9 (B1.out.trans ((HBZ.out.trans (h.mono HBZ.out.size)).mono B1.out.size)))
                            clear HP0 hgb hcu hxl hxb hbw
                            go_wp2_with fail
                            go_at_call 27; (with_reducible refine (decode_rq (some ⟨g, 0, none⟩) nn (nn + 37) xs wr HXL.out (cells_of_blk HGB.out HCU.out) (byt_wf HXB.out) (by omega) (BT.out _ BW.out)).mono ?_); rintro e w2 hq
                            obtain ⟨Ap, cp, pq, ep, hpq, rfl, op, hep, hep1, hb2⟩ := DecQ.one hq
                            have B2 := Lib.hid (show Below w9.heap.size w9 w2 from BW.out.trans (hb2.mono BW.out.size))
                            have bo2 := (Below.refl w2.heap.size w2).alloc (Nat.le_refl _) (.cells (rqC (.slice Ap pq.cs.length cp) pq) 26)
                            have B3 := Lib.hid (B2.out.trans (bo2.mono B2.out.size))
                            have HPQ := Lib.hid hpq
                            have LP := Lib.hid op.lt
                            have LG := Lib.hid HGB.out.lt
                            have KP3 := Lib.hid (Blk.new w2 26 (rqC (.slice Ap pq.cs.length cp) pq))
                            have OP3 := Lib.hid (cellsKept op bo2)
                            have G3 := Lib.hid ((HGB.out.kept hb2).kept bo2)
                            have L2 := Lib.hid hb2.size
                            clear hq hpq op hb2 bo2 B2 BW
                            go_wp2_with fail
                            generalize hkp : w2.heap.size = kp at *
                            generalize w2.alloc (.cells (rqC (.slice Ap pq.cs.length cp) pq) 26) = w3 at *
                            clear hkp
                            go_at_call 28; (with_reducible refine (decode_rs (some ⟨g, 0, none⟩) nn (nn + 37) xs w3 HXL.out (cells_of_blk G3.out HCU.out) (byt_wf HXB.out) (by omega) (BT.out _ B3.out)).mono ?_); rintro e w4 hq
                            obtain ⟨As, cs, ps2, es, hps, rfl, os, hes, hes1, hb4⟩ := DesQ.one hq
                            have B4 := Lib.hid (show Below w9.heap.size w9 w4 from B3.out.trans (hb4.mono B3.out.size))
                            have bo4 := (Below.refl w4.heap.size w4).alloc (Nat.le_refl _) (.cells (rsC (.slice As ps2.rows.length cs) ps2) 32)
                            have B5 := Lib.hid (B4.out.trans (bo4.mono B4.out.size))
                            have HPS := Lib.hid hps
                            have LS := Lib.hid os.lt
                            have L3 := Lib.hid KP3.out.lt
                            have KP5 := Lib.hid ((KP3.out.kept hb4).kept bo4)
                            have OP5 := Lib.hid (cellsKept (cellsKept OP3.out hb4) bo4)
                            have KS5 := Lib.hid (Blk.new w4 32 (rsC (.slice As ps2.rows.length cs) ps2))
                            have OS5 := Lib.hid (rowsKept os bo4)
                            have G5 := Lib.hid ((G3.out.kept hb4).kept bo4)
                            have L4 := Lib.hid (show kp < w4.heap.size from Nat.lt_of_lt_of_le KP3.out.lt hb4.size)
                            have L34 := Lib.hid hb4.size
                            clear hq hps os hb4 bo4 B3 B4 KP3 OP3 G3
                            go_wp2_with fail
                            generalize hks : w4.heap.size = ks9 at *
                            generalize w4.alloc (.cells (rsC (.slice As ps2.rows.length cs) ps2) 32) = w5 at *
                            clear hks
                            go_at_call 30; (with_reducible refine (lend_any (some ⟨g, 0, none⟩) nn (nn + 37) xs w5 HXL.out (cells_of_blk G5.out HCU.out) (by omega)).mono ?_); rintro e w6 ⟨g6, cur6, rfl, hg6, hgb6, hcu6, hb6⟩
                            have B6 := Lib.hid (show Below w9.heap.size w9 w6 from B5.out.trans (hb6.mono B5.out.size))
                            have KP6 := Lib.hid (KP5.out.kept hb6)
                            have OP6 := Lib.hid (cellsKept OP5.out hb6)
                            have KS6 := Lib.hid (KS5.out.kept hb6)
                            have OS6 := Lib.hid (rowsKept OS5.out hb6)
                            have G6 := Lib.hid (G5.out.kept hb6)
                            have H6 := Lib.hid hgb6
                            have HC6 := Lib.hid hcu6
                            clear hg6 hgb6 hcu6 hb6 B5 KP5 OP5 KS5 OS5 G5
                            go_wp2_with fail
                            go_at_call 27; (with_reducible refine (decode_rq (some ⟨g6, 0, none⟩) nn (nn + 37) xs w6 HXL.out (cells_of_blk H6.out HC6.out) (byt_wf HXB.out) (by omega) (BT.out _ B6.out)).mono ?_); rintro e w7 hq
                            obtain ⟨Ap2, cp2, pq2, ep2, hpq2, rfl, op2, hep2, hep3, hb7⟩ := DecQ.one hq
                            obtain rfl : pq2 = pq := hpq2.trans HPQ.out.symm
                            have B7 := Lib.hid (show Below w9.heap.size w9 w7 from B6.out.trans (hb7.mono B6.out.size))
                            have bo7 := (Below.refl w7.heap.size w7).alloc (Nat.le_refl _) (.cells (rqC (.slice Ap2 pq2.cs.length cp2) pq2) 26)
                            have B8 := Lib.hid (B7.out.trans (bo7.mono B7.out.size))
                            have KP8 := Lib.hid ((KP6.out.kept hb7).kept bo7)
                            have OP8 := Lib.hid (cellsKept (cellsKept OP6.out hb7) bo7)
                            have KS8 := Lib.hid ((KS6.out.kept hb7).kept bo7)
                            have OS8 := Lib.hid (rowsKept (rowsKept OS6.out hb7) bo7)
                            have G8 := Lib.hid ((G6.out.kept hb7).kept bo7)
                            have KQ8 := Lib.hid (Blk.new w7 26 (rqC (.slice Ap2 pq2.cs.length cp2) pq2))
                            have OQ8 := Lib.hid (cellsKept op2 bo7)
                            clear hq hpq2 op2 hb7 bo7 B6 B7 KP6 OP6 KS6 OS6 G6 H6 HC6
                            go_wp2_with fail
                            generalize hkq : w7.heap.size = kq at *
                            generalize w7.alloc (.cells (rqC (.slice Ap2 pq2.cs.length cp2) pq2) 26) = w8 at *
                            clear hkq
                            go_at_call 30; (with_reducible refine (lend_any (some ⟨g, 0, none⟩) nn (nn + 37) xs w8 HXL.out (cells_of_blk G8.out HCU.out) (by omega)).mono ?_); rintro e wa ⟨ga, cura, rfl, hga, hgba, hcua, hba⟩
                            have Ba := Lib.hid (show Below w9.heap.size w9 wa from B8.out.trans (hba.mono B8.out.size))
                            have KPa := Lib.hid (KP8.out.kept hba)
                            have OPa := Lib.hid (cellsKept OP8.out hba)
                            have KSa := Lib.hid (KS8.out.kept hba)
                            have OSa := Lib.hid (rowsKept OS8.out hba)
                            have Ga := Lib.hid (G8.out.kept hba)
                            have KQa := Lib.hid (KQ8.out.kept hba)
                            have OQa := Lib.hid (cellsKept OQ8.out hba)
                            have Ha := Lib.hid hgba
                            have HCa := Lib.hid hcua
                            clear hga hgba hcua hba B8 KP8 OP8 KS8 OS8 G8 KQ8 OQ8
                            go_wp2_with fail
                            go_at_call 28; (with_reducible refine (decode_rs (some ⟨ga, 0, none⟩) nn (nn + 37) xs wa HXL.out (cells_of_blk Ha.out HCa.out) (byt_wf HXB.out) (by omega) (BT.out _ Ba.out)).mono ?_); rintro e wb hq
                            obtain ⟨As2, cs2, ps3, es2, hps2, rfl, os2, hes2, hes3, hbb⟩ := DesQ.one hq
                            obtain rfl : ps3 = ps2 := hps2.trans HPS.out.symm
                            have Bb := Lib.hid (show Below w9.heap.size w9 wb from Ba.out.trans (hbb.mono Ba.out.size))
                            have bob := (Below.refl wb.heap.size wb).alloc (Nat.le_refl _) (.cells (rsC (.slice As2 ps3.rows.length cs2) ps3) 32)
                            have Bc := Lib.hid (Bb.out.trans (bob.mono Bb.out.size))
                            have KPc := Lib.hid ((KPa.out.kept hbb).kept bob)
                            have OPc := Lib.hid (cellsKept (cellsKept OPa.out hbb) bob)
                            have KSc := Lib.hid ((KSa.out.kept hbb).kept bob)
                            have OSc := Lib.hid (rowsKept (rowsKept OSa.out hbb) bob)
                            have Gc := Lib.hid ((Ga.out.kept hbb).kept bob)
                            have KQc := Lib.hid ((KQa.out.kept hbb).kept bob)
                            have OQc := Lib.hid (cellsKept (cellsKept OQa.out hbb) bob)
                            have KRc := Lib.hid (Blk.new wb 32 (rsC (.slice As2 ps3.rows.length cs2) ps3))
                            have ORc := Lib.hid (rowsKept os2 bob)
                            clear hq hps2 os2 hbb bob Ba Bb KPa OPa KSa OSa Ga KQa OQa Ha HCa
                            have CSQ := Lib.hid (fun (W9 : World) (h : Below _ _ W9) => show Calls Tryd.prog 15 #[.agg (rqC (.slice Ap pq2.cs.length cp) pq2), .agg (rqC (.slice Ap2 pq2.cs.length cp2) pq2)] W9 fun e w' => e = .returned (.bool true) ∧ Below W9.heap.size W9 w' from by
                              have h1 := ownRd (cellsKept OPc.out h)
                              have h2 := ownRd (cellsKept OQc.out h)
                              have := same_rq Ap Ap2 _ _ cp cp2 pq2 pq2 W9 rfl rfl h1.1 h2.1 h1.2 h2.2
                              rwa [same_self] at this)
                            have CSR := Lib.hid (fun (W9 : World) (h : Below _ _ W9) => show Calls Tryd.prog 17 #[.agg (rsC (.slice As ps3.rows.length cs) ps3), .agg (rsC (.slice As2 ps3.rows.length cs2) ps3)] W9 fun e w' => e = .returned (.bool true) ∧ Below W9.heap.size W9 w' from by
                              have h1 := ownRdS (rowsKept OSc.out h)
                              have h2 := ownRdS (rowsKept ORc.out h)
                              have := same_rs As As2 _ _ cs cs2 ps3 ps3 W9 rfl rfl h1.1 h2.1 h1.2 h2.2
                              rwa [same_selfS] at this)
                            have cp0 := KPc.out.cell
                            have cq0 := KQc.out.cell
                            have cr0 := KSc.out.cell
                            have cs0 := KRc.out.cell
                            have hkp := KPc.out.lt
                            have hkq := KQc.out.lt
                            have hks := KSc.out.lt
                            have hkr := KRc.out.lt
                            go_wp2
                            generalize hkr9 : wb.heap.size = kr9 at *
                            generalize wb.alloc (.cells (rsC (.slice As2 ps3.rows.length cs2) ps3) 32) = wc at *
                            clear hkr9
                            have hEG := eqGuardNil
                            generalize (decRq xs).2.isNone = bq at *
                            generalize (decRs xs).2.isNone = bs at *
                            refine wp_region_heldq (B := wc.heap.size) (w1 := wc) (by kernel_rfl) (by kernel_rfl) (Held.of (Below.refl _ _).drew (Nat.le_refl _)) ?_
                            repeat
                              (with_reducible refine wpQuiet_step (fun K hK => ?_))
                              first
                                | ((with_reducible refine ite_pos_ ?_ ?_); (focus (go_simp; done)); apply Exists.intro; refine ⟨fun wz hzC => ?_, hK _ ?_⟩; (have hz := HeldC.out hzC; clear hzC; unfold Oper.quietAt; go_simp; (first | done | (first | (go_at_call 15; (with_reducible refine (CSQ.out _ hz.2.2.2).mono ?_); rintro e w' ⟨rfl, hb⟩; exact ⟨rfl, HeldC.step hz hb⟩) | (go_at_call 17; (with_reducible refine (CSR.out _ hz.2.2.2).mono ?_); rintro e w' ⟨rfl, hb⟩; exact ⟨rfl, HeldC.step hz hb⟩) | ((have h0 := fun i => (hz.1 kp i hkp).trans (cp0 i)); (have h1 := fun i => (hz.1 kq i hkq).trans (cq0 i)); (have h2 := fun i => (hz.1 ks9 i hks).trans (cr0 i)); (have h3 := fun i => (hz.1 kr9 i hkr).trans (cs0 i)); go_simp; (first | done | (with_reducible rfl)))) | (with_reducible rfl))); clear hK K; (try simp only [Act.put, List.setIfInBounds_toArray, List.set_cons_zero, List.set_cons_succ]))
                                | ((with_reducible refine ite_neg_ ?_ ?_); (focus (go_simp; done)); refine hK _ ?_; clear hK K; (try simp only [Act.put, List.setIfInBounds_toArray, List.set_cons_zero, List.set_cons_succ]))
                            (with_reducible refine wpQuiet_nil ?_)
                            intro wz hz
                            have Bd := Lib.hid (show Below w9.heap.size w9 wz from Bc.out.trans (hz.2.2.2.mono Bc.out.size))
                            have KPd := Lib.hid (KPc.out.kept hz.2.2.2)
                            have OPd := Lib.hid (cellsKept OPc.out hz.2.2.2)
                            have KSd := Lib.hid (KSc.out.kept hz.2.2.2)
                            have OSd := Lib.hid (rowsKept OSc.out hz.2.2.2)
                            have Gd := Lib.hid (Gc.out.kept hz.2.2.2)
                            clear hz cp0 cq0 cr0 cs0 hkp hkq hks hkr CSQ CSR KPc OPc KSc OSc Gc KQc OQc KRc ORc Bc
                            rename World => wd
                            clear hEG
                            have O0 := Lib.hid (OwG.of OPd.out)
                            have P0 := Lib.hid (OwG.of OSd.out)
                            have HC9 := Lib.hid (ownRd OPd.out).2
                            have HR9 := Lib.hid (ownRdS OSd.out).2
                            clear OPd OSd
                            go_wp2
                            go_loopw [34] (fun t34 wy => ∃ j : Nat, t34 = .int .i64 (j : Int) ∧ j ≤ pq2.cs.length ∧ Hid ((∃ ys, OwG wy wr.heap.size 3 (.slice Ap pq2.cs.length cp) pq2.cs.length ys) ∧ Tur (fun b => (Value.slice Ap pq2.cs.length cp).ownBlock = some b) wd wy)) (fun t34 _ => pq2.cs.length - (intOf t34).toNat)
                            case atStart => exact ⟨0, rfl, Nat.zero_le _, Lib.hid ⟨⟨_, O0.out⟩, Tur.refl _ _⟩⟩
                            case round =>
                              clear O0
                              obtain ⟨j, rfl, hj, HJ⟩ := hrel
                              rename World => wy
                              have hc3 : wy.cell? ⟨kp, 3, none⟩ = some (.slice Ap pq2.cs.length cp) := (KPd.out.tur HJ.out.2 (fun e => by have := (LP.out kp e).2; omega)).cell 3
                              have hcs9 : pq2.cs.length ≤ 9223372036854775807 := HC9.out
                              by_cases hjn : j < pq2.cs.length
                              · obtain ⟨ys, hoy⟩ := HJ.out.1
                                obtain ⟨g7, c7, hv7, _⟩ := hoy.some_ (by omega)
                                injection hv7 with e1 _ e3
                                subst e1
                                subst e3
                                have hrm := hoy.room3 (by decide) j hjn
                                obtain ⟨u0, d0⟩ : ∃ u, wy.cell? ⟨g7, j * 3, none⟩ = some u := Option.isSome_iff_exists.1 (hrm 0 (by decide)).1
                                obtain ⟨u1, d1⟩ : ∃ u, wy.cell? ⟨g7, j * 3 + 1, none⟩ = some u := Option.isSome_iff_exists.1 (hrm 1 (by decide)).1
                                obtain ⟨u2, d2⟩ : ∃ u, wy.cell? ⟨g7, j * 3 + 2, none⟩ = some u := Option.isSome_iff_exists.1 (hrm 2 (by decide)).1
                                have f0 : wy.frozen? ⟨g7, j * 3, none⟩ = false := (hrm 0 (by decide)).2
                                have f1 : wy.frozen? ⟨g7, j * 3 + 1, none⟩ = false := (hrm 1 (by decide)).2
                                have f2 : wy.frozen? ⟨g7, j * 3 + 2, none⟩ = false := (hrm 2 (by decide)).2
                                have HN := Lib.hid (hoy.setE j hjn [.int .i64 0, .string ⟨#[120]⟩, .int .i64 0] rfl)
                                have HTN := Lib.hid (HJ.out.2.trans (Tur.of_grown (setCells_grown g7 [.int .i64 0, .string ⟨#[120]⟩, .int .i64 0] (j * 3) wy) (S := fun b => (Value.slice (some ⟨g7, 0, none⟩) pq2.cs.length cp).ownBlock = some b) (fun k e => by cases e; rfl)) (fun k e => .inl e))
                                clear hrm hoy
                                go_wp2
                                go_roundw
                                case rel => exact ⟨j + 1, by go_num, by omega, Lib.hid ⟨⟨_, HN.out⟩, HTN.out⟩⟩
                                case measure => simp [intOf]; omega
                              · have HT1 := Lib.hid HJ.out.2
                                have KSe := Lib.hid (KSd.out.tur HJ.out.2 (fun e => by have := (LP.out ks9 e).2; have := L4.out; omega))
                                have P1 := Lib.hid (P0.out.kept HJ.out.2 (fun b e1 e2 => by have h1 := (LP.out b e2).2; have h2 := (LS.out b e1).1; have := L3.out; omega))
                                have Ge := Lib.hid (Gd.out.tur HJ.out.2 (fun e => by have := (LP.out g e).1; have := LG.out; omega))
                                have Be := Lib.hid (show Below w9.heap.size w9 wy from Bd.out.trans (HJ.out.2.below Bd.out.size (fun b e => by have h1 := (LP.out b e).1; have := BWS.out; omega)))
                                clear HJ KPd KSd P0 Gd Bd
                                go_wp2
                                clear hc3
                                go_loopw [35] (fun t35 wz => ∃ j : Nat, t35 = .int .i64 (j : Int) ∧ j ≤ ps3.rows.length ∧ Hid ((∃ ys, OwG wz w3.heap.size 7 (.slice As ps3.rows.length cs) ps3.rows.length ys) ∧ Tur (fun b => (Value.slice As ps3.rows.length cs).ownBlock = some b) wy wz)) (fun t35 _ => ps3.rows.length - (intOf t35).toNat)
                                case atStart => exact ⟨0, rfl, Nat.zero_le _, Lib.hid ⟨⟨_, P1.out⟩, Tur.refl _ _⟩⟩
                                case round =>
                                  clear P1
                                  obtain ⟨j2, rfl, hj2, HJ⟩ := hrel
                                  rename World => wz
                                  have hc4 : wz.cell? ⟨ks9, 4, none⟩ = some (.slice As ps3.rows.length cs) := (KSe.out.tur HJ.out.2 (fun e => by have := (LS.out ks9 e).2; omega)).cell 4
                                  have hcr9 : ps3.rows.length ≤ 9223372036854775807 := HR9.out
                                  by_cases hjn2 : j2 < ps3.rows.length
                                  · obtain ⟨ys, hoy⟩ := HJ.out.1
                                    obtain ⟨g7, c7, hv7, _⟩ := hoy.some_ (by omega)
                                    injection hv7 with e1 _ e3
                                    subst e1
                                    subst e3
                                    have hrm := hoy.room3 (by decide) j2 hjn2
                                    obtain ⟨u0, d0⟩ : ∃ u, wz.cell? ⟨g7, j2 * 7, none⟩ = some u := Option.isSome_iff_exists.1 (hrm 0 (by decide)).1
                                    obtain ⟨u1, d1⟩ : ∃ u, wz.cell? ⟨g7, j2 * 7 + 1, none⟩ = some u := Option.isSome_iff_exists.1 (hrm 1 (by decide)).1
                                    obtain ⟨u2, d2⟩ : ∃ u, wz.cell? ⟨g7, j2 * 7 + 2, none⟩ = some u := Option.isSome_iff_exists.1 (hrm 2 (by decide)).1
                                    obtain ⟨u3, d3⟩ : ∃ u, wz.cell? ⟨g7, j2 * 7 + 3, none⟩ = some u := Option.isSome_iff_exists.1 (hrm 3 (by decide)).1
                                    obtain ⟨u4, d4⟩ : ∃ u, wz.cell? ⟨g7, j2 * 7 + 4, none⟩ = some u := Option.isSome_iff_exists.1 (hrm 4 (by decide)).1
                                    obtain ⟨u5, d5⟩ : ∃ u, wz.cell? ⟨g7, j2 * 7 + 5, none⟩ = some u := Option.isSome_iff_exists.1 (hrm 5 (by decide)).1
                                    obtain ⟨u6, d6⟩ : ∃ u, wz.cell? ⟨g7, j2 * 7 + 6, none⟩ = some u := Option.isSome_iff_exists.1 (hrm 6 (by decide)).1
                                    have f0 : wz.frozen? ⟨g7, j2 * 7, none⟩ = false := (hrm 0 (by decide)).2
                                    have f1 : wz.frozen? ⟨g7, j2 * 7 + 1, none⟩ = false := (hrm 1 (by decide)).2
                                    have f2 : wz.frozen? ⟨g7, j2 * 7 + 2, none⟩ = false := (hrm 2 (by decide)).2
                                    have f3 : wz.frozen? ⟨g7, j2 * 7 + 3, none⟩ = false := (hrm 3 (by decide)).2
                                    have f4 : wz.frozen? ⟨g7, j2 * 7 + 4, none⟩ = false := (hrm 4 (by decide)).2
                                    have f5 : wz.frozen? ⟨g7, j2 * 7 + 5, none⟩ = false := (hrm 5 (by decide)).2
                                    have f6 : wz.frozen? ⟨g7, j2 * 7 + 6, none⟩ = false := (hrm 6 (by decide)).2
                                    have HN := Lib.hid (hoy.setE j2 hjn2 [.int .i64 0, .string ⟨#[]⟩, .int .i64 0, .int .i64 0, .int .i64 0, .int .i64 0, .int .i64 0] rfl)
                                    have HTN := Lib.hid (HJ.out.2.trans (Tur.of_grown (setCells_grown g7 [.int .i64 0, .string ⟨#[]⟩, .int .i64 0, .int .i64 0, .int .i64 0, .int .i64 0, .int .i64 0] (j2 * 7) wz) (S := fun b => (Value.slice (some ⟨g7, 0, none⟩) ps3.rows.length cs).ownBlock = some b) (fun k e => by cases e; rfl)) (fun k e => .inl e))
                                    clear hrm hoy
                                    go_wp2
                                    go_roundw
                                    case rel => exact ⟨j2 + 1, by go_num, by omega, Lib.hid ⟨⟨_, HN.out⟩, HTN.out⟩⟩
                                    case measure => simp [intOf]; omega
                                  · have Gf := Lib.hid (Ge.out.tur HJ.out.2 (fun e => by have := (LS.out g e).1; have := LG.out; have := L2.out; have := L3.out; omega))
                                    have Bf := Lib.hid (show Below w9.heap.size w9 wz from Be.out.trans (HJ.out.2.below Be.out.size (fun b e => by have h1 := (LS.out b e).1; have := BWS.out; have := L2.out; have := L3.out; omega)))
                                    clear HJ KSe Ge Be
                                    obtain ⟨x0, hx0⟩ : ∃ x0, xs[R]? = some x0 := ⟨_, List.getElem?_eq_getElem (by rw [HXL.out]; exact hR)⟩
                                    have r0 : wz.cell? ⟨g, R, none⟩ = some (.int .u8 x0) := by
                                      rw [Gf.out.cell R, ← Array.getElem?_toList, HCU.out]
                                      unfold bvs
                                      rw [List.getElem?_map, List.getElem?_append_left (by rw [HXL.out]; exact hR), hx0]
                                      rfl
                                    have f0 : wz.frozen? ⟨g, R, none⟩ = false := Gf.out.frozen R
                                    clear hx0
                                    go_wp2_with (first
                                      | (go_at_call 31; (with_reducible refine (CW.out _).mono ?_); rintro e w' ⟨rfl, rfl⟩)
                                      | fail)
                                    go_roundw
                                    case rel => exact ⟨k + 1, by go_num, by omega, Lib.hid ⟨_, xs.set R ((x0 + by_) % 256), ⟨Gf.out.set_ R _, by
                                      rw [Array.toList_setIfInBounds, HCU.out]
                                      unfold bvs
                                      rw [← List.map_set, List.set_append_left _ _ (by rw [HXL.out]; exact hR)]⟩, by rw [List.length_set]; exact HXL.out, bytSet HXB.out R (by omega), Bf.out.setCell (by have := HG0.out; exact this) _⟩⟩
                                    case measure => simp [intOf]; omega
                          · go_wp2
                            go_roundw
                            case rel => ((repeat apply Exists.intro); exact ⟨⟨n + 1, by go_num, by omega, Lib.hid HP0.out.choose_spec.choose_spec.2.2.2⟩, rfl⟩)
                            case measure => simp [intOf]; omega
                    · go_wp2
                      go_ret
                      exact ⟨rfl, B1.out.trans ((HBZ.out.trans (HP.out.mono HBZ.out.size)).mono B1.out.size)⟩
end Go.Proofs.YteffpfgdoganpaaDoor
