/- CodecBook: laid; several answers in hand. -/
import Derived.Test.YteffpfgdoganpaaGreatDoorZRt
import Derived.Test.YteffpfgdoganpaaGreatDoorCGr
namespace Go.Proofs.YteffpfgdoganpaaGreatDoor
open Go.RowKit

abbrev pg (v : Value) (n : Nat) (ys : List Value) : Pg := ⟨v, v, n, n, ys, ys⟩
abbrev rS (lo sz : Nat) (p : Pg) : Rsc := rG lo sz p.v p.n p.ys
/-- Cells (rows), bytes of several answers, the rows of these. -/
structure BkS (lo sz nk cC cB : Nat) (AC AB : Option Addr) (cl bl : List Pg) (w wr : World) : Prop where
  sep : Sep lo wr (rG lo 1 (.slice AC nk cC) nk (cl.map Pg.v) :: rG lo 1 (.slice AB nk cB) nk (bl.map Pg.v) :: (cl.map (rS lo sz) ++ bl.map (rS lo 1)))
  clen : cl.length = nk
  blen : bl.length = nk
  one : ∀ p ∈ cl ++ bl, (p.w = p.v ∧ p.m = p.n ∧ p.zs = p.ys) ∧ p.n ≤ 1000000
  below : Below lo w wr
  lo_ : lo ≤ wr.heap.size
section
variable {lo sz nk cC cB cC2 cB2 : Nat} {AC AB AC2 AB2 : Option Addr} {cl bl : List Pg} {w wr w1 w2 w3 w4 w5 w6 : World} {v1 v2 : Value} {n1 n2 : Nat} {ys1 ys2 : List Value}
theorem BkS.kept (h : BkS lo sz nk cC cB AC AB cl bl w wr) (hb : Below wr.heap.size wr w1) : BkS lo sz nk cC cB AC AB cl bl w w1 :=
  ⟨h.sep.kept hb h.lo_, h.clen, h.blen, h.one, h.below.trans (hb.mono h.lo_), Nat.le_trans h.lo_ hb.size⟩
theorem BkS.rowC (h : BkS lo sz nk cC cB AC AB cl bl w wr) : OwG wr lo 1 (.slice AC nk cC) nk (cl.map Pg.v) := h.sep.at 0 (by simp)
theorem BkS.start (w : World) : BkS w.heap.size sz 0 0 0 none none [] [] w w :=
  ⟨((Sep.nil _ _).free (R := rG _ 1 (.slice none 0 0) 0 []) (OwG.nil _ _ _) rfl).free (R := rG _ 1 (.slice none 0 0) 0 []) (OwG.nil _ _ _) rfl, rfl, rfl, (fun _ h => by cases h), Below.refl _ _, Nat.le_refl _⟩
abbrev BkL (lo sz nk cB cC2 : Nat) (AB AC2 : Option Addr) (cl bl : List Pg) (p1 p2 : Pg) : List Rsc :=
  rG lo 1 (.slice AB nk cB) nk (bl.map Pg.v) :: rG lo 1 (.slice AC2 (nk + 1) cC2) (nk + 1) (cl.map Pg.v ++ [p1.v]) :: ((cl ++ [p1]).map (rS lo sz) ++ (bl ++ [p2]).map (rS lo 1))
/-- One more of each: the row of cells has grown. -/
theorem BkS.step1 (h : BkS lo sz nk cC cB AC AB cl bl w wr) (b1 : Below wr.heap.size wr w1) (o1 : OwG w1 wr.heap.size sz v1 n1 ys1) (b2 : Below w1.heap.size w1 w2) (o2 : OwG w2 w1.heap.size 1 v2 n2 ys2)
    (b3 : Below w2.heap.size w2 w3) (oC : OwG w4 lo 1 (.slice AC2 (nk + 1) cC2) (nk + 1) (cl.map Pg.v ++ [v1])) (gC : w3.grownBy w4 (Value.slice AC nk cC).ownBlock) (vC : ∀ x, (Value.slice AC2 (nk + 1) cC2).ownBlock = some x → (Value.slice AC nk cC).ownBlock = some x ∨ w3.heap.size ≤ x) :
    Sep lo w4 (BkL lo sz nk cB cC2 AB AC2 cl bl (pg v1 n1 ys1) (pg v2 n2 ys2)) ∧ Below lo wr w4 := by
  have s1 := h.sep.add (R' := rS lo sz (pg v1 n1 ys1)) b1 h.lo_ (o1.mono h.lo_) (fun k hk => o1.lt k (own_list.1 hk))
  have l1 := Nat.le_trans h.lo_ b1.size
  have s2 := s1.add (R' := rS lo 1 (pg v2 n2 ys2)) b2 l1 (o2.mono l1) (fun k hk => o2.lt k (own_list.1 hk))
  have l2 := Nat.le_trans l1 b2.size
  have p1 : (rS lo 1 (pg v2 n2 ys2) :: rS lo sz (pg v1 n1 ys1) :: rG lo 1 (.slice AC nk cC) nk (cl.map Pg.v) :: rG lo 1 (.slice AB nk cB) nk (bl.map Pg.v) :: (cl.map (rS lo sz) ++ bl.map (rS lo 1))).Perm
      (rG lo 1 (.slice AC nk cC) nk (cl.map Pg.v) :: rG lo 1 (.slice AB nk cB) nk (bl.map Pg.v) :: ((cl ++ [pg v1 n1 ys1]).map (rS lo sz) ++ (bl ++ [pg v2 n2 ys2]).map (rS lo 1))) := by
    rw [List.map_append, List.map_append]
    have e1 : ((cl.map (rS lo sz) ++ [rS lo sz (pg v1 n1 ys1)]) ++ (bl.map (rS lo 1) ++ [rS lo 1 (pg v2 n2 ys2)])).Perm (rS lo 1 (pg v2 n2 ys2) :: rS lo sz (pg v1 n1 ys1) :: (cl.map (rS lo sz) ++ bl.map (rS lo 1))) := by
      rw [← List.append_assoc]
      refine (List.perm_append_comm (l₂ := [rS lo 1 (pg v2 n2 ys2)])).trans (List.Perm.cons _ ?_)
      rw [List.append_assoc]
      exact List.perm_middle
    refine List.Perm.trans ?_ ((e1.symm.cons _).cons _)
    refine List.Perm.trans (List.Perm.cons _ (List.Perm.swap _ _ _)) ?_
    refine List.Perm.trans (List.Perm.swap _ _ _) (List.Perm.cons _ ?_)
    refine List.Perm.trans (List.Perm.cons _ (List.Perm.swap _ _ _)) ?_
    exact List.Perm.swap _ _ _
  obtain ⟨s3, c3⟩ := (s2.perm p1).growG b3 l2 oC gC vC
  exact ⟨s3.perm (List.Perm.swap _ _ _), ((b1.mono h.lo_).trans (b2.mono l1)).trans c3⟩
theorem BkS.step2 (h : BkS lo sz nk cC cB AC AB cl bl w wr) (ht : Sep lo w4 (BkL lo sz nk cB cC2 AB AC2 cl bl (pg v1 n1 ys1) (pg v2 n2 ys2)) ∧ Below lo wr w4) (hn1 : n1 ≤ 1000000) (hn2 : n2 ≤ 1000000)
    (b5 : Below w4.heap.size w4 w5) (oB : OwG w6 lo 1 (.slice AB2 (nk + 1) cB2) (nk + 1) (bl.map Pg.v ++ [v2])) (gB : w5.grownBy w6 (Value.slice AB nk cB).ownBlock) (vB_ : ∀ x, (Value.slice AB2 (nk + 1) cB2).ownBlock = some x → (Value.slice AB nk cB).ownBlock = some x ∨ w5.heap.size ≤ x) :
    BkS lo sz (nk + 1) cC2 cB2 AC2 AB2 (cl ++ [pg v1 n1 ys1]) (bl ++ [pg v2 n2 ys2]) w w6 := by
  have l3 : lo ≤ w4.heap.size := Nat.le_trans h.lo_ ht.2.size
  obtain ⟨s4, c4⟩ := ht.1.growG b5 l3 oB gB vB_
  refine ⟨?_, by rw [List.length_append, h.clen]; rfl, by rw [List.length_append, h.blen]; rfl, fun p hp => ?_, (h.below.trans ht.2).trans c4, Nat.le_trans l3 c4.size⟩
  · rw [List.map_append (f := Pg.v), List.map_append (f := Pg.v)]
    exact s4.perm (List.Perm.swap _ _ _)
  · rcases List.mem_append.1 hp with e | e
    · rcases List.mem_append.1 e with e | e
      · exact h.one p (List.mem_append_left _ e)
      · rw [List.mem_singleton] at e; subst e; exact ⟨⟨rfl, rfl, rfl⟩, hn1⟩
    · rcases List.mem_append.1 e with e | e
      · exact h.one p (List.mem_append_right _ e)
      · rw [List.mem_singleton] at e; subst e; exact ⟨⟨rfl, rfl, rfl⟩, hn2⟩
/-- The cells alone; what is left where these are written over. -/
theorem BkS.cells (h : BkS lo sz nk cC cB AC AB cl bl w wr) : Sep lo wr (rG lo 1 (.slice AC nk cC) nk (cl.map Pg.v) :: cl.map fun p => rG lo sz p.v p.n p.ys) :=
  h.sep.sub (List.Sublist.cons_cons _ ((List.sublist_append_left _ _).trans (List.sublist_cons_self _ _)))
theorem BkS.bytes (h : BkS lo sz nk cC cB AC AB cl bl w wr) (ht : Tur (vB (cl.map Pg.v)) wr w1) : Sep lo w1 (rG lo 1 (.slice AB nk cB) nk (bl.map Pg.v) :: bl.map fun p => rG lo 1 p.v p.n p.ys) ∧ Below lo w w1 := by
  have s0 : Sep lo wr (cl.map (rS lo sz) ++ (rG lo 1 (.slice AB nk cB) nk (bl.map Pg.v) :: bl.map (rS lo 1))) := (h.sep.sub (List.sublist_cons_self _ _)).perm List.perm_middle.symm
  have hS : ∀ k, vB (cl.map Pg.v) k → ∃ R ∈ cl.map (rS lo sz), k ∈ R.own := fun k hk => by
    obtain ⟨v, hv, e⟩ := hk
    obtain ⟨p, hp, rfl⟩ := List.mem_map.1 hv
    exact ⟨_, List.mem_map.2 ⟨p, hp, rfl⟩, own_list.2 e⟩
  have s1 := Sep.swap (M := cl.map (rS lo sz)) (N := []) s0 ht (fun k _ hs => hS k hs) h.lo_ (fun R hR => by cases hR) (fun R hR => by cases hR) List.Pairwise.nil
  refine ⟨s1, h.below.trans (ht.below h.lo_ (fun k hs => ?_))⟩
  obtain ⟨R, hR, hk⟩ := hS k hs
  exact (s0.2.1 R (List.mem_append_left _ hR) k hk).1
end
theorem vB_low {lo : Nat} {W : World} {K : Value} {nk : Nat} {vs : List Value} {ps : List Pg} (h : Sep lo W (rG lo 1 K nk vs :: ps.map fun p => rG lo 1 p.v p.n p.ys)) : ∀ k, vB (ps.map Pg.v) k → lo ≤ k := fun k hk => by
  obtain ⟨v, hv, e⟩ := hk
  obtain ⟨p, hp, rfl⟩ := List.mem_map.1 hv
  exact (h.2.1 (rG lo 1 p.v p.n p.ys) (List.mem_cons_of_mem _ (List.mem_map.2 ⟨p, hp, rfl⟩)) k (own_list.2 e)).1
theorem eqGuardNilN (o : Operand) (c : Value) (w : World) : (eqGuard .neq 31 o (.const .nilIface) c .nilIface).run Tryz.prog w = .ok () w := by
  unfold eqGuard
  go_simp
  cases c <;> go_simp
set_option maxHeartbeats 4000000 in
set_option maxRecDepth 100000 in
/-- Bytes laid over others. -/
theorem laid_any (g c n : Nat) (cur : Array Value) (xs : List Int) (D : Option Addr) (m d : Nat) (ys : List Int) (W : World) (hg : Blk W g 5 cur) (ht : cur.toList.take n = bvs xs) (hl : xs.length = n) (hcs : n ≤ cur.size) (hx : Byt xs)
    (hy : CellsAt W D (bvs ys)) (hm : ys.length = m) (hw : Byt ys) (hD : ∀ ad, D = some ad → 0 < m → ad.block ≠ g) (hn : n ≤ 1000000) (hm9 : m ≤ 20000) :
    Calls Tryz.prog 52 #[.slice (some ⟨g, 0, none⟩) n c, .slice D m d] W fun e w' => e = .returned (.tuple #[]) ∧ ∃ cur' xs', Blk w' g 5 cur' ∧ cur'.size = cur.size ∧ cur'.toList.take n = bvs xs' ∧ xs'.length = n ∧ Byt xs' ∧ Tur (· = g) W w' := by
  have HG := Lib.hid hg
  have HT := Lib.hid ht
  have HL := Lib.hid hl
  have HCS := Lib.hid hcs
  have HX := Lib.hid hx
  have HY := Lib.hid hy
  have HM := Lib.hid hm
  have HW := Lib.hid hw
  have HD := Lib.hid hD
  clear hg ht hl hcs hx hy hm hw hD
  go_enter Tryz.func52, Tryz.ntmps52
  go_wp2
  go_loopw [4] (fun t4 wr => ∃ i : Nat, t4 = .int .i64 (i : Int) ∧ i ≤ n ∧ Hid (∃ cur' xs', Blk wr g 5 cur' ∧ cur'.size = cur.size ∧ cur'.toList.take n = bvs xs' ∧ xs'.length = n ∧ Byt xs' ∧ Tur (· = g) W wr)) (fun t4 _ => n - (intOf t4).toNat)
  case atStart => exact ⟨0, rfl, Nat.zero_le _, Lib.hid ⟨_, _, HG.out, rfl, HT.out, HL.out, HX.out, Tur.refl _ _⟩⟩
  case round =>
    obtain ⟨i, rfl, hi, HP⟩ := hrel
    rename World => wr
    by_cases hin : i < n
    · obtain ⟨cur', xs', h1, h2, h3, h4, h5, h6⟩ := HP.out
      obtain ⟨x0, hx0⟩ : ∃ x0, xs'[i]? = some x0 := ⟨_, List.getElem?_eq_getElem (by rw [h4]; exact hin)⟩
      have r0 : wr.cell? ⟨g, i, none⟩ = some (.int .u8 x0) := cell_of_take h1 h3 hin hx0
      have f0 : wr.frozen? ⟨g, i, none⟩ = false := h1.frozen i
      have HS := Lib.hid (fun (u : Int) (hu : 0 ≤ u ∧ u < 256) => show ∃ cur' xs', Blk (wr.setCell ⟨g, i, none⟩ (.int .u8 u)) g 5 cur' ∧ cur'.size = cur.size ∧ cur'.toList.take n = bvs xs' ∧ xs'.length = n ∧ Byt xs' ∧ Tur (· = g) W (wr.setCell ⟨g, i, none⟩ (.int .u8 u)) from
        ⟨_, _, h1.set_ i _, by rw [Array.size_setIfInBounds]; exact h2, take_set_bvs h3 u, by rw [List.length_set]; exact h4, h5.set i hu, h6.setCell (p := ⟨g, i, none⟩) (.inl rfl) _⟩)
      have HTU := Lib.hid h6
      clear h1 h2 h3 h4 h5 h6 HP hx0
      by_cases hm0 : 0 < m
      · obtain ⟨ad, rfl, hal, _⟩ := HY.out 0 (by rw [bvs_len, HM.out]; exact hm0)
        have hR : ((i : Int).tmod (m : Int)) = ((i % m : Nat) : Int) := by rw [Int.ofNat_tmod]
        have hRl : i % m < m := Nat.mod_lt _ hm0
        obtain ⟨y0, hy0⟩ : ∃ y0, ys[i % m]? = some y0 := ⟨_, List.getElem?_eq_getElem (by rw [HM.out]; exact hRl)⟩
        have hyb : 0 ≤ y0 ∧ y0 < 256 := HW.out y0 (List.mem_of_getElem? hy0)
        have c0 : wr.cell? (ad.add (i % m)) = some (.int .u8 y0) := by
          obtain ⟨ad', e, hlt, hc⟩ := HY.out (i % m) (by rw [bvs_len, HM.out]; exact hRl)
          cases e
          have hne := HD.out ad rfl hm0
          have hb : ∀ o : Addr, o.block = ad.block → wr.cell? o = W.cell? o := fun o ho => World.cell?_of_block (by rw [ho]; exact HTU.out.block ad.block hlt hne)
          rw [hb _ (block_addC ad _), hc]
          have : (bvs ys)[i % m]? = some (.int .u8 y0) := by unfold bvs; rw [List.getElem?_map, hy0]; rfl
          rw [List.getElem?_eq_getElem (by rw [bvs_len, HM.out]; exact hRl)] at this
          exact this
        have HN := Lib.hid (HS.out y0 hyb)
        clear hyb hy0 hal HS
        generalize i % m = R at *
        go_wp2
        go_roundw
        case rel => exact ⟨i + 1, by go_num, by omega, HN⟩
        case measure => simp [intOf]; omega
      · have HN := Lib.hid (HS.out ((x0 + 1) % 256) (by omega))
        clear HS
        go_wp2
        go_roundw
        case rel => exact ⟨i + 1, by go_num, by omega, HN⟩
        case measure => simp [intOf]; omega
    · go_wp2
      go_end0
      exact ⟨rfl, HP.out⟩
theorem OwG.room3 {W : World} {B sz n g c : Nat} {ys : List Value} (h : OwG W B sz (.slice (some ⟨g, 0, none⟩) n c) n ys) (_hs : 0 < sz) (j : Nat) (hj : j < n) : ∀ i, i < sz → (W.cell? ⟨g, j * sz + i, none⟩).isSome = true ∧ W.frozen? ⟨g, j * sz + i, none⟩ = false := fun i hi => by
  rcases h with ⟨h0, _, _⟩ | ⟨g', c', hf⟩
  · cases h0
  · have e := hf.val
    injection e with e1 _ e3
    injection e1 with e1
    injection e1 with e1
    subst e1
    refine hf.room _ ?_
    have := Nat.mul_le_mul_right sz (show j + 1 ≤ c' by have := hf.fits; omega)
    rw [Nat.add_mul] at this
    omega
theorem OwG.setE {W : World} {B sz n g c : Nat} {ys : List Value} (h : OwG W B sz (.slice (some ⟨g, 0, none⟩) n c) n ys) (j : Nat) (hj : j < n) (us : List Value) (hu : us.length = sz) : OwG (W.setCells g (j * sz) us) B sz (.slice (some ⟨g, 0, none⟩) n c) n (putL ys (j * sz) us) := by
  rcases h with ⟨h0, _, _⟩ | ⟨g', c', hf⟩
  · cases h0
  · have e := hf.val
    injection e with e1 _ e3
    injection e1 with e1
    injection e1 with e1
    subst e1
    refine .inr ⟨g, c', OwGForm.setL us _ _ _ hf ?_⟩
    have := Nat.mul_le_mul_right sz (show j + 1 ≤ n from hj)
    rw [Nat.add_mul] at this
    omega
theorem own_empty (w : World) (E : TypeId) (sz : Nat) : OwG (w.alloc (.cells #[] E)) w.heap.size sz (.slice (some ⟨w.heap.size, 0, none⟩) 0 0) 0 [] :=
  .inr ⟨w.heap.size, 0, rfl, Nat.le_refl _, (Blk.new w E #[]).lt, Nat.le_refl _, by simp, fun j h => absurd h (Nat.not_lt_zero _), fun j h => absurd h (by simp)⟩
theorem cellCs_len2 (cs : List CellV) : (cellCs cs).length = cs.length * 3 := by
  induction cs with
  | nil => rfl
  | cons x l ih =>
    rw [show cellCs (x :: l) = x.cells ++ cellCs l from rfl, List.length_append, ih, List.length_cons, show x.cells.length = 3 from rfl]
    omega
theorem rowCs_len2 (cs : List RowV) : (rowCs cs).length = cs.length * 7 := by
  induction cs with
  | nil => rfl
  | cons x l ih =>
    rw [show rowCs (x :: l) = x.cells ++ rowCs l from rfl, List.length_append, ih, List.length_cons, show x.cells.length = 7 from rfl]
    omega
theorem cellCs_one_ (cs : List CellV) : ∀ u ∈ cellCs cs, u.oneCell' = true := fun u hu => by
  obtain ⟨x, _, hx⟩ := List.mem_flatMap.1 hu
  unfold CellV.cells at hx
  simp only [List.mem_cons, List.not_mem_nil, or_false] at hx
  rcases hx with rfl | rfl | rfl <;> rfl
theorem rowCs_one_ (cs : List RowV) : ∀ u ∈ rowCs cs, u.oneCell' = true := fun u hu => by
  obtain ⟨x, _, hx⟩ := List.mem_flatMap.1 hu
  unfold RowV.cells at hx
  simp only [CellV.cells, List.cons_append, List.nil_append, List.mem_cons, List.not_mem_nil, or_false] at hx
  rcases hx with rfl | rfl | rfl | rfl | rfl | rfl | rfl <;> rfl
theorem rdCells_at {W : World} {A : Option Addr} {cs : List CellV} (h : CellsRd W A cs) : CellsAt W A (cellCs cs) := fun i hi => by
  have hl := cellCs_len2 cs
  have hk : i / 3 < cs.length := by omega
  obtain ⟨ad, e, hlt, hc⟩ := h (i / 3) hk
  have hj : i % 3 < (cs[i / 3].cells).length := Nat.mod_lt _ (by decide)
  have h1 := hc (i % 3) _ (List.getElem?_eq_getElem hj)
  have h2 := cellCs_at cs (i / 3) hk (i % 3) _ (List.getElem?_eq_getElem hj)
  have e3 : i / 3 * 3 + i % 3 = i := by omega
  rw [e3] at h1 h2
  rw [List.getElem?_eq_getElem hi] at h2
  injection h2 with h2
  exact ⟨ad, e, hlt, by rw [h1, h2]⟩
theorem rdRows_at {W : World} {A : Option Addr} {cs : List RowV} (h : RowsRd W A cs) : CellsAt W A (rowCs cs) := fun i hi => by
  have hl := rowCs_len2 cs
  have hk : i / 7 < cs.length := by omega
  obtain ⟨ad, e, hlt, hc⟩ := h (i / 7) hk
  have hj : i % 7 < (cs[i / 7].cells).length := Nat.mod_lt _ (by decide)
  have h1 := hc (i % 7) _ (List.getElem?_eq_getElem hj)
  have h2 := rowCs_at cs (i / 7) hk (i % 7) _ (List.getElem?_eq_getElem hj)
  have e3 : i / 7 * 7 + i % 7 = i := by omega
  rw [e3] at h1 h2
  rw [List.getElem?_eq_getElem hi] at h2
  injection h2 with h2
  exact ⟨ad, e, hlt, by rw [h1, h2]⟩
theorem owgCells_rd {W : World} {B n c g : Nat} {cs : List CellV} (h : OwG W B 3 (.slice (some ⟨g, 0, none⟩) n c) n (cellCs cs)) : CellsRd W (some ⟨g, 0, none⟩) cs := fun k hk => by
  have hat := h.at rfl
  refine ⟨_, rfl, (h.lt g rfl).2, fun j v hv => ?_⟩
  have h1 := cellCs_at cs k hk j v hv
  obtain ⟨hlt, e⟩ := List.getElem?_eq_some_iff.1 h1
  obtain ⟨ad, e1, _, hc⟩ := hat (k * 3 + j) hlt
  cases e1
  rw [hc, e]
theorem owgRows_rd {W : World} {B n c g : Nat} {cs : List RowV} (h : OwG W B 7 (.slice (some ⟨g, 0, none⟩) n c) n (rowCs cs)) : RowsRd W (some ⟨g, 0, none⟩) cs := fun k hk => by
  have hat := h.at rfl
  refine ⟨_, rfl, (h.lt g rfl).2, fun j v hv => ?_⟩
  have h1 := rowCs_at cs k hk j v hv
  obtain ⟨hlt, e⟩ := List.getElem?_eq_some_iff.1 h1
  obtain ⟨ad, e1, _, hc⟩ := hat (k * 7 + j) hlt
  cases e1
  rw [hc, e]
theorem putCells0 (x y : CellV) (l : List CellV) : putL (cellCs (y :: l)) (0 * 3) x.cells = cellCs (x :: l) := rfl
theorem putRows0 (x y : RowV) (l : List RowV) : putL (rowCs (y :: l)) (0 * 7) x.cells = rowCs (x :: l) := rfl
end Go.Proofs.YteffpfgdoganpaaGreatDoor
