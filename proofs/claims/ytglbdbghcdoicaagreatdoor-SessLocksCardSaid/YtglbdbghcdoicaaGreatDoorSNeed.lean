/- Needs: the walk. -/
import Derived.Test.YtglbdbghcdoicaaGreatDoorSTouch
import Derived.Test.YtglbdbghcdoicaaGreatDoorSShelf
namespace Go.Proofs.YtglbdbghcdoicaaGreatDoor
open Go.RowKit

theorem tn_cells (v : Value) (w : World) : (Instr.typeAssert (.iface 97 v) 20 97 true).run Tryz.prog w = .ok (.tuple #[v, .bool true]) w := by kernel_rfl
theorem tn_scan_cells (v : Value) (w : World) : (Instr.typeAssert (.iface 101 v) 20 97 true).run Tryz.prog w = .ok (.tuple #[.slice none 0 0, .bool false]) w := by kernel_rfl
theorem tn_scan (v : Value) (w : World) : (Instr.typeAssert (.iface 101 v) 20 101 true).run Tryz.prog w = .ok (.tuple #[v, .bool true]) w := by kernel_rfl
theorem tn_seal_cells (v : Value) (w : World) : (Instr.typeAssert (.iface 102 v) 20 97 true).run Tryz.prog w = .ok (.tuple #[.slice none 0 0, .bool false]) w := by kernel_rfl
theorem tn_seal_scan (v : Value) (w : World) : (Instr.typeAssert (.iface 102 v) 20 101 true).run Tryz.prog w = .ok (.tuple #[.agg #[], .bool false]) w := by kernel_rfl
theorem tn_seal (v : Value) (w : World) : (Instr.typeAssert (.iface 102 v) 20 102 true).run Tryz.prog w = .ok (.tuple #[v, .bool true]) w := by kernel_rfl
theorem tn_book_cells (v : Value) (w : World) : (Instr.typeAssert (.iface 103 v) 20 97 true).run Tryz.prog w = .ok (.tuple #[.slice none 0 0, .bool false]) w := by kernel_rfl
theorem tn_book_scan (v : Value) (w : World) : (Instr.typeAssert (.iface 103 v) 20 101 true).run Tryz.prog w = .ok (.tuple #[.agg #[], .bool false]) w := by kernel_rfl
theorem tn_book_seal (v : Value) (w : World) : (Instr.typeAssert (.iface 103 v) 20 102 true).run Tryz.prog w = .ok (.tuple #[.agg #[], .bool false]) w := by kernel_rfl
theorem tn_book (v : Value) (w : World) : (Instr.typeAssert (.iface 103 v) 20 103 true).run Tryz.prog w = .ok (.tuple #[v, .bool true]) w := by kernel_rfl
theorem tn_stats_cells (v : Value) (w : World) : (Instr.typeAssert (.iface 104 v) 20 97 true).run Tryz.prog w = .ok (.tuple #[.slice none 0 0, .bool false]) w := by kernel_rfl
theorem tn_stats_scan (v : Value) (w : World) : (Instr.typeAssert (.iface 104 v) 20 101 true).run Tryz.prog w = .ok (.tuple #[.agg #[], .bool false]) w := by kernel_rfl
theorem tn_stats_seal (v : Value) (w : World) : (Instr.typeAssert (.iface 104 v) 20 102 true).run Tryz.prog w = .ok (.tuple #[.agg #[], .bool false]) w := by kernel_rfl
theorem tn_stats_book (v : Value) (w : World) : (Instr.typeAssert (.iface 104 v) 20 103 true).run Tryz.prog w = .ok (.tuple #[.agg #[], .bool false]) w := by kernel_rfl
theorem tn_stats (v : Value) (w : World) : (Instr.typeAssert (.iface 104 v) 20 104 true).run Tryz.prog w = .ok (.tuple #[v, .bool true]) w := by kernel_rfl
theorem tn_nil_cells (w : World) : (Instr.typeAssert .nilIface 20 97 true).run Tryz.prog w = .ok (.tuple #[.slice none 0 0, .bool false]) w := by kernel_rfl
theorem tn_nil_scan (w : World) : (Instr.typeAssert .nilIface 20 101 true).run Tryz.prog w = .ok (.tuple #[.agg #[], .bool false]) w := by kernel_rfl
theorem tn_nil_seal (w : World) : (Instr.typeAssert .nilIface 20 102 true).run Tryz.prog w = .ok (.tuple #[.agg #[], .bool false]) w := by kernel_rfl
theorem tn_nil_book (w : World) : (Instr.typeAssert .nilIface 20 103 true).run Tryz.prog w = .ok (.tuple #[.agg #[], .bool false]) w := by kernel_rfl
theorem tn_nil_stats (w : World) : (Instr.typeAssert .nilIface 20 104 true).run Tryz.prog w = .ok (.tuple #[.agg #[], .bool false]) w := by kernel_rfl
theorem holds_blk {W : World} {g : Nat} {t : TypeId} {zs : List Int} (h : Blk W g t (ivs zs).toArray) : Go.Sort.Holds (Value.int .i64) W g 0 zs.toArray := fun j hj => by
  have hj' : j < zs.length := by simpa using hj
  rw [Nat.zero_add]
  exact ⟨by rw [h.cell j]; simp [ivs, hj'], h.frozen j⟩
theorem setCells_blk {g : Nat} {t : TypeId} : ∀ (us : List Value) (o : Nat) (cs : List Value) (W : World), Blk W g t cs.toArray → Blk (W.setCells g o us) g t (putL cs o us).toArray
  | [], _, _, _, h => h
  | u :: us, o, cs, W, h => by
    refine setCells_blk us (o + 1) (cs.set o u) (W.setCell ⟨g, o, none⟩ u) ?_
    have := h.set_ o u
    rwa [List.setIfInBounds_toArray] at this
theorem putL_all (us cs : List Value) (h : us.length = cs.length) : putL cs 0 us = us := by
  apply List.ext_getElem?
  intro j
  by_cases hj : j < us.length
  · have := putL_in us cs 0 j hj (by omega)
    rwa [Nat.zero_add] at this
  · rw [List.getElem?_eq_none (by rw [putL_len]; omega), List.getElem?_eq_none (by omega)]
theorem putRow_blk {W : World} {g : Nat} {t : TypeId} {zs ys : List Int} (h : Blk W g t (ivs zs).toArray) (hl : ys.length = zs.length) (n : Nat) :
    Blk (Go.Sort.putRow (Value.int .i64) (Go.Sort.ahead W n) g 0 ys.toArray) g t (ivs ys).toArray ∧ Tur (· = g) W (Go.Sort.putRow (Value.int .i64) (Go.Sort.ahead W n) g 0 ys.toArray) := by
  rw [Go.Lib.putRow_eq_setCells (Value.int .i64) W g 0 zs.toArray ys n (holds_blk h) (by simpa using hl)]
  refine ⟨?_, ?_⟩
  · have := setCells_blk (ys.map (Value.int .i64)) 0 (ivs zs) (W.drewN n) (h.drewN n)
    rwa [putL_all _ _ (by rw [List.length_map, ivs_len, hl])] at this
  · exact (Tur.of_below (below_drewN (Below.refl W.heap.size W) n)).trans (Tur.of_grown (S := (· = g)) (setCells_grown g _ _ _) (fun k hk => by cases hk; rfl)) (fun k hk => .inl hk)
theorem grow_blk {W : World} {g : Nat} {t : TypeId} {cs : Array Value} (h : Blk W g t cs) (os : Array Obj) : Blk (Go.Sort.grow W os) g t cs ∧ Below W.heap.size W (Go.Sort.grow W os) := by
  have hl : ∀ k, k < W.heap.size → (Go.Sort.grow W os).heap[k]? = W.heap[k]? := fun k hk => by
    show (W.heap ++ os)[k]? = _
    rw [Array.getElem?_append_left hk]
  exact ⟨(hl g h.lt).trans h, ⟨rfl, rfl, rfl, by show W.heap.size ≤ (W.heap ++ os).size; rw [Array.size_append]; omega, fun k hk => hl k hk⟩⟩
theorem sort_cells (g m : Nat) (zs : List Int) (W : World) (h : Blk W g 3 (ivs zs).toArray) (hm : zs.length = m) (hl : m < 4611686018427387904) :
    Calls Tryz.prog 45 #[.slice (some ⟨g, 0, none⟩) m m] W fun e w' => e = .returned (.tuple #[]) ∧ Blk w' g 3 (ivs (zs.mergeSort fun x y => decide (x ≤ y))).toArray ∧ Tur (· = g) W w' := by
  subst hm
  have C := AnyM.slices_Sort_int Tryz.sort g 0 zs.length zs W (holds_blk h) h.lt hl
  refine Calls.mono C ?_
  rintro e w' ⟨rfl, n, os, rfl⟩
  obtain ⟨h1, h2⟩ := putRow_blk h (ys := zs.mergeSort fun x y => decide (x ≤ y)) (by rw [List.length_mergeSort]) n
  obtain ⟨h3, h4⟩ := grow_blk h1 os
  exact ⟨rfl, h3, h2.trans (Tur.of_below (S := fun _ => False) h4) (fun k hk => hk.elim)⟩
theorem compact_cells (g m : Nat) (zs : List Int) (W : World) (h : Blk W g 3 (ivs zs).toArray) (hm : zs.length = m) (hl : m < 4611686018427387904) :
    Calls Tryz.prog 46 #[.slice (some ⟨g, 0, none⟩) m m] W fun e w' => e = .returned (.slice (some ⟨g, 0, none⟩) (Go.Lib.compact zs).length m) ∧ (∃ ys, Blk w' g 3 (ivs (Go.Lib.compact zs ++ ys)).toArray) ∧ Tur (· = g) W w' := by
  subst hm
  have C := AnyG.slices_Compact_int Tryz.compact g 0 zs.length zs W (holds_blk h) (by omega) (Nat.le_refl _)
  refine Calls.mono C ?_
  rintro e w' ⟨rfl, n, rfl⟩
  obtain ⟨h1, h2⟩ := putRow_blk h (ys := Go.Lib.compact zs ++ List.replicate (zs.length - (Go.Lib.compact zs).length) 0) (by have := Go.Lib.compact_length_le zs; rw [List.length_append, List.length_replicate]; omega) n
  exact ⟨rfl, ⟨_, h1⟩, h2⟩
/-- The first i of a row, none below zero. -/
def mxP (i : Nat) (L : List Int) : List Int := (L.take i).map (fun x => max x 0) ++ L.drop i
theorem mxP_0 (L : List Int) : mxP 0 L = L := by simp [mxP]
theorem mxP_all (L : List Int) : mxP L.length L = L.map (fun x => max x 0) := by simp [mxP]
theorem mxP_len (i : Nat) (L : List Int) : (mxP i L).length = L.length := by unfold mxP; rw [List.length_append, List.length_map, List.length_take, List.length_drop]; omega
theorem mxP_at (i : Nat) (L : List Int) (h : i < L.length) : (mxP i L)[i]? = some L[i] := by
  unfold mxP
  rw [List.getElem?_append_right (by simp; omega), List.length_map, List.length_take, Nat.min_eq_left (by omega), Nat.sub_self, List.getElem?_drop, Nat.add_zero, List.getElem?_eq_getElem h]
theorem mxP_step (i : Nat) (L : List Int) (h : i < L.length) : (mxP i L).set i (max L[i] 0) = mxP (i + 1) L := by
  unfold mxP
  rw [List.take_add_one, List.getElem?_eq_getElem h, Option.toList_some, List.map_append, List.map_singleton, List.drop_eq_getElem_cons h]
  rw [List.set_append_right _ _ (by simp; omega), List.length_map, List.length_take, Nat.min_eq_left (by omega), Nat.sub_self, List.set_cons_zero, List.append_assoc]
  rfl
theorem info_lock : (Tryz.prog.info? 53).map (fun i => (i.zero, i.size, i.bytes)) = some (some (.agg #[.int .i64 0, .bool false]), 2, 16) := by kernel_rfl
/-- Locks of one's own. -/
def LocksOwn (W : World) (B : Nat) (v : Value) (ls : List LockV) : Prop := W.ownsRow B 53 2 v ls.length (lockCs ls)
def NeedQ (W : World) (ls : List LockV) (e : Ending) (w' : World) : Prop := ∃ A c, e = .returned (.slice A ls.length c) ∧ LocksOwn w' W.heap.size (.slice A ls.length c) ls ∧ Below W.heap.size W w'
theorem lockCs_len (ls : List LockV) : (lockCs ls).length = ls.length * 2 := by
  induction ls with
  | nil => rfl
  | cons l ls ih => simp [lockCs, lockV] at ih ⊢; omega
theorem lockCs_one (ls : List LockV) : ∀ u ∈ lockCs ls, u.oneCell' = true := fun u hu => by
  obtain ⟨l, _, hl⟩ := List.mem_flatMap.1 hu
  simp only [lockV, List.mem_cons, List.not_mem_nil, or_false] at hl
  rcases hl with rfl | rfl <;> rfl
theorem lockCs_app (a b : List LockV) : lockCs (a ++ b) = lockCs a ++ lockCs b := by simp [lockCs]
theorem lock_lit (W : World) (ls : List LockV) (B : Nat) (hB : B ≤ W.heap.size) (hl : ls.length ≤ 1000) : LocksOwn (W.alloc (.cells (lockCs ls).toArray 53)) B (.slice (some ⟨W.heap.size, 0, none⟩) ls.length ls.length) ls := by
  have := World.ownsRow_lit (e := 53) (size := 2) (base := B) W (lockCs ls).toArray ls.length hB (by unfold maxLen; omega) (by simp [lockCs_len])
  simpa [LocksOwn] using this
set_option maxRecDepth 100000 in
theorem touch_3s (A Az : Option Addr) (n c nz cz : Nat) (q : Rq) (W : World) (hq : q.kind = 3) (hep : (q.epoch == 0) = false) :
    Calls Tryz.prog 44 #[.agg (rqC (.slice A n c) q), .slice Az nz cz] W fun e w' => e = .returned (.iface 101 (.agg #[])) ∧ Below W.heap.size W w' := by
  obtain ⟨kd, id_, ep, qs, fr, to_, lm⟩ := q
  have hq : kd = 3 := hq
  subst hq
  have hep : (ep == 0) = false := hep
  have bo := (Below.refl W.heap.size W).alloc (Nat.le_refl _) (.cells (rqC (.slice A n c) ⟨3, id_, ep, qs, fr, to_, lm⟩) 43)
  have HB := Lib.hid bo
  have hck := (Blk.new W 43 (rqC (.slice A n c) ⟨3, id_, ep, qs, fr, to_, lm⟩)).cell
  clear bo
  go_enter Tryz.func44, Tryz.ntmps44
  go_wp2
  go_ret
  exact ⟨rfl, HB.out⟩
set_option maxRecDepth 100000 in
theorem touch_3e (A Az : Option Addr) (n c nz cz : Nat) (q : Rq) (W : World) (hq : q.kind = 3) (hep : q.epoch = 0) :
    Calls Tryz.prog 44 #[.agg (rqC (.slice A n c) q), .slice Az nz cz] W fun e w' => e = .returned (.iface 102 (.agg #[])) ∧ Below W.heap.size W w' := by
  obtain ⟨kd, id_, ep, qs, fr, to_, lm⟩ := q
  have hq : kd = 3 := hq
  subst hq
  have hep : ep = 0 := hep
  subst hep
  have bo := (Below.refl W.heap.size W).alloc (Nat.le_refl _) (.cells (rqC (.slice A n c) ⟨3, id_, 0, qs, fr, to_, lm⟩) 43)
  have HB := Lib.hid bo
  have hck := (Blk.new W 43 (rqC (.slice A n c) ⟨3, id_, 0, qs, fr, to_, lm⟩)).cell
  clear bo
  go_enter Tryz.func44, Tryz.ntmps44
  go_wp2
  go_ret
  exact ⟨rfl, HB.out⟩
set_option maxRecDepth 100000 in
theorem touch_4 (A Az : Option Addr) (n c nz cz : Nat) (q : Rq) (W : World) (hq : q.kind = 4) :
    Calls Tryz.prog 44 #[.agg (rqC (.slice A n c) q), .slice Az nz cz] W fun e w' => e = .returned (.iface 102 (.agg #[])) ∧ Below W.heap.size W w' := by
  obtain ⟨kd, id_, ep, qs, fr, to_, lm⟩ := q
  have hq : kd = 4 := hq
  subst hq
  have bo := (Below.refl W.heap.size W).alloc (Nat.le_refl _) (.cells (rqC (.slice A n c) ⟨4, id_, ep, qs, fr, to_, lm⟩) 43)
  have HB := Lib.hid bo
  have hck := (Blk.new W 43 (rqC (.slice A n c) ⟨4, id_, ep, qs, fr, to_, lm⟩)).cell
  clear bo
  go_enter Tryz.func44, Tryz.ntmps44
  go_wp2
  go_ret
  exact ⟨rfl, HB.out⟩
set_option maxRecDepth 100000 in
theorem touch_5 (A Az : Option Addr) (n c nz cz : Nat) (q : Rq) (W : World) (hq : q.kind = 5) :
    Calls Tryz.prog 44 #[.agg (rqC (.slice A n c) q), .slice Az nz cz] W fun e w' => e = .returned (.iface 103 (.agg #[])) ∧ Below W.heap.size W w' := by
  obtain ⟨kd, id_, ep, qs, fr, to_, lm⟩ := q
  have hq : kd = 5 := hq
  subst hq
  have bo := (Below.refl W.heap.size W).alloc (Nat.le_refl _) (.cells (rqC (.slice A n c) ⟨5, id_, ep, qs, fr, to_, lm⟩) 43)
  have HB := Lib.hid bo
  have hck := (Blk.new W 43 (rqC (.slice A n c) ⟨5, id_, ep, qs, fr, to_, lm⟩)).cell
  clear bo
  go_enter Tryz.func44, Tryz.ntmps44
  go_wp2
  go_ret
  exact ⟨rfl, HB.out⟩
set_option maxRecDepth 100000 in
theorem touch_6 (A Az : Option Addr) (n c nz cz : Nat) (q : Rq) (W : World) (hq : q.kind = 6) :
    Calls Tryz.prog 44 #[.agg (rqC (.slice A n c) q), .slice Az nz cz] W fun e w' => e = .returned (.iface 103 (.agg #[])) ∧ Below W.heap.size W w' := by
  obtain ⟨kd, id_, ep, qs, fr, to_, lm⟩ := q
  have hq : kd = 6 := hq
  subst hq
  have bo := (Below.refl W.heap.size W).alloc (Nat.le_refl _) (.cells (rqC (.slice A n c) ⟨6, id_, ep, qs, fr, to_, lm⟩) 43)
  have HB := Lib.hid bo
  have hck := (Blk.new W 43 (rqC (.slice A n c) ⟨6, id_, ep, qs, fr, to_, lm⟩)).cell
  clear bo
  go_enter Tryz.func44, Tryz.ntmps44
  go_wp2
  go_ret
  exact ⟨rfl, HB.out⟩
set_option maxRecDepth 100000 in
theorem touch_7 (A Az : Option Addr) (n c nz cz : Nat) (q : Rq) (W : World) (hq : q.kind = 7) :
    Calls Tryz.prog 44 #[.agg (rqC (.slice A n c) q), .slice Az nz cz] W fun e w' => e = .returned (.iface 104 (.agg #[])) ∧ Below W.heap.size W w' := by
  obtain ⟨kd, id_, ep, qs, fr, to_, lm⟩ := q
  have hq : kd = 7 := hq
  subst hq
  have bo := (Below.refl W.heap.size W).alloc (Nat.le_refl _) (.cells (rqC (.slice A n c) ⟨7, id_, ep, qs, fr, to_, lm⟩) 43)
  have HB := Lib.hid bo
  have hck := (Blk.new W 43 (rqC (.slice A n c) ⟨7, id_, ep, qs, fr, to_, lm⟩)).cell
  clear bo
  go_enter Tryz.func44, Tryz.ntmps44
  go_wp2
  go_ret
  exact ⟨rfl, HB.out⟩
set_option maxRecDepth 100000 in
theorem touch_none (A Az : Option Addr) (n c nz cz : Nat) (q : Rq) (W : World) (hq : q.kind < 1 ∨ 7 < q.kind) :
    Calls Tryz.prog 44 #[.agg (rqC (.slice A n c) q), .slice Az nz cz] W fun e w' => e = .returned .nilIface ∧ Below W.heap.size W w' := by
  obtain ⟨kd, id_, ep, qs, fr, to_, lm⟩ := q
  have hq : kd < 1 ∨ 7 < kd := hq
  have h1 : (kd == 1) = false := by simp; omega
  have h2 : (kd == 2) = false := by simp; omega
  have h3 : (kd == 3) = false := by simp; omega
  have h4 : (kd == 4) = false := by simp; omega
  have h5 : (kd == 5) = false := by simp; omega
  have h6 : (kd == 6) = false := by simp; omega
  have h7 : (kd == 7) = false := by simp; omega
  have bo := (Below.refl W.heap.size W).alloc (Nat.le_refl _) (.cells (rqC (.slice A n c) ⟨kd, id_, ep, qs, fr, to_, lm⟩) 43)
  have HB := Lib.hid bo
  have hck := (Blk.new W 43 (rqC (.slice A n c) ⟨kd, id_, ep, qs, fr, to_, lm⟩)).cell
  clear bo hq
  go_enter Tryz.func44, Tryz.ntmps44
  go_wp2
  go_ret
  exact ⟨rfl, HB.out⟩
theorem Fin_lt {m : Nat} {zs : List Int} (h : ∀ z ∈ zs, z ≤ 1099511627776) : ∀ x ∈ shardsP (tsP m zs), 0 ≤ x ∧ x ≤ 1099511627776 := fun x hx => by
  rw [shardsP_mem] at hx
  unfold tsP at hx
  obtain ⟨y, hy, rfl⟩ := List.mem_map.1 hx
  unfold tcP at hy
  rcases List.mem_append.1 hy with hy | hy
  · have := h y (List.mem_of_mem_take hy); omega
  · have := (List.mem_replicate.1 hy).2; omega
set_option maxHeartbeats 16000000 in
set_option maxRecDepth 100000 in
theorem need_cells (p : Option Addr) (k : Int) (hk : k = 1 ∨ k = 2) (A Az : Option Addr) (n c nz cz : Nat) (zs : List Int) (q : Rq) (W : World) (hq : q.kind = k) (hqn : q.cs.length = n) (hzl : zs.length = nz) (hz : CellsAt W Az (ivs zs)) (hn : n ≤ 1000000) (hzm : ∀ z ∈ zs, z ≤ 1099511627776) :
    Calls Tryz.prog 18 #[.pointer p, .agg (rqC (.slice A n c) q), .slice Az nz cz] W (NeedQ W (needP q zs)) := by
  have HNP := Lib.hid (show needP q zs = (shardsP (tsP n zs)).map (fun x => (2 + x, true)) from by unfold needP; rw [if_pos (by rw [hq]; exact hk), hqn])
  rw [HNP.out]
  have hfb := Fin_lt (m := n) hzm
  have hts : (tcP n zs).map (fun x => max x 0) = tsP n zs := rfl
  clear HNP
  generalize tsP n zs = M at *
  obtain ⟨Q, hQ⟩ : ∃ Q, Q = shardsP M := ⟨_, rfl⟩
  rw [← hQ] at hfb ⊢
  have HFB := Lib.hid hfb
  have HTS := Lib.hid hts
  have HQD := Lib.hid hQ
  clear hfb hts hQ
  have bo := (Below.refl W.heap.size W).alloc (Nat.le_refl _) (.cells (rqC (.slice A n c) q) 43)
  have HB := Lib.hid bo
  have C1 := Lib.hid (touch_cells k hk A Az n c nz cz zs q _ hq hzl (hz.below bo) hn)
  have hck := (Blk.new W 43 (rqC (.slice A n c) q)).cell
  have HTL := Lib.hid (tcP_len n zs)
  clear bo hz hzl hq hqn hzm
  go_enter Tryz.func18, Tryz.ntmps18
  go_wp2_with fail
  go_at_call 44; (with_reducible refine C1.out.mono ?_); rintro e w1 ⟨g, rfl, hg, hgl, hb⟩
  have hgl' : W.heap.size + 1 ≤ g := by simpa using hgl
  have HG1 := Lib.hid hg
  have HB1 := Lib.hid (below_step HB.out hb (Nat.le_refl _))
  have ta := tn_cells
  generalize tcP n zs = L at *
  clear hg hgl hb C1 hck
  go_wp2_with fail
  go_loopw [24] (fun t24 wr => ∃ i : Nat, t24 = .int .i64 (i : Int) ∧ i ≤ n ∧ Hid (Blk wr g 3 (ivs (mxP i L)).toArray ∧ Below W.heap.size W wr)) (fun t24 _ => n - (intOf t24).toNat)
  case atStart => exact ⟨0, rfl, Nat.zero_le _, Lib.hid ⟨by rw [mxP_0]; exact HG1.out, HB1.out⟩⟩
  case round =>
    obtain ⟨i, rfl, hi, HP⟩ := hrel
    by_cases hin : i < n
    · have HIL := Lib.hid (show i < L.length by rw [HTL.out]; exact hin)
      obtain ⟨x, hx⟩ : ∃ x, x = L[i]'HIL.out := ⟨_, rfl⟩
      have c0 : wr.cell? ⟨g, i, none⟩ = some (.int .i64 x) := by
        rw [HP.out.1.cell i]
        have := mxP_at i L HIL.out
        simp [ivs, this, hx]
      have f0 : wr.frozen? ⟨g, i, none⟩ = false := HP.out.1.frozen i
      have HST := Lib.hid (show (ivs (mxP i L)).toArray.setIfInBounds i (.int .i64 (max x 0)) = (ivs (mxP (i + 1) L)).toArray from by
        rw [List.setIfInBounds_toArray, ← mxP_step i L HIL.out, hx]
        unfold ivs
        rw [List.map_set])
      have HX := Lib.hid hx
      clear hx
      go_wp2_with fail
      go_roundw
      case rel => exact ⟨i + 1, by go_num, by omega, Lib.hid ⟨by have h9 := HP.out.1.set_ i (.int .i64 (max x 0)); rw [HST.out] at h9; exact h9, HP.out.2.setCell (p := ⟨g, i, none⟩) (by show W.heap.size ≤ g; omega) _⟩⟩
      case measure => simp [intOf]; omega
    · obtain rfl : i = n := by omega
      have HM1 := Lib.hid (show Blk wr g 3 (ivs M).toArray from by
        have h9 := HP.out.1
        rw [show i = L.length from HTL.out.symm, mxP_all, HTS.out] at h9
        exact h9)
      have HML := Lib.hid (show M.length = i by rw [← HTS.out, List.length_map, HTL.out])
      have C2 := Lib.hid (sort_cells g i M wr HM1.out HML.out (by omega))
      have HB2 := Lib.hid HP.out.2
      clear HP hin
      go_wp2_with fail
      go_at_call 45; (with_reducible refine C2.out.mono ?_); rintro e w2 ⟨rfl, hs2, ht2⟩
      have HB3 := Lib.hid (HB2.out.trans (ht2.below HB2.out.size (fun k hk => by subst hk; omega)))
      have C3 := Lib.hid (compact_cells g i (M.mergeSort fun x y => decide (x ≤ y)) w2 hs2 (by rw [List.length_mergeSort]; exact HML.out) (by omega))
      have HPL := Lib.hid (show Q.length ≤ i from by rw [HQD.out]; exact Nat.le_trans (shardsP_len M) (Nat.le_of_eq HML.out))
      rw [show Go.Lib.compact (M.mergeSort fun x y => decide (x ≤ y)) = Q from HQD.out.symm] at C3
      clear hs2 ht2 C2 HM1 HB2 HML
      go_wp2_with fail
      go_at_call 46; (with_reducible refine C3.out.mono ?_); rintro e w3 ⟨rfl, ⟨ys, hy⟩, ht3⟩
      have HB4 := Lib.hid (HB3.out.trans (ht3.below HB3.out.size (fun k hk => by subst hk; omega)))
      have HG4 := Lib.hid hy
      obtain ⟨m, hm⟩ : ∃ m, m = Q.length := ⟨_, rfl⟩
      have HQL := Lib.hid hm
      rw [← hm] at HPL
      rw [← hm]
      obtain ⟨ik, hik, hz0, hz1, hz2⟩ := info_parts info_lock
      have HI := Lib.hid (show Tryz.prog.info? 53 = some ik ∧ ik.zero = some (.agg #[.int .i64 0, .bool false]) ∧ ik.size = 2 ∧ ik.bytes = 16 from ⟨hik, hz0, hz1, hz2⟩)
      have hmi : m ≤ i := HPL.out
      clear hy ht3 C3 hm HB3 hik hz0 hz1 hz2
      go_wp2_with fail
      go_loopw [9, 41] (fun t9 t41 wz => ∃ (j c9 : Nat) (A9 : Option Addr), t41 = .int .i64 (j : Int) ∧ t9 = .slice A9 j c9 ∧ j ≤ m ∧ Hid (wz.ownsRow W.heap.size 53 2 (.slice A9 j c9) j (lockCs ((Q.take j).map (fun x => (2 + x, true)))) ∧ Blk wz g 3 (ivs (Q ++ ys)).toArray ∧ Below W.heap.size W wz)) (fun _ t41 _ => m - (intOf t41).toNat)
      case atStart => exact ⟨0, 0, none, rfl, rfl, Nat.zero_le _, Lib.hid ⟨by rw [List.take_zero]; exact World.ownsRow_nil _ _ _ _, HG4.out, HB4.out⟩⟩
      case round =>
        obtain ⟨j, c9, A9, rfl, rfl, hj, HR⟩ := hrel
        rename World => wz
        by_cases hjm : j < m
        · have HJ := Lib.hid (show j < Q.length by rw [← HQL.out]; exact hjm)
          obtain ⟨x, hx⟩ : ∃ x, x = Q[j]'HJ.out := ⟨_, rfl⟩
          have c0 : wz.cell? ⟨g, j, none⟩ = some (.int .i64 x) := by
            rw [HR.out.2.1.cell j]
            have h9 : (Q ++ ys)[j]? = some x := by rw [List.getElem?_append_left HJ.out, List.getElem?_eq_getElem HJ.out, hx]
            have h8 : (ivs (Q ++ ys))[j]? = some (.int .i64 x) := by unfold ivs; rw [List.getElem?_map, h9]; rfl
            simpa using h8
          have hxb := HFB.out x (by rw [hx]; exact List.getElem_mem _)
          have HXB := Lib.hid hxb
          have hw2 : IntKind.i64.wrap (2 + x) = 2 + x := by rw [IntKind.wrap_i64]; omega
          have hml : m ≤ maxLen := by unfold maxLen; omega
          have HTK := Lib.hid (show lockCs ((Q.take j).map (fun x => (2 + x, true))) ++ [Value.int .i64 (2 + x), .bool true] = lockCs ((Q.take (j + 1)).map (fun x => (2 + x, true))) from by
            rw [List.take_add_one, List.getElem?_eq_getElem HJ.out, Option.toList_some, List.map_append, lockCs_app, hx]
            rfl)
          have HLW := Lib.hid (lock_lit wz [(2 + x, true)] 0 (Nat.zero_le _) (by simp))
          have HNB := Lib.hid (Blk.new wz 53 #[.int .i64 (2 + x), .bool true])
          have HRO := Lib.hid (ownsRow_tur HR.out.1 (Tur.of_below (S := fun _ => False) ((Below.refl wz.heap.size wz).alloc (Nat.le_refl _) (.cells #[.int .i64 (2 + x), .bool true] 53))) (fun _ _ h => h))
          have HRG := Lib.hid (HR.out.2.1.alloc (.cells #[.int .i64 (2 + x), .bool true] 53))
          have HRB := Lib.hid (HR.out.2.2.alloc HR.out.2.2.size (.cells #[.int .i64 (2 + x), .bool true] 53))
          clear hx hxb
          go_wp2_with (at_builtin; go_loud (refine wpList_append_own_at _ rfl _ _ _ rfl W.heap.size 53 ik (.agg #[.int .i64 0, .bool false]) 2 16 Tryz.underlying45 HI.out.1 HI.out.2.1 HI.out.2.2.1 HI.out.2.2.2 rfl (by omega) (.slice A9 j c9) j (lockCs ((Q.take j).map (fun x => (2 + x, true)))) rfl HRO.out ⟨wz.heap.size, 0, none⟩ 1 1 [.int .i64 (2 + x), .bool true] rfl rfl (fun k u hk => by (rw [add_zero_, HNB.out.cell k]; simpa using hk)) (by intro u hu; simp at hu; rcases hu with rfl | rfl <;> rfl) (by omega) (by omega) (by have := HRB.out.size; exact this) ?_)
                       intro v' w4 hown hg4 hnil hv4
                       obtain ⟨A', c', rfl⟩ := own_form3 hown
                       have HO4 := Lib.hid hown
                       have HG5 := Lib.hid (HRG.out.grown hg4 (fun e => by
                         obtain ⟨cur, hb9⟩ := own_blk HRO.out g e.symm
                         exact (HRG.out.ne_ hb9 (by decide)) rfl))
                       have HB5 := Lib.hid (HRB.out.grown hg4 HRB.out.size (fun k e => (HRO.out.lt k e).1))
                       clear hown hg4 hnil hv4)
          go_roundw
          case rel => exact ⟨j + 1, c', A', by go_num, rfl, by omega, Lib.hid ⟨by rw [← HTK.out]; exact HO4.out, HG5.out, HB5.out⟩⟩
          case measure => simp [intOf]; omega
        · obtain rfl : j = m := by omega
          have HQR := Lib.hid (show wz.ownsRow W.heap.size 53 2 (.slice A9 j c9) j (lockCs (Q.map (fun x => (2 + x, true)))) from by
            have h9 := HR.out.1
            rwa [show List.take j Q = Q from by rw [HQL.out]; exact List.take_length] at h9)
          have HBR := Lib.hid HR.out.2.2
          clear HR
          go_wp2_with fail
          go_ret
          refine ⟨A9, c9, by rw [List.length_map, ← HQL.out]; rfl, ?_, HBR.out⟩
          unfold LocksOwn
          rw [List.length_map, ← HQL.out]
          exact HQR.out
set_option maxHeartbeats 4000000 in
set_option maxRecDepth 100000 in
theorem need_scan (p : Option Addr) (A Az : Option Addr) (n c nz cz : Nat) (q : Rq) (W : World) (hq : q.kind = 3) (hep : (q.epoch == 0) = false) :
    Calls Tryz.prog 18 #[.pointer p, .agg (rqC (.slice A n c) q), .slice Az nz cz] W (NeedQ W [(2, true)]) := by
  have bo := (Below.refl W.heap.size W).alloc (Nat.le_refl _) (.cells (rqC (.slice A n c) q) 43)
  have HB := Lib.hid bo
  have C1 := Lib.hid (touch_3s A Az n c nz cz q (W.alloc (.cells (rqC (.slice A n c) q) 43)) hq hep)
  have hck := (Blk.new W 43 (rqC (.slice A n c) q)).cell
  clear bo hq hep
  go_enter Tryz.func18, Tryz.ntmps18
  go_wp2_with fail
  go_at_call 44; (with_reducible refine C1.out.mono ?_); rintro e w1 ⟨rfl, hb⟩
  have HB1 := Lib.hid (below_step HB.out hb (Nat.le_refl _))
  have t0 := tn_scan_cells
  have t1 := tn_scan
  clear hb C1 hck
  go_wp2_with fail
  go_ret
  have hs := HB1.out.size
  refine ⟨_, _, rfl, ?_, ?_⟩
  · have h9 := lock_lit (w1.alloc (.cells #[] 101)) [(2, true)] W.heap.size (Below.alloc HB1.out hs _).size (by simp)
    rw [show (w1.alloc (.cells #[] 101)).heap.size = w1.heap.size + 1 from Array.size_push ..] at h9
    exact h9
  · exact Below.alloc (Below.alloc HB1.out hs _) (Below.alloc HB1.out hs _).size _
set_option maxHeartbeats 4000000 in
set_option maxRecDepth 100000 in
theorem need_seal3 (p : Option Addr) (A Az : Option Addr) (n c nz cz : Nat) (q : Rq) (W : World) (hq : q.kind = 3) (hep : q.epoch = 0) :
    Calls Tryz.prog 18 #[.pointer p, .agg (rqC (.slice A n c) q), .slice Az nz cz] W (NeedQ W [(0, false), (1, false)]) := by
  have bo := (Below.refl W.heap.size W).alloc (Nat.le_refl _) (.cells (rqC (.slice A n c) q) 43)
  have HB := Lib.hid bo
  have C1 := Lib.hid (touch_3e A Az n c nz cz q (W.alloc (.cells (rqC (.slice A n c) q) 43)) hq hep)
  have hck := (Blk.new W 43 (rqC (.slice A n c) q)).cell
  clear bo hq hep
  go_enter Tryz.func18, Tryz.ntmps18
  go_wp2_with fail
  go_at_call 44; (with_reducible refine C1.out.mono ?_); rintro e w1 ⟨rfl, hb⟩
  have HB1 := Lib.hid (below_step HB.out hb (Nat.le_refl _))
  have t0 := tn_seal_cells
  have t1 := tn_seal_scan
  have t2 := tn_seal
  clear hb C1 hck
  go_wp2_with fail
  go_ret
  have hs := HB1.out.size
  refine ⟨_, _, rfl, ?_, ?_⟩
  · have h9 := lock_lit (w1.alloc (.cells #[] 102)) [(0, false), (1, false)] W.heap.size (Below.alloc HB1.out hs _).size (by simp)
    rw [show (w1.alloc (.cells #[] 102)).heap.size = w1.heap.size + 1 from Array.size_push ..] at h9
    exact h9
  · exact Below.alloc (Below.alloc HB1.out hs _) (Below.alloc HB1.out hs _).size _
set_option maxHeartbeats 4000000 in
set_option maxRecDepth 100000 in
theorem need_seal4 (p : Option Addr) (A Az : Option Addr) (n c nz cz : Nat) (q : Rq) (W : World) (hq : q.kind = 4) :
    Calls Tryz.prog 18 #[.pointer p, .agg (rqC (.slice A n c) q), .slice Az nz cz] W (NeedQ W [(0, false), (1, false)]) := by
  have bo := (Below.refl W.heap.size W).alloc (Nat.le_refl _) (.cells (rqC (.slice A n c) q) 43)
  have HB := Lib.hid bo
  have C1 := Lib.hid (touch_4 A Az n c nz cz q (W.alloc (.cells (rqC (.slice A n c) q) 43)) hq)
  have hck := (Blk.new W 43 (rqC (.slice A n c) q)).cell
  clear bo hq
  go_enter Tryz.func18, Tryz.ntmps18
  go_wp2_with fail
  go_at_call 44; (with_reducible refine C1.out.mono ?_); rintro e w1 ⟨rfl, hb⟩
  have HB1 := Lib.hid (below_step HB.out hb (Nat.le_refl _))
  have t0 := tn_seal_cells
  have t1 := tn_seal_scan
  have t2 := tn_seal
  clear hb C1 hck
  go_wp2_with fail
  go_ret
  have hs := HB1.out.size
  refine ⟨_, _, rfl, ?_, ?_⟩
  · have h9 := lock_lit (w1.alloc (.cells #[] 102)) [(0, false), (1, false)] W.heap.size (Below.alloc HB1.out hs _).size (by simp)
    rw [show (w1.alloc (.cells #[] 102)).heap.size = w1.heap.size + 1 from Array.size_push ..] at h9
    exact h9
  · exact Below.alloc (Below.alloc HB1.out hs _) (Below.alloc HB1.out hs _).size _
set_option maxHeartbeats 4000000 in
set_option maxRecDepth 100000 in
theorem need_book5 (p : Option Addr) (A Az : Option Addr) (n c nz cz : Nat) (q : Rq) (W : World) (hq : q.kind = 5) :
    Calls Tryz.prog 18 #[.pointer p, .agg (rqC (.slice A n c) q), .slice Az nz cz] W (NeedQ W [(1, false)]) := by
  have bo := (Below.refl W.heap.size W).alloc (Nat.le_refl _) (.cells (rqC (.slice A n c) q) 43)
  have HB := Lib.hid bo
  have C1 := Lib.hid (touch_5 A Az n c nz cz q (W.alloc (.cells (rqC (.slice A n c) q) 43)) hq)
  have hck := (Blk.new W 43 (rqC (.slice A n c) q)).cell
  clear bo hq
  go_enter Tryz.func18, Tryz.ntmps18
  go_wp2_with fail
  go_at_call 44; (with_reducible refine C1.out.mono ?_); rintro e w1 ⟨rfl, hb⟩
  have HB1 := Lib.hid (below_step HB.out hb (Nat.le_refl _))
  have t0 := tn_book_cells
  have t1 := tn_book_scan
  have t2 := tn_book_seal
  have t3 := tn_book
  clear hb C1 hck
  go_wp2_with fail
  go_ret
  have hs := HB1.out.size
  refine ⟨_, _, rfl, ?_, ?_⟩
  · have h9 := lock_lit (w1.alloc (.cells #[] 103)) [(1, false)] W.heap.size (Below.alloc HB1.out hs _).size (by simp)
    rw [show (w1.alloc (.cells #[] 103)).heap.size = w1.heap.size + 1 from Array.size_push ..] at h9
    exact h9
  · exact Below.alloc (Below.alloc HB1.out hs _) (Below.alloc HB1.out hs _).size _
set_option maxHeartbeats 4000000 in
set_option maxRecDepth 100000 in
theorem need_book6 (p : Option Addr) (A Az : Option Addr) (n c nz cz : Nat) (q : Rq) (W : World) (hq : q.kind = 6) :
    Calls Tryz.prog 18 #[.pointer p, .agg (rqC (.slice A n c) q), .slice Az nz cz] W (NeedQ W [(1, false)]) := by
  have bo := (Below.refl W.heap.size W).alloc (Nat.le_refl _) (.cells (rqC (.slice A n c) q) 43)
  have HB := Lib.hid bo
  have C1 := Lib.hid (touch_6 A Az n c nz cz q (W.alloc (.cells (rqC (.slice A n c) q) 43)) hq)
  have hck := (Blk.new W 43 (rqC (.slice A n c) q)).cell
  clear bo hq
  go_enter Tryz.func18, Tryz.ntmps18
  go_wp2_with fail
  go_at_call 44; (with_reducible refine C1.out.mono ?_); rintro e w1 ⟨rfl, hb⟩
  have HB1 := Lib.hid (below_step HB.out hb (Nat.le_refl _))
  have t0 := tn_book_cells
  have t1 := tn_book_scan
  have t2 := tn_book_seal
  have t3 := tn_book
  clear hb C1 hck
  go_wp2_with fail
  go_ret
  have hs := HB1.out.size
  refine ⟨_, _, rfl, ?_, ?_⟩
  · have h9 := lock_lit (w1.alloc (.cells #[] 103)) [(1, false)] W.heap.size (Below.alloc HB1.out hs _).size (by simp)
    rw [show (w1.alloc (.cells #[] 103)).heap.size = w1.heap.size + 1 from Array.size_push ..] at h9
    exact h9
  · exact Below.alloc (Below.alloc HB1.out hs _) (Below.alloc HB1.out hs _).size _
set_option maxHeartbeats 4000000 in
set_option maxRecDepth 100000 in
theorem need_stats (p : Option Addr) (A Az : Option Addr) (n c nz cz : Nat) (q : Rq) (W : World) (hq : q.kind = 7) :
    Calls Tryz.prog 18 #[.pointer p, .agg (rqC (.slice A n c) q), .slice Az nz cz] W (NeedQ W [(0, false)]) := by
  have bo := (Below.refl W.heap.size W).alloc (Nat.le_refl _) (.cells (rqC (.slice A n c) q) 43)
  have HB := Lib.hid bo
  have C1 := Lib.hid (touch_7 A Az n c nz cz q (W.alloc (.cells (rqC (.slice A n c) q) 43)) hq)
  have hck := (Blk.new W 43 (rqC (.slice A n c) q)).cell
  clear bo hq
  go_enter Tryz.func18, Tryz.ntmps18
  go_wp2_with fail
  go_at_call 44; (with_reducible refine C1.out.mono ?_); rintro e w1 ⟨rfl, hb⟩
  have HB1 := Lib.hid (below_step HB.out hb (Nat.le_refl _))
  have t0 := tn_stats_cells
  have t1 := tn_stats_scan
  have t2 := tn_stats_seal
  have t3 := tn_stats_book
  have t4 := tn_stats
  clear hb C1 hck
  go_wp2_with fail
  go_ret
  have hs := HB1.out.size
  refine ⟨_, _, rfl, ?_, ?_⟩
  · have h9 := lock_lit (w1.alloc (.cells #[] 104)) [(0, false)] W.heap.size (Below.alloc HB1.out hs _).size (by simp)
    rw [show (w1.alloc (.cells #[] 104)).heap.size = w1.heap.size + 1 from Array.size_push ..] at h9
    exact h9
  · exact Below.alloc (Below.alloc HB1.out hs _) (Below.alloc HB1.out hs _).size _
set_option maxHeartbeats 4000000 in
set_option maxRecDepth 100000 in
theorem need_none (p : Option Addr) (A Az : Option Addr) (n c nz cz : Nat) (q : Rq) (W : World) (hq : q.kind < 1 ∨ 7 < q.kind) :
    Calls Tryz.prog 18 #[.pointer p, .agg (rqC (.slice A n c) q), .slice Az nz cz] W (NeedQ W []) := by
  have bo := (Below.refl W.heap.size W).alloc (Nat.le_refl _) (.cells (rqC (.slice A n c) q) 43)
  have HB := Lib.hid bo
  have C1 := Lib.hid (touch_none A Az n c nz cz q (W.alloc (.cells (rqC (.slice A n c) q) 43)) hq)
  have hck := (Blk.new W 43 (rqC (.slice A n c) q)).cell
  clear bo hq
  go_enter Tryz.func18, Tryz.ntmps18
  go_wp2_with fail
  go_at_call 44; (with_reducible refine C1.out.mono ?_); rintro e w1 ⟨rfl, hb⟩
  have HB1 := Lib.hid (below_step HB.out hb (Nat.le_refl _))
  have t0 := tn_nil_cells
  have t1 := tn_nil_scan
  have t2 := tn_nil_seal
  have t3 := tn_nil_book
  have t4 := tn_nil_stats
  clear hb C1 hck
  go_wp2_with fail
  go_ret
  exact ⟨none, 0, rfl, World.ownsRow_nil _ _ _ _, HB1.out⟩
theorem need_any (p : Option Addr) (A Az : Option Addr) (n c nz cz : Nat) (zs : List Int) (q : Rq) (W : World) (hqn : q.cs.length = n) (hzl : zs.length = nz) (hz : CellsAt W Az (ivs zs)) (hn : n ≤ 1000000) (hzm : ∀ z ∈ zs, z ≤ 1099511627776) :
    Calls Tryz.prog 18 #[.pointer p, .agg (rqC (.slice A n c) q), .slice Az nz cz] W (NeedQ W (needP q zs)) := by
  by_cases h12 : q.kind = 1 ∨ q.kind = 2
  · exact need_cells p q.kind h12 A Az n c nz cz zs q W rfl hqn hzl hz hn hzm
  · unfold needP
    rw [if_neg h12]
    by_cases h3 : q.kind = 3
    · rw [if_pos h3]
      by_cases he : q.epoch = 0
      · rw [if_neg (by simp [he])]
        exact need_seal3 p A Az n c nz cz q W h3 he
      · rw [if_pos he]
        exact need_scan p A Az n c nz cz q W h3 (by simpa using he)
    · rw [if_neg h3]
      by_cases h4 : q.kind = 4
      · rw [if_pos h4]
        exact need_seal4 p A Az n c nz cz q W h4
      · rw [if_neg h4]
        by_cases h56 : q.kind = 5 ∨ q.kind = 6
        · rw [if_pos h56]
          rcases h56 with h5 | h6
          · exact need_book5 p A Az n c nz cz q W h5
          · exact need_book6 p A Az n c nz cz q W h6
        · rw [if_neg h56]
          by_cases h7 : q.kind = 7
          · rw [if_pos h7]
            exact need_stats p A Az n c nz cz q W h7
          · rw [if_neg h7]
            exact need_none p A Az n c nz cz q W (by omega)
end Go.Proofs.YtglbdbghcdoicaaGreatDoor
