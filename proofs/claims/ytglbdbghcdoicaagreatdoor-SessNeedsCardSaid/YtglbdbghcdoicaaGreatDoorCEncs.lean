/- A region that reads and then tells a Writer: what lies in the world of such a function. The bytes of requests and responses; how the program lays a cell. The writing methods of each kind of request. The map of the writing methods. What is known of a request, a response that may be written. -/
import Derived.Test.YtglbdbghcdoicaaGreatDoorCCheckRs
import Derived.Test.YtglbdbghcdoicaaGreatDoorCMap
import Derived.Test.YtglbdbghcdoicaaGreatDoorWWs
import Derived.StillTailTactics
namespace Go.Proofs.YtglbdbghcdoicaaGreatDoor
open Go.RowKit

theorem wp_region_put {P : Program} {id : Nat} {Q : Exit → Act → World → Prop} {a : Act} {w : World} {l : List Oper} (n : Nat) (hm : P.follows .mixedOrders = true) (hB : Region.lexTailB .any l.toArray n = true) {S : World → Prop} (hS : S w) (hd : ∀ w, S w → S w.drew)
    (h : ∀ w2, S w2 → wpStill P l.toArray w2 (fun a' => wpList P l.toArray Q (l.drop n) a' w2) (l.take n) a) : (Code.region id l.toArray true).wp P Q a w :=
  wp_region_still_tail n hm hB (h w.drew (hd w hS))

/-- A Writer at p, written from v0 on, and beside it a block i that stays. -/
structure Oc (W : World) (p base : Nat) (v0 : Value) (i : Nat) (t : TypeId) (cs : Array Value) (v : Value) (bs : List Int) (W' : World) : Prop where
  blk : Blk W' i t cs
  wr : Wr W' base p v bs
  fr : WrFr W p v0 W' v
  ne : v.ownBlock ≠ some i
  ip : i ≠ p
section
variable {W W' W'' : World} {p base i : Nat} {v0 v v' : Value} {t : TypeId} {cs : Array Value} {bs bs' : List Int}
theorem Oc.start (h : Wr W base p v bs) : Oc W p base v W.heap.size t cs v bs (W.alloc (.cells cs t)) :=
  ⟨Blk.new W t cs, h.kept (Below.alloc (Below.refl _ _) (Nat.le_refl _) _), ⟨(Tur.refl _ W).alloc _, .inl rfl⟩, fun e => absurd (h.own.lt _ e).2 (Nat.lt_irrefl _), fun e => absurd h.blk.lt (by omega)⟩
theorem Oc.drew (h : Oc W p base v0 i t cs v bs W') : Oc W p base v0 i t cs v bs W'.drew :=
  ⟨h.blk.drew, h.wr.kept (Below.refl _ _).drew, ⟨⟨h.fr.1.os, h.fr.1.tape, h.fr.1.output, h.fr.1.size, h.fr.1.block⟩, h.fr.2⟩, h.ne, h.ip⟩
theorem Oc.step (h : Oc W p base v0 i t cs v bs W') (hr : Wr W'' base p v' bs') (hf : WrFr W' p v W'' v') : Oc W p base v0 i t cs v' bs' W'' :=
  ⟨h.blk.tur hf.1 (fun e => e.elim h.ip (fun e => h.ne e)), hr, h.fr.trans hf, (by
    rcases hf.2 with e | ⟨k, e, hk⟩
    · rw [e]; exact h.ne
    · rw [e]; intro e'; cases e'; exact absurd h.blk.lt (by omega)), h.ip⟩
end
end Go.Proofs.YtglbdbghcdoicaaGreatDoor

namespace Go.Proofs.YtglbdbghcdoicaaGreatDoor
open Go.RowKit

def cellE (c : CellV) : List Int := sev c.view.toNat ++ (sev c.key.size ++ strB c.key) ++ sev (zz c.start)
structure I64C (x : Int) : Prop where
  lo : -9223372036854775808 ≤ x
  hi : x ≤ 9223372036854775807
structure CellOk (c : CellV) : Prop where
  view : I64C c.view
  key : c.key.size ≤ 140737488351232
  start : I64C c.start
set_option maxHeartbeats 2000000 in
set_option maxRecDepth 100000 in
theorem oc_cell (c : CellV) (hc : CellOk c) (base p : Nat) (v : Value) (bs : List Int) (W : World) (h : Wr W base p v bs) (hbs : bs.length + 30 + c.key.size ≤ 140737488355328) :
    Calls Tryz.prog 87 #[.pointer (some ⟨p, 0, none⟩), cellV c] W fun e w' => e = .returned (.tuple #[]) ∧ ∃ v', Wr w' base p v' (bs ++ cellE c) ∧ WrFr W p v w' v' := by
  have H := Lib.hid h
  have HC := Lib.hid hc
  have HBS := Lib.hid hbs
  clear h hc hbs
  go_enter Tryz.func87, Tryz.ntmps87
  go_wp2
  refine wp_region_put 5 (by kernel_rfl) (by kernel_rfl) ((Oc.start H.out)) (fun _ h => h.drew) ?_
  simp only [List.take_succ_cons, List.take_zero, List.drop_succ_cons, List.drop_zero]
  intro w2 h2
  have c0 := h2.blk.cell 0
  have H2 := Lib.hid h2
  simp at c0
  clear h2
  repeat still_step
  try refine wpStill_nil ?_
  go_wp2_with fail
  go_at_call 85; (with_reducible refine (w_num c.view HC.out.view.hi base p v bs w2 H2.out.wr (by have := HBS.out; omega)).mono ?_); rintro e w3 ⟨rfl, v3, hr3, hf3⟩
  have H3 := Lib.hid (H2.out.step hr3 hf3)
  clear hr3 hf3 c0 H2
  go_wp2_with fail
  refine wp_region_put 5 (by kernel_rfl) (by kernel_rfl) (H3.out) (fun _ h => h.drew) ?_
  simp only [List.take_succ_cons, List.take_zero, List.drop_succ_cons, List.drop_zero]
  intro w4 h4
  have c1 := h4.blk.cell 1
  have H4 := Lib.hid h4
  simp at c1
  clear h4
  repeat still_step
  try refine wpStill_nil ?_
  go_wp2_with fail
  go_at_call 130; (with_reducible refine (w_text c.key base p v3 _ w4 H4.out.wr (by have := HBS.out; have := sev_len10 c.view.toNat (by have := HC.out.view.hi; omega); simp; omega)).mono ?_); rintro e w5 ⟨rfl, v5, hr5, hf5⟩
  have H5 := Lib.hid (H4.out.step hr5 hf5)
  clear hr5 hf5 c1 H4
  go_wp2_with fail
  refine wp_region_put 5 (by kernel_rfl) (by kernel_rfl) (H5.out) (fun _ h => h.drew) ?_
  simp only [List.take_succ_cons, List.take_zero, List.drop_succ_cons, List.drop_zero]
  intro w6 h6
  have c2 := h6.blk.cell 2
  have H6 := Lib.hid h6
  simp at c2
  clear h6
  repeat still_step
  try refine wpStill_nil ?_
  go_wp2_with fail
  go_at_call 88; (with_reducible refine (w_int c.start HC.out.start.lo HC.out.start.hi base p v5 _ w6 H6.out.wr (by have := HBS.out; have := sev_len10 c.view.toNat (by have := HC.out.view.hi; omega); have := sev_len10 c.key.size (by have := HC.out.key; omega); simp [strB_len]; omega)).mono ?_); rintro e w7 ⟨rfl, v7, hr7, hf7⟩
  have H7 := Lib.hid (H6.out.step hr7 hf7)
  clear hr7 hf7 c2 H6
  go_wp2_with fail
  go_end0
  exact ⟨rfl, v7, by simpa [cellE] using H7.out.wr, H7.out.fr⟩
end Go.Proofs.YtglbdbghcdoicaaGreatDoor

namespace Go.Proofs.YtglbdbghcdoicaaGreatDoor
open Go.RowKit

/-- Cells that lie below B. -/
def CellsB (B : Nat) (W : World) (A : Option Addr) (cs : List CellV) : Prop :=
  ∀ k (h : k < cs.length), ∃ ad, A = some ad ∧ ad.block < B ∧ ∀ j v, (cs[k].cells)[j]? = some v → W.cell? (ad.add (k * 3 + j)) = some v
def RowsB (B : Nat) (W : World) (A : Option Addr) (rs : List RowV) : Prop :=
  ∀ k (h : k < rs.length), ∃ ad, A = some ad ∧ ad.block < B ∧ ∀ j v, (rs[k].cells)[j]? = some v → W.cell? (ad.add (k * 7 + j)) = some v
theorem CellsRd.B {W : World} {A : Option Addr} {cs : List CellV} (h : CellsRd W A cs) : CellsB W.heap.size W A cs := h
theorem RowsRd.B {W : World} {A : Option Addr} {rs : List RowV} (h : RowsRd W A rs) : RowsB W.heap.size W A rs := h
theorem CellsB.below {B : Nat} {W W' : World} {A : Option Addr} {cs : List CellV} (h : CellsB B W A cs) (hb : Below B W W') : CellsB B W' A cs := fun k hk => by
  obtain ⟨ad, e, hl, hc⟩ := h k hk
  exact ⟨ad, e, hl, fun j v hj => (hb.cell (by rw [block_addC]; exact hl)).trans (hc j v hj)⟩
theorem RowsB.below {B : Nat} {W W' : World} {A : Option Addr} {rs : List RowV} (h : RowsB B W A rs) (hb : Below B W W') : RowsB B W' A rs := fun k hk => by
  obtain ⟨ad, e, hl, hc⟩ := h k hk
  exact ⟨ad, e, hl, fun j v hj => (hb.cell (by rw [block_addC]; exact hl)).trans (hc j v hj)⟩
theorem CellsB.mono {B B' : Nat} {W : World} {A : Option Addr} {cs : List CellV} (h : CellsB B W A cs) (hB : B ≤ B') : CellsB B' W A cs := fun k hk => by
  obtain ⟨ad, e, hl, hc⟩ := h k hk
  exact ⟨ad, e, by omega, hc⟩
theorem RowsB.mono {B B' : Nat} {W : World} {A : Option Addr} {rs : List RowV} (h : RowsB B W A rs) (hB : B ≤ B') : RowsB B' W A rs := fun k hk => by
  obtain ⟨ad, e, hl, hc⟩ := h k hk
  exact ⟨ad, e, by omega, hc⟩
theorem CellsB.at {B : Nat} {W W' : World} {A : Option Addr} {cs : List CellV} (h : CellsB B W A cs) (hb : Below B W W') (k : Nat) (hk : k < cs.length) :
    ∃ ad, A = some ad ∧ W'.cell? (ad.add (k * 3)) = some (.int .i64 cs[k].view) ∧ W'.cell? (fldN ad 3 k 1) = some (.string cs[k].key) ∧ W'.cell? (fldN ad 3 k 2) = some (.int .i64 cs[k].start) := by
  obtain ⟨ad, e, hl, hc⟩ := h.below hb k hk
  exact ⟨ad, e, hc 0 _ rfl, fldN_eq ad 3 k 1 (by omega) ▸ hc 1 _ rfl, fldN_eq ad 3 k 2 (by omega) ▸ hc 2 _ rfl⟩
theorem RowsB.at {B : Nat} {W W' : World} {A : Option Addr} {rs : List RowV} (h : RowsB B W A rs) (hb : Below B W W') (k : Nat) (hk : k < rs.length) :
    ∃ ad, A = some ad ∧ W'.cell? (ad.add (k * 7)) = some (.int .i64 rs[k].cell.view) ∧ W'.cell? (fldN ad 7 k 1) = some (.string rs[k].cell.key) ∧ W'.cell? (fldN ad 7 k 2) = some (.int .i64 rs[k].cell.start) ∧
      W'.cell? (fldN ad 7 k 3) = some (.int .i64 rs[k].count) ∧ W'.cell? (fldN ad 7 k 4) = some (.int .i64 rs[k].sum) ∧ W'.cell? (fldN ad 7 k 5) = some (.int .i64 rs[k].min) ∧ W'.cell? (fldN ad 7 k 6) = some (.int .i64 rs[k].max) := by
  obtain ⟨ad, e, hl, hc'⟩ := h.below hb k hk
  exact ⟨ad, e, hc' 0 _ rfl, fldN_eq ad 7 k 1 (by omega) ▸ hc' 1 _ rfl, fldN_eq ad 7 k 2 (by omega) ▸ hc' 2 _ rfl, fldN_eq ad 7 k 3 (by omega) ▸ hc' 3 _ rfl, fldN_eq ad 7 k 4 (by omega) ▸ hc' 4 _ rfl, fldN_eq ad 7 k 5 (by omega) ▸ hc' 5 _ rfl, fldN_eq ad 7 k 6 (by omega) ▸ hc' 6 _ rfl⟩

/-- A small cell. -/
structure CellS (c : CellV) : Prop where
  view : I64C c.view
  key : c.key.size ≤ 32
  start : I64C c.start
theorem CellS.ok {c : CellV} (h : CellS c) : CellOk c := ⟨h.view, by have := h.key; omega, h.start⟩
theorem zz_lt {n : Int} (h : I64C n) : zz n < 18446744073709551616 := by
  have := h.lo
  have := h.hi
  unfold zz
  split <;> omega
theorem cellE_len {c : CellV} (h : CellS c) : (cellE c).length ≤ 62 := by
  have := h.key
  have := h.view.hi
  have h1 := sev_len10 c.view.toNat (by omega)
  have h2 := sev_len10 c.key.size (by omega)
  have h3 := sev_len10 (zz c.start) (zz_lt h.start)
  simp only [cellE, List.length_append, strB_len]
  omega
def cellsE (cs : List CellV) : List Int := cs.flatMap cellE
theorem cellsE_len : ∀ (cs : List CellV), (∀ c ∈ cs, CellS c) → (cellsE cs).length ≤ 62 * cs.length
  | [], _ => by simp [cellsE]
  | c :: cs, h => by
    have h1 := cellE_len (h c (List.mem_cons_self ..))
    have h2 := cellsE_len cs (fun x hx => h x (List.mem_cons_of_mem _ hx))
    simp only [cellsE, List.flatMap_cons, List.length_append, List.length_cons] at h2 ⊢
    omega
theorem cellsE_take (cs : List CellV) (k : Nat) (hk : k < cs.length) : cellsE (cs.take (k + 1)) = cellsE (cs.take k) ++ cellE cs[k] := by
  simp only [cellsE]
  rw [List.take_succ_eq_append_getElem hk, List.flatMap_append]
  simp
def bodyRq (q : Rq) : List Int :=
  if q.kind = 1 then sev q.epoch.toNat ++ cellsE q.cs
  else if q.kind = 2 then sev q.epoch.toNat ++ (sev q.cs.length ++ cellsE q.cs)
  else if q.kind = 3 then sev q.epoch.toNat ++ (cellE q.frm ++ (cellE q.too ++ sev q.limit.toNat))
  else if q.kind = 5 ∨ q.kind = 6 then sev q.epoch.toNat
  else []
def encRq (q : Rq) : List Int := sev q.kind.toNat ++ (sev q.id.toNat ++ bodyRq q)

section
variable {W W' W'' : World} {p base i : Nat} {v0 v v' : Value} {t : TypeId} {cs : Array Value} {bs bs' : List Int}
theorem Oc.alloc (h : Oc W p base v0 i t cs v bs W') (o : Obj) : Oc W p base v0 i t cs v bs (W'.alloc o) :=
  ⟨h.blk.alloc o, h.wr.kept ((Below.refl _ _).alloc (Nat.le_refl _) o), ⟨h.fr.1.alloc o, h.fr.2⟩, h.ne, h.ip⟩
theorem Oc.below (h : Oc W p base v0 i t cs v bs W') (h0 : Wr W base p v0 bs') : Below base W W' := h0.fr_below h.fr
end
abbrev WrQ (W : World) (base p : Nat) (v : Value) (bs : List Int) (e : Ending) (w' : World) : Prop := e = .returned (.tuple #[]) ∧ ∃ v', Wr w' base p v' bs ∧ WrFr W p v w' v'

end Go.Proofs.YtglbdbghcdoicaaGreatDoor

namespace Go.Proofs.YtglbdbghcdoicaaGreatDoor
open Go.RowKit

theorem run_makeMap (t : TypeId) (w : World) : (Instr.makeMap t none).run Tryz.prog w = .ok (.map (some w.heap.size)) (w.alloc (.map #[] 0)) := by
  simp [Instr.makeMap, Result.andThen]
theorem run_makeFunc (fn : Fn) (first cap : Array Value) (w : World) : (Instr.makeFunc fn first cap).run Tryz.prog w = .ok (.func fn first cap) w := rfl
theorem below_grown_own {w w1 w2 : World} {b : Nat} (h : Below w.heap.size w w1) (hg : w1.grownBy w2 (some b)) (hb : w.heap.size ≤ b) : Below w.heap.size w w2 :=
  ⟨hg.os.trans h.os, hg.tape.trans h.tape, hg.output.trans h.output, Nat.le_trans h.size hg.size, fun k hk => (hg.block k (Nat.lt_of_lt_of_le hk h.size) (fun e => by cases e; omega)).trans (h.block k hk)⟩

end Go.Proofs.YtglbdbghcdoicaaGreatDoor

namespace Go.Proofs.YtglbdbghcdoicaaGreatDoor
open Go.RowKit

structure PlaceOk (c : CellV) (most least : Int) : Prop where
  v0 : 0 ≤ c.view
  v1 : c.view ≤ most
  k0 : least ≤ (c.key.size : Int)
  k1 : c.key.size ≤ 32
  s0 : -2305843009213693952 ≤ c.start
  s1 : c.start ≤ 2305843009213693952
theorem place_ok {c : CellV} {most least : Int} (h : placeP c most least = 0) : PlaceOk c most least := by
  unfold placeP at h
  split at h
  · omega
  · split at h
    · omega
    · split at h
      · omega
      · constructor <;> omega
theorem PlaceOk.back {c : CellV} {most least : Int} (h : PlaceOk c most least) : placeP c most least = 0 := by
  obtain ⟨a, b, d, e, f, g⟩ := h
  unfold placeP
  rw [if_neg (by omega), if_neg (by omega), if_neg (by omega)]
theorem PlaceOk.S {c : CellV} {most least : Int} (h : PlaceOk c most least) (hm : most ≤ 4) : CellS c := by
  obtain ⟨a, b, d, e, f, g⟩ := h
  exact ⟨⟨by omega, by omega⟩, e, ⟨by omega, by omega⟩⟩
theorem firstP_all : ∀ (cs : List CellV), firstP cs = 0 → ∀ c ∈ cs, PlaceOk c 3 1
  | [], _, c, hc => absurd hc (by simp)
  | x :: cs, h, c, hc => by
    unfold firstP at h
    split at h
    · rename_i h0
      rcases List.mem_cons.mp hc with rfl | hc
      · exact place_ok h0
      · exact firstP_all cs h c hc
    · rename_i h0
      exact absurd h h0
structure RqGood (q : Rq) : Prop where
  k1 : 1 ≤ q.kind
  k7 : q.kind ≤ 7
  id0 : 0 ≤ q.id
  id1 : q.id ≤ 1099511627776
  ep0 : 0 ≤ q.epoch
  ep1 : q.epoch ≤ 1099511627776
  cells : ∀ c ∈ q.cs, PlaceOk c 3 1
  len : q.cs.length ≤ 16
  one : q.kind = 1 → q.cs.length = 1
  many : q.kind = 2 → q.cs.length ≠ 0
  nocs : q.kind ≠ 1 → q.kind ≠ 2 → q.cs = []
  scan : q.kind = 3 → PlaceOk q.frm 4 0 ∧ PlaceOk q.too 4 0 ∧ 1 ≤ q.limit ∧ q.limit ≤ 256
  noscan : q.kind ≠ 3 → q.frm = cell0 ∧ q.too = cell0 ∧ q.limit = 0
  bare : q.kind = 4 ∨ q.kind = 7 → q.epoch = 0
  ep : q.kind = 5 ∨ q.kind = 6 → q.epoch ≠ 0
theorem small_ok {n : Int} (h : ¬ smallP n = false) : 0 ≤ n ∧ n ≤ 1099511627776 := by
  have h : smallP n = true := by simpa using h
  simpa [smallP] using h
theorem rq_good {q : Rq} (h : checkRq q = 0) : RqGood q := by
  unfold checkRq at h
  split at h
  · omega
  · rename_i h1
    split at h
    · omega
    · rename_i h2
      simp only [not_or] at h2
      obtain ⟨i1, i2, i3⟩ := h2
      have i1 := small_ok i1
      have i3 := small_ok i3
      split at h
      · omega
      · rename_i h3
        split at h
        · omega
        · rename_i h4
          split at h
          · omega
          · rename_i h5
            split at h
            · rename_i h6; exact absurd h h6
            · rename_i h6
              have h6 : firstP q.cs = 0 := by simpa using h6
              have hs : q.kind = 3 → scanP q = 0 := fun e => by rw [if_pos e] at h; exact h
              unfold unusedP at i2
              simp only [not_or] at i2
              obtain ⟨u1, u2, u3⟩ := i2
              refine ⟨by omega, by omega, i1.1, i1.2, i3.1, i3.2, firstP_all _ h6, by omega, fun e => by omega, fun e => by omega, fun e1 e2 => ?_, fun e => ?_, fun e => ?_, fun e => ?_, fun e => by omega⟩
              · by_cases hc : q.cs = []
                · exact hc
                · exact absurd ⟨e1, e2, hc⟩ u2
              · have hs := hs e
                unfold scanP at hs
                split at hs
                · rename_i g; exact absurd hs g
                · rename_i g
                  split at hs
                  · rename_i g2; exact absurd hs g2
                  · rename_i g2
                    split at hs
                    · omega
                    · exact ⟨place_ok (by simpa using g), place_ok (by simpa using g2), by omega, by omega⟩
              · have u : ¬ (q.frm ≠ cell0 ∨ q.too ≠ cell0 ∨ q.limit ≠ 0) := fun hx => u1 ⟨e, hx⟩
                simpa [not_or] using u
              · have u : ¬ (q.epoch ≠ 0) := fun hx => u3 ⟨e, hx⟩
                simpa using u
theorem firstP_of : ∀ (cs : List CellV), (∀ c ∈ cs, PlaceOk c 3 1) → firstP cs = 0
  | [], _ => rfl
  | x :: cs, h => by
    unfold firstP
    rw [if_pos (h x (List.mem_cons_self ..)).back]
    exact firstP_of cs (fun c hc => h c (List.mem_cons_of_mem _ hc))
structure RowOk (r : RowV) : Prop where
  cell : PlaceOk r.cell 3 1
  c0 : 0 ≤ r.count
  zero : r.count = 0 → r.sum = 0 ∧ r.min = 0 ∧ r.max = 0
  mm : r.min ≤ r.max
theorem row_ok {r : RowV} (h : rowP r = 0) : RowOk r := by
  unfold rowP at h
  split at h
  · rename_i g; exact absurd h g
  · rename_i g
    split at h
    · omega
    · rename_i g2
      simp only [not_or] at g2
      obtain ⟨a, b, c⟩ := g2
      refine ⟨place_ok (by simpa using g), by omega, fun e => ?_, by omega⟩
      have u : ¬ (r.sum ≠ 0 ∨ r.min ≠ 0 ∨ r.max ≠ 0) := fun hx => b ⟨e, hx⟩
      simpa [not_or] using u
theorem firstR_all : ∀ (cs : List RowV), firstR cs = 0 → ∀ c ∈ cs, RowOk c
  | [], _, c, hc => absurd hc (by simp)
  | x :: cs, h, c, hc => by
    unfold firstR at h
    split at h
    · rename_i h0
      rcases List.mem_cons.mp hc with rfl | hc
      · exact row_ok h0
      · exact firstR_all cs h c hc
    · rename_i h0
      exact absurd h h0
structure StOk (s : StV) : Prop where
  a : 0 ≤ s.taken ∧ s.taken ≤ 1099511627776
  b : 0 ≤ s.late ∧ s.late ≤ 1099511627776
  c : 0 ≤ s.over ∧ s.over ≤ 1099511627776
  d : 0 ≤ s.full ∧ s.full ≤ 1099511627776
  e : 0 ≤ s.cells ∧ s.cells ≤ 1099511627776
  f : 0 ≤ s.now ∧ s.now ≤ 1099511627776
structure RsGood (r : Rs) : Prop where
  k1 : 1 ≤ r.kind
  k5 : r.kind ≤ 5
  id0 : 0 ≤ r.id
  id1 : r.id ≤ 1099511627776
  rows : ∀ x ∈ r.rows, RowOk x
  len : r.rows.length ≤ 256
  norows : r.kind ≠ 1 → r.rows = []
  ep : r.kind = 2 → 1 ≤ r.epoch ∧ r.epoch ≤ 1099511627776
  noep : r.kind ≠ 2 → r.epoch = 0
  st : r.kind = 4 → StOk r.st
  nost : r.kind ≠ 4 → r.st = st0
  err : r.kind = 5 → 1 ≤ r.err ∧ r.err ≤ 255
  noerr : r.kind ≠ 5 → r.err = 0
theorem rs_good {r : Rs} (h : checkRs r = 0) : RsGood r := by
  unfold checkRs at h
  split at h
  · omega
  · rename_i h1
    split at h
    · omega
    · rename_i h2
      simp only [not_or] at h2
      obtain ⟨i1, i2⟩ := h2
      have i1 := small_ok i1
      split at h
      · omega
      · rename_i h3
        split at h
        · rename_i h4; exact absurd h h4
        · rename_i h4
          have h4 : firstR r.rows = 0 := by simpa using h4
          unfold spareP at i2
          simp only [not_or] at i2
          obtain ⟨u1, u2, u3, u4⟩ := i2
          refine ⟨by omega, by omega, i1.1, i1.2, firstR_all _ h4, by omega, fun e => ?_, fun e => ?_, fun e => ?_, fun e => ?_, fun e => ?_, fun e => ?_, fun e => ?_⟩
          · have u : ¬ (r.rows ≠ []) := fun hx => u1 ⟨e, hx⟩
            simpa using u
          · rw [if_pos e] at h
            split at h
            · omega
            · omega
          · have u : ¬ (r.epoch ≠ 0) := fun hx => u2 ⟨e, hx⟩
            simpa using u
          · rw [if_neg (by omega), if_pos e] at h
            unfold stP at h
            split at h
            · rename_i g
              simp [smallP] at g
              constructor <;> omega
            · omega
          · have u : ¬ (r.st ≠ st0) := fun hx => u3 ⟨e, hx⟩
            simpa using u
          · rw [if_neg (by omega), if_neg (by omega), if_pos e] at h
            split at h
            · omega
            · omega
          · have u : ¬ (r.err ≠ 0) := fun hx => u4 ⟨e, hx⟩
            simpa using u
end Go.Proofs.YtglbdbghcdoicaaGreatDoor
