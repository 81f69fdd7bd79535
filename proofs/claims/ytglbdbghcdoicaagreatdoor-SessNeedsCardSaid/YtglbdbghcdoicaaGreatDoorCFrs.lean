/- The law's own Fault: is an error that fault? within; front. The law's own front: is the one row of bytes a front of the other? Encode of any request, any response; arguments at hand. CodecUnlike: the walk. -/
import Derived.Test.YtglbdbghcdoicaaGreatDoorWIs
import Derived.Test.YtglbdbghcdoicaaGreatDoorWRows
import Derived.Test.YtglbdbghcdoicaaGreatDoorWReader
import Derived.Test.YtglbdbghcdoicaaGreatDoorCPls
import Derived.Test.YtglbdbghcdoicaaGreatDoorCSm
import Derived.Test.YtglbdbghcdoicaaGreatDoorCEncRs
import Derived.Test.YtglbdbghcdoicaaGreatDoorCSameRq
namespace Go.Proofs.YtglbdbghcdoicaaGreatDoor
open Go.RowKit

set_option maxRecDepth 100000 in
theorem fault_no (p : Int) (W : World) :
    Calls Tryz.prog 30 #[.nilIface, .int .i64 0, .int .i64 p] W fun ev w' => ev = .returned (.bool true) ∧ Below W.heap.size W w' := by
  go_enter Tryz.func30, Tryz.ntmps30
  go_wp2
  go_ret
  exact ⟨rfl, Below.refl _ _⟩

set_option maxHeartbeats 4000000 in
set_option maxRecDepth 100000 in
theorem fault_yes (g : Nat) (e p : Int) (W : World) (hT : W.cell? ⟨0, 0, none⟩ = some tyErr) (he : (e == 0) = false) (hg : Blk W g 111 #[.int .i64 e, .int .i64 p]) :
    Calls Tryz.prog 30 #[errV g, .int .i64 e, .int .i64 p] W fun ev w' => ev = .returned (.bool true) ∧ Below W.heap.size W w' := by
  have HG := Lib.hid hg
  have HT := Lib.hid (fun (W9 : World) (h : Below W.heap.size W W9) => (h.cell (p := ⟨0, 0, none⟩) (World.block_lt_of_cell? W _ hT)).trans hT)
  have BA := Lib.hid ((Below.refl W.heap.size W).alloc (Nat.le_refl _) (.cells #[.pointer none] 107))
  have x0 : (W.alloc (.cells #[.pointer none] 107)).cell? ⟨W.heap.size, 0, none⟩ = some (.pointer none) := (Blk.new W 107 #[.pointer none]).cell 0
  clear hT hg
  go_enter Tryz.func30, Tryz.ntmps30
  go_wp2_with fail
  go_at_call 51; (with_reducible refine (as_err g W.heap.size (.pointer none) _ (HT.out _ BA.out) x0 ((Blk.new W 107 #[.pointer none]).frozen 0)).mono ?_); rintro ev w1 ⟨W2, rfl, hw, hb⟩
  have B1 := Lib.hid (show Below W.heap.size W w1 from hw ▸ (BA.out.trans (hb.mono BA.out.size)).setCell (p := ⟨W.heap.size, 0, none⟩) (Nat.le_refl _) _)
  have t0 : w1.cell? ⟨W.heap.size, 0, none⟩ = some (.pointer (some ⟨g, 0, none⟩)) := by
    have := ((Blk.new W 107 #[.pointer none]).kept hb).set_ 0 (.pointer (some ⟨g, 0, none⟩))
    rw [hw]
    exact this.cell 0
  have G1 := Lib.hid (HG.out.kept B1.out)
  have g0 : w1.cell? ⟨g, 0, none⟩ = some (.int .i64 e) := G1.out.cell 0
  have g1 : w1.cell? ⟨g, 1, none⟩ = some (.int .i64 p) := G1.out.cell 1
  clear hw hb
  go_wp2_with fail
  go_at_call 54; (with_reducible refine (show Calls Tryz.prog 54 #[errV g, .iface 26 (.int .i64 e)] w1 fun ev w' => ev = .returned (.bool true) ∧ w1 = w' from by have := is_err g e p e w1 G1.out; simpa using this).mono ?_); rintro ev w2 ⟨rfl, rfl⟩
  go_wp2
  go_ret
  exact ⟨rfl, B1.out⟩

/-- Is the one a front of the other? -/
def frontP (xs ys : List Int) : Bool := decide (xs.length ≤ ys.length) && decide (ys.take xs.length = xs)
theorem frontP_iff (xs ys : List Int) : frontP xs ys = true ↔ ∃ rest, ys = xs ++ rest := by
  unfold frontP
  simp only [Bool.and_eq_true, decide_eq_true_eq]
  constructor
  · rintro ⟨_, h⟩
    exact ⟨ys.drop xs.length, by
      have := List.take_append_drop xs.length ys
      rw [h] at this
      exact this.symm⟩
  · rintro ⟨rest, rfl⟩
    exact ⟨by simp, by simp⟩
end Go.Proofs.YtglbdbghcdoicaaGreatDoor

namespace Go.Proofs.YtglbdbghcdoicaaGreatDoor
open Go.RowKit

theorem strOfNums_inj {xs ys : List Int} (hx : Byt xs) (hy : Byt ys) : strOfNums xs = strOfNums ys ↔ xs = ys := by
  constructor
  · intro h
    have := congrArg strB h
    rwa [strB_strOfNums hx, strB_strOfNums hy] at this
  · intro h; rw [h]
theorem CellsAt.take_ {W : World} {A : Option Addr} {us : List Value} (h : CellsAt W A us) (k : Nat) : CellsAt W A (us.take k) := fun j hj => by
  rw [List.length_take] at hj
  obtain ⟨ad, e, h1, h2⟩ := h j (by omega)
  exact ⟨ad, e, h1, by rw [h2, List.getElem_take]⟩
theorem byt_of {xs : List Int} (h : ∀ x ∈ xs, (Lit.int .u8 x).wf = true) : Byt xs := fun x hx => by have := bounds_u8 (h x hx); omega
end Go.Proofs.YtglbdbghcdoicaaGreatDoor

namespace Go.Proofs.YtglbdbghcdoicaaGreatDoor
open Go.RowKit

/-- A request, a response that lies in the world. -/
structure RqA (W : World) (A : Option Addr) (n : Nat) (q : Rq) : Prop where
  len : q.cs.length = n
  rd : CellsRd W A q.cs
  big : n ≤ 9223372036854775807
  ok : RqOk q
structure RsA (W : World) (A : Option Addr) (n : Nat) (r : Rs) : Prop where
  len : r.rows.length = n
  rd : RowsRd W A r.rows
  big : n ≤ 9223372036854775807
  ok : RsOk r
  rows : ∀ x ∈ r.rows, RowI x
theorem RqA.below {W W' : World} {A : Option Addr} {n : Nat} {q : Rq} (h : RqA W A n q) (hb : Below W.heap.size W W') : RqA W' A n q := ⟨h.len, h.rd.below hb, h.big, h.ok⟩
theorem RsA.below {W W' : World} {A : Option Addr} {n : Nat} {r : Rs} (h : RsA W A n r) (hb : Below W.heap.size W W') : RsA W' A n r := ⟨h.len, h.rd.below hb, h.big, h.ok, h.rows⟩
def encB (q : Rq) : List Int := if checkRq q = 0 then encRq q else []
def encS (r : Rs) : List Int := if checkRs r = 0 then encRs r else []
def EncA (W : World) (bs : List Int) (code : Int) (e : Ending) (w' : World) : Prop :=
  ∃ B, e = .returned (.tuple #[.slice B bs.length bs.length, .int .i64 code]) ∧ RowAt w' B bs.length W.heap.size bs ∧ Below W.heap.size W w'
theorem enc_rs {A : Option Addr} {n : Nat} {r : Rs} {W : World} (h : RsA W A n r) (c : Nat) :
    Calls Tryz.prog 59 #[.agg (rsC (.slice A n c) r)] W (EncA W (encS r) (checkRs r)) := by
  unfold encS
  by_cases h0 : checkRs r = 0
  · rw [if_pos h0, h0]
    exact encode_rs A n c r W h.len h.rd h.big h.ok h0 h.rows
  · rw [if_neg h0]
    refine (encode_rs_no A n c r W h.len h.rd h.big h.ok h0).mono ?_
    rintro e w' ⟨rfl, hb⟩
    exact ⟨none, rfl, .inl ⟨rfl, rfl, rfl⟩, hb⟩
theorem Byt.append {xs ys : List Int} (h : Byt xs) (h2 : Byt ys) : Byt (xs ++ ys) := fun x hx => by
  rcases List.mem_append.1 hx with hx | hx
  · exact h x hx
  · exact h2 x hx
theorem Byt.flat {α : Type} {f : α → List Int} {l : List α} (h : ∀ a ∈ l, Byt (f a)) : Byt (l.flatMap f) := fun x hx => by
  obtain ⟨a, ha, hx⟩ := List.mem_flatMap.1 hx
  exact h a ha x hx
theorem sev_byt (n : Nat) : Byt (sev n) := by
  induction n using Nat.strongRecOn with
  | ind n ih =>
    intro x hx
    by_cases h : n < 128
    · rw [sev_small n h, List.mem_singleton] at hx
      subst hx
      omega
    · rw [sev_big n h] at hx
      rcases List.mem_cons.1 hx with rfl | hx
      · omega
      · exact ih (n / 128) (by omega) x hx
theorem strB_byt (s : ByteArray) : Byt (strB s) := fun x hx => by
  unfold strB at hx
  obtain ⟨b, _, rfl⟩ := List.mem_map.1 hx
  have := b.toNat_lt
  omega
theorem cellE_byt (c : CellV) : Byt (cellE c) := ((sev_byt _).append ((sev_byt _).append (strB_byt _))).append (sev_byt _)
theorem Byt.nil : Byt [] := fun x hx => by cases hx
theorem encRq_byt (q : Rq) : Byt (encRq q) := by
  refine (sev_byt _).append ((sev_byt _).append ?_)
  unfold bodyRq
  have hc : Byt (cellsE q.cs) := Byt.flat (fun a _ => cellE_byt a)
  split
  · exact (sev_byt _).append hc
  · split
    · exact (sev_byt _).append ((sev_byt _).append hc)
    · split
      · exact (sev_byt _).append ((cellE_byt _).append ((cellE_byt _).append (sev_byt _)))
      · split
        · exact sev_byt _
        · exact Byt.nil
theorem rowE_byt (r : RowV) : Byt (rowE r) := (cellE_byt _).append ((sev_byt _).append ((sev_byt _).append ((sev_byt _).append (sev_byt _))))
theorem encRs_byt (r : Rs) : Byt (encRs r) := by
  refine (sev_byt _).append ((sev_byt _).append ?_)
  unfold bodyRs
  split
  · exact (sev_byt _).append (Byt.flat (fun a _ => rowE_byt a))
  · split
    · exact sev_byt _
    · split
      · exact Byt.flat (fun a _ => sev_byt _)
      · split
        · exact sev_byt _
        · exact Byt.nil
theorem encB_byt (q : Rq) : Byt (encB q) := by
  unfold encB
  split
  · exact encRq_byt q
  · exact Byt.nil
theorem encS_byt (q : Rs) : Byt (encS q) := by
  unfold encS
  split
  · exact encRs_byt q
  · exact Byt.nil
theorem byt_wf {xs : List Int} (h : Byt xs) : ∀ x ∈ xs, (Lit.int .u8 x).wf = true := fun x hx => by
  have := h x hx
  show (decide (IntKind.u8.min ≤ x) && decide (x ≤ IntKind.u8.max)) = true
  simp only [Bool.and_eq_true, decide_eq_true_eq]
  have h1 : IntKind.u8.min = 0 := rfl
  have h2 : IntKind.u8.max = 255 := rfl
  omega
theorem encB_len {W : World} {A : Option Addr} {n : Nat} {q : Rq} (_ : RqA W A n q) : (encB q).length ≤ 800 := by
  unfold encB
  split
  · rename_i h; exact (encRq_le (rq_good h)).2
  · simp
theorem encS_len {W : World} {A : Option Addr} {n : Nat} {r : Rs} (hr : RsA W A n r) : (encS r).length ≤ 30000 := by
  unfold encS
  split
  · rename_i h; exact (encRs_le (rs_good h) hr.rows).2
  · simp
theorem same_front_rq {q p : Rq} (hq : checkRq q = 0) (hp : checkRq p = 0) : decide (sameRq q p) = frontP (encB q) (encB p) := by
  unfold encB
  rw [if_pos hq, if_pos hp, Bool.eq_iff_iff, decide_eq_true_eq, sameRq_eq, frontP_iff]
  exact ⟨fun h => ⟨[], by rw [h, List.append_nil]⟩, fun ⟨rest, h⟩ => front_rq hq hp rest h⟩
theorem same_front_rs {q p : Rs} (hq : checkRs q = 0) (hp : checkRs p = 0) (hqi : ∀ x ∈ q.rows, RowI x) (hpi : ∀ x ∈ p.rows, RowI x) : decide (sameRs q p) = frontP (encS q) (encS p) := by
  unfold encS
  rw [if_pos hq, if_pos hp, Bool.eq_iff_iff, decide_eq_true_eq, sameRs_eq, frontP_iff]
  exact ⟨fun h => ⟨[], by rw [h, List.append_nil]⟩, fun ⟨rest, h⟩ => front_rs hq hqi hp hpi rest h⟩
/-- Arguments in boxes. -/
theorem box4 (W : World) (t1 t2 t3 t4 : TypeId) (c1 c2 c3 c4 : Array Value) :
    Blk ((((W.alloc (.cells c1 t1)).alloc (.cells c2 t2)).alloc (.cells c3 t3)).alloc (.cells c4 t4)) W.heap.size t1 c1 ∧ Blk ((((W.alloc (.cells c1 t1)).alloc (.cells c2 t2)).alloc (.cells c3 t3)).alloc (.cells c4 t4)) (W.heap.size + 1) t2 c2 ∧
    Blk ((((W.alloc (.cells c1 t1)).alloc (.cells c2 t2)).alloc (.cells c3 t3)).alloc (.cells c4 t4)) (W.heap.size + 1 + 1) t3 c3 ∧ Blk ((((W.alloc (.cells c1 t1)).alloc (.cells c2 t2)).alloc (.cells c3 t3)).alloc (.cells c4 t4)) (W.heap.size + 1 + 1 + 1) t4 c4 ∧
    Below W.heap.size W ((((W.alloc (.cells c1 t1)).alloc (.cells c2 t2)).alloc (.cells c3 t3)).alloc (.cells c4 t4)) := by
  have e1 : (W.alloc (.cells c1 t1)).heap.size = W.heap.size + 1 := by simp
  have e2 : ((W.alloc (.cells c1 t1)).alloc (.cells c2 t2)).heap.size = W.heap.size + 1 + 1 := by simp
  have e3 : (((W.alloc (.cells c1 t1)).alloc (.cells c2 t2)).alloc (.cells c3 t3)).heap.size = W.heap.size + 1 + 1 + 1 := by simp
  refine ⟨(((Blk.new W t1 c1).alloc _).alloc _).alloc _, ?_, ?_, ?_, ?_⟩
  · rw [← e1]; exact ((Blk.new (W.alloc (.cells c1 t1)) t2 c2).alloc _).alloc _
  · rw [← e2]; exact (Blk.new ((W.alloc (.cells c1 t1)).alloc (.cells c2 t2)) t3 c3).alloc _
  · rw [← e3]; exact Blk.new _ t4 c4
  · exact ((((Below.refl W.heap.size W).alloc (Nat.le_refl _) _).alloc (by omega) _).alloc (by omega) _).alloc (by omega) _
theorem box2 (W : World) (t1 t2 : TypeId) (c1 c2 : Array Value) :
    Blk ((W.alloc (.cells c1 t1)).alloc (.cells c2 t2)) W.heap.size t1 c1 ∧ Blk ((W.alloc (.cells c1 t1)).alloc (.cells c2 t2)) (W.heap.size + 1) t2 c2 ∧ Below W.heap.size W ((W.alloc (.cells c1 t1)).alloc (.cells c2 t2)) := by
  have e1 : (W.alloc (.cells c1 t1)).heap.size = W.heap.size + 1 := by simp
  refine ⟨(Blk.new W t1 c1).alloc _, ?_, ?_⟩
  · rw [← e1]; exact Blk.new (W.alloc (.cells c1 t1)) t2 c2
  · exact ((Below.refl W.heap.size W).alloc (Nat.le_refl _) _).alloc (by simp) _
end Go.Proofs.YtglbdbghcdoicaaGreatDoor

namespace Go.Proofs.YtglbdbghcdoicaaGreatDoor
open Go.RowKit

theorem RowAt.kept_ {W W' : World} {A : Option Addr} {n lo : Nat} {xs : List Int} (h : RowAt W A n lo xs) (hb : Below W.heap.size W W') : RowAt W' A n lo xs := h.kept hb
theorem RowAt.none_ {W : World} {A : Option Addr} {n lo : Nat} {xs : List Int} (h : RowAt W A n lo xs) : A = none → n = 0 := fun e => by
  rcases h with ⟨_, h, _⟩ | ⟨g, cur, h, _⟩
  · exact h
  · rw [e] at h; cases h
theorem below_step {W W1 W2 : World} {B : Nat} (h : Below B W W1) (hb : Below W1.heap.size W1 W2) (hB : B ≤ W.heap.size) : Below B W W2 := h.trans (hb.mono (Nat.le_trans hB h.size))
end Go.Proofs.YtglbdbghcdoicaaGreatDoor
