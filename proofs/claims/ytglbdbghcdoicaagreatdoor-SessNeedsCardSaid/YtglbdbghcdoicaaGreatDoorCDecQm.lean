/- DecodeRequest: what it reads; the walk. What is read is small. -/
import Derived.Test.YtglbdbghcdoicaaGreatDoorCIns
namespace Go.Proofs.YtglbdbghcdoicaaGreatDoor
open Go.RowKit
set_option maxRecDepth 100000
set_option maxHeartbeats 32000000

def rq0 : Rq := ⟨0, 0, 0, [], cell0, cell0, 0⟩
/-- The fields of a body, by the kind. -/
def bodyD (xs : List Int) (r : Rq) (s : RS) : Rq × RS :=
  if r.kind = 1 then ({ r with epoch := ((numP xs M40 s).1 : Int), cs := [(cellP xs (numP xs M40 s).2).1] }, (cellP xs (numP xs M40 s).2).2)
  else if r.kind = 2 then ({ r with epoch := ((numP xs M40 s).1 : Int), cs := (cellsP xs (countP xs 16 (numP xs M40 s).2).1 ([], (countP xs 16 (numP xs M40 s).2).2)).1 }, (cellsP xs (countP xs 16 (numP xs M40 s).2).1 ([], (countP xs 16 (numP xs M40 s).2).2)).2)
  else if r.kind = 3 then ({ r with epoch := ((numP xs M40 s).1 : Int), frm := (cellP xs (numP xs M40 s).2).1, too := (cellP xs (cellP xs (numP xs M40 s).2).2).1, limit := ((numP xs M40 (cellP xs (cellP xs (numP xs M40 s).2).2).2).1 : Int) }, (numP xs M40 (cellP xs (cellP xs (numP xs M40 s).2).2).2).2)
  else if r.kind = 5 ∨ r.kind = 6 then ({ r with epoch := ((numP xs M40 s).1 : Int) }, (numP xs M40 s).2)
  else (r, s)
def kindD (xs : List Int) : Nat × RS := numP xs M40 ⟨0, none⟩
def readD (xs : List Int) : Rq × RS := bodyD xs ⟨((kindD xs).1 : Int), ((numP xs M40 (kindD xs).2).1 : Int), 0, [], cell0, cell0, 0⟩ (numP xs M40 (kindD xs).2).2
def checkD (code : Int) (s : RS) : RS := if s.fault.isSome then s else s.fail code 0
/-- What DecodeRequest tells: the request, or the fault and its place. -/
def decRq (xs : List Int) : Rq × Option (Int × Int) :=
  if (kindD xs).1 < 1 ∨ 7 < (kindD xs).1 then (rq0, ((kindD xs).2.fail 15 0).fault)
  else if (checkD (checkRq (readD xs).1) (endP xs (readD xs).2)).fault.isSome then (rq0, (checkD (checkRq (readD xs).1) (endP xs (readD xs).2)).fault)
  else ((readD xs).1, none)
/-- A decoded request at hand. -/
def DecQ (W : World) (y : Rq × Option (Int × Int)) (e : Ending) (w' : World) : Prop :=
  Below W.heap.size W w' ∧ match y.2 with
    | none => ∃ v, e = .returned (.tuple #[.agg (rqC v y.1), .nilIface]) ∧ CellsOwn w' W.heap.size v y.1.cs
    | some (code, p) => ∃ g, e = .returned (.tuple #[.agg (rqC nilS rq0), errV g]) ∧ Blk w' g 111 #[.int .i64 code, .int .i64 p]
section
variable {W0 : World} {q b n c : Nat} {A : Option Addr} {xs : List Int} {r : Rq} {s : RS} {fv : Value}
theorem RqIs.start (hb : Blk W0 b 43 (rqC nilS r)) (hr : r.cs = []) (h : RdIs W0 q A n c xs s fv) (hbq : b ≠ q) (hA : ∀ ad, A = some ad → ad.block ≠ b ∧ ad.block < W0.heap.size) (hbt : 0 ≠ b) : RqIs W0 q b A n c xs r s fv nilS W0 :=
  ⟨hb, by rw [hr]; exact ⟨rfl, .inl ⟨rfl, rfl⟩⟩, h, Tur.refl _ _, hbq, hb.lt, hA, hbt⟩
end
theorem RS.fail_some {s : RS} {e p : Int} (he : e ≠ 0) : (s.fail e p).fault ≠ none := by
  unfold RS.fail
  split
  · rename_i h; rw [h]; simp
  · rw [if_neg he]; simp
theorem set11 {w : World} {j : Nat} {t : TypeId} {x0 x1 x2 x3 x4 x5 x6 x7 x8 x9 x10 : Value} (h : Blk w j t #[x0, x1, x2, x3, x4, x5, x6, x7, x8, x9, x10]) (a0 a1 a2 a3 a4 a5 a6 a7 a8 a9 a10 : Value) :
    Blk (World.setCell (World.setCell (World.setCell (World.setCell (World.setCell (World.setCell (World.setCell (World.setCell (World.setCell (World.setCell (World.setCell w ⟨j, 0, none⟩ a0) ⟨j, 1, none⟩ a1) ⟨j, 2, none⟩ a2) ⟨j, 3, none⟩ a3) ⟨j, 4, none⟩ a4) ⟨j, 5, none⟩ a5) ⟨j, 6, none⟩ a6) ⟨j, 7, none⟩ a7) ⟨j, 8, none⟩ a8) ⟨j, 9, none⟩ a9) ⟨j, 10, none⟩ a10) j t #[a0, a1, a2, a3, a4, a5, a6, a7, a8, a9, a10] ∧ Tur (· = j) w (World.setCell (World.setCell (World.setCell (World.setCell (World.setCell (World.setCell (World.setCell (World.setCell (World.setCell (World.setCell (World.setCell w ⟨j, 0, none⟩ a0) ⟨j, 1, none⟩ a1) ⟨j, 2, none⟩ a2) ⟨j, 3, none⟩ a3) ⟨j, 4, none⟩ a4) ⟨j, 5, none⟩ a5) ⟨j, 6, none⟩ a6) ⟨j, 7, none⟩ a7) ⟨j, 8, none⟩ a8) ⟨j, 9, none⟩ a9) ⟨j, 10, none⟩ a10) := by
  have hb0 : Blk (World.setCell w ⟨j, 0, none⟩ a0) j t #[a0, x1, x2, x3, x4, x5, x6, x7, x8, x9, x10] := h.set_ 0 a0
  have hb1 : Blk (World.setCell (World.setCell w ⟨j, 0, none⟩ a0) ⟨j, 1, none⟩ a1) j t #[a0, a1, x2, x3, x4, x5, x6, x7, x8, x9, x10] := hb0.set_ 1 a1
  have hb2 : Blk (World.setCell (World.setCell (World.setCell w ⟨j, 0, none⟩ a0) ⟨j, 1, none⟩ a1) ⟨j, 2, none⟩ a2) j t #[a0, a1, a2, x3, x4, x5, x6, x7, x8, x9, x10] := hb1.set_ 2 a2
  have hb3 : Blk (World.setCell (World.setCell (World.setCell (World.setCell w ⟨j, 0, none⟩ a0) ⟨j, 1, none⟩ a1) ⟨j, 2, none⟩ a2) ⟨j, 3, none⟩ a3) j t #[a0, a1, a2, a3, x4, x5, x6, x7, x8, x9, x10] := hb2.set_ 3 a3
  have hb4 : Blk (World.setCell (World.setCell (World.setCell (World.setCell (World.setCell w ⟨j, 0, none⟩ a0) ⟨j, 1, none⟩ a1) ⟨j, 2, none⟩ a2) ⟨j, 3, none⟩ a3) ⟨j, 4, none⟩ a4) j t #[a0, a1, a2, a3, a4, x5, x6, x7, x8, x9, x10] := hb3.set_ 4 a4
  have hb5 : Blk (World.setCell (World.setCell (World.setCell (World.setCell (World.setCell (World.setCell w ⟨j, 0, none⟩ a0) ⟨j, 1, none⟩ a1) ⟨j, 2, none⟩ a2) ⟨j, 3, none⟩ a3) ⟨j, 4, none⟩ a4) ⟨j, 5, none⟩ a5) j t #[a0, a1, a2, a3, a4, a5, x6, x7, x8, x9, x10] := hb4.set_ 5 a5
  have hb6 : Blk (World.setCell (World.setCell (World.setCell (World.setCell (World.setCell (World.setCell (World.setCell w ⟨j, 0, none⟩ a0) ⟨j, 1, none⟩ a1) ⟨j, 2, none⟩ a2) ⟨j, 3, none⟩ a3) ⟨j, 4, none⟩ a4) ⟨j, 5, none⟩ a5) ⟨j, 6, none⟩ a6) j t #[a0, a1, a2, a3, a4, a5, a6, x7, x8, x9, x10] := hb5.set_ 6 a6
  have hb7 : Blk (World.setCell (World.setCell (World.setCell (World.setCell (World.setCell (World.setCell (World.setCell (World.setCell w ⟨j, 0, none⟩ a0) ⟨j, 1, none⟩ a1) ⟨j, 2, none⟩ a2) ⟨j, 3, none⟩ a3) ⟨j, 4, none⟩ a4) ⟨j, 5, none⟩ a5) ⟨j, 6, none⟩ a6) ⟨j, 7, none⟩ a7) j t #[a0, a1, a2, a3, a4, a5, a6, a7, x8, x9, x10] := hb6.set_ 7 a7
  have hb8 : Blk (World.setCell (World.setCell (World.setCell (World.setCell (World.setCell (World.setCell (World.setCell (World.setCell (World.setCell w ⟨j, 0, none⟩ a0) ⟨j, 1, none⟩ a1) ⟨j, 2, none⟩ a2) ⟨j, 3, none⟩ a3) ⟨j, 4, none⟩ a4) ⟨j, 5, none⟩ a5) ⟨j, 6, none⟩ a6) ⟨j, 7, none⟩ a7) ⟨j, 8, none⟩ a8) j t #[a0, a1, a2, a3, a4, a5, a6, a7, a8, x9, x10] := hb7.set_ 8 a8
  have hb9 : Blk (World.setCell (World.setCell (World.setCell (World.setCell (World.setCell (World.setCell (World.setCell (World.setCell (World.setCell (World.setCell w ⟨j, 0, none⟩ a0) ⟨j, 1, none⟩ a1) ⟨j, 2, none⟩ a2) ⟨j, 3, none⟩ a3) ⟨j, 4, none⟩ a4) ⟨j, 5, none⟩ a5) ⟨j, 6, none⟩ a6) ⟨j, 7, none⟩ a7) ⟨j, 8, none⟩ a8) ⟨j, 9, none⟩ a9) j t #[a0, a1, a2, a3, a4, a5, a6, a7, a8, a9, x10] := hb8.set_ 9 a9
  have hb10 : Blk (World.setCell (World.setCell (World.setCell (World.setCell (World.setCell (World.setCell (World.setCell (World.setCell (World.setCell (World.setCell (World.setCell w ⟨j, 0, none⟩ a0) ⟨j, 1, none⟩ a1) ⟨j, 2, none⟩ a2) ⟨j, 3, none⟩ a3) ⟨j, 4, none⟩ a4) ⟨j, 5, none⟩ a5) ⟨j, 6, none⟩ a6) ⟨j, 7, none⟩ a7) ⟨j, 8, none⟩ a8) ⟨j, 9, none⟩ a9) ⟨j, 10, none⟩ a10) j t #[a0, a1, a2, a3, a4, a5, a6, a7, a8, a9, a10] := hb9.set_ 10 a10
  refine ⟨hb10, ?_⟩
  have h0 : Tur (· = j) w w := Tur.refl _ w
  have h1 := h0.setCell (p := ⟨j, 0, none⟩) (.inl rfl) a0
  have h2 := h1.setCell (p := ⟨j, 1, none⟩) (.inl rfl) a1
  have h3 := h2.setCell (p := ⟨j, 2, none⟩) (.inl rfl) a2
  have h4 := h3.setCell (p := ⟨j, 3, none⟩) (.inl rfl) a3
  have h5 := h4.setCell (p := ⟨j, 4, none⟩) (.inl rfl) a4
  have h6 := h5.setCell (p := ⟨j, 5, none⟩) (.inl rfl) a5
  have h7 := h6.setCell (p := ⟨j, 6, none⟩) (.inl rfl) a6
  have h8 := h7.setCell (p := ⟨j, 7, none⟩) (.inl rfl) a7
  have h9 := h8.setCell (p := ⟨j, 8, none⟩) (.inl rfl) a8
  have h10 := h9.setCell (p := ⟨j, 9, none⟩) (.inl rfl) a9
  have h11 := h10.setCell (p := ⟨j, 10, none⟩) (.inl rfl) a10
  exact h11
theorem set11e {w : World} {j : Nat} {t : TypeId} {x0 x1 x2 x3 x4 x5 x6 x7 x8 x9 x10 : Value} (h : Blk w j t #[x0, x1, x2, x3, x4, x5, x6, x7, x8, x9, x10]) (a0 a1 a2 a3 a4 a5 a6 a7 a8 a9 a10 : Value) :
    ∃ w9, Hid ((World.setCell (World.setCell (World.setCell (World.setCell (World.setCell (World.setCell (World.setCell (World.setCell (World.setCell (World.setCell (World.setCell w ⟨j, 0, none⟩ a0) ⟨j, 1, none⟩ a1) ⟨j, 2, none⟩ a2) ⟨j, 3, none⟩ a3) ⟨j, 4, none⟩ a4) ⟨j, 5, none⟩ a5) ⟨j, 6, none⟩ a6) ⟨j, 7, none⟩ a7) ⟨j, 8, none⟩ a8) ⟨j, 9, none⟩ a9) ⟨j, 10, none⟩ a10) = w9) ∧ Hid (Blk w9 j t #[a0, a1, a2, a3, a4, a5, a6, a7, a8, a9, a10] ∧ Tur (· = j) w w9) := ⟨_, Lh rfl, Lh (set11 h a0 a1 a2 a3 a4 a5 a6 a7 a8 a9 a10)⟩
theorem decode_rq_none (A : Option Addr) (n c : Nat) (xs : List Int) (hk : (kindD xs).1 < 1 ∨ 7 < (kindD xs).1) (W : World) (hl : xs.length = n) (h : CellsAt W A (bvs xs)) (hw : ∀ x ∈ xs, (Lit.int .u8 x).wf = true) (hn : n ≤ 211106232532992) (hT : W.cell? ⟨0, 0, none⟩ = some tyErr) :
    Calls Tryz.prog 53 #[.slice A n c] W (DecQ W (decRq xs)) := by
  have HR0 := Lh (Blk.new W 43 #[.int .i64 0, .int .i64 0, .int .i64 0, .slice none 0 0, .int .i64 0, .string ⟨#[]⟩, .int .i64 0, .int .i64 0, .string ⟨#[]⟩, .int .i64 0, .int .i64 0])
  have CR := Lh (rd_read A n c xs (W.alloc (.cells #[.int .i64 0, .int .i64 0, .int .i64 0, .slice none 0 0, .int .i64 0, .string ⟨#[]⟩, .int .i64 0, .int .i64 0, .string ⟨#[]⟩, .int .i64 0, .int .i64 0] 43)) hl (h.below ((Below.refl _ _).alloc (Nat.le_refl _) _)) hw hn (((Below.refl W.heap.size W).alloc (Nat.le_refl _) _).cell (World.block_lt_of_cell? W _ hT) ▸ hT))
  have HTL := Lh (World.block_lt_of_cell? W _ hT)
  have HKN := Lh hk
  clear h hw hn hT hk
  go_enter Tryz.func53, Tryz.ntmps53
  go_wp2_with fail
  go_at_call 70; (with_reducible refine CR.out.mono ?_); rintro e w1 ⟨q, A1, c1, rfl, hq, hr, hA1, hb⟩
  have HB1 := Lh (((Below.refl W.heap.size W).alloc (Nat.le_refl _) (.cells #[.int .i64 0, .int .i64 0, .int .i64 0, .slice none 0 0, .int .i64 0, .string ⟨#[]⟩, .int .i64 0, .int .i64 0, .string ⟨#[]⟩, .int .i64 0, .int .i64 0] 43)).trans (hb.mono (by simp)))
  have HR1 := Lh (HR0.out.kept hb)
  have HD1 := Lh hr
  have HA1 := Lh hA1
  have hqR : W.heap.size < q := by have : (W.alloc (.cells #[.int .i64 0, .int .i64 0, .int .i64 0, .slice none 0 0, .int .i64 0, .string ⟨#[]⟩, .int .i64 0, .int .i64 0, .string ⟨#[]⟩, .int .i64 0, .int .i64 0] 43)).heap.size = W.heap.size + 1 := by simp
                                   omega
  have HI2 := Lh (Blk.new w1 146 #[.pointer (some ⟨q, 0, none⟩)])
  have hci := HI2.out.cell
  clear hb hr hA1 HR0 CR
  go_wp2_with fail
  go_at_call 71; (with_reducible refine (in_num (HD1.out.alloc (.cells #[.pointer (some ⟨q, 0, none⟩)] 146))).mono ?_); rintro e w3 ⟨rfl, fv3, hr, hf⟩
  have hIq : w1.heap.size ≠ q := by have := HD1.out.blk.lt; omega
  have HI3 := Lh (hf.blk HI2.out hIq)
  have HR3 := Lh (hf.blk (HR1.out.alloc (.cells #[.pointer (some ⟨q, 0, none⟩)] 146)) (by omega))
  have HB3 := Lh (HB1.out.trans (((RdFr.alloc0 w1 q .nilIface (.cells #[.pointer (some ⟨q, 0, none⟩)] 146)).trans hf).1.below HB1.out.size (fun k e => by omega)))
  have hs3 : w1.heap.size < w3.heap.size := HI3.out.lt
  have HD3 := Lh hr
  have hRI : W.heap.size ≤ w1.heap.size := HB1.out.size
  have HA3 := Lh (show ∀ ad, A1 = some ad → ad.block < w1.heap.size from fun ad e => (HA1.out ad e).2)
  have hq1 : q < w1.heap.size := HD1.out.blk.lt
  have hTR := HTL.out
  have HKD := Lh (show kindD xs = numP xs M40 ⟨0, none⟩ from rfl)
  clear hr hf HI2 HR1 HD1 HA1 HB1 hci hq
  generalize numP xs M40 ⟨0, none⟩ = y at *
  obtain ⟨k0, s1⟩ := y
  dsimp only at HD3 ⊢
  rw [HKD.out] at HKN
  generalize hI : w1.heap.size = bI at *
  have hci := HI3.out.cell
  go_wp2_with fail
  have HK0 := Lh (Blk.new w3 43 #[.int .i64 (k0 : Int), .int .i64 0, .int .i64 0, .slice none 0 0, .int .i64 0, .string ⟨#[]⟩, .int .i64 0, .int .i64 0, .string ⟨#[]⟩, .int .i64 0, .int .i64 0])
  have HI0 := Lh (HI3.out.alloc (.cells #[.int .i64 (k0 : Int), .int .i64 0, .int .i64 0, .slice none 0 0, .int .i64 0, .string ⟨#[]⟩, .int .i64 0, .int .i64 0, .string ⟨#[]⟩, .int .i64 0, .int .i64 0] 43))
  have HR0 := Lh (HR3.out.alloc (.cells #[.int .i64 (k0 : Int), .int .i64 0, .int .i64 0, .slice none 0 0, .int .i64 0, .string ⟨#[]⟩, .int .i64 0, .int .i64 0, .string ⟨#[]⟩, .int .i64 0, .int .i64 0] 43))
  have HB0 := Lh (HB3.out.alloc (by omega) (.cells #[.int .i64 (k0 : Int), .int .i64 0, .int .i64 0, .slice none 0 0, .int .i64 0, .string ⟨#[]⟩, .int .i64 0, .int .i64 0, .string ⟨#[]⟩, .int .i64 0, .int .i64 0] 43))
  have HX0 := Lh (RqIs.start (r := ⟨(k0 : Int), 0, 0, [], cell0, cell0, 0⟩) HK0.out rfl (HD3.out.alloc (.cells #[.int .i64 (k0 : Int), .int .i64 0, .int .i64 0, .slice none 0 0, .int .i64 0, .string ⟨#[]⟩, .int .i64 0, .int .i64 0, .string ⟨#[]⟩, .int .i64 0, .int .i64 0] 43)) (by omega) (fun ad e => by have := HA3.out ad e; simp; omega) (by omega))
  have hs0 : (w3.alloc (.cells #[.int .i64 (k0 : Int), .int .i64 0, .int .i64 0, .slice none 0 0, .int .i64 0, .string ⟨#[]⟩, .int .i64 0, .int .i64 0, .string ⟨#[]⟩, .int .i64 0, .int .i64 0] 43)).heap.size = w3.heap.size + 1 := by simp
  generalize hb : w3.heap.size = b at *
  generalize w3.alloc (.cells #[.int .i64 (k0 : Int), .int .i64 0, .int .i64 0, .slice none 0 0, .int .i64 0, .string ⟨#[]⟩, .int .i64 0, .int .i64 0, .string ⟨#[]⟩, .int .i64 0, .int .i64 0] 43) = W0 at *
  clear HR3 HB3 HI3 HD3 hci hb
  (refine wp_region_held_drew (S := fun w9 => Blk w9 bI 146 #[.pointer (some ⟨q, 0, none⟩)] ∧ Blk w9 b 43 #[.int .i64 (k0 : Int), .int .i64 0, .int .i64 0, .slice none 0 0, .int .i64 0, .string ⟨#[]⟩, .int .i64 0, .int .i64 0, .string ⟨#[]⟩, .int .i64 0, .int .i64 0]) (by kernel_rfl) ⟨HI0.out.drew, HX0.out.blk.drew⟩ (fun hHeld => ?_))
  (refine tr (v := ?v101) 0 16 ?h101 ?_)
  case h101 => (intro w9 hSw; have hc9 := Blk.cell hSw.1; clear hSw; first | (go_simp; done) | (go_simp; with_reducible rfl))
  (try simp only [Act.put, z1, z2, z3])
  (refine tq 1 17 ?_)
  (try simp only [Act.put, z1, z2, z3])
  (refine tq 2 18 ?_)
  (try simp only [Act.put, z1, z2, z3])
  (refine tq 4 20 ?_)
  (try simp only [Act.put, z1, z2, z3])
  (refine tr (v := ?v105) 5 21 ?h105 ?_)
  case h105 => (intro w9 hSw; have hc9 := Blk.cell hSw.2; clear hSw; first | (go_simp; done) | (go_simp; with_reducible rfl))
  (try simp only [Act.put, z1, z2, z3])
  (refine wpAnyH_ready (rs := [3]) (by kernel_rfl) (by simp) ?_)
  (refine AllReadyH.cons (o := _) rfl (fun K hK => ?_) AllReadyH.nil)
  go_simp
  go_simp
  (with_reducible refine (in_readers q n _).mono ?_)
  rintro e w4 ⟨rfl, hm, hi4, hj4, hb4⟩
  have HM := Lh (show MapIs w4 (b + 1 + 2) (rmap q (b + 1) (b + 1 + 1)) by rw [← hs0]; exact hm)
  have HX4 := Lh ((HX0.out.kept (Below.refl _ _).drew).kept hb4)
  have HI4 := Lh (HI0.out.drew.kept hb4)
  have HR4 := Lh (HR0.out.drew.kept hb4)
  have HB4 := Lh (HB0.out.drew.trans (hb4.mono (by have := HB0.out.size; simpa using this)))
  have HIM := Lh (show Blk w4 (b + 1) 146 #[.pointer (some ⟨q, 0, none⟩)] by rw [← hs0]; exact hi4)
  have HJM := Lh (show Blk w4 (b + 1 + 1) 3 #[.int .i64 (n : Int)] by rw [← hs0]; exact hj4)
  clear hm hi4 hj4 hb4
  go_simp
  (refine hK.out _ _ ⟨HI4.out, HX4.out.blk⟩ (fun hHeld => ?_))
  clear hK K
  have hlk := HM.out.miss Tryz.underlying149 Tryz.underlying3 .nilFunc (fun w => by kernel_rfl) (k0 : Int) (by have hk := HKN.out; simp [rmap]; omega) true
  (refine wpAnyH_ready (rs := [6]) (by kernel_rfl) (by simp) ?_)
  (refine AllReadyH.cons (o := _) rfl (fun K hK => ?_) AllReadyH.nil)
  go_simp
  (refine hK.out _ _ ⟨HI4.out, HX4.out.blk⟩ (fun hHeld => ?_))
  clear hK K
  (refine tq 7 15 ?_)
  (try simp only [Act.put, z1, z2, z3])
  (refine tq 8 23 ?_)
  (try simp only [Act.put, z1, z2, z3])
  (refine tq 9 24 ?_)
  (try simp only [Act.put, z1, z2, z3])
  (refine tq 10 6 ?_)
  (try simp only [Act.put, z1, z2, z3])
  (refine tq 11 7 ?_)
  (try simp only [Act.put, z1, z2, z3])
  (refine wpAnyH_done (by kernel_rfl) ?_ _)
  have hci := HI4.out.cell
  have hRq : W.heap.size ≠ q := by omega
  go_wp2_with fail
  go_at_call 73; (with_reducible refine (rd_fail HX4.out.rd 15 0).mono ?_); rintro e w5 ⟨rfl, fv5, hr, hf⟩
  have HD5 := Lh hr
  have HI5 := Lh (hf.blk HI4.out hIq)
  have HR5 := Lh (hf.blk HR4.out hRq)
  have HB5 := Lh (HB4.out.trans (hf.1.below HB4.out.size (fun k e => by omega)))
  clear hr hf hci
  have hci := HI5.out.cell
  go_wp2_with fail
  go_at_call 74; (with_reducible refine (rd_err HD5.out).mono ?_); rintro e w6 ⟨hb6, he⟩
  rcases hfl : (s1.fail 15 0).fault with _ | ⟨code, pl⟩
  · exact absurd hfl (RS.fail_some (by decide))
  · rw [hfl] at he
    obtain ⟨g, rfl, hg⟩ := he
    have HG := Lh hg
    have HR6 := Lh (HR5.out.kept hb6)
    have HB6 := Lh (HB5.out.trans (hb6.mono HB5.out.size))
    have HDEC := Lh (show decRq xs = (rq0, some (code, pl)) by unfold decRq; rw [if_pos (by rw [HKD.out]; exact HKN.out), HKD.out]; simp only [hfl])
    have hcR := HR6.out.cell
    have hfR := HR6.out.frozen
    clear hb6 hg hci
    obtain ⟨w7, HW, HS⟩ := set11e HR6.out (.int .i64 0) (.int .i64 0) (.int .i64 0) (.slice none 0 0) (.int .i64 0) (.string ⟨#[]⟩) (.int .i64 0) (.int .i64 0) (.string ⟨#[]⟩) (.int .i64 0) (.int .i64 0)
    go_wp2
    rw [HW.out]
    have hc7 := HS.out.1.cell
    exact bodyPost_ret (v := .tuple #[.agg (rqC nilS rq0), errV g]) (by simp [results, Tryz.results53, go_sem, hc7, rq0, cell0]) rfl
      ⟨HB6.out.trans (HS.out.2.below HB6.out.size (fun k e => by omega)), by rw [HDEC.out]; exact ⟨g, rfl, HG.out.tur HS.out.2 (fun e => by subst e; exact absurd rfl (HR6.out.ne_ HG.out (by decide)))⟩⟩
end Go.Proofs.YtglbdbghcdoicaaGreatDoor

namespace Go.Proofs.YtglbdbghcdoicaaGreatDoor
open Go.RowKit
theorem numP_le (xs : List Int) (most : Int) (s : RS) (hm : 0 ≤ most) : ((numP xs most s).1 : Int) ≤ most := by
  unfold numP
  dsimp only
  split
  · simpa using hm
  · rename_i h
    unfold numS at h
    split at h
    · exact absurd (Option.isSome_iff_ne_none.2 (RS.fail_some (by decide))) h
    · omega
theorem textP_len (xs : List Int) (most : Int) (s : RS) (hm : 0 ≤ most) : ((textP xs most s).1.length : Int) ≤ most := by
  have h := numP_le xs most s hm
  unfold textP textQ
  split
  · simpa using hm
  · split
    · simpa using hm
    · simp only [List.length_take]
      omega
theorem strOf_size (l : List Int) : (strOfNums l).size = l.length := by
  simp [strOfNums, ByteArray.size]
theorem cellP_key (xs : List Int) (s : RS) : (cellP xs s).1.key.size ≤ 32 := by
  show (strOfNums (textP xs 32 (numP xs M40 s).2).1).size ≤ 32
  rw [strOf_size]
  have := textP_len xs 32 (numP xs M40 s).2 (by decide)
  omega
theorem cellsP_key (xs : List Int) (st : List CellV × RS) (h : ∀ x ∈ st.1, x.key.size ≤ 32) : ∀ k, ∀ x ∈ (cellsP xs k st).1, x.key.size ≤ 32
  | 0 => h
  | k + 1 => by
    have ih := cellsP_key xs st h k
    intro x hx
    unfold cellsP stepC at hx
    split at hx
    · exact ih x hx
    · rcases List.mem_append.1 hx with hx | hx
      · exact ih x hx
      · rw [List.mem_singleton] at hx
        subst hx
        exact cellP_key _ _
end Go.Proofs.YtglbdbghcdoicaaGreatDoor
