/- The reading methods num, cell, count. The reading methods count, epoch, bare, get. The reading method scan. The reading method multi. The map of the reading methods; the closure that reads many. -/
import Derived.Test.YtglbdbghcdoicaaGreatDoorCEncRq
import Derived.Test.YtglbdbghcdoicaaGreatDoorWRds
import Derived.Maps.AppendAt
namespace Go.Proofs.YtglbdbghcdoicaaGreatDoor
open Go.RowKit
set_option maxRecDepth 100000
set_option maxHeartbeats 32000000

abbrev inV (q : Nat) : Value := .agg #[.pointer (some ⟨q, 0, none⟩)]
/-- The most that a number may be. -/
abbrev M40 : Int := 1099511627776
def cellP (xs : List Int) (s : RS) : CellV × RS :=
 (⟨(numP xs M40 s).1, strOfNums (textP xs 32 (numP xs M40 s).2).1, (intP xs (textP xs 32 (numP xs M40 s).2).2).1⟩, (intP xs (textP xs 32 (numP xs M40 s).2).2).2)
def countP (xs : List Int) (most : Int) (s : RS) : Nat × RS :=
 if most < ((numP xs M40 s).1 : Int) then (0, (numP xs M40 s).2.fail 2 ((xs.length : Int) - (leftP xs s : Int))) else numP xs M40 s
section
variable {W W1 W2 : World} {q n c : Nat} {A : Option Addr} {xs : List Int} {s s1 : RS} {fv fv1 fv2 : Value}
theorem RdFr.alloc0 (W : World) (q : Nat) (fv : Value) (o : Obj) : RdFr W q fv (W.alloc o) fv := ⟨(Tur.refl _ W).alloc o, .inl rfl⟩
theorem RdIs.alloc (h : RdIs W q A n c xs s fv) (o : Obj) : RdIs (W.alloc o) q A n c xs s fv := h.kept ((Below.refl _ _).alloc (Nat.le_refl _) o)
theorem RdFr.alloc (h : RdFr W q fv W1 fv1) (o : Obj) : RdFr W q fv (W1.alloc o) fv1 := ⟨h.1.alloc o, h.2⟩
theorem RdFr.below_ (h : RdFr W q fv W1 fv1) (hb : Below W1.heap.size W1 W2) : RdFr W q fv W2 fv1 := ⟨h.1.trans (Tur.of_below (S := fun _ => False) hb) (fun _ e => e.elim), h.2⟩
theorem RdFr.blk {t : TypeId} {g : Nat} {cs : Array Value} (h : RdFr W q fv W1 fv1) (hb : Blk W g t cs) (hg : g ≠ q) : Blk W1 g t cs := hb.tur h.1 hg
theorem set3 {w : World} {j : Nat} {t : TypeId} {x y z : Value} (h : Blk w j t #[x, y, z]) (a b c : Value) :
  Blk (((w.setCell ⟨j, 0, none⟩ a).setCell ⟨j, 1, none⟩ b).setCell ⟨j, 2, none⟩ c) j t #[a, b, c] ∧ Tur (· = j) w (((w.setCell ⟨j, 0, none⟩ a).setCell ⟨j, 1, none⟩ b).setCell ⟨j, 2, none⟩ c) ∧
   ∀ i t' cs', i ≠ j → Blk w i t' cs' → Blk (((w.setCell ⟨j, 0, none⟩ a).setCell ⟨j, 1, none⟩ b).setCell ⟨j, 2, none⟩ c) i t' cs' := by
 refine ⟨((h.set_ 0 a).set_ 1 b).set_ 2 c, ?_, fun i t' cs' hi hb => ?_⟩
 ·have h1 : Tur (· = j) w (w.setCell ⟨j, 0, none⟩ a) := (Tur.refl (· = j) w).setCell (p := ⟨j, 0, none⟩) (.inl rfl) a
  have h2 := h1.setCell (p := ⟨j, 1, none⟩) (.inl rfl) b
  exact h2.setCell (p := ⟨j, 2, none⟩) (.inl rfl) c
 ·have h1 := hb.far (p := ⟨j, 0, none⟩) hi a
  have h2 := h1.far (p := ⟨j, 1, none⟩) hi b
  exact h2.far (p := ⟨j, 2, none⟩) hi c
theorem RdIs.ty_lt (h : RdIs W q A n c xs s fv) : 0 < W.heap.size := by
 rcases Nat.lt_or_ge 0 W.heap.size with hl | hge
 ·exact hl
 ·have h1 := h.ty
  have h2 : W.heap[0]? = none := Array.getElem?_eq_none hge
  simp [World.cell?, h2] at h1
theorem RdIs.err_blk (h : RdIs W q A n c xs s fv) {g : Nat} (e : fv = errV g) : ∃ cs, Blk W g 111 cs := by
 rcases hf : s.fault with _ | ⟨a, b⟩
 ·rw [h.no hf] at e; cases e
 ·obtain ⟨g', e', hb⟩ := h.yes a b hf
  rw [e'] at e
  cases e
  exact ⟨_, hb⟩
/-- Stores into one block of another kind. -/
theorem RdIs.near {j : Nat} {t : TypeId} {cs : Array Value} (h : RdIs W q A n c xs s fv) (ht : Tur (· = j) W W1) (hj : Blk W j t cs) (hte : t ≠ 111) (hq : q ≠ j) (hA : ∀ ad, A = some ad → ad.block ≠ j) (hty : 0 ≠ j) : RdIs W1 q A n c xs s fv :=
 h.tur ht hq hA (fun g e => by
  obtain ⟨cs', hb⟩ := h.err_blk e
  exact (hj.ne_ hb hte).symm) hty
end

theorem in_num {q n c : Nat} {A : Option Addr} {xs : List Int} {s : RS} {fv : Value} {W : World} (h : RdIs W q A n c xs s fv) :
  Calls Tryz.prog 71 #[inV q] W (RdQ W q A n c xs fv (.int .i64 ((numP xs M40 s).1 : Int)) (numP xs M40 s).2) := by
 have H := Lh h
 clear h
 go_enter Tryz.func71, Tryz.ntmps71
 go_wp2_with fail
 go_at_call 109; (with_reducible refine (rd_num (H.out.alloc (.cells #[.pointer (some ⟨q, 0, none⟩)] 146)) M40 (by decide)).mono ?_); rintro e w1 ⟨rfl, fv1, hr, hf⟩
 have HQ := Lh (show RdQ W q A n c xs fv (.int .i64 ((numP xs M40 s).1 : Int)) (numP xs M40 s).2 (.returned (.int .i64 ((numP xs M40 s).1 : Int))) w1 from ⟨rfl, fv1, hr, (RdFr.alloc0 W q fv _).trans hf⟩)
 clear hr hf
 go_wp2
 go_ret
 exact HQ.out

theorem in_cell {q n c : Nat} {A : Option Addr} {xs : List Int} {s : RS} {fv : Value} {W : World} (h : RdIs W q A n c xs s fv) (hA : ∀ ad, A = some ad → ad.block < W.heap.size) :
  Calls Tryz.prog 144 #[inV q] W (RdQ W q A n c xs fv (cellV (cellP xs s).1) (cellP xs s).2) := by
 have H := Lh h
 have hq := h.blk.lt
 have HA := Lh hA
 have hty := h.ty_lt
 clear h hA
 go_enter Tryz.func144, Tryz.ntmps144
 go_wp2_with fail
 have HB := Lh ((Blk.new W 146 #[.pointer (some ⟨q, 0, none⟩)]).alloc (.cells #[.int .i64 0, .string ⟨#[]⟩, .int .i64 0] 41))
 have HJ := Lh (Blk.new (W.alloc (.cells #[.pointer (some ⟨q, 0, none⟩)] 146)) 41 #[.int .i64 0, .string ⟨#[]⟩, .int .i64 0])
 have HR := Lh ((H.out.alloc (.cells #[.pointer (some ⟨q, 0, none⟩)] 146)).alloc (.cells #[.int .i64 0, .string ⟨#[]⟩, .int .i64 0] 41))
 have HF := Lh ((RdFr.alloc0 W q fv (.cells #[.pointer (some ⟨q, 0, none⟩)] 146)).alloc (.cells #[.int .i64 0, .string ⟨#[]⟩, .int .i64 0] 41))
 have hs1 : (W.alloc (.cells #[.pointer (some ⟨q, 0, none⟩)] 146)).heap.size = W.heap.size + 1 := by simp
 rw [hs1] at HJ
 generalize hw0 : (W.alloc (.cells #[.pointer (some ⟨q, 0, none⟩)] 146)).alloc (.cells #[.int .i64 0, .string ⟨#[]⟩, .int .i64 0] 41) = w0 at HB HJ HR HF ⊢
 clear hw0 hs1 H
 have hiq : W.heap.size ≠ q := by omega
 have hjq : W.heap.size + 1 ≠ q := by omega
 (refine wp_region_held_drew (S := fun w9 => Blk w9 W.heap.size 146 #[.pointer (some ⟨q, 0, none⟩)]) (by kernel_rfl) HB.out.drew (fun hHeld => ?_))
 have HBd := Lh HB.out.drew
 have HJd := Lh HJ.out.drew
 have HFd := Lh (HF.out.below_ (Below.refl _ _).drew)
 have HRd := Lh (HR.out.kept (Below.refl _ _).drew)
 clear HB HJ HF HR
 (refine tr (v := ?v101) 0 3 ?h101 ?_)
 case h101 => (intro w9 hSw; have hc9 := Blk.cell hSw; clear hSw; first | (go_simp; done) | (go_simp; with_reducible rfl))
 (try simp only [Act.put, z1, z2, z3])
 (refine tr (v := ?v102) 2 5 ?h102 ?_)
 case h102 => (intro w9 hSw; have hc9 := Blk.cell hSw; clear hSw; first | (go_simp; done) | (go_simp; with_reducible rfl))
 (try simp only [Act.put, z1, z2, z3])
 (refine tr (v := ?v103) 3 6 ?h103 ?_)
 case h103 => (intro w9 hSw; have hc9 := Blk.cell hSw; clear hSw; first | (go_simp; done) | (go_simp; with_reducible rfl))
 (try simp only [Act.put, z1, z2, z3])
 (refine tr (v := ?v104) 5 8 ?h104 ?_)
 case h104 => (intro w9 hSw; have hc9 := Blk.cell hSw; clear hSw; first | (go_simp; done) | (go_simp; with_reducible rfl))
 (try simp only [Act.put, z1, z2, z3])
 (refine tr (v := ?v105) 6 9 ?h105 ?_)
 case h105 => (intro w9 hSw; have hc9 := Blk.cell hSw; clear hSw; first | (go_simp; done) | (go_simp; with_reducible rfl))
 (try simp only [Act.put, z1, z2, z3])
 (refine wpAnyH_ready (rs := [1]) (by kernel_rfl) (by simp) ?_)
 (refine AllReadyH.cons (o := _) rfl (fun K hK => ?_) AllReadyH.nil)
 go_simp
 (with_reducible refine (in_num HRd.out).mono ?_)
 rintro e w1 ⟨rfl, fvw1, hr, hf⟩
 have HBw1 := Lh (hf.blk HBd.out hiq)
 have HJw1 := Lh (hf.blk HJd.out hjq)
 have HFw1 := Lh (HFd.out.trans hf)
 have HRw1 := Lh hr
 clear hr hf
 go_simp
 (refine hK.out _ _ HBw1.out (fun hHeld => ?_))
 clear hK K
 (try simp only [Act.put, z1, z2, z3])
 (refine wpAnyH_ready (rs := [4]) (by kernel_rfl) (by simp) ?_)
 (refine AllReadyH.cons (o := _) rfl (fun K hK => ?_) AllReadyH.nil)
 go_simp
 (with_reducible refine (rd_text HRw1.out 32 (by decide)).mono ?_)
 rintro e w2 ⟨rfl, fvw2, hr, hf⟩
 have HBw2 := Lh (hf.blk HBw1.out hiq)
 have HJw2 := Lh (hf.blk HJw1.out hjq)
 have HFw2 := Lh (HFw1.out.trans hf)
 have HRw2 := Lh hr
 clear hr hf
 go_simp
 (refine hK.out _ _ HBw2.out (fun hHeld => ?_))
 clear hK K
 (try simp only [Act.put, z1, z2, z3])
 (refine wpAnyH_ready (rs := [7]) (by kernel_rfl) (by simp) ?_)
 (refine AllReadyH.cons (o := _) rfl (fun K hK => ?_) AllReadyH.nil)
 go_simp
 (with_reducible refine (rd_int HRw2.out).mono ?_)
 rintro e w3 ⟨rfl, fvw3, hr, hf⟩
 have HBw3 := Lh (hf.blk HBw2.out hiq)
 have HJw3 := Lh (hf.blk HJw2.out hjq)
 have HFw3 := Lh (HFw2.out.trans hf)
 have HRw3 := Lh hr
 clear hr hf
 go_simp
 (refine hK.out _ _ HBw3.out (fun hHeld => ?_))
 clear hK K
 (try simp only [Act.put, z1, z2, z3])
 (refine tq 8 11 ?_)
 (try simp only [Act.put, z1, z2, z3])
 have hcj := HJw3.out.cell
 have hfj := HJw3.out.frozen
 (refine wpAnyH_ready (rs := [9]) (by kernel_rfl) (by simp) ?_)
 (refine AllReadyH.cons (o := _) rfl (fun K hK => ?_) AllReadyH.nil)
 go_simp
 obtain ⟨hj4, ht4, hb4⟩ := set3 HJw3.out (.int .i64 ((numP xs M40 s).1 : Int)) (.string (strOfNums (textP xs 32 (numP xs M40 s).2).1)) (.int .i64 (intP xs (textP xs 32 (numP xs M40 s).2).2).1)
 have HJ4 := Lh hj4
 have HT4 := Lh ht4
 have HB4 := Lh (hb4 W.heap.size _ _ (by omega) HBw3.out)
 clear hcj hfj hj4 ht4 hb4
 generalize ((w3.setCell ⟨W.heap.size + 1, 0, none⟩ (.int .i64 ((numP xs M40 s).1 : Int))).setCell ⟨W.heap.size + 1, 1, none⟩ (.string (strOfNums (textP xs 32 (numP xs M40 s).2).1))).setCell ⟨W.heap.size + 1, 2, none⟩ (.int .i64 (intP xs (textP xs 32 (numP xs M40 s).2).2).1) = w4 at HJ4 HT4 HB4 ⊢
 (refine hK.out _ _ HB4.out (fun hHeld => ?_))
 clear hK K
 (try simp only [Act.put, z1, z2, z3])
 (refine wpAnyH_done (by kernel_rfl) ?_ _)
 have HQ := Lh (show RdQ W q A n c xs fv (cellV (cellP xs s).1) (cellP xs s).2 (.returned (cellV (cellP xs s).1)) w4 from
  ⟨rfl, fvw3, HRw3.out.near HT4.out HJw3.out (by decide) (by omega) (fun ad e => by have := HA.out ad e; omega) (by omega), ⟨HFw3.out.1.trans HT4.out (fun k e => .inr (by omega)), HFw3.out.2⟩⟩)
 have hc4 : ∀ i, w4.cell? ⟨W.heap.size + 1, i, none⟩ = (#[.int .i64 (cellP xs s).1.view, .string (cellP xs s).1.key, .int .i64 (cellP xs s).1.start] : Array Value)[i]? := HJ4.out.cell
 clear HJ4 HB4 HT4
 generalize (cellP xs s).1 = x at *
 go_wp2
 exact bodyPost_ret (v := cellV x) (by simp [results, Tryz.results144, go_sem, hc4]) rfl HQ.out
end Go.Proofs.YtglbdbghcdoicaaGreatDoor

namespace Go.Proofs.YtglbdbghcdoicaaGreatDoor
open Go.RowKit

theorem leftP_le (xs : List Int) (s : RS) : leftP xs s ≤ xs.length := by
 unfold leftP
 split <;> omega

theorem in_count {q n c : Nat} {A : Option Addr} {xs : List Int} {s : RS} {fv : Value} {W : World} (h : RdIs W q A n c xs s fv) (most : Int) :
  Calls Tryz.prog 143 #[inV q, .int .i64 (n : Int), .int .i64 most] W (RdQ W q A n c xs fv (.int .i64 ((countP xs most s).1 : Int)) (countP xs most s).2) := by
 have H := Lh h
 have hq := h.blk.lt
 have HL := Lh h.len
 have HBG := Lh h.big
 have HLE := Lh (leftP_le xs s)
 clear h
 have HB := Lh (Blk.new W 146 #[.pointer (some ⟨q, 0, none⟩)])
 have hiq : W.heap.size ≠ q := by omega
 go_enter Tryz.func143, Tryz.ntmps143
 go_wp2_with fail
 go_at_call 149; (with_reducible refine (rd_left (H.out.alloc (.cells #[.pointer (some ⟨q, 0, none⟩)] 146))).mono ?_); rintro e w1 ⟨rfl, hb⟩
 have HR1 := Lh ((H.out.alloc (.cells #[.pointer (some ⟨q, 0, none⟩)] 146)).kept hb)
 have HF1 := Lh ((RdFr.alloc0 W q fv (.cells #[.pointer (some ⟨q, 0, none⟩)] 146)).below_ hb)
 have HB1 := Lh (HB.out.kept hb)
 have hc1 := HB1.out.cell
 clear hb H HB
 obtain ⟨lf, hlf⟩ : ∃ lf, lf = leftP xs s := ⟨_, rfl⟩
 have HLF := Lh hlf
 rw [← hlf] at HLE ⊢
 clear hlf
 have hw : wrap64 ((n : Int) - (lf : Int)) = (n : Int) - (lf : Int) := by
  have := HLE.out
  have := HL.out
  have := HBG.out
  exact IntWalk.wrap64_in _ ⟨by omega, by omega⟩
 go_wp2_with fail
 go_at_call 71; (with_reducible refine (in_num HR1.out).mono ?_); rintro e w2 ⟨rfl, fv2, hr, hf⟩
 have HR2 := Lh hr
 have HF2 := Lh (HF1.out.trans hf)
 have HB2 := Lh (hf.blk HB1.out hiq)
 have hc2 := HB2.out.cell
 clear hr hf hc1
 by_cases hm : most < ((numP xs M40 s).1 : Int)
 ·have HE := Lh (show countP xs most s = (0, (numP xs M40 s).2.fail 2 ((n : Int) - (lf : Int))) by unfold countP; rw [if_pos hm, HLF.out, HL.out])
  go_wp2_with fail
  go_at_call 73; (with_reducible refine (rd_fail HR2.out 2 ((n : Int) - (lf : Int))).mono ?_); rintro e w3 ⟨rfl, fv3, hr, hf⟩
  have HQ := Lh (show RdQ W q A n c xs fv (.int .i64 ((countP xs most s).1 : Int)) (countP xs most s).2 (.returned (.int .i64 0)) w3 from by
   rw [HE.out]; exact ⟨rfl, fv3, hr, HF2.out.trans hf⟩)
  clear hr hf
  go_wp2
  go_ret
  exact HQ.out
 ·have HE := Lh (show countP xs most s = numP xs M40 s by unfold countP; rw [if_neg hm])
  have HQ := Lh (show RdQ W q A n c xs fv (.int .i64 ((countP xs most s).1 : Int)) (countP xs most s).2 (.returned (.int .i64 ((numP xs M40 s).1 : Int))) w2 from by
   rw [HE.out]; exact ⟨rfl, fv2, HR2.out, HF2.out⟩)
  go_wp2
  go_ret
  exact HQ.out

/-- Cells that a slice of new memory holds. -/
def cellCs (cs : List CellV) : List Value := cs.flatMap CellV.cells
def CellsOwn (W : World) (base : Nat) (v : Value) (cs : List CellV) : Prop := W.ownsRow base 41 3 v cs.length (cellCs cs)
theorem cellCs_at : ∀ (cs : List CellV) (k : Nat) (hk : k < cs.length) (j : Nat) (u : Value), (cs[k].cells)[j]? = some u → (cellCs cs)[k * 3 + j]? = some u
 | [], _, hk, _, _, _ => absurd hk (Nat.not_lt_zero _)
 | c :: cs, 0, _, j, u, h => by
  have h : (c.cells)[j]? = some u := h
  have hj : j < c.cells.length := (List.getElem?_eq_some_iff.1 h).1
  simp only [cellCs, List.flatMap_cons, Nat.zero_mul, Nat.zero_add]
  rw [List.getElem?_append_left hj]
  exact h
 | c :: cs, k + 1, hk, j, u, h => by
  have hl : c.cells.length = 3 := rfl
  have ih := cellCs_at cs k (by simpa using hk) j u h
  simp only [cellCs, List.flatMap_cons] at ih ⊢
  rw [List.getElem?_append_right (by omega), hl, show (k + 1) * 3 + j - 3 = k * 3 + j by omega]
  exact ih
theorem CellsOwn.rd {W : World} {base : Nat} {v : Value} {cs : List CellV} (h : CellsOwn W base v cs) : ∃ A c, v = .slice A cs.length c ∧ CellsRd W A cs ∧ ∀ ad, A = some ad → base ≤ ad.block := by
 rcases h.2 with ⟨rfl, h0⟩ | ⟨g, cap, cur, rfl, hb, hg, _⟩
 ·refine ⟨none, 0, by rw [h0], fun k hk => absurd hk (by omega), fun ad e => by cases e⟩
 ·refine ⟨_, cap, rfl, fun k hk => ⟨_, rfl, (Array.getElem?_eq_some_iff.1 hg).1, fun j u hu => h.cells rfl _ _ (cellCs_at cs k hk j u hu)⟩, fun ad e => by cases e; exact hb⟩
/-- What the reading of a body's fields leaves: the request at b, the Reader at q. -/
structure RqIs (W0 : World) (q b : Nat) (A : Option Addr) (n c : Nat) (xs : List Int) (r : Rq) (s : RS) (fv v : Value) (W : World) : Prop where
 blk : Blk W b 43 (rqC v r)
 cells : CellsOwn W W0.heap.size v r.cs
 rd : RdIs W q A n c xs s fv
 tur : Tur (fun k => k = q ∨ k = b) W0 W
 bq : b ≠ q
 bl : b < W0.heap.size
 bA : ∀ ad, A = some ad → ad.block ≠ b ∧ ad.block < W0.heap.size
 bt : 0 ≠ b
section
variable {W0 W W1 : World} {q b n c : Nat} {A : Option Addr} {xs : List Int} {r : Rq} {s s1 : RS} {fv fv1 v : Value}
theorem CellsOwn.tur {S : Nat → Prop} {base : Nat} {cs : List CellV} (h : CellsOwn W base v cs) (ht : Tur S W W1) (hS : ∀ k, S k → k < base) : CellsOwn W1 base v cs :=
 ownsRow_tur h ht (fun k e hs => by have := hS k hs; have := (h.lt k e).1; omega)
theorem RqIs.kept (h : RqIs W0 q b A n c xs r s fv v W) (hb : Below W.heap.size W W1) : RqIs W0 q b A n c xs r s fv v W1 :=
 ⟨h.blk.kept hb, h.cells.tur (Tur.of_below (S := fun _ => False) hb) (fun _ e => e.elim), h.rd.kept hb, h.tur.trans (Tur.of_below (S := fun _ => False) hb) (fun _ e => e.elim), h.bq, h.bl, h.bA, h.bt⟩
theorem RqIs.alloc (h : RqIs W0 q b A n c xs r s fv v W) (o : Obj) : RqIs W0 q b A n c xs r s fv v (W.alloc o) := h.kept ((Below.refl _ _).alloc (Nat.le_refl _) o)
theorem RqIs.read (h : RqIs W0 q b A n c xs r s fv v W) (hq : q < W0.heap.size) (hr : RdIs W1 q A n c xs s1 fv1) (hf : RdFr W q fv W1 fv1) : RqIs W0 q b A n c xs r s1 fv1 v W1 :=
 ⟨hf.blk h.blk h.bq, h.cells.tur hf.1 (fun k e => by omega), hr, h.tur.trans hf.1 (fun k e => .inl (.inl e)), h.bq, h.bl, h.bA, h.bt⟩
/-- One field stored. -/
theorem RqIs.set_ {r1 : Rq} {v1 : Value} (h : RqIs W0 q b A n c xs r s fv v W) (j : Nat) (u : Value) (e : (rqC v r).setIfInBounds j u = rqC v1 r1) (hc : CellsOwn W W0.heap.size v1 r1.cs) : RqIs W0 q b A n c xs r1 s fv v1 (W.setCell ⟨b, j, none⟩ u) := by
 have ht : Tur (· = b) W (W.setCell ⟨b, j, none⟩ u) := (Tur.refl (· = b) W).setCell (p := ⟨b, j, none⟩) (.inl rfl) u
 exact ⟨e ▸ h.blk.set_ j u, hc.tur ht (fun k e => by have := h.bl; omega), h.rd.near ht h.blk (by decide) (fun e => h.bq e.symm) (fun ad e => (h.bA ad e).1) h.bt, h.tur.trans ht (fun k e => .inl (.inr e)), h.bq, h.bl, h.bA, h.bt⟩
end
abbrev RqQ (W0 : World) (q b : Nat) (A : Option Addr) (n c : Nat) (xs : List Int) (r : Rq) (s : RS) (e : Ending) (w' : World) : Prop := e = .returned (.tuple #[]) ∧ ∃ fv v, RqIs W0 q b A n c xs r s fv v w'

theorem cellsOwn_one (w3 : World) (x : CellV) (B : Nat) (hB : B ≤ w3.heap.size) : CellsOwn (w3.alloc (.cells #[.int .i64 x.view, .string x.key, .int .i64 x.start] 41)) B (.slice (some ⟨w3.heap.size, 0, none⟩) 1 1) [x] :=
 ⟨rfl, .inr ⟨w3.heap.size, 1, _, rfl, hB, heap_alloc_new w3 _, by simp, by unfold maxLen; omega, rfl, rfl⟩⟩
theorem in_bare {q b n c : Nat} {A : Option Addr} {xs : List Int} {r : Rq} {s : RS} {fv v : Value} {W0 W : World} (h : RqIs W0 q b A n c xs r s fv v W) :
  Calls Tryz.prog 114 #[inV q, .pointer (some ⟨b, 0, none⟩)] W (RqQ W0 q b A n c xs r s) := by
 have H := Lh h
 clear h
 go_enter Tryz.func114, Tryz.ntmps114
 go_wp2
 go_end0
 exact ⟨rfl, fv, v, H.out.alloc _⟩

theorem in_epoch {q b n c : Nat} {A : Option Addr} {xs : List Int} {r : Rq} {s : RS} {fv v : Value} {W0 W : World} (h : RqIs W0 q b A n c xs r s fv v W) (hq : q < W0.heap.size) :
  Calls Tryz.prog 115 #[inV q, .pointer (some ⟨b, 0, none⟩)] W (RqQ W0 q b A n c xs { r with epoch := (numP xs M40 s).1 } (numP xs M40 s).2) := by
 have H := Lh h
 have HQ := Lh hq
 clear h hq
 go_enter Tryz.func115, Tryz.ntmps115
 go_wp2_with fail
 go_at_call 71; (with_reducible refine (in_num (H.out.alloc (.cells #[.pointer (some ⟨q, 0, none⟩)] 146)).rd).mono ?_); rintro e w1 ⟨rfl, fv1, hr, hf⟩
 have H1 := Lh ((H.out.alloc (.cells #[.pointer (some ⟨q, 0, none⟩)] 146)).read HQ.out hr hf)
 clear hr hf
 have hc := H1.out.blk.cell
 have hfz := H1.out.blk.frozen
 go_wp2
 go_end0
 exact ⟨rfl, fv1, v, H1.out.set_ 2 _ rfl H1.out.cells⟩

theorem in_get {q b n c : Nat} {A : Option Addr} {xs : List Int} {r : Rq} {s : RS} {fv v : Value} {W0 W : World} (h : RqIs W0 q b A n c xs r s fv v W) (hq : q < W0.heap.size) :
  Calls Tryz.prog 112 #[inV q, .pointer (some ⟨b, 0, none⟩)] W (RqQ W0 q b A n c xs { r with epoch := (numP xs M40 s).1, cs := [(cellP xs (numP xs M40 s).2).1] } (cellP xs (numP xs M40 s).2).2) := by
 have H := Lh h
 have HQ := Lh hq
 clear h hq
 go_enter Tryz.func112, Tryz.ntmps112
 have HI := Lh (Blk.new W 146 #[.pointer (some ⟨q, 0, none⟩)])
 have hiq : W.heap.size ≠ q := by have := HQ.out; have := H.out.tur.size; omega
 have hib : W.heap.size ≠ b := by have := H.out.bl; have := H.out.tur.size; omega
 go_wp2_with fail
 go_at_call 71; (with_reducible refine (in_num (H.out.alloc (.cells #[.pointer (some ⟨q, 0, none⟩)] 146)).rd).mono ?_); rintro e w1 ⟨rfl, fv1, hr, hf⟩
 have H1 := Lh ((H.out.alloc (.cells #[.pointer (some ⟨q, 0, none⟩)] 146)).read HQ.out hr hf)
 have HI1 := Lh (hf.blk HI.out hiq)
 clear hr hf
 have hc := H1.out.blk.cell
 have hfz := H1.out.blk.frozen
 have H2 := Lh (H1.out.set_ (r1 := { r with epoch := (numP xs M40 s).1 }) 2 (.int .i64 ((numP xs M40 s).1 : Int)) rfl H1.out.cells)
 have HI2 := Lh (HI1.out.far (p := ⟨b, 2, none⟩) hib (.int .i64 ((numP xs M40 s).1 : Int)))
 have hc2 := HI2.out.cell
 go_wp2_with fail
 go_at_call 144; (with_reducible refine (in_cell H2.out.rd (fun ad e => by have := (H2.out.bA ad e).2; have := H2.out.tur.size; omega)).mono ?_); rintro e w3 ⟨rfl, fv3, hr, hf⟩
 have H3 := Lh (H2.out.read HQ.out hr hf)
 clear hr hf hc hfz hc2
 generalize (cellP xs (numP xs M40 s).2) = y at *
 obtain ⟨x, s3⟩ := y
 have hc := H3.out.blk.cell
 have hfz := H3.out.blk.frozen
 have hbl := Nat.lt_of_lt_of_le H3.out.bl H3.out.tur.size
 go_wp2
 go_end0
 have HS := Lh (show RqIs W0 q b A n c xs { r with epoch := ((numP xs M40 s).1 : Int), cs := [x] } s3 fv3 (.slice (some ⟨w3.heap.size, 0, none⟩) 1 1) ((w3.alloc (.cells #[.int .i64 x.view, .string x.key, .int .i64 x.start] 41)).setCell ⟨b, 3, none⟩ (.slice (some ⟨w3.heap.size, 0, none⟩) 1 1)) from
  (H3.out.alloc (.cells #[.int .i64 x.view, .string x.key, .int .i64 x.start] 41)).set_ 3 _ rfl (cellsOwn_one w3 x W0.heap.size H3.out.tur.size))
 rw [World.setCell_alloc_past _ _ _ _ hbl] at HS
 exact ⟨rfl, fv3, _, HS.out⟩
end Go.Proofs.YtglbdbghcdoicaaGreatDoor

namespace Go.Proofs.YtglbdbghcdoicaaGreatDoor
open Go.RowKit
section
variable {W0 W W1 : World} {q b n c : Nat} {A : Option Addr} {xs : List Int} {r : Rq} {s s1 : RS} {fv fv1 v : Value}
theorem RqIs.frm_ (h : RqIs W0 q b A n c xs r s fv v W) (x : CellV) : RqIs W0 q b A n c xs { r with frm := x } s fv v (((W.setCell ⟨b, 4, none⟩ (.int .i64 x.view)).setCell ⟨b, 5, none⟩ (.string x.key)).setCell ⟨b, 6, none⟩ (.int .i64 x.start)) := by
 have h1 := h.set_ (r1 := { r with frm := ⟨x.view, r.frm.key, r.frm.start⟩ }) 4 (.int .i64 x.view) rfl h.cells
 have h2 := h1.set_ (r1 := { r with frm := ⟨x.view, x.key, r.frm.start⟩ }) 5 (.string x.key) rfl h1.cells
 exact h2.set_ (r1 := { r with frm := x }) 6 (.int .i64 x.start) rfl h2.cells
theorem RqIs.too_ (h : RqIs W0 q b A n c xs r s fv v W) (x : CellV) : RqIs W0 q b A n c xs { r with too := x } s fv v (((W.setCell ⟨b, 7, none⟩ (.int .i64 x.view)).setCell ⟨b, 8, none⟩ (.string x.key)).setCell ⟨b, 9, none⟩ (.int .i64 x.start)) := by
 have h1 := h.set_ (r1 := { r with too := ⟨x.view, r.too.key, r.too.start⟩ }) 7 (.int .i64 x.view) rfl h.cells
 have h2 := h1.set_ (r1 := { r with too := ⟨x.view, x.key, r.too.start⟩ }) 8 (.string x.key) rfl h1.cells
 exact h2.set_ (r1 := { r with too := x }) 9 (.int .i64 x.start) rfl h2.cells
theorem RqIs.in_blk {i : Nat} {t : TypeId} {cs : Array Value} {S : Nat → Prop} (hb : Blk W i t cs) (ht : Tur S W W1) (hi : ¬ S i) : Blk W1 i t cs := hb.tur ht hi
end
theorem in_scan {q b n c : Nat} {A : Option Addr} {xs : List Int} {r : Rq} {s : RS} {fv v : Value} {W0 W : World} (h : RqIs W0 q b A n c xs r s fv v W) (hq : q < W0.heap.size) :
  Calls Tryz.prog 113 #[inV q, .pointer (some ⟨b, 0, none⟩)] W (RqQ W0 q b A n c xs { r with epoch := ((numP xs M40 s).1 : Int), frm := (cellP xs (numP xs M40 s).2).1, too := (cellP xs (cellP xs (numP xs M40 s).2).2).1, limit := ((numP xs M40 (cellP xs (cellP xs (numP xs M40 s).2).2).2).1 : Int) } (numP xs M40 (cellP xs (cellP xs (numP xs M40 s).2).2).2).2) := by
 have H := Lh (h.alloc (.cells #[.pointer (some ⟨q, 0, none⟩)] 146))
 have HQ := Lh hq
 have HI := Lh (Blk.new W 146 #[.pointer (some ⟨q, 0, none⟩)])
 have hiq : W.heap.size ≠ q := by have := h.tur.size; omega
 have hib : W.heap.size ≠ b := by have := h.bl; have := h.tur.size; omega
 clear h hq
 go_enter Tryz.func113, Tryz.ntmps113
 go_wp2_with fail
 generalize hw0 : W.alloc (.cells #[.pointer (some ⟨q, 0, none⟩)] 146) = w0 at H HI ⊢
 generalize W.heap.size = i at *
 clear hw0
 (refine wp_region_held_drew (S := fun w9 => Blk w9 i 146 #[.pointer (some ⟨q, 0, none⟩)]) (by kernel_rfl) HI.out.drew (fun hHeld => ?_))
 have Hd := Lh (H.out.kept (Below.refl _ _).drew)
 have HId := Lh HI.out.drew
 clear H HI
 (refine tq 0 4 ?_)
 (try simp only [Act.put, z1, z2, z3])
 (refine tq 1 5 ?_)
 (try simp only [Act.put, z1, z2, z3])
 (refine tq 2 6 ?_)
 (try simp only [Act.put, z1, z2, z3])
 (refine tq 3 7 ?_)
 (try simp only [Act.put, z1, z2, z3])
 (refine tr (v := ?v105) 4 8 ?h105 ?_)
 case h105 => (intro w9 hSw; have hc9 := Blk.cell hSw; clear hSw; first | (go_simp; done) | (go_simp; with_reducible rfl))
 (try simp only [Act.put, z1, z2, z3])
 (refine tr (v := ?v106) 6 10 ?h106 ?_)
 case h106 => (intro w9 hSw; have hc9 := Blk.cell hSw; clear hSw; first | (go_simp; done) | (go_simp; with_reducible rfl))
 (try simp only [Act.put, z1, z2, z3])
 (refine tr (v := ?v107) 8 12 ?h107 ?_)
 case h107 => (intro w9 hSw; have hc9 := Blk.cell hSw; clear hSw; first | (go_simp; done) | (go_simp; with_reducible rfl))
 (try simp only [Act.put, z1, z2, z3])
 (refine tr (v := ?v108) 10 14 ?h108 ?_)
 case h108 => (intro w9 hSw; have hc9 := Blk.cell hSw; clear hSw; first | (go_simp; done) | (go_simp; with_reducible rfl))
 (try simp only [Act.put, z1, z2, z3])
 (refine wpAnyH_ready (rs := [5]) (by kernel_rfl) (by simp) ?_)
 (refine AllReadyH.cons (o := _) rfl (fun K hK => ?_) AllReadyH.nil)
 go_simp
 (with_reducible refine (in_num Hd.out.rd).mono ?_)
 rintro e w1 ⟨rfl, fvw1, hr, hf⟩
 have Hw1 := Lh (Hd.out.read HQ.out hr hf)
 have HIw1 := Lh (hf.blk HId.out hiq)
 clear hr hf Hd HId
 generalize (numP xs M40 s) = y at *
 obtain ⟨n0, s1⟩ := y
 go_simp
 (refine hK.out _ _ HIw1.out (fun hHeld => ?_))
 clear hK K
 (try dsimp only)
 (refine wpAnyH_ready (rs := [7]) (by kernel_rfl) (by simp) ?_)
 (refine AllReadyH.cons (o := _) rfl (fun K hK => ?_) AllReadyH.nil)
 go_simp
 (with_reducible refine (in_cell Hw1.out.rd (fun ad e => by have := (Hw1.out.bA ad e).2; have := Hw1.out.tur.size; omega)).mono ?_)
 rintro e w2 ⟨rfl, fvw2, hr, hf⟩
 have Hw2 := Lh (Hw1.out.read HQ.out hr hf)
 have HIw2 := Lh (hf.blk HIw1.out hiq)
 clear hr hf Hw1 HIw1
 generalize (cellP xs s1) = y at *
 obtain ⟨x1, s2⟩ := y
 go_simp
 (refine hK.out _ _ HIw2.out (fun hHeld => ?_))
 clear hK K
 (try dsimp only)
 (refine wpAnyH_ready (rs := [9]) (by kernel_rfl) (by simp) ?_)
 (refine AllReadyH.cons (o := _) rfl (fun K hK => ?_) AllReadyH.nil)
 go_simp
 (with_reducible refine (in_cell Hw2.out.rd (fun ad e => by have := (Hw2.out.bA ad e).2; have := Hw2.out.tur.size; omega)).mono ?_)
 rintro e w3 ⟨rfl, fvw3, hr, hf⟩
 have Hw3 := Lh (Hw2.out.read HQ.out hr hf)
 have HIw3 := Lh (hf.blk HIw2.out hiq)
 clear hr hf Hw2 HIw2
 generalize (cellP xs s2) = y at *
 obtain ⟨x2, s3⟩ := y
 go_simp
 (refine hK.out _ _ HIw3.out (fun hHeld => ?_))
 clear hK K
 (try dsimp only)
 (refine wpAnyH_ready (rs := [11]) (by kernel_rfl) (by simp) ?_)
 (refine AllReadyH.cons (o := _) rfl (fun K hK => ?_) AllReadyH.nil)
 go_simp
 (with_reducible refine (in_num Hw3.out.rd).mono ?_)
 rintro e w4 ⟨rfl, fvw4, hr, hf⟩
 have Hw4 := Lh (Hw3.out.read HQ.out hr hf)
 have HIw4 := Lh (hf.blk HIw3.out hiq)
 clear hr hf Hw3 HIw3
 generalize (numP xs M40 s3) = y at *
 obtain ⟨n3, s4⟩ := y
 go_simp
 (refine hK.out _ _ HIw4.out (fun hHeld => ?_))
 clear hK K
 (try dsimp only)
 (refine tq 12 16 ?_)
 (try simp only [Act.put, z1, z2, z3])
 (refine tq 13 17 ?_)
 (try simp only [Act.put, z1, z2, z3])
 have hcb := Hw4.out.blk.cell
 have hfb := Hw4.out.blk.frozen
 (refine wpAnyH_ready (rs := [14]) (by kernel_rfl) (by simp) ?_)
 (refine AllReadyH.cons (o := _) rfl (fun K hK => ?_) AllReadyH.nil)
 go_simp
 have Ha := Lh (Hw4.out.set_ (r1 := { r with epoch := (n0 : Int) }) 2 (.int .i64 (n0 : Int)) rfl Hw4.out.cells)
 have HIa := Lh (HIw4.out.far (p := ⟨b, 2, none⟩) hib (.int .i64 (n0 : Int)))
 clear hcb hfb Hw4
 (refine hK.out _ _ HIa.out (fun hHeld => ?_))
 clear hK K
 (try simp only [Act.put, z1, z2, z3])
 (refine tq 15 18 ?_)
 (try simp only [Act.put, z1, z2, z3])
 (refine tq 16 19 ?_)
 (try simp only [Act.put, z1, z2, z3])
 have hcb := Ha.out.blk.cell
 have hfb := Ha.out.blk.frozen
 (refine wpAnyH_ready (rs := [17]) (by kernel_rfl) (by simp) ?_)
 (refine AllReadyH.cons (o := _) rfl (fun K hK => ?_) AllReadyH.nil)
 go_simp
 have Hb := Lh (Ha.out.frm_ x1)
 have HIb := Lh (((HIa.out.far (p := ⟨b, 4, none⟩) hib (.int .i64 x1.view)).far (p := ⟨b, 5, none⟩) hib (.string x1.key)).far (p := ⟨b, 6, none⟩) hib (.int .i64 x1.start))
 clear hcb hfb Ha
 (refine hK.out _ _ HIb.out (fun hHeld => ?_))
 clear hK K
 (try simp only [Act.put, z1, z2, z3])
 (refine tq 18 20 ?_)
 (try simp only [Act.put, z1, z2, z3])
 (refine tq 19 21 ?_)
 (try simp only [Act.put, z1, z2, z3])
 have hcb := Hb.out.blk.cell
 have hfb := Hb.out.blk.frozen
 (refine wpAnyH_ready (rs := [20]) (by kernel_rfl) (by simp) ?_)
 (refine AllReadyH.cons (o := _) rfl (fun K hK => ?_) AllReadyH.nil)
 go_simp
 have Hc := Lh (Hb.out.too_ x2)
 have HIc := Lh (((HIb.out.far (p := ⟨b, 7, none⟩) hib (.int .i64 x2.view)).far (p := ⟨b, 8, none⟩) hib (.string x2.key)).far (p := ⟨b, 9, none⟩) hib (.int .i64 x2.start))
 clear hcb hfb Hb
 (refine hK.out _ _ HIc.out (fun hHeld => ?_))
 clear hK K
 (try simp only [Act.put, z1, z2, z3])
 (refine tq 21 22 ?_)
 (try simp only [Act.put, z1, z2, z3])
 (refine tq 22 23 ?_)
 (try simp only [Act.put, z1, z2, z3])
 have hcb := Hc.out.blk.cell
 have hfb := Hc.out.blk.frozen
 (refine wpAnyH_ready (rs := [23]) (by kernel_rfl) (by simp) ?_)
 (refine AllReadyH.cons (o := _) rfl (fun K hK => ?_) AllReadyH.nil)
 go_simp
 have Hd := Lh (Hc.out.set_ (r1 := { r with epoch := (n0 : Int), frm := x1, too := x2, limit := (n3 : Int) }) 10 (.int .i64 (n3 : Int)) rfl Hc.out.cells)
 have HId := Lh (HIc.out.far (p := ⟨b, 10, none⟩) hib (.int .i64 (n3 : Int)))
 clear hcb hfb Hc
 (refine hK.out _ _ HId.out (fun hHeld => ?_))
 clear hK K
 (try simp only [Act.put, z1, z2, z3])
 (refine wpAnyH_done (by kernel_rfl) ?_ _)
 go_wp2
 go_end0
 exact ⟨rfl, _, _, Hd.out⟩
end Go.Proofs.YtglbdbghcdoicaaGreatDoor

namespace Go.Proofs.YtglbdbghcdoicaaGreatDoor
open Go.RowKit

def stepC (xs : List Int) (st : List CellV × RS) : List CellV × RS := if st.2.fault.isSome then st else (st.1 ++ [(cellP xs st.2).1], (cellP xs st.2).2)
def cellsP (xs : List Int) : Nat → List CellV × RS → List CellV × RS
 | 0, st => st
 | k + 1, st => stepC xs (cellsP xs k st)
theorem cellsP_len (xs : List Int) (st : List CellV × RS) : ∀ k, (cellsP xs k st).1.length ≤ st.1.length + k
 | 0 => Nat.le_refl _
 | k + 1 => by
  have ih := cellsP_len xs st k
  unfold cellsP stepC
  split
  ·omega
  ·simp; omega
theorem fail_same {s : RS} {e p : Int} (h : s.fault.isSome = true) : s.fail e p = s := by
 unfold RS.fail
 split
 ·rfl
 ·rename_i h0; rw [h0] at h; cases h
theorem countP_le (xs : List Int) (most : Nat) (s : RS) : (countP xs most s).1 ≤ most := by
 unfold countP
 split
 ·exact Nat.zero_le _
 ·omega
theorem want_ {c : Prop} [Decidable c] {A B : Prop} (h : c) (ha : A) : if c then A else B := by rw [if_pos h]; exact ha
section
variable {P : Program} {w : World}
/-- An append of one struct onto a row of its own. -/
theorem wp_append_at {o : Oper} {a : Act} {K : Act → World → Prop} {Q : Exit → Act → World → Prop} (s x : Operand) (t : TypeId)
  (ho : o.op = .call { callee := .builtin .append, args := #[s, x], argTypes := #[t, t] })
  (base : Nat) (e : TypeId) (i : TypeInfo) (z : Value) (size bytes : Nat) (ht : P.underlying t = some (.slice e)) (hi : P.info? e = some i) (hz : i.zero = some z)
  (hsize : i.size = size) (hby : i.bytes = bytes) (hzs : z.cells.size = size) (hsz : 0 < size)
  (v : Value) (n : Nat) (xs : List Value) (hs : a.eval s = v) (hown : w.ownsRow base e size v n xs)
  (ad : Addr) (m c : Nat) (news : List Value) (hx : a.eval x = .slice (some ad) m c) (hl : news.length = m * size) (hnews : ∀ j u, news[j]? = some u → w.cell? (ad.add j) = some u) (h1 : ∀ u ∈ news, u.oneCell' = true)
  (h63 : n + m ≤ maxLen) (hbytes : (n + m) * bytes ≤ 140737488355328) (hbase : base ≤ w.heap.size)
  (h : ∀ v' w', w'.ownsRow base e size v' (n + m) (xs ++ news) → w.grownBy w' v.ownBlock → (v'.ownBlock = v.ownBlock ∨ v'.ownBlock = some w.heap.size) → K (a.put o.dst v') w') : o.wp P a w K Q := by
 obtain ⟨v', w', hr, h2, h3, _, h5⟩ := run_append_own_at (P := P) w base t o.type e i z size bytes ht hi hz hsize hby hzs hsz v n xs hown ad m c news hl hnews h1 h63 hbytes hbase
 unfold Oper.wp execOp
 simp only [ho, resolve, invoke, builtin, Sem.run_bind, Sem.run_pure, Result.andThen_ok, List.map_toArray, List.map_cons, List.map_nil, hs, hx, hr]
 exact h v' w' h2 h3 h5
end
section
variable {W0 W W1 : World} {q b n c : Nat} {A : Option Addr} {xs : List Int} {r : Rq} {s s1 : RS} {fv fv1 v v1 : Value}
/-- What an append onto the cells leaves, ahead of the store. -/
theorem RqIs.grown {x : CellV} (h : RqIs W0 q b A n c xs r s fv v W) (hq : q < W0.heap.size) (hty : 0 < W0.heap.size) (hg : W.grownBy W1 v.ownBlock) (hown : W1.ownsRow W0.heap.size 41 3 v1 (r.cs.length + 1) (cellCs r.cs ++ x.cells)) :
  RqIs W0 q b A n c xs { r with cs := r.cs ++ [x] } s fv v1 (W1.setCell ⟨b, 3, none⟩ v1) := by
 have hk : ∀ k, v.ownBlock = some k → W0.heap.size ≤ k := fun k e => (h.cells.lt k e).1
 have ht : Tur (fun k => v.ownBlock = some k) W W1 := Tur.of_grown hg (fun k e => e)
 have hb : Blk W1 b 43 (rqC v r) := h.blk.tur ht (fun e => by have := hk _ e; have := h.bl; omega)
 have hr : RdIs W1 q A n c xs s fv := h.rd.tur ht (fun e => by have := hk _ e; omega) (fun ad e e2 => by have := hk _ e2; have := (h.bA ad e).2; omega)
  (fun g e e2 => by
   obtain ⟨cs', hb'⟩ := h.rd.err_blk e
   rcases h.cells.2 with ⟨e3, _⟩ | ⟨g', cap, cur, e3, _, hg', _⟩
   ·rw [e3] at e2; cases e2
   ·rw [e3] at e2
    cases e2
    exact absurd rfl (hb'.ne_ (show Blk W g' 41 cur from hg') (by decide))) (fun e => by have := hk _ e; omega)
 have ht2 : Tur (· = b) W1 (W1.setCell ⟨b, 3, none⟩ v1) := (Tur.refl (· = b) W1).setCell (p := ⟨b, 3, none⟩) (.inl rfl) v1
 have hc : CellsOwn W1 W0.heap.size v1 (r.cs ++ [x]) := by
  unfold CellsOwn cellCs
  rw [List.length_append, List.flatMap_append]
  simpa [cellCs] using hown
 exact ⟨hb.set_ 3 v1, hc.tur ht2 (fun k e => by have := h.bl; omega), hr.near ht2 hb (by decide) (fun e => h.bq e.symm) (fun ad e => (h.bA ad e).1) h.bt,
  (h.tur.trans ht (fun k e => .inr (hk k e))).trans ht2 (fun k e => .inl (.inr e)), h.bq, h.bl, h.bA, h.bt⟩
end
theorem info_cell0 : (Tryz.prog.info? 41).map (fun i => (i.zero.map (fun z => z.cells.size), i.size, i.bytes)) = some (some 3, 3, 32) := by kernel_rfl
theorem info_cell : ∃ i z, Tryz.prog.info? 41 = some i ∧ i.zero = some z ∧ i.size = 3 ∧ i.bytes = 32 ∧ z.cells.size = 3 := by
 have h := info_cell0
 cases hi : Tryz.prog.info? 41 with
 | none => rw [hi] at h; cases h
 | some ic =>
  rw [hi] at h
  injection h with h
  injection h with h1 h2
  injection h2 with h2 h3
  cases hz : ic.zero with
  | none => rw [hz] at h1; cases h1
  | some z =>
   rw [hz] at h1
   injection h1 with h1
   exact ⟨ic, z, rfl, hz, h2, h3, h1⟩
theorem own_form3 {w : World} {base : Nat} {e : TypeId} {size n : Nat} {v : Value} {xs : List Value} (h : w.ownsRow base e size v n xs) : ∃ A c, v = .slice A n c := by
 rcases h.2 with ⟨rfl, rfl⟩ | ⟨g, cap, cur, rfl, _⟩
 ·exact ⟨none, 0, rfl⟩
 ·exact ⟨_, cap, rfl⟩
theorem RqIs.own_ne {W0 W : World} {q b n c : Nat} {A : Option Addr} {xs : List Int} {r : Rq} {s : RS} {fv v : Value} {i : Nat} {t : TypeId} {cs : Array Value} (h : RqIs W0 q b A n c xs r s fv v W) (hb : Blk W i t cs) (ht : t ≠ 41) : some i ≠ v.ownBlock := by
 intro e
 rcases h.cells.2 with ⟨e3, _⟩ | ⟨g', cap, cur, e3, _, hg', _⟩
 ·rw [e3] at e; cases e
 ·rw [e3] at e
  cases e
  exact absurd rfl (hb.ne_ (show Blk W g' 41 cur from hg') ht)
theorem cells_one_c {w : World} {j : Nat} {x : CellV} (h : Blk w j 41 #[.int .i64 x.view, .string x.key, .int .i64 x.start]) : ∀ k u, (x.cells)[k]? = some u → w.cell? ((⟨j, 0, none⟩ : Addr).add k) = some u := by
 intro k u hu
 rw [show (⟨j, 0, none⟩ : Addr).add k = ⟨j, k, none⟩ by cases k <;> simp [Addr.add]]
 rw [h.cell k, ← hu]
 simp [CellV.cells]
theorem cells_one1 (x : CellV) : ∀ u ∈ x.cells, u.oneCell' = true := by
 intro u hu
 simp only [CellV.cells, List.mem_cons, List.not_mem_nil, or_false] at hu
 rcases hu with rfl | rfl | rfl <;> rfl
theorem in_multi {q b n c : Nat} {A : Option Addr} {xs : List Int} {r : Rq} {s : RS} {fv v : Value} {W0 W : World} (h : RqIs W0 q b A n c xs r s fv v W) (hq : q < W0.heap.size) (hty : 0 < W0.heap.size) (hr0 : r.cs = []) :
  Calls Tryz.prog 111 #[inV q, .pointer (some ⟨b, 0, none⟩), .int .i64 (n : Int)] W (RqQ W0 q b A n c xs { r with epoch := ((numP xs M40 s).1 : Int), cs := (cellsP xs (countP xs 16 (numP xs M40 s).2).1 ([], (countP xs 16 (numP xs M40 s).2).2)).1 } (cellsP xs (countP xs 16 (numP xs M40 s).2).1 ([], (countP xs 16 (numP xs M40 s).2).2)).2) := by
 have H := Lh (h.alloc (.cells #[.pointer (some ⟨q, 0, none⟩)] 146))
 have HQ := Lh hq
 have HTY := Lh hty
 have HR0 := Lh hr0
 have HI := Lh (Blk.new W 146 #[.pointer (some ⟨q, 0, none⟩)])
 have hiq : W.heap.size ≠ q := by have := h.tur.size; omega
 have hib : W.heap.size ≠ b := by have := h.bl; have := h.tur.size; omega
 clear h hq hty hr0
 go_enter Tryz.func111, Tryz.ntmps111
 go_wp2_with fail
 generalize hw0 : W.alloc (.cells #[.pointer (some ⟨q, 0, none⟩)] 146) = w0 at H HI ⊢
 generalize W.heap.size = i at *
 clear hw0
 go_at_call 71; (with_reducible refine (in_num H.out.rd).mono ?_); rintro e w1 ⟨rfl, fv1, hr, hf⟩
 have H1 := Lh (H.out.read HQ.out hr hf)
 have HI1 := Lh (hf.blk HI.out hiq)
 clear hr hf H HI
 generalize (numP xs M40 s) = y at *
 obtain ⟨n0, s1⟩ := y
 dsimp only at H1 ⊢
 have hcb := H1.out.blk.cell
 have hfb := H1.out.blk.frozen
 have H2 := Lh (H1.out.set_ (r1 := { r with epoch := (n0 : Int) }) 2 (.int .i64 (n0 : Int)) rfl H1.out.cells)
 have HI2 := Lh (HI1.out.far (p := ⟨b, 2, none⟩) hib (.int .i64 (n0 : Int)))
 have hci := HI2.out.cell
 go_wp2_with fail
 generalize hw2 : w1.setCell ⟨b, 2, none⟩ (.int .i64 (n0 : Int)) = w2 at *
 clear hw2 H1 HI1 hcb hfb
 go_at_call 143; (with_reducible refine (in_count H2.out.rd 16).mono ?_); rintro e w3 ⟨rfl, fv3, hr, hf⟩
 have H3 := Lh (H2.out.read HQ.out hr hf)
 have HI3 := Lh (hf.blk HI2.out hiq)
 have HCL := Lh (countP_le xs 16 s1)
 clear hr hf H2 HI2 hci
 generalize hy : (countP xs 16 s1) = y at *
 obtain ⟨cnt, s2⟩ := y
 clear hy
 dsimp only at H3 HCL ⊢
 have H3' := Lh (show RqIs W0 q b A n c xs { r with epoch := (n0 : Int), cs := (cellsP xs 0 ([], s2)).1 } (cellsP xs 0 ([], s2)).2 fv3 v w3 from by
  have hx := H3.out
  have e : ({ r with epoch := (n0 : Int) } : Rq) = { r with epoch := (n0 : Int), cs := [] } := by rw [← HR0.out]
  rw [e] at hx
  exact hx)
 clear H3
 have hci := HI3.out.cell
 go_wp2
 clear hci
 go_loopw [14] (fun t14 wz => ∃ k : Nat, t14 = .int .i64 (k : Int) ∧ k ≤ cnt ∧ Hid (∃ fz vz, RqIs W0 q b A n c xs { r with epoch := (n0 : Int), cs := (cellsP xs k ([], s2)).1 } (cellsP xs k ([], s2)).2 fz vz wz ∧ Blk wz i 146 #[.pointer (some ⟨q, 0, none⟩)])) (fun t14 _ => cnt - (intOf t14).toNat)
 case atStart => exact ⟨0, rfl, Nat.zero_le _, Lh ⟨fv3, v, H3'.out, HI3.out⟩⟩
 case round =>
  obtain ⟨k, rfl, hk, HP0⟩ := hrel
  obtain ⟨fz, vz, hP, hI⟩ := HP0.out
  have HP := Lh hP
  have HIz := Lh hI
  clear HP0 hP hI
  rename World => wz
  have h16 : cnt ≤ 16 := HCL.out
  have LK := Lh (cellsP_len xs ([], s2) k)
  have HSTEP := Lh (show cellsP xs (k + 1) ([], s2) = stepC xs (cellsP xs k ([], s2)) from rfl)
  have hci := HIz.out.cell
  by_cases hkn : k < cnt
  ·generalize cellsP xs k ([], s2) = st at *
   obtain ⟨l, sz⟩ := st
   dsimp only at HP LK
   go_wp2_with fail
   go_at_call 74; (with_reducible refine (rd_err HP.out.rd).mono ?_); rintro e w4 ⟨hb4, he⟩
   have H4 := Lh (HP.out.kept hb4)
   have HI4 := Lh (HIz.out.kept hb4)
   clear hb4 hci HP HIz
   rcases hfz : sz.fault with _ | ⟨ec, ep⟩
   ·rw [hfz] at he
    obtain rfl := he
    have HS2 := Lh (show cellsP xs (k + 1) ([], s2) = (l ++ [(cellP xs sz).1], (cellP xs sz).2) by rw [HSTEP.out]; unfold stepC; simp [hfz])
    go_wp2_with fail
    obtain ⟨ic, zc, hic, hzc, hz1, hz2, hz3⟩ := info_cell
    (refine wp_region_held_drew (S := fun w9 => Blk w9 i 146 #[.pointer (some ⟨q, 0, none⟩)]) (by kernel_rfl) HI4.out.drew (fun hHeld => ?_))
    have Hd := Lh (H4.out.kept (Below.refl _ _).drew)
    have HId := Lh HI4.out.drew
    clear H4 HI4
    (refine tq 0 20 ?_)
    ((try simp only [Act.put]); (try simp only [z1]); (try simp only [z3]); (try simp only [z2]))
    (refine tq 1 21 ?_)
    ((try simp only [Act.put]); (try simp only [z1]); (try simp only [z3]); (try simp only [z2]))
    (refine tq 2 22 ?_)
    ((try simp only [Act.put]); (try simp only [z1]); (try simp only [z3]); (try simp only [z2]))
    (refine tq 3 23 ?_)
    ((try simp only [Act.put]); (try simp only [z1]); (try simp only [z3]); (try simp only [z2]))
    (refine tr (v := ?v105) 5 25 ?h105 ?_)
    case h105 => (intro w9 hSw; have hc9 := Blk.cell hSw; clear hSw; first | (go_simp; done) | (go_simp; with_reducible rfl))
    ((try simp only [Act.put]); (try simp only [z1]); (try simp only [z3]); (try simp only [z2]))
    (refine wpAnyH_ready (rs := [4, 6]) (by kernel_rfl) (by simp) ?_)
    refine AllReadyH.cons (o := _) rfl (fun K hK => ?_) (AllReadyH.cons (o := _) rfl (fun K hK => ?_) AllReadyH.nil)
    ·have hcb := Hd.out.blk.cell
     go_simp
     clear hcb
     (refine hK.out _ _ HId.out (fun hHeld => ?_))
     clear hK K
     ((try simp only [Act.put]); (try simp only [z1]); (try simp only [z3]); (try simp only [z2]))
     (refine wpAnyH_ready (rs := [6]) (by kernel_rfl) (by simp) ?_)
     (refine AllReadyH.cons (o := _) rfl (fun K hK => ?_) AllReadyH.nil)
     go_simp
     (with_reducible refine (in_cell Hd.out.rd (fun ad e => by have := (Hd.out.bA ad e).2; have := Hd.out.tur.size; omega)).mono ?_)
     rintro e w5 ⟨rfl, fv5, hr, hf⟩
     have H5 := Lh (Hd.out.read HQ.out hr hf)
     have HI5 := Lh (hf.blk HId.out hiq)
     clear hr hf
     generalize (cellP xs sz) = y at *
     obtain ⟨x, s5⟩ := y
     dsimp only at H5 HS2
     go_simp
     (refine hK.out _ _ HI5.out (fun hHeld => ?_))
     clear hK K
     (try dsimp only)
     (refine wpAnyH_ready (rs := [7]) (by kernel_rfl) (by simp) ?_)
     (refine AllReadyH.cons (o := _) rfl (fun K hK => ?_) AllReadyH.nil)
     go_simp
     have HN6 := Lh (Blk.new w5 41 #[.int .i64 x.view, .string x.key, .int .i64 x.start])
     have H6 := Lh (H5.out.alloc (.cells #[.int .i64 x.view, .string x.key, .int .i64 x.start] 41))
     have HI6 := Lh (HI5.out.alloc (.cells #[.int .i64 x.view, .string x.key, .int .i64 x.start] 41))
     generalize hw6 : w5.alloc (.cells #[.int .i64 x.view, .string x.key, .int .i64 x.start] 41) = w6 at *
     generalize w5.heap.size = jn at *
     (refine hK.out _ _ HI6.out (fun hHeld => ?_))
     clear hK K
     ((try simp only [Act.put]); (try simp only [z1]); (try simp only [z3]); (try simp only [z2]))
     (refine wpAnyH_ready (rs := [8]) (by kernel_rfl) (by simp) ?_)
     (refine AllReadyH.cons (o := _) rfl (fun K hK => ?_) AllReadyH.nil)
     refine want_ (by kernel_rfl) ?_
     refine wp_append_at _ _ _ rfl W0.heap.size _ ic zc 3 32 Tryz.underlying39 hic hzc hz1 hz2 hz3 (by decide) vz l.length (cellCs l) rfl H6.out.cells ⟨jn, 0, none⟩ 1 1 x.cells rfl rfl (cells_one_c HN6.out) (cells_one1 x) (by have := LK.out; simp at this; unfold maxLen; omega) (by have := LK.out; simp at this; omega) H6.out.tur.size ?_
     intro v7 w7 hown hg hv
     obtain ⟨A7, c7, rfl⟩ := own_form3 hown
     have HB7 := Lh (H6.out.blk.grown hg (H6.out.own_ne H6.out.blk (by decide)))
     have HI7 := Lh (HI6.out.grown hg (H6.out.own_ne HI6.out (by decide)))
     have H8 := Lh (H6.out.grown (x := x) HQ.out HTY.out hg hown)
     clear hown hg hv
     (refine hK.out _ _ HI7.out (fun hHeld => ?_))
     clear hK K
     ((try simp only [Act.put]); (try simp only [z1]); (try simp only [z3]); (try simp only [z2]))
     (refine tq 9 29 ?_)
     ((try simp only [Act.put]); (try simp only [z1]); (try simp only [z3]); (try simp only [z2]))
     (refine tq 10 30 ?_)
     ((try simp only [Act.put]); (try simp only [z1]); (try simp only [z3]); (try simp only [z2]))
     have hcb := HB7.out.cell
     have hfb := HB7.out.frozen
     (refine wpAnyH_ready (rs := [11]) (by kernel_rfl) (by simp) ?_)
     (refine AllReadyH.cons (o := _) rfl (fun K hK => ?_) AllReadyH.nil)
     go_simp
     have HI8 := Lh (HI7.out.far (p := ⟨b, 3, none⟩) hib (.slice A7 (l.length + 1) c7))
     clear hcb hfb
     (refine hK.out _ _ HI8.out (fun hHeld => ?_))
     clear hK K
     (refine wpAnyH_done (by kernel_rfl) ?_ _)
     go_wp2
     go_roundw
     case rel => exact ⟨k + 1, by go_num, by omega, Lh ⟨fv5, _, by rw [HS2.out]; exact H8.out, HI8.out⟩⟩
     case measure => simp [intOf]; omega
    ·go_simp
     (with_reducible refine (in_cell Hd.out.rd (fun ad e => by have := (Hd.out.bA ad e).2; have := Hd.out.tur.size; omega)).mono ?_)
     rintro e w5 ⟨rfl, fv5, hr, hf⟩
     have H5 := Lh (Hd.out.read HQ.out hr hf)
     have HI5 := Lh (hf.blk HId.out hiq)
     clear hr hf
     generalize (cellP xs sz) = y at *
     obtain ⟨x, s5⟩ := y
     dsimp only at H5 HS2
     go_simp
     (refine hK.out _ _ HI5.out (fun hHeld => ?_))
     clear hK K
     (try dsimp only)
     (refine wpAnyH_ready (rs := [4, 7]) (by kernel_rfl) (by simp) ?_)
     refine AllReadyH.cons (o := _) rfl (fun K hK => ?_) (AllReadyH.cons (o := _) rfl (fun K hK => ?_) AllReadyH.nil)
     ·have hcb := H5.out.blk.cell
      go_simp
      clear hcb
      (refine hK.out _ _ HI5.out (fun hHeld => ?_))
      clear hK K
      ((try simp only [Act.put]); (try simp only [z1]); (try simp only [z3]); (try simp only [z2]))
      (refine wpAnyH_ready (rs := [7]) (by kernel_rfl) (by simp) ?_)
      (refine AllReadyH.cons (o := _) rfl (fun K hK => ?_) AllReadyH.nil)
      go_simp
      have HN6 := Lh (Blk.new w5 41 #[.int .i64 x.view, .string x.key, .int .i64 x.start])
      have H6 := Lh (H5.out.alloc (.cells #[.int .i64 x.view, .string x.key, .int .i64 x.start] 41))
      have HI6 := Lh (HI5.out.alloc (.cells #[.int .i64 x.view, .string x.key, .int .i64 x.start] 41))
      generalize hw6 : w5.alloc (.cells #[.int .i64 x.view, .string x.key, .int .i64 x.start] 41) = w6 at *
      generalize w5.heap.size = jn at *
      (refine hK.out _ _ HI6.out (fun hHeld => ?_))
      clear hK K
      ((try simp only [Act.put]); (try simp only [z1]); (try simp only [z3]); (try simp only [z2]))
      (refine wpAnyH_ready (rs := [8]) (by kernel_rfl) (by simp) ?_)
      (refine AllReadyH.cons (o := _) rfl (fun K hK => ?_) AllReadyH.nil)
      refine want_ (by kernel_rfl) ?_
      refine wp_append_at _ _ _ rfl W0.heap.size _ ic zc 3 32 Tryz.underlying39 hic hzc hz1 hz2 hz3 (by decide) vz l.length (cellCs l) rfl H6.out.cells ⟨jn, 0, none⟩ 1 1 x.cells rfl rfl (cells_one_c HN6.out) (cells_one1 x) (by have := LK.out; simp at this; unfold maxLen; omega) (by have := LK.out; simp at this; omega) H6.out.tur.size ?_
      intro v7 w7 hown hg hv
      obtain ⟨A7, c7, rfl⟩ := own_form3 hown
      have HB7 := Lh (H6.out.blk.grown hg (H6.out.own_ne H6.out.blk (by decide)))
      have HI7 := Lh (HI6.out.grown hg (H6.out.own_ne HI6.out (by decide)))
      have H8 := Lh (H6.out.grown (x := x) HQ.out HTY.out hg hown)
      clear hown hg hv
      (refine hK.out _ _ HI7.out (fun hHeld => ?_))
      clear hK K
      ((try simp only [Act.put]); (try simp only [z1]); (try simp only [z3]); (try simp only [z2]))
      (refine tq 9 29 ?_)
      ((try simp only [Act.put]); (try simp only [z1]); (try simp only [z3]); (try simp only [z2]))
      (refine tq 10 30 ?_)
      ((try simp only [Act.put]); (try simp only [z1]); (try simp only [z3]); (try simp only [z2]))
      have hcb := HB7.out.cell
      have hfb := HB7.out.frozen
      (refine wpAnyH_ready (rs := [11]) (by kernel_rfl) (by simp) ?_)
      (refine AllReadyH.cons (o := _) rfl (fun K hK => ?_) AllReadyH.nil)
      go_simp
      have HI8 := Lh (HI7.out.far (p := ⟨b, 3, none⟩) hib (.slice A7 (l.length + 1) c7))
      clear hcb hfb
      (refine hK.out _ _ HI8.out (fun hHeld => ?_))
      clear hK K
      (refine wpAnyH_done (by kernel_rfl) ?_ _)
      go_wp2
      go_roundw
      case rel => exact ⟨k + 1, by go_num, by omega, Lh ⟨fv5, _, by rw [HS2.out]; exact H8.out, HI8.out⟩⟩
      case measure => simp [intOf]; omega
     ·go_simp
      have HN6 := Lh (Blk.new w5 41 #[.int .i64 x.view, .string x.key, .int .i64 x.start])
      have H6 := Lh (H5.out.alloc (.cells #[.int .i64 x.view, .string x.key, .int .i64 x.start] 41))
      have HI6 := Lh (HI5.out.alloc (.cells #[.int .i64 x.view, .string x.key, .int .i64 x.start] 41))
      generalize hw6 : w5.alloc (.cells #[.int .i64 x.view, .string x.key, .int .i64 x.start] 41) = w6 at *
      generalize w5.heap.size = jn at *
      (refine hK.out _ _ HI6.out (fun hHeld => ?_))
      clear hK K
      ((try simp only [Act.put]); (try simp only [z1]); (try simp only [z3]); (try simp only [z2]))
      (refine wpAnyH_ready (rs := [4]) (by kernel_rfl) (by simp) ?_)
      (refine AllReadyH.cons (o := _) rfl (fun K hK => ?_) AllReadyH.nil)
      have hcb := H6.out.blk.cell
      go_simp
      clear hcb
      (refine hK.out _ _ HI6.out (fun hHeld => ?_))
      clear hK K
      ((try simp only [Act.put]); (try simp only [z1]); (try simp only [z3]); (try simp only [z2]))
      (refine wpAnyH_ready (rs := [8]) (by kernel_rfl) (by simp) ?_)
      (refine AllReadyH.cons (o := _) rfl (fun K hK => ?_) AllReadyH.nil)
      refine want_ (by kernel_rfl) ?_
      refine wp_append_at _ _ _ rfl W0.heap.size _ ic zc 3 32 Tryz.underlying39 hic hzc hz1 hz2 hz3 (by decide) vz l.length (cellCs l) rfl H6.out.cells ⟨jn, 0, none⟩ 1 1 x.cells rfl rfl (cells_one_c HN6.out) (cells_one1 x) (by have := LK.out; simp at this; unfold maxLen; omega) (by have := LK.out; simp at this; omega) H6.out.tur.size ?_
      intro v7 w7 hown hg hv
      obtain ⟨A7, c7, rfl⟩ := own_form3 hown
      have HB7 := Lh (H6.out.blk.grown hg (H6.out.own_ne H6.out.blk (by decide)))
      have HI7 := Lh (HI6.out.grown hg (H6.out.own_ne HI6.out (by decide)))
      have H8 := Lh (H6.out.grown (x := x) HQ.out HTY.out hg hown)
      clear hown hg hv
      (refine hK.out _ _ HI7.out (fun hHeld => ?_))
      clear hK K
      ((try simp only [Act.put]); (try simp only [z1]); (try simp only [z3]); (try simp only [z2]))
      (refine tq 9 29 ?_)
      ((try simp only [Act.put]); (try simp only [z1]); (try simp only [z3]); (try simp only [z2]))
      (refine tq 10 30 ?_)
      ((try simp only [Act.put]); (try simp only [z1]); (try simp only [z3]); (try simp only [z2]))
      have hcb := HB7.out.cell
      have hfb := HB7.out.frozen
      (refine wpAnyH_ready (rs := [11]) (by kernel_rfl) (by simp) ?_)
      (refine AllReadyH.cons (o := _) rfl (fun K hK => ?_) AllReadyH.nil)
      go_simp
      have HI8 := Lh (HI7.out.far (p := ⟨b, 3, none⟩) hib (.slice A7 (l.length + 1) c7))
      clear hcb hfb
      (refine hK.out _ _ HI8.out (fun hHeld => ?_))
      clear hK K
      (refine wpAnyH_done (by kernel_rfl) ?_ _)
      go_wp2
      go_roundw
      case rel => exact ⟨k + 1, by go_num, by omega, Lh ⟨fv5, _, by rw [HS2.out]; exact H8.out, HI8.out⟩⟩
      case measure => simp [intOf]; omega
   ·rw [hfz] at he
    obtain ⟨g, rfl, _⟩ := he
    have HS2 := Lh (show cellsP xs (k + 1) ([], s2) = (l, sz) by rw [HSTEP.out]; unfold stepC; simp [hfz])
    go_wp2
    go_roundw
    case rel => exact ⟨k + 1, by go_num, by omega, Lh ⟨fz, vz, by rw [HS2.out]; exact H4.out, HI4.out⟩⟩
    case measure => simp [intOf]; omega
  ·have HE := Lh (show k = cnt by omega)
   go_wp2
   go_end0
   have hx := HE.out
   subst hx
   exact ⟨rfl, fz, vz, HP.out⟩
end Go.Proofs.YtglbdbghcdoicaaGreatDoor

namespace Go.Proofs.YtglbdbghcdoicaaGreatDoor
open Go.RowKit

def rmap (q i j : Nat) : List (Int × Value) :=
 let x := #[inV q]
 [(1, .func (.func 112) x #[]), (2, .func (.func 110) #[] #[.pointer (some ⟨i, 0, none⟩), .pointer (some ⟨j, 0, none⟩)]), (3, .func (.func 113) x #[]), (4, .func (.func 114) x #[]),
  (5, .func (.func 115) x #[]), (6, .func (.func 115) x #[]), (7, .func (.func 114) x #[])]

theorem in_readers (q : Nat) (n : Int) (W : World) :
  Calls Tryz.prog 72 #[inV q, .int .i64 n] W fun e w' => e = .returned (.map (some (W.heap.size + 2))) ∧ MapIs w' (W.heap.size + 2) (rmap q W.heap.size (W.heap.size + 1)) ∧ Blk w' W.heap.size 146 #[.pointer (some ⟨q, 0, none⟩)] ∧ Blk w' (W.heap.size + 1) 3 #[.int .i64 n] ∧ Below W.heap.size W w' := by
 have hmm := run_makeMap 149
 have hmf := run_makeFunc
 have HI0 := Lh ((Blk.new W 146 #[.pointer (some ⟨q, 0, none⟩)]).alloc (.cells #[.int .i64 n] 3))
 have HJ0 := Lh (Blk.new (W.alloc (.cells #[.pointer (some ⟨q, 0, none⟩)] 146)) 3 #[.int .i64 n])
 have HB0 := Lh (((Below.refl W.heap.size W).alloc (Nat.le_refl _) (.cells #[.pointer (some ⟨q, 0, none⟩)] 146)).alloc (by simp) (.cells #[.int .i64 n] 3))
 have hs1 : (W.alloc (.cells #[.pointer (some ⟨q, 0, none⟩)] 146)).heap.size = W.heap.size + 1 := by simp
 have hs2 : ((W.alloc (.cells #[.pointer (some ⟨q, 0, none⟩)] 146)).alloc (.cells #[.int .i64 n] 3)).heap.size = W.heap.size + 2 := by simp
 rw [hs1] at HJ0
 have HM := Lh (MapIs.made ((W.alloc (.cells #[.pointer (some ⟨q, 0, none⟩)] 146)).alloc (.cells #[.int .i64 n] 3)))
 rw [hs2] at HM
 have HI := Lh (HI0.out.alloc (.map #[] 0))
 have HJ := Lh (HJ0.out.alloc (.map #[] 0))
 have HB := Lh (HB0.out.alloc (by simp; omega) (.map #[] 0))
 clear HI0 HJ0 HB0 hs1 hs2
 have hci := HI.out.cell
 go_enter Tryz.func72, Tryz.ntmps72
 go_wp2_with (with_reducible show wpList _ _ _ (Oper.mk _ (Op.insert _ _ _ _) _ _ _ _ :: _) _ _
              refine wpList_insert_new rfl _ _ _ _ rfl 3 147 (by kernel_rfl) (by kernel_rfl) (W.heap.size + 2) _ rfl HM.out _ _ rfl rfl (by simp) ?_
              intro w2 hm hg
              have HB2 := Lh (below_grown_own HB.out hg (by omega))
              have HI2 := Lh (HI.out.grown hg (by simp))
              have HJ2 := Lh (HJ.out.grown hg (by simp))
              clear HB HI HJ HM hci hg
              have HB := HB2
              have HI := HI2
              have HJ := HJ2
              have HM := Lh hm
              have hci := HI.out.cell
              clear HB2 HI2 HJ2 hm)
 go_ret
 exact ⟨rfl, HM.out, HI.out, HJ.out, HB.out⟩

theorem in_many {q b n c i j : Nat} {A : Option Addr} {xs : List Int} {r : Rq} {s : RS} {fv v : Value} {W0 W : World} (h : RqIs W0 q b A n c xs r s fv v W) (hq : q < W0.heap.size) (hty : 0 < W0.heap.size) (hr0 : r.cs = [])
  (hi : Blk W i 146 #[.pointer (some ⟨q, 0, none⟩)]) (hj : Blk W j 3 #[.int .i64 (n : Int)]) :
  Calls Tryz.prog 110 #[.pointer (some ⟨b, 0, none⟩), .pointer (some ⟨i, 0, none⟩), .pointer (some ⟨j, 0, none⟩)] W (RqQ W0 q b A n c xs { r with epoch := ((numP xs M40 s).1 : Int), cs := (cellsP xs (countP xs 16 (numP xs M40 s).2).1 ([], (countP xs 16 (numP xs M40 s).2).2)).1 } (cellsP xs (countP xs 16 (numP xs M40 s).2).1 ([], (countP xs 16 (numP xs M40 s).2).2)).2) := by
 have C := Lh (in_multi h hq hty hr0)
 have hci := hi.cell
 have hcj := hj.cell
 clear h hr0 hi hj
 go_enter Tryz.func110, Tryz.ntmps110
 go_wp2_with fail
 go_at_call 111; (with_reducible refine C.out.mono ?_); rintro e w1 ⟨rfl, hx⟩
 have HX := Lh hx
 clear hx
 go_wp2
 go_end0
 exact ⟨rfl, HX.out⟩
end Go.Proofs.YtglbdbghcdoicaaGreatDoor
