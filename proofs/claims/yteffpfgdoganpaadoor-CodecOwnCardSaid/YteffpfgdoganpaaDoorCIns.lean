/- The reading methods num, cell, count. The reading methods count, epoch, bare, get. The reading method scan. The reading method multi. The map of the reading methods; the closure that reads many. -/
import Derived.Test.YteffpfgdoganpaaDoorCEncRq
import Derived.Test.YteffpfgdoganpaaDoorWRd4
import Derived.Maps.AppendAt
namespace Go.Proofs.YteffpfgdoganpaaDoor
open Go.RowKit

abbrev inV (q : Nat) : Value := .agg #[.pointer (some ⟨q, 0, none⟩)]
/-- The most that a number may be. -/
abbrev M40 : Int := 1099511627776
def cellP (xs : List Int) (s : RS) : CellV × RS :=
  (⟨(numP xs M40 s).1, strOfNums (textP xs 32 (numP xs M40 s).2).1, (intP xs (textP xs 32 (numP xs M40 s).2).2).1⟩, (intP xs (textP xs 32 (numP xs M40 s).2).2).2)
def countP (xs : List Int) (most : Int) (s : RS) : Nat × RS :=
  if most < ((numP xs M40 s).1 : Int) then (0, (numP xs M40 s).2.fail 2 ((xs.length : Int) - (leftP xs s : Int))) else numP xs M40 s
section
variable {W W1 W2 : World} {q n c : Nat} {A : Option Addr} {xs : List Int} {s s1 : RS} {fv fv1 fv2 : Value}
theorem RdFr.alloc0 (W : World) (q : Nat) (fv : Value) (o : Obj) : RdFr W q fv (W.alloc o) fv := ⟨(Tur.refl _ W).alloc o, .inl rfl⟩
theorem RdIs.alloc (h : RdIs W q A n c xs s fv) (o : Obj) : RdIs (W.alloc o) q A n c xs s fv := h.kept ((Below.refl _ _).alloc (Nat.le_refl _) o)
theorem RdFr.alloc (h : RdFr W q fv W1 fv1) (o : Obj) : RdFr W q fv (W1.alloc o) fv1 := ⟨h.1.alloc o, h.2⟩
theorem RdFr.below_ (h : RdFr W q fv W1 fv1) (hb : Below W1.heap.size W1 W2) : RdFr W q fv W2 fv1 := ⟨h.1.trans (Tur.of_below (S := fun _ => False) hb) (fun _ e => e.elim), h.2⟩
theorem RdFr.blk {t : TypeId} {g : Nat} {cs : Array Value} (h : RdFr W q fv W1 fv1) (hb : Blk W g t cs) (hg : g ≠ q) : Blk W1 g t cs := hb.tur h.1 hg
theorem set3 {w : World} {j : Nat} {t : TypeId} {x y z : Value} (h : Blk w j t #[x, y, z]) (a b c : Value) :
    Blk (((w.setCell ⟨j, 0, none⟩ a).setCell ⟨j, 1, none⟩ b).setCell ⟨j, 2, none⟩ c) j t #[a, b, c] ∧ Tur (· = j) w (((w.setCell ⟨j, 0, none⟩ a).setCell ⟨j, 1, none⟩ b).setCell ⟨j, 2, none⟩ c) ∧
      ∀ i t' cs', i ≠ j → Blk w i t' cs' → Blk (((w.setCell ⟨j, 0, none⟩ a).setCell ⟨j, 1, none⟩ b).setCell ⟨j, 2, none⟩ c) i t' cs' := by
  refine ⟨((h.set_ 0 a).set_ 1 b).set_ 2 c, ?_, fun i t' cs' hi hb => ?_⟩
  · have h1 : Tur (· = j) w (w.setCell ⟨j, 0, none⟩ a) := (Tur.refl (· = j) w).setCell (p := ⟨j, 0, none⟩) (.inl rfl) a
    have h2 := h1.setCell (p := ⟨j, 1, none⟩) (.inl rfl) b
    exact h2.setCell (p := ⟨j, 2, none⟩) (.inl rfl) c
  · have h1 := hb.far (p := ⟨j, 0, none⟩) hi a
    have h2 := h1.far (p := ⟨j, 1, none⟩) hi b
    exact h2.far (p := ⟨j, 2, none⟩) hi c
theorem RdIs.ty_lt (h : RdIs W q A n c xs s fv) : 0 < W.heap.size := by
  rcases Nat.lt_or_ge 0 W.heap.size with hl | hge
  · exact hl
  · have h1 := h.ty
    have h2 : W.heap[0]? = none := Array.getElem?_eq_none hge
    simp [World.cell?, h2] at h1
theorem RdIs.err_blk (h : RdIs W q A n c xs s fv) {g : Nat} (e : fv = errV g) : ∃ cs, Blk W g 132 cs := by
  rcases hf : s.fault with _ | ⟨a, b⟩
  · rw [h.no hf] at e; cases e
  · obtain ⟨g', e', hb⟩ := h.yes a b hf
    rw [e'] at e
    cases e
    exact ⟨_, hb⟩
/-- Stores into one block of another kind. -/
theorem RdIs.near {j : Nat} {t : TypeId} {cs : Array Value} (h : RdIs W q A n c xs s fv) (ht : Tur (· = j) W W1) (hj : Blk W j t cs) (hte : t ≠ 132) (hq : q ≠ j) (hA : ∀ ad, A = some ad → ad.block ≠ j) (hty : 0 ≠ j) : RdIs W1 q A n c xs s fv :=
  h.tur ht hq hA (fun g e => by
    obtain ⟨cs', hb⟩ := h.err_blk e
    exact (hj.ne_ hb hte).symm) hty
end

set_option maxHeartbeats 2000000 in
set_option maxRecDepth 100000 in
theorem in_num {q n c : Nat} {A : Option Addr} {xs : List Int} {s : RS} {fv : Value} {W : World} (h : RdIs W q A n c xs s fv) :
    Calls Tryd.prog 58 #[inV q] W (RdQ W q A n c xs fv (.int .i64 ((numP xs M40 s).1 : Int)) (numP xs M40 s).2) := by
  have H := Lib.hid h
  clear h
  go_enter Tryd.func58, Tryd.ntmps58
  go_wp2_with fail
  go_at_call 80; (with_reducible refine (rd_num (H.out.alloc (.cells #[.pointer (some ⟨q, 0, none⟩)] 116)) M40 (by decide)).mono ?_); rintro e w1 ⟨rfl, fv1, hr, hf⟩
  have HQ := Lib.hid (show RdQ W q A n c xs fv (.int .i64 ((numP xs M40 s).1 : Int)) (numP xs M40 s).2 (.returned (.int .i64 ((numP xs M40 s).1 : Int))) w1 from ⟨rfl, fv1, hr, (RdFr.alloc0 W q fv _).trans hf⟩)
  clear hr hf
  go_wp2
  go_ret
  exact HQ.out

set_option maxHeartbeats 4000000 in
set_option maxRecDepth 100000 in
theorem in_cell {q n c : Nat} {A : Option Addr} {xs : List Int} {s : RS} {fv : Value} {W : World} (h : RdIs W q A n c xs s fv) (hA : ∀ ad, A = some ad → ad.block < W.heap.size) :
    Calls Tryd.prog 64 #[inV q] W (RdQ W q A n c xs fv (cellV (cellP xs s).1) (cellP xs s).2) := by
  have H := Lib.hid h
  have hq := h.blk.lt
  have HA := Lib.hid hA
  have hty := h.ty_lt
  clear h hA
  go_enter Tryd.func64, Tryd.ntmps64
  go_wp2_with fail
  have HB := Lib.hid ((Blk.new W 116 #[.pointer (some ⟨q, 0, none⟩)]).alloc (.cells #[.int .i64 0, .string ⟨#[]⟩, .int .i64 0] 24))
  have HJ := Lib.hid (Blk.new (W.alloc (.cells #[.pointer (some ⟨q, 0, none⟩)] 116)) 24 #[.int .i64 0, .string ⟨#[]⟩, .int .i64 0])
  have HR := Lib.hid ((H.out.alloc (.cells #[.pointer (some ⟨q, 0, none⟩)] 116)).alloc (.cells #[.int .i64 0, .string ⟨#[]⟩, .int .i64 0] 24))
  have HF := Lib.hid ((RdFr.alloc0 W q fv (.cells #[.pointer (some ⟨q, 0, none⟩)] 116)).alloc (.cells #[.int .i64 0, .string ⟨#[]⟩, .int .i64 0] 24))
  have hs1 : (W.alloc (.cells #[.pointer (some ⟨q, 0, none⟩)] 116)).heap.size = W.heap.size + 1 := by simp
  rw [hs1] at HJ
  generalize hw0 : (W.alloc (.cells #[.pointer (some ⟨q, 0, none⟩)] 116)).alloc (.cells #[.int .i64 0, .string ⟨#[]⟩, .int .i64 0] 24) = w0 at HB HJ HR HF ⊢
  clear hw0 hs1 H
  have hiq : W.heap.size ≠ q := by omega
  have hjq : W.heap.size + 1 ≠ q := by omega
  (refine wp_region_held_drew (S := fun w9 => Blk w9 W.heap.size 116 #[.pointer (some ⟨q, 0, none⟩)]) (by kernel_rfl) HB.out.drew (fun hHeld => ?_))
  have HBd := Lib.hid HB.out.drew
  have HJd := Lib.hid HJ.out.drew
  have HFd := Lib.hid (HF.out.below_ (Below.refl _ _).drew)
  have HRd := Lib.hid (HR.out.kept (Below.refl _ _).drew)
  clear HB HJ HF HR
  (refine take_q (i := 0) (d := 3) (v := ?v101) rfl rfl (by kernel_rfl) (by kernel_rfl) (by kernel_rfl) (fun _ _ _ h => h) (by kernel_rfl) ?hy101 (by assumption) ?rest101)
  case hy101 => (intro w9 hSw; have hc9 := Blk.cell hSw; clear hSw; first | (go_simp; done) | (go_simp; with_reducible rfl))
  (try simp only [Act.put, List.setIfInBounds_toArray, List.set_cons_zero, List.set_cons_succ])
  (refine take_q (i := 2) (d := 5) (v := ?v102) rfl rfl (by kernel_rfl) (by kernel_rfl) (by kernel_rfl) (fun _ _ _ h => h) (by kernel_rfl) ?hy102 (by assumption) ?rest102)
  case hy102 => (intro w9 hSw; have hc9 := Blk.cell hSw; clear hSw; first | (go_simp; done) | (go_simp; with_reducible rfl))
  (try simp only [Act.put, List.setIfInBounds_toArray, List.set_cons_zero, List.set_cons_succ])
  (refine take_q (i := 3) (d := 6) (v := ?v103) rfl rfl (by kernel_rfl) (by kernel_rfl) (by kernel_rfl) (fun _ _ _ h => h) (by kernel_rfl) ?hy103 (by assumption) ?rest103)
  case hy103 => (intro w9 hSw; have hc9 := Blk.cell hSw; clear hSw; first | (go_simp; done) | (go_simp; with_reducible rfl))
  (try simp only [Act.put, List.setIfInBounds_toArray, List.set_cons_zero, List.set_cons_succ])
  (refine take_q (i := 5) (d := 8) (v := ?v104) rfl rfl (by kernel_rfl) (by kernel_rfl) (by kernel_rfl) (fun _ _ _ h => h) (by kernel_rfl) ?hy104 (by assumption) ?rest104)
  case hy104 => (intro w9 hSw; have hc9 := Blk.cell hSw; clear hSw; first | (go_simp; done) | (go_simp; with_reducible rfl))
  (try simp only [Act.put, List.setIfInBounds_toArray, List.set_cons_zero, List.set_cons_succ])
  (refine take_q (i := 6) (d := 9) (v := ?v105) rfl rfl (by kernel_rfl) (by kernel_rfl) (by kernel_rfl) (fun _ _ _ h => h) (by kernel_rfl) ?hy105 (by assumption) ?rest105)
  case hy105 => (intro w9 hSw; have hc9 := Blk.cell hSw; clear hSw; first | (go_simp; done) | (go_simp; with_reducible rfl))
  (try simp only [Act.put, List.setIfInBounds_toArray, List.set_cons_zero, List.set_cons_succ])
  (refine wpAnyH_ready (rs := [1]) (by kernel_rfl) (by simp) ?_)
  (refine AllReadyH.cons (o := _) rfl (fun K hK => ?_) AllReadyH.nil)
  go_simp
  (with_reducible refine (in_num HRd.out).mono ?_)
  rintro e w1 ⟨rfl, fvw1, hr, hf⟩
  have HBw1 := Lib.hid (hf.blk HBd.out hiq)
  have HJw1 := Lib.hid (hf.blk HJd.out hjq)
  have HFw1 := Lib.hid (HFd.out.trans hf)
  have HRw1 := Lib.hid hr
  clear hr hf
  go_simp
  (refine hK.out _ _ HBw1.out (fun hHeld => ?_))
  clear hK K
  (try simp only [Act.put, List.setIfInBounds_toArray, List.set_cons_zero, List.set_cons_succ])
  (refine wpAnyH_ready (rs := [4]) (by kernel_rfl) (by simp) ?_)
  (refine AllReadyH.cons (o := _) rfl (fun K hK => ?_) AllReadyH.nil)
  go_simp
  (with_reducible refine (rd_text HRw1.out 32 (by decide)).mono ?_)
  rintro e w2 ⟨rfl, fvw2, hr, hf⟩
  have HBw2 := Lib.hid (hf.blk HBw1.out hiq)
  have HJw2 := Lib.hid (hf.blk HJw1.out hjq)
  have HFw2 := Lib.hid (HFw1.out.trans hf)
  have HRw2 := Lib.hid hr
  clear hr hf
  go_simp
  (refine hK.out _ _ HBw2.out (fun hHeld => ?_))
  clear hK K
  (try simp only [Act.put, List.setIfInBounds_toArray, List.set_cons_zero, List.set_cons_succ])
  (refine wpAnyH_ready (rs := [7]) (by kernel_rfl) (by simp) ?_)
  (refine AllReadyH.cons (o := _) rfl (fun K hK => ?_) AllReadyH.nil)
  go_simp
  (with_reducible refine (rd_int HRw2.out).mono ?_)
  rintro e w3 ⟨rfl, fvw3, hr, hf⟩
  have HBw3 := Lib.hid (hf.blk HBw2.out hiq)
  have HJw3 := Lib.hid (hf.blk HJw2.out hjq)
  have HFw3 := Lib.hid (HFw2.out.trans hf)
  have HRw3 := Lib.hid hr
  clear hr hf
  go_simp
  (refine hK.out _ _ HBw3.out (fun hHeld => ?_))
  clear hK K
  (try simp only [Act.put, List.setIfInBounds_toArray, List.set_cons_zero, List.set_cons_succ])
  (refine take_q (i := 8) (d := 11) (v := ?v106) rfl rfl (by kernel_rfl) (by kernel_rfl) (by kernel_rfl) (fun _ _ _ h => h) (by kernel_rfl) ?hy106 (by assumption) ?rest106)
  case hy106 => (intro w9 hSw; first | (go_simp; done) | (go_simp; with_reducible rfl))
  (try simp only [Act.put, List.setIfInBounds_toArray, List.set_cons_zero, List.set_cons_succ])
  have hcj := HJw3.out.cell
  have hfj := HJw3.out.frozen
  (refine wpAnyH_ready (rs := [9]) (by kernel_rfl) (by simp) ?_)
  (refine AllReadyH.cons (o := _) rfl (fun K hK => ?_) AllReadyH.nil)
  go_simp
  obtain ⟨hj4, ht4, hb4⟩ := set3 HJw3.out (.int .i64 ((numP xs M40 s).1 : Int)) (.string (strOfNums (textP xs 32 (numP xs M40 s).2).1)) (.int .i64 (intP xs (textP xs 32 (numP xs M40 s).2).2).1)
  have HJ4 := Lib.hid hj4
  have HT4 := Lib.hid ht4
  have HB4 := Lib.hid (hb4 W.heap.size _ _ (by omega) HBw3.out)
  clear hcj hfj hj4 ht4 hb4
  generalize ((w3.setCell ⟨W.heap.size + 1, 0, none⟩ (.int .i64 ((numP xs M40 s).1 : Int))).setCell ⟨W.heap.size + 1, 1, none⟩ (.string (strOfNums (textP xs 32 (numP xs M40 s).2).1))).setCell ⟨W.heap.size + 1, 2, none⟩ (.int .i64 (intP xs (textP xs 32 (numP xs M40 s).2).2).1) = w4 at HJ4 HT4 HB4 ⊢
  (refine hK.out _ _ HB4.out (fun hHeld => ?_))
  clear hK K
  (try simp only [Act.put, List.setIfInBounds_toArray, List.set_cons_zero, List.set_cons_succ])
  (refine wpAnyH_done (by kernel_rfl) ?_ _)
  have HQ := Lib.hid (show RdQ W q A n c xs fv (cellV (cellP xs s).1) (cellP xs s).2 (.returned (cellV (cellP xs s).1)) w4 from
    ⟨rfl, fvw3, HRw3.out.near HT4.out HJw3.out (by decide) (by omega) (fun ad e => by have := HA.out ad e; omega) (by omega), ⟨HFw3.out.1.trans HT4.out (fun k e => .inr (by omega)), HFw3.out.2⟩⟩)
  have hc4 : ∀ i, w4.cell? ⟨W.heap.size + 1, i, none⟩ = (#[.int .i64 (cellP xs s).1.view, .string (cellP xs s).1.key, .int .i64 (cellP xs s).1.start] : Array Value)[i]? := HJ4.out.cell
  clear HJ4 HB4 HT4
  generalize (cellP xs s).1 = x at *
  go_wp2
  exact bodyPost_ret (v := cellV x) (by simp [results, Tryd.results64, go_sem, hc4]) rfl HQ.out
end Go.Proofs.YteffpfgdoganpaaDoor

namespace Go.Proofs.YteffpfgdoganpaaDoor
open Go.RowKit

theorem leftP_le (xs : List Int) (s : RS) : leftP xs s ≤ xs.length := by
  unfold leftP
  split <;> omega

set_option maxHeartbeats 2000000 in
set_option maxRecDepth 100000 in
theorem in_count {q n c : Nat} {A : Option Addr} {xs : List Int} {s : RS} {fv : Value} {W : World} (h : RdIs W q A n c xs s fv) (most : Int) :
    Calls Tryd.prog 63 #[inV q, .int .i64 (n : Int), .int .i64 most] W (RdQ W q A n c xs fv (.int .i64 ((countP xs most s).1 : Int)) (countP xs most s).2) := by
  have H := Lib.hid h
  have hq := h.blk.lt
  have HL := Lib.hid h.len
  have HBG := Lib.hid h.big
  have HLE := Lib.hid (leftP_le xs s)
  clear h
  have HB := Lib.hid (Blk.new W 116 #[.pointer (some ⟨q, 0, none⟩)])
  have hiq : W.heap.size ≠ q := by omega
  go_enter Tryd.func63, Tryd.ntmps63
  go_wp2_with fail
  go_at_call 88; (with_reducible refine (rd_left (H.out.alloc (.cells #[.pointer (some ⟨q, 0, none⟩)] 116))).mono ?_); rintro e w1 ⟨rfl, hb⟩
  have HR1 := Lib.hid ((H.out.alloc (.cells #[.pointer (some ⟨q, 0, none⟩)] 116)).kept hb)
  have HF1 := Lib.hid ((RdFr.alloc0 W q fv (.cells #[.pointer (some ⟨q, 0, none⟩)] 116)).below_ hb)
  have HB1 := Lib.hid (HB.out.kept hb)
  have hc1 := HB1.out.cell
  clear hb H HB
  obtain ⟨lf, hlf⟩ : ∃ lf, lf = leftP xs s := ⟨_, rfl⟩
  have HLF := Lib.hid hlf
  rw [← hlf] at HLE ⊢
  clear hlf
  have hw : wrap64 ((n : Int) - (lf : Int)) = (n : Int) - (lf : Int) := by
    have := HLE.out
    have := HL.out
    have := HBG.out
    exact IntWalk.wrap64_in _ ⟨by omega, by omega⟩
  go_wp2_with fail
  go_at_call 58; (with_reducible refine (in_num HR1.out).mono ?_); rintro e w2 ⟨rfl, fv2, hr, hf⟩
  have HR2 := Lib.hid hr
  have HF2 := Lib.hid (HF1.out.trans hf)
  have HB2 := Lib.hid (hf.blk HB1.out hiq)
  have hc2 := HB2.out.cell
  clear hr hf hc1
  by_cases hm : most < ((numP xs M40 s).1 : Int)
  · have HE := Lib.hid (show countP xs most s = (0, (numP xs M40 s).2.fail 2 ((n : Int) - (lf : Int))) by unfold countP; rw [if_pos hm, HLF.out, HL.out])
    go_wp2_with fail
    go_at_call 60; (with_reducible refine (rd_fail HR2.out 2 ((n : Int) - (lf : Int))).mono ?_); rintro e w3 ⟨rfl, fv3, hr, hf⟩
    have HQ := Lib.hid (show RdQ W q A n c xs fv (.int .i64 ((countP xs most s).1 : Int)) (countP xs most s).2 (.returned (.int .i64 0)) w3 from by
      rw [HE.out]; exact ⟨rfl, fv3, hr, HF2.out.trans hf⟩)
    clear hr hf
    go_wp2
    go_ret
    exact HQ.out
  · have HE := Lib.hid (show countP xs most s = numP xs M40 s by unfold countP; rw [if_neg hm])
    have HQ := Lib.hid (show RdQ W q A n c xs fv (.int .i64 ((countP xs most s).1 : Int)) (countP xs most s).2 (.returned (.int .i64 ((numP xs M40 s).1 : Int))) w2 from by
      rw [HE.out]; exact ⟨rfl, fv2, HR2.out, HF2.out⟩)
    go_wp2
    go_ret
    exact HQ.out

/-- Cells that a slice of new memory holds. -/
def cellCs (cs : List CellV) : List Value := cs.flatMap CellV.cells
def CellsOwn (W : World) (base : Nat) (v : Value) (cs : List CellV) : Prop := W.ownsRow base 24 3 v cs.length (cellCs cs)
theorem cellCs_at : ∀ (cs : List CellV) (k : Nat) (hk : k < cs.length) (j : Nat) (u : Value), (cs[k].cells)[j]? = some u → (cellCs cs)[k * 3 + j]? = some u
  | [], _, hk, _, _, _ => absurd hk (Nat.not_lt_zero _)
  | c :: cs, 0, _, j, u, h => by
    have h : (c.cells)[j]? = some u := h
    have hj : j < c.cells.length := (List.getElem?_eq_some_iff.1 h).1
    simp only [cellCs, List.flatMap_cons, Nat.zero_mul, Nat.zero_add]
    rw [List.getElem?_append_left hj]
    exact h
  | c :: cs, k + 1, hk, j, u, h => by
    have hl : c.cells.length = 3 := rfl
    have ih := cellCs_at cs k (by simpa using hk) j u h
    simp only [cellCs, List.flatMap_cons] at ih ⊢
    rw [List.getElem?_append_right (by omega), hl, show (k + 1) * 3 + j - 3 = k * 3 + j by omega]
    exact ih
theorem CellsOwn.rd {W : World} {base : Nat} {v : Value} {cs : List CellV} (h : CellsOwn W base v cs) : ∃ A c, v = .slice A cs.length c ∧ CellsRd W A cs ∧ ∀ ad, A = some ad → base ≤ ad.block := by
  rcases h.2 with ⟨rfl, h0⟩ | ⟨g, cap, cur, rfl, hb, hg, _⟩
  · refine ⟨none, 0, by rw [h0], fun k hk => absurd hk (by omega), fun ad e => by cases e⟩
  · refine ⟨_, cap, rfl, fun k hk => ⟨_, rfl, (Array.getElem?_eq_some_iff.1 hg).1, fun j u hu => h.cells rfl _ _ (cellCs_at cs k hk j u hu)⟩, fun ad e => by cases e; exact hb⟩
/-- What the reading of a body's fields leaves: the request at b, the Reader at q. -/
structure RqIs (W0 : World) (q b : Nat) (A : Option Addr) (n c : Nat) (xs : List Int) (r : Rq) (s : RS) (fv v : Value) (W : World) : Prop where
  blk : Blk W b 26 (rqC v r)
  cells : CellsOwn W W0.heap.size v r.cs
  rd : RdIs W q A n c xs s fv
  tur : Tur (fun k => k = q ∨ k = b) W0 W
  bq : b ≠ q
  bl : b < W0.heap.size
  bA : ∀ ad, A = some ad → ad.block ≠ b ∧ ad.block < W0.heap.size
  bt : 0 ≠ b
section
variable {W0 W W1 : World} {q b n c : Nat} {A : Option Addr} {xs : List Int} {r : Rq} {s s1 : RS} {fv fv1 v : Value}
theorem CellsOwn.tur {S : Nat → Prop} {base : Nat} {cs : List CellV} (h : CellsOwn W base v cs) (ht : Tur S W W1) (hS : ∀ k, S k → k < base) : CellsOwn W1 base v cs :=
  ownsRow_tur h ht (fun k e hs => by have := hS k hs; have := (h.lt k e).1; omega)
theorem RqIs.kept (h : RqIs W0 q b A n c xs r s fv v W) (hb : Below W.heap.size W W1) : RqIs W0 q b A n c xs r s fv v W1 :=
  ⟨h.blk.kept hb, h.cells.tur (Tur.of_below (S := fun _ => False) hb) (fun _ e => e.elim), h.rd.kept hb, h.tur.trans (Tur.of_below (S := fun _ => False) hb) (fun _ e => e.elim), h.bq, h.bl, h.bA, h.bt⟩
theorem RqIs.alloc (h : RqIs W0 q b A n c xs r s fv v W) (o : Obj) : RqIs W0 q b A n c xs r s fv v (W.alloc o) := h.kept ((Below.refl _ _).alloc (Nat.le_refl _) o)
theorem RqIs.read (h : RqIs W0 q b A n c xs r s fv v W) (hq : q < W0.heap.size) (hr : RdIs W1 q A n c xs s1 fv1) (hf : RdFr W q fv W1 fv1) : RqIs W0 q b A n c xs r s1 fv1 v W1 :=
  ⟨hf.blk h.blk h.bq, h.cells.tur hf.1 (fun k e => by omega), hr, h.tur.trans hf.1 (fun k e => .inl (.inl e)), h.bq, h.bl, h.bA, h.bt⟩
/-- One field stored. -/
theorem RqIs.set_ {r1 : Rq} {v1 : Value} (h : RqIs W0 q b A n c xs r s fv v W) (j : Nat) (u : Value) (e : (rqC v r).setIfInBounds j u = rqC v1 r1) (hc : CellsOwn W W0.heap.size v1 r1.cs) : RqIs W0 q b A n c xs r1 s fv v1 (W.setCell ⟨b, j, none⟩ u) := by
  have ht : Tur (· = b) W (W.setCell ⟨b, j, none⟩ u) := (Tur.refl (· = b) W).setCell (p := ⟨b, j, none⟩) (.inl rfl) u
  exact ⟨e ▸ h.blk.set_ j u, hc.tur ht (fun k e => by have := h.bl; omega), h.rd.near ht h.blk (by decide) (fun e => h.bq e.symm) (fun ad e => (h.bA ad e).1) h.bt, h.tur.trans ht (fun k e => .inl (.inr e)), h.bq, h.bl, h.bA, h.bt⟩
end
abbrev RqQ (W0 : World) (q b : Nat) (A : Option Addr) (n c : Nat) (xs : List Int) (r : Rq) (s : RS) (e : Ending) (w' : World) : Prop := e = .returned (.tuple #[]) ∧ ∃ fv v, RqIs W0 q b A n c xs r s fv v w'

theorem cellsOwn_one (w3 : World) (x : CellV) (B : Nat) (hB : B ≤ w3.heap.size) : CellsOwn (w3.alloc (.cells #[.int .i64 x.view, .string x.key, .int .i64 x.start] 24)) B (.slice (some ⟨w3.heap.size, 0, none⟩) 1 1) [x] :=
  ⟨rfl, .inr ⟨w3.heap.size, 1, _, rfl, hB, heap_alloc_new w3 _, by simp, by unfold maxLen; omega, rfl, rfl⟩⟩
set_option maxHeartbeats 2000000 in
set_option maxRecDepth 100000 in
theorem in_bare {q b n c : Nat} {A : Option Addr} {xs : List Int} {r : Rq} {s : RS} {fv v : Value} {W0 W : World} (h : RqIs W0 q b A n c xs r s fv v W) :
    Calls Tryd.prog 85 #[inV q, .pointer (some ⟨b, 0, none⟩)] W (RqQ W0 q b A n c xs r s) := by
  have H := Lib.hid h
  clear h
  go_enter Tryd.func85, Tryd.ntmps85
  go_wp2
  go_end0
  exact ⟨rfl, fv, v, H.out.alloc _⟩

set_option maxHeartbeats 2000000 in
set_option maxRecDepth 100000 in
theorem in_epoch {q b n c : Nat} {A : Option Addr} {xs : List Int} {r : Rq} {s : RS} {fv v : Value} {W0 W : World} (h : RqIs W0 q b A n c xs r s fv v W) (hq : q < W0.heap.size) :
    Calls Tryd.prog 86 #[inV q, .pointer (some ⟨b, 0, none⟩)] W (RqQ W0 q b A n c xs { r with epoch := (numP xs M40 s).1 } (numP xs M40 s).2) := by
  have H := Lib.hid h
  have HQ := Lib.hid hq
  clear h hq
  go_enter Tryd.func86, Tryd.ntmps86
  go_wp2_with fail
  go_at_call 58; (with_reducible refine (in_num (H.out.alloc (.cells #[.pointer (some ⟨q, 0, none⟩)] 116)).rd).mono ?_); rintro e w1 ⟨rfl, fv1, hr, hf⟩
  have H1 := Lib.hid ((H.out.alloc (.cells #[.pointer (some ⟨q, 0, none⟩)] 116)).read HQ.out hr hf)
  clear hr hf
  have hc := H1.out.blk.cell
  have hfz := H1.out.blk.frozen
  go_wp2
  go_end0
  exact ⟨rfl, fv1, v, H1.out.set_ 2 _ rfl H1.out.cells⟩

set_option maxHeartbeats 2000000 in
set_option maxRecDepth 100000 in
theorem in_get {q b n c : Nat} {A : Option Addr} {xs : List Int} {r : Rq} {s : RS} {fv v : Value} {W0 W : World} (h : RqIs W0 q b A n c xs r s fv v W) (hq : q < W0.heap.size) :
    Calls Tryd.prog 83 #[inV q, .pointer (some ⟨b, 0, none⟩)] W (RqQ W0 q b A n c xs { r with epoch := (numP xs M40 s).1, cs := [(cellP xs (numP xs M40 s).2).1] } (cellP xs (numP xs M40 s).2).2) := by
  have H := Lib.hid h
  have HQ := Lib.hid hq
  clear h hq
  go_enter Tryd.func83, Tryd.ntmps83
  have HI := Lib.hid (Blk.new W 116 #[.pointer (some ⟨q, 0, none⟩)])
  have hiq : W.heap.size ≠ q := by have := HQ.out; have := H.out.tur.size; omega
  have hib : W.heap.size ≠ b := by have := H.out.bl; have := H.out.tur.size; omega
  go_wp2_with fail
  go_at_call 58; (with_reducible refine (in_num (H.out.alloc (.cells #[.pointer (some ⟨q, 0, none⟩)] 116)).rd).mono ?_); rintro e w1 ⟨rfl, fv1, hr, hf⟩
  have H1 := Lib.hid ((H.out.alloc (.cells #[.pointer (some ⟨q, 0, none⟩)] 116)).read HQ.out hr hf)
  have HI1 := Lib.hid (hf.blk HI.out hiq)
  clear hr hf
  have hc := H1.out.blk.cell
  have hfz := H1.out.blk.frozen
  have H2 := Lib.hid (H1.out.set_ (r1 := { r with epoch := (numP xs M40 s).1 }) 2 (.int .i64 ((numP xs M40 s).1 : Int)) rfl H1.out.cells)
  have HI2 := Lib.hid (HI1.out.far (p := ⟨b, 2, none⟩) hib (.int .i64 ((numP xs M40 s).1 : Int)))
  have hc2 := HI2.out.cell
  go_wp2_with fail
  go_at_call 64; (with_reducible refine (in_cell H2.out.rd (fun ad e => by have := (H2.out.bA ad e).2; have := H2.out.tur.size; omega)).mono ?_); rintro e w3 ⟨rfl, fv3, hr, hf⟩
  have H3 := Lib.hid (H2.out.read HQ.out hr hf)
  clear hr hf hc hfz hc2
  generalize (cellP xs (numP xs M40 s).2) = y at *
  obtain ⟨x, s3⟩ := y
  have hc := H3.out.blk.cell
  have hfz := H3.out.blk.frozen
  have hbl := Nat.lt_of_lt_of_le H3.out.bl H3.out.tur.size
  go_wp2
  go_end0
  have HS := Lib.hid (show RqIs W0 q b A n c xs { r with epoch := ((numP xs M40 s).1 : Int), cs := [x] } s3 fv3 (.slice (some ⟨w3.heap.size, 0, none⟩) 1 1) ((w3.alloc (.cells #[.int .i64 x.view, .string x.key, .int .i64 x.start] 24)).setCell ⟨b, 3, none⟩ (.slice (some ⟨w3.heap.size, 0, none⟩) 1 1)) from
    (H3.out.alloc (.cells #[.int .i64 x.view, .string x.key, .int .i64 x.start] 24)).set_ 3 _ rfl (cellsOwn_one w3 x W0.heap.size H3.out.tur.size))
  rw [World.setCell_alloc_past _ _ _ _ hbl] at HS
  exact ⟨rfl, fv3, _, HS.out⟩
end Go.Proofs.YteffpfgdoganpaaDoor

namespace Go.Proofs.YteffpfgdoganpaaDoor
open Go.RowKit
section
variable {W0 W W1 : World} {q b n c : Nat} {A : Option Addr} {xs : List Int} {r : Rq} {s s1 : RS} {fv fv1 v : Value}
theorem RqIs.frm_ (h : RqIs W0 q b A n c xs r s fv v W) (x : CellV) : RqIs W0 q b A n c xs { r with frm := x } s fv v (((W.setCell ⟨b, 4, none⟩ (.int .i64 x.view)).setCell ⟨b, 5, none⟩ (.string x.key)).setCell ⟨b, 6, none⟩ (.int .i64 x.start)) := by
  have h1 := h.set_ (r1 := { r with frm := ⟨x.view, r.frm.key, r.frm.start⟩ }) 4 (.int .i64 x.view) rfl h.cells
  have h2 := h1.set_ (r1 := { r with frm := ⟨x.view, x.key, r.frm.start⟩ }) 5 (.string x.key) rfl h1.cells
  exact h2.set_ (r1 := { r with frm := x }) 6 (.int .i64 x.start) rfl h2.cells
theorem RqIs.too_ (h : RqIs W0 q b A n c xs r s fv v W) (x : CellV) : RqIs W0 q b A n c xs { r with too := x } s fv v (((W.setCell ⟨b, 7, none⟩ (.int .i64 x.view)).setCell ⟨b, 8, none⟩ (.string x.key)).setCell ⟨b, 9, none⟩ (.int .i64 x.start)) := by
  have h1 := h.set_ (r1 := { r with too := ⟨x.view, r.too.key, r.too.start⟩ }) 7 (.int .i64 x.view) rfl h.cells
  have h2 := h1.set_ (r1 := { r with too := ⟨x.view, x.key, r.too.start⟩ }) 8 (.string x.key) rfl h1.cells
  exact h2.set_ (r1 := { r with too := x }) 9 (.int .i64 x.start) rfl h2.cells
theorem RqIs.in_blk {i : Nat} {t : TypeId} {cs : Array Value} {S : Nat → Prop} (hb : Blk W i t cs) (ht : Tur S W W1) (hi : ¬ S i) : Blk W1 i t cs := hb.tur ht hi
end
set_option maxHeartbeats 8000000 in
set_option maxRecDepth 100000 in
theorem in_scan {q b n c : Nat} {A : Option Addr} {xs : List Int} {r : Rq} {s : RS} {fv v : Value} {W0 W : World} (h : RqIs W0 q b A n c xs r s fv v W) (hq : q < W0.heap.size) :
    Calls Tryd.prog 84 #[inV q, .pointer (some ⟨b, 0, none⟩)] W (RqQ W0 q b A n c xs { r with epoch := ((numP xs M40 s).1 : Int), frm := (cellP xs (numP xs M40 s).2).1, too := (cellP xs (cellP xs (numP xs M40 s).2).2).1, limit := ((numP xs M40 (cellP xs (cellP xs (numP xs M40 s).2).2).2).1 : Int) } (numP xs M40 (cellP xs (cellP xs (numP xs M40 s).2).2).2).2) := by
  have H := Lib.hid (h.alloc (.cells #[.pointer (some ⟨q, 0, none⟩)] 116))
  have HQ := Lib.hid hq
  have HI := Lib.hid (Blk.new W 116 #[.pointer (some ⟨q, 0, none⟩)])
  have hiq : W.heap.size ≠ q := by have := h.tur.size; omega
  have hib : W.heap.size ≠ b := by have := h.bl; have := h.tur.size; omega
  clear h hq
  go_enter Tryd.func84, Tryd.ntmps84
  go_wp2_with fail
  generalize hw0 : W.alloc (.cells #[.pointer (some ⟨q, 0, none⟩)] 116) = w0 at H HI ⊢
  generalize W.heap.size = i at *
  clear hw0
  (refine wp_region_held_drew (S := fun w9 => Blk w9 i 116 #[.pointer (some ⟨q, 0, none⟩)]) (by kernel_rfl) HI.out.drew (fun hHeld => ?_))
  have Hd := Lib.hid (H.out.kept (Below.refl _ _).drew)
  have HId := Lib.hid HI.out.drew
  clear H HI
  (refine take_q (i := 0) (d := 4) (v := ?v101) rfl rfl (by kernel_rfl) (by kernel_rfl) (by kernel_rfl) (fun _ _ _ h => h) (by kernel_rfl) ?hy101 (by assumption) ?rest101)
  case hy101 => (intro w9 hSw; first | (go_simp; done) | (go_simp; with_reducible rfl))
  (try simp only [Act.put, List.setIfInBounds_toArray, List.set_cons_zero, List.set_cons_succ])
  (refine take_q (i := 1) (d := 5) (v := ?v102) rfl rfl (by kernel_rfl) (by kernel_rfl) (by kernel_rfl) (fun _ _ _ h => h) (by kernel_rfl) ?hy102 (by assumption) ?rest102)
  case hy102 => (intro w9 hSw; first | (go_simp; done) | (go_simp; with_reducible rfl))
  (try simp only [Act.put, List.setIfInBounds_toArray, List.set_cons_zero, List.set_cons_succ])
  (refine take_q (i := 2) (d := 6) (v := ?v103) rfl rfl (by kernel_rfl) (by kernel_rfl) (by kernel_rfl) (fun _ _ _ h => h) (by kernel_rfl) ?hy103 (by assumption) ?rest103)
  case hy103 => (intro w9 hSw; first | (go_simp; done) | (go_simp; with_reducible rfl))
  (try simp only [Act.put, List.setIfInBounds_toArray, List.set_cons_zero, List.set_cons_succ])
  (refine take_q (i := 3) (d := 7) (v := ?v104) rfl rfl (by kernel_rfl) (by kernel_rfl) (by kernel_rfl) (fun _ _ _ h => h) (by kernel_rfl) ?hy104 (by assumption) ?rest104)
  case hy104 => (intro w9 hSw; first | (go_simp; done) | (go_simp; with_reducible rfl))
  (try simp only [Act.put, List.setIfInBounds_toArray, List.set_cons_zero, List.set_cons_succ])
  (refine take_q (i := 4) (d := 8) (v := ?v105) rfl rfl (by kernel_rfl) (by kernel_rfl) (by kernel_rfl) (fun _ _ _ h => h) (by kernel_rfl) ?hy105 (by assumption) ?rest105)
  case hy105 => (intro w9 hSw; have hc9 := Blk.cell hSw; clear hSw; first | (go_simp; done) | (go_simp; with_reducible rfl))
  (try simp only [Act.put, List.setIfInBounds_toArray, List.set_cons_zero, List.set_cons_succ])
  (refine take_q (i := 6) (d := 10) (v := ?v106) rfl rfl (by kernel_rfl) (by kernel_rfl) (by kernel_rfl) (fun _ _ _ h => h) (by kernel_rfl) ?hy106 (by assumption) ?rest106)
  case hy106 => (intro w9 hSw; have hc9 := Blk.cell hSw; clear hSw; first | (go_simp; done) | (go_simp; with_reducible rfl))
  (try simp only [Act.put, List.setIfInBounds_toArray, List.set_cons_zero, List.set_cons_succ])
  (refine take_q (i := 8) (d := 12) (v := ?v107) rfl rfl (by kernel_rfl) (by kernel_rfl) (by kernel_rfl) (fun _ _ _ h => h) (by kernel_rfl) ?hy107 (by assumption) ?rest107)
  case hy107 => (intro w9 hSw; have hc9 := Blk.cell hSw; clear hSw; first | (go_simp; done) | (go_simp; with_reducible rfl))
  (try simp only [Act.put, List.setIfInBounds_toArray, List.set_cons_zero, List.set_cons_succ])
  (refine take_q (i := 10) (d := 14) (v := ?v108) rfl rfl (by kernel_rfl) (by kernel_rfl) (by kernel_rfl) (fun _ _ _ h => h) (by kernel_rfl) ?hy108 (by assumption) ?rest108)
  case hy108 => (intro w9 hSw; have hc9 := Blk.cell hSw; clear hSw; first | (go_simp; done) | (go_simp; with_reducible rfl))
  (try simp only [Act.put, List.setIfInBounds_toArray, List.set_cons_zero, List.set_cons_succ])
  (refine wpAnyH_ready (rs := [5]) (by kernel_rfl) (by simp) ?_)
  (refine AllReadyH.cons (o := _) rfl (fun K hK => ?_) AllReadyH.nil)
  go_simp
  (with_reducible refine (in_num Hd.out.rd).mono ?_)
  rintro e w1 ⟨rfl, fvw1, hr, hf⟩
  have Hw1 := Lib.hid (Hd.out.read HQ.out hr hf)
  have HIw1 := Lib.hid (hf.blk HId.out hiq)
  clear hr hf Hd HId
  generalize (numP xs M40 s) = y at *
  obtain ⟨n0, s1⟩ := y
  go_simp
  (refine hK.out _ _ HIw1.out (fun hHeld => ?_))
  clear hK K
  (try dsimp only)
  (refine wpAnyH_ready (rs := [7]) (by kernel_rfl) (by simp) ?_)
  (refine AllReadyH.cons (o := _) rfl (fun K hK => ?_) AllReadyH.nil)
  go_simp
  (with_reducible refine (in_cell Hw1.out.rd (fun ad e => by have := (Hw1.out.bA ad e).2; have := Hw1.out.tur.size; omega)).mono ?_)
  rintro e w2 ⟨rfl, fvw2, hr, hf⟩
  have Hw2 := Lib.hid (Hw1.out.read HQ.out hr hf)
  have HIw2 := Lib.hid (hf.blk HIw1.out hiq)
  clear hr hf Hw1 HIw1
  generalize (cellP xs s1) = y at *
  obtain ⟨x1, s2⟩ := y
  go_simp
  (refine hK.out _ _ HIw2.out (fun hHeld => ?_))
  clear hK K
  (try dsimp only)
  (refine wpAnyH_ready (rs := [9]) (by kernel_rfl) (by simp) ?_)
  (refine AllReadyH.cons (o := _) rfl (fun K hK => ?_) AllReadyH.nil)
  go_simp
  (with_reducible refine (in_cell Hw2.out.rd (fun ad e => by have := (Hw2.out.bA ad e).2; have := Hw2.out.tur.size; omega)).mono ?_)
  rintro e w3 ⟨rfl, fvw3, hr, hf⟩
  have Hw3 := Lib.hid (Hw2.out.read HQ.out hr hf)
  have HIw3 := Lib.hid (hf.blk HIw2.out hiq)
  clear hr hf Hw2 HIw2
  generalize (cellP xs s2) = y at *
  obtain ⟨x2, s3⟩ := y
  go_simp
  (refine hK.out _ _ HIw3.out (fun hHeld => ?_))
  clear hK K
  (try dsimp only)
  (refine wpAnyH_ready (rs := [11]) (by kernel_rfl) (by simp) ?_)
  (refine AllReadyH.cons (o := _) rfl (fun K hK => ?_) AllReadyH.nil)
  go_simp
  (with_reducible refine (in_num Hw3.out.rd).mono ?_)
  rintro e w4 ⟨rfl, fvw4, hr, hf⟩
  have Hw4 := Lib.hid (Hw3.out.read HQ.out hr hf)
  have HIw4 := Lib.hid (hf.blk HIw3.out hiq)
  clear hr hf Hw3 HIw3
  generalize (numP xs M40 s3) = y at *
  obtain ⟨n3, s4⟩ := y
  go_simp
  (refine hK.out _ _ HIw4.out (fun hHeld => ?_))
  clear hK K
  (try dsimp only)
  (refine take_q (i := 12) (d := 16) (v := ?v109) rfl rfl (by kernel_rfl) (by kernel_rfl) (by kernel_rfl) (fun _ _ _ h => h) (by kernel_rfl) ?hy109 (by assumption) ?rest109)
  case hy109 => (intro w9 hSw; first | (go_simp; done) | (go_simp; with_reducible rfl))
  (try simp only [Act.put, List.setIfInBounds_toArray, List.set_cons_zero, List.set_cons_succ])
  (refine take_q (i := 13) (d := 17) (v := ?v110) rfl rfl (by kernel_rfl) (by kernel_rfl) (by kernel_rfl) (fun _ _ _ h => h) (by kernel_rfl) ?hy110 (by assumption) ?rest110)
  case hy110 => (intro w9 hSw; first | (go_simp; done) | (go_simp; with_reducible rfl))
  (try simp only [Act.put, List.setIfInBounds_toArray, List.set_cons_zero, List.set_cons_succ])
  have hcb := Hw4.out.blk.cell
  have hfb := Hw4.out.blk.frozen
  (refine wpAnyH_ready (rs := [14]) (by kernel_rfl) (by simp) ?_)
  (refine AllReadyH.cons (o := _) rfl (fun K hK => ?_) AllReadyH.nil)
  go_simp
  have Ha := Lib.hid (Hw4.out.set_ (r1 := { r with epoch := (n0 : Int) }) 2 (.int .i64 (n0 : Int)) rfl Hw4.out.cells)
  have HIa := Lib.hid (HIw4.out.far (p := ⟨b, 2, none⟩) hib (.int .i64 (n0 : Int)))
  clear hcb hfb Hw4
  (refine hK.out _ _ HIa.out (fun hHeld => ?_))
  clear hK K
  (try simp only [Act.put, List.setIfInBounds_toArray, List.set_cons_zero, List.set_cons_succ])
  (refine take_q (i := 15) (d := 18) (v := ?v111) rfl rfl (by kernel_rfl) (by kernel_rfl) (by kernel_rfl) (fun _ _ _ h => h) (by kernel_rfl) ?hy111 (by assumption) ?rest111)
  case hy111 => (intro w9 hSw; first | (go_simp; done) | (go_simp; with_reducible rfl))
  (try simp only [Act.put, List.setIfInBounds_toArray, List.set_cons_zero, List.set_cons_succ])
  (refine take_q (i := 16) (d := 19) (v := ?v112) rfl rfl (by kernel_rfl) (by kernel_rfl) (by kernel_rfl) (fun _ _ _ h => h) (by kernel_rfl) ?hy112 (by assumption) ?rest112)
  case hy112 => (intro w9 hSw; first | (go_simp; done) | (go_simp; with_reducible rfl))
  (try simp only [Act.put, List.setIfInBounds_toArray, List.set_cons_zero, List.set_cons_succ])
  have hcb := Ha.out.blk.cell
  have hfb := Ha.out.blk.frozen
  (refine wpAnyH_ready (rs := [17]) (by kernel_rfl) (by simp) ?_)
  (refine AllReadyH.cons (o := _) rfl (fun K hK => ?_) AllReadyH.nil)
  go_simp
  have Hb := Lib.hid (Ha.out.frm_ x1)
  have HIb := Lib.hid (((HIa.out.far (p := ⟨b, 4, none⟩) hib (.int .i64 x1.view)).far (p := ⟨b, 5, none⟩) hib (.string x1.key)).far (p := ⟨b, 6, none⟩) hib (.int .i64 x1.start))
  clear hcb hfb Ha
  (refine hK.out _ _ HIb.out (fun hHeld => ?_))
  clear hK K
  (try simp only [Act.put, List.setIfInBounds_toArray, List.set_cons_zero, List.set_cons_succ])
  (refine take_q (i := 18) (d := 20) (v := ?v113) rfl rfl (by kernel_rfl) (by kernel_rfl) (by kernel_rfl) (fun _ _ _ h => h) (by kernel_rfl) ?hy113 (by assumption) ?rest113)
  case hy113 => (intro w9 hSw; first | (go_simp; done) | (go_simp; with_reducible rfl))
  (try simp only [Act.put, List.setIfInBounds_toArray, List.set_cons_zero, List.set_cons_succ])
  (refine take_q (i := 19) (d := 21) (v := ?v114) rfl rfl (by kernel_rfl) (by kernel_rfl) (by kernel_rfl) (fun _ _ _ h => h) (by kernel_rfl) ?hy114 (by assumption) ?rest114)
  case hy114 => (intro w9 hSw; first | (go_simp; done) | (go_simp; with_reducible rfl))
  (try simp only [Act.put, List.setIfInBounds_toArray, List.set_cons_zero, List.set_cons_succ])
  have hcb := Hb.out.blk.cell
  have hfb := Hb.out.blk.frozen
  (refine wpAnyH_ready (rs := [20]) (by kernel_rfl) (by simp) ?_)
  (refine AllReadyH.cons (o := _) rfl (fun K hK => ?_) AllReadyH.nil)
  go_simp
  have Hc := Lib.hid (Hb.out.too_ x2)
  have HIc := Lib.hid (((HIb.out.far (p := ⟨b, 7, none⟩) hib (.int .i64 x2.view)).far (p := ⟨b, 8, none⟩) hib (.string x2.key)).far (p := ⟨b, 9, none⟩) hib (.int .i64 x2.start))
  clear hcb hfb Hb
  (refine hK.out _ _ HIc.out (fun hHeld => ?_))
  clear hK K
  (try simp only [Act.put, List.setIfInBounds_toArray, List.set_cons_zero, List.set_cons_succ])
  (refine take_q (i := 21) (d := 22) (v := ?v115) rfl rfl (by kernel_rfl) (by kernel_rfl) (by kernel_rfl) (fun _ _ _ h => h) (by kernel_rfl) ?hy115 (by assumption) ?rest115)
  case hy115 => (intro w9 hSw; first | (go_simp; done) | (go_simp; with_reducible rfl))
  (try simp only [Act.put, List.setIfInBounds_toArray, List.set_cons_zero, List.set_cons_succ])
  (refine take_q (i := 22) (d := 23) (v := ?v116) rfl rfl (by kernel_rfl) (by kernel_rfl) (by kernel_rfl) (fun _ _ _ h => h) (by kernel_rfl) ?hy116 (by assumption) ?rest116)
  case hy116 => (intro w9 hSw; first | (go_simp; done) | (go_simp; with_reducible rfl))
  (try simp only [Act.put, List.setIfInBounds_toArray, List.set_cons_zero, List.set_cons_succ])
  have hcb := Hc.out.blk.cell
  have hfb := Hc.out.blk.frozen
  (refine wpAnyH_ready (rs := [23]) (by kernel_rfl) (by simp) ?_)
  (refine AllReadyH.cons (o := _) rfl (fun K hK => ?_) AllReadyH.nil)
  go_simp
  have Hd := Lib.hid (Hc.out.set_ (r1 := { r with epoch := (n0 : Int), frm := x1, too := x2, limit := (n3 : Int) }) 10 (.int .i64 (n3 : Int)) rfl Hc.out.cells)
  have HId := Lib.hid (HIc.out.far (p := ⟨b, 10, none⟩) hib (.int .i64 (n3 : Int)))
  clear hcb hfb Hc
  (refine hK.out _ _ HId.out (fun hHeld => ?_))
  clear hK K
  (try simp only [Act.put, List.setIfInBounds_toArray, List.set_cons_zero, List.set_cons_succ])
  (refine wpAnyH_done (by kernel_rfl) ?_ _)
  go_wp2
  go_end0
  exact ⟨rfl, _, _, Hd.out⟩
end Go.Proofs.YteffpfgdoganpaaDoor

namespace Go.Proofs.YteffpfgdoganpaaDoor
open Go.RowKit

def stepC (xs : List Int) (st : List CellV × RS) : List CellV × RS := if st.2.fault.isSome then st else (st.1 ++ [(cellP xs st.2).1], (cellP xs st.2).2)
def cellsP (xs : List Int) : Nat → List CellV × RS → List CellV × RS
  | 0, st => st
  | k + 1, st => stepC xs (cellsP xs k st)
theorem cellsP_len (xs : List Int) (st : List CellV × RS) : ∀ k, (cellsP xs k st).1.length ≤ st.1.length + k
  | 0 => Nat.le_refl _
  | k + 1 => by
    have ih := cellsP_len xs st k
    unfold cellsP stepC
    split
    · omega
    · simp; omega
theorem fail_same {s : RS} {e p : Int} (h : s.fault.isSome = true) : s.fail e p = s := by
  unfold RS.fail
  split
  · rfl
  · rename_i h0; rw [h0] at h; cases h
theorem countP_le (xs : List Int) (most : Nat) (s : RS) : (countP xs most s).1 ≤ most := by
  unfold countP
  split
  · exact Nat.zero_le _
  · omega
theorem want_ {c : Prop} [Decidable c] {A B : Prop} (h : c) (ha : A) : if c then A else B := by rw [if_pos h]; exact ha
section
variable {P : Program} {w : World}
/-- An append of one struct onto a row of its own. -/
theorem wp_append_at {o : Oper} {a : Act} {K : Act → World → Prop} {Q : Exit → Act → World → Prop} (s x : Operand) (t : TypeId)
    (ho : o.op = .call { callee := .builtin .append, args := #[s, x], argTypes := #[t, t] })
    (base : Nat) (e : TypeId) (i : TypeInfo) (z : Value) (size bytes : Nat) (ht : P.underlying t = some (.slice e)) (hi : P.info? e = some i) (hz : i.zero = some z)
    (hsize : i.size = size) (hby : i.bytes = bytes) (hzs : z.cells.size = size) (hsz : 0 < size)
    (v : Value) (n : Nat) (xs : List Value) (hs : a.eval s = v) (hown : w.ownsRow base e size v n xs)
    (ad : Addr) (m c : Nat) (news : List Value) (hx : a.eval x = .slice (some ad) m c) (hl : news.length = m * size) (hnews : ∀ j u, news[j]? = some u → w.cell? (ad.add j) = some u) (h1 : ∀ u ∈ news, u.oneCell' = true)
    (h63 : n + m ≤ maxLen) (hbytes : (n + m) * bytes ≤ 140737488355328) (hbase : base ≤ w.heap.size)
    (h : ∀ v' w', w'.ownsRow base e size v' (n + m) (xs ++ news) → w.grownBy w' v.ownBlock → (v'.ownBlock = v.ownBlock ∨ v'.ownBlock = some w.heap.size) → K (a.put o.dst v') w') : o.wp P a w K Q := by
  obtain ⟨v', w', hr, h2, h3, _, h5⟩ := run_append_own_at (P := P) w base t o.type e i z size bytes ht hi hz hsize hby hzs hsz v n xs hown ad m c news hl hnews h1 h63 hbytes hbase
  unfold Oper.wp execOp
  simp only [ho, resolve, invoke, builtin, Sem.run_bind, Sem.run_pure, Result.andThen_ok, List.map_toArray, List.map_cons, List.map_nil, hs, hx, hr]
  exact h v' w' h2 h3 h5
end
section
variable {W0 W W1 : World} {q b n c : Nat} {A : Option Addr} {xs : List Int} {r : Rq} {s s1 : RS} {fv fv1 v v1 : Value}
/-- What an append onto the cells leaves, ahead of the store. -/
theorem RqIs.grown {x : CellV} (h : RqIs W0 q b A n c xs r s fv v W) (hq : q < W0.heap.size) (hty : 0 < W0.heap.size) (hg : W.grownBy W1 v.ownBlock) (hown : W1.ownsRow W0.heap.size 24 3 v1 (r.cs.length + 1) (cellCs r.cs ++ x.cells)) :
    RqIs W0 q b A n c xs { r with cs := r.cs ++ [x] } s fv v1 (W1.setCell ⟨b, 3, none⟩ v1) := by
  have hk : ∀ k, v.ownBlock = some k → W0.heap.size ≤ k := fun k e => (h.cells.lt k e).1
  have ht : Tur (fun k => v.ownBlock = some k) W W1 := Tur.of_grown hg (fun k e => e)
  have hb : Blk W1 b 26 (rqC v r) := h.blk.tur ht (fun e => by have := hk _ e; have := h.bl; omega)
  have hr : RdIs W1 q A n c xs s fv := h.rd.tur ht (fun e => by have := hk _ e; omega) (fun ad e e2 => by have := hk _ e2; have := (h.bA ad e).2; omega)
    (fun g e e2 => by
      obtain ⟨cs', hb'⟩ := h.rd.err_blk e
      rcases h.cells.2 with ⟨e3, _⟩ | ⟨g', cap, cur, e3, _, hg', _⟩
      · rw [e3] at e2; cases e2
      · rw [e3] at e2
        cases e2
        exact absurd rfl (hb'.ne_ (show Blk W g' 24 cur from hg') (by decide))) (fun e => by have := hk _ e; omega)
  have ht2 : Tur (· = b) W1 (W1.setCell ⟨b, 3, none⟩ v1) := (Tur.refl (· = b) W1).setCell (p := ⟨b, 3, none⟩) (.inl rfl) v1
  have hc : CellsOwn W1 W0.heap.size v1 (r.cs ++ [x]) := by
    unfold CellsOwn cellCs
    rw [List.length_append, List.flatMap_append]
    simpa [cellCs] using hown
  exact ⟨hb.set_ 3 v1, hc.tur ht2 (fun k e => by have := h.bl; omega), hr.near ht2 hb (by decide) (fun e => h.bq e.symm) (fun ad e => (h.bA ad e).1) h.bt,
    (h.tur.trans ht (fun k e => .inr (hk k e))).trans ht2 (fun k e => .inl (.inr e)), h.bq, h.bl, h.bA, h.bt⟩
end
theorem info_cell0 : (Tryd.prog.info? 24).map (fun i => (i.zero.map (fun z => z.cells.size), i.size, i.bytes)) = some (some 3, 3, 32) := by kernel_rfl
theorem info_cell : ∃ i z, Tryd.prog.info? 24 = some i ∧ i.zero = some z ∧ i.size = 3 ∧ i.bytes = 32 ∧ z.cells.size = 3 := by
  have h := info_cell0
  cases hi : Tryd.prog.info? 24 with
  | none => rw [hi] at h; cases h
  | some ic =>
    rw [hi] at h
    injection h with h
    injection h with h1 h2
    injection h2 with h2 h3
    cases hz : ic.zero with
    | none => rw [hz] at h1; cases h1
    | some z =>
      rw [hz] at h1
      injection h1 with h1
      exact ⟨ic, z, rfl, hz, h2, h3, h1⟩
theorem own_form3 {w : World} {base : Nat} {e : TypeId} {size n : Nat} {v : Value} {xs : List Value} (h : w.ownsRow base e size v n xs) : ∃ A c, v = .slice A n c := by
  rcases h.2 with ⟨rfl, rfl⟩ | ⟨g, cap, cur, rfl, _⟩
  · exact ⟨none, 0, rfl⟩
  · exact ⟨_, cap, rfl⟩
theorem RqIs.own_ne {W0 W : World} {q b n c : Nat} {A : Option Addr} {xs : List Int} {r : Rq} {s : RS} {fv v : Value} {i : Nat} {t : TypeId} {cs : Array Value} (h : RqIs W0 q b A n c xs r s fv v W) (hb : Blk W i t cs) (ht : t ≠ 24) : some i ≠ v.ownBlock := by
  intro e
  rcases h.cells.2 with ⟨e3, _⟩ | ⟨g', cap, cur, e3, _, hg', _⟩
  · rw [e3] at e; cases e
  · rw [e3] at e
    cases e
    exact absurd rfl (hb.ne_ (show Blk W g' 24 cur from hg') ht)
theorem cells_one_c {w : World} {j : Nat} {x : CellV} (h : Blk w j 24 #[.int .i64 x.view, .string x.key, .int .i64 x.start]) : ∀ k u, (x.cells)[k]? = some u → w.cell? ((⟨j, 0, none⟩ : Addr).add k) = some u := by
  intro k u hu
  rw [show (⟨j, 0, none⟩ : Addr).add k = ⟨j, k, none⟩ by cases k <;> simp [Addr.add]]
  rw [h.cell k, ← hu]
  simp [CellV.cells]
theorem cells_one1 (x : CellV) : ∀ u ∈ x.cells, u.oneCell' = true := by
  intro u hu
  simp only [CellV.cells, List.mem_cons, List.not_mem_nil, or_false] at hu
  rcases hu with rfl | rfl | rfl <;> rfl
set_option maxHeartbeats 8000000 in
set_option maxRecDepth 100000 in
theorem in_multi {q b n c : Nat} {A : Option Addr} {xs : List Int} {r : Rq} {s : RS} {fv v : Value} {W0 W : World} (h : RqIs W0 q b A n c xs r s fv v W) (hq : q < W0.heap.size) (hty : 0 < W0.heap.size) (hr0 : r.cs = []) :
    Calls Tryd.prog 82 #[inV q, .pointer (some ⟨b, 0, none⟩), .int .i64 (n : Int)] W (RqQ W0 q b A n c xs { r with epoch := ((numP xs M40 s).1 : Int), cs := (cellsP xs (countP xs 16 (numP xs M40 s).2).1 ([], (countP xs 16 (numP xs M40 s).2).2)).1 } (cellsP xs (countP xs 16 (numP xs M40 s).2).1 ([], (countP xs 16 (numP xs M40 s).2).2)).2) := by
  have H := Lib.hid (h.alloc (.cells #[.pointer (some ⟨q, 0, none⟩)] 116))
  have HQ := Lib.hid hq
  have HTY := Lib.hid hty
  have HR0 := Lib.hid hr0
  have HI := Lib.hid (Blk.new W 116 #[.pointer (some ⟨q, 0, none⟩)])
  have hiq : W.heap.size ≠ q := by have := h.tur.size; omega
  have hib : W.heap.size ≠ b := by have := h.bl; have := h.tur.size; omega
  clear h hq hty hr0
  go_enter Tryd.func82, Tryd.ntmps82
  go_wp2_with fail
  generalize hw0 : W.alloc (.cells #[.pointer (some ⟨q, 0, none⟩)] 116) = w0 at H HI ⊢
  generalize W.heap.size = i at *
  clear hw0
  go_at_call 58; (with_reducible refine (in_num H.out.rd).mono ?_); rintro e w1 ⟨rfl, fv1, hr, hf⟩
  have H1 := Lib.hid (H.out.read HQ.out hr hf)
  have HI1 := Lib.hid (hf.blk HI.out hiq)
  clear hr hf H HI
  generalize (numP xs M40 s) = y at *
  obtain ⟨n0, s1⟩ := y
  dsimp only at H1 ⊢
  have hcb := H1.out.blk.cell
  have hfb := H1.out.blk.frozen
  have H2 := Lib.hid (H1.out.set_ (r1 := { r with epoch := (n0 : Int) }) 2 (.int .i64 (n0 : Int)) rfl H1.out.cells)
  have HI2 := Lib.hid (HI1.out.far (p := ⟨b, 2, none⟩) hib (.int .i64 (n0 : Int)))
  have hci := HI2.out.cell
  go_wp2_with fail
  generalize hw2 : w1.setCell ⟨b, 2, none⟩ (.int .i64 (n0 : Int)) = w2 at *
  clear hw2 H1 HI1 hcb hfb
  go_at_call 63; (with_reducible refine (in_count H2.out.rd 16).mono ?_); rintro e w3 ⟨rfl, fv3, hr, hf⟩
  have H3 := Lib.hid (H2.out.read HQ.out hr hf)
  have HI3 := Lib.hid (hf.blk HI2.out hiq)
  have HCL := Lib.hid (countP_le xs 16 s1)
  clear hr hf H2 HI2 hci
  generalize hy : (countP xs 16 s1) = y at *
  obtain ⟨cnt, s2⟩ := y
  clear hy
  dsimp only at H3 HCL ⊢
  have H3' := Lib.hid (show RqIs W0 q b A n c xs { r with epoch := (n0 : Int), cs := (cellsP xs 0 ([], s2)).1 } (cellsP xs 0 ([], s2)).2 fv3 v w3 from by
    have hx := H3.out
    have e : ({ r with epoch := (n0 : Int) } : Rq) = { r with epoch := (n0 : Int), cs := [] } := by rw [← HR0.out]
    rw [e] at hx
    exact hx)
  clear H3
  have hci := HI3.out.cell
  go_wp2
  clear hci
  go_loopw [14] (fun t14 wz => ∃ k : Nat, t14 = .int .i64 (k : Int) ∧ k ≤ cnt ∧ Hid (∃ fz vz, RqIs W0 q b A n c xs { r with epoch := (n0 : Int), cs := (cellsP xs k ([], s2)).1 } (cellsP xs k ([], s2)).2 fz vz wz ∧ Blk wz i 116 #[.pointer (some ⟨q, 0, none⟩)])) (fun t14 _ => cnt - (intOf t14).toNat)
  case atStart => exact ⟨0, rfl, Nat.zero_le _, Lib.hid ⟨fv3, v, H3'.out, HI3.out⟩⟩
  case round =>
    obtain ⟨k, rfl, hk, HP0⟩ := hrel
    obtain ⟨fz, vz, hP, hI⟩ := HP0.out
    have HP := Lib.hid hP
    have HIz := Lib.hid hI
    clear HP0 hP hI
    rename World => wz
    have h16 : cnt ≤ 16 := HCL.out
    have LK := Lib.hid (cellsP_len xs ([], s2) k)
    have HSTEP := Lib.hid (show cellsP xs (k + 1) ([], s2) = stepC xs (cellsP xs k ([], s2)) from rfl)
    have hci := HIz.out.cell
    by_cases hkn : k < cnt
    · generalize cellsP xs k ([], s2) = st at *
      obtain ⟨l, sz⟩ := st
      dsimp only at HP LK
      go_wp2_with fail
      go_at_call 61; (with_reducible refine (rd_err HP.out.rd).mono ?_); rintro e w4 ⟨hb4, he⟩
      have H4 := Lib.hid (HP.out.kept hb4)
      have HI4 := Lib.hid (HIz.out.kept hb4)
      clear hb4 hci HP HIz
      rcases hfz : sz.fault with _ | ⟨ec, ep⟩
      · rw [hfz] at he
        obtain rfl := he
        have HS2 := Lib.hid (show cellsP xs (k + 1) ([], s2) = (l ++ [(cellP xs sz).1], (cellP xs sz).2) by rw [HSTEP.out]; unfold stepC; simp [hfz])
        go_wp2_with fail
        obtain ⟨ic, zc, hic, hzc, hz1, hz2, hz3⟩ := info_cell
        (refine wp_region_held_drew (S := fun w9 => Blk w9 i 116 #[.pointer (some ⟨q, 0, none⟩)]) (by kernel_rfl) HI4.out.drew (fun hHeld => ?_))
        have Hd := Lib.hid (H4.out.kept (Below.refl _ _).drew)
        have HId := Lib.hid HI4.out.drew
        clear H4 HI4
        (refine take_q (i := 0) (d := 20) (v := ?v101) rfl rfl (by kernel_rfl) (by kernel_rfl) (by kernel_rfl) (fun _ _ _ h => h) (by kernel_rfl) ?hy101 (by assumption) ?rest101)
        case hy101 => (intro w9 hSw; first | (go_simp; done) | (go_simp; with_reducible rfl))
        ((try simp only [Act.put]); (try simp only [List.setIfInBounds_toArray]); (try simp only [List.set_cons_succ]); (try simp only [List.set_cons_zero]))
        (refine take_q (i := 1) (d := 21) (v := ?v102) rfl rfl (by kernel_rfl) (by kernel_rfl) (by kernel_rfl) (fun _ _ _ h => h) (by kernel_rfl) ?hy102 (by assumption) ?rest102)
        case hy102 => (intro w9 hSw; first | (go_simp; done) | (go_simp; with_reducible rfl))
        ((try simp only [Act.put]); (try simp only [List.setIfInBounds_toArray]); (try simp only [List.set_cons_succ]); (try simp only [List.set_cons_zero]))
        (refine take_q (i := 2) (d := 22) (v := ?v103) rfl rfl (by kernel_rfl) (by kernel_rfl) (by kernel_rfl) (fun _ _ _ h => h) (by kernel_rfl) ?hy103 (by assumption) ?rest103)
        case hy103 => (intro w9 hSw; first | (go_simp; done) | (go_simp; with_reducible rfl))
        ((try simp only [Act.put]); (try simp only [List.setIfInBounds_toArray]); (try simp only [List.set_cons_succ]); (try simp only [List.set_cons_zero]))
        (refine take_q (i := 3) (d := 23) (v := ?v104) rfl rfl (by kernel_rfl) (by kernel_rfl) (by kernel_rfl) (fun _ _ _ h => h) (by kernel_rfl) ?hy104 (by assumption) ?rest104)
        case hy104 => (intro w9 hSw; first | (go_simp; done) | (go_simp; with_reducible rfl))
        ((try simp only [Act.put]); (try simp only [List.setIfInBounds_toArray]); (try simp only [List.set_cons_succ]); (try simp only [List.set_cons_zero]))
        (refine take_q (i := 5) (d := 25) (v := ?v105) rfl rfl (by kernel_rfl) (by kernel_rfl) (by kernel_rfl) (fun _ _ _ h => h) (by kernel_rfl) ?hy105 (by assumption) ?rest105)
        case hy105 => (intro w9 hSw; have hc9 := Blk.cell hSw; clear hSw; first | (go_simp; done) | (go_simp; with_reducible rfl))
        ((try simp only [Act.put]); (try simp only [List.setIfInBounds_toArray]); (try simp only [List.set_cons_succ]); (try simp only [List.set_cons_zero]))
        (refine wpAnyH_ready (rs := [4, 6]) (by kernel_rfl) (by simp) ?_)
        refine AllReadyH.cons (o := _) rfl (fun K hK => ?_) (AllReadyH.cons (o := _) rfl (fun K hK => ?_) AllReadyH.nil)
        · have hcb := Hd.out.blk.cell
          go_simp
          clear hcb
          (refine hK.out _ _ HId.out (fun hHeld => ?_))
          clear hK K
          ((try simp only [Act.put]); (try simp only [List.setIfInBounds_toArray]); (try simp only [List.set_cons_succ]); (try simp only [List.set_cons_zero]))
          (refine wpAnyH_ready (rs := [6]) (by kernel_rfl) (by simp) ?_)
          (refine AllReadyH.cons (o := _) rfl (fun K hK => ?_) AllReadyH.nil)
          go_simp
          (with_reducible refine (in_cell Hd.out.rd (fun ad e => by have := (Hd.out.bA ad e).2; have := Hd.out.tur.size; omega)).mono ?_)
          rintro e w5 ⟨rfl, fv5, hr, hf⟩
          have H5 := Lib.hid (Hd.out.read HQ.out hr hf)
          have HI5 := Lib.hid (hf.blk HId.out hiq)
          clear hr hf
          generalize (cellP xs sz) = y at *
          obtain ⟨x, s5⟩ := y
          dsimp only at H5 HS2
          go_simp
          (refine hK.out _ _ HI5.out (fun hHeld => ?_))
          clear hK K
          (try dsimp only)
          (refine wpAnyH_ready (rs := [7]) (by kernel_rfl) (by simp) ?_)
          (refine AllReadyH.cons (o := _) rfl (fun K hK => ?_) AllReadyH.nil)
          go_simp
          have HN6 := Lib.hid (Blk.new w5 24 #[.int .i64 x.view, .string x.key, .int .i64 x.start])
          have H6 := Lib.hid (H5.out.alloc (.cells #[.int .i64 x.view, .string x.key, .int .i64 x.start] 24))
          have HI6 := Lib.hid (HI5.out.alloc (.cells #[.int .i64 x.view, .string x.key, .int .i64 x.start] 24))
          generalize hw6 : w5.alloc (.cells #[.int .i64 x.view, .string x.key, .int .i64 x.start] 24) = w6 at *
          generalize w5.heap.size = jn at *
          (refine hK.out _ _ HI6.out (fun hHeld => ?_))
          clear hK K
          ((try simp only [Act.put]); (try simp only [List.setIfInBounds_toArray]); (try simp only [List.set_cons_succ]); (try simp only [List.set_cons_zero]))
          (refine wpAnyH_ready (rs := [8]) (by kernel_rfl) (by simp) ?_)
          (refine AllReadyH.cons (o := _) rfl (fun K hK => ?_) AllReadyH.nil)
          refine want_ (by kernel_rfl) ?_
          refine wp_append_at _ _ _ rfl W0.heap.size _ ic zc 3 32 Tryd.underlying22 hic hzc hz1 hz2 hz3 (by decide) vz l.length (cellCs l) rfl H6.out.cells ⟨jn, 0, none⟩ 1 1 x.cells rfl rfl (cells_one_c HN6.out) (cells_one1 x) (by have := LK.out; simp at this; unfold maxLen; omega) (by have := LK.out; simp at this; omega) H6.out.tur.size ?_
          intro v7 w7 hown hg hv
          obtain ⟨A7, c7, rfl⟩ := own_form3 hown
          have HB7 := Lib.hid (H6.out.blk.grown hg (H6.out.own_ne H6.out.blk (by decide)))
          have HI7 := Lib.hid (HI6.out.grown hg (H6.out.own_ne HI6.out (by decide)))
          have H8 := Lib.hid (H6.out.grown (x := x) HQ.out HTY.out hg hown)
          clear hown hg hv
          (refine hK.out _ _ HI7.out (fun hHeld => ?_))
          clear hK K
          ((try simp only [Act.put]); (try simp only [List.setIfInBounds_toArray]); (try simp only [List.set_cons_succ]); (try simp only [List.set_cons_zero]))
          (refine take_q (i := 9) (d := 29) (v := ?v106) rfl rfl (by kernel_rfl) (by kernel_rfl) (by kernel_rfl) (fun _ _ _ h => h) (by kernel_rfl) ?hy106 (by assumption) ?rest106)
          case hy106 => (intro w9 hSw; first | (go_simp; done) | (go_simp; with_reducible rfl))
          ((try simp only [Act.put]); (try simp only [List.setIfInBounds_toArray]); (try simp only [List.set_cons_succ]); (try simp only [List.set_cons_zero]))
          (refine take_q (i := 10) (d := 30) (v := ?v107) rfl rfl (by kernel_rfl) (by kernel_rfl) (by kernel_rfl) (fun _ _ _ h => h) (by kernel_rfl) ?hy107 (by assumption) ?rest107)
          case hy107 => (intro w9 hSw; first | (go_simp; done) | (go_simp; with_reducible rfl))
          ((try simp only [Act.put]); (try simp only [List.setIfInBounds_toArray]); (try simp only [List.set_cons_succ]); (try simp only [List.set_cons_zero]))
          have hcb := HB7.out.cell
          have hfb := HB7.out.frozen
          (refine wpAnyH_ready (rs := [11]) (by kernel_rfl) (by simp) ?_)
          (refine AllReadyH.cons (o := _) rfl (fun K hK => ?_) AllReadyH.nil)
          go_simp
          have HI8 := Lib.hid (HI7.out.far (p := ⟨b, 3, none⟩) hib (.slice A7 (l.length + 1) c7))
          clear hcb hfb
          (refine hK.out _ _ HI8.out (fun hHeld => ?_))
          clear hK K
          (refine wpAnyH_done (by kernel_rfl) ?_ _)
          go_wp2
          go_roundw
          case rel => exact ⟨k + 1, by go_num, by omega, Lib.hid ⟨fv5, _, by rw [HS2.out]; exact H8.out, HI8.out⟩⟩
          case measure => simp [intOf]; omega
        · go_simp
          (with_reducible refine (in_cell Hd.out.rd (fun ad e => by have := (Hd.out.bA ad e).2; have := Hd.out.tur.size; omega)).mono ?_)
          rintro e w5 ⟨rfl, fv5, hr, hf⟩
          have H5 := Lib.hid (Hd.out.read HQ.out hr hf)
          have HI5 := Lib.hid (hf.blk HId.out hiq)
          clear hr hf
          generalize (cellP xs sz) = y at *
          obtain ⟨x, s5⟩ := y
          dsimp only at H5 HS2
          go_simp
          (refine hK.out _ _ HI5.out (fun hHeld => ?_))
          clear hK K
          (try dsimp only)
          (refine wpAnyH_ready (rs := [4, 7]) (by kernel_rfl) (by simp) ?_)
          refine AllReadyH.cons (o := _) rfl (fun K hK => ?_) (AllReadyH.cons (o := _) rfl (fun K hK => ?_) AllReadyH.nil)
          · have hcb := H5.out.blk.cell
            go_simp
            clear hcb
            (refine hK.out _ _ HI5.out (fun hHeld => ?_))
            clear hK K
            ((try simp only [Act.put]); (try simp only [List.setIfInBounds_toArray]); (try simp only [List.set_cons_succ]); (try simp only [List.set_cons_zero]))
            (refine wpAnyH_ready (rs := [7]) (by kernel_rfl) (by simp) ?_)
            (refine AllReadyH.cons (o := _) rfl (fun K hK => ?_) AllReadyH.nil)
            go_simp
            have HN6 := Lib.hid (Blk.new w5 24 #[.int .i64 x.view, .string x.key, .int .i64 x.start])
            have H6 := Lib.hid (H5.out.alloc (.cells #[.int .i64 x.view, .string x.key, .int .i64 x.start] 24))
            have HI6 := Lib.hid (HI5.out.alloc (.cells #[.int .i64 x.view, .string x.key, .int .i64 x.start] 24))
            generalize hw6 : w5.alloc (.cells #[.int .i64 x.view, .string x.key, .int .i64 x.start] 24) = w6 at *
            generalize w5.heap.size = jn at *
            (refine hK.out _ _ HI6.out (fun hHeld => ?_))
            clear hK K
            ((try simp only [Act.put]); (try simp only [List.setIfInBounds_toArray]); (try simp only [List.set_cons_succ]); (try simp only [List.set_cons_zero]))
            (refine wpAnyH_ready (rs := [8]) (by kernel_rfl) (by simp) ?_)
            (refine AllReadyH.cons (o := _) rfl (fun K hK => ?_) AllReadyH.nil)
            refine want_ (by kernel_rfl) ?_
            refine wp_append_at _ _ _ rfl W0.heap.size _ ic zc 3 32 Tryd.underlying22 hic hzc hz1 hz2 hz3 (by decide) vz l.length (cellCs l) rfl H6.out.cells ⟨jn, 0, none⟩ 1 1 x.cells rfl rfl (cells_one_c HN6.out) (cells_one1 x) (by have := LK.out; simp at this; unfold maxLen; omega) (by have := LK.out; simp at this; omega) H6.out.tur.size ?_
            intro v7 w7 hown hg hv
            obtain ⟨A7, c7, rfl⟩ := own_form3 hown
            have HB7 := Lib.hid (H6.out.blk.grown hg (H6.out.own_ne H6.out.blk (by decide)))
            have HI7 := Lib.hid (HI6.out.grown hg (H6.out.own_ne HI6.out (by decide)))
            have H8 := Lib.hid (H6.out.grown (x := x) HQ.out HTY.out hg hown)
            clear hown hg hv
            (refine hK.out _ _ HI7.out (fun hHeld => ?_))
            clear hK K
            ((try simp only [Act.put]); (try simp only [List.setIfInBounds_toArray]); (try simp only [List.set_cons_succ]); (try simp only [List.set_cons_zero]))
            (refine take_q (i := 9) (d := 29) (v := ?v108) rfl rfl (by kernel_rfl) (by kernel_rfl) (by kernel_rfl) (fun _ _ _ h => h) (by kernel_rfl) ?hy108 (by assumption) ?rest108)
            case hy108 => (intro w9 hSw; first | (go_simp; done) | (go_simp; with_reducible rfl))
            ((try simp only [Act.put]); (try simp only [List.setIfInBounds_toArray]); (try simp only [List.set_cons_succ]); (try simp only [List.set_cons_zero]))
            (refine take_q (i := 10) (d := 30) (v := ?v109) rfl rfl (by kernel_rfl) (by kernel_rfl) (by kernel_rfl) (fun _ _ _ h => h) (by kernel_rfl) ?hy109 (by assumption) ?rest109)
            case hy109 => (intro w9 hSw; first | (go_simp; done) | (go_simp; with_reducible rfl))
            ((try simp only [Act.put]); (try simp only [List.setIfInBounds_toArray]); (try simp only [List.set_cons_succ]); (try simp only [List.set_cons_zero]))
            have hcb := HB7.out.cell
            have hfb := HB7.out.frozen
            (refine wpAnyH_ready (rs := [11]) (by kernel_rfl) (by simp) ?_)
            (refine AllReadyH.cons (o := _) rfl (fun K hK => ?_) AllReadyH.nil)
            go_simp
            have HI8 := Lib.hid (HI7.out.far (p := ⟨b, 3, none⟩) hib (.slice A7 (l.length + 1) c7))
            clear hcb hfb
            (refine hK.out _ _ HI8.out (fun hHeld => ?_))
            clear hK K
            (refine wpAnyH_done (by kernel_rfl) ?_ _)
            go_wp2
            go_roundw
            case rel => exact ⟨k + 1, by go_num, by omega, Lib.hid ⟨fv5, _, by rw [HS2.out]; exact H8.out, HI8.out⟩⟩
            case measure => simp [intOf]; omega
          · go_simp
            have HN6 := Lib.hid (Blk.new w5 24 #[.int .i64 x.view, .string x.key, .int .i64 x.start])
            have H6 := Lib.hid (H5.out.alloc (.cells #[.int .i64 x.view, .string x.key, .int .i64 x.start] 24))
            have HI6 := Lib.hid (HI5.out.alloc (.cells #[.int .i64 x.view, .string x.key, .int .i64 x.start] 24))
            generalize hw6 : w5.alloc (.cells #[.int .i64 x.view, .string x.key, .int .i64 x.start] 24) = w6 at *
            generalize w5.heap.size = jn at *
            (refine hK.out _ _ HI6.out (fun hHeld => ?_))
            clear hK K
            ((try simp only [Act.put]); (try simp only [List.setIfInBounds_toArray]); (try simp only [List.set_cons_succ]); (try simp only [List.set_cons_zero]))
            (refine wpAnyH_ready (rs := [4]) (by kernel_rfl) (by simp) ?_)
            (refine AllReadyH.cons (o := _) rfl (fun K hK => ?_) AllReadyH.nil)
            have hcb := H6.out.blk.cell
            go_simp
            clear hcb
            (refine hK.out _ _ HI6.out (fun hHeld => ?_))
            clear hK K
            ((try simp only [Act.put]); (try simp only [List.setIfInBounds_toArray]); (try simp only [List.set_cons_succ]); (try simp only [List.set_cons_zero]))
            (refine wpAnyH_ready (rs := [8]) (by kernel_rfl) (by simp) ?_)
            (refine AllReadyH.cons (o := _) rfl (fun K hK => ?_) AllReadyH.nil)
            refine want_ (by kernel_rfl) ?_
            refine wp_append_at _ _ _ rfl W0.heap.size _ ic zc 3 32 Tryd.underlying22 hic hzc hz1 hz2 hz3 (by decide) vz l.length (cellCs l) rfl H6.out.cells ⟨jn, 0, none⟩ 1 1 x.cells rfl rfl (cells_one_c HN6.out) (cells_one1 x) (by have := LK.out; simp at this; unfold maxLen; omega) (by have := LK.out; simp at this; omega) H6.out.tur.size ?_
            intro v7 w7 hown hg hv
            obtain ⟨A7, c7, rfl⟩ := own_form3 hown
            have HB7 := Lib.hid (H6.out.blk.grown hg (H6.out.own_ne H6.out.blk (by decide)))
            have HI7 := Lib.hid (HI6.out.grown hg (H6.out.own_ne HI6.out (by decide)))
            have H8 := Lib.hid (H6.out.grown (x := x) HQ.out HTY.out hg hown)
            clear hown hg hv
            (refine hK.out _ _ HI7.out (fun hHeld => ?_))
            clear hK K
            ((try simp only [Act.put]); (try simp only [List.setIfInBounds_toArray]); (try simp only [List.set_cons_succ]); (try simp only [List.set_cons_zero]))
            (refine take_q (i := 9) (d := 29) (v := ?v110) rfl rfl (by kernel_rfl) (by kernel_rfl) (by kernel_rfl) (fun _ _ _ h => h) (by kernel_rfl) ?hy110 (by assumption) ?rest110)
            case hy110 => (intro w9 hSw; first | (go_simp; done) | (go_simp; with_reducible rfl))
            ((try simp only [Act.put]); (try simp only [List.setIfInBounds_toArray]); (try simp only [List.set_cons_succ]); (try simp only [List.set_cons_zero]))
            (refine take_q (i := 10) (d := 30) (v := ?v111) rfl rfl (by kernel_rfl) (by kernel_rfl) (by kernel_rfl) (fun _ _ _ h => h) (by kernel_rfl) ?hy111 (by assumption) ?rest111)
            case hy111 => (intro w9 hSw; first | (go_simp; done) | (go_simp; with_reducible rfl))
            ((try simp only [Act.put]); (try simp only [List.setIfInBounds_toArray]); (try simp only [List.set_cons_succ]); (try simp only [List.set_cons_zero]))
            have hcb := HB7.out.cell
            have hfb := HB7.out.frozen
            (refine wpAnyH_ready (rs := [11]) (by kernel_rfl) (by simp) ?_)
            (refine AllReadyH.cons (o := _) rfl (fun K hK => ?_) AllReadyH.nil)
            go_simp
            have HI8 := Lib.hid (HI7.out.far (p := ⟨b, 3, none⟩) hib (.slice A7 (l.length + 1) c7))
            clear hcb hfb
            (refine hK.out _ _ HI8.out (fun hHeld => ?_))
            clear hK K
            (refine wpAnyH_done (by kernel_rfl) ?_ _)
            go_wp2
            go_roundw
            case rel => exact ⟨k + 1, by go_num, by omega, Lib.hid ⟨fv5, _, by rw [HS2.out]; exact H8.out, HI8.out⟩⟩
            case measure => simp [intOf]; omega
      · rw [hfz] at he
        obtain ⟨g, rfl, _⟩ := he
        have HS2 := Lib.hid (show cellsP xs (k + 1) ([], s2) = (l, sz) by rw [HSTEP.out]; unfold stepC; simp [hfz])
        go_wp2
        go_roundw
        case rel => exact ⟨k + 1, by go_num, by omega, Lib.hid ⟨fz, vz, by rw [HS2.out]; exact H4.out, HI4.out⟩⟩
        case measure => simp [intOf]; omega
    · have HE := Lib.hid (show k = cnt by omega)
      go_wp2
      go_end0
      have hx := HE.out
      subst hx
      exact ⟨rfl, fz, vz, HP.out⟩
end Go.Proofs.YteffpfgdoganpaaDoor

namespace Go.Proofs.YteffpfgdoganpaaDoor
open Go.RowKit

def rmap (q i j : Nat) : List (Int × Value) :=
  let x := #[inV q]
  [(1, .func (.func 83) x #[]), (2, .func (.func 81) #[] #[.pointer (some ⟨i, 0, none⟩), .pointer (some ⟨j, 0, none⟩)]), (3, .func (.func 84) x #[]), (4, .func (.func 85) x #[]),
   (5, .func (.func 86) x #[]), (6, .func (.func 86) x #[]), (7, .func (.func 85) x #[])]

set_option maxHeartbeats 2000000 in
set_option maxRecDepth 100000 in
theorem in_readers (q : Nat) (n : Int) (W : World) :
    Calls Tryd.prog 59 #[inV q, .int .i64 n] W fun e w' => e = .returned (.map (some (W.heap.size + 2))) ∧ MapIs w' (W.heap.size + 2) (rmap q W.heap.size (W.heap.size + 1)) ∧ Blk w' W.heap.size 116 #[.pointer (some ⟨q, 0, none⟩)] ∧ Blk w' (W.heap.size + 1) 3 #[.int .i64 n] ∧ Below W.heap.size W w' := by
  have hmm := run_makeMap 120
  have hmf := run_makeFunc
  have HI0 := Lib.hid ((Blk.new W 116 #[.pointer (some ⟨q, 0, none⟩)]).alloc (.cells #[.int .i64 n] 3))
  have HJ0 := Lib.hid (Blk.new (W.alloc (.cells #[.pointer (some ⟨q, 0, none⟩)] 116)) 3 #[.int .i64 n])
  have HB0 := Lib.hid (((Below.refl W.heap.size W).alloc (Nat.le_refl _) (.cells #[.pointer (some ⟨q, 0, none⟩)] 116)).alloc (by simp) (.cells #[.int .i64 n] 3))
  have hs1 : (W.alloc (.cells #[.pointer (some ⟨q, 0, none⟩)] 116)).heap.size = W.heap.size + 1 := by simp
  have hs2 : ((W.alloc (.cells #[.pointer (some ⟨q, 0, none⟩)] 116)).alloc (.cells #[.int .i64 n] 3)).heap.size = W.heap.size + 2 := by simp
  rw [hs1] at HJ0
  have HM := Lib.hid (MapIs.made ((W.alloc (.cells #[.pointer (some ⟨q, 0, none⟩)] 116)).alloc (.cells #[.int .i64 n] 3)))
  rw [hs2] at HM
  have HI := Lib.hid (HI0.out.alloc (.map #[] 0))
  have HJ := Lib.hid (HJ0.out.alloc (.map #[] 0))
  have HB := Lib.hid (HB0.out.alloc (by simp; omega) (.map #[] 0))
  clear HI0 HJ0 HB0 hs1 hs2
  have hci := HI.out.cell
  go_enter Tryd.func59, Tryd.ntmps59
  go_wp2_with (with_reducible show wpList _ _ _ (Oper.mk _ (Op.insert _ _ _ _) _ _ _ _ :: _) _ _
               refine wpList_insert_new rfl _ _ _ _ rfl 3 118 (by kernel_rfl) (by kernel_rfl) (W.heap.size + 2) _ rfl HM.out _ _ rfl rfl (by simp) ?_
               intro w2 hm hg
               have HB2 := Lib.hid (below_grown_own HB.out hg (by omega))
               have HI2 := Lib.hid (HI.out.grown hg (by simp))
               have HJ2 := Lib.hid (HJ.out.grown hg (by simp))
               clear HB HI HJ HM hci hg
               have HB := HB2
               have HI := HI2
               have HJ := HJ2
               have HM := Lib.hid hm
               have hci := HI.out.cell
               clear HB2 HI2 HJ2 hm)
  go_ret
  exact ⟨rfl, HM.out, HI.out, HJ.out, HB.out⟩

set_option maxHeartbeats 2000000 in
set_option maxRecDepth 100000 in
theorem in_many {q b n c i j : Nat} {A : Option Addr} {xs : List Int} {r : Rq} {s : RS} {fv v : Value} {W0 W : World} (h : RqIs W0 q b A n c xs r s fv v W) (hq : q < W0.heap.size) (hty : 0 < W0.heap.size) (hr0 : r.cs = [])
    (hi : Blk W i 116 #[.pointer (some ⟨q, 0, none⟩)]) (hj : Blk W j 3 #[.int .i64 (n : Int)]) :
    Calls Tryd.prog 81 #[.pointer (some ⟨b, 0, none⟩), .pointer (some ⟨i, 0, none⟩), .pointer (some ⟨j, 0, none⟩)] W (RqQ W0 q b A n c xs { r with epoch := ((numP xs M40 s).1 : Int), cs := (cellsP xs (countP xs 16 (numP xs M40 s).2).1 ([], (countP xs 16 (numP xs M40 s).2).2)).1 } (cellsP xs (countP xs 16 (numP xs M40 s).2).1 ([], (countP xs 16 (numP xs M40 s).2).2)).2) := by
  have C := Lib.hid (in_multi h hq hty hr0)
  have hci := hi.cell
  have hcj := hj.cell
  clear h hr0 hi hj
  go_enter Tryd.func81, Tryd.ntmps81
  go_wp2_with fail
  go_at_call 82; (with_reducible refine C.out.mono ?_); rintro e w1 ⟨rfl, hx⟩
  have HX := Lib.hid hx
  clear hx
  go_wp2
  go_end0
  exact ⟨rfl, HX.out⟩
end Go.Proofs.YteffpfgdoganpaaDoor
