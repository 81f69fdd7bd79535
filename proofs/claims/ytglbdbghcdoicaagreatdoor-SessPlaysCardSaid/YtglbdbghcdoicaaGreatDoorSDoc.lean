/- The document's session: New, Feed, Next. -/
import Derived.Test.YtglbdbghcdoicaaGreatDoorSNext
import Derived.Test.YtglbdbghcdoicaaGreatDoorSDo
namespace Go.Proofs.YtglbdbghcdoicaaGreatDoor
open Go.RowKit

/-- The document's session at r. -/
structure RxG (W : World) (S : Nat → Prop) (r B : Nat) (most : Int) (v : Value) (bs : List Int) (st : Ses) (K : Nat) : Prop where
  blk : Blk W r 91 #[.int .i64 most, v, .int .i64 (st.n : Int), .int .i64 (fcode st.bad), .int .i64 (fplace st.bad)]
  own : W.ownsRow B 5 1 v bs.length (bvs bs)
  eq : st.bad = none → bs = st.bs
  f0 : ∀ f, st.bad = some f → (f.1 == 0) = false
  le : bs.length ≤ K
  ne : v.ownBlock ≠ some r
  rS : S r
  vS : ∀ k, v.ownBlock = some k → S k
  lt : ∀ k, S k → k < W.heap.size
  wf : ∀ x ∈ st.bs, (Lit.int .u8 x).wf = true
def Rx (W : World) (S : Nat → Prop) (r : Nat) (most : Int) (st : Ses) (K : Nat) : Prop := ∃ B v bs, RxG W S r B most v bs st K
section
variable {W W' : World} {S T : Nat → Prop} {r B K : Nat} {most : Int} {v : Value} {st : Ses} {bs : List Int}
theorem RxG.turn (h : RxG W S r B most v bs st K) (ht : Tur T W W') (hd : ∀ k, T k → ¬ S k) : RxG W' S r B most v bs st K :=
  ⟨h.blk.tur ht (fun h2 => hd _ h2 h.rS), ownsRow_tur h.own ht (fun k hk h2 => hd _ h2 (h.vS k hk)), h.eq, h.f0, h.le, h.ne, h.rS, h.vS, fun k hk => Nat.lt_of_lt_of_le (h.lt k hk) ht.size, h.wf⟩
theorem Rx.turn (h : Rx W S r most st K) (ht : Tur T W W') (hd : ∀ k, T k → ¬ S k) : Rx W' S r most st K := by
  obtain ⟨B, v, bs, h⟩ := h
  exact ⟨B, v, bs, h.turn ht hd⟩
theorem Rx.kept (h : Rx W S r most st K) (hb : Below W.heap.size W W') : Rx W' S r most st K := h.turn (Tur.of_below (S := fun _ => False) hb) (fun _ h => h.elim)
theorem Rx.cells (h : Rx W S r most st K) : W.cell? ⟨r, 2, none⟩ = some (.int .i64 (st.n : Int)) ∧ W.cell? ⟨r, 4, none⟩ = some (.int .i64 (fplace st.bad)) := by
  obtain ⟨B, v, bs, h⟩ := h
  exact ⟨h.blk.cell 2, h.blk.cell 4⟩
theorem Rx.lt (h : Rx W S r most st K) : ∀ k, S k → k < W.heap.size := by
  obtain ⟨B, v, bs, h⟩ := h
  exact h.lt
theorem Rx.at_ (h : Rx W S r most st K) : S r := by
  obtain ⟨B, v, bs, h⟩ := h
  exact h.rS
end
set_option maxRecDepth 100000 in
theorem r_new_no (most : Int) (W : World) (h : most < 16 ∨ 65536 < most) :
    Calls Tryz.prog 10 #[.int .i64 most] W fun e w' => e = .returned (.tuple #[.pointer none, .int .i64 1]) ∧ W = w' := by
  rcases h with h | h
  · go_enter Tryz.func10, Tryz.ntmps10
    go_wp2
    go_ret2
    exact ⟨rfl, rfl⟩
  · have h1 : decide (most < 16) = false := by simp; omega
    go_enter Tryz.func10, Tryz.ntmps10
    go_wp2
    go_ret2
    exact ⟨rfl, rfl⟩
set_option maxRecDepth 100000 in
theorem r_new_yes (most : Int) (W : World) (h1 : 16 ≤ most) (h2 : most ≤ 65536) :
    Calls Tryz.prog 10 #[.int .i64 most] W fun e w' => ∃ r S, e = .returned (.tuple #[.pointer (some ⟨r, 0, none⟩), .int .i64 0]) ∧ Rx w' S r most ses0 0 ∧ (∀ k, S k → W.heap.size ≤ k) ∧ Below W.heap.size W w' := by
  go_enter Tryz.func10, Tryz.ntmps10
  go_wp2
  go_ret2
  refine ⟨W.heap.size, fun k => k = W.heap.size, rfl, ⟨0, .slice none 0 0, [], Blk.new _ _ _, World.ownsRow_nil _ _ _ _, fun _ => rfl, (fun f hf => by cases hf), Nat.le_refl _, by simp [Value.ownBlock], rfl, (fun k hk => by cases hk), fun k hk => by subst hk; simp, (fun x hx => by cases hx)⟩, fun k hk => by subst hk; exact Nat.le_refl _, (Below.refl _ _).alloc (Nat.le_refl _) _⟩
theorem sFeed_bad (st : Ses) (xs : List Int) : (sFeed st xs).bad = st.bad := rfl
set_option maxRecDepth 100000 in
theorem r_feed (A : Option Addr) (n c : Nat) (xs : List Int) (S : Nat → Prop) (r : Nat) (most : Int) (st : Ses) (K : Nat) (W : World) (h : Rx W S r most st K) (hl : xs.length = n) (hx : CellsAt W A (bvs xs)) (hA : A = none → c = 0) (hwf : ∀ x ∈ xs, (Lit.int .u8 x).wf = true) (hn : K + n ≤ 140737488355328) :
    Calls Tryz.prog 13 #[.pointer (some ⟨r, 0, none⟩), .slice A n c] W fun e w' => e = .returned (.tuple #[]) ∧ ∃ S', Rx w' S' r most (sFeed st xs) (K + n) ∧ (∀ k, S' k → S k ∨ W.heap.size ≤ k) ∧ Tur S W w' ∧ KeepE W w' := by
  obtain ⟨B, v, bs, h⟩ := h
  obtain ⟨A1, c1, rfl, _, _, _⟩ := owned_form h.own
  have H := Lib.hid h
  have HX := Lib.hid hx
  have HL := Lib.hid hl
  have HA := Lib.hid hA
  have HN := Lib.hid hn
  have HW := Lib.hid hwf
  have p1 : W.cell? ⟨r, 1, none⟩ = some (.slice A1 bs.length c1) := h.blk.cell 1
  have HO0 := Lib.hid (show W.ownsRow 0 5 1 (.slice A1 bs.length c1) bs.length (bvs bs) from own_dn h.own (Tur.refl (fun _ => False) W) (fun _ h => h.elim) (Nat.zero_le _))
  generalize hm : bs.length = m at *
  have HM := Lib.hid hm
  clear h hl hx hA hn hwf hm
  go_enter Tryz.func13, Tryz.ntmps13
  go_wp2_with (at_builtin; refine wpList_append_bytes rfl _ _ rfl 0 _ m bs rfl HO0.out A n c HA.out xs rfl HL.out HX.out (by have := HN.out; have := H.out.le; have := HM.out; omega) (Nat.zero_le _) ?_
               intro v' w2 hown hg hv
               obtain ⟨A', c', rfl, _, _, _⟩ := owned_form hown
               have hb2 := H.out.blk.grown hg (fun e => H.out.ne e.symm)
               have q1 : w2.cell? ⟨r, 1, none⟩ = some (.slice A1 m c1) := hb2.cell 1
               have q2 : w2.frozen? ⟨r, 1, none⟩ = false := hb2.frozen 1
               have HB2 := Lib.hid hb2
               have HG := Lib.hid hg
               have HV := Lib.hid hv
               have HOW := Lib.hid hown
               clear hown hg hv hb2)
  go_end0
  have hne : (Value.slice A' (m + n) c').ownBlock ≠ some r := by
    rcases HV.out with e | e
    · rw [e]; exact H.out.ne
    · rw [e]; intro h'; cases h'; exact absurd H.out.blk.lt (by omega)
  have hT : Tur S W (w2.setCell ⟨r, 1, none⟩ (.slice A' (m + n) c')) := (Tur.of_grown (S := S) HG.out (fun k e => H.out.vS k e)).setCell (p := ⟨r, 1, none⟩) (.inl H.out.rS) _
  have hsz : (w2.setCell ⟨r, 1, none⟩ (.slice A' (m + n) c')).heap.size = w2.heap.size := by simp [World.setCell]
  have hlen : (bs ++ xs).length = m + n := by rw [List.length_append, HM.out, HL.out]
  refine ⟨rfl, fun k => S k ∨ (Value.slice A' (m + n) c').ownBlock = some k, ⟨0, .slice A' (m + n) c', bs ++ xs, HB2.out.set_ 1 _, ?_, fun hb => ?_, H.out.f0, ?_, hne, .inl H.out.rS, fun k hk => .inr hk, ?_, ?_⟩, ?_, hT, ?_⟩
  · rw [hlen, bvs_append]
    exact ownsRow_setCell_other HOW.out hne _
  · show bs ++ xs = st.bs ++ xs
    rw [H.out.eq hb]
  · have := H.out.le; have := HM.out; omega
  · intro k hk
    rcases hk with hk | hk
    · exact Nat.lt_of_lt_of_le (H.out.lt k hk) hT.size
    · rw [hsz]; exact (HOW.out.lt k hk).2
  · intro x hx
    rcases List.mem_append.1 hx with hx | hx
    · exact H.out.wf x hx
    · exact HW.out x hx
  · intro k hk
    rcases hk with hk | hk
    · exact .inl hk
    · rcases HV.out with e | e
      · exact .inl (H.out.vS k (e ▸ hk))
      · rw [e] at hk; cases hk; exact .inr (Nat.le_refl _)
  · have hT2 : Tur (fun k => k = r ∨ (Value.slice A1 m c1).ownBlock = some k) W (w2.setCell ⟨r, 1, none⟩ (.slice A' (m + n) c')) := (Tur.of_grown HG.out (fun k e => .inr e)).setCell (p := ⟨r, 1, none⟩) (.inl (.inl rfl)) _
    refine KeepE.tur hT2 (fun k hs => .inr ?_)
    rcases hs with rfl | hs
    · exact ⟨_, _, H.out.blk, by decide⟩
    · obtain ⟨cur, hb⟩ := own_blk H.out.own k hs
      exact ⟨_, _, hb, by decide⟩
/-- What the document's Next leaves. -/
def RxQ (W : World) (S : Nat → Prop) (r : Nat) (most : Int) (st : Ses) (K : Nat) (e : Ending) (w' : World) : Prop :=
  ∃ S' A c, e = .returned (.tuple #[.agg (rqC (.slice A ((sNext most st).1.getD rq0).cs.length c) ((sNext most st).1.getD rq0)), .bool (sNext most st).1.isSome, .int .i64 (fcode (sNext most st).2.bad)]) ∧ Rx w' S' r most (sNext most st).2 K ∧ (∀ k, S' k → S k ∨ W.heap.size ≤ k) ∧ Tur S W w' ∧ KeepE W w' ∧ CellsOwn w' W.heap.size (.slice A ((sNext most st).1.getD rq0).cs.length c) ((sNext most st).1.getD rq0).cs
theorem RxQ.none_ {W w' : World} {S S' : Nat → Prop} {r : Nat} {most : Int} {st st' : Ses} {K : Nat} {x : Int} (h : sNext most st = (none, st')) (hx : Rx w' S' r most st' K) (hS : ∀ k, S' k → S k ∨ W.heap.size ≤ k) (ht : Tur S W w') (hk : KeepE W w') (hf : x = fcode st'.bad) :
    RxQ W S r most st K (.returned (.tuple #[.agg (rqC nilS rq0), .bool false, .int .i64 x])) w' := by
  subst hf
  unfold RxQ
  rw [h]
  exact ⟨S', none, 0, rfl, hx, hS, ht, hk, World.ownsRow_nil _ _ _ _⟩
theorem ne_zero_of {f : Int × Int} (h : (f.1 == 0) = false) : ¬ f.1 = 0 := by simpa using h
set_option maxHeartbeats 8000000 in
set_option maxRecDepth 100000 in
theorem rx_broken {W : World} {S : Nat → Prop} {r B : Nat} {most : Int} {v : Value} {bs : List Int} {st : Ses} {K : Nat} {f : Int × Int} (h : RxG W S r B most v bs st K) (hb : st.bad = some f) :
    Calls Tryz.prog 41 #[.pointer (some ⟨r, 0, none⟩)] W (RxQ W S r most st K) := by
  have H := Lib.hid h
  have hlt := h.blk.lt
  have HBD := Lib.hid hb
  have HB1 := Lib.hid (((Below.refl W.heap.size W).alloc (Nat.le_refl _) (.cells #[.int .i64 0, .int .i64 0, .int .i64 0, .slice none 0 0, .int .i64 0, .string ⟨#[]⟩, .int .i64 0, .int .i64 0, .string ⟨#[]⟩, .int .i64 0, .int .i64 0] 43)).alloc (by simp) (.cells #[.int .i64 0, .int .i64 0, .int .i64 0, .slice none 0 0, .int .i64 0, .string ⟨#[]⟩, .int .i64 0, .int .i64 0, .string ⟨#[]⟩, .int .i64 0, .int .i64 0] 43))
  have hblk := h.blk
  rw [hb] at hblk
  obtain ⟨fe, fp⟩ := f
  have p3 : ((W.alloc (.cells #[.int .i64 0, .int .i64 0, .int .i64 0, .slice none 0 0, .int .i64 0, .string ⟨#[]⟩, .int .i64 0, .int .i64 0, .string ⟨#[]⟩, .int .i64 0, .int .i64 0] 43)).alloc (.cells #[.int .i64 0, .int .i64 0, .int .i64 0, .slice none 0 0, .int .i64 0, .string ⟨#[]⟩, .int .i64 0, .int .i64 0, .string ⟨#[]⟩, .int .i64 0, .int .i64 0] 43)).cell? ⟨r, 3, none⟩ = some (.int .i64 fe) := ((hblk.alloc (.cells #[.int .i64 0, .int .i64 0, .int .i64 0, .slice none 0 0, .int .i64 0, .string ⟨#[]⟩, .int .i64 0, .int .i64 0, .string ⟨#[]⟩, .int .i64 0, .int .i64 0] 43)).alloc (.cells #[.int .i64 0, .int .i64 0, .int .i64 0, .slice none 0 0, .int .i64 0, .string ⟨#[]⟩, .int .i64 0, .int .i64 0, .string ⟨#[]⟩, .int .i64 0, .int .i64 0] 43)).cell 3
  have hf0 : (fe == 0) = false := h.f0 _ hb
  have hc7 := (((Blk.new W 43 #[.int .i64 0, .int .i64 0, .int .i64 0, .slice none 0 0, .int .i64 0, .string ⟨#[]⟩, .int .i64 0, .int .i64 0, .string ⟨#[]⟩, .int .i64 0, .int .i64 0]).alloc (.cells #[.int .i64 0, .int .i64 0, .int .i64 0, .slice none 0 0, .int .i64 0, .string ⟨#[]⟩, .int .i64 0, .int .i64 0, .string ⟨#[]⟩, .int .i64 0, .int .i64 0] 43))).cell
  have hc8 := (blk_last (W := W.alloc (.cells #[.int .i64 0, .int .i64 0, .int .i64 0, .slice none 0 0, .int .i64 0, .string ⟨#[]⟩, .int .i64 0, .int .i64 0, .string ⟨#[]⟩, .int .i64 0, .int .i64 0] 43)) (t := 43) (cs := #[.int .i64 0, .int .i64 0, .int .i64 0, .slice none 0 0, .int .i64 0, .string ⟨#[]⟩, .int .i64 0, .int .i64 0, .string ⟨#[]⟩, .int .i64 0, .int .i64 0]) (n := W.heap.size + 1) (by simp)).cell
  clear h hb hblk
  go_enter Tryz.func41, Tryz.ntmps41
  go_wp2_with fail
  go_region
  all_goals (try go_wp2_with fail)
  have HT9 := Lib.hid (show Below W.heap.size W ((W.alloc (.cells #[.int .i64 0, .int .i64 0, .int .i64 0, .slice none 0 0, .int .i64 0, .string ⟨#[]⟩, .int .i64 0, .int .i64 0, .string ⟨#[]⟩, .int .i64 0, .int .i64 0] 43)).alloc (.cells #[.int .i64 0, .int .i64 0, .int .i64 0, .slice none 0 0, .int .i64 0, .string ⟨#[]⟩, .int .i64 0, .int .i64 0, .string ⟨#[]⟩, .int .i64 0, .int .i64 0] 43)).drew from HB1.out.drew)
  generalize ((W.alloc (.cells #[.int .i64 0, .int .i64 0, .int .i64 0, .slice none 0 0, .int .i64 0, .string ⟨#[]⟩, .int .i64 0, .int .i64 0, .string ⟨#[]⟩, .int .i64 0, .int .i64 0] 43)).alloc (.cells #[.int .i64 0, .int .i64 0, .int .i64 0, .slice none 0 0, .int .i64 0, .string ⟨#[]⟩, .int .i64 0, .int .i64 0, .string ⟨#[]⟩, .int .i64 0, .int .i64 0] 43)) = w9 at hc7 HT9 ⊢
  refine bodyPost_ret (v := .tuple #[.agg (rqC nilS rq0), .bool false, .int .i64 fe]) (by simp [results, Tryz.results41, go_sem, hc7, rq0, cell0]) rfl ?_
  exact RxQ.none_ (sNext_broken HBD.out) (Rx.kept ⟨B, v, bs, H.out⟩ HT9.out) (fun k hk => .inl hk) (Tur.of_below HT9.out) (KeepE.below HT9.out) (by rw [HBD.out]; rfl)
set_option maxHeartbeats 8000000 in
set_option maxRecDepth 100000 in
theorem rx_short {W : World} {S : Nat → Prop} {r B : Nat} {most : Int} {v : Value} {bs : List Int} {st : Ses} {K : Nat} (h : RxG W S r B most v bs st K) (hb : st.bad = none) (hs : bs.length < 4) :
    Calls Tryz.prog 41 #[.pointer (some ⟨r, 0, none⟩)] W (RxQ W S r most st K) := by
  obtain ⟨A1, c1, rfl, _, _, _⟩ := owned_form h.own
  have H := Lib.hid h
  have hlt := h.blk.lt
  have HBD := Lib.hid hb
  have HSH := Lib.hid (nextP_short most st.bs (by rw [← h.eq hb]; exact hs))
  have HB1 := Lib.hid (((Below.refl W.heap.size W).alloc (Nat.le_refl _) (.cells #[.int .i64 0, .int .i64 0, .int .i64 0, .slice none 0 0, .int .i64 0, .string ⟨#[]⟩, .int .i64 0, .int .i64 0, .string ⟨#[]⟩, .int .i64 0, .int .i64 0] 43)).alloc (by simp) (.cells #[.int .i64 0, .int .i64 0, .int .i64 0, .slice none 0 0, .int .i64 0, .string ⟨#[]⟩, .int .i64 0, .int .i64 0, .string ⟨#[]⟩, .int .i64 0, .int .i64 0] 43))
  have hblk := h.blk
  rw [hb] at hblk
  have p3 : ((W.alloc (.cells #[.int .i64 0, .int .i64 0, .int .i64 0, .slice none 0 0, .int .i64 0, .string ⟨#[]⟩, .int .i64 0, .int .i64 0, .string ⟨#[]⟩, .int .i64 0, .int .i64 0] 43)).alloc (.cells #[.int .i64 0, .int .i64 0, .int .i64 0, .slice none 0 0, .int .i64 0, .string ⟨#[]⟩, .int .i64 0, .int .i64 0, .string ⟨#[]⟩, .int .i64 0, .int .i64 0] 43)).cell? ⟨r, 3, none⟩ = some (.int .i64 0) := ((hblk.alloc (.cells #[.int .i64 0, .int .i64 0, .int .i64 0, .slice none 0 0, .int .i64 0, .string ⟨#[]⟩, .int .i64 0, .int .i64 0, .string ⟨#[]⟩, .int .i64 0, .int .i64 0] 43)).alloc (.cells #[.int .i64 0, .int .i64 0, .int .i64 0, .slice none 0 0, .int .i64 0, .string ⟨#[]⟩, .int .i64 0, .int .i64 0, .string ⟨#[]⟩, .int .i64 0, .int .i64 0] 43)).cell 3
  have p1 : ((W.alloc (.cells #[.int .i64 0, .int .i64 0, .int .i64 0, .slice none 0 0, .int .i64 0, .string ⟨#[]⟩, .int .i64 0, .int .i64 0, .string ⟨#[]⟩, .int .i64 0, .int .i64 0] 43)).alloc (.cells #[.int .i64 0, .int .i64 0, .int .i64 0, .slice none 0 0, .int .i64 0, .string ⟨#[]⟩, .int .i64 0, .int .i64 0, .string ⟨#[]⟩, .int .i64 0, .int .i64 0] 43)).cell? ⟨r, 1, none⟩ = some (.slice A1 bs.length c1) := ((hblk.alloc (.cells #[.int .i64 0, .int .i64 0, .int .i64 0, .slice none 0 0, .int .i64 0, .string ⟨#[]⟩, .int .i64 0, .int .i64 0, .string ⟨#[]⟩, .int .i64 0, .int .i64 0] 43)).alloc (.cells #[.int .i64 0, .int .i64 0, .int .i64 0, .slice none 0 0, .int .i64 0, .string ⟨#[]⟩, .int .i64 0, .int .i64 0, .string ⟨#[]⟩, .int .i64 0, .int .i64 0] 43)).cell 1
  have hc7 := (((Blk.new W 43 #[.int .i64 0, .int .i64 0, .int .i64 0, .slice none 0 0, .int .i64 0, .string ⟨#[]⟩, .int .i64 0, .int .i64 0, .string ⟨#[]⟩, .int .i64 0, .int .i64 0]).alloc (.cells #[.int .i64 0, .int .i64 0, .int .i64 0, .slice none 0 0, .int .i64 0, .string ⟨#[]⟩, .int .i64 0, .int .i64 0, .string ⟨#[]⟩, .int .i64 0, .int .i64 0] 43))).cell
  have hc8 := (blk_last (W := W.alloc (.cells #[.int .i64 0, .int .i64 0, .int .i64 0, .slice none 0 0, .int .i64 0, .string ⟨#[]⟩, .int .i64 0, .int .i64 0, .string ⟨#[]⟩, .int .i64 0, .int .i64 0] 43)) (t := 43) (cs := #[.int .i64 0, .int .i64 0, .int .i64 0, .slice none 0 0, .int .i64 0, .string ⟨#[]⟩, .int .i64 0, .int .i64 0, .string ⟨#[]⟩, .int .i64 0, .int .i64 0]) (n := W.heap.size + 1) (by simp)).cell
  generalize bs.length = m at *
  clear h hb hblk
  go_enter Tryz.func41, Tryz.ntmps41
  go_wp2_with fail
  have HT9 := Lib.hid (show Below W.heap.size W ((W.alloc (.cells #[.int .i64 0, .int .i64 0, .int .i64 0, .slice none 0 0, .int .i64 0, .string ⟨#[]⟩, .int .i64 0, .int .i64 0, .string ⟨#[]⟩, .int .i64 0, .int .i64 0] 43)).alloc (.cells #[.int .i64 0, .int .i64 0, .int .i64 0, .slice none 0 0, .int .i64 0, .string ⟨#[]⟩, .int .i64 0, .int .i64 0, .string ⟨#[]⟩, .int .i64 0, .int .i64 0] 43)) from HB1.out)
  generalize ((W.alloc (.cells #[.int .i64 0, .int .i64 0, .int .i64 0, .slice none 0 0, .int .i64 0, .string ⟨#[]⟩, .int .i64 0, .int .i64 0, .string ⟨#[]⟩, .int .i64 0, .int .i64 0] 43)).alloc (.cells #[.int .i64 0, .int .i64 0, .int .i64 0, .slice none 0 0, .int .i64 0, .string ⟨#[]⟩, .int .i64 0, .int .i64 0, .string ⟨#[]⟩, .int .i64 0, .int .i64 0] 43)) = w9 at hc7 HT9 ⊢
  refine bodyPost_ret (v := .tuple #[.agg (rqC nilS rq0), .bool false, .int .i64 0]) (by simp [results, Tryz.results41, go_sem, hc7, rq0, cell0]) rfl ?_
  exact RxQ.none_ (sNext_wait HBD.out HSH.out) (Rx.kept ⟨B, _, bs, H.out⟩ HT9.out) (fun k hk => .inl hk) (Tur.of_below HT9.out) (KeepE.below HT9.out) (by rw [HBD.out]; rfl)
set_option maxHeartbeats 8000000 in
set_option maxRecDepth 100000 in
theorem rx_bad {W : World} {S : Nat → Prop} {r B : Nat} {most : Int} {v : Value} {bs : List Int} {st : Ses} {K : Nat} {b0 b1 b2 b3 : Nat} {rest : List Int} (k0 : b0 < 256) (k1 : b1 < 256) (k2 : b2 < 256) (k3 : b3 < 256) (h : RxG W S r B most v bs st K) (hb : st.bad = none) (hbs : bs = (b0 : Int) :: b1 :: b2 :: b3 :: rest) (ho : be4 b0 b1 b2 b3 < 1 ∨ most < (be4 b0 b1 b2 b3 : Int)) :
    Calls Tryz.prog 41 #[.pointer (some ⟨r, 0, none⟩)] W (RxQ W S r most st K) := by
  have HO := Lib.hid (show nextP most st.bs = .bad from by
    rw [← h.eq hb, hbs, nextP_cons]
    simp only [Int.toNat_natCast]
    rw [if_pos ho])
  obtain ⟨A1, c1, hv1, hr1, hcap1⟩ := row_of_own h.own
  subst hv1
  obtain ⟨m, hm⟩ : ∃ m, m = bs.length := ⟨_, rfl⟩
  rw [← hm] at hr1 hcap1
  have h4 : 4 ≤ m := by rw [hm, hbs]; simp
  rcases hr1 with ⟨_, h0, _⟩ | ⟨g, cur, hA1, _, hg, _, _, ht⟩
  · omega
  subst hA1
  have H := Lib.hid h
  have hlt := h.blk.lt
  have HBD := Lib.hid hb
  have HBS := Lib.hid hbs
  have HE := Lib.hid (h.eq hb)
  have hblk := h.blk
  rw [hb, ← hm] at hblk
  have HB1 := Lib.hid (((Below.refl W.heap.size W).alloc (Nat.le_refl _) (.cells #[.int .i64 0, .int .i64 0, .int .i64 0, .slice none 0 0, .int .i64 0, .string ⟨#[]⟩, .int .i64 0, .int .i64 0, .string ⟨#[]⟩, .int .i64 0, .int .i64 0] 43)).alloc (by simp) (.cells #[.int .i64 0, .int .i64 0, .int .i64 0, .slice none 0 0, .int .i64 0, .string ⟨#[]⟩, .int .i64 0, .int .i64 0, .string ⟨#[]⟩, .int .i64 0, .int .i64 0] 43))
  have HS1 := Lib.hid ((hblk.alloc (.cells #[.int .i64 0, .int .i64 0, .int .i64 0, .slice none 0 0, .int .i64 0, .string ⟨#[]⟩, .int .i64 0, .int .i64 0, .string ⟨#[]⟩, .int .i64 0, .int .i64 0] 43)).alloc (.cells #[.int .i64 0, .int .i64 0, .int .i64 0, .slice none 0 0, .int .i64 0, .string ⟨#[]⟩, .int .i64 0, .int .i64 0, .string ⟨#[]⟩, .int .i64 0, .int .i64 0] 43))
  have HR1 := Lib.hid ((Blk.new W 43 #[.int .i64 0, .int .i64 0, .int .i64 0, .slice none 0 0, .int .i64 0, .string ⟨#[]⟩, .int .i64 0, .int .i64 0, .string ⟨#[]⟩, .int .i64 0, .int .i64 0]).alloc (.cells #[.int .i64 0, .int .i64 0, .int .i64 0, .slice none 0 0, .int .i64 0, .string ⟨#[]⟩, .int .i64 0, .int .i64 0, .string ⟨#[]⟩, .int .i64 0, .int .i64 0] 43))
  have HZ1 := Lib.hid (blk_last (W := W.alloc (.cells #[.int .i64 0, .int .i64 0, .int .i64 0, .slice none 0 0, .int .i64 0, .string ⟨#[]⟩, .int .i64 0, .int .i64 0, .string ⟨#[]⟩, .int .i64 0, .int .i64 0] 43)) (t := 43) (cs := #[.int .i64 0, .int .i64 0, .int .i64 0, .slice none 0 0, .int .i64 0, .string ⟨#[]⟩, .int .i64 0, .int .i64 0, .string ⟨#[]⟩, .int .i64 0, .int .i64 0]) (n := W.heap.size + 1) (by simp))
  have HG1 := Lib.hid ((hg.alloc (.cells #[.int .i64 0, .int .i64 0, .int .i64 0, .slice none 0 0, .int .i64 0, .string ⟨#[]⟩, .int .i64 0, .int .i64 0, .string ⟨#[]⟩, .int .i64 0, .int .i64 0] 43)).alloc (.cells #[.int .i64 0, .int .i64 0, .int .i64 0, .slice none 0 0, .int .i64 0, .string ⟨#[]⟩, .int .i64 0, .int .i64 0, .string ⟨#[]⟩, .int .i64 0, .int .i64 0] 43))
  have HTK := Lib.hid ht
  have HM := Lib.hid hm
  have hgl := hg.lt
  have HGR := Lib.hid (show ¬ g = r from fun e => h.ne (by rw [e]; rfl))
  have p3 : ((W.alloc (.cells #[.int .i64 0, .int .i64 0, .int .i64 0, .slice none 0 0, .int .i64 0, .string ⟨#[]⟩, .int .i64 0, .int .i64 0, .string ⟨#[]⟩, .int .i64 0, .int .i64 0] 43)).alloc (.cells #[.int .i64 0, .int .i64 0, .int .i64 0, .slice none 0 0, .int .i64 0, .string ⟨#[]⟩, .int .i64 0, .int .i64 0, .string ⟨#[]⟩, .int .i64 0, .int .i64 0] 43)).cell? ⟨r, 3, none⟩ = some (.int .i64 0) := HS1.out.cell 3
  have p1 : ((W.alloc (.cells #[.int .i64 0, .int .i64 0, .int .i64 0, .slice none 0 0, .int .i64 0, .string ⟨#[]⟩, .int .i64 0, .int .i64 0, .string ⟨#[]⟩, .int .i64 0, .int .i64 0] 43)).alloc (.cells #[.int .i64 0, .int .i64 0, .int .i64 0, .slice none 0 0, .int .i64 0, .string ⟨#[]⟩, .int .i64 0, .int .i64 0, .string ⟨#[]⟩, .int .i64 0, .int .i64 0] 43)).cell? ⟨r, 1, none⟩ = some (.slice (some ⟨g, 0, none⟩) m c1) := HS1.out.cell 1
  have p0 : ((W.alloc (.cells #[.int .i64 0, .int .i64 0, .int .i64 0, .slice none 0 0, .int .i64 0, .string ⟨#[]⟩, .int .i64 0, .int .i64 0, .string ⟨#[]⟩, .int .i64 0, .int .i64 0] 43)).alloc (.cells #[.int .i64 0, .int .i64 0, .int .i64 0, .slice none 0 0, .int .i64 0, .string ⟨#[]⟩, .int .i64 0, .int .i64 0, .string ⟨#[]⟩, .int .i64 0, .int .i64 0] 43)).cell? ⟨r, 0, none⟩ = some (.int .i64 most) := HS1.out.cell 0
  rw [hbs] at ht
  have g0 : ((W.alloc (.cells #[.int .i64 0, .int .i64 0, .int .i64 0, .slice none 0 0, .int .i64 0, .string ⟨#[]⟩, .int .i64 0, .int .i64 0, .string ⟨#[]⟩, .int .i64 0, .int .i64 0] 43)).alloc (.cells #[.int .i64 0, .int .i64 0, .int .i64 0, .slice none 0 0, .int .i64 0, .string ⟨#[]⟩, .int .i64 0, .int .i64 0, .string ⟨#[]⟩, .int .i64 0, .int .i64 0] 43)).cell? ⟨g, 0, none⟩ = some (.int .u8 (b0 : Int)) := cell_take HG1.out ht 0 (by simp [bvs])
  have g1 : ((W.alloc (.cells #[.int .i64 0, .int .i64 0, .int .i64 0, .slice none 0 0, .int .i64 0, .string ⟨#[]⟩, .int .i64 0, .int .i64 0, .string ⟨#[]⟩, .int .i64 0, .int .i64 0] 43)).alloc (.cells #[.int .i64 0, .int .i64 0, .int .i64 0, .slice none 0 0, .int .i64 0, .string ⟨#[]⟩, .int .i64 0, .int .i64 0, .string ⟨#[]⟩, .int .i64 0, .int .i64 0] 43)).cell? ⟨g, 1, none⟩ = some (.int .u8 (b1 : Int)) := cell_take HG1.out ht 1 (by simp [bvs])
  have g2 : ((W.alloc (.cells #[.int .i64 0, .int .i64 0, .int .i64 0, .slice none 0 0, .int .i64 0, .string ⟨#[]⟩, .int .i64 0, .int .i64 0, .string ⟨#[]⟩, .int .i64 0, .int .i64 0] 43)).alloc (.cells #[.int .i64 0, .int .i64 0, .int .i64 0, .slice none 0 0, .int .i64 0, .string ⟨#[]⟩, .int .i64 0, .int .i64 0, .string ⟨#[]⟩, .int .i64 0, .int .i64 0] 43)).cell? ⟨g, 2, none⟩ = some (.int .u8 (b2 : Int)) := cell_take HG1.out ht 2 (by simp [bvs])
  have g3 : ((W.alloc (.cells #[.int .i64 0, .int .i64 0, .int .i64 0, .slice none 0 0, .int .i64 0, .string ⟨#[]⟩, .int .i64 0, .int .i64 0, .string ⟨#[]⟩, .int .i64 0, .int .i64 0] 43)).alloc (.cells #[.int .i64 0, .int .i64 0, .int .i64 0, .slice none 0 0, .int .i64 0, .string ⟨#[]⟩, .int .i64 0, .int .i64 0, .string ⟨#[]⟩, .int .i64 0, .int .i64 0] 43)).cell? ⟨g, 3, none⟩ = some (.int .u8 (b3 : Int)) := cell_take HG1.out ht 3 (by simp [bvs])
  have HC := Lib.hid hcap1
  clear h hb hblk hg ht hbs hm hcap1
  go_enter Tryz.func41, Tryz.ntmps41
  go_wp2_with fail
  generalize ((W.alloc (.cells #[.int .i64 0, .int .i64 0, .int .i64 0, .slice none 0 0, .int .i64 0, .string ⟨#[]⟩, .int .i64 0, .int .i64 0, .string ⟨#[]⟩, .int .i64 0, .int .i64 0] 43)).alloc (.cells #[.int .i64 0, .int .i64 0, .int .i64 0, .slice none 0 0, .int .i64 0, .string ⟨#[]⟩, .int .i64 0, .int .i64 0, .string ⟨#[]⟩, .int .i64 0, .int .i64 0] 43)) = w1 at HB1 HS1 HR1 HZ1 HG1 p0 p1 p3 g0 g1 g2 g3 ⊢
  refine wp_loop_rounds 5 ?_
  rw [rounds_succ]
  go_wp2_with fail
  rw [rounds_succ]
  go_wp2_with fail
  rw [rounds_succ]
  go_wp2_with fail
  rw [rounds_succ]
  go_wp2_with fail
  obtain ⟨N, hN⟩ : ∃ N : Nat, N = be4 b0 b1 b2 b3 := ⟨_, rfl⟩
  have e4 : 256 * (256 * (256 * (b0 : Int) + (b1 : Int)) + (b2 : Int)) + (b3 : Int) = (N : Int) := by rw [hN]; unfold be4; omega
  rw [e4]
  have hN9 : N ≤ 4294967295 := by rw [hN]; unfold be4; omega
  clear e4 g0 g1 g2 g3
  rw [← hN] at ho
  clear hN
  have hfr := HS1.out.frozen 3
  by_cases hN1 : N < 1
  · have d1 : decide ((N : Int) < 1) = true := by simp; omega
    clear ho hN1
    rw [rounds_succ]
    have HS2 := Lib.hid (HS1.out.set_ 3 (.int .i64 14))
    have HR2 := Lib.hid (HR1.out.far (p := ⟨r, 3, none⟩) (show W.heap.size ≠ r by omega) (.int .i64 14))
    have HZ2 := Lib.hid (HZ1.out.far (p := ⟨r, 3, none⟩) (show W.heap.size + 1 ≠ r by omega) (.int .i64 14))
    have hT2 := (Tur.of_below (S := (· = r)) HB1.out).setCell (p := ⟨r, 3, none⟩) (.inl rfl) (.int .i64 14)
    have HT2 := Lib.hid hT2
    have hcR := HR2.out.cell
    have hfR := HR2.out.frozen
    have hcZ := HZ2.out.cell
    have HS := Lib.hid (set11 HR2.out (.int .i64 0) (.int .i64 0) (.int .i64 0) (.slice none 0 0) (.int .i64 0) (.string ⟨#[]⟩) (.int .i64 0) (.int .i64 0) (.string ⟨#[]⟩) (.int .i64 0) (.int .i64 0))
    clear hT2
    go_wp2_with fail
    generalize (World.setCell (World.setCell (World.setCell (World.setCell (World.setCell (World.setCell (World.setCell (World.setCell (World.setCell (World.setCell (World.setCell (World.setCell w1 ⟨r, 3, none⟩ (.int .i64 14)) ⟨W.heap.size, 0, none⟩ (.int .i64 0)) ⟨W.heap.size, 1, none⟩ (.int .i64 0)) ⟨W.heap.size, 2, none⟩ (.int .i64 0)) ⟨W.heap.size, 3, none⟩ (.slice none 0 0)) ⟨W.heap.size, 4, none⟩ (.int .i64 0)) ⟨W.heap.size, 5, none⟩ (.string ⟨#[]⟩)) ⟨W.heap.size, 6, none⟩ (.int .i64 0)) ⟨W.heap.size, 7, none⟩ (.int .i64 0)) ⟨W.heap.size, 8, none⟩ (.string ⟨#[]⟩)) ⟨W.heap.size, 9, none⟩ (.int .i64 0)) ⟨W.heap.size, 10, none⟩ (.int .i64 0)) = w9 at HS ⊢
    have hc7 := HS.out.1.cell
    refine bodyPost_ret (v := .tuple #[.agg (rqC nilS rq0), .bool false, .int .i64 14]) (by simp [results, Tryz.results41, go_sem, hc7, rq0, cell0]) rfl ?_
    have HT9 := Lib.hid (show Tur (· = r) W w9 from HT2.out.trans HS.out.2 (fun k hk => .inr (by omega)))
    have HS9 := Lib.hid (HS2.out.tur HS.out.2 (show ¬ r = W.heap.size by omega))
    refine RxQ.none_ (S' := S) (sNext_bad HBD.out HO.out) ⟨B, .slice (some ⟨g, 0, none⟩) m c1, bs, HS9.out, ?_, (fun h => by cases h), (fun f hf => by cases hf; rfl), H.out.le, (fun e => HGR.out (by cases e; rfl)), H.out.rS, (fun k hk => H.out.vS k (by cases hk; rfl)), fun k hk => Nat.lt_of_lt_of_le (H.out.lt k hk) HT9.out.size, H.out.wf⟩ (fun k hk => .inl hk) (HT9.out.widen (fun k _ hk => by subst hk; exact H.out.rS)) (KeepE.tur HT9.out (fun k hk => by subst hk; exact .inr ⟨_, _, H.out.blk, by decide⟩)) rfl
    have := ownsRow_tur H.out.own HT9.out (fun k hk e => HGR.out (by subst e; cases hk; rfl))
    rw [HM.out]
    exact this
  · have d1 : decide ((N : Int) < 1) = false := by simp; omega
    have hm2 : most < (N : Int) := by omega
    have d2 : decide (most < (N : Int)) = true := by simpa using hm2
    clear ho hN1
    rw [rounds_succ]
    have HS2 := Lib.hid (HS1.out.set_ 3 (.int .i64 14))
    have HR2 := Lib.hid (HR1.out.far (p := ⟨r, 3, none⟩) (show W.heap.size ≠ r by omega) (.int .i64 14))
    have HZ2 := Lib.hid (HZ1.out.far (p := ⟨r, 3, none⟩) (show W.heap.size + 1 ≠ r by omega) (.int .i64 14))
    have hT2 := (Tur.of_below (S := (· = r)) HB1.out).setCell (p := ⟨r, 3, none⟩) (.inl rfl) (.int .i64 14)
    have HT2 := Lib.hid hT2
    have hcR := HR2.out.cell
    have hfR := HR2.out.frozen
    have hcZ := HZ2.out.cell
    have HS := Lib.hid (set11 HR2.out (.int .i64 0) (.int .i64 0) (.int .i64 0) (.slice none 0 0) (.int .i64 0) (.string ⟨#[]⟩) (.int .i64 0) (.int .i64 0) (.string ⟨#[]⟩) (.int .i64 0) (.int .i64 0))
    clear hT2
    go_wp2_with fail
    generalize (World.setCell (World.setCell (World.setCell (World.setCell (World.setCell (World.setCell (World.setCell (World.setCell (World.setCell (World.setCell (World.setCell (World.setCell w1 ⟨r, 3, none⟩ (.int .i64 14)) ⟨W.heap.size, 0, none⟩ (.int .i64 0)) ⟨W.heap.size, 1, none⟩ (.int .i64 0)) ⟨W.heap.size, 2, none⟩ (.int .i64 0)) ⟨W.heap.size, 3, none⟩ (.slice none 0 0)) ⟨W.heap.size, 4, none⟩ (.int .i64 0)) ⟨W.heap.size, 5, none⟩ (.string ⟨#[]⟩)) ⟨W.heap.size, 6, none⟩ (.int .i64 0)) ⟨W.heap.size, 7, none⟩ (.int .i64 0)) ⟨W.heap.size, 8, none⟩ (.string ⟨#[]⟩)) ⟨W.heap.size, 9, none⟩ (.int .i64 0)) ⟨W.heap.size, 10, none⟩ (.int .i64 0)) = w9 at HS ⊢
    have hc7 := HS.out.1.cell
    refine bodyPost_ret (v := .tuple #[.agg (rqC nilS rq0), .bool false, .int .i64 14]) (by simp [results, Tryz.results41, go_sem, hc7, rq0, cell0]) rfl ?_
    have HT9 := Lib.hid (show Tur (· = r) W w9 from HT2.out.trans HS.out.2 (fun k hk => .inr (by omega)))
    have HS9 := Lib.hid (HS2.out.tur HS.out.2 (show ¬ r = W.heap.size by omega))
    refine RxQ.none_ (S' := S) (sNext_bad HBD.out HO.out) ⟨B, .slice (some ⟨g, 0, none⟩) m c1, bs, HS9.out, ?_, (fun h => by cases h), (fun f hf => by cases hf; rfl), H.out.le, (fun e => HGR.out (by cases e; rfl)), H.out.rS, (fun k hk => H.out.vS k (by cases hk; rfl)), fun k hk => Nat.lt_of_lt_of_le (H.out.lt k hk) HT9.out.size, H.out.wf⟩ (fun k hk => .inl hk) (HT9.out.widen (fun k _ hk => by subst hk; exact H.out.rS)) (KeepE.tur HT9.out (fun k hk => by subst hk; exact .inr ⟨_, _, H.out.blk, by decide⟩)) rfl
    have := ownsRow_tur H.out.own HT9.out (fun k hk e => HGR.out (by subst e; cases hk; rfl))
    rw [HM.out]
    exact this
set_option maxHeartbeats 8000000 in
set_option maxRecDepth 100000 in
theorem rx_wait {W : World} {S : Nat → Prop} {r B : Nat} {most : Int} {v : Value} {bs : List Int} {st : Ses} {K : Nat} {b0 b1 b2 b3 : Nat} {rest : List Int} (k0 : b0 < 256) (k1 : b1 < 256) (k2 : b2 < 256) (k3 : b3 < 256) (h : RxG W S r B most v bs st K) (hb : st.bad = none) (hbs : bs = (b0 : Int) :: b1 :: b2 :: b3 :: rest) (ho : ¬ (be4 b0 b1 b2 b3 < 1 ∨ most < (be4 b0 b1 b2 b3 : Int))) (hw : rest.length < be4 b0 b1 b2 b3) :
    Calls Tryz.prog 41 #[.pointer (some ⟨r, 0, none⟩)] W (RxQ W S r most st K) := by
  have HO := Lib.hid (show nextP most st.bs = .wait from by
    rw [← h.eq hb, hbs, nextP_cons]
    simp only [Int.toNat_natCast]
    rw [if_neg ho, if_pos hw])
  have HRL := Lib.hid (show bs.length = 4 + rest.length by rw [hbs]; simp; omega)
  obtain ⟨A1, c1, hv1, hr1, hcap1⟩ := row_of_own h.own
  subst hv1
  obtain ⟨m, hm⟩ : ∃ m, m = bs.length := ⟨_, rfl⟩
  rw [← hm] at hr1 hcap1
  have h4 : 4 ≤ m := by rw [hm, hbs]; simp
  rcases hr1 with ⟨_, h0, _⟩ | ⟨g, cur, hA1, _, hg, _, _, ht⟩
  · omega
  subst hA1
  have H := Lib.hid h
  have hlt := h.blk.lt
  have HBD := Lib.hid hb
  have HBS := Lib.hid hbs
  have HE := Lib.hid (h.eq hb)
  have hblk := h.blk
  rw [hb, ← hm] at hblk
  have HB1 := Lib.hid (((Below.refl W.heap.size W).alloc (Nat.le_refl _) (.cells #[.int .i64 0, .int .i64 0, .int .i64 0, .slice none 0 0, .int .i64 0, .string ⟨#[]⟩, .int .i64 0, .int .i64 0, .string ⟨#[]⟩, .int .i64 0, .int .i64 0] 43)).alloc (by simp) (.cells #[.int .i64 0, .int .i64 0, .int .i64 0, .slice none 0 0, .int .i64 0, .string ⟨#[]⟩, .int .i64 0, .int .i64 0, .string ⟨#[]⟩, .int .i64 0, .int .i64 0] 43))
  have HS1 := Lib.hid ((hblk.alloc (.cells #[.int .i64 0, .int .i64 0, .int .i64 0, .slice none 0 0, .int .i64 0, .string ⟨#[]⟩, .int .i64 0, .int .i64 0, .string ⟨#[]⟩, .int .i64 0, .int .i64 0] 43)).alloc (.cells #[.int .i64 0, .int .i64 0, .int .i64 0, .slice none 0 0, .int .i64 0, .string ⟨#[]⟩, .int .i64 0, .int .i64 0, .string ⟨#[]⟩, .int .i64 0, .int .i64 0] 43))
  have HR1 := Lib.hid ((Blk.new W 43 #[.int .i64 0, .int .i64 0, .int .i64 0, .slice none 0 0, .int .i64 0, .string ⟨#[]⟩, .int .i64 0, .int .i64 0, .string ⟨#[]⟩, .int .i64 0, .int .i64 0]).alloc (.cells #[.int .i64 0, .int .i64 0, .int .i64 0, .slice none 0 0, .int .i64 0, .string ⟨#[]⟩, .int .i64 0, .int .i64 0, .string ⟨#[]⟩, .int .i64 0, .int .i64 0] 43))
  have HZ1 := Lib.hid (blk_last (W := W.alloc (.cells #[.int .i64 0, .int .i64 0, .int .i64 0, .slice none 0 0, .int .i64 0, .string ⟨#[]⟩, .int .i64 0, .int .i64 0, .string ⟨#[]⟩, .int .i64 0, .int .i64 0] 43)) (t := 43) (cs := #[.int .i64 0, .int .i64 0, .int .i64 0, .slice none 0 0, .int .i64 0, .string ⟨#[]⟩, .int .i64 0, .int .i64 0, .string ⟨#[]⟩, .int .i64 0, .int .i64 0]) (n := W.heap.size + 1) (by simp))
  have HG1 := Lib.hid ((hg.alloc (.cells #[.int .i64 0, .int .i64 0, .int .i64 0, .slice none 0 0, .int .i64 0, .string ⟨#[]⟩, .int .i64 0, .int .i64 0, .string ⟨#[]⟩, .int .i64 0, .int .i64 0] 43)).alloc (.cells #[.int .i64 0, .int .i64 0, .int .i64 0, .slice none 0 0, .int .i64 0, .string ⟨#[]⟩, .int .i64 0, .int .i64 0, .string ⟨#[]⟩, .int .i64 0, .int .i64 0] 43))
  have HTK := Lib.hid ht
  have HM := Lib.hid hm
  have hgl := hg.lt
  have HGR := Lib.hid (show ¬ g = r from fun e => h.ne (by rw [e]; rfl))
  have p3 : ((W.alloc (.cells #[.int .i64 0, .int .i64 0, .int .i64 0, .slice none 0 0, .int .i64 0, .string ⟨#[]⟩, .int .i64 0, .int .i64 0, .string ⟨#[]⟩, .int .i64 0, .int .i64 0] 43)).alloc (.cells #[.int .i64 0, .int .i64 0, .int .i64 0, .slice none 0 0, .int .i64 0, .string ⟨#[]⟩, .int .i64 0, .int .i64 0, .string ⟨#[]⟩, .int .i64 0, .int .i64 0] 43)).cell? ⟨r, 3, none⟩ = some (.int .i64 0) := HS1.out.cell 3
  have p1 : ((W.alloc (.cells #[.int .i64 0, .int .i64 0, .int .i64 0, .slice none 0 0, .int .i64 0, .string ⟨#[]⟩, .int .i64 0, .int .i64 0, .string ⟨#[]⟩, .int .i64 0, .int .i64 0] 43)).alloc (.cells #[.int .i64 0, .int .i64 0, .int .i64 0, .slice none 0 0, .int .i64 0, .string ⟨#[]⟩, .int .i64 0, .int .i64 0, .string ⟨#[]⟩, .int .i64 0, .int .i64 0] 43)).cell? ⟨r, 1, none⟩ = some (.slice (some ⟨g, 0, none⟩) m c1) := HS1.out.cell 1
  have p0 : ((W.alloc (.cells #[.int .i64 0, .int .i64 0, .int .i64 0, .slice none 0 0, .int .i64 0, .string ⟨#[]⟩, .int .i64 0, .int .i64 0, .string ⟨#[]⟩, .int .i64 0, .int .i64 0] 43)).alloc (.cells #[.int .i64 0, .int .i64 0, .int .i64 0, .slice none 0 0, .int .i64 0, .string ⟨#[]⟩, .int .i64 0, .int .i64 0, .string ⟨#[]⟩, .int .i64 0, .int .i64 0] 43)).cell? ⟨r, 0, none⟩ = some (.int .i64 most) := HS1.out.cell 0
  rw [hbs] at ht
  have g0 : ((W.alloc (.cells #[.int .i64 0, .int .i64 0, .int .i64 0, .slice none 0 0, .int .i64 0, .string ⟨#[]⟩, .int .i64 0, .int .i64 0, .string ⟨#[]⟩, .int .i64 0, .int .i64 0] 43)).alloc (.cells #[.int .i64 0, .int .i64 0, .int .i64 0, .slice none 0 0, .int .i64 0, .string ⟨#[]⟩, .int .i64 0, .int .i64 0, .string ⟨#[]⟩, .int .i64 0, .int .i64 0] 43)).cell? ⟨g, 0, none⟩ = some (.int .u8 (b0 : Int)) := cell_take HG1.out ht 0 (by simp [bvs])
  have g1 : ((W.alloc (.cells #[.int .i64 0, .int .i64 0, .int .i64 0, .slice none 0 0, .int .i64 0, .string ⟨#[]⟩, .int .i64 0, .int .i64 0, .string ⟨#[]⟩, .int .i64 0, .int .i64 0] 43)).alloc (.cells #[.int .i64 0, .int .i64 0, .int .i64 0, .slice none 0 0, .int .i64 0, .string ⟨#[]⟩, .int .i64 0, .int .i64 0, .string ⟨#[]⟩, .int .i64 0, .int .i64 0] 43)).cell? ⟨g, 1, none⟩ = some (.int .u8 (b1 : Int)) := cell_take HG1.out ht 1 (by simp [bvs])
  have g2 : ((W.alloc (.cells #[.int .i64 0, .int .i64 0, .int .i64 0, .slice none 0 0, .int .i64 0, .string ⟨#[]⟩, .int .i64 0, .int .i64 0, .string ⟨#[]⟩, .int .i64 0, .int .i64 0] 43)).alloc (.cells #[.int .i64 0, .int .i64 0, .int .i64 0, .slice none 0 0, .int .i64 0, .string ⟨#[]⟩, .int .i64 0, .int .i64 0, .string ⟨#[]⟩, .int .i64 0, .int .i64 0] 43)).cell? ⟨g, 2, none⟩ = some (.int .u8 (b2 : Int)) := cell_take HG1.out ht 2 (by simp [bvs])
  have g3 : ((W.alloc (.cells #[.int .i64 0, .int .i64 0, .int .i64 0, .slice none 0 0, .int .i64 0, .string ⟨#[]⟩, .int .i64 0, .int .i64 0, .string ⟨#[]⟩, .int .i64 0, .int .i64 0] 43)).alloc (.cells #[.int .i64 0, .int .i64 0, .int .i64 0, .slice none 0 0, .int .i64 0, .string ⟨#[]⟩, .int .i64 0, .int .i64 0, .string ⟨#[]⟩, .int .i64 0, .int .i64 0] 43)).cell? ⟨g, 3, none⟩ = some (.int .u8 (b3 : Int)) := cell_take HG1.out ht 3 (by simp [bvs])
  have HC := Lib.hid hcap1
  clear h hb hblk hg ht hbs hm hcap1
  go_enter Tryz.func41, Tryz.ntmps41
  go_wp2_with fail
  generalize ((W.alloc (.cells #[.int .i64 0, .int .i64 0, .int .i64 0, .slice none 0 0, .int .i64 0, .string ⟨#[]⟩, .int .i64 0, .int .i64 0, .string ⟨#[]⟩, .int .i64 0, .int .i64 0] 43)).alloc (.cells #[.int .i64 0, .int .i64 0, .int .i64 0, .slice none 0 0, .int .i64 0, .string ⟨#[]⟩, .int .i64 0, .int .i64 0, .string ⟨#[]⟩, .int .i64 0, .int .i64 0] 43)) = w1 at HB1 HS1 HR1 HZ1 HG1 p0 p1 p3 g0 g1 g2 g3 ⊢
  refine wp_loop_rounds 5 ?_
  rw [rounds_succ]
  go_wp2_with fail
  rw [rounds_succ]
  go_wp2_with fail
  rw [rounds_succ]
  go_wp2_with fail
  rw [rounds_succ]
  go_wp2_with fail
  obtain ⟨N, hN⟩ : ∃ N : Nat, N = be4 b0 b1 b2 b3 := ⟨_, rfl⟩
  have e4 : 256 * (256 * (256 * (b0 : Int) + (b1 : Int)) + (b2 : Int)) + (b3 : Int) = (N : Int) := by rw [hN]; unfold be4; omega
  rw [e4]
  have hN9 : N ≤ 4294967295 := by rw [hN]; unfold be4; omega
  clear e4 g0 g1 g2 g3
  rw [← hN] at ho hw
  clear hN
  have d1 : decide ((N : Int) < 1) = false := by simp; omega
  have hm2 : (N : Int) ≤ most := by omega
  have d2 : decide (most < (N : Int)) = false := by simpa using hm2
  have hm3 : (m : Int) < 4 + (N : Int) := by have := HM.out; have := HRL.out; omega
  clear ho hw
  have hcR := HR1.out.cell
  have hfR := HR1.out.frozen
  have hcZ := HZ1.out.cell
  have HS := Lib.hid (set11 HR1.out (.int .i64 0) (.int .i64 0) (.int .i64 0) (.slice none 0 0) (.int .i64 0) (.string ⟨#[]⟩) (.int .i64 0) (.int .i64 0) (.string ⟨#[]⟩) (.int .i64 0) (.int .i64 0))
  rw [rounds_succ]
  go_wp2_with fail
  generalize (World.setCell (World.setCell (World.setCell (World.setCell (World.setCell (World.setCell (World.setCell (World.setCell (World.setCell (World.setCell (World.setCell w1 ⟨W.heap.size, 0, none⟩ (.int .i64 0)) ⟨W.heap.size, 1, none⟩ (.int .i64 0)) ⟨W.heap.size, 2, none⟩ (.int .i64 0)) ⟨W.heap.size, 3, none⟩ (.slice none 0 0)) ⟨W.heap.size, 4, none⟩ (.int .i64 0)) ⟨W.heap.size, 5, none⟩ (.string ⟨#[]⟩)) ⟨W.heap.size, 6, none⟩ (.int .i64 0)) ⟨W.heap.size, 7, none⟩ (.int .i64 0)) ⟨W.heap.size, 8, none⟩ (.string ⟨#[]⟩)) ⟨W.heap.size, 9, none⟩ (.int .i64 0)) ⟨W.heap.size, 10, none⟩ (.int .i64 0)) = w9 at HS ⊢
  have hc7 := HS.out.1.cell
  refine bodyPost_ret (v := .tuple #[.agg (rqC nilS rq0), .bool false, .int .i64 0]) (by simp [results, Tryz.results41, go_sem, hc7, rq0, cell0]) rfl ?_
  have HT9 := Lib.hid (show Below W.heap.size W w9 from HB1.out.trans (HS.out.2.below HB1.out.size (fun k e => by omega)))
  exact RxQ.none_ (sNext_wait HBD.out HO.out) (Rx.kept ⟨B, _, bs, H.out⟩ HT9.out) (fun k hk => .inl hk) (Tur.of_below HT9.out) (KeepE.below HT9.out) (by rw [HBD.out]; rfl)
theorem rx_told_end {W w9 : World} {S : Nat → Prop} {r B : Nat} {most : Int} {v v' : Value} {bs tail : List Int} {st : Ses} {K : Nat} {yq : Rq} {Aq : Option Addr} {cq : Nat} (hsn : sNext most st = (some yq, ⟨tail, st.n + 1, none⟩))
    (hb : Blk w9 r 91 #[.int .i64 most, v', .int .i64 ((st.n : Int) + 1), .int .i64 0, .int .i64 0]) (ho : w9.ownsRow 0 5 1 v' tail.length (bvs tail)) (hl : tail.length ≤ K) (hne : v'.ownBlock ≠ some r) (hvn : ∀ k, v'.ownBlock = some k → W.heap.size ≤ k)
    (ht : Tur (· = r) W w9) (hc : CellsOwn w9 W.heap.size (.slice Aq yq.cs.length cq) yq.cs) (hwf : ∀ x ∈ tail, (Lit.int .u8 x).wf = true) (h : RxG W S r B most v bs st K) :
    RxQ W S r most st K (.returned (.tuple #[.agg (rqC (.slice Aq yq.cs.length cq) yq), .bool true, .int .i64 0])) w9 := by
  unfold RxQ
  rw [hsn]
  refine ⟨fun k => S k ∨ v'.ownBlock = some k, Aq, cq, rfl, ⟨0, v', tail, hb, ho, fun _ => rfl, (fun f hf => by cases hf), hl, hne, .inl h.rS, fun k hk => .inr hk, ?_, hwf⟩, ?_, ht.widen (fun k _ hk => by subst hk; exact h.rS), KeepE.tur ht (fun k hk => by subst hk; exact .inr ⟨_, _, h.blk, by decide⟩), hc⟩
  · intro k hk
    rcases hk with hk | hk
    · exact Nat.lt_of_lt_of_le (h.lt k hk) ht.size
    · exact (ho.lt k hk).2
  · intro k hk
    rcases hk with hk | hk
    · exact .inl hk
    · exact .inr (hvn k hk)
set_option maxHeartbeats 8000000 in
set_option maxRecDepth 100000 in
theorem rx_told {W : World} {S : Nat → Prop} {r B : Nat} {most : Int} {v : Value} {bs : List Int} {st : Ses} {K : Nat} {b0 b1 b2 b3 : Nat} {rest : List Int} (k0 : b0 < 256) (k1 : b1 < 256) (k2 : b2 < 256) (k3 : b3 < 256) (h : RxG W S r B most v bs st K) (hb : st.bad = none) (hbs : bs = (b0 : Int) :: b1 :: b2 :: b3 :: rest) (ho : ¬ (be4 b0 b1 b2 b3 < 1 ∨ most < (be4 b0 b1 b2 b3 : Int))) (hw : ¬ rest.length < be4 b0 b1 b2 b3) (hK : K ≤ 140737488355328) (hnn : st.n < 4611686018427387904) (hd : (decRq (rest.take (be4 b0 b1 b2 b3))).2 = none) :
    Calls Tryz.prog 41 #[.pointer (some ⟨r, 0, none⟩)] W (RxQ W S r most st K) := by
  have HO := Lib.hid (show nextP most st.bs = .yes (rest.take (be4 b0 b1 b2 b3)) (rest.drop (be4 b0 b1 b2 b3)) from by
    rw [← h.eq hb, hbs, nextP_cons]
    simp only [Int.toNat_natCast]
    rw [if_neg ho, if_neg hw])
  have HRL := Lib.hid (show bs.length = 4 + rest.length by rw [hbs]; simp; omega)
  have HD := Lib.hid hd
  have HK := Lib.hid hK
  have HNN := Lib.hid hnn
  clear hd hK hnn
  obtain ⟨A1, c1, hv1, hr1, hcap1⟩ := row_of_own h.own
  subst hv1
  obtain ⟨m, hm⟩ : ∃ m, m = bs.length := ⟨_, rfl⟩
  rw [← hm] at hr1 hcap1
  have h4 : 4 ≤ m := by rw [hm, hbs]; simp
  rcases hr1 with ⟨_, h0, _⟩ | ⟨g, cur, hA1, _, hg, _, _, ht⟩
  · omega
  subst hA1
  have H := Lib.hid h
  have hlt := h.blk.lt
  have HBD := Lib.hid hb
  have HBS := Lib.hid hbs
  have HE := Lib.hid (h.eq hb)
  have hblk := h.blk
  rw [hb, ← hm] at hblk
  have HB1 := Lib.hid (((Below.refl W.heap.size W).alloc (Nat.le_refl _) (.cells #[.int .i64 0, .int .i64 0, .int .i64 0, .slice none 0 0, .int .i64 0, .string ⟨#[]⟩, .int .i64 0, .int .i64 0, .string ⟨#[]⟩, .int .i64 0, .int .i64 0] 43)).alloc (by simp) (.cells #[.int .i64 0, .int .i64 0, .int .i64 0, .slice none 0 0, .int .i64 0, .string ⟨#[]⟩, .int .i64 0, .int .i64 0, .string ⟨#[]⟩, .int .i64 0, .int .i64 0] 43))
  have HS1 := Lib.hid ((hblk.alloc (.cells #[.int .i64 0, .int .i64 0, .int .i64 0, .slice none 0 0, .int .i64 0, .string ⟨#[]⟩, .int .i64 0, .int .i64 0, .string ⟨#[]⟩, .int .i64 0, .int .i64 0] 43)).alloc (.cells #[.int .i64 0, .int .i64 0, .int .i64 0, .slice none 0 0, .int .i64 0, .string ⟨#[]⟩, .int .i64 0, .int .i64 0, .string ⟨#[]⟩, .int .i64 0, .int .i64 0] 43))
  have HR1 := Lib.hid ((Blk.new W 43 #[.int .i64 0, .int .i64 0, .int .i64 0, .slice none 0 0, .int .i64 0, .string ⟨#[]⟩, .int .i64 0, .int .i64 0, .string ⟨#[]⟩, .int .i64 0, .int .i64 0]).alloc (.cells #[.int .i64 0, .int .i64 0, .int .i64 0, .slice none 0 0, .int .i64 0, .string ⟨#[]⟩, .int .i64 0, .int .i64 0, .string ⟨#[]⟩, .int .i64 0, .int .i64 0] 43))
  have HZ1 := Lib.hid (blk_last (W := W.alloc (.cells #[.int .i64 0, .int .i64 0, .int .i64 0, .slice none 0 0, .int .i64 0, .string ⟨#[]⟩, .int .i64 0, .int .i64 0, .string ⟨#[]⟩, .int .i64 0, .int .i64 0] 43)) (t := 43) (cs := #[.int .i64 0, .int .i64 0, .int .i64 0, .slice none 0 0, .int .i64 0, .string ⟨#[]⟩, .int .i64 0, .int .i64 0, .string ⟨#[]⟩, .int .i64 0, .int .i64 0]) (n := W.heap.size + 1) (by simp))
  have HG1 := Lib.hid ((hg.alloc (.cells #[.int .i64 0, .int .i64 0, .int .i64 0, .slice none 0 0, .int .i64 0, .string ⟨#[]⟩, .int .i64 0, .int .i64 0, .string ⟨#[]⟩, .int .i64 0, .int .i64 0] 43)).alloc (.cells #[.int .i64 0, .int .i64 0, .int .i64 0, .slice none 0 0, .int .i64 0, .string ⟨#[]⟩, .int .i64 0, .int .i64 0, .string ⟨#[]⟩, .int .i64 0, .int .i64 0] 43))
  have HTK := Lib.hid ht
  have HM := Lib.hid hm
  have hgl := hg.lt
  have HGR := Lib.hid (show ¬ g = r from fun e => h.ne (by rw [e]; rfl))
  have p3 : ((W.alloc (.cells #[.int .i64 0, .int .i64 0, .int .i64 0, .slice none 0 0, .int .i64 0, .string ⟨#[]⟩, .int .i64 0, .int .i64 0, .string ⟨#[]⟩, .int .i64 0, .int .i64 0] 43)).alloc (.cells #[.int .i64 0, .int .i64 0, .int .i64 0, .slice none 0 0, .int .i64 0, .string ⟨#[]⟩, .int .i64 0, .int .i64 0, .string ⟨#[]⟩, .int .i64 0, .int .i64 0] 43)).cell? ⟨r, 3, none⟩ = some (.int .i64 0) := HS1.out.cell 3
  have p1 : ((W.alloc (.cells #[.int .i64 0, .int .i64 0, .int .i64 0, .slice none 0 0, .int .i64 0, .string ⟨#[]⟩, .int .i64 0, .int .i64 0, .string ⟨#[]⟩, .int .i64 0, .int .i64 0] 43)).alloc (.cells #[.int .i64 0, .int .i64 0, .int .i64 0, .slice none 0 0, .int .i64 0, .string ⟨#[]⟩, .int .i64 0, .int .i64 0, .string ⟨#[]⟩, .int .i64 0, .int .i64 0] 43)).cell? ⟨r, 1, none⟩ = some (.slice (some ⟨g, 0, none⟩) m c1) := HS1.out.cell 1
  have p0 : ((W.alloc (.cells #[.int .i64 0, .int .i64 0, .int .i64 0, .slice none 0 0, .int .i64 0, .string ⟨#[]⟩, .int .i64 0, .int .i64 0, .string ⟨#[]⟩, .int .i64 0, .int .i64 0] 43)).alloc (.cells #[.int .i64 0, .int .i64 0, .int .i64 0, .slice none 0 0, .int .i64 0, .string ⟨#[]⟩, .int .i64 0, .int .i64 0, .string ⟨#[]⟩, .int .i64 0, .int .i64 0] 43)).cell? ⟨r, 0, none⟩ = some (.int .i64 most) := HS1.out.cell 0
  rw [hbs] at ht
  have g0 : ((W.alloc (.cells #[.int .i64 0, .int .i64 0, .int .i64 0, .slice none 0 0, .int .i64 0, .string ⟨#[]⟩, .int .i64 0, .int .i64 0, .string ⟨#[]⟩, .int .i64 0, .int .i64 0] 43)).alloc (.cells #[.int .i64 0, .int .i64 0, .int .i64 0, .slice none 0 0, .int .i64 0, .string ⟨#[]⟩, .int .i64 0, .int .i64 0, .string ⟨#[]⟩, .int .i64 0, .int .i64 0] 43)).cell? ⟨g, 0, none⟩ = some (.int .u8 (b0 : Int)) := cell_take HG1.out ht 0 (by simp [bvs])
  have g1 : ((W.alloc (.cells #[.int .i64 0, .int .i64 0, .int .i64 0, .slice none 0 0, .int .i64 0, .string ⟨#[]⟩, .int .i64 0, .int .i64 0, .string ⟨#[]⟩, .int .i64 0, .int .i64 0] 43)).alloc (.cells #[.int .i64 0, .int .i64 0, .int .i64 0, .slice none 0 0, .int .i64 0, .string ⟨#[]⟩, .int .i64 0, .int .i64 0, .string ⟨#[]⟩, .int .i64 0, .int .i64 0] 43)).cell? ⟨g, 1, none⟩ = some (.int .u8 (b1 : Int)) := cell_take HG1.out ht 1 (by simp [bvs])
  have g2 : ((W.alloc (.cells #[.int .i64 0, .int .i64 0, .int .i64 0, .slice none 0 0, .int .i64 0, .string ⟨#[]⟩, .int .i64 0, .int .i64 0, .string ⟨#[]⟩, .int .i64 0, .int .i64 0] 43)).alloc (.cells #[.int .i64 0, .int .i64 0, .int .i64 0, .slice none 0 0, .int .i64 0, .string ⟨#[]⟩, .int .i64 0, .int .i64 0, .string ⟨#[]⟩, .int .i64 0, .int .i64 0] 43)).cell? ⟨g, 2, none⟩ = some (.int .u8 (b2 : Int)) := cell_take HG1.out ht 2 (by simp [bvs])
  have g3 : ((W.alloc (.cells #[.int .i64 0, .int .i64 0, .int .i64 0, .slice none 0 0, .int .i64 0, .string ⟨#[]⟩, .int .i64 0, .int .i64 0, .string ⟨#[]⟩, .int .i64 0, .int .i64 0] 43)).alloc (.cells #[.int .i64 0, .int .i64 0, .int .i64 0, .slice none 0 0, .int .i64 0, .string ⟨#[]⟩, .int .i64 0, .int .i64 0, .string ⟨#[]⟩, .int .i64 0, .int .i64 0] 43)).cell? ⟨g, 3, none⟩ = some (.int .u8 (b3 : Int)) := cell_take HG1.out ht 3 (by simp [bvs])
  have HC := Lib.hid hcap1
  clear h hb hblk hg ht hbs hm hcap1
  go_enter Tryz.func41, Tryz.ntmps41
  go_wp2_with fail
  generalize ((W.alloc (.cells #[.int .i64 0, .int .i64 0, .int .i64 0, .slice none 0 0, .int .i64 0, .string ⟨#[]⟩, .int .i64 0, .int .i64 0, .string ⟨#[]⟩, .int .i64 0, .int .i64 0] 43)).alloc (.cells #[.int .i64 0, .int .i64 0, .int .i64 0, .slice none 0 0, .int .i64 0, .string ⟨#[]⟩, .int .i64 0, .int .i64 0, .string ⟨#[]⟩, .int .i64 0, .int .i64 0] 43)) = w1 at HB1 HS1 HR1 HZ1 HG1 p0 p1 p3 g0 g1 g2 g3 ⊢
  refine wp_loop_rounds 5 ?_
  rw [rounds_succ]
  go_wp2_with fail
  rw [rounds_succ]
  go_wp2_with fail
  rw [rounds_succ]
  go_wp2_with fail
  rw [rounds_succ]
  go_wp2_with fail
  obtain ⟨N, hN⟩ : ∃ N : Nat, N = be4 b0 b1 b2 b3 := ⟨_, rfl⟩
  have e4 : 256 * (256 * (256 * (b0 : Int) + (b1 : Int)) + (b2 : Int)) + (b3 : Int) = (N : Int) := by rw [hN]; unfold be4; omega
  rw [e4]
  have hN9 : N ≤ 4294967295 := by rw [hN]; unfold be4; omega
  clear e4 g0 g1 g2 g3
  rw [← hN] at ho hw
  have HN := Lib.hid hN
  clear hN
  have d1 : decide ((N : Int) < 1) = false := by simp; omega
  have hm2 : (N : Int) ≤ most := by omega
  have d2 : decide (most < (N : Int)) = false := by simpa using hm2
  have hN1 : 1 ≤ N := by omega
  have hmN : 4 + N ≤ m := by have := HM.out; have := HRL.out; omega
  have hm3 : decide ((m : Int) < 4 + (N : Int)) = false := by simp; omega
  have hc4 : 4 + N ≤ c1 := Nat.le_trans hmN HC.out
  have hc5 : ¬ (4 : Nat) = c1 := by omega
  have HWN := Lib.hid (show N ≤ rest.length by omega)
  clear ho hw
  have HBL := Lib.hid (show (rest.take N).length = N by rw [List.length_take]; have := HWN.out; omega)
  have HCX := Lib.hid (show CellsAt w1 (some ⟨g, 4, none⟩) (bvs (rest.take N)) from cells_off HG1.out.lt (fun k u hu => by
    have hk : k < (rest.take N).length := by have := (List.getElem?_eq_some_iff.1 hu).1; rwa [bvs_len] at this
    have ht := HTK.out
    rw [HBS.out] at ht
    refine cell_take HG1.out ht (4 + k) ?_
    rw [show (b0 : Int) :: b1 :: b2 :: b3 :: rest = [(b0 : Int), b1, b2, b3] ++ (rest.take N ++ rest.drop N) by rw [List.take_append_drop]; rfl, bvs_append, bvs_append, List.getElem?_append_right (by simp [bvs]), List.getElem?_append_left (by rw [bvs_len]; simp [bvs]; simpa using hk)]
    simpa [bvs] using hu))
  have HWF := Lib.hid (show ∀ x ∈ rest.take N, (Lit.int .u8 x).wf = true from fun x hx => H.out.wf x (by rw [← HE.out, HBS.out]; have := List.mem_of_mem_take hx; simp [this]))
  have C2 := Lib.hid (doc_rq (some ⟨g, 4, none⟩) N (c1 - 4) (rest.take N) w1 HBL.out HCX.out HWF.out (by omega) (by omega))
  rw [rounds_succ]
  go_wp2_with fail
  go_at_call 61; (with_reducible refine C2.out.mono ?_); rintro e w2 hq
  obtain ⟨vq, rfl, hqo, hb2⟩ := DocQ.open_ hq
  obtain ⟨Aq, cq, rfl⟩ := own_form3 hqo
  rw [← HN.out] at HD HO
  have hfc : fcode (decRq (rest.take N)).2 = 0 := by rw [HD.out]; rfl
  have hfp : fplace (decRq (rest.take N)).2 = 0 := by rw [HD.out]; rfl
  rw [hfc, hfp]
  generalize hyq : (decRq (rest.take N)).1 = yq at *
  have HYQ := Lib.hid hyq
  have bo3 := (Below.refl w2.heap.size w2).alloc (Nat.le_refl _) (.cells (rqC (.slice Aq yq.cs.length cq) yq) 43)
  have HS3 := Lib.hid ((HS1.out.kept hb2).kept bo3)
  have HR3 := Lib.hid ((HR1.out.kept hb2).kept bo3)
  have HG3 := Lib.hid ((HG1.out.kept hb2).kept bo3)
  have HK3 := Lib.hid (Blk.new w2 43 (rqC (.slice Aq yq.cs.length cq) yq))
  have HCO3 := Lib.hid (hqo.kept_ bo3)
  have HB3 := Lib.hid (show Below W.heap.size W (w2.alloc (.cells (rqC (.slice Aq yq.cs.length cq) yq) 43)) from below_step (below_step HB1.out hb2 (Nat.le_refl _)) bo3 (Nat.le_refl _))
  have l1 : W.heap.size + 2 ≤ w1.heap.size := HZ1.out.lt
  have l2 := hb2.size
  have hkr : w2.heap.size ≠ r := by omega
  have hRr : W.heap.size ≠ r := by omega
  have p1 : (w2.alloc (.cells (rqC (.slice Aq yq.cs.length cq) yq) 43)).cell? ⟨r, 1, none⟩ = some (.slice (some ⟨g, 0, none⟩) m c1) := HS3.out.cell 1
  have hw1 : IntKind.i64.wrap ((st.n : Int) + 1) = (st.n : Int) + 1 := by rw [IntKind.wrap_i64]; have := HNN.out; omega
  have HTL := Lib.hid (show (rest.drop N).length = m - (4 + N) by rw [List.length_drop]; have := HM.out; have := HRL.out; omega)
  have HCT := Lib.hid (show CellsAt (w2.alloc (.cells (rqC (.slice Aq yq.cs.length cq) yq) 43)) (some ⟨g, 4 + N, none⟩) (bvs (rest.drop N)) from cells_off HG3.out.lt (fun k u hu => by
    have hk : k < (rest.drop N).length := by have := (List.getElem?_eq_some_iff.1 hu).1; rwa [bvs_len] at this
    have ht := HTK.out
    rw [HBS.out] at ht
    refine cell_take HG3.out ht (4 + N + k) ?_
    rw [show (b0 : Int) :: b1 :: b2 :: b3 :: rest = ([(b0 : Int), b1, b2, b3] ++ rest.take N) ++ rest.drop N by rw [List.append_assoc, List.take_append_drop]; rfl, bvs_append, List.getElem?_append_right (by rw [bvs_len, List.length_append, HBL.out]; simp), bvs_len, List.length_append, HBL.out]
    rw [← hu]; congr 1; simp))
  have HM47 := Lib.hid (show m ≤ 140737488355328 by have := H.out.le; have := HM.out; have := HK.out; omega)
  clear hq hqo hb2 bo3 hyq p0 p3 hfc hfp HS1 HR1 HG1 HZ1 C2 HCX
  have HL3 := Lib.hid (show w1.heap.size ≤ (w2.alloc (.cells (rqC (.slice Aq yq.cs.length cq) yq) 43)).heap.size by simp; omega)
  by_cases hcN : 4 + N = c1
  · have hmc : m = 4 + N := by have := HC.out; omega
    have HDN := Lib.hid (show rest.drop N = [] from List.eq_nil_of_length_eq_zero (by have := HTL.out; omega))
    go_wp2_with (first
      | (at_builtin; refine wpList_append_bytes rfl _ _ rfl 0 _ 0 [] rfl (World.ownsRow_nil _ _ _ _) (some ⟨g, 0, none⟩) (c1 - (4 + N)) (c1 - (4 + N)) (fun h => by cases h) [] rfl (by simp <;> omega) (fun k hk => absurd hk (by simp [bvs])) (by simp <;> omega) (Nat.zero_le _) ?_
         intro v' w4 hown hg4 hv4
         rw [show 0 + (c1 - (4 + N)) = 0 by omega] at hown
         obtain ⟨A4, c4, hv4', _, _, _⟩ := owned_form hown
         have hv5 : v' = .slice A4 0 c4 := by rw [hv4'] <;> (congr 1 <;> omega)
         subst hv5
         have hb4 : Below (w2.alloc (.cells (rqC (.slice Aq yq.cs.length cq) yq) 43)).heap.size (w2.alloc (.cells (rqC (.slice Aq yq.cs.length cq) yq) 43)) w4 := below_grown (Below.refl _ _) hg4 (by intro k hk; cases hk) (Nat.le_refl _)
         have HS4 := HS3.out.kept hb4
         have q1 := HS4.cell 1
         have q2 := HS4.frozen 1
         have HS5 := HS4.set_ 1 (.slice A4 0 c4)
         have q3 := HS5.cell 2
         have q4 := HS5.frozen 2
         have HS6 := Lib.hid (HS5.set_ 2 (.int .i64 ((st.n : Int) + 1)))
         have HK6 := Lib.hid (((HK3.out.kept hb4).far (p := ⟨r, 1, none⟩) hkr (.slice A4 0 c4)).far (p := ⟨r, 2, none⟩) hkr (.int .i64 ((st.n : Int) + 1)))
         have HR6 := Lib.hid (((HR3.out.kept hb4).far (p := ⟨r, 1, none⟩) hRr (.slice A4 0 c4)).far (p := ⟨r, 2, none⟩) hRr (.int .i64 ((st.n : Int) + 1)))
         have hck := HK6.out.cell
         have hcR := HR6.out.cell
         have hfR := HR6.out.frozen
         have HS := Lib.hid (set11 HR6.out (.int .i64 yq.kind) (.int .i64 yq.id) (.int .i64 yq.epoch) (.slice Aq yq.cs.length cq) (.int .i64 yq.frm.view) (.string yq.frm.key) (.int .i64 yq.frm.start) (.int .i64 yq.too.view) (.string yq.too.key) (.int .i64 yq.too.start) (.int .i64 yq.limit))
         have HOW := Lib.hid (show w4.ownsRow 0 5 1 (.slice A4 0 c4) 0 (bvs []) from by simpa [bvs] using hown)
         have HB4 := Lib.hid (below_step HB3.out hb4 (Nat.le_refl _))
         have HCO4 := Lib.hid (HCO3.out.kept_ hb4)
         have HNV := Lib.hid (show ∀ k, (Value.slice A4 0 c4).ownBlock = some k → w1.heap.size ≤ k from fun k hk => by
           have := HL3.out
           rcases hv4 with e | e
           · rw [e] at hk; cases hk
           · rw [e] at hk; cases hk; omega)
         clear hown hg4 hv4 hb4 HS4 HS5 hv4')
      | fail)
    have HT5 := Lib.hid (((Tur.of_below (S := (· = r)) HB4.out).setCell (p := ⟨r, 1, none⟩) (.inl rfl) (.slice A4 0 c4)).setCell (p := ⟨r, 2, none⟩) (.inl rfl) (.int .i64 ((st.n : Int) + 1)))
    have HT45 := Lib.hid (((Tur.refl (· = r) w4).setCell (p := ⟨r, 1, none⟩) (.inl rfl) (.slice A4 0 c4)).setCell (p := ⟨r, 2, none⟩) (.inl rfl) (.int .i64 ((st.n : Int) + 1)))
    generalize (World.setCell (World.setCell w4 ⟨r, 1, none⟩ (.slice A4 0 c4)) ⟨r, 2, none⟩ (.int .i64 ((st.n : Int) + 1))) = w5 at HS HS6 HK6 HR6 HT5 HT45 hck hcR hfR ⊢
    generalize (World.setCell (World.setCell (World.setCell (World.setCell (World.setCell (World.setCell (World.setCell (World.setCell (World.setCell (World.setCell (World.setCell w5 ⟨W.heap.size, 0, none⟩ (.int .i64 yq.kind)) ⟨W.heap.size, 1, none⟩ (.int .i64 yq.id)) ⟨W.heap.size, 2, none⟩ (.int .i64 yq.epoch)) ⟨W.heap.size, 3, none⟩ (.slice Aq yq.cs.length cq)) ⟨W.heap.size, 4, none⟩ (.int .i64 yq.frm.view)) ⟨W.heap.size, 5, none⟩ (.string yq.frm.key)) ⟨W.heap.size, 6, none⟩ (.int .i64 yq.frm.start)) ⟨W.heap.size, 7, none⟩ (.int .i64 yq.too.view)) ⟨W.heap.size, 8, none⟩ (.string yq.too.key)) ⟨W.heap.size, 9, none⟩ (.int .i64 yq.too.start)) ⟨W.heap.size, 10, none⟩ (.int .i64 yq.limit)) = w9 at HS ⊢
    have hc7 := HS.out.1.cell
    refine bodyPost_ret (v := .tuple #[.agg (rqC (.slice Aq yq.cs.length cq) yq), .bool true, .int .i64 0]) (by simp [results, Tryz.results41, go_sem, hc7]) rfl ?_
    have HO9 := ownsRow_tur (ownsRow_tur HOW.out HT45.out (fun k hk e => by have := HNV.out k hk; omega)) HS.out.2 (fun k hk e => by have := HNV.out k hk; omega)
    have HC9 := own_dn (B' := W.heap.size) (ownsRow_tur (HCO4.out) HT45.out (fun k hk e => by have := (HCO4.out.lt k hk).1; omega)) HS.out.2 (fun k hk => by omega) (by omega)
    have hsn := sNext_yes HBD.out HO.out HD.out
    rw [HYQ.out] at hsn
    exact rx_told_end (v' := .slice A4 0 c4) hsn (HS6.out.tur HS.out.2 (show ¬ r = W.heap.size by omega)) (by rw [HDN.out]; exact HO9) (by rw [HTL.out]; have := HM.out; have := H.out.le; omega) (fun e => by have := HNV.out r e; omega) (fun k hk => by have := HNV.out k hk; omega) (HT5.out.trans HS.out.2 (fun k hk => .inr (by omega))) HC9 (fun x hx => H.out.wf x (by rw [← HE.out, HBS.out]; have := List.mem_of_mem_drop hx; simp [this])) H.out
  · have hcN2 : ¬ c1 = 4 + N := fun h => hcN h.symm
    go_wp2_with (first
      | (at_builtin; refine wpList_append_bytes rfl _ _ rfl 0 _ 0 [] rfl (World.ownsRow_nil _ _ _ _) (some ⟨g, 4 + N, none⟩) (m - (4 + N)) (c1 - (4 + N)) (fun h => by cases h) (rest.drop N) rfl HTL.out HCT.out (by have := HM47.out; omega) (Nat.zero_le _) ?_
         intro v' w4 hown hg4 hv4
         obtain ⟨A4, c4, hv4', _, _, _⟩ := owned_form hown
         have hv5 : v' = .slice A4 (m - (4 + N)) c4 := by rw [hv4'] <;> (congr 1 <;> omega)
         subst hv5
         have hb4 : Below (w2.alloc (.cells (rqC (.slice Aq yq.cs.length cq) yq) 43)).heap.size (w2.alloc (.cells (rqC (.slice Aq yq.cs.length cq) yq) 43)) w4 := below_grown (Below.refl _ _) hg4 (by intro k hk; cases hk) (Nat.le_refl _)
         have HS4 := HS3.out.kept hb4
         have q1 := HS4.cell 1
         have q2 := HS4.frozen 1
         have HS5 := HS4.set_ 1 (.slice A4 (m - (4 + N)) c4)
         have q3 := HS5.cell 2
         have q4 := HS5.frozen 2
         have HS6 := Lib.hid (HS5.set_ 2 (.int .i64 ((st.n : Int) + 1)))
         have HK6 := Lib.hid (((HK3.out.kept hb4).far (p := ⟨r, 1, none⟩) hkr (.slice A4 (m - (4 + N)) c4)).far (p := ⟨r, 2, none⟩) hkr (.int .i64 ((st.n : Int) + 1)))
         have HR6 := Lib.hid (((HR3.out.kept hb4).far (p := ⟨r, 1, none⟩) hRr (.slice A4 (m - (4 + N)) c4)).far (p := ⟨r, 2, none⟩) hRr (.int .i64 ((st.n : Int) + 1)))
         have hck := HK6.out.cell
         have hcR := HR6.out.cell
         have hfR := HR6.out.frozen
         have HS := Lib.hid (set11 HR6.out (.int .i64 yq.kind) (.int .i64 yq.id) (.int .i64 yq.epoch) (.slice Aq yq.cs.length cq) (.int .i64 yq.frm.view) (.string yq.frm.key) (.int .i64 yq.frm.start) (.int .i64 yq.too.view) (.string yq.too.key) (.int .i64 yq.too.start) (.int .i64 yq.limit))
         have HOW := Lib.hid (show w4.ownsRow 0 5 1 (.slice A4 (m - (4 + N)) c4) (m - (4 + N)) (bvs (rest.drop N)) from by simpa [bvs] using hown)
         have HB4 := Lib.hid (below_step HB3.out hb4 (Nat.le_refl _))
         have HCO4 := Lib.hid (HCO3.out.kept_ hb4)
         have HNV := Lib.hid (show ∀ k, (Value.slice A4 (m - (4 + N)) c4).ownBlock = some k → w1.heap.size ≤ k from fun k hk => by
           have := HL3.out
           rcases hv4 with e | e
           · rw [e] at hk; cases hk
           · rw [e] at hk; cases hk; omega)
         clear hown hg4 hv4 hb4 HS4 HS5 hv4')
      | fail)
    have HT5 := Lib.hid (((Tur.of_below (S := (· = r)) HB4.out).setCell (p := ⟨r, 1, none⟩) (.inl rfl) (.slice A4 (m - (4 + N)) c4)).setCell (p := ⟨r, 2, none⟩) (.inl rfl) (.int .i64 ((st.n : Int) + 1)))
    have HT45 := Lib.hid (((Tur.refl (· = r) w4).setCell (p := ⟨r, 1, none⟩) (.inl rfl) (.slice A4 (m - (4 + N)) c4)).setCell (p := ⟨r, 2, none⟩) (.inl rfl) (.int .i64 ((st.n : Int) + 1)))
    generalize (World.setCell (World.setCell w4 ⟨r, 1, none⟩ (.slice A4 (m - (4 + N)) c4)) ⟨r, 2, none⟩ (.int .i64 ((st.n : Int) + 1))) = w5 at HS HS6 HK6 HR6 HT5 HT45 hck hcR hfR ⊢
    generalize (World.setCell (World.setCell (World.setCell (World.setCell (World.setCell (World.setCell (World.setCell (World.setCell (World.setCell (World.setCell (World.setCell w5 ⟨W.heap.size, 0, none⟩ (.int .i64 yq.kind)) ⟨W.heap.size, 1, none⟩ (.int .i64 yq.id)) ⟨W.heap.size, 2, none⟩ (.int .i64 yq.epoch)) ⟨W.heap.size, 3, none⟩ (.slice Aq yq.cs.length cq)) ⟨W.heap.size, 4, none⟩ (.int .i64 yq.frm.view)) ⟨W.heap.size, 5, none⟩ (.string yq.frm.key)) ⟨W.heap.size, 6, none⟩ (.int .i64 yq.frm.start)) ⟨W.heap.size, 7, none⟩ (.int .i64 yq.too.view)) ⟨W.heap.size, 8, none⟩ (.string yq.too.key)) ⟨W.heap.size, 9, none⟩ (.int .i64 yq.too.start)) ⟨W.heap.size, 10, none⟩ (.int .i64 yq.limit)) = w9 at HS ⊢
    have hc7 := HS.out.1.cell
    refine bodyPost_ret (v := .tuple #[.agg (rqC (.slice Aq yq.cs.length cq) yq), .bool true, .int .i64 0]) (by simp [results, Tryz.results41, go_sem, hc7]) rfl ?_
    have HO9 := ownsRow_tur (ownsRow_tur HOW.out HT45.out (fun k hk e => by have := HNV.out k hk; omega)) HS.out.2 (fun k hk e => by have := HNV.out k hk; omega)
    have HC9 := own_dn (B' := W.heap.size) (ownsRow_tur (HCO4.out) HT45.out (fun k hk e => by have := (HCO4.out.lt k hk).1; omega)) HS.out.2 (fun k hk => by omega) (by omega)
    have hsn := sNext_yes HBD.out HO.out HD.out
    rw [HYQ.out] at hsn
    exact rx_told_end (v' := .slice A4 (m - (4 + N)) c4) hsn (HS6.out.tur HS.out.2 (show ¬ r = W.heap.size by omega)) (by rw [HTL.out]; exact HO9) (by rw [HTL.out]; have := HM.out; have := H.out.le; omega) (fun e => by have := HNV.out r e; omega) (fun k hk => by have := HNV.out k hk; omega) (HT5.out.trans HS.out.2 (fun k hk => .inr (by omega))) HC9 (fun x hx => H.out.wf x (by rw [← HE.out, HBS.out]; have := List.mem_of_mem_drop hx; simp [this])) H.out
set_option maxHeartbeats 8000000 in
set_option maxRecDepth 100000 in
theorem rx_fault {W : World} {S : Nat → Prop} {r B : Nat} {most : Int} {v : Value} {bs : List Int} {st : Ses} {K : Nat} {b0 b1 b2 b3 : Nat} {rest : List Int} (k0 : b0 < 256) (k1 : b1 < 256) (k2 : b2 < 256) (k3 : b3 < 256) (h : RxG W S r B most v bs st K) (hb : st.bad = none) (hbs : bs = (b0 : Int) :: b1 :: b2 :: b3 :: rest) (ho : ¬ (be4 b0 b1 b2 b3 < 1 ∨ most < (be4 b0 b1 b2 b3 : Int))) (hw : ¬ rest.length < be4 b0 b1 b2 b3) (hK : K ≤ 140737488355328) {fe fp : Int} (hd : (decRq (rest.take (be4 b0 b1 b2 b3))).2 = some (fe, fp)) :
    Calls Tryz.prog 41 #[.pointer (some ⟨r, 0, none⟩)] W (RxQ W S r most st K) := by
  have HO := Lib.hid (show nextP most st.bs = .yes (rest.take (be4 b0 b1 b2 b3)) (rest.drop (be4 b0 b1 b2 b3)) from by
    rw [← h.eq hb, hbs, nextP_cons]
    simp only [Int.toNat_natCast]
    rw [if_neg ho, if_neg hw])
  have HRL := Lib.hid (show bs.length = 4 + rest.length by rw [hbs]; simp; omega)
  have HD := Lib.hid hd
  have HK := Lib.hid hK
  have HF0 := Lib.hid (decRq_fault (show decRq (rest.take (be4 b0 b1 b2 b3)) = ((decRq (rest.take (be4 b0 b1 b2 b3))).1, some (fe, fp)) by rw [← hd])).2
  clear hd hK
  obtain ⟨A1, c1, hv1, hr1, hcap1⟩ := row_of_own h.own
  subst hv1
  obtain ⟨m, hm⟩ : ∃ m, m = bs.length := ⟨_, rfl⟩
  rw [← hm] at hr1 hcap1
  have h4 : 4 ≤ m := by rw [hm, hbs]; simp
  rcases hr1 with ⟨_, h0, _⟩ | ⟨g, cur, hA1, _, hg, _, _, ht⟩
  · omega
  subst hA1
  have H := Lib.hid h
  have hlt := h.blk.lt
  have HBD := Lib.hid hb
  have HBS := Lib.hid hbs
  have HE := Lib.hid (h.eq hb)
  have hblk := h.blk
  rw [hb, ← hm] at hblk
  have HB1 := Lib.hid (((Below.refl W.heap.size W).alloc (Nat.le_refl _) (.cells #[.int .i64 0, .int .i64 0, .int .i64 0, .slice none 0 0, .int .i64 0, .string ⟨#[]⟩, .int .i64 0, .int .i64 0, .string ⟨#[]⟩, .int .i64 0, .int .i64 0] 43)).alloc (by simp) (.cells #[.int .i64 0, .int .i64 0, .int .i64 0, .slice none 0 0, .int .i64 0, .string ⟨#[]⟩, .int .i64 0, .int .i64 0, .string ⟨#[]⟩, .int .i64 0, .int .i64 0] 43))
  have HS1 := Lib.hid ((hblk.alloc (.cells #[.int .i64 0, .int .i64 0, .int .i64 0, .slice none 0 0, .int .i64 0, .string ⟨#[]⟩, .int .i64 0, .int .i64 0, .string ⟨#[]⟩, .int .i64 0, .int .i64 0] 43)).alloc (.cells #[.int .i64 0, .int .i64 0, .int .i64 0, .slice none 0 0, .int .i64 0, .string ⟨#[]⟩, .int .i64 0, .int .i64 0, .string ⟨#[]⟩, .int .i64 0, .int .i64 0] 43))
  have HR1 := Lib.hid ((Blk.new W 43 #[.int .i64 0, .int .i64 0, .int .i64 0, .slice none 0 0, .int .i64 0, .string ⟨#[]⟩, .int .i64 0, .int .i64 0, .string ⟨#[]⟩, .int .i64 0, .int .i64 0]).alloc (.cells #[.int .i64 0, .int .i64 0, .int .i64 0, .slice none 0 0, .int .i64 0, .string ⟨#[]⟩, .int .i64 0, .int .i64 0, .string ⟨#[]⟩, .int .i64 0, .int .i64 0] 43))
  have HZ1 := Lib.hid (blk_last (W := W.alloc (.cells #[.int .i64 0, .int .i64 0, .int .i64 0, .slice none 0 0, .int .i64 0, .string ⟨#[]⟩, .int .i64 0, .int .i64 0, .string ⟨#[]⟩, .int .i64 0, .int .i64 0] 43)) (t := 43) (cs := #[.int .i64 0, .int .i64 0, .int .i64 0, .slice none 0 0, .int .i64 0, .string ⟨#[]⟩, .int .i64 0, .int .i64 0, .string ⟨#[]⟩, .int .i64 0, .int .i64 0]) (n := W.heap.size + 1) (by simp))
  have HG1 := Lib.hid ((hg.alloc (.cells #[.int .i64 0, .int .i64 0, .int .i64 0, .slice none 0 0, .int .i64 0, .string ⟨#[]⟩, .int .i64 0, .int .i64 0, .string ⟨#[]⟩, .int .i64 0, .int .i64 0] 43)).alloc (.cells #[.int .i64 0, .int .i64 0, .int .i64 0, .slice none 0 0, .int .i64 0, .string ⟨#[]⟩, .int .i64 0, .int .i64 0, .string ⟨#[]⟩, .int .i64 0, .int .i64 0] 43))
  have HTK := Lib.hid ht
  have HM := Lib.hid hm
  have hgl := hg.lt
  have HGR := Lib.hid (show ¬ g = r from fun e => h.ne (by rw [e]; rfl))
  have p3 : ((W.alloc (.cells #[.int .i64 0, .int .i64 0, .int .i64 0, .slice none 0 0, .int .i64 0, .string ⟨#[]⟩, .int .i64 0, .int .i64 0, .string ⟨#[]⟩, .int .i64 0, .int .i64 0] 43)).alloc (.cells #[.int .i64 0, .int .i64 0, .int .i64 0, .slice none 0 0, .int .i64 0, .string ⟨#[]⟩, .int .i64 0, .int .i64 0, .string ⟨#[]⟩, .int .i64 0, .int .i64 0] 43)).cell? ⟨r, 3, none⟩ = some (.int .i64 0) := HS1.out.cell 3
  have p1 : ((W.alloc (.cells #[.int .i64 0, .int .i64 0, .int .i64 0, .slice none 0 0, .int .i64 0, .string ⟨#[]⟩, .int .i64 0, .int .i64 0, .string ⟨#[]⟩, .int .i64 0, .int .i64 0] 43)).alloc (.cells #[.int .i64 0, .int .i64 0, .int .i64 0, .slice none 0 0, .int .i64 0, .string ⟨#[]⟩, .int .i64 0, .int .i64 0, .string ⟨#[]⟩, .int .i64 0, .int .i64 0] 43)).cell? ⟨r, 1, none⟩ = some (.slice (some ⟨g, 0, none⟩) m c1) := HS1.out.cell 1
  have p0 : ((W.alloc (.cells #[.int .i64 0, .int .i64 0, .int .i64 0, .slice none 0 0, .int .i64 0, .string ⟨#[]⟩, .int .i64 0, .int .i64 0, .string ⟨#[]⟩, .int .i64 0, .int .i64 0] 43)).alloc (.cells #[.int .i64 0, .int .i64 0, .int .i64 0, .slice none 0 0, .int .i64 0, .string ⟨#[]⟩, .int .i64 0, .int .i64 0, .string ⟨#[]⟩, .int .i64 0, .int .i64 0] 43)).cell? ⟨r, 0, none⟩ = some (.int .i64 most) := HS1.out.cell 0
  rw [hbs] at ht
  have g0 : ((W.alloc (.cells #[.int .i64 0, .int .i64 0, .int .i64 0, .slice none 0 0, .int .i64 0, .string ⟨#[]⟩, .int .i64 0, .int .i64 0, .string ⟨#[]⟩, .int .i64 0, .int .i64 0] 43)).alloc (.cells #[.int .i64 0, .int .i64 0, .int .i64 0, .slice none 0 0, .int .i64 0, .string ⟨#[]⟩, .int .i64 0, .int .i64 0, .string ⟨#[]⟩, .int .i64 0, .int .i64 0] 43)).cell? ⟨g, 0, none⟩ = some (.int .u8 (b0 : Int)) := cell_take HG1.out ht 0 (by simp [bvs])
  have g1 : ((W.alloc (.cells #[.int .i64 0, .int .i64 0, .int .i64 0, .slice none 0 0, .int .i64 0, .string ⟨#[]⟩, .int .i64 0, .int .i64 0, .string ⟨#[]⟩, .int .i64 0, .int .i64 0] 43)).alloc (.cells #[.int .i64 0, .int .i64 0, .int .i64 0, .slice none 0 0, .int .i64 0, .string ⟨#[]⟩, .int .i64 0, .int .i64 0, .string ⟨#[]⟩, .int .i64 0, .int .i64 0] 43)).cell? ⟨g, 1, none⟩ = some (.int .u8 (b1 : Int)) := cell_take HG1.out ht 1 (by simp [bvs])
  have g2 : ((W.alloc (.cells #[.int .i64 0, .int .i64 0, .int .i64 0, .slice none 0 0, .int .i64 0, .string ⟨#[]⟩, .int .i64 0, .int .i64 0, .string ⟨#[]⟩, .int .i64 0, .int .i64 0] 43)).alloc (.cells #[.int .i64 0, .int .i64 0, .int .i64 0, .slice none 0 0, .int .i64 0, .string ⟨#[]⟩, .int .i64 0, .int .i64 0, .string ⟨#[]⟩, .int .i64 0, .int .i64 0] 43)).cell? ⟨g, 2, none⟩ = some (.int .u8 (b2 : Int)) := cell_take HG1.out ht 2 (by simp [bvs])
  have g3 : ((W.alloc (.cells #[.int .i64 0, .int .i64 0, .int .i64 0, .slice none 0 0, .int .i64 0, .string ⟨#[]⟩, .int .i64 0, .int .i64 0, .string ⟨#[]⟩, .int .i64 0, .int .i64 0] 43)).alloc (.cells #[.int .i64 0, .int .i64 0, .int .i64 0, .slice none 0 0, .int .i64 0, .string ⟨#[]⟩, .int .i64 0, .int .i64 0, .string ⟨#[]⟩, .int .i64 0, .int .i64 0] 43)).cell? ⟨g, 3, none⟩ = some (.int .u8 (b3 : Int)) := cell_take HG1.out ht 3 (by simp [bvs])
  have HC := Lib.hid hcap1
  clear h hb hblk hg ht hbs hm hcap1
  go_enter Tryz.func41, Tryz.ntmps41
  go_wp2_with fail
  generalize ((W.alloc (.cells #[.int .i64 0, .int .i64 0, .int .i64 0, .slice none 0 0, .int .i64 0, .string ⟨#[]⟩, .int .i64 0, .int .i64 0, .string ⟨#[]⟩, .int .i64 0, .int .i64 0] 43)).alloc (.cells #[.int .i64 0, .int .i64 0, .int .i64 0, .slice none 0 0, .int .i64 0, .string ⟨#[]⟩, .int .i64 0, .int .i64 0, .string ⟨#[]⟩, .int .i64 0, .int .i64 0] 43)) = w1 at HB1 HS1 HR1 HZ1 HG1 p0 p1 p3 g0 g1 g2 g3 ⊢
  refine wp_loop_rounds 5 ?_
  rw [rounds_succ]
  go_wp2_with fail
  rw [rounds_succ]
  go_wp2_with fail
  rw [rounds_succ]
  go_wp2_with fail
  rw [rounds_succ]
  go_wp2_with fail
  obtain ⟨N, hN⟩ : ∃ N : Nat, N = be4 b0 b1 b2 b3 := ⟨_, rfl⟩
  have e4 : 256 * (256 * (256 * (b0 : Int) + (b1 : Int)) + (b2 : Int)) + (b3 : Int) = (N : Int) := by rw [hN]; unfold be4; omega
  rw [e4]
  have hN9 : N ≤ 4294967295 := by rw [hN]; unfold be4; omega
  clear e4 g0 g1 g2 g3
  rw [← hN] at ho hw
  have HN := Lib.hid hN
  clear hN
  have d1 : decide ((N : Int) < 1) = false := by simp; omega
  have hm2 : (N : Int) ≤ most := by omega
  have d2 : decide (most < (N : Int)) = false := by simpa using hm2
  have hN1 : 1 ≤ N := by omega
  have hmN : 4 + N ≤ m := by have := HM.out; have := HRL.out; omega
  have hm3 : decide ((m : Int) < 4 + (N : Int)) = false := by simp; omega
  have hc4 : 4 + N ≤ c1 := Nat.le_trans hmN HC.out
  have hc5 : ¬ (4 : Nat) = c1 := by omega
  have HWN := Lib.hid (show N ≤ rest.length by omega)
  clear ho hw
  have HBL := Lib.hid (show (rest.take N).length = N by rw [List.length_take]; have := HWN.out; omega)
  have HCX := Lib.hid (show CellsAt w1 (some ⟨g, 4, none⟩) (bvs (rest.take N)) from cells_off HG1.out.lt (fun k u hu => by
    have hk : k < (rest.take N).length := by have := (List.getElem?_eq_some_iff.1 hu).1; rwa [bvs_len] at this
    have ht := HTK.out
    rw [HBS.out] at ht
    refine cell_take HG1.out ht (4 + k) ?_
    rw [show (b0 : Int) :: b1 :: b2 :: b3 :: rest = [(b0 : Int), b1, b2, b3] ++ (rest.take N ++ rest.drop N) by rw [List.take_append_drop]; rfl, bvs_append, bvs_append, List.getElem?_append_right (by simp [bvs]), List.getElem?_append_left (by rw [bvs_len]; simp [bvs]; simpa using hk)]
    simpa [bvs] using hu))
  have HWF := Lib.hid (show ∀ x ∈ rest.take N, (Lit.int .u8 x).wf = true from fun x hx => H.out.wf x (by rw [← HE.out, HBS.out]; have := List.mem_of_mem_take hx; simp [this]))
  have C2 := Lib.hid (doc_rq (some ⟨g, 4, none⟩) N (c1 - 4) (rest.take N) w1 HBL.out HCX.out HWF.out (by omega) (by omega))
  rw [rounds_succ]
  go_wp2_with fail
  go_at_call 61; (with_reducible refine C2.out.mono ?_); rintro e w2 hq
  obtain ⟨vq, rfl, hqo, hb2⟩ := DocQ.open_ hq
  obtain ⟨Aq, cq, rfl⟩ := own_form3 hqo
  rw [← HN.out] at HD HO
  have hfc : fcode (decRq (rest.take N)).2 = fe := by rw [HD.out]; rfl
  have hfp : fplace (decRq (rest.take N)).2 = fp := by rw [HD.out]; rfl
  rw [hfc, hfp]
  have hf0 := HF0.out
  generalize (decRq (rest.take N)).1 = yq at hqo ⊢
  have bo3 := (Below.refl w2.heap.size w2).alloc (Nat.le_refl _) (.cells (rqC (.slice Aq yq.cs.length cq) yq) 43)
  have HS3 := Lib.hid ((HS1.out.kept hb2).kept bo3)
  have HR3 := Lib.hid ((HR1.out.kept hb2).kept bo3)
  have HZ3 := Lib.hid ((HZ1.out.kept hb2).kept bo3)
  have HB3 := Lib.hid (show Below W.heap.size W (w2.alloc (.cells (rqC (.slice Aq yq.cs.length cq) yq) 43)) from below_step (below_step HB1.out hb2 (Nat.le_refl _)) bo3 (Nat.le_refl _))
  have l1 : W.heap.size + 2 ≤ w1.heap.size := HZ1.out.lt
  have l2 := hb2.size
  have hRr : W.heap.size ≠ r := by omega
  have hZr : W.heap.size + 1 ≠ r := by omega
  have q1 := HS3.out.cell 3
  have q2 := HS3.out.frozen 3
  have HS4 := HS3.out.set_ 3 (.int .i64 fe)
  have q3 := HS4.cell 4
  have q4 := HS4.frozen 4
  have HS5 := Lib.hid (HS4.set_ 4 (.int .i64 fp))
  have HR5 := Lib.hid ((HR3.out.far (p := ⟨r, 3, none⟩) hRr (.int .i64 fe)).far (p := ⟨r, 4, none⟩) hRr (.int .i64 fp))
  have HZ5 := Lib.hid ((HZ3.out.far (p := ⟨r, 3, none⟩) hZr (.int .i64 fe)).far (p := ⟨r, 4, none⟩) hZr (.int .i64 fp))
  have hcZ := HZ5.out.cell
  have hcR := HR5.out.cell
  have hfR := HR5.out.frozen
  have HS := Lib.hid (set11 HR5.out (.int .i64 0) (.int .i64 0) (.int .i64 0) (.slice none 0 0) (.int .i64 0) (.string ⟨#[]⟩) (.int .i64 0) (.int .i64 0) (.string ⟨#[]⟩) (.int .i64 0) (.int .i64 0))
  have HT5 := Lib.hid (((Tur.of_below (S := (· = r)) HB3.out).setCell (p := ⟨r, 3, none⟩) (.inl rfl) (.int .i64 fe)).setCell (p := ⟨r, 4, none⟩) (.inl rfl) (.int .i64 fp))
  clear hq hqo hb2 bo3 p0 p1 p3 hfc hfp HS1 HR1 HG1 HZ1 C2 HCX HS4
  go_wp2_with fail
  generalize (World.setCell (World.setCell (w2.alloc (.cells (rqC (.slice Aq yq.cs.length cq) yq) 43)) ⟨r, 3, none⟩ (.int .i64 fe)) ⟨r, 4, none⟩ (.int .i64 fp)) = w5 at HS HS5 HR5 HT5 hcR hfR hcZ ⊢
  generalize (World.setCell (World.setCell (World.setCell (World.setCell (World.setCell (World.setCell (World.setCell (World.setCell (World.setCell (World.setCell (World.setCell w5 ⟨W.heap.size, 0, none⟩ (.int .i64 0)) ⟨W.heap.size, 1, none⟩ (.int .i64 0)) ⟨W.heap.size, 2, none⟩ (.int .i64 0)) ⟨W.heap.size, 3, none⟩ (.slice none 0 0)) ⟨W.heap.size, 4, none⟩ (.int .i64 0)) ⟨W.heap.size, 5, none⟩ (.string ⟨#[]⟩)) ⟨W.heap.size, 6, none⟩ (.int .i64 0)) ⟨W.heap.size, 7, none⟩ (.int .i64 0)) ⟨W.heap.size, 8, none⟩ (.string ⟨#[]⟩)) ⟨W.heap.size, 9, none⟩ (.int .i64 0)) ⟨W.heap.size, 10, none⟩ (.int .i64 0)) = w9 at HS ⊢
  have hc7 := HS.out.1.cell
  refine bodyPost_ret (v := .tuple #[.agg (rqC nilS rq0), .bool false, .int .i64 fe]) (by simp [results, Tryz.results41, go_sem, hc7, rq0, cell0]) rfl ?_
  have HT9 := Lib.hid (show Tur (· = r) W w9 from HT5.out.trans HS.out.2 (fun k hk => .inr (by omega)))
  have HS9 := Lib.hid (HS5.out.tur HS.out.2 (show ¬ r = W.heap.size by omega))
  refine RxQ.none_ (S' := S) (sNext_none HBD.out HO.out HD.out) ⟨B, .slice (some ⟨g, 0, none⟩) m c1, bs, HS9.out, ?_, (fun h => by cases h), (fun f hf => by cases hf; exact HF0.out), H.out.le, (fun e => HGR.out (by cases e; rfl)), H.out.rS, (fun k hk => H.out.vS k (by cases hk; rfl)), fun k hk => Nat.lt_of_lt_of_le (H.out.lt k hk) HT9.out.size, fun x hx => H.out.wf x (by rw [← HE.out, HBS.out]; have := List.mem_of_mem_drop hx; simp [this])⟩ (fun k hk => .inl hk) (HT9.out.widen (fun k _ hk => by subst hk; exact H.out.rS)) (KeepE.tur HT9.out (fun k hk => by subst hk; exact .inr ⟨_, _, H.out.blk, by decide⟩)) rfl
  have := ownsRow_tur H.out.own HT9.out (fun k hk e => HGR.out (by subst e; cases hk; rfl))
  rw [HM.out]
  exact this
/-- Next. -/
theorem r_next {W : World} {S : Nat → Prop} {r : Nat} {most : Int} {st : Ses} {K : Nat} (h : Rx W S r most st K) (hK : K ≤ 140737488355328) (hnn : st.n < 4611686018427387904) :
    Calls Tryz.prog 41 #[.pointer (some ⟨r, 0, none⟩)] W (RxQ W S r most st K) := by
  obtain ⟨B, v, bs, h⟩ := h
  rcases hb : st.bad with _ | f
  · have hs : bs.length < 4 → Calls Tryz.prog 41 #[.pointer (some ⟨r, 0, none⟩)] W (RxQ W S r most st K) := rx_short h hb
    have hwf : ∀ x ∈ bs, (Lit.int .u8 x).wf = true := by rw [h.eq hb]; exact h.wf
    match bs, h, hs, hwf with
    | [], h, hs, _ => exact hs (by simp)
    | [_], h, hs, _ => exact hs (by simp)
    | [_, _], h, hs, _ => exact hs (by simp)
    | [_, _, _], h, hs, _ => exact hs (by simp)
    | b0 :: b1 :: b2 :: b3 :: rest, h, _, hw =>
      obtain ⟨b0, rfl, k0⟩ := byte_nat (hw b0 (by simp))
      obtain ⟨b1, rfl, k1⟩ := byte_nat (hw b1 (by simp))
      obtain ⟨b2, rfl, k2⟩ := byte_nat (hw b2 (by simp))
      obtain ⟨b3, rfl, k3⟩ := byte_nat (hw b3 (by simp))
      by_cases ho : be4 b0 b1 b2 b3 < 1 ∨ most < (be4 b0 b1 b2 b3 : Int)
      · exact rx_bad k0 k1 k2 k3 h hb rfl ho
      · by_cases hw : rest.length < be4 b0 b1 b2 b3
        · exact rx_wait k0 k1 k2 k3 h hb rfl ho hw
        · rcases hd : (decRq (rest.take (be4 b0 b1 b2 b3))).2 with _ | ⟨fe, fp⟩
          · exact rx_told k0 k1 k2 k3 h hb rfl ho hw hK hnn hd
          · exact rx_fault k0 k1 k2 k3 h hb rfl ho hw hK hd
  · exact rx_broken h hb
end Go.Proofs.YtglbdbghcdoicaaGreatDoor
