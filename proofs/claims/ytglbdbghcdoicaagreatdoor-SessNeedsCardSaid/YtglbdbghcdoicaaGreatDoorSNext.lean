/- The session's Next. -/
import Derived.Test.YtglbdbghcdoicaaGreatDoorSSx
import Derived.Test.YtglbdbghcdoicaaGreatDoorCDecKs
namespace Go.Proofs.YtglbdbghcdoicaaGreatDoor
open Go.RowKit

theorem own_dn {W W1 : World} {B B' : Nat} {v : Value} {E : TypeId} {sz m : Nat} {ys : List Value} {S : Nat → Prop} (h : W.ownsRow B E sz v m ys) (ht : Tur S W W1) (hS : ∀ k, S k → k < B) (hB : B' ≤ B) : W1.ownsRow B' E sz v m ys := by
  have h2 := ownsRow_tur h ht (fun k e hs => by have := hS k hs; have := (h.lt k e).1; omega)
  refine ⟨h2.1, ?_⟩
  rcases h2.2 with h3 | ⟨g, cap, cur, e, hg, r⟩
  · exact .inl h3
  · exact .inr ⟨g, cap, cur, e, Nat.le_trans hB hg, r⟩
/-- What Next leaves. -/
def NxQ (W : World) (S : Nat → Prop) (s : Nat) (most : Int) (st : Ses) (e : Ending) (w' : World) : Prop :=
  ∃ S' A c ev, e = .returned (.tuple #[.agg (rqC (.slice A ((sNext most st).1.getD rq0).cs.length c) ((sNext most st).1.getD rq0)), .bool (sNext most st).1.isSome, ev]) ∧ Sx w' S' s most (sNext most st).2 ∧ (∀ k, S' k → S k ∨ W.heap.size ≤ k) ∧ Tur S W w' ∧ KeepE W w' ∧ FV w' ev (sNext most st).2.bad ∧ CellsOwn w' W.heap.size (.slice A ((sNext most st).1.getD rq0).cs.length c) ((sNext most st).1.getD rq0).cs ∧ ∀ k, (Value.slice A ((sNext most st).1.getD rq0).cs.length c).ownBlock = some k → ¬ S' k
theorem Tur.widen {S T : Nat → Prop} {W W' : World} (h : Tur S W W') (hs : ∀ k, k < W.heap.size → S k → T k) : Tur T W W' := ⟨h.os, h.tape, h.output, h.size, fun k hk hn => h.block k hk (fun hk' => hn (hs k hk hk'))⟩
/-- What is told where nothing is. -/
theorem NxQ.none_ {W w' : World} {S S' : Nat → Prop} {s : Nat} {most : Int} {st st' : Ses} {ev : Value} (h : sNext most st = (none, st')) (hx : Sx w' S' s most st') (hS : ∀ k, S' k → S k ∨ W.heap.size ≤ k) (ht : Tur S W w') (hk : KeepE W w') (hf : FV w' ev st'.bad) :
    NxQ W S s most st (.returned (.tuple #[.agg (rqC nilS rq0), .bool false, ev])) w' := by
  unfold NxQ
  rw [h]
  exact ⟨S', none, 0, ev, rfl, hx, hS, ht, hk, hf, World.ownsRow_nil _ _ _ _, fun k hk => by cases hk⟩
/-- All that a world of Next turns: blocks of S that are no errors, and new ones. -/
theorem KeepE.of {W W' : World} {S : Nat → Prop} (ht : Tur S W W') (a b : Nat) {ta tb : TypeId} {ca cb : Array Value} (ha : Blk W a ta ca) (hb : Blk W b tb cb) (hta : 111 ≠ ta) (htb : 111 ≠ tb) (hS : ∀ k, k < W.heap.size → S k → k = a ∨ k = b) : KeepE W W' :=
  KeepE.tur ht (fun k hk => by
    rcases Nat.lt_or_ge k W.heap.size with h | h
    · rcases hS k h hk with rfl | rfl
      · exact .inr ⟨_, _, ha, hta⟩
      · exact .inr ⟨_, _, hb, htb⟩
    · exact .inl h)
set_option maxHeartbeats 8000000 in
set_option maxRecDepth 100000 in
theorem nx_broken {W : World} {S : Nat → Prop} {s : Nat} {most : Int} {st : Ses} {q g : Nat} {f : Int × Int} (h : SxB W S s q g most st f) :
    Calls Tryz.prog 28 #[.pointer (some ⟨s, 0, none⟩)] W (NxQ W S s most st) := by
  have H := Lib.hid h
  have hlt := h.blk.lt
  have HB1 := Lib.hid ((Below.refl W.heap.size W).alloc (Nat.le_refl _) (.cells #[.int .i64 0, .int .i64 0, .int .i64 0, .slice none 0 0, .int .i64 0, .string ⟨#[]⟩, .int .i64 0, .int .i64 0, .string ⟨#[]⟩, .int .i64 0, .int .i64 0] 43))
  have HSB := Lib.hid (h.blk.alloc (.cells #[.int .i64 0, .int .i64 0, .int .i64 0, .slice none 0 0, .int .i64 0, .string ⟨#[]⟩, .int .i64 0, .int .i64 0, .string ⟨#[]⟩, .int .i64 0, .int .i64 0] 43))
  have HRB := Lib.hid (Blk.new W 43 #[.int .i64 0, .int .i64 0, .int .i64 0, .slice none 0 0, .int .i64 0, .string ⟨#[]⟩, .int .i64 0, .int .i64 0, .string ⟨#[]⟩, .int .i64 0, .int .i64 0])
  have p2 : (W.alloc (.cells #[.int .i64 0, .int .i64 0, .int .i64 0, .slice none 0 0, .int .i64 0, .string ⟨#[]⟩, .int .i64 0, .int .i64 0, .string ⟨#[]⟩, .int .i64 0, .int .i64 0] 43)).cell? ⟨s, 2, none⟩ = some (errV g) := HSB.out.cell 2
  clear h
  go_enter Tryz.func28, Tryz.ntmps28
  go_wp2_with fail
  generalize W.alloc (.cells #[.int .i64 0, .int .i64 0, .int .i64 0, .slice none 0 0, .int .i64 0, .string ⟨#[]⟩, .int .i64 0, .int .i64 0, .string ⟨#[]⟩, .int .i64 0, .int .i64 0] 43) = w1 at HB1 HSB HRB p2 ⊢
  generalize hR : W.heap.size = R at *
  have hne : ¬ s = R := by omega
  have hne2 : ¬ R = s := by omega
  have hcs := HSB.out.cell
  have hcR := HRB.out.cell
  have hfR := HRB.out.frozen
  have HS0 := Lib.hid (set11 HRB.out (.int .i64 0) (.int .i64 0) (.int .i64 0) (.slice none 0 0) (.int .i64 0) (.string ⟨#[]⟩) (.int .i64 0) (.int .i64 0) (.string ⟨#[]⟩) (.int .i64 0) (.int .i64 0))
  go_region
  all_goals (try go_wp2_with fail)
  generalize (World.setCell (World.setCell (World.setCell (World.setCell (World.setCell (World.setCell (World.setCell (World.setCell (World.setCell (World.setCell (World.setCell w1 ⟨R, 0, none⟩ (.int .i64 0)) ⟨R, 1, none⟩ (.int .i64 0)) ⟨R, 2, none⟩ (.int .i64 0)) ⟨R, 3, none⟩ (.slice none 0 0)) ⟨R, 4, none⟩ (.int .i64 0)) ⟨R, 5, none⟩ (.string ⟨#[]⟩)) ⟨R, 6, none⟩ (.int .i64 0)) ⟨R, 7, none⟩ (.int .i64 0)) ⟨R, 8, none⟩ (.string ⟨#[]⟩)) ⟨R, 9, none⟩ (.int .i64 0)) ⟨R, 10, none⟩ (.int .i64 0)) = w8 at HS0 ⊢
  have HS := Lib.hid (show Blk w8.drew R 43 #[.int .i64 0, .int .i64 0, .int .i64 0, .slice none 0 0, .int .i64 0, .string ⟨#[]⟩, .int .i64 0, .int .i64 0, .string ⟨#[]⟩, .int .i64 0, .int .i64 0] ∧ Tur (· = R) w1 w8.drew from ⟨HS0.out.1.drew, HS0.out.2.trans (Tur.of_below (S := fun _ => False) (Below.refl w8.heap.size w8).drew) (fun k hk => hk.elim)⟩)
  have hc7 := HS0.out.1.cell
  refine bodyPost_ret (v := .tuple #[.agg (rqC nilS rq0), .bool false, errV g]) (by simp [results, Tryz.results28, go_sem, hc7, rq0, cell0]) rfl ?_
  generalize w8.drew = w9 at HS ⊢
  have HT9 := Lib.hid (show Below R W w9 from HB1.out.trans (HS.out.2.below (by have := HB1.out.size; omega) (fun k e => by omega)))
  subst hR
  exact NxQ.none_ (sNext_broken H.out.bad) (Sx.kept (.inr ⟨q, g, f, H.out⟩) HT9.out) (fun k hk => .inl hk) (Tur.of_below HT9.out) (KeepE.below HT9.out) (by rw [H.out.bad]; exact ⟨H.out.f0, g, rfl, H.out.er.kept HT9.out⟩)
set_option maxHeartbeats 8000000 in
set_option maxRecDepth 100000 in
theorem nx_wait {W : World} {S : Nat → Prop} {s : Nat} {most : Int} {st : Ses} {q B : Nat} {v : Value} (h : SxG W S s q B most v st) (hn : st.bs.length ≤ 140737488355328) (ho : nextP most st.bs = .wait) :
    Calls Tryz.prog 28 #[.pointer (some ⟨s, 0, none⟩)] W (NxQ W S s most st) := by
  have HO := Lib.hid ho
  obtain ⟨A, c, hv, _, _, _⟩ := owned_form h.fm.own
  subst hv
  have H := Lib.hid h
  have hlt := h.blk.lt
  have HB1 := Lib.hid ((Below.refl W.heap.size W).alloc (Nat.le_refl _) (.cells #[.int .i64 0, .int .i64 0, .int .i64 0, .slice none 0 0, .int .i64 0, .string ⟨#[]⟩, .int .i64 0, .int .i64 0, .string ⟨#[]⟩, .int .i64 0, .int .i64 0] 43))
  have HSB := Lib.hid (h.blk.alloc (.cells #[.int .i64 0, .int .i64 0, .int .i64 0, .slice none 0 0, .int .i64 0, .string ⟨#[]⟩, .int .i64 0, .int .i64 0, .string ⟨#[]⟩, .int .i64 0, .int .i64 0] 43))
  have HRB := Lib.hid (Blk.new W 43 #[.int .i64 0, .int .i64 0, .int .i64 0, .slice none 0 0, .int .i64 0, .string ⟨#[]⟩, .int .i64 0, .int .i64 0, .string ⟨#[]⟩, .int .i64 0, .int .i64 0])
  have C := Lib.hid (f_next2 B q most A _ c st.bs (W.alloc (.cells #[.int .i64 0, .int .i64 0, .int .i64 0, .slice none 0 0, .int .i64 0, .string ⟨#[]⟩, .int .i64 0, .int .i64 0, .string ⟨#[]⟩, .int .i64 0, .int .i64 0] 43)) (h.fm.kept ((Below.refl W.heap.size W).alloc (Nat.le_refl _) (.cells #[.int .i64 0, .int .i64 0, .int .i64 0, .slice none 0 0, .int .i64 0, .string ⟨#[]⟩, .int .i64 0, .int .i64 0, .string ⟨#[]⟩, .int .i64 0, .int .i64 0] 43))) rfl h.wf hn)
  have p2 : (W.alloc (.cells #[.int .i64 0, .int .i64 0, .int .i64 0, .slice none 0 0, .int .i64 0, .string ⟨#[]⟩, .int .i64 0, .int .i64 0, .string ⟨#[]⟩, .int .i64 0, .int .i64 0] 43)).cell? ⟨s, 2, none⟩ = some .nilIface := HSB.out.cell 2
  have p0 : (W.alloc (.cells #[.int .i64 0, .int .i64 0, .int .i64 0, .slice none 0 0, .int .i64 0, .string ⟨#[]⟩, .int .i64 0, .int .i64 0, .string ⟨#[]⟩, .int .i64 0, .int .i64 0] 43)).cell? ⟨s, 0, none⟩ = some (.pointer (some ⟨q, 0, none⟩)) := HSB.out.cell 0
  have HSQ := Lib.hid (show s ≠ q from h.blk.ne_ h.fm.blk (by decide))
  have hql := h.fm.blk.lt
  rw [ho] at C
  generalize hm : st.bs.length = m at *
  clear h hn hm ho
  go_enter Tryz.func28, Tryz.ntmps28
  go_wp2_with fail
  go_at_call 52; (with_reducible refine C.out.mono ?_)
  rintro e w1 ⟨rfl, rfl⟩
  have hcR := HRB.out.cell
  have hfR := HRB.out.frozen
  go_wp2_with fail
  have HT9 := HB1
  generalize W.alloc (.cells #[.int .i64 0, .int .i64 0, .int .i64 0, .slice none 0 0, .int .i64 0, .string ⟨#[]⟩, .int .i64 0, .int .i64 0, .string ⟨#[]⟩, .int .i64 0, .int .i64 0] 43) = w9 at hcR HT9 ⊢
  refine bodyPost_ret (v := .tuple #[.agg (rqC nilS rq0), .bool false, .nilIface]) (by simp [results, Tryz.results28, go_sem, hcR, rq0, cell0]) rfl ?_
  exact NxQ.none_ (sNext_wait H.out.bad HO.out) (Sx.kept (.inl ⟨q, B, _, H.out⟩) HT9.out) (fun k hk => .inl hk) (Tur.of_below HT9.out) (KeepE.below HT9.out) (by rw [H.out.bad]; rfl)
set_option maxHeartbeats 8000000 in
set_option maxRecDepth 100000 in
theorem nx_bad {W : World} {S : Nat → Prop} {s : Nat} {most : Int} {st : Ses} {q B : Nat} {v : Value} (h : SxG W S s q B most v st) (hn : st.bs.length ≤ 140737488355328) (ho : nextP most st.bs = .bad) :
    Calls Tryz.prog 28 #[.pointer (some ⟨s, 0, none⟩)] W (NxQ W S s most st) := by
  have HO := Lib.hid ho
  obtain ⟨A, c, hv, _, _, _⟩ := owned_form h.fm.own
  subst hv
  have H := Lib.hid h
  have hlt := h.blk.lt
  have HB1 := Lib.hid ((Below.refl W.heap.size W).alloc (Nat.le_refl _) (.cells #[.int .i64 0, .int .i64 0, .int .i64 0, .slice none 0 0, .int .i64 0, .string ⟨#[]⟩, .int .i64 0, .int .i64 0, .string ⟨#[]⟩, .int .i64 0, .int .i64 0] 43))
  have HSB := Lib.hid (h.blk.alloc (.cells #[.int .i64 0, .int .i64 0, .int .i64 0, .slice none 0 0, .int .i64 0, .string ⟨#[]⟩, .int .i64 0, .int .i64 0, .string ⟨#[]⟩, .int .i64 0, .int .i64 0] 43))
  have HRB := Lib.hid (Blk.new W 43 #[.int .i64 0, .int .i64 0, .int .i64 0, .slice none 0 0, .int .i64 0, .string ⟨#[]⟩, .int .i64 0, .int .i64 0, .string ⟨#[]⟩, .int .i64 0, .int .i64 0])
  have C := Lib.hid (f_next2 B q most A _ c st.bs (W.alloc (.cells #[.int .i64 0, .int .i64 0, .int .i64 0, .slice none 0 0, .int .i64 0, .string ⟨#[]⟩, .int .i64 0, .int .i64 0, .string ⟨#[]⟩, .int .i64 0, .int .i64 0] 43)) (h.fm.kept ((Below.refl W.heap.size W).alloc (Nat.le_refl _) (.cells #[.int .i64 0, .int .i64 0, .int .i64 0, .slice none 0 0, .int .i64 0, .string ⟨#[]⟩, .int .i64 0, .int .i64 0, .string ⟨#[]⟩, .int .i64 0, .int .i64 0] 43))) rfl h.wf hn)
  have p2 : (W.alloc (.cells #[.int .i64 0, .int .i64 0, .int .i64 0, .slice none 0 0, .int .i64 0, .string ⟨#[]⟩, .int .i64 0, .int .i64 0, .string ⟨#[]⟩, .int .i64 0, .int .i64 0] 43)).cell? ⟨s, 2, none⟩ = some .nilIface := HSB.out.cell 2
  have p0 : (W.alloc (.cells #[.int .i64 0, .int .i64 0, .int .i64 0, .slice none 0 0, .int .i64 0, .string ⟨#[]⟩, .int .i64 0, .int .i64 0, .string ⟨#[]⟩, .int .i64 0, .int .i64 0] 43)).cell? ⟨s, 0, none⟩ = some (.pointer (some ⟨q, 0, none⟩)) := HSB.out.cell 0
  have HSQ := Lib.hid (show s ≠ q from h.blk.ne_ h.fm.blk (by decide))
  have hql := h.fm.blk.lt
  rw [ho] at C
  generalize hm : st.bs.length = m at *
  clear h hn hm ho
  go_enter Tryz.func28, Tryz.ntmps28
  go_wp2_with fail
  go_at_call 52; (with_reducible refine C.out.mono ?_)
  rintro e w1 ⟨rfl, ⟨g', hfq, hfe, hgl⟩, ht⟩
  have HQ1 := Lib.hid hfq
  have HE1 := Lib.hid hfe
  have HT1 := Lib.hid ht
  have hgl' : W.heap.size + 1 ≤ g' := by simpa using hgl
  have HSB1 := Lib.hid (HSB.out.tur ht HSQ.out)
  have HRB1 := Lib.hid (HRB.out.tur ht (show ¬ W.heap.size = q by omega))
  have q1 := HSB1.out.lt
  have q2 := HRB1.out.lt
  have q3 := hfe.lt
  clear hfq hfe ht hgl C HSB HRB p2 p0
  have hfs : w1.frozen? ⟨s, 2, none⟩ = false := HSB1.out.frozen 2
  have hcs2 : w1.cell? ⟨s, 2, none⟩ = some .nilIface := HSB1.out.cell 2
  have HSB := Lib.hid ((HSB1.out.set_ 2 (errV w1.heap.size)).alloc (.cells #[.int .i64 14, .int .i64 0] 111))
  have HRB := Lib.hid ((HRB1.out.far (p := ⟨s, 2, none⟩) (show W.heap.size ≠ s by omega) (errV w1.heap.size)).alloc (.cells #[.int .i64 14, .int .i64 0] 111))
  have HG2 := Lib.hid (blk_last (W := w1.setCell ⟨s, 2, none⟩ (errV w1.heap.size)) (t := 111) (cs := #[.int .i64 14, .int .i64 0]) (n := w1.heap.size) (by simp [World.setCell]))
  have HQ2 := Lib.hid ((HQ1.out.far (p := ⟨s, 2, none⟩) (Ne.symm HSQ.out) (errV w1.heap.size)).alloc (.cells #[.int .i64 14, .int .i64 0] 111))
  have HE2 := Lib.hid ((HE1.out.far (p := ⟨s, 2, none⟩) (HE1.out.ne_ HSB1.out (by decide)) (errV w1.heap.size)).alloc (.cells #[.int .i64 14, .int .i64 0] 111))
  have HTa : Tur (fun k => k = q ∨ k = s) W w1 := (Tur.of_below (S := fun k => k = q ∨ k = s) HB1.out).trans HT1.out (fun k hk => .inl (.inl hk))
  have HTb := HTa.setCell (p := ⟨s, 2, none⟩) (.inl (.inr rfl)) (errV w1.heap.size)
  have HT2 := Lib.hid (HTb.alloc (.cells #[.int .i64 14, .int .i64 0] 111))
  clear HTa HTb
  go_wp2_with fail
  obtain ⟨g, hg⟩ : ∃ g, g = w1.heap.size := ⟨_, rfl⟩
  rw [← hg] at HSB HRB HG2 HQ2 HE2 HT2 q1 q2 q3 ⊢
  generalize (World.alloc (w1.setCell ⟨s, 2, none⟩ (errV g)) (.cells #[.int .i64 14, .int .i64 0] 111)) = w2 at HSB HRB HG2 HQ2 HE2 HT2 ⊢
  generalize hR : W.heap.size = R at *
  have hne : ¬ s = R := by omega
  have hne2 : ¬ R = s := by omega
  have hcs := HSB.out.cell
  have hcR := HRB.out.cell
  have hfR := HRB.out.frozen
  have HS0 := Lib.hid (set11 HRB.out (.int .i64 0) (.int .i64 0) (.int .i64 0) (.slice none 0 0) (.int .i64 0) (.string ⟨#[]⟩) (.int .i64 0) (.int .i64 0) (.string ⟨#[]⟩) (.int .i64 0) (.int .i64 0))
  go_region
  all_goals (try go_wp2_with fail)
  generalize (World.setCell (World.setCell (World.setCell (World.setCell (World.setCell (World.setCell (World.setCell (World.setCell (World.setCell (World.setCell (World.setCell w2 ⟨R, 0, none⟩ (.int .i64 0)) ⟨R, 1, none⟩ (.int .i64 0)) ⟨R, 2, none⟩ (.int .i64 0)) ⟨R, 3, none⟩ (.slice none 0 0)) ⟨R, 4, none⟩ (.int .i64 0)) ⟨R, 5, none⟩ (.string ⟨#[]⟩)) ⟨R, 6, none⟩ (.int .i64 0)) ⟨R, 7, none⟩ (.int .i64 0)) ⟨R, 8, none⟩ (.string ⟨#[]⟩)) ⟨R, 9, none⟩ (.int .i64 0)) ⟨R, 10, none⟩ (.int .i64 0)) = w8 at HS0 ⊢
  have HS := Lib.hid (show Blk w8.drew R 43 #[.int .i64 0, .int .i64 0, .int .i64 0, .slice none 0 0, .int .i64 0, .string ⟨#[]⟩, .int .i64 0, .int .i64 0, .string ⟨#[]⟩, .int .i64 0, .int .i64 0] ∧ Tur (· = R) w2 w8.drew from ⟨HS0.out.1.drew, HS0.out.2.trans (Tur.of_below (S := fun _ => False) (Below.refl w8.heap.size w8).drew) (fun k hk => hk.elim)⟩)
  have hc7 := HS0.out.1.cell
  refine bodyPost_ret (v := .tuple #[.agg (rqC nilS rq0), .bool false, errV g]) (by simp [results, Tryz.results28, go_sem, hc7, rq0, cell0]) rfl ?_
  generalize w8.drew = w9 at HS ⊢
  have hsz2 := HT2.out.size
  have HT9 := Lib.hid (show Tur (fun k => k = q ∨ k = s) W w9 from HT2.out.trans HS.out.2 (fun k hk => .inr (by omega)))
  have HG9 := Lib.hid (HG2.out.tur HS.out.2 (show ¬ g = R by omega))
  have HQ9 := Lib.hid (HQ2.out.tur HS.out.2 (show ¬ q = R by omega))
  have HE9 := Lib.hid (HE2.out.tur HS.out.2 (show ¬ g' = R by omega))
  have HSB9 := Lib.hid (HSB.out.tur HS.out.2 hne)
  have hl9 := HT9.out.size
  subst hR
  refine NxQ.none_ (S' := S) (sNext_bad H.out.bad HO.out) (.inr ⟨q, g, (14, 0), HSB9.out, HG9.out, rfl, rfl, H.out.sS, H.out.qS, fun k hk => Nat.lt_of_lt_of_le (H.out.lt k hk) hl9, .inr ⟨g', A, m, c, HQ9.out, HE9.out⟩⟩) (fun k hk => .inl hk) ?_ ?_ ⟨rfl, g, rfl, HG9.out⟩
  · refine HT9.out.widen (fun k _ hk => ?_)
    rcases hk with rfl | rfl
    · exact H.out.qS
    · exact H.out.sS
  · exact KeepE.of HT9.out q s H.out.fm.blk H.out.blk (by decide) (by decide) (fun k _ hk => hk)
set_option maxHeartbeats 8000000 in
set_option maxRecDepth 100000 in
theorem nx_told {W : World} {S : Nat → Prop} {s : Nat} {most : Int} {st : Ses} {q B : Nat} {v : Value} {body tail : List Int} (hT : W.cell? ⟨0, 0, none⟩ = some tyErr) (h : SxG W S s q B most v st) (hn : st.bs.length ≤ 140737488355328) (hnn : st.n < 4611686018427387904) (ho : nextP most st.bs = .yes body tail) (hd : (decRq body).2 = none) :
    Calls Tryz.prog 28 #[.pointer (some ⟨s, 0, none⟩)] W (NxQ W S s most st) := by
  have HO := Lib.hid ho
  have HN := Lib.hid hn
  have HD := Lib.hid hd
  have HNN := Lib.hid hnn
  have HY := Lib.hid (nextP_yes_of HO.out)
  have HWL := Lib.hid (World.block_lt_of_cell? W _ hT)
  have HTQ := Lib.hid (show 0 ≠ q from fun e => by
    have h0 := h.fm.blk.cell 0
    rw [← e, hT] at h0
    cases h0)
  have HTY := Lib.hid hT
  clear hT
  obtain ⟨A, c, hv, _, _, _⟩ := owned_form h.fm.own
  subst hv
  have H := Lib.hid h
  have hlt := h.blk.lt
  have HB1 := Lib.hid ((Below.refl W.heap.size W).alloc (Nat.le_refl _) (.cells #[.int .i64 0, .int .i64 0, .int .i64 0, .slice none 0 0, .int .i64 0, .string ⟨#[]⟩, .int .i64 0, .int .i64 0, .string ⟨#[]⟩, .int .i64 0, .int .i64 0] 43))
  have HSB := Lib.hid (h.blk.alloc (.cells #[.int .i64 0, .int .i64 0, .int .i64 0, .slice none 0 0, .int .i64 0, .string ⟨#[]⟩, .int .i64 0, .int .i64 0, .string ⟨#[]⟩, .int .i64 0, .int .i64 0] 43))
  have HRB := Lib.hid (Blk.new W 43 #[.int .i64 0, .int .i64 0, .int .i64 0, .slice none 0 0, .int .i64 0, .string ⟨#[]⟩, .int .i64 0, .int .i64 0, .string ⟨#[]⟩, .int .i64 0, .int .i64 0])
  have C := Lib.hid (f_next2 B q most A _ c st.bs (W.alloc (.cells #[.int .i64 0, .int .i64 0, .int .i64 0, .slice none 0 0, .int .i64 0, .string ⟨#[]⟩, .int .i64 0, .int .i64 0, .string ⟨#[]⟩, .int .i64 0, .int .i64 0] 43)) (h.fm.kept ((Below.refl W.heap.size W).alloc (Nat.le_refl _) (.cells #[.int .i64 0, .int .i64 0, .int .i64 0, .slice none 0 0, .int .i64 0, .string ⟨#[]⟩, .int .i64 0, .int .i64 0, .string ⟨#[]⟩, .int .i64 0, .int .i64 0] 43))) rfl h.wf hn)
  have p2 : (W.alloc (.cells #[.int .i64 0, .int .i64 0, .int .i64 0, .slice none 0 0, .int .i64 0, .string ⟨#[]⟩, .int .i64 0, .int .i64 0, .string ⟨#[]⟩, .int .i64 0, .int .i64 0] 43)).cell? ⟨s, 2, none⟩ = some .nilIface := HSB.out.cell 2
  have p0 : (W.alloc (.cells #[.int .i64 0, .int .i64 0, .int .i64 0, .slice none 0 0, .int .i64 0, .string ⟨#[]⟩, .int .i64 0, .int .i64 0, .string ⟨#[]⟩, .int .i64 0, .int .i64 0] 43)).cell? ⟨s, 0, none⟩ = some (.pointer (some ⟨q, 0, none⟩)) := HSB.out.cell 0
  have HSQ := Lib.hid (show s ≠ q from h.blk.ne_ h.fm.blk (by decide))
  have hql := h.fm.blk.lt
  rw [ho] at C
  generalize hm : st.bs.length = m at *
  clear h hn hm ho hnn hd
  go_enter Tryz.func28, Tryz.ntmps28
  go_wp2_with fail
  go_at_call 52; (with_reducible refine C.out.mono ?_)
  rintro e w1 ⟨A', c', rfl, hr, v', hf, ht, hfr, hdj, hown⟩
  have HT1 := Lib.hid ht
  have HF1 := Lib.hid hf
  have HFR := Lib.hid hfr
  have HSB1 := Lib.hid (HSB.out.tur ht HSQ.out)
  have HRB1 := Lib.hid (HRB.out.tur ht (show ¬ W.heap.size = q by omega))
  have HTY1 := Lib.hid (show w1.cell? ⟨0, 0, none⟩ = some tyErr from (ht.cell_ (p := ⟨0, 0, none⟩) (by rw [show (W.alloc (.cells #[.int .i64 0, .int .i64 0, .int .i64 0, .slice none 0 0, .int .i64 0, .string ⟨#[]⟩, .int .i64 0, .int .i64 0, .string ⟨#[]⟩, .int .i64 0, .int .i64 0] 43)).heap.size = W.heap.size + 1 by simp]; have := HWL.out; exact Nat.lt_succ_of_lt this) HTQ.out).trans (tyErr_alloc HTY.out _))
  have C2 := Lib.hid (decode_rq A' body.length c' body w1 rfl hr.cells (fun x hx => H.out.wf x (HY.out.2.2.2.2.1 x hx)) (by have := HY.out.2.1; have := HN.out; omega) HTY1.out)
  clear hr hf ht hfr hdj hown C HSB HRB p2 p0
  go_wp2_with fail
  go_at_call 53; (with_reducible refine C2.out.mono ?_); rintro e w2 hq
  obtain ⟨vq, ev, rfl, hqo, hqf, hb⟩ := DecQ.open_ hq
  obtain ⟨Aq, cq, rfl⟩ := own_form3 hqo
  rw [HD.out] at hqf
  obtain rfl : ev = .nilIface := hqf
  have HB2 := Lib.hid hb
  generalize hyq : (decRq body).1 = yq at *
  have HYQ := Lib.hid hyq
  have HO2 := Lib.hid hqo
  have HSB2 := Lib.hid ((HSB1.out.kept hb).alloc (.cells (rqC (.slice Aq yq.cs.length cq) yq) 43))
  have HRB2 := Lib.hid ((HRB1.out.kept hb).alloc (.cells (rqC (.slice Aq yq.cs.length cq) yq) 43))
  have HK2 := Lib.hid (Blk.new w2 43 (rqC (.slice Aq yq.cs.length cq) yq))
  have l1 : W.heap.size + 1 ≤ w1.heap.size := by have := HT1.out.size; simpa using this
  have l2 := hb.size
  have hs1 := HSB2.out.cell 1
  have hf1 := HSB2.out.frozen 1
  have hck := (HK2.out.far (p := ⟨s, 1, none⟩) (show w2.heap.size ≠ s by omega) (.int .i64 ((st.n : Int) + 1))).cell
  have HR3 := Lib.hid (HRB2.out.far (p := ⟨s, 1, none⟩) (show W.heap.size ≠ s by omega) (.int .i64 ((st.n : Int) + 1)))
  have HS3 := Lib.hid (HSB2.out.set_ 1 (.int .i64 ((st.n : Int) + 1)))
  have hcR := HR3.out.cell
  have hfR := HR3.out.frozen
  have hw1 : IntKind.i64.wrap ((st.n : Int) + 1) = (st.n : Int) + 1 := by rw [IntKind.wrap_i64]; have := HNN.out; omega
  have HS := Lib.hid (set11 HR3.out (.int .i64 yq.kind) (.int .i64 yq.id) (.int .i64 yq.epoch) (.slice Aq yq.cs.length cq) (.int .i64 yq.frm.view) (.string yq.frm.key) (.int .i64 yq.frm.start) (.int .i64 yq.too.view) (.string yq.too.key) (.int .i64 yq.too.start) (.int .i64 yq.limit))
  have HT3 := Lib.hid (show Tur (fun k => k = q ∨ k = s) W ((w2.alloc (.cells (rqC (.slice Aq yq.cs.length cq) yq) 43)).setCell ⟨s, 1, none⟩ (.int .i64 ((st.n : Int) + 1))) from
    Tur.setCell (p := ⟨s, 1, none⟩) (Tur.alloc (((Tur.of_below (S := fun k => k = q ∨ k = s) HB1.out).trans HT1.out (fun k hk => .inl (.inl hk))).trans (Tur.of_below (S := fun _ => False) hb) (fun k hk => hk.elim)) _) (.inl (.inr rfl)) _)
  have HFM := Lib.hid (show Fm ((w2.alloc (.cells (rqC (.slice Aq yq.cs.length cq) yq) 43)).setCell ⟨s, 1, none⟩ (.int .i64 ((st.n : Int) + 1))) B q most v' tail from
    ((HF1.out.kept hb).kept ((Below.refl _ _).alloc (Nat.le_refl _) _)).turn (Tur.setCell (S := (· = s)) (p := ⟨s, 1, none⟩) (Tur.refl _ _) (.inl rfl) _) (show ¬ q = s from Ne.symm HSQ.out) (fun k hk e => by have := HFR.out k hk; have := (show W.heap.size ≤ (W.alloc (.cells #[.int .i64 0, .int .i64 0, .int .i64 0, .slice none 0 0, .int .i64 0, .string ⟨#[]⟩, .int .i64 0, .int .i64 0, .string ⟨#[]⟩, .int .i64 0, .int .i64 0] 43)).heap.size by simp); omega))
  have HOW := Lib.hid (show CellsOwn ((w2.alloc (.cells (rqC (.slice Aq yq.cs.length cq) yq) 43)).setCell ⟨s, 1, none⟩ (.int .i64 ((st.n : Int) + 1))) w1.heap.size (.slice Aq yq.cs.length cq) yq.cs from
    ownsRow_tur (hqo.kept_ ((Below.refl _ _).alloc (Nat.le_refl _) _)) (Tur.setCell (S := (· = s)) (p := ⟨s, 1, none⟩) (Tur.refl _ _) (.inl rfl) _) (fun k hk e => by have := (hqo.lt k hk).1; omega))
  clear hq hqo hb hyq HB2 HRB1 C2 HSB1
  go_wp2_with fail
  generalize (World.setCell (w2.alloc (.cells (rqC (.slice Aq yq.cs.length cq) yq) 43)) ⟨s, 1, none⟩ (.int .i64 ((st.n : Int) + 1))) = w3 at HS HS3 HR3 HT3 HFM HOW hck hcR hfR ⊢
  generalize (World.setCell (World.setCell (World.setCell (World.setCell (World.setCell (World.setCell (World.setCell (World.setCell (World.setCell (World.setCell (World.setCell w3 ⟨W.heap.size, 0, none⟩ (.int .i64 yq.kind)) ⟨W.heap.size, 1, none⟩ (.int .i64 yq.id)) ⟨W.heap.size, 2, none⟩ (.int .i64 yq.epoch)) ⟨W.heap.size, 3, none⟩ (.slice Aq yq.cs.length cq)) ⟨W.heap.size, 4, none⟩ (.int .i64 yq.frm.view)) ⟨W.heap.size, 5, none⟩ (.string yq.frm.key)) ⟨W.heap.size, 6, none⟩ (.int .i64 yq.frm.start)) ⟨W.heap.size, 7, none⟩ (.int .i64 yq.too.view)) ⟨W.heap.size, 8, none⟩ (.string yq.too.key)) ⟨W.heap.size, 9, none⟩ (.int .i64 yq.too.start)) ⟨W.heap.size, 10, none⟩ (.int .i64 yq.limit)) = w9 at HS ⊢
  have hc7 := HS.out.1.cell
  refine bodyPost_ret (v := .tuple #[.agg (rqC (.slice Aq yq.cs.length cq) yq), .bool true, .nilIface]) (by simp [results, Tryz.results28, go_sem, hc7]) rfl ?_
  have HT9 := Lib.hid (show Tur (fun k => k = q ∨ k = s) W w9 from HT3.out.trans HS.out.2 (fun k hk => .inr (by omega)))
  have HFM9 := Lib.hid (HFM.out.turn HS.out.2 (show ¬ q = W.heap.size by omega) (fun k hk e => by have := HFR.out k hk; have := (show (W.alloc (.cells #[.int .i64 0, .int .i64 0, .int .i64 0, .slice none 0 0, .int .i64 0, .string ⟨#[]⟩, .int .i64 0, .int .i64 0, .string ⟨#[]⟩, .int .i64 0, .int .i64 0] 43)).heap.size = W.heap.size + 1 by simp); omega))
  have HSB9 := Lib.hid (HS3.out.tur HS.out.2 (show ¬ s = W.heap.size by omega))
  have hsn := sNext_yes H.out.bad HO.out HD.out
  unfold NxQ
  rw [hsn]
  have hvn : ∀ k, v'.ownBlock = some k → W.heap.size + 1 ≤ k := fun k hk => by have := HFR.out k hk; have := (show (W.alloc (.cells #[.int .i64 0, .int .i64 0, .int .i64 0, .slice none 0 0, .int .i64 0, .string ⟨#[]⟩, .int .i64 0, .int .i64 0, .string ⟨#[]⟩, .int .i64 0, .int .i64 0] 43)).heap.size = W.heap.size + 1 by simp); omega
  refine ⟨fun k => S k ∨ v'.ownBlock = some k, Aq, cq, .nilIface, by rw [← HYQ.out]; rfl, .inl ⟨q, B, v', HSB9.out, HFM9.out, rfl, ?_, .inl H.out.sS, .inl H.out.qS, (fun k hk => .inr hk), ?_, fun x hx => H.out.wf x (HY.out.2.2.2.1 x hx)⟩, ?_, ?_, KeepE.of HT9.out q s H.out.fm.blk H.out.blk (by decide) (by decide) (fun k _ hk => hk), rfl, ?_, ?_⟩
  · intro e; have := hvn s e; omega
  · intro k hk
    rcases hk with hk | hk
    · exact Nat.lt_of_lt_of_le (H.out.lt k hk) HT9.out.size
    · exact (HFM9.out.lt k hk).2
  · intro k hk
    rcases hk with hk | hk
    · exact .inl hk
    · exact .inr (by have := hvn k hk; omega)
  · refine HT9.out.widen (fun k _ hk => ?_)
    rcases hk with rfl | rfl
    · exact H.out.qS
    · exact H.out.sS
  · show CellsOwn w9 W.heap.size (.slice Aq (decRq body).1.cs.length cq) (decRq body).1.cs
    rw [HYQ.out]
    exact own_dn HOW.out HS.out.2 (fun k hk => by omega) (by omega)
  · intro k hk hs
    have hk : (Value.slice Aq (decRq body).1.cs.length cq).ownBlock = some k := hk
    rw [HYQ.out] at hk
    have h1 := (HOW.out.lt k hk).1
    rcases hs with hs | hs
    · have := H.out.lt k hs; omega
    · have := (HF1.out.lt k hs).2; omega
set_option maxHeartbeats 8000000 in
set_option maxRecDepth 100000 in
theorem nx_fault {W : World} {S : Nat → Prop} {s : Nat} {most : Int} {st : Ses} {q B : Nat} {v : Value} {body tail : List Int} {f : Int × Int} (hT : W.cell? ⟨0, 0, none⟩ = some tyErr) (h : SxG W S s q B most v st) (hn : st.bs.length ≤ 140737488355328) (ho : nextP most st.bs = .yes body tail) (hd : (decRq body).2 = some f) :
    Calls Tryz.prog 28 #[.pointer (some ⟨s, 0, none⟩)] W (NxQ W S s most st) := by
  have HO := Lib.hid ho
  have HN := Lib.hid hn
  have HD := Lib.hid hd
  have HY := Lib.hid (nextP_yes_of HO.out)
  have HWL := Lib.hid (World.block_lt_of_cell? W _ hT)
  have HTQ := Lib.hid (show 0 ≠ q from fun e => by
    have h0 := h.fm.blk.cell 0
    rw [← e, hT] at h0
    cases h0)
  have HTY := Lib.hid hT
  clear hT
  obtain ⟨A, c, hv, _, _, _⟩ := owned_form h.fm.own
  subst hv
  have H := Lib.hid h
  have hlt := h.blk.lt
  have HB1 := Lib.hid ((Below.refl W.heap.size W).alloc (Nat.le_refl _) (.cells #[.int .i64 0, .int .i64 0, .int .i64 0, .slice none 0 0, .int .i64 0, .string ⟨#[]⟩, .int .i64 0, .int .i64 0, .string ⟨#[]⟩, .int .i64 0, .int .i64 0] 43))
  have HSB := Lib.hid (h.blk.alloc (.cells #[.int .i64 0, .int .i64 0, .int .i64 0, .slice none 0 0, .int .i64 0, .string ⟨#[]⟩, .int .i64 0, .int .i64 0, .string ⟨#[]⟩, .int .i64 0, .int .i64 0] 43))
  have HRB := Lib.hid (Blk.new W 43 #[.int .i64 0, .int .i64 0, .int .i64 0, .slice none 0 0, .int .i64 0, .string ⟨#[]⟩, .int .i64 0, .int .i64 0, .string ⟨#[]⟩, .int .i64 0, .int .i64 0])
  have C := Lib.hid (f_next2 B q most A _ c st.bs (W.alloc (.cells #[.int .i64 0, .int .i64 0, .int .i64 0, .slice none 0 0, .int .i64 0, .string ⟨#[]⟩, .int .i64 0, .int .i64 0, .string ⟨#[]⟩, .int .i64 0, .int .i64 0] 43)) (h.fm.kept ((Below.refl W.heap.size W).alloc (Nat.le_refl _) (.cells #[.int .i64 0, .int .i64 0, .int .i64 0, .slice none 0 0, .int .i64 0, .string ⟨#[]⟩, .int .i64 0, .int .i64 0, .string ⟨#[]⟩, .int .i64 0, .int .i64 0] 43))) rfl h.wf hn)
  have p2 : (W.alloc (.cells #[.int .i64 0, .int .i64 0, .int .i64 0, .slice none 0 0, .int .i64 0, .string ⟨#[]⟩, .int .i64 0, .int .i64 0, .string ⟨#[]⟩, .int .i64 0, .int .i64 0] 43)).cell? ⟨s, 2, none⟩ = some .nilIface := HSB.out.cell 2
  have p0 : (W.alloc (.cells #[.int .i64 0, .int .i64 0, .int .i64 0, .slice none 0 0, .int .i64 0, .string ⟨#[]⟩, .int .i64 0, .int .i64 0, .string ⟨#[]⟩, .int .i64 0, .int .i64 0] 43)).cell? ⟨s, 0, none⟩ = some (.pointer (some ⟨q, 0, none⟩)) := HSB.out.cell 0
  have HSQ := Lib.hid (show s ≠ q from h.blk.ne_ h.fm.blk (by decide))
  have hql := h.fm.blk.lt
  rw [ho] at C
  generalize hm : st.bs.length = m at *
  clear h hn hm ho hd
  go_enter Tryz.func28, Tryz.ntmps28
  go_wp2_with fail
  go_at_call 52; (with_reducible refine C.out.mono ?_)
  rintro e w1 ⟨A', c', rfl, hr, v', hf, ht, hfr, hdj, hown⟩
  have HT1 := Lib.hid ht
  have HF1 := Lib.hid hf
  have HFR := Lib.hid hfr
  have HSB1 := Lib.hid (HSB.out.tur ht HSQ.out)
  have HRB1 := Lib.hid (HRB.out.tur ht (show ¬ W.heap.size = q by omega))
  have HTY1 := Lib.hid (show w1.cell? ⟨0, 0, none⟩ = some tyErr from (ht.cell_ (p := ⟨0, 0, none⟩) (by rw [show (W.alloc (.cells #[.int .i64 0, .int .i64 0, .int .i64 0, .slice none 0 0, .int .i64 0, .string ⟨#[]⟩, .int .i64 0, .int .i64 0, .string ⟨#[]⟩, .int .i64 0, .int .i64 0] 43)).heap.size = W.heap.size + 1 by simp]; have := HWL.out; exact Nat.lt_succ_of_lt this) HTQ.out).trans (tyErr_alloc HTY.out _))
  have C2 := Lib.hid (decode_rq A' body.length c' body w1 rfl hr.cells (fun x hx => H.out.wf x (HY.out.2.2.2.2.1 x hx)) (by have := HY.out.2.1; have := HN.out; omega) HTY1.out)
  clear hr hf ht hfr hdj hown C HSB HRB p2 p0
  go_wp2_with fail
  go_at_call 53; (with_reducible refine C2.out.mono ?_); rintro e w2 hq
  obtain ⟨vq, ev, rfl, hqo, hqf, hb⟩ := DecQ.open_ hq
  obtain ⟨Aq, cq, rfl⟩ := own_form3 hqo
  rw [HD.out] at hqf
  obtain ⟨ec, ep⟩ := f
  obtain ⟨hf0, g, rfl, hge⟩ := hqf
  have HF0 := Lib.hid hf0
  have HB2 := Lib.hid hb
  have l1 : W.heap.size + 1 ≤ w1.heap.size := by have := HT1.out.size; simpa using this
  have l2 := hb.size
  have HE2 := Lib.hid (hge.alloc (.cells (rqC (.slice Aq (decRq body).1.cs.length cq) (decRq body).1) 43))
  have HSB2 := Lib.hid ((HSB1.out.kept hb).alloc (.cells (rqC (.slice Aq (decRq body).1.cs.length cq) (decRq body).1) 43))
  have HRB2 := Lib.hid ((HRB1.out.kept hb).alloc (.cells (rqC (.slice Aq (decRq body).1.cs.length cq) (decRq body).1) 43))
  have HF2 := Lib.hid ((HF1.out.kept hb).kept ((Below.refl _ _).alloc (Nat.le_refl _) (.cells (rqC (.slice Aq (decRq body).1.cs.length cq) (decRq body).1) 43)))
  have hgs : g ≠ s := HE2.out.ne_ HSB2.out (by decide)
  have hgR : g ≠ W.heap.size := HE2.out.ne_ HRB2.out (by decide)
  have hfs := HSB2.out.frozen 2
  have hcs2 := HSB2.out.cell 2
  have HSB := Lib.hid (HSB2.out.set_ 2 (errV g))
  have HRB := Lib.hid (HRB2.out.far (p := ⟨s, 2, none⟩) (show W.heap.size ≠ s by omega) (errV g))
  have HE3 := Lib.hid (HE2.out.far (p := ⟨s, 2, none⟩) hgs (errV g))
  have HF3 := Lib.hid (HF2.out.turn (Tur.setCell (S := (· = s)) (p := ⟨s, 2, none⟩) (Tur.refl _ _) (.inl rfl) (errV g)) (show ¬ q = s from Ne.symm HSQ.out) (fun k hk e => by have := HFR.out k hk; have := (show (W.alloc (.cells #[.int .i64 0, .int .i64 0, .int .i64 0, .slice none 0 0, .int .i64 0, .string ⟨#[]⟩, .int .i64 0, .int .i64 0, .string ⟨#[]⟩, .int .i64 0, .int .i64 0] 43)).heap.size = W.heap.size + 1 by simp); omega))
  have HT2 := Lib.hid (show Tur (fun k => k = q ∨ k = s) W (World.setCell (w2.alloc (.cells (rqC (.slice Aq (decRq body).1.cs.length cq) (decRq body).1) 43)) ⟨s, 2, none⟩ (errV g)) from
    Tur.setCell (p := ⟨s, 2, none⟩) (Tur.alloc (((Tur.of_below (S := fun k => k = q ∨ k = s) HB1.out).trans HT1.out (fun k hk => .inl (.inl hk))).trans (Tur.of_below (S := fun _ => False) hb) (fun k hk => hk.elim)) _) (.inl (.inr rfl)) _)
  clear hq hqo hb hf0 hge HB2 HRB1 C2 HSB1
  go_wp2_with fail
  generalize (World.setCell (w2.alloc (.cells (rqC (.slice Aq (decRq body).1.cs.length cq) (decRq body).1) 43)) ⟨s, 2, none⟩ (errV g)) = w3 at HSB HRB HE3 HF3 HT2 ⊢
  generalize hR : W.heap.size = R at *
  have hne : ¬ s = R := by omega
  have hne2 : ¬ R = s := by omega
  have hcs := HSB.out.cell
  have hcR := HRB.out.cell
  have hfR := HRB.out.frozen
  have HS0 := Lib.hid (set11 HRB.out (.int .i64 0) (.int .i64 0) (.int .i64 0) (.slice none 0 0) (.int .i64 0) (.string ⟨#[]⟩) (.int .i64 0) (.int .i64 0) (.string ⟨#[]⟩) (.int .i64 0) (.int .i64 0))
  go_region
  all_goals (try go_wp2_with fail)
  generalize (World.setCell (World.setCell (World.setCell (World.setCell (World.setCell (World.setCell (World.setCell (World.setCell (World.setCell (World.setCell (World.setCell w3 ⟨R, 0, none⟩ (.int .i64 0)) ⟨R, 1, none⟩ (.int .i64 0)) ⟨R, 2, none⟩ (.int .i64 0)) ⟨R, 3, none⟩ (.slice none 0 0)) ⟨R, 4, none⟩ (.int .i64 0)) ⟨R, 5, none⟩ (.string ⟨#[]⟩)) ⟨R, 6, none⟩ (.int .i64 0)) ⟨R, 7, none⟩ (.int .i64 0)) ⟨R, 8, none⟩ (.string ⟨#[]⟩)) ⟨R, 9, none⟩ (.int .i64 0)) ⟨R, 10, none⟩ (.int .i64 0)) = w8 at HS0 ⊢
  have HS := Lib.hid (show Blk w8.drew R 43 #[.int .i64 0, .int .i64 0, .int .i64 0, .slice none 0 0, .int .i64 0, .string ⟨#[]⟩, .int .i64 0, .int .i64 0, .string ⟨#[]⟩, .int .i64 0, .int .i64 0] ∧ Tur (· = R) w3 w8.drew from ⟨HS0.out.1.drew, HS0.out.2.trans (Tur.of_below (S := fun _ => False) (Below.refl w8.heap.size w8).drew) (fun k hk => hk.elim)⟩)
  have hc7 := HS0.out.1.cell
  refine bodyPost_ret (v := .tuple #[.agg (rqC nilS rq0), .bool false, errV g]) (by simp [results, Tryz.results28, go_sem, hc7, rq0, cell0]) rfl ?_
  generalize w8.drew = w9 at HS ⊢
  have hsz2 := HT2.out.size
  have HT9 := Lib.hid (show Tur (fun k => k = q ∨ k = s) W w9 from HT2.out.trans HS.out.2 (fun k hk => .inr (by omega)))
  have HE9 := Lib.hid (HE3.out.tur HS.out.2 hgR)
  have HSB9 := Lib.hid (HSB.out.tur HS.out.2 hne)
  have hvn : ∀ k, v'.ownBlock = some k → R + 1 ≤ k := fun k hk => by have := HFR.out k hk; have := (show (W.alloc (.cells #[.int .i64 0, .int .i64 0, .int .i64 0, .slice none 0 0, .int .i64 0, .string ⟨#[]⟩, .int .i64 0, .int .i64 0, .string ⟨#[]⟩, .int .i64 0, .int .i64 0] 43)).heap.size = W.heap.size + 1 by simp); omega
  have HF9 := Lib.hid (HF3.out.turn HS.out.2 (show ¬ q = R by omega) (fun k hk e => by have := hvn k hk; omega))
  subst hR
  refine NxQ.none_ (S' := fun k => S k ∨ v'.ownBlock = some k) (sNext_none H.out.bad HO.out HD.out) (.inr ⟨q, g, (ec, ep), HSB9.out, HE9.out, rfl, HF0.out, .inl H.out.sS, .inl H.out.qS, ?_, .inl ⟨v', B, tail, HF9.out, Nat.le_refl _, fun k hk => .inr hk⟩⟩) ?_ ?_ ?_ ⟨HF0.out, g, rfl, HE9.out⟩
  · intro k hk
    rcases hk with hk | hk
    · exact Nat.lt_of_lt_of_le (H.out.lt k hk) HT9.out.size
    · exact (HF9.out.lt k hk).2
  · intro k hk
    rcases hk with hk | hk
    · exact .inl hk
    · exact .inr (by have := hvn k hk; omega)
  · refine HT9.out.widen (fun k _ hk => ?_)
    rcases hk with rfl | rfl
    · exact H.out.qS
    · exact H.out.sS
  · exact KeepE.of HT9.out q s H.out.fm.blk H.out.blk (by decide) (by decide) (fun k _ hk => hk)
/-- Next. -/
theorem s_next {W : World} {S : Nat → Prop} {s : Nat} {most : Int} {st : Ses} (h : Sx W S s most st) (hT : W.cell? ⟨0, 0, none⟩ = some tyErr) (hn : st.bs.length ≤ 140737488355328) (hnn : st.n < 4611686018427387904) :
    Calls Tryz.prog 28 #[.pointer (some ⟨s, 0, none⟩)] W (NxQ W S s most st) := by
  rcases h with ⟨q, B, v, h⟩ | ⟨q, g, f, h⟩
  · rcases ho : nextP most st.bs with _ | _ | ⟨body, tail⟩
    · exact nx_wait h hn ho
    · exact nx_bad h hn ho
    · rcases hd : (decRq body).2 with _ | f
      · exact nx_told hT h hn hnn ho hd
      · exact nx_fault hT h hn ho hd
  · exact nx_broken h
end Go.Proofs.YtglbdbghcdoicaaGreatDoor
