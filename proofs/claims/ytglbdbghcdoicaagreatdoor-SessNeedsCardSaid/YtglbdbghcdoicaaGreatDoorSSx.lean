/- A session in memory: New, Feed, Asked. -/
import Derived.Test.YtglbdbghcdoicaaGreatDoorSPure
import Derived.Test.YtglbdbghcdoicaaGreatDoorSFv
namespace Go.Proofs.YtglbdbghcdoicaaGreatDoor
open Go.RowKit

/-- No error is turned. -/
def KeepE (W W' : World) : Prop := ∀ g cs, Blk W g 111 cs → Blk W' g 111 cs
section
variable {W W' W2 : World} {S : Nat → Prop}
theorem KeepE.refl (W : World) : KeepE W W := fun _ _ h => h
theorem KeepE.trans (h : KeepE W W') (h' : KeepE W' W2) : KeepE W W2 := fun g cs hb => h' g cs (h g cs hb)
theorem Tur.cell_ (h : Tur S W W') {p : Addr} (hp : p.block < W.heap.size) (hn : ¬ S p.block) : W'.cell? p = W.cell? p := by
  simp only [World.cell?, h.block _ hp hn]
theorem KeepE.below (hb : Below W.heap.size W W') : KeepE W W' := fun _ _ h => h.kept hb
theorem KeepE.tur (ht : Tur S W W') (hS : ∀ k, S k → W.heap.size ≤ k ∨ ∃ t cs, Blk W k t cs ∧ 111 ≠ t) : KeepE W W' := fun g cs h => h.tur ht (fun hs => by
  rcases hS g hs with h2 | ⟨t, cs', hb, hne⟩
  · exact absurd h.lt (by omega)
  · exact h.ne_ hb hne rfl)
theorem FV.keep {ev : Value} {f : Option (Int × Int)} (h : FV W ev f) (hk : KeepE W W') : FV W' ev f := by
  rcases f with _ | ⟨e, p⟩
  · exact h
  · obtain ⟨h0, g, h1, h2⟩ := h
    exact ⟨h0, g, h1, hk _ _ h2⟩
theorem own_blk {base : Nat} {e : TypeId} {size : Nat} {v : Value} {n : Nat} {xs : List Value} (h : W.ownsRow base e size v n xs) : ∀ k, v.ownBlock = some k → ∃ cur, Blk W k e cur := fun k hk => by
  rcases h.2 with ⟨rfl, _⟩ | ⟨g, cap, cur, rfl, _, hg, _⟩
  · cases hk
  · cases hk; exact ⟨cur, hg⟩
end
/-- A session at s that is good: Frames at q, its row v. -/
structure SxG (W : World) (S : Nat → Prop) (s q B : Nat) (most : Int) (v : Value) (st : Ses) : Prop where
  blk : Blk W s 89 #[.pointer (some ⟨q, 0, none⟩), .int .i64 (st.n : Int), .nilIface]
  fm : Fm W B q most v st.bs
  bad : st.bad = none
  vs : v.ownBlock ≠ some s
  sS : S s
  qS : S q
  vS : ∀ k, v.ownBlock = some k → S k
  lt : ∀ k, S k → k < W.heap.size
  wf : ∀ x ∈ st.bs, (Lit.int .u8 x).wf = true
/-- One that is broken. -/
structure SxB (W : World) (S : Nat → Prop) (s q g : Nat) (most : Int) (st : Ses) (f : Int × Int) : Prop where
  blk : Blk W s 89 #[.pointer (some ⟨q, 0, none⟩), .int .i64 (st.n : Int), errV g]
  er : Blk W g 111 #[.int .i64 f.1, .int .i64 f.2]
  bad : st.bad = some f
  f0 : (f.1 == 0) = false
  sS : S s
  qS : S q
  lt : ∀ k, S k → k < W.heap.size
  fr : (∃ v B bs, Fm W B q most v bs ∧ bs.length ≤ st.bs.length ∧ (∀ k, v.ownBlock = some k → S k)) ∨ ∃ g' A m c, Blk W q 125 #[.int .i64 most, .slice A m c, errV g'] ∧ Blk W g' 111 #[.int .i64 14, .int .i64 0]
def Sx (W : World) (S : Nat → Prop) (s : Nat) (most : Int) (st : Ses) : Prop := (∃ q B v, SxG W S s q B most v st) ∨ ∃ q g f, SxB W S s q g most st f
section
variable {W W' : World} {S T : Nat → Prop} {s q B g : Nat} {most : Int} {v : Value} {st : Ses} {f : Int × Int}
theorem Sx.lt (h : Sx W S s most st) : ∀ k, S k → k < W.heap.size := by
  rcases h with ⟨q, B, v, h⟩ | ⟨q, g, f, h⟩
  · exact h.lt
  · exact h.lt
theorem Sx.at_ (h : Sx W S s most st) : S s := by
  rcases h with ⟨q, B, v, h⟩ | ⟨q, g, f, h⟩
  · exact h.sS
  · exact h.sS
theorem Sx.turn (h : Sx W S s most st) (ht : Tur T W W') (hk : KeepE W W') (hd : ∀ k, T k → ¬ S k) : Sx W' S s most st := by
  have hn : ∀ k, S k → ¬ T k := fun k hk h2 => hd k h2 hk
  rcases h with ⟨q, B, v, h⟩ | ⟨q, g, f, h⟩
  · exact .inl ⟨q, B, v, h.blk.tur ht (hn _ h.sS), h.fm.turn ht (hn _ h.qS) (fun k hk => hn _ (h.vS k hk)), h.bad, h.vs, h.sS, h.qS, h.vS, fun k hk => Nat.lt_of_lt_of_le (h.lt k hk) ht.size, h.wf⟩
  · refine .inr ⟨q, g, f, h.blk.tur ht (hn _ h.sS), hk _ _ h.er, h.bad, h.f0, h.sS, h.qS, fun k hk => Nat.lt_of_lt_of_le (h.lt k hk) ht.size, ?_⟩
    rcases h.fr with ⟨v, B, bs, hf, hl, hv⟩ | ⟨g', A, m, c, hq, he⟩
    · exact .inl ⟨v, B, bs, hf.turn ht (hn _ h.qS) (fun k hk => hn _ (hv k hk)), hl, hv⟩
    · exact .inr ⟨g', A, m, c, hq.tur ht (hn _ h.qS), hk _ _ he⟩
theorem Sx.kept (h : Sx W S s most st) (hb : Below W.heap.size W W') : Sx W' S s most st := h.turn (Tur.of_below (S := fun _ => False) hb) (KeepE.below hb) (fun _ h => h.elim)
theorem Sx.fault (h : Sx W S s most st) (hb : st.bad = some f) : (f.1 == 0) = false := by
  rcases h with ⟨q, B, v, h⟩ | ⟨q, g, f', h⟩
  · rw [h.bad] at hb; cases hb
  · rw [h.bad] at hb; cases hb; exact h.f0
end
set_option maxRecDepth 100000 in
theorem s_asked (S : Nat → Prop) (s : Nat) (most : Int) (st : Ses) (W : World) (h : Sx W S s most st) :
    Calls Tryz.prog 29 #[.pointer (some ⟨s, 0, none⟩)] W fun e w' => e = .returned (.int .i64 (st.n : Int)) ∧ W = w' := by
  have p1 : W.cell? ⟨s, 1, none⟩ = some (.int .i64 (st.n : Int)) := by
    rcases h with ⟨q, B, v, h⟩ | ⟨q, g, f, h⟩
    · exact h.blk.cell 1
    · exact h.blk.cell 1
  clear h
  go_enter Tryz.func29, Tryz.ntmps29
  go_wp2
  go_ret
  exact ⟨rfl, rfl⟩
set_option maxRecDepth 100000 in
theorem s_new_no (most : Int) (W : World) (h : most < 16 ∨ 65536 < most) :
    Calls Tryz.prog 9 #[.int .i64 most] W fun e w' => e = .returned (.tuple #[.pointer none, .int .i64 1]) ∧ W = w' := by
  rcases h with h | h
  · go_enter Tryz.func9, Tryz.ntmps9
    go_wp2
    go_ret2
    exact ⟨rfl, rfl⟩
  · have h1 : decide (most < 16) = false := by simp; omega
    go_enter Tryz.func9, Tryz.ntmps9
    go_wp2
    go_ret2
    exact ⟨rfl, rfl⟩
set_option maxRecDepth 100000 in
theorem s_new_yes (most : Int) (W : World) (h1 : 16 ≤ most) (h2 : most ≤ 65536) :
    Calls Tryz.prog 9 #[.int .i64 most] W fun e w' => ∃ s S, e = .returned (.tuple #[.pointer (some ⟨s, 0, none⟩), .int .i64 0]) ∧ Sx w' S s most ses0 ∧ (∀ k, S k → W.heap.size ≤ k) ∧ Below W.heap.size W w' := by
  go_enter Tryz.func9, Tryz.ntmps9
  go_wp2_with fail
  go_at_call 39; (with_reducible refine (f_new_yes most W (by omega) h2).mono ?_); rintro e w1 ⟨rfl, hf, hb⟩
  have HF := Lib.hid hf
  have HB := Lib.hid hb
  have hlt := hf.blk.lt
  clear hf hb
  go_wp2
  go_ret2
  refine ⟨_, fun k => k = W.heap.size ∨ k = w1.heap.size, rfl, .inl ⟨W.heap.size, W.heap.size, .slice none 0 0, Blk.new _ _ _, HF.out.kept ((Below.refl _ _).alloc (Nat.le_refl _) _), rfl, by simp [Value.ownBlock], .inr rfl, .inl rfl, (fun k hk => by cases hk), fun k hk => ?_, (fun x hx => by cases hx)⟩, fun k hk => ?_, HB.out.alloc HB.out.size _⟩
  · rcases hk with rfl | rfl <;> simp <;> omega
  · have := HB.out.size
    rcases hk with rfl | rfl <;> omega
set_option maxRecDepth 100000 in
theorem s_feed (A : Option Addr) (n c : Nat) (xs : List Int) (S : Nat → Prop) (s : Nat) (most : Int) (st : Ses) (W : World) (h : Sx W S s most st) (hl : xs.length = n) (hx : CellsAt W A (bvs xs)) (hA : A = none → c = 0) (hwf : ∀ x ∈ xs, (Lit.int .u8 x).wf = true) (hn : st.bs.length + n ≤ 140737488355328) :
    Calls Tryz.prog 12 #[.pointer (some ⟨s, 0, none⟩), .slice A n c] W fun e w' => e = .returned (.tuple #[]) ∧ ∃ S', Sx w' S' s most (sFeed st xs) ∧ (∀ k, S' k → S k ∨ W.heap.size ≤ k) ∧ Tur S W w' ∧ KeepE W w' := by
  rcases h with ⟨q, B, v, h⟩ | ⟨q, g, f, h⟩
  · have H := Lib.hid h
    have p0 : W.cell? ⟨s, 0, none⟩ = some (.pointer (some ⟨q, 0, none⟩)) := h.blk.cell 0
    have C := Lib.hid (f_feed A n c xs B q most v st.bs W h.fm hl hx hA hn)
    have HW := Lib.hid hwf
    clear h hl hx hA hn hwf
    go_enter Tryz.func12, Tryz.ntmps12
    go_wp2_with fail
    go_at_call 40; (with_reducible refine C.out.mono ?_); rintro e w1 ⟨rfl, v', hf, hw⟩
    have HF := Lib.hid hf
    have HR := Lib.hid hw
    clear hf hw C
    go_wp2
    go_end0
    have hsq : s ≠ q := H.out.blk.ne_ H.out.fm.blk (by decide)
    refine ⟨rfl, fun k => S k ∨ v'.ownBlock = some k, .inl ⟨q, B, v', ?_, HF.out, H.out.bad, ?_, .inl H.out.sS, .inl H.out.qS, (fun k hk => .inr hk), ?_, ?_⟩, ?_, ?_, ?_⟩
    · exact H.out.blk.tur HR.out.1 (fun hs => hs.elim hsq H.out.vs)
    · rcases HR.out.2 with e | ⟨k, e, hk⟩
      · rw [e]; exact H.out.vs
      · rw [e]; intro e2; cases e2; exact absurd H.out.blk.lt (by omega)
    · intro k hk
      rcases hk with hk | hk
      · exact Nat.lt_of_lt_of_le (H.out.lt k hk) HR.out.1.size
      · exact (HF.out.lt k hk).2
    · intro x hx
      rcases List.mem_append.1 hx with hx | hx
      · exact H.out.wf x hx
      · exact HW.out x hx
    · intro k hk
      rcases hk with hk | hk
      · exact .inl hk
      · rcases HR.out.2 with e | ⟨k', e, hk'⟩
        · exact .inl (H.out.vS k (e ▸ hk))
        · rw [e] at hk; cases hk; exact .inr hk'
    · exact ⟨HR.out.1.os, HR.out.1.tape, HR.out.1.output, HR.out.1.size, fun k hk hn => HR.out.1.block k hk (fun hs => hn (by
        rcases hs with rfl | hs
        · exact H.out.qS
        · exact H.out.vS k hs))⟩
    · refine KeepE.tur HR.out.1 (fun k hs => .inr ?_)
      rcases hs with rfl | hs
      · exact ⟨_, _, H.out.fm.blk, by decide⟩
      · obtain ⟨cur, hb⟩ := own_blk H.out.fm.own k hs
        exact ⟨_, _, hb, by decide⟩
  · rcases h.fr with ⟨v, B, bs, hf, hle, hv⟩ | ⟨g', A', m, c', hq, he⟩
    · have H := Lib.hid h
      have p0 : W.cell? ⟨s, 0, none⟩ = some (.pointer (some ⟨q, 0, none⟩)) := h.blk.cell 0
      have C := Lib.hid (f_feed A n c xs B q most v bs W hf hl hx hA (by omega))
      have HF0 := Lib.hid hf
      have HV := Lib.hid hv
      have HLE := Lib.hid hle
      clear h hl hx hA hn hwf hf hv hle
      go_enter Tryz.func12, Tryz.ntmps12
      go_wp2_with fail
      go_at_call 40; (with_reducible refine C.out.mono ?_); rintro e w1 ⟨rfl, v', hf, hw⟩
      have HF := Lib.hid hf
      have HR := Lib.hid hw
      clear hf hw C
      go_wp2
      go_end0
      have hsq : s ≠ q := H.out.blk.ne_ HF0.out.blk (by decide)
      have hvn : ∀ k t cs, Blk W k t cs → 5 ≠ t → v.ownBlock ≠ some k := fun k t cs hk hne e => by
        obtain ⟨cur, hb⟩ := own_blk HF0.out.own k e
        exact hb.ne_ hk hne rfl
      have HKE := Lib.hid (show KeepE W w1 from KeepE.tur HR.out.1 (fun k hs => .inr (by
        rcases hs with rfl | hs
        · exact ⟨_, _, HF0.out.blk, by decide⟩
        · obtain ⟨cur, hb⟩ := own_blk HF0.out.own k hs
          exact ⟨_, _, hb, by decide⟩)))
      refine ⟨rfl, fun k => S k ∨ v'.ownBlock = some k, .inr ⟨q, g, f, ?_, HKE.out _ _ H.out.er, H.out.bad, H.out.f0, .inl H.out.sS, .inl H.out.qS, ?_, .inl ⟨v', B, bs ++ xs, HF.out, ?_, (fun k hk => .inr hk)⟩⟩, ?_, ?_, HKE.out⟩
      · exact H.out.blk.tur HR.out.1 (fun hs => hs.elim hsq (hvn _ _ _ H.out.blk (by decide)))
      · intro k hk
        rcases hk with hk | hk
        · exact Nat.lt_of_lt_of_le (H.out.lt k hk) HR.out.1.size
        · exact (HF.out.lt k hk).2
      · have := HLE.out
        show (bs ++ xs).length ≤ (st.bs ++ xs).length
        rw [List.length_append, List.length_append]
        omega
      · intro k hk
        rcases hk with hk | hk
        · exact .inl hk
        · rcases HR.out.2 with e | ⟨k', e, hk'⟩
          · exact .inl (HV.out k (e ▸ hk))
          · rw [e] at hk; cases hk; exact .inr hk'
      · exact ⟨HR.out.1.os, HR.out.1.tape, HR.out.1.output, HR.out.1.size, fun k hk hn => HR.out.1.block k hk (fun hs => hn (by
          rcases hs with rfl | hs
          · exact H.out.qS
          · exact HV.out k hs))⟩
    · have H := Lib.hid h
      have p0 : W.cell? ⟨s, 0, none⟩ = some (.pointer (some ⟨q, 0, none⟩)) := h.blk.cell 0
      have C := Lib.hid (ff_feed q g' (.int .i64 most) (.slice A' m c') A n c W hq he)
      have HQ := Lib.hid hq
      have HE := Lib.hid he
      clear h hl hx hA hn hwf hq he
      go_enter Tryz.func12, Tryz.ntmps12
      go_wp2_with fail
      go_at_call 40; (with_reducible refine C.out.mono ?_); rintro e w1 ⟨rfl, rfl⟩
      go_wp2
      go_end0
      exact ⟨rfl, S, .inr ⟨q, g, f, H.out.blk, H.out.er, H.out.bad, H.out.f0, H.out.sS, H.out.qS, H.out.lt, .inr ⟨g', A', m, c', HQ.out, HE.out⟩⟩, (fun k hk => .inl hk), Tur.refl _ _, KeepE.refl _⟩
end Go.Proofs.YtglbdbghcdoicaaGreatDoor
