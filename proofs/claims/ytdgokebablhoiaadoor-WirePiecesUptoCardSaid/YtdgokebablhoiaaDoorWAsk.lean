/- The law's own ask and reads: the same calls, of a Reader. -/
import Derived.Test.YtdgokebablhoiaaDoorWPlain
import Derived.Test.YtdgokebablhoiaaDoorWTold
namespace Go.Proofs.YtdgokebablhoiaaDoor
open Go.RowKit

/-- Number i is taken first (the slot named). -/
theorem take_q {P : Program} {ops : Array Oper} {md : Region.Mode} {Q : Exit → Act → World → Prop} {S : World → Prop} {i : Nat} {oi : Oper} {d : Tmp} {v : Value} {fuel : Nat} {listed : Array Bool} {a : Act} {w : World} (hi : ops[i]? = some oi) (hd : oi.dst = some d)
    (hs : Region.noSelect ops = true) (hf : Region.free md ops listed i = true) (hr : (Region.ready md ops listed).contains i = true)
    (hQ : ∀ c a w, Q (.panic c) (a.put oi.dst v) w → Q (.panic c) a w) (hw : Region.wanted oi (yielded ops a.tmps) = true) (hy : ∀ w, S w → (execOp a.eval oi).run P w = .ok (.value v) w) (hS : S w)
    (h : wpAnyH P md ops Q S fuel (listed.setIfInBounds i true) (a.put (some d) v) w) : wpAnyH P md ops Q S (fuel + 1) listed a w :=
  wpAnyH_take hi hs hf hr hQ (.inl ⟨hw, hy⟩) hS (hd ▸ h)
theorem Cl.eta (x : Cl) : (⟨x.kind, x.n, x.i, x.s, x.most⟩ : Cl) = x := rfl
theorem asks_succ (xs : List Int) (s : RS) (cs : List Cl) (k : Nat) (h : k < cs.length) : asks xs s (cs.take (k + 1)) = askP xs (asks xs s (cs.take k)) cs[k] := by
  unfold asks
  rw [List.take_succ_eq_append_getElem h, List.foldl_append]
  rfl
theorem RdFr.below {W W1 : World} {q B : Nat} {fv fv1 : Value} (h : RdFr W q fv W1 fv1) (hB : B ≤ W.heap.size) (hq : B ≤ q) : Below B W W1 := h.1.below hB (fun k hk => by subst hk; exact hq)

/-- The kinds of a call, one by one. -/
theorem askP_1 (xs : List Int) (s : RS) (x : Cl) (h : x.kind = 1) : askP xs s x = (numP xs 9223372036854775807 s).2 := by unfold askP; rw [if_pos h]
theorem askP_2 (xs : List Int) (s : RS) (x : Cl) (h : x.kind = 2) : askP xs s x = (intP xs s).2 := by unfold askP; rw [if_neg (by omega), if_pos h]
theorem askP_3 (xs : List Int) (s : RS) (x : Cl) (h : x.kind = 3) : askP xs s x = (textP xs 9223372036854775807 s).2 := by unfold askP; rw [if_neg (by omega), if_neg (by omega), if_pos h]
theorem askP_0 (xs : List Int) (s : RS) (x : Cl) (h1 : x.kind ≠ 1) (h2 : x.kind ≠ 2) (h3 : x.kind ≠ 3) : askP xs s x = s := by unfold askP; rw [if_neg h1, if_neg h2, if_neg h3]

/-- What ask keeps. -/
structure AskR (w0 W wr : World) (q : Nat) (A : Option Addr) (n c : Nat) (xs : List Int) (fv0 fv : Value) (s : RS) : Prop where
  rd : RdIs wr q A n c xs s fv
  fr : RdFr W q fv0 wr fv
  below : Below w0.heap.size w0 wr
section
variable {w0 W wr w' : World} {q n c : Nat} {A : Option Addr} {xs : List Int} {fv0 fv : Value} {s s' : RS}
theorem AskR.step (h : AskR w0 W wr q A n c xs fv0 fv s) (hB : w0.heap.size ≤ q) {fv' : Value} (hr : RdIs w' q A n c xs s' fv') (hf : RdFr wr q fv w' fv') : AskR w0 W w' q A n c xs fv0 fv' s' :=
  ⟨hr, h.fr.trans hf, h.below.trans (hf.below h.below.size hB)⟩
end

set_option maxHeartbeats 1000000 in
set_option maxRecDepth 100000 in
theorem ask_any (q n c : Nat) (A Al : Option Addr) (nl cl : Nat) (cs : List Cl) (xs : List Int) (s : RS) (fv : Value) (w0 W : World) (h : RdIs W q A n c xs s fv) (hb : Below w0.heap.size w0 W) (hq : w0.heap.size ≤ q) (hl : cs.length = nl) (hc : CallsAt w0 Al cs) :
    Calls Tryd.prog 32 #[.pointer (some ⟨q, 0, none⟩), .slice Al nl cl] W (RdQ W q A n c xs fv (.tuple #[]) (asks xs s (cs.take 60))) := by
  have HC := Lib.hid hc
  have HL := Lib.hid hl
  have HA := Lib.hid (show AskR w0 W W q A n c xs fv fv s from ⟨h, RdFr.refl _ _ _, hb⟩)
  have HQ := Lib.hid hq
  clear h hb hq hl hc
  go_enter Tryd.func32, Tryd.ntmps32
  go_wp2
  go_loopw [4] (fun t4 wr => ∃ k : Nat, t4 = .int .i64 (k : Int) ∧ k ≤ nl ∧ k ≤ 60 ∧ Hid (∃ fv', AskR w0 W wr q A n c xs fv fv' (asks xs s (cs.take k)))) (fun t4 _ => 60 - (intOf t4).toNat)
  case atStart => exact ⟨0, rfl, Nat.zero_le _, by omega, Lib.hid ⟨fv, HA.out⟩⟩
  case round =>
    obtain ⟨k, rfl, hk, hk6, HP0⟩ := hrel
    obtain ⟨fvk, hP⟩ := HP0.out
    have HP := Lib.hid hP
    clear HP0 hP
    by_cases hkn : k < nl
    · by_cases hk60 : k < 60
      · have hkl : k < cs.length := by rw [HL.out]; exact hkn
        obtain ⟨ad, rfl, c0, c1, c2, c3, c4⟩ := HC.out.at HP.out.below k hkl
        have HX := Lib.hid (asks_succ xs s cs k hkl)
        have HAT := Lib.hid (askP_1 xs (asks xs s (cs.take k)) cs[k])
        have HAT2 := Lib.hid (askP_2 xs (asks xs s (cs.take k)) cs[k])
        have HAT3 := Lib.hid (askP_3 xs (asks xs s (cs.take k)) cs[k])
        have HAT0 := Lib.hid (askP_0 xs (asks xs s (cs.take k)) cs[k])
        obtain ⟨kind, hkd⟩ : ∃ kd, kd = cs[k].kind := ⟨_, rfl⟩
        rw [← hkd] at c0
        have HKD := Lib.hid hkd
        clear c1 c2 c3 c4 hkd
        by_cases h1 : kind = 1
        · subst h1
          go_wp2_with fail
          go_at_call 25; (with_reducible refine (rd_num HP.out.rd 9223372036854775807 (by omega)).mono ?_); rintro e w1 ⟨rfl, fv1, hr, hf⟩
          have H1 := Lib.hid (show ∃ fv', AskR w0 W w1 q A n c xs fv fv' (asks xs s (cs.take (k + 1))) from ⟨fv1, HX.out ▸ HAT.out HKD.out.symm ▸ HP.out.step HQ.out hr hf⟩)
          clear hr hf
          go_wp2_with fail
          go_roundw
          case rel => exact ⟨k + 1, by go_num, by omega, by omega, H1⟩
          case measure => simp [intOf]; omega
        · have g1 : (kind == 1) = false := by simpa using h1
          have G1 := Lib.hid h1
          clear h1
          by_cases h2 : kind = 2
          · subst h2
            go_wp2_with fail
            go_at_call 28; (with_reducible refine (rd_int HP.out.rd).mono ?_); rintro e w1 ⟨rfl, fv1, hr, hf⟩
            have H1 := Lib.hid (show ∃ fv', AskR w0 W w1 q A n c xs fv fv' (asks xs s (cs.take (k + 1))) from ⟨fv1, HX.out ▸ HAT2.out HKD.out.symm ▸ HP.out.step HQ.out hr hf⟩)
            clear hr hf
            go_wp2_with fail
            go_roundw
            case rel => exact ⟨k + 1, by go_num, by omega, by omega, H1⟩
            case measure => simp [intOf]; omega
          · have g2 : (kind == 2) = false := by simpa using h2
            have G2 := Lib.hid h2
            clear h2
            by_cases h3 : kind = 3
            · subst h3
              go_wp2_with fail
              go_at_call 48; (with_reducible refine (rd_text HP.out.rd 9223372036854775807 (by omega)).mono ?_); rintro e w1 ⟨rfl, fv1, hr, hf⟩
              have H1 := Lib.hid (show ∃ fv', AskR w0 W w1 q A n c xs fv fv' (asks xs s (cs.take (k + 1))) from ⟨fv1, HX.out ▸ HAT3.out HKD.out.symm ▸ HP.out.step HQ.out hr hf⟩)
              clear hr hf
              go_wp2_with fail
              go_roundw
              case rel => exact ⟨k + 1, by go_num, by omega, by omega, H1⟩
              case measure => simp [intOf]; omega
            · have g3 : (kind == 3) = false := by simpa using h3
              have H1 := Lib.hid (show ∃ fv', AskR w0 W wr q A n c xs fv fv' (asks xs s (cs.take (k + 1))) by rw [HX.out, HAT0.out (by rw [← HKD.out]; exact G1.out) (by rw [← HKD.out]; exact G2.out) (by rw [← HKD.out]; exact h3)]; exact ⟨fvk, HP.out⟩)
              clear h3
              go_wp2_with fail
              go_roundw
              case rel => exact ⟨k + 1, by go_num, by omega, by omega, H1⟩
              case measure => simp [intOf]; omega
      · have hE := Lib.hid (show cs.take k = cs.take 60 by rw [show k = 60 by omega])
        go_wp2
        go_end0
        rw [← hE.out]
        exact ⟨rfl, fvk, HP.out.rd, HP.out.fr⟩
    · have hE := Lib.hid (show cs.take k = cs.take 60 by have := HL.out; rw [List.take_of_length_le (by omega), List.take_of_length_le (by omega)])
      go_wp2
      go_end0
      rw [← hE.out]
      exact ⟨rfl, fvk, HP.out.rd, HP.out.fr⟩
end Go.Proofs.YtdgokebablhoiaaDoor
