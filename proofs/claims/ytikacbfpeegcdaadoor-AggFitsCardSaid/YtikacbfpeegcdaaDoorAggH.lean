/- agg.Fold: what it reckons, by whole numbers; the walk. -/
import Derived.Test.YtikacbfpeegcdaaDoorAggG
namespace Go.Proofs.YtikacbfpeegcdaaDoor
open Go.RowKit Go.Shelf

instance (x : Int) : Decidable (I64 x) := by unfold I64; infer_instance

/-- What a fold from an aggregate on comes to: an aggregate, or the two numbers whose sum does not fit. -/
def foldI : Int → Int → Int → Int → List Int → Sum (Int × Int) (Int × Int × Int × Int)
  | c, s, mi, ma, [] => .inr (c, s, mi, ma)
  | c, s, mi, ma, v :: l => if c = 0 then foldI 1 v v v l else if I64 (s + v) then foldI (c + 1) (s + v) (min mi v) (max ma v) l else .inl (s, v)

def FoldPost (w : World) (r : Sum (Int × Int) (Int × Int × Int × Int)) (e : Ending) (w' : World) : Prop :=
  match r with
  | .inl x => OvfAns w (AGv 0 0 0 0) 43 x.1 x.2 e w'
  | .inr y => e = .returned (.tuple #[AGv y.1 y.2.1 y.2.2.1 y.2.2.2, .nilIface]) ∧ Below w.heap.size w w'

/-- A slice of int64s that reads as a list. -/
structure IntsAt (w : World) (A : Option Addr) (n : Nat) (zs : List Int) : Prop where
  len : zs.length = n
  at_ : ∀ k (h : k < n), ∃ ad, A = some ad ∧ ad.block < w.heap.size ∧ w.cell? (ad.add k) = some (.int .i64 (zs[k]'(by omega)))
  wf : ∀ x ∈ zs, I64 x

theorem block_add (a : Addr) (n : Nat) : (a.add n).block = a.block := by unfold Addr.add; split <;> rfl

theorem IntsAt.below {w w' : World} {A : Option Addr} {n : Nat} {zs : List Int} (h : IntsAt w A n zs) (hb : Below w.heap.size w w') : IntsAt w' A n zs :=
  ⟨h.len, fun k hk => by
    obtain ⟨ad, e, hl, hc⟩ := h.at_ k hk
    exact ⟨ad, e, Nat.lt_of_lt_of_le hl hb.size, (hb.cell (by rw [block_add]; exact hl)).trans hc⟩, h.wf⟩

theorem foldI_drop (c s mi ma : Int) (zs : List Int) (k : Nat) (h : k < zs.length) :
    foldI c s mi ma (zs.drop k) = if c = 0 then foldI 1 zs[k] zs[k] zs[k] (zs.drop (k + 1)) else if I64 (s + zs[k]) then foldI (c + 1) (s + zs[k]) (min mi zs[k]) (max ma zs[k]) (zs.drop (k + 1)) else .inl (s, zs[k]) := by
  rw [List.drop_eq_getElem_cons h]
  rfl

theorem put_z (c s mi ma v : Int) (hc : c = 0) (w : World) :
    Calls Tryd.prog 23 #[AGv c s mi ma, .int .i64 v] w fun e w' => e = .returned (.tuple #[AGv 1 v v v, .nilIface]) ∧ Below w.heap.size w w' := by subst hc; exact put_0 s mi ma v w

set_option maxHeartbeats 4000000 in
theorem fold_any (A : Option Addr) (n cap : Nat) (zs : List Int) (w : World) (hz : IntsAt w A n zs) (hn : n ≤ 1099511627776) :
    Calls Tryd.prog 10 #[.slice A n cap] w (FoldPost w (foldI 0 0 0 0 zs)) := by
  obtain ⟨R, hR⟩ : ∃ R, R = foldI 0 0 0 0 zs := ⟨_, rfl⟩
  rw [← hR]
  have HR := Lib.hid hR
  clear hR
  have HZ := Lib.hid hz
  have hlen := hz.len
  have hwf := Lib.hid hz.wf
  clear hz
  have HL := Lib.hid hlen
  go_enter Tryd.func10, Tryd.ntmps10
  clear hlen
  go_wp2
  go_loopw [3, 8] (fun v3 v8 wr => ∃ (k : Nat) (c s mi ma : Int), v3 = .nilIface ∧ v8 = .int .i64 k ∧ k ≤ n ∧ c = (k : Int) ∧ I64 s ∧ R = foldI c s mi ma (zs.drop k) ∧
      Blk wr w.heap.size 29 #[.int .i64 c, .int .i64 s, .int .i64 mi, .int .i64 ma] ∧ Below w.heap.size w wr) (fun _ v8 _ => n - (intOf v8).toNat)
  case atStart =>
    exact ⟨0, 0, 0, 0, 0, rfl, rfl, Nat.zero_le _, rfl, ⟨by omega, by omega⟩, by rw [HR.out]; rfl, Blk.new' rfl, (Below.refl _ _).alloc (Nat.le_refl _) _⟩
  case round =>
    obtain ⟨k, c, s, mi, ma, rfl, rfl, hk, rfl, hs, hf, hbk, hb⟩ := hrel
    have c0 : wr.cell? ⟨w.heap.size, 0, none⟩ = some (.int .i64 (k : Int)) := hbk.cell 0
    have c1 : wr.cell? ⟨w.heap.size, 1, none⟩ = some (.int .i64 s) := hbk.cell 1
    have c2 : wr.cell? ⟨w.heap.size, 2, none⟩ = some (.int .i64 mi) := hbk.cell 2
    have c3 : wr.cell? ⟨w.heap.size, 3, none⟩ = some (.int .i64 ma) := hbk.cell 3
    have f0 : wr.frozen? ⟨w.heap.size, 0, none⟩ = false := hbk.frozen 0
    have f1 : wr.frozen? ⟨w.heap.size, 1, none⟩ = false := hbk.frozen 1
    have f2 : wr.frozen? ⟨w.heap.size, 2, none⟩ = false := hbk.frozen 2
    have f3 : wr.frozen? ⟨w.heap.size, 3, none⟩ = false := hbk.frozen 3
    have HK := Lib.hid hbk; have HB := Lib.hid hb; have HF := Lib.hid hf
    clear hbk hb hf
    by_cases hlt : k < n
    · obtain ⟨ad, rfl, hal, hcell⟩ := HZ.out.at_ k hlt
      have hkl : k < zs.length := by rw [HL.out]; exact hlt
      have hv : I64 zs[k] := hwf.out _ (List.getElem_mem _)
      have hcr : wr.cell? (ad.add k) = some (.int .i64 zs[k]) := (HB.out.cell (by rw [block_add]; exact hal)).trans hcell
      have HF2 := Lib.hid (HF.out.trans (foldI_drop k s mi ma zs k hkl))
      generalize hx : zs[k] = x at hcr hv HF2
      clear hcell hx
      by_cases h0 : k = 0
      · have C := Lib.hid (fun W => put_z k s mi ma x (by omega) W)
        have H0 := Lib.hid h0
        clear h0
        go_wp2_with fail
        go_at_call 23; (with_reducible refine (C.out _).mono ?_); rintro e w' ⟨rfl, hbq⟩
        have kb := HK.out.kept hbq
        have e0 : w'.cell? ⟨w.heap.size, 0, none⟩ = some (.int .i64 (k : Int)) := kb.cell 0
        have e1 : w'.cell? ⟨w.heap.size, 1, none⟩ = some (.int .i64 s) := kb.cell 1
        have e2 : w'.cell? ⟨w.heap.size, 2, none⟩ = some (.int .i64 mi) := kb.cell 2
        have e3 : w'.cell? ⟨w.heap.size, 3, none⟩ = some (.int .i64 ma) := kb.cell 3
        have g0 : w'.frozen? ⟨w.heap.size, 0, none⟩ = false := kb.frozen 0
        have g1 : w'.frozen? ⟨w.heap.size, 1, none⟩ = false := kb.frozen 1
        have g2 : w'.frozen? ⟨w.heap.size, 2, none⟩ = false := kb.frozen 2
        have g3 : w'.frozen? ⟨w.heap.size, 3, none⟩ = false := kb.frozen 3
        have KB := Lib.hid kb
        have HBQ := Lib.hid (HB.out.trans (hbq.mono HB.out.size))
        clear kb hbq c0 c1 c2 c3 f0 f1 f2 f3
        go_wp2
        go_roundw
        case rel => exact ⟨k + 1, 1, x, x, x, rfl, by go_num, by omega, by have := H0.out; omega, hv, by rw [HF2.out, if_pos (by have := H0.out; omega)], (((KB.out.set_ 0 _).set_ 1 _).set_ 2 _).set_ 3 _, HBQ.out.four (Nat.le_refl _) _ _ _ _⟩
        case measure => simp [intOf]; omega
      · have h0i : (k : Int) ≠ 0 := by omega
        have k1 : I64 (k : Int) := ⟨by omega, by omega⟩
        have k2 : I64 ((k : Int) + 1) := ⟨by omega, by omega⟩
        have H0 := Lib.hid h0i
        by_cases hsx : I64 (s + x)
        · have C := Lib.hid (fun W => put_ok k s mi ma x h0i k1 k2 hs hv hsx W)
          have HX := Lib.hid hsx
          clear h0 h0i hsx
          go_wp2_with fail
          go_at_call 23; (with_reducible refine (C.out _).mono ?_); rintro e w' ⟨rfl, hbq⟩
          have kb := HK.out.kept hbq
          have e0 : w'.cell? ⟨w.heap.size, 0, none⟩ = some (.int .i64 (k : Int)) := kb.cell 0
          have e1 : w'.cell? ⟨w.heap.size, 1, none⟩ = some (.int .i64 s) := kb.cell 1
          have e2 : w'.cell? ⟨w.heap.size, 2, none⟩ = some (.int .i64 mi) := kb.cell 2
          have e3 : w'.cell? ⟨w.heap.size, 3, none⟩ = some (.int .i64 ma) := kb.cell 3
          have g0 : w'.frozen? ⟨w.heap.size, 0, none⟩ = false := kb.frozen 0
          have g1 : w'.frozen? ⟨w.heap.size, 1, none⟩ = false := kb.frozen 1
          have g2 : w'.frozen? ⟨w.heap.size, 2, none⟩ = false := kb.frozen 2
          have g3 : w'.frozen? ⟨w.heap.size, 3, none⟩ = false := kb.frozen 3
          have KB := Lib.hid kb
          have HBQ := Lib.hid (HB.out.trans (hbq.mono HB.out.size))
          clear kb hbq c0 c1 c2 c3 f0 f1 f2 f3
          go_wp2
          go_roundw
          case rel => exact ⟨k + 1, k + 1, s + x, min mi x, max ma x, rfl, by go_num, by omega, by omega, HX.out, by rw [HF2.out, if_neg H0.out, if_pos HX.out], (((KB.out.set_ 0 _).set_ 1 _).set_ 2 _).set_ 3 _, HBQ.out.four (Nat.le_refl _) _ _ _ _⟩
          case measure => simp [intOf]; omega
        · have C := Lib.hid (fun W => put_s k s mi ma x h0i k1 k2 hs hv hsx W)
          have HR2 := Lib.hid (show R = .inl (s, x) by rw [HF2.out, if_neg h0i, if_neg hsx])
          clear h0 h0i hsx
          go_wp2_with fail
          go_at_call 23; (with_reducible refine (C.out _).mono ?_); rintro e w' ⟨g, rfl, hg, hbk2, hbq⟩
          have HG := Lib.hid (Nat.le_trans HB.out.size hg)
          have HLT := Lib.hid (Nat.lt_of_lt_of_le HK.out.lt hg)
          have HK2 := Lib.hid hbk2
          clear hg hbk2
          have kb := HK.out.kept hbq
          have e0 : w'.cell? ⟨w.heap.size, 0, none⟩ = some (.int .i64 (k : Int)) := kb.cell 0
          have e1 : w'.cell? ⟨w.heap.size, 1, none⟩ = some (.int .i64 s) := kb.cell 1
          have e2 : w'.cell? ⟨w.heap.size, 2, none⟩ = some (.int .i64 mi) := kb.cell 2
          have e3 : w'.cell? ⟨w.heap.size, 3, none⟩ = some (.int .i64 ma) := kb.cell 3
          have g0 : w'.frozen? ⟨w.heap.size, 0, none⟩ = false := kb.frozen 0
          have g1 : w'.frozen? ⟨w.heap.size, 1, none⟩ = false := kb.frozen 1
          have g2 : w'.frozen? ⟨w.heap.size, 2, none⟩ = false := kb.frozen 2
          have g3 : w'.frozen? ⟨w.heap.size, 3, none⟩ = false := kb.frozen 3
          have KB := Lib.hid kb
          have HBQ := Lib.hid (HB.out.trans (hbq.mono HB.out.size))
          clear kb hbq c0 c1 c2 c3 f0 f1 f2 f3
          go_wp2
          rw [HR2.out]
          have hfin := (((((((KB.out.set_ 0 (.int .i64 0)).set_ 1 (.int .i64 0)).set_ 2 (.int .i64 0)).set_ 3 (.int .i64 0)).set_ 0 (.int .i64 0)).set_ 1 (.int .i64 0)).set_ 2 (.int .i64 0)).set_ 3 (.int .i64 0)
          simp only [List.setIfInBounds_toArray, List.set_cons_zero, List.set_cons_succ] at hfin
          refine bodyPost_ret (v := .tuple #[AGv 0 0 0 0, ovf g]) ?_ rfl ?_
          · exact ret_cell_tmp Tryd.results10 _ _ w.heap.size 29 _ _ rfl hfin Tryd.underlying29 rfl (by kernel_rfl)
          · show OvfAns w (AGv 0 0 0 0) 43 s x _ _
            refine ⟨g, rfl, HG.out, ?_, ?_⟩
            · have hne := HLT.out
              repeat (first | (with_reducible exact HK2.out) | (with_reducible refine Blk.far ?_ (by simp; omega) _))
            · exact (HBQ.out.four (Nat.le_refl _) _ _ _ _).four (Nat.le_refl _) _ _ _ _
    · have hkn : k = n := by omega
      have HR2 := Lib.hid (show R = .inr ((k : Int), s, mi, ma) by rw [HF.out, List.drop_eq_nil_of_le (by rw [HL.out]; omega)]; rfl)
      clear hkn
      go_wp2
      rw [HR2.out]
      exact bodyPost_ret (v := .tuple #[AGv k s mi ma, .nilIface]) (by simp [results, Tryd.results10, go_sem, c0, c1, c2, c3]) rfl
        ⟨rfl, HB.out.four (Nat.le_refl _) _ _ _ _⟩
end Go.Proofs.YtikacbfpeegcdaaDoor
