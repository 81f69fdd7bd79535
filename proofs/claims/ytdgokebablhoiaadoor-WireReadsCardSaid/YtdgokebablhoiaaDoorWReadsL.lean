/- The law WireReads: the walk. -/
import Derived.Test.YtdgokebablhoiaaDoorWSame
import Derived.Test.YtdgokebablhoiaaDoorWDc3
import Derived.Test.YtdgokebablhoiaaDoorWBack
import Derived.Test.YtdgokebablhoiaaDoorWTold
namespace Go.Proofs.YtdgokebablhoiaaDoor
open Go.RowKit

/-- The program's Reader and the document's, in step. -/
structure BothR (w wr : World) (q r gl : Nat) (A' A : Option Addr) (n c' c : Nat) (xs : List Int) (cur : Array Value) (s : RS) (fv : Value) : Prop where
  rd : RdIs wr q A' n c' xs s fv
  dc : DocIs wr r A n c xs s
  lent : Blk wr gl 5 cur
  fne : ∀ g, fv = errV g → r < g
  below : Below w.heap.size w wr
/-- What stays apart all along. -/
structure ApartR (w : World) (q r gl : Nat) (A' A : Option Addr) (xs : List Int) : Prop where
  qr : q < r
  gq : gl < q
  wg : w.heap.size ≤ gl
  a1 : ∀ ad, A' = some ad → ad.block < r
  a2 : xs ≠ [] → ∀ ad, A = some ad → ad.block < w.heap.size
section
variable {w wr w1 w2 : World} {q r gl n c' c : Nat} {A' A : Option Addr} {xs : List Int} {cur : Array Value} {s s1 : RS} {fv fv1 : Value}
theorem BothR.kept (h : BothR w wr q r gl A' A n c' c xs cur s fv) (hb : Below wr.heap.size wr w1) : BothR w w1 q r gl A' A n c' c xs cur s fv :=
  ⟨h.rd.kept hb, h.dc.kept hb, h.lent.kept hb, h.fne, h.below.trans (hb.mono h.below.size)⟩
theorem BothR.mid (p : ApartR w q r gl A' A xs) (h : BothR w wr q r gl A' A n c' c xs cur s fv) (hf : RdFr wr q fv w1 fv1) : DocIs w1 r A n c xs s :=
  h.dc.tur hf.1 (fun e => by have := p.qr; omega) (fun h0 ad e hs => by have := p.a2 h0 ad e; have := p.gq; have := p.wg; omega)
theorem BothR.step (p : ApartR w q r gl A' A xs) (h : BothR w wr q r gl A' A n c' c xs cur s fv) (hr : RdIs w1 q A' n c' xs s1 fv1) (hf : RdFr wr q fv w1 fv1) (hd : DocIs w2 r A n c xs s1) (ht : Tur (· = r) w1 w2) : BothR w w2 q r gl A' A n c' c xs cur s1 fv1 := by
  have h1 := p.qr; have h2 := p.gq; have h3 := p.wg
  have hrl : r < wr.heap.size := h.dc.blk.lt
  have hfne : ∀ g, fv1 = errV g → r < g := fun g hg => by
    rcases hf.2 with e | ⟨g', e, hg'⟩
    · exact h.fne g (e ▸ hg)
    · rw [e] at hg; cases hg; omega
  refine ⟨hr.tur ht (by omega) (fun ad e hs => by have := p.a1 ad e; omega) (fun g hg hs => by have := hfne g hg; omega) (by have := hr.q0; omega), hd, ?_, hfne, ?_⟩
  · exact (h.lent.tur hf.1 (by omega)).tur ht (by omega)
  · exact (h.below.trans (hf.1.below h.below.size (fun k hk => by omega))).trans (ht.below (Nat.le_trans h.below.size hf.1.size) (fun k hk => by omega))
end
section
variable {q n c : Nat} {A : Option Addr} {xs : List Int} {s : RS} {fv : Value} {W : World}
theorem rdl_err_no (h : RdIs W q A n c xs s fv) (hf : s.fault = none) :
    Calls Tryd.prog 27 #[.pointer (some ⟨q, 0, none⟩)] W fun e w' => e = .returned .nilIface ∧ Below W.heap.size W w' := by
  refine (rd_err h).mono ?_
  rintro e w' ⟨hb, hm⟩
  rw [hf] at hm
  exact ⟨hm, hb⟩
theorem rdl_err_yes {code p : Int} (h : RdIs W q A n c xs s fv) (hf : s.fault = some (code, p)) :
    Calls Tryd.prog 27 #[.pointer (some ⟨q, 0, none⟩)] W fun e w' => ∃ g, e = .returned (errV g) ∧ Blk w' g 102 #[.int .i64 code, .int .i64 p] ∧ Below W.heap.size W w' := by
  refine (rd_err h).mono ?_
  rintro e w' ⟨hb, hm⟩
  rw [hf] at hm
  obtain ⟨g, h1, h2⟩ := hm
  exact ⟨g, h1, h2, hb⟩
theorem dcl_no (h : DocIs W q A n c xs s) (hf : s.fault = none) : Calls Tryd.prog 55 #[.nilIface, .pointer (some ⟨q, 0, none⟩)] W fun ev w' => ev = .returned (.bool true) ∧ Below W.heap.size W w' := by
  have hb := h.blk
  rw [(DocIs.err_no hf).1, (DocIs.err_no hf).2] at hb
  exact same_no q _ _ W hb
theorem dcl_yes {g : Nat} {code p : Int} (h : DocIs W q A n c xs s) (hT : W.cell? ⟨0, 0, none⟩ = some tyErr) (hf : s.fault = some (code, p)) (hg : Blk W g 102 #[.int .i64 code, .int .i64 p]) :
    Calls Tryd.prog 55 #[errV g, .pointer (some ⟨q, 0, none⟩)] W fun ev w' => ev = .returned (.bool true) ∧ Below W.heap.size W w' := by
  have hb := h.blk
  have e1 : s.err = code := by unfold RS.err; rw [hf]
  have e2 : s.on = p := by unfold RS.on; rw [hf]
  rw [e1, e2] at hb
  exact same_yes q g _ _ code p W hT (h.ok code p hf) hb hg
end
set_option maxHeartbeats 4000000 in
set_option maxRecDepth 100000 in
theorem law_reads (A Al : Option Addr) (n c nl cl : Nat) (xs : List Int) (cs : List Cl) (w : World) (hT : w.cell? ⟨0, 0, none⟩ = some tyErr) (hl : xs.length = n) (hx : CellsAt w A (bvs xs)) (hw : ∀ x ∈ xs, (Lit.int .u8 x).wf = true) (hn : n + 67 ≤ 140737488355328) (hnc : n ≤ c) (hll : cs.length = nl) (hc : CallsAt w Al cs) (hok : ∀ x ∈ cs, x.Ok) :
    Calls Tryd.prog 14 #[.slice A n c, .slice Al nl cl] w fun e w' => e = .returned (.bool true) ∧ Below w.heap.size w w' := by
  have HT := Lib.hid hT
  have HL := Lib.hid hl
  have HX := Lib.hid hx
  have HW := Lib.hid hw
  have HN := Lib.hid hn
  have HNC := Lib.hid hnc
  have HLL := Lib.hid hll
  have HC := Lib.hid hc
  have HK := Lib.hid hok
  clear hT hl hx hw hn hnc hll hc hok
  go_enter Tryd.func14, Tryd.ntmps14
  go_wp2_with fail
  go_at_call 20; (with_reducible refine (lend_any A n c xs w HL.out HX.out HN.out).mono ?_); rintro e w1 ⟨gl, cur, rfl, hg, hbk, hcu, hb⟩
  have B1 := Lib.hid hb
  have HG := Lib.hid hg
  have HBK := Lib.hid hbk
  have HCU := Lib.hid hcu
  have T1 := Lib.hid ((hb.cell (p := ⟨0, 0, none⟩) (World.block_lt_of_cell? w _ HT.out)).trans HT.out)
  have CR := Lib.hid (rd_read (some ⟨gl, 0, none⟩) n (n + 67) xs w1 HL.out (cells_of_blk hbk hcu) HW.out (by have := HN.out; omega) T1.out)
  clear hg hbk hcu hb
  go_wp2_with fail
  go_at_call 24; (with_reducible refine CR.out.mono ?_); rintro e w2 ⟨q, A', c', rfl, hq, hrd, hA', hb⟩
  have B2 := Lib.hid (B1.out.trans (hb.mono B1.out.size))
  have R2 := Lib.hid hrd
  have HBK2 := Lib.hid (HBK.out.kept hb)
  have HQ := Lib.hid (show gl < q by have := HBK.out.lt; omega)
  have HA' := Lib.hid hA'
  clear hq hrd hA' hb CR HBK
  go_wp2_with fail
  go_at_call 45; (with_reducible refine (dc_read A n c xs w2 HL.out (HX.out.below B2.out) HW.out (by have := HN.out; omega) HNC.out).mono ?_); rintro e w3 ⟨rfl, hdc, hb⟩
  have HB := Lib.hid (show BothR w w3 q w2.heap.size gl A' A n c' c xs cur ⟨0, none⟩ .nilIface from ⟨R2.out.kept hb, hdc, HBK2.out.kept hb, (fun g h => by cases h), B2.out.trans (hb.mono B2.out.size)⟩)
  have HP := Lib.hid (show ApartR w q w2.heap.size gl A' A xs from ⟨R2.out.blk.lt, HQ.out, HG.out, fun ad h => (HA'.out ad h).2, fun h0 ad e => by
    subst e
    obtain ⟨ad', e, h1, _⟩ := HX.out 0 (by rw [bvs_len]; exact List.length_pos_iff.2 h0)
    cases e
    exact h1⟩)
  generalize w2.heap.size = r at *
  clear hdc hb
  go_wp2
  go_loopw [8] (fun t8 wr => ∃ k : Nat, t8 = .int .i64 (k : Int) ∧ k ≤ nl ∧ k ≤ 200 ∧ Hid (∃ s fv, BothR w wr q r gl A' A n c' c xs cur s fv)) (fun t8 _ => 200 - (intOf t8).toNat)
  case atStart => exact ⟨0, rfl, Nat.zero_le _, by omega, Lib.hid ⟨_, _, HB.out⟩⟩
  case round =>
    obtain ⟨k, rfl, hk, hk6, HR0⟩ := hrel
    obtain ⟨s, fv, hR⟩ := HR0.out
    have HR := Lib.hid hR
    clear HR0 hR
    by_cases hgo : k < nl ∧ k < 200
    · obtain ⟨hkn, hk60⟩ := hgo
      have hkl : k < cs.length := by rw [HLL.out]; exact hkn
      obtain ⟨ad, rfl, c0, c1, c2, c3, c4⟩ := HC.out.at HR.out.below k hkl
      have HO := Lib.hid (HK.out cs[k] (List.getElem_mem _))
      generalize cs[k] = x at *
      obtain ⟨kind, nn, ii, st, mo⟩ := x
      have hmo : mo ≤ 9223372036854775807 := HO.out.most.hi
      have HMO := Lib.hid hmo
      clear hmo
      by_cases h1 : kind = 1
      · subst h1
        go_wp2
        have hX := HR.out.kept ((Below.refl wr.heap.size wr).alloc (Nat.le_refl _) (.cells #[.int .i64 1, .int .i64 nn, .int .i64 ii, .string st, .int .i64 mo] 29))
        have hK := Blk.new wr 29 #[.int .i64 1, .int .i64 nn, .int .i64 ii, .string st, .int .i64 mo]
        have HLT := Lib.hid (show r < wr.heap.size from HR.out.dc.blk.lt)
        generalize wr.alloc (.cells #[.int .i64 1, .int .i64 nn, .int .i64 ii, .string st, .int .i64 mo] 29) = wx at hX hK ⊢
        generalize wr.heap.size = cb at hK HLT ⊢
        have HX1 := Lib.hid hX
        have HKB := Lib.hid hK
        have m0 : wx.cell? ⟨cb, 0, none⟩ = some (.int .i64 1) := hK.cell 0
        have m1 : wx.cell? ⟨cb, 1, none⟩ = some (.int .i64 nn) := hK.cell 1
        have m4 : wx.cell? ⟨cb, 4, none⟩ = some (.int .i64 mo) := hK.cell 4
        clear hX hK c0 c1 c2 c3 c4
        have HX1 := Lib.hid (HX1.out.kept (Below.refl _ _).drew)
        have HKB := Lib.hid (HKB.out.drew)
        have k4 : wx.drew.cell? ⟨cb, 4, none⟩ = some (.int .i64 mo) := HKB.out.cell 4
        (refine wp_region_held_drew (S := fun W9 => W9.cell? ⟨cb, 4, none⟩ = some (.int .i64 mo)) (by kernel_rfl) k4 (fun hHeld => ?_))
        (refine take_q (i := 0) (d := 37) (v := ?v101) rfl rfl (by kernel_rfl) (by kernel_rfl) (by kernel_rfl) (fun _ _ _ h => h) (by kernel_rfl) ?hy101 (by assumption) ?rest101)
        case hy101 => (intro w9 hSw; first | (go_simp; done) | (go_simp; with_reducible rfl))
        (try simp only [Act.put, List.setIfInBounds_toArray, List.set_cons_zero, List.set_cons_succ])
        (refine take_q (i := 1) (d := 38) (v := ?v102) rfl rfl (by kernel_rfl) (by kernel_rfl) (by kernel_rfl) (fun _ _ _ h => h) (by kernel_rfl) ?hy102 (by assumption) ?rest102)
        case hy102 => (intro w9 hSw; first | (go_simp; done) | (go_simp; with_reducible rfl))
        (try simp only [Act.put, List.setIfInBounds_toArray, List.set_cons_zero, List.set_cons_succ])
        (refine take_q (i := 2) (d := 39) (v := ?v103) rfl rfl (by kernel_rfl) (by kernel_rfl) (by kernel_rfl) (fun _ _ _ h => h) (by kernel_rfl) ?hy103 (by assumption) ?rest103)
        case hy103 => (intro w9 hSw; first | (go_simp; done) | (go_simp; with_reducible rfl))
        (try simp only [Act.put, List.setIfInBounds_toArray, List.set_cons_zero, List.set_cons_succ])
        (refine take_q (i := 4) (d := 41) (v := ?v104) rfl rfl (by kernel_rfl) (by kernel_rfl) (by kernel_rfl) (fun _ _ _ h => h) (by kernel_rfl) ?hy104 (by assumption) ?rest104)
        case hy104 => (intro w9 hSw; first | (go_simp; done) | (go_simp; with_reducible rfl))
        (try simp only [Act.put, List.setIfInBounds_toArray, List.set_cons_zero, List.set_cons_succ])
        (refine take_q (i := 5) (d := 42) (v := ?v105) rfl rfl (by kernel_rfl) (by kernel_rfl) (by kernel_rfl) (fun _ _ _ h => h) (by kernel_rfl) ?hy105 (by assumption) ?rest105)
        case hy105 => (intro w9 hSw; first | (go_simp; done) | (go_simp; with_reducible rfl))
        (try simp only [Act.put, List.setIfInBounds_toArray, List.set_cons_zero, List.set_cons_succ])
        (refine take_q (i := 6) (d := 43) (v := ?v106) rfl rfl (by kernel_rfl) (by kernel_rfl) (by kernel_rfl) (fun _ _ _ h => h) (by kernel_rfl) ?hy106 (by assumption) ?rest106)
        case hy106 => (intro w9 hSw; first | (go_simp; done) | (go_simp; with_reducible rfl))
        (try simp only [Act.put, List.setIfInBounds_toArray, List.set_cons_zero, List.set_cons_succ])
        (refine wpAnyH_ready (rs := [3]) (by kernel_rfl) (by simp) ?_)
        (refine AllReadyH.cons (o := _) rfl (fun K hK => ?_) AllReadyH.nil)
        go_simp
        go_at_call 25; (with_reducible refine (rd_num HX1.out.rd mo HMO.out).mono ?_); rintro e wa ⟨rfl, fv1, hr, hf⟩
        have HD := Lib.hid (BothR.mid HP.out HX1.out hf)
        have HRA := Lib.hid hr
        have HFA := Lib.hid hf
        have HKA := Lib.hid (HKB.out.tur hf.1 (by have := HLT.out; have := HP.out.qr; omega))
        clear hr hf
        go_wp2_with fail
        (refine hK.out _ _ (HKA.out.cell 4) (fun hHeld => ?_))
        clear hK K
        (try simp only [Act.put, List.setIfInBounds_toArray, List.set_cons_zero, List.set_cons_succ])
        (refine wpAnyH_ready (rs := [7]) (by kernel_rfl) (by simp) ?_)
        (refine AllReadyH.cons (o := _) rfl (fun K hK => ?_) AllReadyH.nil)
        go_simp
        go_at_call 46; (with_reducible refine (dc_num HD.out mo HMO.out).mono ?_); rintro e wb ⟨rfl, hd, ht⟩
        have HX2 := Lib.hid (BothR.step HP.out HX1.out HRA.out HFA.out hd ht)
        have HKC := Lib.hid (HKA.out.tur ht (by have := HLT.out; omega))
        clear hd ht
        go_wp2_with fail
        (refine hK.out _ _ (HKC.out.cell 4) (fun hHeld => ?_))
        clear hK K
        (try simp only [Act.put, List.setIfInBounds_toArray, List.set_cons_zero, List.set_cons_succ])
        (refine take_q (i := 8) (d := 45) (v := ?v107) rfl rfl (by kernel_rfl) (by kernel_rfl) (by kernel_rfl) (fun _ _ _ h => h) (by kernel_rfl) ?hy107 (by assumption) ?rest107)
        case hy107 => (intro w9 hSw; first | (go_simp; done) | (go_simp; with_reducible rfl))
        (try simp only [Act.put, List.setIfInBounds_toArray, List.set_cons_zero, List.set_cons_succ])
        (refine take_q (i := 9) (d := 10) (v := ?v108) rfl rfl (by kernel_rfl) (by kernel_rfl) (by kernel_rfl) (fun _ _ _ h => h) (by kernel_rfl) ?hy108 (by assumption) ?rest108)
        case hy108 => (intro w9 hSw; first | (go_simp; done) | (go_simp; with_reducible rfl))
        (try simp only [Act.put, List.setIfInBounds_toArray, List.set_cons_zero, List.set_cons_succ])
        (refine wpAnyH_done (by kernel_rfl) ?_ _)
        go_wp2_with fail
        go_roundw
        case rel => exact ⟨k + 1, by go_num, by omega, by omega, Lib.hid ⟨_, _, HX2.out⟩⟩
        case measure => simp [intOf]; omega
      · have g1 : (kind == 1) = false := by simpa using h1
        clear h1
        by_cases h2 : kind = 2
        · subst h2
          go_wp2_with fail
          have hX := HR.out.kept ((Below.refl wr.heap.size wr).alloc (Nat.le_refl _) (.cells #[.int .i64 2, .int .i64 nn, .int .i64 ii, .string st, .int .i64 mo] 29))
          have hK := Blk.new wr 29 #[.int .i64 2, .int .i64 nn, .int .i64 ii, .string st, .int .i64 mo]
          have HLT := Lib.hid (show r < wr.heap.size from HR.out.dc.blk.lt)
          generalize wr.alloc (.cells #[.int .i64 2, .int .i64 nn, .int .i64 ii, .string st, .int .i64 mo] 29) = wx at hX hK ⊢
          generalize wr.heap.size = cb at hK HLT ⊢
          have HX1 := Lib.hid hX
          have HKB := Lib.hid hK
          have m0 : wx.cell? ⟨cb, 0, none⟩ = some (.int .i64 2) := hK.cell 0
          have m1 : wx.cell? ⟨cb, 1, none⟩ = some (.int .i64 nn) := hK.cell 1
          have m4 : wx.cell? ⟨cb, 4, none⟩ = some (.int .i64 mo) := hK.cell 4
          clear hX hK c0 c1 c2 c3 c4
          go_at_call 28; (with_reducible refine (rd_int HX1.out.rd).mono ?_); rintro e wa ⟨rfl, fv1, hr, hf⟩
          have HD := Lib.hid (BothR.mid HP.out HX1.out hf)
          have HRA := Lib.hid hr
          have HFA := Lib.hid hf
          have HKA := Lib.hid (HKB.out.tur hf.1 (by have := HLT.out; have := HP.out.qr; omega))
          clear hr hf
          go_wp2_with fail
          go_at_call 47; (with_reducible refine (dc_int HD.out).mono ?_); rintro e wb ⟨rfl, hd, ht⟩
          have HX2 := Lib.hid (BothR.step HP.out HX1.out HRA.out HFA.out hd ht)
          have HKC := Lib.hid (HKA.out.tur ht (by have := HLT.out; omega))
          clear hd ht
          go_wp2_with fail
          go_roundw
          case rel => exact ⟨k + 1, by go_num, by omega, by omega, Lib.hid ⟨_, _, HX2.out⟩⟩
          case measure => simp [intOf]; omega
        · have g2 : (kind == 2) = false := by simpa using h2
          clear h2
          by_cases h3 : kind = 3
          · subst h3
            go_wp2
            have hX := HR.out.kept ((Below.refl wr.heap.size wr).alloc (Nat.le_refl _) (.cells #[.int .i64 3, .int .i64 nn, .int .i64 ii, .string st, .int .i64 mo] 29))
            have hK := Blk.new wr 29 #[.int .i64 3, .int .i64 nn, .int .i64 ii, .string st, .int .i64 mo]
            have HLT := Lib.hid (show r < wr.heap.size from HR.out.dc.blk.lt)
            generalize wr.alloc (.cells #[.int .i64 3, .int .i64 nn, .int .i64 ii, .string st, .int .i64 mo] 29) = wx at hX hK ⊢
            generalize wr.heap.size = cb at hK HLT ⊢
            have HX1 := Lib.hid hX
            have HKB := Lib.hid hK
            have m0 : wx.cell? ⟨cb, 0, none⟩ = some (.int .i64 3) := hK.cell 0
            have m1 : wx.cell? ⟨cb, 1, none⟩ = some (.int .i64 nn) := hK.cell 1
            have m4 : wx.cell? ⟨cb, 4, none⟩ = some (.int .i64 mo) := hK.cell 4
            clear hX hK c0 c1 c2 c3 c4
            have HX1 := Lib.hid (HX1.out.kept (Below.refl _ _).drew)
            have HKB := Lib.hid (HKB.out.drew)
            have k4 : wx.drew.cell? ⟨cb, 4, none⟩ = some (.int .i64 mo) := HKB.out.cell 4
            (refine wp_region_held_drew (S := fun W9 => W9.cell? ⟨cb, 4, none⟩ = some (.int .i64 mo)) (by kernel_rfl) k4 (fun hHeld => ?_))
            (refine take_q (i := 0) (d := 55) (v := ?v109) rfl rfl (by kernel_rfl) (by kernel_rfl) (by kernel_rfl) (fun _ _ _ h => h) (by kernel_rfl) ?hy109 (by assumption) ?rest109)
            case hy109 => (intro w9 hSw; first | (go_simp; done) | (go_simp; with_reducible rfl))
            (try simp only [Act.put, List.setIfInBounds_toArray, List.set_cons_zero, List.set_cons_succ])
            (refine take_q (i := 1) (d := 56) (v := ?v110) rfl rfl (by kernel_rfl) (by kernel_rfl) (by kernel_rfl) (fun _ _ _ h => h) (by kernel_rfl) ?hy110 (by assumption) ?rest110)
            case hy110 => (intro w9 hSw; first | (go_simp; done) | (go_simp; with_reducible rfl))
            (try simp only [Act.put, List.setIfInBounds_toArray, List.set_cons_zero, List.set_cons_succ])
            (refine take_q (i := 2) (d := 57) (v := ?v111) rfl rfl (by kernel_rfl) (by kernel_rfl) (by kernel_rfl) (fun _ _ _ h => h) (by kernel_rfl) ?hy111 (by assumption) ?rest111)
            case hy111 => (intro w9 hSw; first | (go_simp; done) | (go_simp; with_reducible rfl))
            (try simp only [Act.put, List.setIfInBounds_toArray, List.set_cons_zero, List.set_cons_succ])
            (refine take_q (i := 4) (d := 59) (v := ?v112) rfl rfl (by kernel_rfl) (by kernel_rfl) (by kernel_rfl) (fun _ _ _ h => h) (by kernel_rfl) ?hy112 (by assumption) ?rest112)
            case hy112 => (intro w9 hSw; first | (go_simp; done) | (go_simp; with_reducible rfl))
            (try simp only [Act.put, List.setIfInBounds_toArray, List.set_cons_zero, List.set_cons_succ])
            (refine take_q (i := 5) (d := 60) (v := ?v113) rfl rfl (by kernel_rfl) (by kernel_rfl) (by kernel_rfl) (fun _ _ _ h => h) (by kernel_rfl) ?hy113 (by assumption) ?rest113)
            case hy113 => (intro w9 hSw; first | (go_simp; done) | (go_simp; with_reducible rfl))
            (try simp only [Act.put, List.setIfInBounds_toArray, List.set_cons_zero, List.set_cons_succ])
            (refine take_q (i := 6) (d := 61) (v := ?v114) rfl rfl (by kernel_rfl) (by kernel_rfl) (by kernel_rfl) (fun _ _ _ h => h) (by kernel_rfl) ?hy114 (by assumption) ?rest114)
            case hy114 => (intro w9 hSw; first | (go_simp; done) | (go_simp; with_reducible rfl))
            (try simp only [Act.put, List.setIfInBounds_toArray, List.set_cons_zero, List.set_cons_succ])
            (refine wpAnyH_ready (rs := [3]) (by kernel_rfl) (by simp) ?_)
            (refine AllReadyH.cons (o := _) rfl (fun K hK => ?_) AllReadyH.nil)
            go_simp
            go_at_call 48; (with_reducible refine (rd_text HX1.out.rd mo HMO.out).mono ?_); rintro e wa ⟨rfl, fv1, hr, hf⟩
            have HD := Lib.hid (BothR.mid HP.out HX1.out hf)
            have HRA := Lib.hid hr
            have HFA := Lib.hid hf
            have HKA := Lib.hid (HKB.out.tur hf.1 (by have := HLT.out; have := HP.out.qr; omega))
            clear hr hf
            go_wp2_with fail
            (refine hK.out _ _ (HKA.out.cell 4) (fun hHeld => ?_))
            clear hK K
            (try simp only [Act.put, List.setIfInBounds_toArray, List.set_cons_zero, List.set_cons_succ])
            (refine wpAnyH_ready (rs := [7]) (by kernel_rfl) (by simp) ?_)
            (refine AllReadyH.cons (o := _) rfl (fun K hK => ?_) AllReadyH.nil)
            go_simp
            go_at_call 49; (with_reducible refine (dc_text HD.out mo HMO.out).mono ?_); rintro e wb ⟨rfl, hd, ht⟩
            have HX2 := Lib.hid (BothR.step HP.out HX1.out HRA.out HFA.out hd ht)
            have HKC := Lib.hid (HKA.out.tur ht (by have := HLT.out; omega))
            clear hd ht
            go_wp2_with fail
            (refine hK.out _ _ (HKC.out.cell 4) (fun hHeld => ?_))
            clear hK K
            (try simp only [Act.put, List.setIfInBounds_toArray, List.set_cons_zero, List.set_cons_succ])
            (refine take_q (i := 8) (d := 63) (v := ?v115) rfl rfl (by kernel_rfl) (by kernel_rfl) (by kernel_rfl) (fun _ _ _ h => h) (by kernel_rfl) ?hy115 (by assumption) ?rest115)
            case hy115 => (intro w9 hSw; first | (go_simp; done) | (go_simp; with_reducible rfl))
            (try simp only [Act.put, List.setIfInBounds_toArray, List.set_cons_zero, List.set_cons_succ])
            (refine take_q (i := 9) (d := 10) (v := ?v116) rfl rfl (by kernel_rfl) (by kernel_rfl) (by kernel_rfl) (fun _ _ _ h => h) (by kernel_rfl) ?hy116 (by assumption) ?rest116)
            case hy116 => (intro w9 hSw; first | (go_simp; done) | (go_simp; with_reducible rfl))
            (try simp only [Act.put, List.setIfInBounds_toArray, List.set_cons_zero, List.set_cons_succ])
            (refine wpAnyH_done (by kernel_rfl) ?_ _)
            go_wp2_with fail
            go_roundw
            case rel => exact ⟨k + 1, by go_num, by omega, by omega, Lib.hid ⟨_, _, HX2.out⟩⟩
            case measure => simp [intOf]; omega
          · have g3 : (kind == 3) = false := by simpa using h3
            clear h3
            by_cases h4 : kind = 4
            · subst h4
              go_wp2_with fail
              have hX := HR.out.kept ((Below.refl wr.heap.size wr).alloc (Nat.le_refl _) (.cells #[.int .i64 4, .int .i64 nn, .int .i64 ii, .string st, .int .i64 mo] 29))
              have hK := Blk.new wr 29 #[.int .i64 4, .int .i64 nn, .int .i64 ii, .string st, .int .i64 mo]
              have HLT := Lib.hid (show r < wr.heap.size from HR.out.dc.blk.lt)
              generalize wr.alloc (.cells #[.int .i64 4, .int .i64 nn, .int .i64 ii, .string st, .int .i64 mo] 29) = wx at hX hK ⊢
              generalize wr.heap.size = cb at hK HLT ⊢
              have HX1 := Lib.hid hX
              have HKB := Lib.hid hK
              have m0 : wx.cell? ⟨cb, 0, none⟩ = some (.int .i64 4) := hK.cell 0
              have m1 : wx.cell? ⟨cb, 1, none⟩ = some (.int .i64 nn) := hK.cell 1
              have m4 : wx.cell? ⟨cb, 4, none⟩ = some (.int .i64 mo) := hK.cell 4
              clear hX hK c0 c1 c2 c3 c4
              go_at_call 26; (with_reducible refine (rd_end HX1.out.rd).mono ?_); rintro e wa ⟨rfl, fv1, hr, hf⟩
              have HD := Lib.hid (BothR.mid HP.out HX1.out hf)
              have HRA := Lib.hid hr
              have HFA := Lib.hid hf
              have HKA := Lib.hid (HKB.out.tur hf.1 (by have := HLT.out; have := HP.out.qr; omega))
              clear hr hf
              go_wp2_with fail
              go_at_call 50; (with_reducible refine (dc_end HD.out).mono ?_); rintro e wb ⟨rfl, hd, ht⟩
              have HX2 := Lib.hid (BothR.step HP.out HX1.out HRA.out HFA.out hd ht)
              have HKC := Lib.hid (HKA.out.tur ht (by have := HLT.out; omega))
              clear hd ht
              go_wp2_with fail
              go_roundw
              case rel => exact ⟨k + 1, by go_num, by omega, by omega, Lib.hid ⟨_, _, HX2.out⟩⟩
              case measure => simp [intOf]; omega
            · have g4 : (kind == 4) = false := by simpa using h4
              clear h4
              by_cases h5 : kind = 5
              · subst h5
                go_wp2_with fail
                have hX := HR.out.kept ((Below.refl wr.heap.size wr).alloc (Nat.le_refl _) (.cells #[.int .i64 5, .int .i64 nn, .int .i64 ii, .string st, .int .i64 mo] 29))
                have hK := Blk.new wr 29 #[.int .i64 5, .int .i64 nn, .int .i64 ii, .string st, .int .i64 mo]
                have HLT := Lib.hid (show r < wr.heap.size from HR.out.dc.blk.lt)
                generalize wr.alloc (.cells #[.int .i64 5, .int .i64 nn, .int .i64 ii, .string st, .int .i64 mo] 29) = wx at hX hK ⊢
                generalize wr.heap.size = cb at hK HLT ⊢
                have HX1 := Lib.hid hX
                have HKB := Lib.hid hK
                have m0 : wx.cell? ⟨cb, 0, none⟩ = some (.int .i64 5) := hK.cell 0
                have m1 : wx.cell? ⟨cb, 1, none⟩ = some (.int .i64 nn) := hK.cell 1
                have m4 : wx.cell? ⟨cb, 4, none⟩ = some (.int .i64 mo) := hK.cell 4
                clear hX hK c0 c1 c2 c3 c4
                go_at_call 51; (with_reducible refine (rd_left HX1.out.rd).mono ?_); rintro e wa ⟨rfl, hb⟩
                have HX3 := Lib.hid (HX1.out.kept hb)
                clear hb
                go_wp2_with fail
                go_at_call 52; (with_reducible refine (dc_left HX3.out.dc).mono ?_); rintro e wb ⟨rfl, hb⟩
                have HX2 := Lib.hid (HX3.out.kept hb)
                clear hb
                go_wp2_with fail
                go_roundw
                case rel => exact ⟨k + 1, by go_num, by omega, by omega, Lib.hid ⟨_, _, HX2.out⟩⟩
                case measure => simp [intOf]; omega
              · have g5 : (kind == 5) = false := by simpa using h5
                clear h5
                by_cases h6 : kind = 6
                · subst h6
                  go_wp2_with fail
                  have hX := HR.out.kept ((Below.refl wr.heap.size wr).alloc (Nat.le_refl _) (.cells #[.int .i64 6, .int .i64 nn, .int .i64 ii, .string st, .int .i64 mo] 29))
                  have hK := Blk.new wr 29 #[.int .i64 6, .int .i64 nn, .int .i64 ii, .string st, .int .i64 mo]
                  have HLT := Lib.hid (show r < wr.heap.size from HR.out.dc.blk.lt)
                  generalize wr.alloc (.cells #[.int .i64 6, .int .i64 nn, .int .i64 ii, .string st, .int .i64 mo] 29) = wx at hX hK ⊢
                  generalize wr.heap.size = cb at hK HLT ⊢
                  have HX1 := Lib.hid hX
                  have HKB := Lib.hid hK
                  have m0 : wx.cell? ⟨cb, 0, none⟩ = some (.int .i64 6) := hK.cell 0
                  have m1 : wx.cell? ⟨cb, 1, none⟩ = some (.int .i64 nn) := hK.cell 1
                  have m4 : wx.cell? ⟨cb, 4, none⟩ = some (.int .i64 mo) := hK.cell 4
                  clear hX hK c0 c1 c2 c3 c4
                  go_at_call 53; (with_reducible refine (rd_fail HX1.out.rd nn mo).mono ?_); rintro e wa ⟨rfl, fv1, hr, hf⟩
                  have HD := Lib.hid (BothR.mid HP.out HX1.out hf)
                  have HRA := Lib.hid hr
                  have HFA := Lib.hid hf
                  have HKA := Lib.hid (HKB.out.tur hf.1 (by have := HLT.out; have := HP.out.qr; omega))
                  clear hr hf
                  have m1 : wa.cell? ⟨cb, 1, none⟩ = some (.int .i64 nn) := HKA.out.cell 1
                  have m4 : wa.cell? ⟨cb, 4, none⟩ = some (.int .i64 mo) := HKA.out.cell 4
                  go_wp2_with fail
                  go_at_call 54; (with_reducible refine (dc_fail HD.out nn mo).mono ?_); rintro e wb ⟨rfl, hd, ht⟩
                  have HX2 := Lib.hid (BothR.step HP.out HX1.out HRA.out HFA.out hd ht)
                  have HKC := Lib.hid (HKA.out.tur ht (by have := HLT.out; omega))
                  clear hd ht
                  go_wp2_with fail
                  go_roundw
                  case rel => exact ⟨k + 1, by go_num, by omega, by omega, Lib.hid ⟨_, _, HX2.out⟩⟩
                  case measure => simp [intOf]; omega
                · have g6 : (kind == 6) = false := by simpa using h6
                  clear h6
                  by_cases h7 : kind = 7
                  · subst h7
                    go_wp2_with fail
                    have hX := HR.out.kept ((Below.refl wr.heap.size wr).alloc (Nat.le_refl _) (.cells #[.int .i64 7, .int .i64 nn, .int .i64 ii, .string st, .int .i64 mo] 29))
                    have hK := Blk.new wr 29 #[.int .i64 7, .int .i64 nn, .int .i64 ii, .string st, .int .i64 mo]
                    have HLT := Lib.hid (show r < wr.heap.size from HR.out.dc.blk.lt)
                    generalize wr.alloc (.cells #[.int .i64 7, .int .i64 nn, .int .i64 ii, .string st, .int .i64 mo] 29) = wx at hX hK ⊢
                    generalize wr.heap.size = cb at hK HLT ⊢
                    have HX1 := Lib.hid hX
                    have HKB := Lib.hid hK
                    have m0 : wx.cell? ⟨cb, 0, none⟩ = some (.int .i64 7) := hK.cell 0
                    have m1 : wx.cell? ⟨cb, 1, none⟩ = some (.int .i64 nn) := hK.cell 1
                    have m4 : wx.cell? ⟨cb, 4, none⟩ = some (.int .i64 mo) := hK.cell 4
                    clear hX hK c0 c1 c2 c3 c4
                    rcases hf : s.fault with _ | ⟨code, pl⟩
                    · have HF := Lib.hid hf
                      clear hf
                      go_at_call 27; (with_reducible refine (rdl_err_no HX1.out.rd HF.out).mono ?_); rintro e wa ⟨rfl, hb⟩
                      have HX3 := Lib.hid (HX1.out.kept hb)
                      clear hb
                      go_wp2_with fail
                      go_at_call 55; (with_reducible refine (dcl_no HX3.out.dc HF.out).mono ?_); rintro e wb ⟨rfl, hb⟩
                      have HX2 := Lib.hid (HX3.out.kept hb)
                      clear hb
                      go_wp2_with fail
                      go_roundw
                      case rel => exact ⟨k + 1, by go_num, by omega, by omega, Lib.hid ⟨_, _, HX2.out⟩⟩
                      case measure => simp [intOf]; omega
                    · have HF := Lib.hid hf
                      clear hf
                      go_at_call 27; (with_reducible refine (rdl_err_yes HX1.out.rd HF.out).mono ?_); rintro e wa ⟨ge, rfl, hge, hb⟩
                      have HX3 := Lib.hid (HX1.out.kept hb)
                      have HGE := Lib.hid hge
                      clear hge hb
                      go_wp2_with fail
                      go_at_call 55; (with_reducible refine (dcl_yes HX3.out.dc HX3.out.rd.ty HF.out HGE.out).mono ?_); rintro e wb ⟨rfl, hb⟩
                      have HX2 := Lib.hid (HX3.out.kept hb)
                      clear hb
                      go_wp2_with fail
                      go_roundw
                      case rel => exact ⟨k + 1, by go_num, by omega, by omega, Lib.hid ⟨_, _, HX2.out⟩⟩
                      case measure => simp [intOf]; omega
                  · have g7 : (kind == 7) = false := by simpa using h7
                    clear h7
                    go_wp2_with fail
                    have HX2 := Lib.hid (HR.out.kept ((Below.refl wr.heap.size wr).alloc (Nat.le_refl _) (.cells #[.int .i64 kind, .int .i64 nn, .int .i64 ii, .string st, .int .i64 mo] 29)))
                    go_roundw
                    case rel => exact ⟨k + 1, by go_num, by omega, by omega, Lib.hid ⟨_, _, HX2.out⟩⟩
                    case measure => simp [intOf]; omega
    · have hor : ¬ k < nl ∨ (k < nl ∧ ¬ k < 200) := by omega
      clear hgo
      rcases hor with hkn | ⟨hkn, hk5⟩
      all_goals
        go_wp2_with fail
        rcases hf : s.fault with _ | ⟨code, pl⟩
        · have HF := Lib.hid hf
          clear hf
          go_at_call 27; (with_reducible refine (rdl_err_no HR.out.rd HF.out).mono ?_); rintro e wa ⟨rfl, hb⟩
          have HX3 := Lib.hid (HR.out.kept hb)
          clear hb
          go_wp2_with fail
          go_at_call 55; (with_reducible refine (dcl_no HX3.out.dc HF.out).mono ?_); rintro e wb ⟨rfl, hb⟩
          have HX2 := Lib.hid (HX3.out.kept hb)
          clear hb
          go_wp2_with fail
          go_at_call 51; (with_reducible refine (rd_left HX2.out.rd).mono ?_); rintro e wc ⟨rfl, hb⟩
          have HX4 := Lib.hid (HX2.out.kept hb)
          clear hb
          go_wp2_with fail
          go_at_call 52; (with_reducible refine (dc_left HX4.out.dc).mono ?_); rintro e wd ⟨rfl, hb⟩
          have HX5 := Lib.hid (HX4.out.kept hb)
          clear hb
          go_wp2_with fail
          go_at_call 23; (with_reducible refine (back_any gl cur A n c xs wd HL.out (HX.out.below HX5.out.below) HX5.out.lent HCU.out HN.out).mono ?_); rintro e we ⟨rfl, ht⟩
          have BE := Lib.hid (HX5.out.below.trans (ht.below HX5.out.below.size (fun k hk => by subst hk; exact HP.out.wg)))
          clear ht
          go_wp2_with fail
          go_at_call 19; (with_reducible refine (head_any _).mono ?_); rintro e wf ⟨rfl, hb⟩
          go_wp2
          go_ret
          exact ⟨rfl, BE.out.trans (hb.mono BE.out.size)⟩
        · have HF := Lib.hid hf
          clear hf
          go_at_call 27; (with_reducible refine (rdl_err_yes HR.out.rd HF.out).mono ?_); rintro e wa ⟨ge, rfl, hge, hb⟩
          have HX3 := Lib.hid (HR.out.kept hb)
          have HGE := Lib.hid hge
          clear hge hb
          go_wp2_with fail
          go_at_call 55; (with_reducible refine (dcl_yes HX3.out.dc HX3.out.rd.ty HF.out HGE.out).mono ?_); rintro e wb ⟨rfl, hb⟩
          have HX2 := Lib.hid (HX3.out.kept hb)
          clear hb
          go_wp2_with fail
          go_at_call 51; (with_reducible refine (rd_left HX2.out.rd).mono ?_); rintro e wc ⟨rfl, hb⟩
          have HX4 := Lib.hid (HX2.out.kept hb)
          clear hb
          go_wp2_with fail
          go_at_call 52; (with_reducible refine (dc_left HX4.out.dc).mono ?_); rintro e wd ⟨rfl, hb⟩
          have HX5 := Lib.hid (HX4.out.kept hb)
          clear hb
          go_wp2_with fail
          go_at_call 23; (with_reducible refine (back_any gl cur A n c xs wd HL.out (HX.out.below HX5.out.below) HX5.out.lent HCU.out HN.out).mono ?_); rintro e we ⟨rfl, ht⟩
          have BE := Lib.hid (HX5.out.below.trans (ht.below HX5.out.below.size (fun k hk => by subst hk; exact HP.out.wg)))
          clear ht
          go_wp2_with fail
          go_at_call 19; (with_reducible refine (head_any _).mono ?_); rintro e wf ⟨rfl, hb⟩
          go_wp2
          go_ret
          exact ⟨rfl, BE.out.trans (hb.mono BE.out.size)⟩
theorem bytes_cap {H : Type} {enc : TypeId × Value → H} {P : Program} {W : World} {t e : TypeId} {A : Option Addr} {n c : Nat} {d : DataW H} {p : List MemPlace}
    (ht : P.underlying t = some (.slice e)) (he : P.underlying e = some (.int .u8)) (hc : P.cellsOf e = 1) (h : DataW.Trod enc P W 0 (fun _ => true) true t (.slice A n c) d p) : n ≤ c := by
  obtain ⟨fuel, hf⟩ := h
  rcases Go.ChangeShapes.open_ints ht he hc hf with ⟨hcs, _⟩ | ⟨a, len, cap, zs, hcs, _, hl, _⟩
  · simp [Value.cells] at hcs
    obtain ⟨rfl, rfl, rfl⟩ := hcs
    exact Nat.le_refl _
  · simp [Value.cells] at hcs
    obtain ⟨rfl, rfl, rfl⟩ := hcs
    exact hl
end Go.Proofs.YtdgokebablhoiaaDoor
