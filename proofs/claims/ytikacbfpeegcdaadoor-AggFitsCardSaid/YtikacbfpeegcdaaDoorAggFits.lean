/- The law AggFits: the walk. -/
import Derived.Test.YtikacbfpeegcdaaDoorAggK
import Derived.Test.YtikacbfpeegcdaaDoorAggBest64
import Derived.Test.YtikacbfpeegcdaaDoorAggRow
import Derived.Test.YtikacbfpeegcdaaDoorAs
import Derived.Test.YtikacbfpeegcdaaDoorTied
namespace Go.Proofs.YtikacbfpeegcdaaDoor
open Go.RowKit

theorem IntsAt.vals {w : World} {A : Option Addr} {n : Nat} {zs : List Int} (h : IntsAt w A n zs) : CellsAt w A (zs.map (Value.int .i64 ·)) := fun k hk => by
  obtain ⟨ad, e, hl, hc⟩ := h.at_ k (by have := h.len; simp at hk; omega)
  exact ⟨ad, e, hl, by rw [hc]; simp⟩
theorem least_min (zs : List Int) (k : Nat) (hk : k < zs.length) (h0 : k ≠ 0) : bestL iltB 0 (zs.take (k + 1)) = min (bestL iltB 0 (zs.take k)) zs[k] := by
  rw [take_succ_ zs k hk, bestL_snoc iltB 0 _ _ (by simp; omega)]
  generalize bestL iltB 0 (zs.take k) = b
  simp only [iltB, decide_eq_true_eq]
  split <;> omega
theorem most_max (zs : List Int) (k : Nat) (hk : k < zs.length) (h0 : k ≠ 0) : bestL igtB 0 (zs.take (k + 1)) = max (bestL igtB 0 (zs.take k)) zs[k] := by
  rw [take_succ_ zs k hk, bestL_snoc igtB 0 _ _ (by simp; omega)]
  generalize bestL igtB 0 (zs.take k) = b
  simp only [igtB, decide_eq_true_eq]
  split <;> omega

theorem fits_long (A : Option Addr) (n cap : Nat) (w : World) (h : 5000 < n) (hn : n ≤ 9223372036854775807) :
    Calls Tryd.prog 3 #[.slice A n cap] w fun e w' => e = .returned (.bool true) ∧ Below w.heap.size w w' := by
  go_enter Tryd.func3, Tryd.ntmps3
  go_wp2_with (go_at_call 8; (with_reducible refine (known_any _).mono ?_); rintro e w1 ⟨rfl, hb1⟩)
  go_ret
  exact ⟨rfl, hb1⟩

/-- What errors.As makes of an *Overflow. -/
theorem as_ovf (g t : Nat) (old : Value) (W : World) (hg : W.cell? ⟨0, 0, none⟩ = some tyErr) (ht : W.cell? ⟨t, 0, none⟩ = some old) (hf : W.frozen? ⟨t, 0, none⟩ = false) :
    Calls Tryd.prog 11 #[ovf g, .iface 34 (.pointer (some ⟨t, 0, none⟩))] W fun e w' => ∃ W2, e = .returned (.bool true) ∧ w' = W2.setCell ⟨t, 0, none⟩ (.pointer (some ⟨g, 0, none⟩)) ∧ Below W.heap.size W W2 := by
  refine (as_hit ⟨g, 0, none⟩ ⟨t, 0, none⟩ old W hg ht hf).mono ?_
  rintro e w' ⟨rfl, rfl⟩
  exact ⟨_, rfl, rfl, ((((Below.refl _ _).alloc (Nat.le_refl _) _).alloc (by simp) _).alloc (by simp; omega) _).alloc (by simp; omega) _⟩

/-- What is known in the k-th round. -/
def FitsAt (zs : List Int) (k : Nat) (s : Int) : Prop :=
  foldI 0 0 0 0 zs = foldI (k : Int) s (bestL iltB 0 (zs.take k)) (bestL igtB 0 (zs.take k)) (zs.drop k) ∧ (k = 0 → s = 0)
theorem FitsAt.start (zs : List Int) : FitsAt zs 0 0 := ⟨by simp [bestL], fun _ => rfl⟩
theorem FitsAt.step {zs : List Int} {k : Nat} {s : Int} (h : FitsAt zs k s) (hk : k < zs.length) (hi : I64 (s + zs[k])) : FitsAt zs (k + 1) (s + zs[k]) := by
  obtain ⟨h1, h2⟩ := h
  refine ⟨?_, fun h => by omega⟩
  rw [h1, foldI_drop _ _ _ _ _ k hk]
  by_cases h0 : k = 0
  · have hs := h2 h0
    subst h0
    rw [hs, take_succ_ zs 0 hk]
    simp [bestL]
  · rw [if_neg (by omega), if_pos hi, least_min zs k hk h0, most_max zs k hk h0]
    simp
theorem FitsAt.no {zs : List Int} {k : Nat} {s : Int} (h : FitsAt zs k s) (hk : k < zs.length) (hz : I64 zs[k]) (hi : ¬ I64 (s + zs[k])) : foldI 0 0 0 0 zs = .inl (s, zs[k]) := by
  obtain ⟨h1, h2⟩ := h
  have h0 : k ≠ 0 := fun h0 => hi (by rw [h2 h0, Int.zero_add]; exact hz)
  rw [h1, foldI_drop _ _ _ _ _ k hk, if_neg (by omega), if_neg hi]
theorem FitsAt.end_ {zs : List Int} {s : Int} (h : FitsAt zs zs.length s) : foldI 0 0 0 0 zs = .inr ((zs.length : Int), s, bestL iltB 0 zs, bestL igtB 0 zs) := by
  have h1 := h.1
  rw [List.take_of_length_le (Nat.le_refl _), List.drop_of_length_le (Nat.le_refl _)] at h1
  exact h1

set_option maxHeartbeats 2000000 in
set_option maxRecDepth 100000 in
theorem fits_short (A : Option Addr) (n cap : Nat) (zs : List Int) (w : World) (hT : w.cell? ⟨0, 0, none⟩ = some tyErr) (hz : IntsAt w A n zs) (hn : n ≤ 5000) :
    Calls Tryd.prog 3 #[.slice A n cap] w fun e w' => e = .returned (.bool true) ∧ Below w.heap.size w w' := by
  have HT := Lib.hid hT
  have HZ := Lib.hid hz
  have HL := Lib.hid hz.len
  clear hT hz
  go_enter Tryd.func3, Tryd.ntmps3
  go_wp2_with (go_at_call 8; (with_reducible refine (known_any _).mono ?_); rintro e w1 ⟨rfl, hb1⟩; have B1 := Lib.hid hb1; clear hb1)
  have HZ1 := Lib.hid (HZ.out.below B1.out)
  go_loop [3, 4] (fun sum i => ∃ (k : Nat) (s : Int), k ≤ n ∧ i = .int .i64 k ∧ sum = .int .i64 s ∧ I64 s ∧ Hid (FitsAt zs k s)) (fun _ i => n - (intOf i).toNat)
  case atStart => exact ⟨0, 0, Nat.zero_le _, rfl, rfl, ⟨by omega, by omega⟩, Lib.hid (FitsAt.start zs)⟩
  case round =>
    obtain ⟨k, s, hk, rfl, rfl, hs, HP⟩ := hrel
    have HS := Lib.hid hs
    clear hs
    by_cases hlt : k < n
    · obtain ⟨ad, rfl, hal0, hcell0⟩ := HZ.out.at_ k hlt
      obtain ⟨ad', had, hal, hcell⟩ := HZ1.out.at_ k hlt
      cases had
      have hkl : k < zs.length := by rw [HL.out]; exact hlt
      have HV := Lib.hid (HZ1.out.wf zs[k] (List.getElem_mem _))
      have HSt := Lib.hid (fun hi => HP.out.step hkl hi)
      have HNo := Lib.hid (fun hi => HP.out.no hkl HV.out hi)
      clear HP
      generalize zs[k] = x at hcell hcell0 HV HSt HNo
      have HC0 := Lib.hid hcell0
      clear hcell0
      by_cases hi : I64 (s + x)
      · have HI := Lib.hid hi
        have C := Lib.hid (fun W => add_ok s x HS.out HV.out hi W)
        clear hi
        go_wp2_with fail
        go_at_call 9; (with_reducible refine (C.out _).mono ?_); rintro e w2 ⟨rfl, rfl⟩
        go_wp2
        go_round
        case rel => exact ⟨k + 1, s + x, by omega, by go_num, rfl, HI.out, Lib.hid (HSt.out HI.out)⟩
        case measure => simp [intOf]; omega
      · have HF := Lib.hid (HNo.out hi)
        have C := Lib.hid (fun W => add_no s x HS.out HV.out hi W)
        clear hi HSt HNo
        go_wp2_with fail
        go_at_call 9; (with_reducible refine (C.out _).mono ?_); rintro e w2 ⟨rfl, rfl⟩
        have B2 := Lib.hid (B1.out.alloc B1.out.size (ovfObj 43 s x))
        have C := Lib.hid (fold_any (some ad) n cap zs (w1.alloc (ovfObj 43 s x)) (HZ.out.below B2.out) (by omega))
        go_wp2_with fail
        go_at_call 10; (with_reducible refine C.out.mono ?_); intro e w3 hp
        rw [HF.out] at hp
        obtain ⟨g, rfl, hg, hbk, hb3⟩ := hp
        have B3 := Lib.hid (B2.out.trans (hb3.mono B2.out.size))
        have KG := Lib.hid hbk
        clear hg hbk hb3
        go_wp2_with fail
        go_at_call 11; (with_reducible refine (as_ovf g (w3.heap.size + 1) (.pointer none) _ ?_ ?_ ?_).mono ?_)
        · exact (((B3.out.alloc B3.out.size _).alloc (by have := B3.out.size; simp; omega) _).cell (p := ⟨0, 0, none⟩) (World.block_lt_of_cell? w _ HT.out)).trans HT.out
        · rw [World.cell?_alloc_at _ _ _ _ (by simp)]; rfl
        · exact (show Blk ((w3.alloc (.cells #[.int .i64 0, .int .i64 0, .int .i64 0, .int .i64 0] 29)).alloc (.cells #[.pointer none] 32)) (w3.heap.size + 1) 32 #[.pointer none] from by
            have h := Blk.new (w3.alloc (.cells #[.int .i64 0, .int .i64 0, .int .i64 0, .int .i64 0] 29)) 32 #[.pointer none]
            rwa [show (w3.alloc (.cells #[.int .i64 0, .int .i64 0, .int .i64 0, .int .i64 0] 29)).heap.size = w3.heap.size + 1 by simp] at h).frozen 0
        rintro e w5 ⟨W2, rfl, hw5, hb4⟩
        have lg := KG.out.lt
        have hsz : ((w3.alloc (.cells #[.int .i64 0, .int .i64 0, .int .i64 0, .int .i64 0] 29)).alloc (.cells #[.pointer none] 32)).heap.size = w3.heap.size + 1 + 1 := by simp
        have bg : Blk W2 g 36 #[.int .u8 43, .int .i64 s, .int .i64 x] := ((KG.out.alloc _).alloc _).kept hb4
        have bx : Blk W2 w3.heap.size 29 #[.int .i64 0, .int .i64 0, .int .i64 0, .int .i64 0] := ((Blk.new w3 _ _).alloc _).kept hb4
        have bo : Blk W2 (w3.heap.size + 1) 32 #[.pointer none] := by
          have h := (Blk.new (w3.alloc (.cells #[.int .i64 0, .int .i64 0, .int .i64 0, .int .i64 0] 29)) 32 #[.pointer none]).kept hb4
          rwa [show (w3.alloc (.cells #[.int .i64 0, .int .i64 0, .int .i64 0, .int .i64 0] 29)).heap.size = w3.heap.size + 1 by simp] at h
        have B4 : Below w.heap.size w W2 := ((B3.out.alloc B3.out.size _).alloc (by have := B3.out.size; simp; omega) _).trans (hb4.mono (by have := B3.out.size; simp; omega))
        have bo5 : Blk w5 (w3.heap.size + 1) 32 #[.pointer (some ⟨g, 0, none⟩)] := hw5 ▸ bo.set_ 0 _
        have bg5 : Blk w5 g 36 #[.int .u8 43, .int .i64 s, .int .i64 x] := hw5 ▸ bg.far (by show g ≠ w3.heap.size + 1; omega) _
        have bx5 : Blk w5 w3.heap.size 29 #[.int .i64 0, .int .i64 0, .int .i64 0, .int .i64 0] := hw5 ▸ bx.far (by show w3.heap.size ≠ w3.heap.size + 1; omega) _
        have B5 : Below w.heap.size w w5 := hw5 ▸ B4.setCell (by show w.heap.size ≤ w3.heap.size + 1; have := B3.out.size; omega) _
        have BW := Lib.hid B5
        have x0 : w5.cell? ⟨w3.heap.size, 0, none⟩ = some (.int .i64 0) := bx5.cell 0
        have x1 : w5.cell? ⟨w3.heap.size, 1, none⟩ = some (.int .i64 0) := bx5.cell 1
        have x2 : w5.cell? ⟨w3.heap.size, 2, none⟩ = some (.int .i64 0) := bx5.cell 2
        have x3 : w5.cell? ⟨w3.heap.size, 3, none⟩ = some (.int .i64 0) := bx5.cell 3
        have o0 : w5.cell? ⟨w3.heap.size + 1, 0, none⟩ = some (.pointer (some ⟨g, 0, none⟩)) := bo5.cell 0
        have g0 : w5.cell? ⟨g, 0, none⟩ = some (.int .u8 43) := bg5.cell 0
        have g1 : w5.cell? ⟨g, 1, none⟩ = some (.int .i64 s) := bg5.cell 1
        have g2 : w5.cell? ⟨g, 2, none⟩ = some (.int .i64 x) := bg5.cell 2
        have l0 : w5.cell? (ad.add k) = some (.int .i64 x) := ((B5.cell (by rw [block_add]; exact hal0)).trans HC0.out)
        clear hw5 hb4 hsz bg bx bo B4 bo5 bg5 bx5 B5
        go_wp2
        go_quiet (fail)
        go_wp2
        go_ret
        exact ⟨by simp, below_drewN BW.out _⟩
    · obtain rfl : k = n := by omega
      have HF := Lib.hid (show foldI 0 0 0 0 zs = .inr ((k : Int), s, bestL iltB 0 zs, bestL igtB 0 zs) by
        have h := HP.out
        rw [← HL.out] at h ⊢
        exact h.end_)
      have C := Lib.hid (fold_any A k cap zs w1 HZ1.out (by omega))
      have C1 := Lib.hid (fun W (h : Below w.heap.size w W) => Least_i64 A k cap zs W HL.out (HZ.out.vals.below h) (by omega))
      have C2 := Lib.hid (fun W (h : Below w.heap.size w W) => Most_i64 A k cap zs W HL.out (HZ.out.vals.below h) (by omega))
      generalize bestL iltB 0 zs = a at HF C1
      generalize bestL igtB 0 zs = b at HF C2
      clear HP
      go_wp2_with fail
      go_at_call 10; (with_reducible refine C.out.mono ?_); intro e w3 hp
      rw [HF.out] at hp
      obtain ⟨rfl, hb3⟩ := hp
      have B3 := Lib.hid (B1.out.trans (hb3.mono B1.out.size))
      clear hb3
      go_wp2_with fail
      go_at_call 12; (with_reducible refine (C1.out _ (B3.out.alloc B3.out.size _)).mono ?_); rintro e w4 ⟨rfl, rfl⟩
      go_wp2_with fail
      go_at_call 13; (with_reducible refine (C2.out _ (B3.out.alloc B3.out.size _)).mono ?_); rintro e w4 ⟨rfl, rfl⟩
      go_wp2
      go_ret
      exact ⟨by simp, B3.out.alloc B3.out.size _⟩
theorem law_fits (A : Option Addr) (n cap : Nat) (zs : List Int) (w : World) (hT : w.cell? ⟨0, 0, none⟩ = some tyErr) (hz : IntsAt w A n zs) (hn : n ≤ 9223372036854775807) :
    Calls Tryd.prog 3 #[.slice A n cap] w fun e w' => e = .returned (.bool true) ∧ Below w.heap.size w w' := by
  by_cases h : 5000 < n
  · exact fits_long A n cap w h hn
  · exact fits_short A n cap zs w hT hz (by omega)
end Go.Proofs.YtikacbfpeegcdaaDoor
