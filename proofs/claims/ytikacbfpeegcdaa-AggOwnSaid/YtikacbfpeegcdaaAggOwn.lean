/- The law AggOwn: the walk. -/
import Derived.Test.YtikacbfpeegcdaaAggRoom
import Derived.Test.YtikacbfpeegcdaaAggFloat
import Derived.Test.YtikacbfpeegcdaaAggRow2
namespace Go.Proofs.Ytikacbfpeegcdaa
open Go.RowKit

theorem own_long (A : Option Addr) (n cap : Nat) (w : World) (h : 5000 < n) (hn : n ≤ 9223372036854775807) :
    Calls Try.prog 8 #[.slice A n cap] w fun e w' => e = .returned (.bool true) ∧ Below w.heap.size w w' := by
  go_enter Try.func8, Try.ntmps8
  go_wp2_with (go_at_call 11; (with_reducible refine (known_any _).mono ?_); rintro e w1 ⟨rfl, hb1⟩)
  go_ret
  exact ⟨rfl, hb1⟩

/-- The state that the law keeps: what was there reads as it did; the row of its own is known whole. -/
structure Mine (w : World) (g : Nat) (cur : Array Value) (W : World) : Prop where
  below : Below w.heap.size w W
  blk : Blk W g 2 cur
section
variable {w W W' : World} {g : Nat} {cur : Array Value}
theorem Mine.step (h : Mine w g cur W) (hb : Below W.heap.size W W') : Mine w g cur W' := ⟨h.below.trans (hb.mono h.below.size), h.blk.kept hb⟩
theorem Mine.alloc (h : Mine w g cur W) (o : Obj) : Mine w g cur (W.alloc o) := ⟨h.below.alloc h.below.size o, h.blk.alloc o⟩
theorem Mine.ints {zs : List Int} {n : Nat} (h : Mine w g cur W) (hl : zs.length = n) (hc : cur.toList = ivs (zs ++ [-77, -77, -77, -77])) (hw : ∀ x ∈ zs, I64 x) : IntsAt W (some ⟨g, 0, none⟩) n zs :=
  ⟨hl, fun k hk => ⟨_, rfl, h.blk.lt, by
    rw [add_zero_, h.blk.cell k, ← Array.getElem?_toList, hc]
    simp [ivs, List.getElem?_append_left, hl, hk]⟩, hw⟩
end

set_option maxHeartbeats 1000000 in
set_option maxRecDepth 100000 in
theorem own_no (A : Option Addr) (n cap : Nat) (zs : List Int) (w : World) (hz : IntsAt w A n zs) (hA : A = none → cap = 0) (h5 : n ≤ 5000) (p q : Int) (hf : foldI 0 0 0 0 zs = .inl (p, q)) :
    Calls Try.prog 8 #[.slice A n cap] w fun e w' => e = .returned (.bool true) ∧ Below w.heap.size w w' := by
  have HZ := Lib.hid hz
  have HF := Lib.hid hf
  have HA0 := Lib.hid hA
  have CR := Lib.hid (fun W => (rightB_eq (b := true) (by simp [RightP]) : rightB 0 0 0 0 = true) ▸ right_any 0 0 0 0 ⟨by omega, by omega⟩ ⟨by omega, by omega⟩ ⟨by omega, by omega⟩ ⟨by omega, by omega⟩ W)
  clear hz hf hA
  go_enter Try.func8, Try.ntmps8
  go_wp2_with fail
  go_at_call 11; (with_reducible refine (known_any _).mono ?_); rintro e w1 ⟨rfl, hb1⟩
  have B1 := Lib.hid hb1
  clear hb1
  go_wp2_with fail
  go_at_call 24; (with_reducible refine (room_any A n cap zs w1 (HZ.out.below B1.out) HA0.out h5).mono ?_); rintro e w2 ⟨g, cur, rfl, hg, hbk, hcur, hb2⟩
  have M2 := Lib.hid (show Mine w g cur w2 from ⟨B1.out.trans (hb2.mono B1.out.size), hbk⟩)
  have HC := Lib.hid hcur
  have CF := Lib.hid (fun W (h : Mine w g cur W) => HF.out ▸ fold_any (some ⟨g, 0, none⟩) n (n + 4) zs W (h.ints HZ.out.len HC.out HZ.out.wf) (by omega))
  have CL := Lib.hid (fun W (h : Mine w g cur W) => Least_i64 (some ⟨g, 0, none⟩) n (n + 4) zs W HZ.out.len (h.ints HZ.out.len HC.out HZ.out.wf).cells (by omega))
  have CM := Lib.hid (fun W (h : Mine w g cur W) => Most_i64 (some ⟨g, 0, none⟩) n (n + 4) zs W HZ.out.len (h.ints HZ.out.len HC.out HZ.out.wf).cells (by omega))
  have CS := Lib.hid (fun W (h : Mine w g cur W) => still_any g cur A n cap zs W (HZ.out.below h.below) h.blk HC.out h5)
  generalize bestL iltB 0 zs = a at CL
  generalize bestL igtB 0 zs = b at CM
  generalize hok : decide (0 < n) = ok at CL CM
  have HO := Lib.hid hok
  clear hg hbk hcur hb2 hok
  go_wp2_with fail
  go_at_call 14; (with_reducible refine (CF.out _ M2.out).mono ?_); rintro e w3 ⟨g3, rfl, hg3, hbk3, hb3⟩
  have M3 := Lib.hid ((M2.out.step hb3).alloc (.cells #[.int .i64 0, .int .i64 0, .int .i64 0, .int .i64 0] 26))
  clear hg3 hbk3 hb3
  go_wp2_with fail
  go_at_call 18; (with_reducible refine (CL.out _ M3.out).mono ?_); rintro e w4 ⟨rfl, rfl⟩
  go_wp2_with fail
  go_at_call 19; (with_reducible refine (CM.out _ M3.out).mono ?_); rintro e w4 ⟨rfl, rfl⟩
  go_wp2_with fail
  go_at_call 25; (with_reducible refine (CS.out _ M3.out).mono ?_); rintro e w4 ⟨rfl, hb4⟩
  have M4 := Lib.hid (M3.out.step hb4)
  have KX := Lib.hid (Blk.made hb4)
  clear hb4
  go_wp2_with fail
  go_at_call 14; (with_reducible refine (CF.out _ M4.out).mono ?_); rintro e w5 ⟨g5, rfl, hg5, hbk5, hb5⟩
  have M5 := Lib.hid ((M4.out.step hb5).alloc (.cells #[.int .i64 0, .int .i64 0, .int .i64 0, .int .i64 0] 26))
  have kx := KX.out.kept hb5
  have x0 : w5.cell? ⟨w3.heap.size, 0, none⟩ = some (.int .i64 0) := kx.cell 0
  have x1 : w5.cell? ⟨w3.heap.size, 1, none⟩ = some (.int .i64 0) := kx.cell 1
  have x2 : w5.cell? ⟨w3.heap.size, 2, none⟩ = some (.int .i64 0) := kx.cell 2
  have x3 : w5.cell? ⟨w3.heap.size, 3, none⟩ = some (.int .i64 0) := kx.cell 3
  have lx := kx.lt
  clear hg5 hbk5 hb5 kx
  go_wp2_with fail
  go_at_call 18; (with_reducible refine (CL.out _ M5.out).mono ?_); rintro e w6 ⟨rfl, rfl⟩
  go_wp2_with fail
  go_at_call 19; (with_reducible refine (CM.out _ M5.out).mono ?_); rintro e w6 ⟨rfl, rfl⟩
  have G5 := Lib.hid (show g < w5.heap.size + 1 by have := M5.out.blk.lt; simpa using this)
  have S5 := Lib.hid (show w.heap.size ≤ w5.heap.size + 1 by have := M5.out.below.size; simpa using this)
  go_wp2
  refine wp_region_heldq (B := w5.heap.size + 1) (w1 := w5.alloc (.cells #[.int .i64 0, .int .i64 0, .int .i64 0, .int .i64 0] 26)) (by kernel_rfl) (by kernel_rfl) (Held.of (Below.refl _ _).drew (by simp)) ?_
  repeat
    (with_reducible refine wpQuiet_step (fun K hK => ?_))
    first
      | ((with_reducible refine ite_pos_ ?_ ?_); (focus (go_simp; done)); apply Exists.intro; refine ⟨fun wz hzC => ?_, hK _ ?_⟩; (have hz := HeldC.out hzC; clear hzC; unfold Oper.quietAt; go_simp; (first | done | (first | (go_at_call 25; (with_reducible refine (CS.out _ ⟨M5.out.below.trans (hz.2.2.2.mono S5.out), M5.out.blk.below hz.2.2.2 G5.out⟩).mono ?_); rintro e w' ⟨rfl, hb⟩; exact ⟨rfl, HeldC.step hz hb⟩) | (go_at_call 12; (with_reducible refine (CR.out _).mono ?_); rintro e w' ⟨rfl, hb⟩; exact ⟨rfl, HeldC.step hz hb⟩)) | (with_reducible rfl))); clear hK K; (try simp only [Act.put, List.setIfInBounds_toArray, List.set_cons_zero, List.set_cons_succ]))
      | ((with_reducible refine ite_neg_ ?_ ?_); (focus (go_simp; done)); refine hK _ ?_; clear hK K; (try simp only [Act.put, List.setIfInBounds_toArray, List.set_cons_zero, List.set_cons_succ]))
  (with_reducible refine wpQuiet_nil ?_)
  intro wz hz
  go_wp2
  go_ret
  exact ⟨by simp, M5.out.below.trans (hz.2.2.2.mono S5.out)⟩

set_option maxHeartbeats 1000000 in
set_option maxRecDepth 100000 in
theorem own_ok (A : Option Addr) (n cap : Nat) (zs : List Int) (w : World) (hz : IntsAt w A n zs) (hA : A = none → cap = 0) (h5 : n ≤ 5000) (s mi ma : Int) (hf : foldI 0 0 0 0 zs = .inr ((n : Int), s, mi, ma)) :
    Calls Try.prog 8 #[.slice A n cap] w fun e w' => e = .returned (.bool true) ∧ Below w.heap.size w w' := by
  have HZ := Lib.hid hz
  have HF := Lib.hid hf
  have HA0 := Lib.hid hA
  have CR := Lib.hid (fun W => (rightB_eq (b := true) (by simp [RightP]) : rightB 0 0 0 0 = true) ▸ right_any 0 0 0 0 ⟨by omega, by omega⟩ ⟨by omega, by omega⟩ ⟨by omega, by omega⟩ ⟨by omega, by omega⟩ W)
  clear hz hf hA
  go_enter Try.func8, Try.ntmps8
  go_wp2_with fail
  go_at_call 11; (with_reducible refine (known_any _).mono ?_); rintro e w1 ⟨rfl, hb1⟩
  have B1 := Lib.hid hb1
  clear hb1
  go_wp2_with fail
  go_at_call 24; (with_reducible refine (room_any A n cap zs w1 (HZ.out.below B1.out) HA0.out h5).mono ?_); rintro e w2 ⟨g, cur, rfl, hg, hbk, hcur, hb2⟩
  have M2 := Lib.hid (show Mine w g cur w2 from ⟨B1.out.trans (hb2.mono B1.out.size), hbk⟩)
  have HC := Lib.hid hcur
  have CF := Lib.hid (fun W (h : Mine w g cur W) => HF.out ▸ fold_any (some ⟨g, 0, none⟩) n (n + 4) zs W (h.ints HZ.out.len HC.out HZ.out.wf) (by omega))
  have CL := Lib.hid (fun W (h : Mine w g cur W) => Least_i64 (some ⟨g, 0, none⟩) n (n + 4) zs W HZ.out.len (h.ints HZ.out.len HC.out HZ.out.wf).cells (by omega))
  have CM := Lib.hid (fun W (h : Mine w g cur W) => Most_i64 (some ⟨g, 0, none⟩) n (n + 4) zs W HZ.out.len (h.ints HZ.out.len HC.out HZ.out.wf).cells (by omega))
  have CS := Lib.hid (fun W (h : Mine w g cur W) => still_any g cur A n cap zs W (HZ.out.below h.below) h.blk HC.out h5)
  generalize bestL iltB 0 zs = a at CL
  generalize bestL igtB 0 zs = b at CM
  generalize hok : decide (0 < n) = ok at CL CM
  have HO := Lib.hid hok
  clear hg hbk hcur hb2 hok
  go_wp2_with fail
  go_at_call 14; (with_reducible refine (CF.out _ M2.out).mono ?_); rintro e w3 ⟨rfl, hb3⟩
  have M3 := Lib.hid ((M2.out.step hb3).alloc (.cells #[.int .i64 (n : Int), .int .i64 s, .int .i64 mi, .int .i64 ma] 26))
  clear hb3
  go_wp2_with fail
  go_at_call 18; (with_reducible refine (CL.out _ M3.out).mono ?_); rintro e w4 ⟨rfl, rfl⟩
  go_wp2_with fail
  go_at_call 19; (with_reducible refine (CM.out _ M3.out).mono ?_); rintro e w4 ⟨rfl, rfl⟩
  go_wp2_with fail
  go_at_call 25; (with_reducible refine (CS.out _ M3.out).mono ?_); rintro e w4 ⟨rfl, hb4⟩
  have M4 := Lib.hid (M3.out.step hb4)
  have KX := Lib.hid (Blk.made hb4)
  clear hb4
  go_wp2_with fail
  go_at_call 14; (with_reducible refine (CF.out _ M4.out).mono ?_); rintro e w5 ⟨rfl, hb5⟩
  have M5 := Lib.hid ((M4.out.step hb5).alloc (.cells #[.int .i64 (n : Int), .int .i64 s, .int .i64 mi, .int .i64 ma] 26))
  have kx := KX.out.kept hb5
  have x0 : w5.cell? ⟨w3.heap.size, 0, none⟩ = some (.int .i64 (n : Int)) := kx.cell 0
  have x1 : w5.cell? ⟨w3.heap.size, 1, none⟩ = some (.int .i64 s) := kx.cell 1
  have x2 : w5.cell? ⟨w3.heap.size, 2, none⟩ = some (.int .i64 mi) := kx.cell 2
  have x3 : w5.cell? ⟨w3.heap.size, 3, none⟩ = some (.int .i64 ma) := kx.cell 3
  have lx := kx.lt
  clear hb5 kx
  go_wp2_with fail
  go_at_call 18; (with_reducible refine (CL.out _ M5.out).mono ?_); rintro e w6 ⟨rfl, rfl⟩
  go_wp2_with fail
  go_at_call 19; (with_reducible refine (CM.out _ M5.out).mono ?_); rintro e w6 ⟨rfl, rfl⟩
  have G5 := Lib.hid (show g < w5.heap.size + 1 by have := M5.out.blk.lt; simpa using this)
  have S5 := Lib.hid (show w.heap.size ≤ w5.heap.size + 1 by have := M5.out.below.size; simpa using this)
  go_wp2
  refine wp_region_heldq (B := w5.heap.size + 1) (w1 := w5.alloc (.cells #[.int .i64 (n : Int), .int .i64 s, .int .i64 mi, .int .i64 ma] 26)) (by kernel_rfl) (by kernel_rfl) (Held.of (Below.refl _ _).drew (by simp)) ?_
  repeat
    (with_reducible refine wpQuiet_step (fun K hK => ?_))
    first
      | ((with_reducible refine ite_pos_ ?_ ?_); (focus (go_simp; done)); apply Exists.intro; refine ⟨fun wz hzC => ?_, hK _ ?_⟩; (have hz := HeldC.out hzC; clear hzC; unfold Oper.quietAt; go_simp; (first | done | (first | (go_at_call 25; (with_reducible refine (CS.out _ ⟨M5.out.below.trans (hz.2.2.2.mono S5.out), M5.out.blk.below hz.2.2.2 G5.out⟩).mono ?_); rintro e w' ⟨rfl, hb⟩; exact ⟨rfl, HeldC.step hz hb⟩) | (go_at_call 12; (with_reducible refine (CR.out _).mono ?_); rintro e w' ⟨rfl, hb⟩; exact ⟨rfl, HeldC.step hz hb⟩)) | (with_reducible rfl))); clear hK K; (try simp only [Act.put, List.setIfInBounds_toArray, List.set_cons_zero, List.set_cons_succ]))
      | ((with_reducible refine ite_neg_ ?_ ?_); (focus (go_simp; done)); refine hK _ ?_; clear hK K; (try simp only [Act.put, List.setIfInBounds_toArray, List.set_cons_zero, List.set_cons_succ]))
  (with_reducible refine wpQuiet_nil ?_)
  intro wz hz
  go_wp2
  go_ret
  exact ⟨by simp, M5.out.below.trans (hz.2.2.2.mono S5.out)⟩

theorem law_own (A : Option Addr) (n cap : Nat) (zs : List Int) (w : World) (hz : IntsAt w A n zs) (hA : A = none → cap = 0) (hn : n ≤ 9223372036854775807) :
    Calls Try.prog 8 #[.slice A n cap] w fun e w' => e = .returned (.bool true) ∧ Below w.heap.size w w' := by
  by_cases h : 5000 < n
  · exact own_long A n cap w h hn
  · have h5 : n ≤ 5000 := by omega
    cases hf : foldI 0 0 0 0 zs with
    | inl x => exact own_no A n cap zs w hz hA h5 x.1 x.2 hf
    | inr y =>
      obtain ⟨c, s, mi, ma⟩ := y
      obtain ⟨_, hc, _⟩ := fold_right zs hz.wf c s mi ma hf
      rw [hz.len] at hc
      subst hc
      exact own_ok A n cap zs w hz hA h5 s mi ma hf
end Go.Proofs.Ytikacbfpeegcdaa
