/- The law AggReal: the walk. -/
import Derived.Test.YtikacbfpeegcdaaAggK
import Derived.Test.YtikacbfpeegcdaaAggM
namespace Go.Proofs.Ytikacbfpeegcdaa
open Go.RowKit Go.Shelf

theorem real_short (A : Option Addr) (n cap : Nat) (by_ : Int) (w : World) (h : n < 2 ∨ 5000 < n) (hn : n ≤ 9223372036854775807) :
    Calls Try.prog 5 #[.slice A n cap, .int .i64 by_] w fun e w' => e = .returned (.bool true) ∧ Below w.heap.size w w' := by
  rcases h with h | h
  · go_enter Try.func5, Try.ntmps5
    go_wp2_with (go_at_call 11; (with_reducible refine (known_any _).mono ?_); rintro e w1 ⟨rfl, hb1⟩)
    go_ret
    exact ⟨rfl, hb1⟩
  · have h2 : decide (n < 2) = false := by simp; omega
    go_enter Try.func5, Try.ntmps5
    go_wp2_with (go_at_call 11; (with_reducible refine (known_any _).mono ?_); rintro e w1 ⟨rfl, hb1⟩)
    go_ret
    exact ⟨rfl, hb1⟩

set_option maxHeartbeats 1000000 in
set_option maxRecDepth 100000 in
theorem real_bad (A : Option Addr) (n cap : Nat) (zs : List Int) (by_ : Int) (w : World) (hz : IntsAt w A n zs) (h2 : 2 ≤ n) (h5 : n ≤ 5000) (a b : Int) (hf : foldI 0 0 0 0 zs = .inl (a, b)) :
    Calls Try.prog 5 #[.slice A n cap, .int .i64 by_] w fun e w' => e = .returned (.bool true) ∧ Below w.heap.size w w' := by
  have HZ := Lib.hid hz
  have HF := Lib.hid hf
  clear hz hf
  go_enter Try.func5, Try.ntmps5
  go_wp2_with fail
  go_at_call 11; (with_reducible refine (known_any _).mono ?_); rintro e w1 ⟨rfl, hb1⟩
  have C := Lib.hid (fold_any A n cap zs w1 (HZ.out.below hb1) (by omega))
  have HB := Lib.hid hb1
  clear hb1
  go_wp2_with fail
  go_at_call 14; (with_reducible refine C.out.mono ?_); intro e w2 hp
  rw [HF.out] at hp
  obtain ⟨g, rfl, hg, hbk, hb2⟩ := hp
  have HB2 := Lib.hid (HB.out.trans (hb2.mono HB.out.size))
  clear hg hbk hb2
  go_wp2
  go_ret
  exact ⟨rfl, HB2.out.alloc HB2.out.size _⟩
set_option maxHeartbeats 1000000 in
set_option maxRecDepth 100000 in
theorem real_ne (A : Option Addr) (n cap : Nat) (zs : List Int) (by_ : Int) (w : World) (hz : IntsAt w A n zs) (h2 : 2 ≤ n) (h5 : n ≤ 5000) (c s mi ma : Int) (hf : foldI 0 0 0 0 zs = .inr (c, s, mi, ma)) (hne : mi < ma) :
    Calls Try.prog 5 #[.slice A n cap, .int .i64 by_] w fun e w' => e = .returned (.bool true) ∧ Below w.heap.size w w' := by
  have HZ := Lib.hid hz
  have HF := Lib.hid hf
  obtain ⟨hr, hcn, is_, imi, ima⟩ := fold_right zs hz.wf c s mi ma hf
  have ic : I64 c := by have := hz.len; exact ⟨by omega, by omega⟩
  have c2 : 2 ≤ c := by have := hz.len; omega
  have RR := Lib.hid (rightB_eq (b := true) (by simp [hr]) : rightB c s mi ma = true)
  have CR := Lib.hid (fun W => RR.out ▸ right_any c s mi ma ic is_ imi ima W)
  have RY := Lib.hid (rightB_eq (b := false) (by simp [RightP]; omega) : rightB c s ma mi = false)
  have CY := Lib.hid (fun W => RY.out ▸ right_any c s ma mi ic is_ ima imi W)
  have RN := Lib.hid (rightB_eq (b := false) (by simp [RightP]; omega) : rightB (-c) s mi ma = false)
  have CN := Lib.hid (fun W => RN.out ▸ right_any (-c) s mi ma (by obtain ⟨_, _⟩ := ic; exact ⟨by omega, by omega⟩) is_ imi ima W)
  have n1 : (mi == ma) = false := by simp; omega
  have n2 : (mi != ma) = true := by simp; omega
  clear hz hf hr hcn
  have cu := ic.2
  go_enter Try.func5, Try.ntmps5
  go_wp2_with fail
  go_at_call 11; (with_reducible refine (known_any _).mono ?_); rintro e w1 ⟨rfl, hb1⟩
  have C := Lib.hid (fold_any A n cap zs w1 (HZ.out.below hb1) (by omega))
  have HB := Lib.hid hb1
  clear hb1
  go_wp2_with fail
  go_at_call 14; (with_reducible refine C.out.mono ?_); intro e w2 hp
  rw [HF.out] at hp
  obtain ⟨rfl, hb2⟩ := hp
  have HB2 := Lib.hid (HB.out.trans (hb2.mono HB.out.size))
  clear hb2
  go_wp2_with fail
  go_at_call 12; (with_reducible refine (CR.out _).mono ?_); rintro e w3 ⟨rfl, hb3⟩
  have kx := Blk.made hb3
  have HB3 := Lib.hid ((HB2.out.alloc HB2.out.size _).trans (hb3.mono (by have := HB2.out.size; simp; omega)))
  have lx : w2.heap.size < w3.heap.size := kx.lt
  have x0 : w3.cell? ⟨w2.heap.size, 0, none⟩ = some (.int .i64 c) := kx.cell 0
  have x1 : w3.cell? ⟨w2.heap.size, 1, none⟩ = some (.int .i64 s) := kx.cell 1
  have x2 : w3.cell? ⟨w2.heap.size, 2, none⟩ = some (.int .i64 mi) := kx.cell 2
  have x3 : w3.cell? ⟨w2.heap.size, 3, none⟩ = some (.int .i64 ma) := kx.cell 3
  have KX := Lib.hid kx
  clear hb3 kx
  go_wp2
  go_region
  go_wp2_with fail
  go_at_call 12; (with_reducible refine (CY.out _).mono ?_); rintro e w4 ⟨rfl, hb4⟩
  have ky := Blk.madeD hb4
  clear x0 x1 x2 x3
  have y0 : w4.cell? ⟨w3.heap.size, 0, none⟩ = some (.int .i64 c) := ky.cell 0
  have y1 : w4.cell? ⟨w3.heap.size, 1, none⟩ = some (.int .i64 s) := ky.cell 1
  have y2 : w4.cell? ⟨w3.heap.size, 2, none⟩ = some (.int .i64 ma) := ky.cell 2
  have y3 : w4.cell? ⟨w3.heap.size, 3, none⟩ = some (.int .i64 mi) := ky.cell 3
  have yf := fun i => ky.frozen i
  have kx4 := Blk.kept ((KX.out.alloc _).drew) hb4
  have x0 : w4.cell? ⟨w2.heap.size, 0, none⟩ = some (.int .i64 c) := kx4.cell 0
  have x1 : w4.cell? ⟨w2.heap.size, 1, none⟩ = some (.int .i64 s) := kx4.cell 1
  have x2 : w4.cell? ⟨w2.heap.size, 2, none⟩ = some (.int .i64 mi) := kx4.cell 2
  have x3 : w4.cell? ⟨w2.heap.size, 3, none⟩ = some (.int .i64 ma) := kx4.cell 3
  have HB4 := Lib.hid ((HB3.out.alloc HB3.out.size _).drew.trans (hb4.mono (by have := HB3.out.size; simp; omega)))
  have ne : w2.heap.size ≠ w3.heap.size := by omega
  have HS := Lib.hid HB3.out.size
  clear hb4 ky kx4
  go_wp2_with fail
  go_at_call 12; (with_reducible refine (CN.out _).mono ?_); rintro e w5 ⟨rfl, hb5⟩
  have HB5 := Lib.hid (((HB4.out.four HS.out _ _ _ _).setCell (p := ⟨w3.heap.size, 0, none⟩) HS.out _).trans (hb5.mono (by have := HB4.out.size; simpa using this)))
  clear hb5
  go_wp2
  go_ret
  exact ⟨rfl, HB5.out⟩
set_option maxHeartbeats 1000000 in
set_option maxRecDepth 100000 in
theorem real_eq0 (A : Option Addr) (n cap : Nat) (zs : List Int) (by_ : Int) (w : World) (hz : IntsAt w A n zs) (h2 : 2 ≤ n) (h5 : n ≤ 5000) (c s mi : Int) (hf : foldI 0 0 0 0 zs = .inr (c, s, mi, mi)) (hby : by_ = 0) :
    Calls Try.prog 5 #[.slice A n cap, .int .i64 by_] w fun e w' => e = .returned (.bool true) ∧ Below w.heap.size w w' := by
  subst hby
  have HZ := Lib.hid hz
  have HF := Lib.hid hf
  obtain ⟨hr, hcn, is_, imi, ima⟩ := fold_right zs hz.wf c s mi mi hf
  have ic : I64 c := by have := hz.len; exact ⟨by omega, by omega⟩
  have c2 : 2 ≤ c := by have := hz.len; omega
  have RR := Lib.hid (rightB_eq (b := true) (by simp [hr]) : rightB c s mi mi = true)
  have CR := Lib.hid (fun W => RR.out ▸ right_any c s mi mi ic is_ imi ima W)
  have RN := Lib.hid (rightB_eq (b := false) (by simp [RightP]; omega) : rightB (-c) s mi mi = false)
  have CN := Lib.hid (fun W => RN.out ▸ right_any (-c) s mi mi (by obtain ⟨_, _⟩ := ic; exact ⟨by omega, by omega⟩) is_ imi ima W)
  clear hz hf hr hcn
  have cu := ic.2
  go_enter Try.func5, Try.ntmps5
  go_wp2_with fail
  go_at_call 11; (with_reducible refine (known_any _).mono ?_); rintro e w1 ⟨rfl, hb1⟩
  have C := Lib.hid (fold_any A n cap zs w1 (HZ.out.below hb1) (by omega))
  have HB := Lib.hid hb1
  clear hb1
  go_wp2_with fail
  go_at_call 14; (with_reducible refine C.out.mono ?_); intro e w2 hp
  rw [HF.out] at hp
  obtain ⟨rfl, hb2⟩ := hp
  have HB2 := Lib.hid (HB.out.trans (hb2.mono HB.out.size))
  clear hb2
  go_wp2_with fail
  go_at_call 12; (with_reducible refine (CR.out _).mono ?_); rintro e w3 ⟨rfl, hb3⟩
  have kx := Blk.made hb3
  have HB3 := Lib.hid ((HB2.out.alloc HB2.out.size _).trans (hb3.mono (by have := HB2.out.size; simp; omega)))
  have lx : w2.heap.size < w3.heap.size := kx.lt
  have x0 : w3.cell? ⟨w2.heap.size, 0, none⟩ = some (.int .i64 c) := kx.cell 0
  have x1 : w3.cell? ⟨w2.heap.size, 1, none⟩ = some (.int .i64 s) := kx.cell 1
  have x2 : w3.cell? ⟨w2.heap.size, 2, none⟩ = some (.int .i64 mi) := kx.cell 2
  have x3 : w3.cell? ⟨w2.heap.size, 3, none⟩ = some (.int .i64 mi) := kx.cell 3
  have KX := Lib.hid kx
  clear hb3 kx
  go_wp2
  go_region
  go_wp2_with fail
  go_at_call 12; (with_reducible refine (CN.out _).mono ?_); rintro e w5 ⟨rfl, hb5⟩
  have HB5 := Lib.hid ((HB3.out.alloc HB3.out.size _).drew.trans (hb5.mono (by have := HB3.out.size; simp; omega)))
  clear hb5
  go_wp2
  go_ret
  exact ⟨rfl, HB5.out⟩

set_option maxHeartbeats 1000000 in
set_option maxRecDepth 100000 in
theorem real_eqno (A : Option Addr) (n cap : Nat) (zs : List Int) (by_ : Int) (w : World) (hz : IntsAt w A n zs) (h2 : 2 ≤ n) (h5 : n ≤ 5000) (c s mi : Int) (hf : foldI 0 0 0 0 zs = .inr (c, s, mi, mi)) (hby : by_ ≠ 0) (ib : I64 by_) (hs : ¬ I64 (s + by_)) :
    Calls Try.prog 5 #[.slice A n cap, .int .i64 by_] w fun e w' => e = .returned (.bool true) ∧ Below w.heap.size w w' := by
  have HZ := Lib.hid hz
  have HF := Lib.hid hf
  obtain ⟨hr, hcn, is_, imi, ima⟩ := fold_right zs hz.wf c s mi mi hf
  have ic : I64 c := by have := hz.len; exact ⟨by omega, by omega⟩
  have c2 : 2 ≤ c := by have := hz.len; omega
  have RR := Lib.hid (rightB_eq (b := true) (by simp [hr]) : rightB c s mi mi = true)
  have CR := Lib.hid (fun W => RR.out ▸ right_any c s mi mi ic is_ imi ima W)
  have CA := Lib.hid (fun W => add_no s by_ is_ ib hs W)
  have n3 : (by_ != 0) = true := by simpa using hby
  clear hs hby
  clear hz hf hr hcn
  have cu := ic.2
  go_enter Try.func5, Try.ntmps5
  go_wp2_with fail
  go_at_call 11; (with_reducible refine (known_any _).mono ?_); rintro e w1 ⟨rfl, hb1⟩
  have C := Lib.hid (fold_any A n cap zs w1 (HZ.out.below hb1) (by omega))
  have HB := Lib.hid hb1
  clear hb1
  go_wp2_with fail
  go_at_call 14; (with_reducible refine C.out.mono ?_); intro e w2 hp
  rw [HF.out] at hp
  obtain ⟨rfl, hb2⟩ := hp
  have HB2 := Lib.hid (HB.out.trans (hb2.mono HB.out.size))
  clear hb2
  go_wp2_with fail
  go_at_call 12; (with_reducible refine (CR.out _).mono ?_); rintro e w3 ⟨rfl, hb3⟩
  have kx := Blk.made hb3
  have HB3 := Lib.hid ((HB2.out.alloc HB2.out.size _).trans (hb3.mono (by have := HB2.out.size; simp; omega)))
  have lx : w2.heap.size < w3.heap.size := kx.lt
  have x0 : w3.cell? ⟨w2.heap.size, 0, none⟩ = some (.int .i64 c) := kx.cell 0
  have x1 : w3.cell? ⟨w2.heap.size, 1, none⟩ = some (.int .i64 s) := kx.cell 1
  have x2 : w3.cell? ⟨w2.heap.size, 2, none⟩ = some (.int .i64 mi) := kx.cell 2
  have x3 : w3.cell? ⟨w2.heap.size, 3, none⟩ = some (.int .i64 mi) := kx.cell 3
  have KX := Lib.hid kx
  clear hb3 kx
  go_wp2
  go_region
  go_wp2_with fail
  go_at_call 15; (with_reducible refine (CA.out _).mono ?_); rintro e w5 ⟨rfl, rfl⟩
  go_wp2
  go_ret
  exact ⟨rfl, ((HB3.out.alloc HB3.out.size _).alloc (by have := HB3.out.size; simp; omega) _).drew⟩

set_option maxHeartbeats 1000000 in
set_option maxRecDepth 100000 in
theorem real_eqok (A : Option Addr) (n cap : Nat) (zs : List Int) (by_ : Int) (w : World) (hz : IntsAt w A n zs) (h2 : 2 ≤ n) (h5 : n ≤ 5000) (c s mi : Int) (hf : foldI 0 0 0 0 zs = .inr (c, s, mi, mi)) (hby : by_ ≠ 0) (ib : I64 by_) (hs : I64 (s + by_)) :
    Calls Try.prog 5 #[.slice A n cap, .int .i64 by_] w fun e w' => e = .returned (.bool true) ∧ Below w.heap.size w w' := by
  have HZ := Lib.hid hz
  have HF := Lib.hid hf
  obtain ⟨hr, hcn, is_, imi, ima⟩ := fold_right zs hz.wf c s mi mi hf
  have ic : I64 c := by have := hz.len; exact ⟨by omega, by omega⟩
  have c2 : 2 ≤ c := by have := hz.len; omega
  have RR := Lib.hid (rightB_eq (b := true) (by simp [hr]) : rightB c s mi mi = true)
  have CR := Lib.hid (fun W => RR.out ▸ right_any c s mi mi ic is_ imi ima W)
  have CA := Lib.hid (fun W => add_ok s by_ is_ ib hs W)
  have n3 : (by_ != 0) = true := by simpa using hby
  have RY := Lib.hid (rightB_eq (b := false) (by
    rcases hr with ⟨h, _⟩ | ⟨h, _⟩ | ⟨_, _, h7, h8⟩
    · omega
    · omega
    · simp [RightP]; omega) : rightB c (s + by_) mi mi = false)
  have CY := Lib.hid (fun W => RY.out ▸ right_any c (s + by_) mi mi ic hs imi ima W)
  clear hs hby
  clear hz hf hr hcn
  have cu := ic.2
  go_enter Try.func5, Try.ntmps5
  go_wp2_with fail
  go_at_call 11; (with_reducible refine (known_any _).mono ?_); rintro e w1 ⟨rfl, hb1⟩
  have C := Lib.hid (fold_any A n cap zs w1 (HZ.out.below hb1) (by omega))
  have HB := Lib.hid hb1
  clear hb1
  go_wp2_with fail
  go_at_call 14; (with_reducible refine C.out.mono ?_); intro e w2 hp
  rw [HF.out] at hp
  obtain ⟨rfl, hb2⟩ := hp
  have HB2 := Lib.hid (HB.out.trans (hb2.mono HB.out.size))
  clear hb2
  go_wp2_with fail
  go_at_call 12; (with_reducible refine (CR.out _).mono ?_); rintro e w3 ⟨rfl, hb3⟩
  have kx := Blk.made hb3
  have HB3 := Lib.hid ((HB2.out.alloc HB2.out.size _).trans (hb3.mono (by have := HB2.out.size; simp; omega)))
  have lx : w2.heap.size < w3.heap.size := kx.lt
  have x0 : w3.cell? ⟨w2.heap.size, 0, none⟩ = some (.int .i64 c) := kx.cell 0
  have x1 : w3.cell? ⟨w2.heap.size, 1, none⟩ = some (.int .i64 s) := kx.cell 1
  have x2 : w3.cell? ⟨w2.heap.size, 2, none⟩ = some (.int .i64 mi) := kx.cell 2
  have x3 : w3.cell? ⟨w2.heap.size, 3, none⟩ = some (.int .i64 mi) := kx.cell 3
  have KX := Lib.hid kx
  clear hb3 kx
  go_wp2
  go_region
  go_wp2_with fail
  go_at_call 15; (with_reducible refine (CA.out _).mono ?_); rintro e w5 ⟨rfl, rfl⟩
  go_wp2_with fail
  go_at_call 12; (with_reducible refine (CY.out _).mono ?_); rintro e w5 ⟨rfl, hb5⟩
  have HB5 := Lib.hid ((HB3.out.alloc HB3.out.size _).drew.trans (hb5.mono (by have := HB3.out.size; simp; omega)))
  clear hb5
  go_wp2
  go_ret
  exact ⟨rfl, HB5.out⟩
theorem law_real (A : Option Addr) (n cap : Nat) (zs : List Int) (by_ : Int) (w : World) (hz : IntsAt w A n zs) (ib : I64 by_) (hn : n ≤ 9223372036854775807) :
    Calls Try.prog 5 #[.slice A n cap, .int .i64 by_] w fun e w' => e = .returned (.bool true) ∧ Below w.heap.size w w' := by
  by_cases h : n < 2 ∨ 5000 < n
  · exact real_short A n cap by_ w h hn
  · have h2 : 2 ≤ n := by omega
    have h5 : n ≤ 5000 := by omega
    cases hf : foldI 0 0 0 0 zs with
    | inl x => exact real_bad A n cap zs by_ w hz h2 h5 x.1 x.2 hf
    | inr y =>
      obtain ⟨c, s, mi, ma⟩ := y
      obtain ⟨hr, hcn, _, _, _⟩ := fold_right zs hz.wf c s mi ma hf
      have hl := hz.len
      have hmm : mi ≤ ma := by rcases hr with ⟨h, _⟩ | ⟨h, _⟩ | ⟨_, h3, _⟩ <;> omega
      by_cases hne : mi < ma
      · exact real_ne A n cap zs by_ w hz h2 h5 c s mi ma hf hne
      · obtain rfl : ma = mi := by omega
        by_cases hby : by_ = 0
        · exact real_eq0 A n cap zs by_ w hz h2 h5 c s ma hf hby
        · by_cases hs : I64 (s + by_)
          · exact real_eqok A n cap zs by_ w hz h2 h5 c s ma hf hby ib hs
          · exact real_eqno A n cap zs by_ w hz h2 h5 c s ma hf hby ib hs
end Go.Proofs.Ytikacbfpeegcdaa
