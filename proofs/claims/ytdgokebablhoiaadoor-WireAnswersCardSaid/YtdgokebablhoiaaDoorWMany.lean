/- The law WireMany: the walk. -/
import Derived.Test.YtdgokebablhoiaaDoorWNextP
import Derived.Test.YtdgokebablhoiaaDoorWLong
import Derived.Test.YtdgokebablhoiaaDoorWRef
import Derived.Test.YtdgokebablhoiaaDoorWBack
import Derived.Deep.Slices
namespace Go.Proofs.YtdgokebablhoiaaDoor
open Go.RowKit

/-- The i-th body. -/
def mb (i : Nat) : List Int := [((i % 256 : Nat) : Int), ((i / 256 : Nat) : Int)].take (1 + i % 2)
theorem mb_len (i : Nat) : (mb i).length = 1 + i % 2 := by
  unfold mb
  rw [List.length_take]
  show min (1 + i % 2) 2 = _
  omega
/-- The frames of the bodies t, t + 1 .. n - 1. -/
def mrow (t n : Nat) : List Int := (List.range' t (n - t)).flatMap fun i => frE (mb i)
theorem mrow_nil (n : Nat) : mrow n n = [] := by unfold mrow; rw [Nat.sub_self]; rfl
theorem mrow_cons (t n : Nat) (h : t < n) : mrow t n = frE (mb t) ++ mrow (t + 1) n := by
  unfold mrow
  rw [show n - t = (n - (t + 1)) + 1 by omega, List.range'_succ, List.flatMap_cons]
theorem mrow_snoc (n : Nat) : mrow 0 (n + 1) = mrow 0 n ++ frE (mb n) := by
  unfold mrow
  rw [Nat.sub_zero, Nat.sub_zero, List.range'_concat, List.flatMap_append]
  simp
theorem mrow_len (n : Nat) : (mrow 0 n).length ≤ 6 * n := by
  induction n with
  | zero => simp [mrow]
  | succ n ih =>
    rw [mrow_snoc, List.length_append, frE_len, mb_len]
    omega
theorem wf_u8' {x : Int} (h0 : 0 ≤ x) (h1 : x < 256) : (Lit.int .u8 x).wf = true := by
  show (decide (_ ≤ x) && decide (x ≤ _)) = true
  simp only [Bool.and_eq_true, decide_eq_true_eq]
  exact ⟨h0, show x ≤ 255 by omega⟩
theorem len4_wf (n : Nat) (h : n ≤ 65536) : ∀ x ∈ len4 n, (Lit.int .u8 x).wf = true := fun x hx => by
  unfold len4 at hx
  simp only [List.mem_cons, List.mem_nil_iff, or_false] at hx
  rcases hx with rfl | rfl | rfl | rfl <;> exact wf_u8' (by omega) (by omega)
theorem mrow_wf (t n : Nat) (hn : n ≤ 65536) : ∀ x ∈ mrow t n, (Lit.int .u8 x).wf = true := fun x hx => by
  unfold mrow at hx
  obtain ⟨i, hi, h⟩ := List.mem_flatMap.1 hx
  have hi2 : i < 65536 := by rw [List.mem_range'] at hi; obtain ⟨j, h1, h2⟩ := hi; omega
  unfold frE at h
  rcases List.mem_append.1 h with h | h
  · exact len4_wf _ (by rw [mb_len]; omega) x h
  · have h := List.mem_of_mem_take h
    simp only [List.mem_cons, List.mem_nil_iff, or_false] at h
    rcases h with rfl | rfl <;> exact wf_u8' (by omega) (by omega)
/-- What Next tells where t of n were told. -/
theorem many_next {F R : List Int} {t n : Nat} (h : F ++ R = mrow t n) (ht : t ≤ n) :
    (t < n ∧ ∃ F', nextP 2 F = .yes (mb t) F' ∧ F' ++ R = mrow (t + 1) n) ∨ (nextP 2 F = .wait ∧ (R = [] → t = n ∧ F = [])) := by
  by_cases htn : t < n
  · rw [mrow_cons t n htn] at h
    have hl := mb_len t
    rcases nextP_step 2 (mb t) F R _ h (by omega) (by omega) (by omega) with ⟨F', h1, h2, _⟩ | ⟨h1, h2⟩
    · exact .inl ⟨htn, F', h1, h2⟩
    · refine .inr ⟨h1, fun hR => ?_⟩
      have := congrArg List.length h
      rw [hR, List.append_nil, List.length_append, frE_len] at this
      omega
  · obtain rfl : t = n := by omega
    rw [mrow_nil] at h
    obtain ⟨rfl, rfl⟩ := List.append_eq_nil_iff.1 h
    exact .inr ⟨rfl, fun _ => ⟨rfl, rfl⟩⟩
theorem round_any (at_ m : Int) (hm : 0 < m) (hm2 : m ≤ 1000000) : ∃ R : Nat, (R : Int) < m ∧ ∀ W, Calls Tryd.prog 33 #[.int .i64 at_, .int .i64 m] W fun e w' => e = .returned (.int .i64 (R : Int)) ∧ W = w' := by
  have h1 := Int.tmod_lt_of_pos at_ hm
  have h2 := Int.lt_tmod_of_pos at_ hm
  by_cases h : at_.tmod m < 0
  · exact ⟨(at_.tmod m + m).toNat, by omega, fun W => round_neg at_ m hm hm2 h _ (by omega) W⟩
  · exact ⟨(at_.tmod m).toNat, by omega, fun W => round_pos at_ m hm h _ (by omega) W⟩

theorem cells_mb (W : World) (i : Nat) (a b : Int) (ha : a = ((i % 256 : Nat) : Int)) (hb : b = ((i / 256 : Nat) : Int)) : CellsAt (W.alloc (.cells #[.int .u8 a, .int .u8 b] 5)) (some ⟨W.heap.size, 0, none⟩) (bvs (mb i)) := by
  subst ha; subst hb
  have h := cells_of_blk (xs := mb i) (more := [((i % 256 : Nat) : Int), ((i / 256 : Nat) : Int)].drop (1 + i % 2)) (Blk.new W 5 #[.int .u8 ((i % 256 : Nat) : Int), .int .u8 ((i / 256 : Nat) : Int)]) (by
    unfold mb
    rw [List.take_append_drop]
    rfl)
  exact h
theorem ow_none {W : World} {base l c : Nat} {A : Option Addr} {bs : List Int} (h : Ow W base (.slice A l c) bs) (hA : A = none) : c = 0 := by
  rcases h.2 with ⟨e, _⟩ | ⟨g, cap, cur, e, _⟩
  · injection e
  · subst hA; injection e with e1; cases e1
theorem ow_cells {W : World} {base l c : Nat} {A : Option Addr} {bs : List Int} (h : Ow W base (.slice A l c) bs) : CellsAt W A (bvs bs) ∧ l = bs.length ∧ l ≤ c := by
  obtain ⟨A', c', e, hr, hc⟩ := row_of_own h
  injection e with e1 e2 e3
  subst e1; subst e2; subst e3
  exact ⟨hr.cells, rfl, hc⟩
theorem cellsTake {W : World} {A : Option Addr} {xs : List Int} (h : CellsAt W A (bvs xs)) (k : Nat) : CellsAt W A (bvs (xs.take k)) := by
  rw [show bvs (xs.take k) = (bvs xs).take k by simp [bvs, List.map_take]]
  intro j hj
  rw [List.length_take] at hj
  obtain ⟨ad, e, h1, h2⟩ := h j (by omega)
  exact ⟨ad, e, h1, by rw [h2, List.getElem_take]⟩
theorem cellsDrop {W : World} {ad : Addr} {xs : List Int} (h : CellsAt W (some ad) (bvs xs)) (k : Nat) : CellsAt W (some (ad.add k)) (bvs (xs.drop k)) := by
  rw [show bvs (xs.drop k) = (bvs xs).drop k by simp [bvs, List.map_drop]]
  intro j hj
  rw [List.length_drop] at hj
  obtain ⟨ad', e, h1, h2⟩ := h (k + j) (by omega)
  cases e
  refine ⟨_, rfl, ?_, ?_⟩
  · rw [show (ad.add k).block = ad.block by unfold Addr.add; split <;> rfl]; exact h1
  · rw [Go.Deep.add_add, h2, List.getElem_drop]
theorem cells_nil {W : World} {A : Option Addr} : CellsAt W A (bvs []) := fun k hk => absurd hk (by simp [bvs])
theorem rowCell {W : World} {A : Option Addr} {n lo : Nat} {xs : List Int} (h : RowAt W A n lo xs) (hn : 0 < n) : ∃ g, A = some ⟨g, 0, none⟩ ∧ ∀ k v, (bvs xs)[k]? = some v → W.cell? ⟨g, k, none⟩ = some v := by
  rcases h with ⟨_, h, _⟩ | ⟨g, cur, rfl, _, hg, _, _, ht⟩
  · omega
  · exact ⟨g, rfl, fun k v hv => cell_take hg ht k hv⟩
theorem mb_0 (t : Nat) : (bvs (mb t))[0]? = some (.int .u8 ((t % 256 : Nat) : Int)) := by unfold mb bvs; rw [show 1 + t % 2 = t % 2 + 1 by omega]; rfl
theorem mb_1 (t : Nat) (h : t % 2 = 1) : (bvs (mb t))[1]? = some (.int .u8 ((t / 256 : Nat) : Int)) := by unfold mb bvs; rw [h]; rfl
def slLen : Value → Nat
  | .slice _ n _ => n
  | _ => 0
/-- What loop 2 and loop 3 keep. -/
structure ManyR (w w1 wr : World) (n t l c : Nat) (A : Option Addr) (R F : List Int) : Prop where
  len : R.length = l
  cap : l ≤ c
  none_ : A = none → c = 0
  cells : CellsAt w1 A (bvs R)
  row : F ++ R = mrow t n
  fm : ∃ v, Fm wr w1.heap.size w1.heap.size 2 v F
  below1 : Below w1.heap.size w1 wr
  below : Below w.heap.size w w1

section
variable {w w1 wr w2 : World} {n t l c k : Nat} {ad : Addr} {A : Option Addr} {R F : List Int}
theorem ManyR.feed (h : ManyR w w1 wr n t l c (some ad) R F) (hk : k ≤ l) {v v' : Value} (hv : Fm wr w1.heap.size w1.heap.size 2 v F) (hf : Fm w2 w1.heap.size w1.heap.size 2 v' (F ++ R.take k)) (hw : WrFr wr w1.heap.size v w2 v') :
    (c = k → ManyR w w1 w2 n t (l - k) (c - k) (some ad) (R.drop k) (F ++ R.take k)) ∧ ManyR w w1 w2 n t (l - k) (c - k) (some (ad.add k)) (R.drop k) (F ++ R.take k) := by
  have hb := h.below1.trans (hv.fr_below hw)
  have hrow : F ++ R.take k ++ R.drop k = mrow t n := by rw [List.append_assoc, List.take_append_drop]; exact h.row
  have hl : (R.drop k).length = l - k := by rw [List.length_drop, h.len]
  refine ⟨fun hc => ⟨hl, by have := h.cap; omega, (fun e => by cases e), ?_, hrow, ⟨_, hf⟩, hb, h.below⟩, ⟨hl, by have := h.cap; omega, (fun e => by cases e), cellsDrop h.cells k, hrow, ⟨_, hf⟩, hb, h.below⟩⟩
  have : R.drop k = [] := List.drop_eq_nil_of_le (by have := h.cap; have := h.len; omega)
  rw [this]; exact cells_nil
theorem ManyR.told {F' : List Int} (h : ManyR w w1 wr n t l c A R F) (hr : F' ++ R = mrow (t + 1) n) {v : Value} (hf : Fm w2 w1.heap.size w1.heap.size 2 v F') (ht : Tur (· = w1.heap.size) wr w2) : ManyR w w1 w2 n (t + 1) l c A R F' :=
  ⟨h.len, h.cap, h.none_, h.cells, hr, ⟨_, hf⟩, h.below1.trans (ht.below h.below1.size (fun _ hk => Nat.le_of_eq hk.symm)), h.below⟩
theorem ManyR.wfF (h : ManyR w w1 wr n t l c A R F) (hn : n ≤ 65536) : ∀ x ∈ F, (Lit.int .u8 x).wf = true := fun x hx => mrow_wf t n hn x (h.row ▸ List.mem_append_left _ hx)
end
theorem mrow_le (t n : Nat) : (mrow t n).length ≤ 6 * (n - t) := by
  unfold mrow
  generalize n - t = d
  induction d generalizing t with
  | zero => simp
  | succ d ih =>
    rw [List.range'_succ, List.flatMap_cons, List.length_append, frE_len, mb_len]
    have := ih (t + 1)
    omega
set_option maxHeartbeats 4000000 in
set_option maxRecDepth 100000 in
theorem law_many (n0 p0 : Int) (late : Bool) (w : World) :
    Calls Tryd.prog 11 #[.int .i64 n0, .int .i64 p0, .bool late] w fun e w' => e = .returned (.bool true) ∧ Below w.heap.size w w' := by
  obtain ⟨n, hn, CN⟩ := round_any n0 20000 (by omega) (by omega)
  obtain ⟨pc, hp, CP⟩ := round_any p0 5000 (by omega) (by omega)
  have CN := Lib.hid CN
  have CP := Lib.hid CP
  have hn9 : (n : Int) ≤ 19999 := by omega
  have hp9 : (pc : Int) ≤ 4999 := by omega
  clear hn hp
  go_enter Tryd.func11, Tryd.ntmps11
  go_wp2_with fail
  go_at_call 33; (with_reducible refine (CN.out _).mono ?_); rintro e w1 ⟨rfl, rfl⟩
  go_wp2_with fail
  go_at_call 33; (with_reducible refine (CP.out _).mono ?_); rintro e w1 ⟨rfl, rfl⟩
  clear CN CP
  go_wp2
  go_loopw [7, 8] (fun t7 t8 wr => ∃ (i l c : Nat) (A : Option Addr), t8 = .int .i64 (i : Int) ∧ i ≤ n ∧ t7 = .slice A l c ∧ Hid ((mrow 0 i).length = l ∧ Ow wr w.heap.size (.slice A l c) (mrow 0 i) ∧ Below w.heap.size w wr)) (fun _ t8 _ => n - (intOf t8).toNat)
  case atStart => exact ⟨0, 0, 0, none, rfl, Nat.zero_le _, rfl, Lib.hid ⟨by rw [mrow_nil]; rfl, Ow.nil _ _, Below.refl _ _⟩⟩
  case round =>
    obtain ⟨i, l, c, A, rfl, hi, rfl, HP⟩ := hrel
    by_cases hlt : i < n
    · have HLT := Lib.hid hlt
      have HI := Lib.hid (show i ≤ 19999 by omega)
      go_wp2_with fail
      go_at_call 21; (with_reducible refine (frame_yes _ (1 + i % 2) 2 (mb i) _ (mb_len i) (cells_mb wr i _ _ (by omega) (by omega)) (fun h => by cases h) (by omega) (by omega)).mono ?_); rintro e w2 ⟨A2, c2, rfl, hr, hb⟩
      have HX := Lib.hid hr.cells
      have HXA := Lib.hid (show A2 = none → c2 = 0 from fun h => by
        rcases hr with ⟨_, h2, _⟩ | ⟨g, cur, h2, _⟩
        · omega
        · rw [h] at h2; cases h2)
      have HXL := Lib.hid (show (len4 (1 + i % 2) ++ mb i).length = 4 + (1 + i % 2) by rw [List.length_append, mb_len]; rfl)
      have B2 := Lib.hid (show Below wr.heap.size wr w2 from ((Below.refl wr.heap.size wr).alloc (Nat.le_refl _) _).trans (hb.mono (by simp)))
      have HO := Lib.hid (HP.out.2.1.kept B2.out)
      have HL := Lib.hid HP.out.1
      have BW := Lib.hid (HP.out.2.2.trans (B2.out.mono HP.out.2.2.size))
      have HML := Lib.hid (mrow_len i)
      have hl9 : l ≤ 119994 := by have := HL.out; have := HML.out; have := HI.out; omega
      clear hr hb
      go_wp2_with (first
        | (at_builtin; refine wpList_append_bytes rfl _ _ rfl w.heap.size _ l (mrow 0 i) rfl (HL.out ▸ HO.out) A2 (4 + (1 + i % 2)) c2 HXA.out (len4 (1 + i % 2) ++ mb i) rfl HXL.out HX.out (by omega) BW.out.size ?_
           intro v' w3 hown hg hv
           obtain ⟨A3, c3, rfl, _, _, _⟩ := owned_form hown
           have HO3 := Lib.hid hown
           have B3 := Lib.hid (below_grown BW.out hg (by intro g hg'; exact (HO.out.lt g hg').1) BW.out.size)
           clear hown hg hv)
        | fail)
      go_roundw
      case rel =>
        refine ⟨i + 1, _, c3, A3, by go_num, HLT.out, rfl, Lib.hid ⟨?_, ?_, B3.out⟩⟩
        · rw [mrow_snoc, List.length_append, HL.out, frE_len, mb_len]
        · have h := HO3.out
          unfold Ow
          rw [mrow_snoc, bvs_append, List.length_append, HL.out, frE_len, mb_len]
          unfold frE
          rw [mb_len]
          exact h
      case measure => simp [intOf]; omega
    · obtain rfl : i = n := by omega
      rename World => w1
      have HC := Lib.hid (ow_cells HP.out.2.1)
      have HNO := Lib.hid (ow_none HP.out.2.1)
      have HL := Lib.hid HP.out.1
      have HBW := Lib.hid HP.out.2.2
      have HML := Lib.hid (mrow_len i)
      have hl9 : (l : Int) ≤ 119994 := by have := HL.out; have := HML.out; omega
      clear HP
      go_wp2_with fail
      go_at_call 35; (with_reducible refine (f_new_yes 2 w1 (by omega) (by omega)).mono ?_); rintro e w3 ⟨rfl, hf, hb⟩
      have HM0 := Lib.hid (show ManyR w w1 w3 i 0 l c A (mrow 0 i) [] from ⟨HL.out, HC.out.2.2, HNO.out, HC.out.1, rfl, ⟨_, hf⟩, hb, HBW.out⟩)
      clear hf hb
      go_wp2
      go_loopw [7, 13] (fun t7 t13 wy => ∃ (t l c : Nat) (A : Option Addr), t13 = .int .i64 (t : Int) ∧ t ≤ i ∧ t7 = .slice A l c ∧ (l : Int) ≤ 119994 ∧ Hid (∃ R F, ManyR w w1 wy i t l c A R F ∧ (R = [] → t = i ∧ F = []))) (fun t7 _ _ => slLen t7)
      case atStart => exact ⟨0, l, c, A, rfl, Nat.zero_le _, rfl, hl9, Lib.hid ⟨_, _, HM0.out, fun h => by
        have h0 := HM0.out.len
        have e : mrow 0 i = [] := h
        by_cases hi0 : i = 0
        · exact ⟨hi0.symm, rfl⟩
        · rw [mrow_cons 0 i (by omega)] at e
          have := congrArg List.length e
          rw [List.length_append, frE_len] at this
          simp at this⟩⟩
      case round =>
        obtain ⟨t, l, c, A, rfl, ht, rfl, hl9, HR0⟩ := hrel
        obtain ⟨R, F, hR, hend⟩ := HR0.out
        have HR := Lib.hid hR
        have HEND := Lib.hid hend
        have HL9 := Lib.hid hl9
        clear HR0 hR hend hl9
        have hi9 := Lib.hid (show i ≤ 19999 by omega)
        by_cases hl0 : 0 < l
        · obtain ⟨ad, hA, _, _⟩ := HR.out.cells 0 (by rw [bvs_len, HR.out.len]; exact hl0)
          subst hA
          obtain ⟨v, hfm⟩ := HR.out.fm
          have HFM := Lib.hid hfm
          have HRL := Lib.hid HR.out.len
          have hcap := HR.out.cap
          have HFL := Lib.hid (show F.length + l ≤ 119994 by
            have h1 := congrArg List.length HR.out.row
            have h2 := mrow_le t i
            have := HRL.out
            have := hi9.out
            rw [List.length_append] at h1
            omega)
          have CF := Lib.hid (fun k (hk : k ≤ l) => f_feed (some ad) k c (R.take k) w1.heap.size w1.heap.size 2 v F _ HFM.out (by rw [List.length_take, HRL.out]; omega) (cellsTake (HR.out.cells.below HR.out.below1) k) (fun h => by cases h) (by have := HFL.out; omega))
          clear hfm
          by_cases hpc : 0 < pc
          · have hpd : decide ((0 : Int) < (pc : Int)) = true := by simp; omega
            obtain ⟨kk, hkk0⟩ : ∃ kk, kk = 100 + pc := ⟨_, rfl⟩
            have hkk : 100 + (pc : Int) = (kk : Int) := by omega
            by_cases hmin : l ≤ kk
            · have hm1 : decide ((kk : Int) < (l : Int)) = false := by simp; omega
              have hm2 : min (l : Int) (kk : Int) = (l : Int) := by omega
              clear hmin hkk0
              go_wp2_with fail
              go_at_call 37; (with_reducible refine (CF.out l (by omega)).mono ?_); rintro e w4 ⟨rfl, v4, hf4, hw4⟩
              have HDR := Lib.hid (show R.drop l = [] from List.drop_eq_nil_of_le (by rw [HRL.out]; exact Nat.le_refl _))
              by_cases hck : l = c
              · have HR4 := Lib.hid (show ManyR w w1 w4 i t 0 0 (some ad) [] (F ++ R.take l) from by have h := (HR.out.feed (Nat.le_refl _) HFM.out hf4 hw4).1 hck.symm; rw [HDR.out, Nat.sub_self, ← hck, Nat.sub_self] at h; exact h)
                clear hf4 hw4
                subst hck
                cases late
                all_goals
                  go_wp2
                  go_loopw [13] (fun t13 wz => ∃ t' : Nat, t13 = .int .i64 (t' : Int) ∧ t' ≤ i ∧ Hid (∃ F', ManyR w w1 wz i t' (0) (0) (some ad) ([]) F')) (fun t13 _ => i - (intOf t13).toNat)
                  case atStart => exact ⟨t, rfl, ht, Lib.hid ⟨_, HR4.out⟩⟩
                  case round =>
                    obtain ⟨t', rfl, ht', HR5⟩ := hrel
                    obtain ⟨F', hR5⟩ := HR5.out
                    have HR5 := Lib.hid hR5
                    obtain ⟨v5, hf5⟩ := hR5.fm
                    obtain ⟨A5, c5, rfl, _, _, _⟩ := owned_form hf5.own
                    have HF5 := Lib.hid hf5
                    have HL5 := Lib.hid (show F'.length ≤ 140737488355328 by have h1 := congrArg List.length hR5.row; have h2 := mrow_le t' i; have := hi9.out; rw [List.length_append] at h1; omega)
                    have CX := Lib.hid (f_next w1.heap.size w1.heap.size 2 A5 _ c5 F' _ HF5.out rfl (hR5.wfF (by have := hi9.out; omega)) HL5.out)
                    have HMN := Lib.hid (many_next hR5.row ht')
                    clear hR5 hf5
                    rcases HMN.out with ⟨htn, F2, h1, h2⟩ | ⟨h1, h2⟩
                    · have HH := Lib.hid (And.intro h1 h2)
                      clear h1 h2
                      go_wp2_with fail
                      go_at_call 40; (with_reducible refine (HH.out.1 ▸ CX.out).mono ?_); rintro e w6 ⟨A6, c6, rfl, hr6, v6, hf6, ht6⟩
                      have HR6 := Lib.hid (HR5.out.told HH.out.2 hf6 ht6)
                      obtain ⟨g6, rfl, hc6⟩ := rowCell hr6 (by rw [mb_len]; omega)
                      have b0 : w6.cell? ⟨g6, 0, none⟩ = some (.int .u8 ((t' : Int) % 256)) := by rw [hc6 0 _ (mb_0 t')]; simp
                      rw [mb_len]
                      have HC6 := Lib.hid hc6
                      clear hr6 hf6 ht6 hc6
                      rcases Nat.mod_two_eq_zero_or_one t' with hp | hp
                      · have hp2 : (t' : Int) % 2 = 0 := by omega
                        rw [hp]
                        clear hp
                        go_wp2
                        go_roundw
                        case rel => exact ⟨t' + 1, by go_num, by omega, Lib.hid ⟨_, HR6.out⟩⟩
                        case measure => simp [intOf]; omega
                      · have hp2 : (t' : Int) % 2 = 1 := by omega
                        have b1 : w6.cell? ⟨g6, 1, none⟩ = some (.int .u8 ((t' : Int) / 256)) := by rw [HC6.out 1 _ (mb_1 t' hp)]; simp
                        rw [hp]
                        clear hp
                        go_wp2
                        go_roundw
                        case rel => exact ⟨t' + 1, by go_num, by omega, Lib.hid ⟨_, HR6.out⟩⟩
                        case measure => simp [intOf]; omega
                    · have HH := Lib.hid (And.intro h1 h2)
                      clear h1 h2
                      go_wp2_with fail
                      go_at_call 40; (with_reducible refine (HH.out.1 ▸ CX.out).mono ?_); rintro e w6 ⟨rfl, rfl⟩
                      go_wp2_with fail
                      go_roundw
                      case rel => exact ⟨t', _, _, _, by first | rfl | go_num, ht', rfl, by have := HL9.out; omega, Lib.hid ⟨_, _, HR5.out, by first | exact HH.out.2 | exact fun _ => HH.out.2 trivial⟩⟩
                      case measure => simp [slLen]; omega
              · have HR4 := Lib.hid (show ManyR w w1 w4 i t 0 (c - l) (some (ad.add l)) [] (F ++ R.take l) from by have h := (HR.out.feed (Nat.le_refl _) HFM.out hf4 hw4).2; rw [HDR.out, Nat.sub_self] at h; exact h)
                clear hf4 hw4
                have hck2 : ¬ c = l := fun h => hck h.symm
                clear hck
                cases late
                all_goals
                  go_wp2
                  go_loopw [13] (fun t13 wz => ∃ t' : Nat, t13 = .int .i64 (t' : Int) ∧ t' ≤ i ∧ Hid (∃ F', ManyR w w1 wz i t' (0) (c - l) (some (ad.add l)) ([]) F')) (fun t13 _ => i - (intOf t13).toNat)
                  case atStart => exact ⟨t, rfl, ht, Lib.hid ⟨_, HR4.out⟩⟩
                  case round =>
                    obtain ⟨t', rfl, ht', HR5⟩ := hrel
                    obtain ⟨F', hR5⟩ := HR5.out
                    have HR5 := Lib.hid hR5
                    obtain ⟨v5, hf5⟩ := hR5.fm
                    obtain ⟨A5, c5, rfl, _, _, _⟩ := owned_form hf5.own
                    have HF5 := Lib.hid hf5
                    have HL5 := Lib.hid (show F'.length ≤ 140737488355328 by have h1 := congrArg List.length hR5.row; have h2 := mrow_le t' i; have := hi9.out; rw [List.length_append] at h1; omega)
                    have CX := Lib.hid (f_next w1.heap.size w1.heap.size 2 A5 _ c5 F' _ HF5.out rfl (hR5.wfF (by have := hi9.out; omega)) HL5.out)
                    have HMN := Lib.hid (many_next hR5.row ht')
                    clear hR5 hf5
                    rcases HMN.out with ⟨htn, F2, h1, h2⟩ | ⟨h1, h2⟩
                    · have HH := Lib.hid (And.intro h1 h2)
                      clear h1 h2
                      go_wp2_with fail
                      go_at_call 40; (with_reducible refine (HH.out.1 ▸ CX.out).mono ?_); rintro e w6 ⟨A6, c6, rfl, hr6, v6, hf6, ht6⟩
                      have HR6 := Lib.hid (HR5.out.told HH.out.2 hf6 ht6)
                      obtain ⟨g6, rfl, hc6⟩ := rowCell hr6 (by rw [mb_len]; omega)
                      have b0 : w6.cell? ⟨g6, 0, none⟩ = some (.int .u8 ((t' : Int) % 256)) := by rw [hc6 0 _ (mb_0 t')]; simp
                      rw [mb_len]
                      have HC6 := Lib.hid hc6
                      clear hr6 hf6 ht6 hc6
                      rcases Nat.mod_two_eq_zero_or_one t' with hp | hp
                      · have hp2 : (t' : Int) % 2 = 0 := by omega
                        rw [hp]
                        clear hp
                        go_wp2
                        go_roundw
                        case rel => exact ⟨t' + 1, by go_num, by omega, Lib.hid ⟨_, HR6.out⟩⟩
                        case measure => simp [intOf]; omega
                      · have hp2 : (t' : Int) % 2 = 1 := by omega
                        have b1 : w6.cell? ⟨g6, 1, none⟩ = some (.int .u8 ((t' : Int) / 256)) := by rw [HC6.out 1 _ (mb_1 t' hp)]; simp
                        rw [hp]
                        clear hp
                        go_wp2
                        go_roundw
                        case rel => exact ⟨t' + 1, by go_num, by omega, Lib.hid ⟨_, HR6.out⟩⟩
                        case measure => simp [intOf]; omega
                    · have HH := Lib.hid (And.intro h1 h2)
                      clear h1 h2
                      go_wp2_with fail
                      go_at_call 40; (with_reducible refine (HH.out.1 ▸ CX.out).mono ?_); rintro e w6 ⟨rfl, rfl⟩
                      go_wp2_with fail
                      go_roundw
                      case rel => exact ⟨t', _, _, _, by first | rfl | go_num, ht', rfl, by have := HL9.out; omega, Lib.hid ⟨_, _, HR5.out, by first | exact HH.out.2 | exact fun _ => HH.out.2 trivial⟩⟩
                      case measure => simp [slLen]; omega
            · have hm1 : decide ((kk : Int) < (l : Int)) = true := by simp; omega
              have hm2 : min (l : Int) (kk : Int) = (kk : Int) := by omega
              have hlk0 : kk < l := by omega
              have hkpos := Lib.hid (show 0 < kk by omega)
              clear hmin hkk0
              go_wp2_with fail
              go_at_call 37; (with_reducible refine (CF.out kk (by omega)).mono ?_); rintro e w4 ⟨rfl, v4, hf4, hw4⟩
              have HR4 := Lib.hid (show ManyR w w1 w4 i t (l - kk) (c - kk) (some (ad.add kk)) (R.drop kk) (F ++ R.take kk) from (HR.out.feed (by omega) HFM.out hf4 hw4).2)
              clear hf4 hw4
              have hck2 : ¬ c = kk := by omega
              have hlk : ¬ l - kk = 0 := by omega
              have hlk2 : (((l - kk : Nat) : Int) == 0) = false := by simp; omega
              have HNE := Lib.hid (show R.drop kk ≠ [] from fun h => by have h1 := congrArg List.length h; rw [List.length_drop, HRL.out] at h1; simp at h1; omega)
              cases late
              · go_wp2
                go_loopw [13] (fun t13 wz => ∃ t' : Nat, t13 = .int .i64 (t' : Int) ∧ t' ≤ i ∧ Hid (∃ F', ManyR w w1 wz i t' (l - kk) (c - kk) (some (ad.add kk)) (R.drop kk) F')) (fun t13 _ => i - (intOf t13).toNat)
                case atStart => exact ⟨t, rfl, ht, Lib.hid ⟨_, HR4.out⟩⟩
                case round =>
                  obtain ⟨t', rfl, ht', HR5⟩ := hrel
                  obtain ⟨F', hR5⟩ := HR5.out
                  have HR5 := Lib.hid hR5
                  obtain ⟨v5, hf5⟩ := hR5.fm
                  obtain ⟨A5, c5, rfl, _, _, _⟩ := owned_form hf5.own
                  have HF5 := Lib.hid hf5
                  have HL5 := Lib.hid (show F'.length ≤ 140737488355328 by have h1 := congrArg List.length hR5.row; have h2 := mrow_le t' i; have := hi9.out; rw [List.length_append] at h1; omega)
                  have CX := Lib.hid (f_next w1.heap.size w1.heap.size 2 A5 _ c5 F' _ HF5.out rfl (hR5.wfF (by have := hi9.out; omega)) HL5.out)
                  have HMN := Lib.hid (many_next hR5.row ht')
                  clear hR5 hf5
                  rcases HMN.out with ⟨htn, F2, h1, h2⟩ | ⟨h1, h2⟩
                  · have HH := Lib.hid (And.intro h1 h2)
                    clear h1 h2
                    go_wp2_with fail
                    go_at_call 40; (with_reducible refine (HH.out.1 ▸ CX.out).mono ?_); rintro e w6 ⟨A6, c6, rfl, hr6, v6, hf6, ht6⟩
                    have HR6 := Lib.hid (HR5.out.told HH.out.2 hf6 ht6)
                    obtain ⟨g6, rfl, hc6⟩ := rowCell hr6 (by rw [mb_len]; omega)
                    have b0 : w6.cell? ⟨g6, 0, none⟩ = some (.int .u8 ((t' : Int) % 256)) := by rw [hc6 0 _ (mb_0 t')]; simp
                    rw [mb_len]
                    have HC6 := Lib.hid hc6
                    clear hr6 hf6 ht6 hc6
                    rcases Nat.mod_two_eq_zero_or_one t' with hp | hp
                    · have hp2 : (t' : Int) % 2 = 0 := by omega
                      rw [hp]
                      clear hp
                      go_wp2
                      go_roundw
                      case rel => exact ⟨t' + 1, by go_num, by omega, Lib.hid ⟨_, HR6.out⟩⟩
                      case measure => simp [intOf]; omega
                    · have hp2 : (t' : Int) % 2 = 1 := by omega
                      have b1 : w6.cell? ⟨g6, 1, none⟩ = some (.int .u8 ((t' : Int) / 256)) := by rw [HC6.out 1 _ (mb_1 t' hp)]; simp
                      rw [hp]
                      clear hp
                      go_wp2
                      go_roundw
                      case rel => exact ⟨t' + 1, by go_num, by omega, Lib.hid ⟨_, HR6.out⟩⟩
                      case measure => simp [intOf]; omega
                  · have HH := Lib.hid (And.intro h1 h2)
                    clear h1 h2
                    go_wp2_with fail
                    go_at_call 40; (with_reducible refine (HH.out.1 ▸ CX.out).mono ?_); rintro e w6 ⟨rfl, rfl⟩
                    go_wp2_with fail
                    go_roundw
                    case rel => exact ⟨t', _, _, _, by first | rfl | go_num, ht', rfl, by have := HL9.out; omega, Lib.hid ⟨_, _, HR5.out, by first | exact HH.out.2 | exact fun _ => HH.out.2 trivial⟩⟩
                    case measure => simp [slLen]; omega
              · go_wp2
                refine wp_loop_rounds 1 ?_
                rw [rounds_succ]
                go_wp2_with fail
                go_roundw
                case rel => exact ⟨t, _, _, _, by first | rfl | go_num, ht, rfl, by have := HL9.out; omega, Lib.hid ⟨_, _, HR4.out, fun h => absurd h HNE.out⟩⟩
                case measure => simp [slLen]; omega
          · have hpd : decide ((0 : Int) < (pc : Int)) = false := by simp; omega
            go_wp2_with fail
            go_at_call 37; (with_reducible refine (CF.out l (by omega)).mono ?_); rintro e w4 ⟨rfl, v4, hf4, hw4⟩
            have HDR := Lib.hid (show R.drop l = [] from List.drop_eq_nil_of_le (by rw [HRL.out]; exact Nat.le_refl _))
            by_cases hck : l = c
            · have HR4 := Lib.hid (show ManyR w w1 w4 i t 0 0 (some ad) [] (F ++ R.take l) from by have h := (HR.out.feed (Nat.le_refl _) HFM.out hf4 hw4).1 hck.symm; rw [HDR.out, Nat.sub_self, ← hck, Nat.sub_self] at h; exact h)
              clear hf4 hw4
              subst hck
              cases late
              all_goals
                go_wp2
                go_loopw [13] (fun t13 wz => ∃ t' : Nat, t13 = .int .i64 (t' : Int) ∧ t' ≤ i ∧ Hid (∃ F', ManyR w w1 wz i t' (0) (0) (some ad) ([]) F')) (fun t13 _ => i - (intOf t13).toNat)
                case atStart => exact ⟨t, rfl, ht, Lib.hid ⟨_, HR4.out⟩⟩
                case round =>
                  obtain ⟨t', rfl, ht', HR5⟩ := hrel
                  obtain ⟨F', hR5⟩ := HR5.out
                  have HR5 := Lib.hid hR5
                  obtain ⟨v5, hf5⟩ := hR5.fm
                  obtain ⟨A5, c5, rfl, _, _, _⟩ := owned_form hf5.own
                  have HF5 := Lib.hid hf5
                  have HL5 := Lib.hid (show F'.length ≤ 140737488355328 by have h1 := congrArg List.length hR5.row; have h2 := mrow_le t' i; have := hi9.out; rw [List.length_append] at h1; omega)
                  have CX := Lib.hid (f_next w1.heap.size w1.heap.size 2 A5 _ c5 F' _ HF5.out rfl (hR5.wfF (by have := hi9.out; omega)) HL5.out)
                  have HMN := Lib.hid (many_next hR5.row ht')
                  clear hR5 hf5
                  rcases HMN.out with ⟨htn, F2, h1, h2⟩ | ⟨h1, h2⟩
                  · have HH := Lib.hid (And.intro h1 h2)
                    clear h1 h2
                    go_wp2_with fail
                    go_at_call 40; (with_reducible refine (HH.out.1 ▸ CX.out).mono ?_); rintro e w6 ⟨A6, c6, rfl, hr6, v6, hf6, ht6⟩
                    have HR6 := Lib.hid (HR5.out.told HH.out.2 hf6 ht6)
                    obtain ⟨g6, rfl, hc6⟩ := rowCell hr6 (by rw [mb_len]; omega)
                    have b0 : w6.cell? ⟨g6, 0, none⟩ = some (.int .u8 ((t' : Int) % 256)) := by rw [hc6 0 _ (mb_0 t')]; simp
                    rw [mb_len]
                    have HC6 := Lib.hid hc6
                    clear hr6 hf6 ht6 hc6
                    rcases Nat.mod_two_eq_zero_or_one t' with hp | hp
                    · have hp2 : (t' : Int) % 2 = 0 := by omega
                      rw [hp]
                      clear hp
                      go_wp2
                      go_roundw
                      case rel => exact ⟨t' + 1, by go_num, by omega, Lib.hid ⟨_, HR6.out⟩⟩
                      case measure => simp [intOf]; omega
                    · have hp2 : (t' : Int) % 2 = 1 := by omega
                      have b1 : w6.cell? ⟨g6, 1, none⟩ = some (.int .u8 ((t' : Int) / 256)) := by rw [HC6.out 1 _ (mb_1 t' hp)]; simp
                      rw [hp]
                      clear hp
                      go_wp2
                      go_roundw
                      case rel => exact ⟨t' + 1, by go_num, by omega, Lib.hid ⟨_, HR6.out⟩⟩
                      case measure => simp [intOf]; omega
                  · have HH := Lib.hid (And.intro h1 h2)
                    clear h1 h2
                    go_wp2_with fail
                    go_at_call 40; (with_reducible refine (HH.out.1 ▸ CX.out).mono ?_); rintro e w6 ⟨rfl, rfl⟩
                    go_wp2_with fail
                    go_roundw
                    case rel => exact ⟨t', _, _, _, by first | rfl | go_num, ht', rfl, by have := HL9.out; omega, Lib.hid ⟨_, _, HR5.out, by first | exact HH.out.2 | exact fun _ => HH.out.2 trivial⟩⟩
                    case measure => simp [slLen]; omega
            · have HR4 := Lib.hid (show ManyR w w1 w4 i t 0 (c - l) (some (ad.add l)) [] (F ++ R.take l) from by have h := (HR.out.feed (Nat.le_refl _) HFM.out hf4 hw4).2; rw [HDR.out, Nat.sub_self] at h; exact h)
              clear hf4 hw4
              have hck2 : ¬ c = l := fun h => hck h.symm
              clear hck
              cases late
              all_goals
                go_wp2
                go_loopw [13] (fun t13 wz => ∃ t' : Nat, t13 = .int .i64 (t' : Int) ∧ t' ≤ i ∧ Hid (∃ F', ManyR w w1 wz i t' (0) (c - l) (some (ad.add l)) ([]) F')) (fun t13 _ => i - (intOf t13).toNat)
                case atStart => exact ⟨t, rfl, ht, Lib.hid ⟨_, HR4.out⟩⟩
                case round =>
                  obtain ⟨t', rfl, ht', HR5⟩ := hrel
                  obtain ⟨F', hR5⟩ := HR5.out
                  have HR5 := Lib.hid hR5
                  obtain ⟨v5, hf5⟩ := hR5.fm
                  obtain ⟨A5, c5, rfl, _, _, _⟩ := owned_form hf5.own
                  have HF5 := Lib.hid hf5
                  have HL5 := Lib.hid (show F'.length ≤ 140737488355328 by have h1 := congrArg List.length hR5.row; have h2 := mrow_le t' i; have := hi9.out; rw [List.length_append] at h1; omega)
                  have CX := Lib.hid (f_next w1.heap.size w1.heap.size 2 A5 _ c5 F' _ HF5.out rfl (hR5.wfF (by have := hi9.out; omega)) HL5.out)
                  have HMN := Lib.hid (many_next hR5.row ht')
                  clear hR5 hf5
                  rcases HMN.out with ⟨htn, F2, h1, h2⟩ | ⟨h1, h2⟩
                  · have HH := Lib.hid (And.intro h1 h2)
                    clear h1 h2
                    go_wp2_with fail
                    go_at_call 40; (with_reducible refine (HH.out.1 ▸ CX.out).mono ?_); rintro e w6 ⟨A6, c6, rfl, hr6, v6, hf6, ht6⟩
                    have HR6 := Lib.hid (HR5.out.told HH.out.2 hf6 ht6)
                    obtain ⟨g6, rfl, hc6⟩ := rowCell hr6 (by rw [mb_len]; omega)
                    have b0 : w6.cell? ⟨g6, 0, none⟩ = some (.int .u8 ((t' : Int) % 256)) := by rw [hc6 0 _ (mb_0 t')]; simp
                    rw [mb_len]
                    have HC6 := Lib.hid hc6
                    clear hr6 hf6 ht6 hc6
                    rcases Nat.mod_two_eq_zero_or_one t' with hp | hp
                    · have hp2 : (t' : Int) % 2 = 0 := by omega
                      rw [hp]
                      clear hp
                      go_wp2
                      go_roundw
                      case rel => exact ⟨t' + 1, by go_num, by omega, Lib.hid ⟨_, HR6.out⟩⟩
                      case measure => simp [intOf]; omega
                    · have hp2 : (t' : Int) % 2 = 1 := by omega
                      have b1 : w6.cell? ⟨g6, 1, none⟩ = some (.int .u8 ((t' : Int) / 256)) := by rw [HC6.out 1 _ (mb_1 t' hp)]; simp
                      rw [hp]
                      clear hp
                      go_wp2
                      go_roundw
                      case rel => exact ⟨t' + 1, by go_num, by omega, Lib.hid ⟨_, HR6.out⟩⟩
                      case measure => simp [intOf]; omega
                  · have HH := Lib.hid (And.intro h1 h2)
                    clear h1 h2
                    go_wp2_with fail
                    go_at_call 40; (with_reducible refine (HH.out.1 ▸ CX.out).mono ?_); rintro e w6 ⟨rfl, rfl⟩
                    go_wp2_with fail
                    go_roundw
                    case rel => exact ⟨t', _, _, _, by first | rfl | go_num, ht', rfl, by have := HL9.out; omega, Lib.hid ⟨_, _, HR5.out, by first | exact HH.out.2 | exact fun _ => HH.out.2 trivial⟩⟩
                    case measure => simp [slLen]; omega
        · obtain rfl : l = 0 := by omega
          have HR0 := Lib.hid (show R = [] from List.eq_nil_of_length_eq_zero HR.out.len)
          obtain ⟨ht0, hF0⟩ := HEND.out HR0.out
          subst ht0
          obtain ⟨v, hfm⟩ := HR.out.fm
          rw [hF0] at hfm
          obtain ⟨A1, c1, rfl, _, _, _⟩ := owned_form hfm.own
          have HFM := Lib.hid hfm
          clear hfm hF0
          go_wp2_with fail
          go_at_call 39; (with_reducible refine (f_held w1.heap.size _ _ A1 0 c1 _ HFM.out.blk).mono ?_); rintro e w5 ⟨rfl, rfl⟩
          go_wp2_with fail
          go_at_call 19; (with_reducible refine (head_any _).mono ?_); rintro e w6 ⟨rfl, hb⟩
          go_wp2
          go_ret
          exact ⟨rfl, HR.out.below.trans ((HR.out.below1.trans (hb.mono HR.out.below1.size)).mono HR.out.below.size)⟩
end Go.Proofs.YtdgokebablhoiaaDoor
