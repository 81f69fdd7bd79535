/- CodecTurns: the walk. -/
import Derived.Test.YteffpfgdoganpaaGreatDoorZReads
import Derived.Test.YteffpfgdoganpaaGreatDoorCRefs
namespace Go.Proofs.YteffpfgdoganpaaGreatDoor
open Go.RowKit

theorem encB_two {q : Rq} (h : checkRq q = 0) : 2 ≤ (encB q).length ∧ (encB q).length ≤ 800 := by rw [encB_ok h]; exact encRq_le (rq_good h)
theorem encS_two {q : Rs} (h : checkRs q = 0) (hi : ∀ x ∈ q.rows, RowI x) : 2 ≤ (encS q).length ∧ (encS q).length ≤ 30000 := by rw [encS_ok h]; exact encRs_le (rs_good h) hi
theorem Byt.take {xs : List Int} (h : Byt xs) (k : Nat) : Byt (xs.take k) := fun x hx => h x (List.mem_of_mem_take hx)
theorem Byt.set {xs : List Int} (h : Byt xs) (k : Nat) {u : Int} (hu : 0 ≤ u ∧ u < 256) : Byt (xs.set k u) := fun x hx => by
  rcases List.mem_or_eq_of_mem_set hx with e | e
  · exact h x e
  · exact e ▸ hu
/-- A row that one's own memory holds reads as these bytes. -/
theorem own_cells {W : World} {base n : Nat} {v : Value} {xs : List Int} (h : W.ownsRow base 5 1 v n (bvs xs)) : ∃ A c, v = .slice A n c ∧ CellsAt W A (bvs xs) ∧ xs.length = n := by
  obtain ⟨A, c, e, hr, _⟩ := row_of_own h
  refine ⟨A, c, e, hr.cells, ?_⟩
  have := h.1
  rw [bvs_len] at this
  omega
theorem own_blk {W : World} {base n : Nat} {v : Value} {xs : List Int} (h : W.ownsRow base 5 1 v n (bvs xs)) (hn : 0 < n) : ∃ g c cur, v = .slice (some ⟨g, 0, none⟩) n c ∧ base ≤ g ∧ n ≤ c ∧ Blk W g 5 cur ∧ cur.size = c ∧ cur.toList.take n = bvs xs := by
  rcases h.2 with ⟨_, h0⟩ | ⟨g, cap, cur, e, h1, h2, h3, _, h5, h6⟩
  · omega
  · exact ⟨g, cap, cur, e, h1, h3, h2, by omega, by rw [Nat.mul_one] at h6; exact h6⟩
theorem blk_cells {W : World} {g : Nat} {t : TypeId} {cur : Array Value} {n : Nat} {xs : List Int} (h : Blk W g t cur) (ht : cur.toList.take n = bvs xs) : CellsAt W (some ⟨g, 0, none⟩) (bvs xs) := fun j hj => by
  refine ⟨_, rfl, h.lt, ?_⟩
  have h1 := h.cell j
  have h2 : (cur.toList.take n)[j]? = some (bvs xs)[j] := by rw [ht]; exact List.getElem?_eq_getElem hj
  rw [List.getElem?_take] at h2
  split at h2
  · rw [Array.getElem?_toList] at h2
    rw [h2] at h1
    have e : Addr.add ⟨g, 0, none⟩ j = ⟨g, j, none⟩ := by cases j <;> simp [Addr.add]
    rw [e]
    exact h1
  · cases h2
theorem cell_of_take {W : World} {g n k : Nat} {t : TypeId} {cur : Array Value} {xs : List Int} {x : Int} (h : Blk W g t cur) (ht : cur.toList.take n = bvs xs) (hk : k < n) (hx : xs[k]? = some x) : W.cell? ⟨g, k, none⟩ = some (.int .u8 x) := by
  have h1 : (bvs xs)[k]? = some (.int .u8 x) := by unfold bvs; rw [List.getElem?_map, hx]; rfl
  rw [← ht, List.getElem?_take, if_pos hk, Array.getElem?_toList] at h1
  rw [h.cell k, h1]
theorem takeAt {W : World} {A : Option Addr} {xs : List Int} {k : Nat} (h : CellsAt W A (bvs xs)) : CellsAt W A (bvs (xs.take k)) := by
  have := h.take_ k
  rwa [show (bvs xs).take k = bvs (xs.take k) by simp [bvs, List.map_take]] at this
theorem take_set_bvs {cur : Array Value} {n k : Nat} {xs : List Int} (h : cur.toList.take n = bvs xs) (u : Int) : (cur.setIfInBounds k (.int .u8 u)).toList.take n = bvs (xs.set k u) := by
  rw [Array.toList_setIfInBounds, List.take_set, h]
  unfold bvs
  rw [List.map_set]
set_option maxHeartbeats 16000000 in
set_option maxRecDepth 100000 in
theorem turned_true (CK : KnownOk) (A D : Option Addr) (n c m d : Nat) (xs ys : List Int) (at_ cut by_ : Int) (W : World) (hT : W.cell? ⟨0, 0, none⟩ = some tyErr)
    (hl : xs.length = n) (hx : CellsAt W A (bvs xs)) (hw : Byt xs) (h2 : 2 ≤ n) (hn : n ≤ 100000) (hc : n ≤ c) (hA : A ≠ none) (hby : 0 ≤ by_ ∧ by_ < 256)
    (hm : ys.length = m) (hy : CellsAt W D (bvs ys)) (hD : D = none → d = 0) (hw2 : Byt ys) (hmd : m ≤ d) (hm9 : m ≤ 9223372036854775807) :
    Calls Tryz.prog 18 #[.slice A n c, .int .i64 at_, .int .u8 by_, .int .i64 cut, .slice D m d] W fun e w' => e = .returned (.bool true) ∧ Below W.heap.size W w' := by
  have HT := Lib.hid (fun (W9 : World) (h : Below W.heap.size W W9) => (h.cell (p := ⟨0, 0, none⟩) (World.block_lt_of_cell? W _ hT)).trans hT)
  have HX := Lib.hid (fun (W9 : World) (h : Below W.heap.size W W9) => hx.below h)
  have HL := Lib.hid hl
  have HBX := Lib.hid hw
  have HN2 := Lib.hid h2
  have HN := Lib.hid hn
  have HC := Lib.hid hc
  have HBY := Lib.hid hby
  have CK := Lib.hid CK
  obtain ⟨ad, rfl⟩ : ∃ ad, A = some ad := by cases A with | none => exact absurd rfl hA | some a => exact ⟨a, rfl⟩
  obtain ⟨R, hR, CW⟩ := within_any at_ n (by omega) (by omega)
  obtain ⟨R2, hR2, CV⟩ := within_any cut (n + 1) (by omega) (by omega)
  have HR := Lib.hid hR
  have HR2 := Lib.hid hR2
  have CW := Lib.hid CW
  have CV := Lib.hid (show ∀ W, Calls Tryz.prog 48 #[.int .i64 cut, .int .i64 ((n : Int) + 1)] W fun e w' => e = .returned (.int .i64 (R2 : Int)) ∧ W = w' from fun W => by have h := CV W; rwa [show (((n + 1 : Nat) : Int)) = (n : Int) + 1 from by simp] at h)
  obtain ⟨ys2, m2, d2, hm2, hy2, hD2, hw3, hm64, hgo⟩ : ∃ (ys2 : List Int) (m2 d2 : Nat), ys2.length = m2 ∧ CellsAt W D (bvs ys2) ∧ (D = none → d2 = 0) ∧ Byt ys2 ∧ m2 ≤ 64 ∧ ((64 < m ∧ m2 = 64 ∧ d2 = d) ∨ (¬ 64 < m ∧ m2 = m ∧ d2 = d)) := by
    by_cases h : 64 < m
    · refine ⟨ys.take 64, 64, d, by rw [List.length_take]; omega, ?_, hD, hw2.take 64, Nat.le_refl _, .inl ⟨h, rfl, rfl⟩⟩
      have := hy.take_ 64
      rwa [show (bvs ys).take 64 = bvs (ys.take 64) by simp [bvs, List.map_take]] at this
    · exact ⟨ys, m, d, hm, hy, hD, hw2, by omega, .inr ⟨h, rfl, rfl⟩⟩
  have HY := Lib.hid (fun (W9 : World) (h : Below W.heap.size W W9) => hy2.below h)
  have HYL := Lib.hid hm2
  have HD := Lib.hid hD2
  have HYB := Lib.hid hw3
  have HM := Lib.hid hm64
  have HDN : D = none → d = 0 := hD
  clear hT hl hx hw h2 hn hc hA hby hm hy hD hw2 hR hR2 hm2 hy2 hD2 hw3 hm64
  rcases hgo with ⟨h64, rfl, rfl⟩ | ⟨h64, rfl, rfl⟩
  · have h64d : 64 ≤ d2 := by omega
    go_enter Tryz.func18, Tryz.ntmps18
    have O0 := Lib.hid (show (W.alloc (.cells #[] 5)).ownsRow W.heap.size 5 1 (.slice (some ⟨W.heap.size, 0, none⟩) 0 0) 0 (bvs []) from own_cells_alloc W)
    have B0 := Lib.hid ((Below.refl W.heap.size W).alloc (Nat.le_refl _) (.cells #[] 5))
    have hn5 : n ≤ 100000 := HN.out
    go_wp2_with (first
      | (at_builtin; refine wpList_append_bytes rfl _ _ rfl W.heap.size _ 0 [] rfl O0.out (some ad) n c (by intro h; cases h) xs rfl HL.out (HX.out _ B0.out) (by have := HN.out; omega) (by simp) ?_
         intro v1 w1 hown hg hv
         have B1 := Lib.hid (below_grown B0.out hg (by intro g hg; cases hg; exact Nat.le_refl _) (by simp))
         obtain ⟨g1, c1, cur1, rfl, hg1, hc1, hk1, hs1, ht1⟩ := own_blk (xs := xs) (n := n) (by simpa [bvs] using hown) (by have := HN2.out; omega)
         have K1 := Lib.hid hk1
         have T1 := Lib.hid ht1
         have G1 := Lib.hid hg1
         have C1 := Lib.hid hc1
         obtain ⟨x0, hx0⟩ : ∃ x0, xs[R]? = some x0 := ⟨_, List.getElem?_eq_getElem (by rw [HL.out]; exact HR.out)⟩
         have r0 : w1.cell? ⟨g1, R, none⟩ = some (.int .u8 x0) := cell_of_take hk1 ht1 HR.out hx0
         have f0 : w1.frozen? ⟨g1, R, none⟩ = false := hk1.frozen R
         have hRc : R < n := HR.out
         clear hown hg hv hk1 ht1 hg1 hc1 hs1 hx0)
      | (go_at_call 48; (with_reducible refine (CW.out _).mono ?_); rintro e w' ⟨rfl, rfl⟩)
      | (go_at_call 48; (with_reducible refine (CV.out _).mono ?_); rintro e w' ⟨rfl, rfl⟩
         have hRc2 : R2 ≤ c := by have h1 := HR2.out; have h2 := HC.out; omega
         have B2 := Lib.hid (B1.out.setCell (p := ⟨g1, R, none⟩) G1.out (.int .u8 ((x0 + by_) % 256)))
         have K2 := Lib.hid (K1.out.set_ R (.int .u8 ((x0 + by_) % 256)))
         clear r0 f0
         generalize w1.setCell ⟨g1, R, none⟩ (.int .u8 ((x0 + by_) % 256)) = w2 at *
         have O2 := Lib.hid (show (w2.alloc (.cells #[] 5)).ownsRow w2.heap.size 5 1 (.slice (some ⟨w2.heap.size, 0, none⟩) 0 0) 0 (bvs []) from own_cells_alloc w2)
         have B3 := Lib.hid (B2.out.alloc B2.out.size (.cells #[] 5))
         have K3 := Lib.hid (K2.out.alloc (.cells #[] 5))
         have L2 := Lib.hid K2.out.lt
         have hs3 : (w2.alloc (.cells #[] 5)).heap.size = w2.heap.size + 1 := by simp
         clear K1 B1)
      | (at_builtin; refine wpList_append_bytes rfl _ _ rfl w2.heap.size _ 0 [] rfl O2.out (some ad) n c (by intro h; cases h) xs rfl HL.out (HX.out _ B3.out) (by have := HN.out; omega) (by simp) ?_
         intro v4 w4 hown hg hv
         have B4 := Lib.hid (below_grown B3.out hg (by intro g hg; cases hg; exact B2.out.size) B3.out.size)
         have hown : w4.ownsRow w2.heap.size 5 1 v4 n (bvs xs) := (by simpa [bvs] using hown)
         have O4 := Lib.hid hown
         have K4 := Lib.hid (K3.out.grown hg (fun e => by have e2 : g1 = w2.heap.size := Option.some.inj e; have h1 := L2.out; omega))
         have S4 := Lib.hid (show w2.heap.size ≤ w4.heap.size by have := hg.size; omega)
         obtain ⟨A4, c4, hv4, hx4, hx5⟩ := own_cells hown
         subst hv4
         clear hown hg hv hx4 hx5 K3)
      | (at_builtin; refine wpList_append_bytes rfl _ _ rfl w2.heap.size _ n xs rfl O4.out D 64 d2 HD.out ys2 rfl HYL.out (HY.out _ B4.out) (by have := HN.out; have := HM.out; omega) S4.out ?_
         intro v6 w6 hown hg hv
         have B6 := Lib.hid (below_grown B4.out hg (fun g e => by have h1 := (O4.out.lt g e).1; have h2 := B2.out.size; omega) B4.out.size)
         have K6 := Lib.hid (K4.out.grown hg (fun e => by have h1 := (O4.out.lt _ e.symm).1; have h2 := L2.out; omega))
         rw [← bvs_append] at hown
         obtain ⟨A6, c6, hv6, hx6, hl6⟩ := own_cells hown
         obtain ⟨g6, c6', cur6, hv7, _, hc6, _⟩ := own_blk hown (by have := HN2.out; omega)
         rw [hv6] at hv7
         subst hv6
         injection hv7 with e1 _ e3
         subst e3
         subst e1
         have X6 := Lib.hid hx6
         have L6 := Lib.hid hl6
         have C6 := Lib.hid hc6
         clear hown hg hv hx6 hl6 hc6 K4 O4)
      | fail)
    go_at_call 3; (with_reducible refine (law_reads CK.out (some ⟨g1, 0, none⟩) n c1 (xs.set R ((x0 + by_) % 256)) w6 (HT.out _ B6.out) (by rw [List.length_set]; exact HL.out) (blk_cells K6.out (take_set_bvs T1.out _)) (byt_wf (HBX.out.set R (by omega))) (by omega) C1.out).mono ?_); rintro e w7 ⟨rfl, hb7⟩
    have B7 := Lib.hid (below_step B6.out hb7 (Nat.le_refl _))
    have X7 := Lib.hid (X6.out.below hb7)
    clear hb7 B6 X6 K6
    go_wp2_with fail
    go_at_call 3; (with_reducible refine (law_reads CK.out (some ad) R2 c (xs.take R2) w7 (HT.out _ B7.out) (by rw [List.length_take, HL.out]; have := HR2.out; omega) (takeAt (HX.out _ B7.out)) (byt_wf (HBX.out.take R2)) (by have := HR2.out; omega) hRc2).mono ?_); rintro e w8 ⟨rfl, hb8⟩
    have B8 := Lib.hid (below_step B7.out hb8 (Nat.le_refl _))
    have X8 := Lib.hid (X7.out.below hb8)
    clear hb8 B7 X7
    go_wp2_with fail
    go_at_call 3; (with_reducible refine (law_reads CK.out (some ⟨g6, 0, none⟩) (n + 64) c6 (xs ++ ys2) w8 (HT.out _ B8.out) L6.out X8.out (byt_wf (HBX.out.append HYB.out)) (by have := HM.out; omega) C6.out).mono ?_); rintro e w9 ⟨rfl, hb9⟩
    have B9 := Lib.hid (below_step B8.out hb9 (Nat.le_refl _))
    clear hb9
    go_wp2
    go_ret
    exact ⟨rfl, B9.out⟩
  · go_enter Tryz.func18, Tryz.ntmps18
    have O0 := Lib.hid (show (W.alloc (.cells #[] 5)).ownsRow W.heap.size 5 1 (.slice (some ⟨W.heap.size, 0, none⟩) 0 0) 0 (bvs []) from own_cells_alloc W)
    have B0 := Lib.hid ((Below.refl W.heap.size W).alloc (Nat.le_refl _) (.cells #[] 5))
    have hn5 : n ≤ 100000 := HN.out
    go_wp2_with (first
      | (at_builtin; refine wpList_append_bytes rfl _ _ rfl W.heap.size _ 0 [] rfl O0.out (some ad) n c (by intro h; cases h) xs rfl HL.out (HX.out _ B0.out) (by have := HN.out; omega) (by simp) ?_
         intro v1 w1 hown hg hv
         have B1 := Lib.hid (below_grown B0.out hg (by intro g hg; cases hg; exact Nat.le_refl _) (by simp))
         obtain ⟨g1, c1, cur1, rfl, hg1, hc1, hk1, hs1, ht1⟩ := own_blk (xs := xs) (n := n) (by simpa [bvs] using hown) (by have := HN2.out; omega)
         have K1 := Lib.hid hk1
         have T1 := Lib.hid ht1
         have G1 := Lib.hid hg1
         have C1 := Lib.hid hc1
         obtain ⟨x0, hx0⟩ : ∃ x0, xs[R]? = some x0 := ⟨_, List.getElem?_eq_getElem (by rw [HL.out]; exact HR.out)⟩
         have r0 : w1.cell? ⟨g1, R, none⟩ = some (.int .u8 x0) := cell_of_take hk1 ht1 HR.out hx0
         have f0 : w1.frozen? ⟨g1, R, none⟩ = false := hk1.frozen R
         have hRc : R < n := HR.out
         clear hown hg hv hk1 ht1 hg1 hc1 hs1 hx0)
      | (go_at_call 48; (with_reducible refine (CW.out _).mono ?_); rintro e w' ⟨rfl, rfl⟩)
      | (go_at_call 48; (with_reducible refine (CV.out _).mono ?_); rintro e w' ⟨rfl, rfl⟩
         have hRc2 : R2 ≤ c := by have h1 := HR2.out; have h2 := HC.out; omega
         have B2 := Lib.hid (B1.out.setCell (p := ⟨g1, R, none⟩) G1.out (.int .u8 ((x0 + by_) % 256)))
         have K2 := Lib.hid (K1.out.set_ R (.int .u8 ((x0 + by_) % 256)))
         clear r0 f0
         generalize w1.setCell ⟨g1, R, none⟩ (.int .u8 ((x0 + by_) % 256)) = w2 at *
         have O2 := Lib.hid (show (w2.alloc (.cells #[] 5)).ownsRow w2.heap.size 5 1 (.slice (some ⟨w2.heap.size, 0, none⟩) 0 0) 0 (bvs []) from own_cells_alloc w2)
         have B3 := Lib.hid (B2.out.alloc B2.out.size (.cells #[] 5))
         have K3 := Lib.hid (K2.out.alloc (.cells #[] 5))
         have L2 := Lib.hid K2.out.lt
         have hs3 : (w2.alloc (.cells #[] 5)).heap.size = w2.heap.size + 1 := by simp
         clear K1 B1)
      | (at_builtin; refine wpList_append_bytes rfl _ _ rfl w2.heap.size _ 0 [] rfl O2.out (some ad) n c (by intro h; cases h) xs rfl HL.out (HX.out _ B3.out) (by have := HN.out; omega) (by simp) ?_
         intro v4 w4 hown hg hv
         have B4 := Lib.hid (below_grown B3.out hg (by intro g hg; cases hg; exact B2.out.size) B3.out.size)
         have hown : w4.ownsRow w2.heap.size 5 1 v4 n (bvs xs) := (by simpa [bvs] using hown)
         have O4 := Lib.hid hown
         have K4 := Lib.hid (K3.out.grown hg (fun e => by have e2 : g1 = w2.heap.size := Option.some.inj e; have h1 := L2.out; omega))
         have S4 := Lib.hid (show w2.heap.size ≤ w4.heap.size by have := hg.size; omega)
         obtain ⟨A4, c4, hv4, hx4, hx5⟩ := own_cells hown
         subst hv4
         clear hown hg hv hx4 hx5 K3)
      | (at_builtin; refine wpList_append_bytes rfl _ _ rfl w2.heap.size _ n xs rfl O4.out D m2 d2 HD.out ys2 rfl HYL.out (HY.out _ B4.out) (by have := HN.out; have := HM.out; omega) S4.out ?_
         intro v6 w6 hown hg hv
         have B6 := Lib.hid (below_grown B4.out hg (fun g e => by have h1 := (O4.out.lt g e).1; have h2 := B2.out.size; omega) B4.out.size)
         have K6 := Lib.hid (K4.out.grown hg (fun e => by have h1 := (O4.out.lt _ e.symm).1; have h2 := L2.out; omega))
         rw [← bvs_append] at hown
         obtain ⟨A6, c6, hv6, hx6, hl6⟩ := own_cells hown
         obtain ⟨g6, c6', cur6, hv7, _, hc6, _⟩ := own_blk hown (by have := HN2.out; omega)
         rw [hv6] at hv7
         subst hv6
         injection hv7 with e1 _ e3
         subst e3
         subst e1
         have X6 := Lib.hid hx6
         have L6 := Lib.hid hl6
         have C6 := Lib.hid hc6
         clear hown hg hv hx6 hl6 hc6 K4 O4)
      | fail)
    go_at_call 3; (with_reducible refine (law_reads CK.out (some ⟨g1, 0, none⟩) n c1 (xs.set R ((x0 + by_) % 256)) w6 (HT.out _ B6.out) (by rw [List.length_set]; exact HL.out) (blk_cells K6.out (take_set_bvs T1.out _)) (byt_wf (HBX.out.set R (by omega))) (by omega) C1.out).mono ?_); rintro e w7 ⟨rfl, hb7⟩
    have B7 := Lib.hid (below_step B6.out hb7 (Nat.le_refl _))
    have X7 := Lib.hid (X6.out.below hb7)
    clear hb7 B6 X6 K6
    go_wp2_with fail
    go_at_call 3; (with_reducible refine (law_reads CK.out (some ad) R2 c (xs.take R2) w7 (HT.out _ B7.out) (by rw [List.length_take, HL.out]; have := HR2.out; omega) (takeAt (HX.out _ B7.out)) (byt_wf (HBX.out.take R2)) (by have := HR2.out; omega) hRc2).mono ?_); rintro e w8 ⟨rfl, hb8⟩
    have B8 := Lib.hid (below_step B7.out hb8 (Nat.le_refl _))
    have X8 := Lib.hid (X7.out.below hb8)
    clear hb8 B7 X7
    go_wp2_with fail
    go_at_call 3; (with_reducible refine (law_reads CK.out (some ⟨g6, 0, none⟩) (n + m2) c6 (xs ++ ys2) w8 (HT.out _ B8.out) L6.out X8.out (byt_wf (HBX.out.append HYB.out)) (by have := HM.out; omega) C6.out).mono ?_); rintro e w9 ⟨rfl, hb9⟩
    have B9 := Lib.hid (below_step B8.out hb9 (Nat.le_refl _))
    clear hb9
    go_wp2
    go_ret
    exact ⟨rfl, B9.out⟩
set_option maxHeartbeats 16000000 in
set_option maxRecDepth 100000 in
theorem law_turns (CK : KnownOk) (A C D : Option Addr) (n c k c2 m d : Nat) (q : Rq) (r : Rs) (at_ by_ cut : Int) (ys : List Int) (W : World) (hT : W.cell? ⟨0, 0, none⟩ = some tyErr) (hq : RqA W A n q) (hr : RsA W C k r)
    (hby : 0 ≤ by_ ∧ by_ < 256) (hm : ys.length = m) (hy : CellsAt W D (bvs ys)) (hD : D = none → d = 0) (hw : ∀ x ∈ ys, (Lit.int .u8 x).wf = true) (hmd : m ≤ d) (hm9 : m ≤ 9223372036854775807) :
    Calls Tryz.prog 4 #[.agg (rqC (.slice A n c) q), .agg (rsC (.slice C k c2) r), .int .i64 at_, .int .u8 by_, .int .i64 cut, .slice D m d] W fun e w' => e = .returned (.bool true) ∧ Below W.heap.size W w' := by
  have HBX := Lib.hid (box2 W 29 39 (rqC (.slice A n c) q) (rsC (.slice C k c2) r))
  have HT := Lib.hid (fun (W9 : World) (h : Below W.heap.size W W9) => (h.cell (p := ⟨0, 0, none⟩) (World.block_lt_of_cell? W _ hT)).trans hT)
  have HQ := Lib.hid hq
  have HR := Lib.hid hr
  have HI := Lib.hid hr.rows
  have CK0 := Lib.hid CK
  have CU := Lib.hid (fun (A9 : Option Addr) (n9 c9 : Nat) (xs9 : List Int) (W9 : World) (hb9 : Below W.heap.size W W9) (hl : xs9.length = n9) (hx : CellsAt W9 A9 (bvs xs9)) (hw9 : Byt xs9) (h2 : 2 ≤ n9) (hn : n9 ≤ 100000) (hc : n9 ≤ c9) (hA : A9 ≠ none) =>
    turned_true CK A9 D n9 c9 m d xs9 ys at_ cut by_ W9 (HT.out _ hb9) hl hx hw9 h2 hn hc hA hby hm (hy.below hb9) hD (byt_of hw) hmd hm9)
  clear hT hq hr hy hD hw hm hmd hm9 hby
  go_enter Tryz.func4, Tryz.ntmps4
  go_wp2_with fail
  generalize ((W.alloc (.cells (rqC (.slice A n c) q) 29)).alloc (.cells (rsC (.slice C k c2) r) 39)) = W0 at *
  obtain ⟨k1, k2, hb0⟩ := HBX.out
  have K2 := Lib.hid k2
  have B0 := Lib.hid hb0
  have HQ0 := Lib.hid (HQ.out.below hb0)
  have HR0 := Lib.hid (HR.out.below hb0)
  have hcq : ∀ i, W0.cell? ⟨W.heap.size, i, none⟩ = (rqC (.slice A n c) q)[i]? := k1.cell
  clear k1 k2 hb0 HBX HQ HR
  go_wp2_with fail
  go_at_call 16; (with_reducible refine (refenc_rq HQ0.out c).mono ?_); rintro e w1 ⟨vx, rfl, hox, hb1⟩
  have B1 := Lib.hid (below_step B0.out hb1 (Nat.le_refl _))
  have OX1 := Lib.hid hox
  have hcr : ∀ i, w1.cell? ⟨W.heap.size + 1, i, none⟩ = (rsC (.slice C k c2) r)[i]? := (K2.out.kept hb1).cell
  have HR1 := Lib.hid (HR0.out.below hb1)
  have L01 := Lib.hid hb1.size
  clear hox hb1 hcq HQ0 HR0 K2
  go_wp2_with fail
  go_at_call 17; (with_reducible refine (refenc_rs HR1.out c2).mono ?_); rintro e w2 ⟨vy, rfl, hoy, hb2⟩
  have B2 := Lib.hid (below_step B1.out hb2 (Nat.le_refl _))
  have OX2 := Lib.hid (OX1.out.kept hb2)
  have OY2 := Lib.hid hoy
  clear hoy hb2 hcr HR1 OX1
  by_cases h1 : checkRq q = 0
  · have E2 := Lib.hid (encB_two h1)
    have EB := Lib.hid (encB_byt q)
    rw [h1]
    clear h1
    obtain ⟨g1, c1, cur1, rfl, _, hc1, hk1, hs1, ht1⟩ := own_blk OX2.out (by have := E2.out.1; omega)
    have X1 := Lib.hid (blk_cells hk1 ht1)
    have HC1 := Lib.hid hc1
    clear hc1 hk1 hs1 ht1
    go_wp2_with fail
    go_at_call 18; (with_reducible refine (CU.out _ _ _ _ _ B2.out rfl X1.out EB.out E2.out.1 (by have := E2.out.2; omega) HC1.out (by simp)).mono ?_); rintro e w3 ⟨rfl, hb3⟩
    have B3 := Lib.hid (below_step B2.out hb3 (Nat.le_refl _))
    have OY3 := Lib.hid (OY2.out.kept hb3)
    clear hb3 X1 HC1 E2 EB OX2 OY2
    by_cases h2 : checkRs r = 0
    · have E3 := Lib.hid (encS_two h2 HI.out)
      have ES := Lib.hid (encS_byt r)
      rw [h2]
      clear h2
      obtain ⟨g2, c3, cur2, rfl, _, hc2, hk2, hs2, ht2⟩ := own_blk OY3.out (by have := E3.out.1; omega)
      have X2 := Lib.hid (blk_cells hk2 ht2)
      have HC2 := Lib.hid hc2
      clear hc2 hk2 hs2 ht2
      go_wp2_with fail
      go_at_call 18; (with_reducible refine (CU.out _ _ _ _ _ B3.out rfl X2.out ES.out E3.out.1 (by have := E3.out.2; omega) HC2.out (by simp)).mono ?_); rintro e w4 ⟨rfl, hb4⟩
      have B4 := Lib.hid (below_step B3.out hb4 (Nat.le_refl _))
      clear hb4
      go_wp2_with fail
      go_at_call 6; (with_reducible refine (CK0.out _ (HT.out _ B4.out)).mono ?_); rintro e w5 ⟨rfl, hb5⟩
      have B5 := Lib.hid (below_step B4.out hb5 (Nat.le_refl _))
      clear hb5
      go_wp2
      go_ret
      exact ⟨rfl, B5.out⟩
    · have hy1 : (checkRs r == 0) = false := by simpa using h2
      have hy2 : (checkRs r != 0) = true := by simpa using h2
      clear h2
      obtain ⟨A9, c9, rfl⟩ := own_form3 OY3.out
      go_wp2_with fail
      go_at_call 6; (with_reducible refine (CK0.out _ (HT.out _ B3.out)).mono ?_); rintro e w5 ⟨rfl, hb5⟩
      have B5 := Lib.hid (below_step B3.out hb5 (Nat.le_refl _))
      clear hb5
      go_wp2
      go_ret
      exact ⟨rfl, B5.out⟩
  · have hz1 : (checkRq q == 0) = false := by simpa using h1
    have hz2 : (checkRq q != 0) = true := by simpa using h1
    clear h1
    by_cases h2 : checkRs r = 0
    · have E3 := Lib.hid (encS_two h2 HI.out)
      have ES := Lib.hid (encS_byt r)
      rw [h2]
      clear h2
      obtain ⟨g2, c3, cur2, rfl, _, hc2, hk2, hs2, ht2⟩ := own_blk OY2.out (by have := E3.out.1; omega)
      have X2 := Lib.hid (blk_cells hk2 ht2)
      have HC2 := Lib.hid hc2
      clear hc2 hk2 hs2 ht2
      go_wp2_with fail
      go_at_call 18; (with_reducible refine (CU.out _ _ _ _ _ B2.out rfl X2.out ES.out E3.out.1 (by have := E3.out.2; omega) HC2.out (by simp)).mono ?_); rintro e w4 ⟨rfl, hb4⟩
      have B4 := Lib.hid (below_step B2.out hb4 (Nat.le_refl _))
      clear hb4
      go_wp2_with fail
      go_at_call 6; (with_reducible refine (CK0.out _ (HT.out _ B4.out)).mono ?_); rintro e w5 ⟨rfl, hb5⟩
      have B5 := Lib.hid (below_step B4.out hb5 (Nat.le_refl _))
      clear hb5
      go_wp2
      go_ret
      exact ⟨rfl, B5.out⟩
    · have hy1 : (checkRs r == 0) = false := by simpa using h2
      have hy2 : (checkRs r != 0) = true := by simpa using h2
      clear h2
      obtain ⟨A9, c9, rfl⟩ := own_form3 OY2.out
      go_wp2_with fail
      go_at_call 6; (with_reducible refine (CK0.out _ (HT.out _ B2.out)).mono ?_); rintro e w5 ⟨rfl, hb5⟩
      have B5 := Lib.hid (below_step B2.out hb5 (Nat.le_refl _))
      clear hb5
      go_wp2
      go_ret
      exact ⟨rfl, B5.out⟩
end Go.Proofs.YteffpfgdoganpaaGreatDoor
