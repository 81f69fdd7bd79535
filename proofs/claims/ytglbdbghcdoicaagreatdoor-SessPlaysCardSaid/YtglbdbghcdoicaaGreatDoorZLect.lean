/- The document's Lector. -/
import Derived.Test.YtglbdbghcdoicaaGreatDoorWDcs
import Derived.Test.YtglbdbghcdoicaaGreatDoorCPls
namespace Go.Proofs.YtglbdbghcdoicaaGreatDoor
open Go.RowKit
set_option maxRecDepth 100000
set_option maxHeartbeats 32000000

/-- A Lector at j over the Reader at q. -/
abbrev LxB (W : World) (j q : Nat) : Prop := Blk W j 187 #[.pointer (some ⟨q, 0, none⟩)]
theorem numP_le9 {xs : List Int} {s : RS} : ((numP xs M40 s).1 : Int) ≤ 1099511627776 := numP_le xs M40 s (by decide)
section
variable {W : World} {q j n c : Nat} {A : Option Addr} {xs : List Int} {s : RS}
theorem lx_num (h : DocIs W q A n c xs s) (hl : LxB W j q) :
  Calls Tryz.prog 92 #[.pointer (some ⟨j, 0, none⟩)] W (DcQ W q A n c xs (.int .i64 ((numP xs M40 s).1 : Int)) (numP xs M40 s).2) := by
 have C := Lh (dc_num h M40 (by decide))
 have l0 : W.cell? ⟨j, 0, none⟩ = some (.pointer (some ⟨q, 0, none⟩)) := hl.cell 0
 clear h hl
 go_enter Tryz.func92, Tryz.ntmps92
 go_wp2_with fail
 go_at_call 133; (with_reducible refine C.out.mono ?_); rintro e w1 ⟨rfl, h1, f1⟩
 have H1 := Lh (And.intro h1 f1)
 clear h1 f1
 go_wp2
 go_ret
 exact ⟨rfl, H1.out⟩
theorem lx_cell (h : DocIs W q A n c xs s) (hl : LxB W j q) (hj : j ≠ q) :
  Calls Tryz.prog 94 #[.pointer (some ⟨j, 0, none⟩)] W (DcQ W q A n c xs (cellV (cellP xs s).1) (cellP xs s).2) := by
 have bl := (Below.refl W.heap.size W).alloc (Nat.le_refl _) (.cells #[.int .i64 0, .string ⟨#[]⟩, .int .i64 0] 41)
 have J0 := Lh (Blk.new W 41 #[.int .i64 0, .string ⟨#[]⟩, .int .i64 0])
 have H0 := Lh (h.kept bl)
 have L0 := Lh (hl.kept bl)
 have hq : W.heap.size ≠ q := by have := h.blk.lt; omega
 have F0 := Lh (Tur.of_below (S := (· = q)) bl)
 have HA := Lh (show xs ≠ [] → ∀ ad, A = some ad → ad.block ≠ W.heap.size from fun h0 ad e => by
  subst e
  obtain ⟨ad', e, h1, _⟩ := h.cells 0 (by rw [bvs_len]; exact List.length_pos_iff.2 h0)
  cases e
  omega)
 clear h hl bl
 go_enter Tryz.func94, Tryz.ntmps94
 go_wp2_with fail
 generalize W.alloc (.cells #[.int .i64 0, .string ⟨#[]⟩, .int .i64 0] 41) = w0 at *
 go_at_call 92; (with_reducible refine (lx_num H0.out L0.out).mono ?_); rintro e w1 ⟨rfl, h1, f1⟩
 have H1 := Lh h1
 have L1 := Lh (L0.out.tur f1 hj)
 have J1 := Lh (J0.out.tur f1 hq)
 have F1 := Lh (F0.out.trans f1 (fun k e => .inl e))
 have l0 : w1.cell? ⟨j, 0, none⟩ = some (.pointer (some ⟨q, 0, none⟩)) := L1.out.cell 0
 clear h1 f1 H0 L0 J0 F0
 go_wp2_with fail
 go_at_call 134; (with_reducible refine (dc_text H1.out 32 (by decide)).mono ?_); rintro e w2 ⟨rfl, h2, f2⟩
 have H2 := Lh h2
 have L2 := Lh (L1.out.tur f2 hj)
 have J2 := Lh (J1.out.tur f2 hq)
 have F2 := Lh (F1.out.trans f2 (fun k e => .inl e))
 clear l0
 have l0 : w2.cell? ⟨j, 0, none⟩ = some (.pointer (some ⟨q, 0, none⟩)) := L2.out.cell 0
 clear h2 f2 H1 L1 J1 F1
 go_wp2_with fail
 go_at_call 135; (with_reducible refine (dc_int H2.out).mono ?_); rintro e w3 ⟨rfl, h3, f3⟩
 have H3 := Lh h3
 have J3 := Lh (J2.out.tur f3 hq)
 have F3 := Lh (F2.out.trans f3 (fun k e => .inl e))
 clear h3 f3 H2 L2 J2 F2 l0
 have hfb := J3.out.frozen
 have hcJ := J3.out.cell
 obtain ⟨s1, s2, s3⟩ := set3 J3.out (.int .i64 (cellP xs s).1.view) (.string (cellP xs s).1.key) (.int .i64 (cellP xs s).1.start)
 have HJ := Lh s1
 have HT := Lh s2
 clear s1 s2 s3
 have HX := Lh (show cellP xs s = (⟨((numP xs M40 s).1 : Int), strOfNums (textP xs 32 (numP xs M40 s).2).1, (intP xs (textP xs 32 (numP xs M40 s).2).2).1⟩, (intP xs (textP xs 32 (numP xs M40 s).2).2).2) from rfl)
 rw [HX.out] at HJ HT ⊢
 dsimp only at HJ HT ⊢
 generalize ((numP xs M40 s).1 : Int) = x0 at *
 generalize strOfNums (textP xs 32 (numP xs M40 s).2).1 = x1 at *
 generalize (intP xs (textP xs 32 (numP xs M40 s).2).2).1 = x2 at *
 generalize (intP xs (textP xs 32 (numP xs M40 s).2).2).2 = x3 at *
 go_wp2
 generalize ((w3.setCell ⟨W.heap.size, 0, none⟩ (.int .i64 x0)).setCell ⟨W.heap.size, 1, none⟩ (.string x1)).setCell ⟨W.heap.size, 2, none⟩ (.int .i64 x2) = w4 at HJ HT ⊢
 have hcb := HJ.out.cell
 exact bodyPost_ret (v := cellV ⟨x0, x1, x2⟩) (by simp [results, Tryz.results94, go_sem, hcb]) rfl (by rw [HX.out]; exact ⟨rfl, H3.out.tur HT.out (fun e => hq e.symm) (fun h0 ad e => HA.out h0 ad e), F3.out.trans HT.out (fun k e => .inr (by omega))⟩)
theorem pos_left (h : DocIs W q A n c xs s) (hf : s.fault = none) : (xs.length : Int) - (leftP xs s : Int) = (s.pos : Int) := by
 have h1 := h.posL
 unfold leftP
 rw [hf]
 simp only [Option.isSome_none, Bool.false_eq_true, if_false]
 omega
theorem countP_no (h : DocIs W q A n c xs s) {most : Int} (hm : 0 ≤ most) (hgt : most < ((numP xs M40 s).1 : Int)) : countP xs most s = (0, (numP xs M40 s).2.fail 2 (s.pos : Int)) := by
 unfold countP
 rw [if_pos hgt]
 rcases hr : numP xs M40 s with ⟨m, s1⟩
 rw [hr] at hgt
 have h0 : s1.fault = none := by
  rcases hf : s1.fault with _ | x
  ·rfl
  ·have := numP_some hr (by rw [hf]; rfl)
   subst this
   simp at hgt
   omega
 rw [pos_left h (numP_none hr h0).1]
theorem countP_yes {most : Int} (hgt : ¬ most < ((numP xs M40 s).1 : Int)) : countP xs most s = numP xs M40 s := by
 unfold countP
 rw [if_neg hgt]
theorem lx_many (h : DocIs W q A n c xs s) (hl : LxB W j q) (hj : j ≠ q) (most : Nat) (hm : most ≤ 1000) :
  Calls Tryz.prog 93 #[.pointer (some ⟨j, 0, none⟩), .int .i64 (most : Int)] W (DcQ W q A n c xs (.int .i64 ((countP xs (most : Int) s).1 : Int)) (countP xs (most : Int) s).2) := by
 have C := Lh (lx_num h hl)
 have l0 : W.cell? ⟨j, 0, none⟩ = some (.pointer (some ⟨q, 0, none⟩)) := hl.cell 0
 have p1 : W.cell? ⟨q, 1, none⟩ = some (.int .i64 (s.pos : Int)) := h.blk.cell 1
 have HL := Lh hl
 by_cases hgt : (most : Int) < ((numP xs M40 s).1 : Int)
 ·have HC := Lh (countP_no h (by omega) hgt)
  have hd : decide (most < (numP xs M40 s).1) = true := by simpa using hgt
  clear h hl hgt
  rw [HC.out]
  dsimp only
  generalize hy : numP xs M40 s = y at *
  obtain ⟨m, s1⟩ := y
  clear hy
  dsimp only at C hd ⊢
  go_enter Tryz.func93, Tryz.ntmps93
  go_wp2_with fail
  go_at_call 92; (with_reducible refine C.out.mono ?_); rintro e w1 ⟨rfl, h1, f1⟩
  have H1 := Lh h1
  have F1 := Lh f1
  clear l0 p1
  have l0 : w1.cell? ⟨j, 0, none⟩ = some (.pointer (some ⟨q, 0, none⟩)) := (HL.out.tur f1 hj).cell 0
  clear h1 f1
  go_wp2_with fail
  go_at_call 132; (with_reducible refine (dc_fail H1.out 2 (s.pos : Int)).mono ?_); rintro e w2 ⟨rfl, h2, f2⟩
  have H2 := Lh (And.intro h2 (F1.out.trans f2 (fun k e => .inl e)))
  clear h2 f2
  go_wp2
  go_ret
  exact ⟨rfl, H2.out⟩
 ·have HC := Lh (countP_yes (xs := xs) (s := s) (most := (most : Int)) hgt)
  have hd : decide (most < (numP xs M40 s).1) = false := by simpa using hgt
  clear h hl hgt
  rw [HC.out]
  generalize hy : numP xs M40 s = y at *
  obtain ⟨m, s1⟩ := y
  clear hy
  dsimp only at C hd ⊢
  go_enter Tryz.func93, Tryz.ntmps93
  go_wp2_with fail
  go_at_call 92; (with_reducible refine C.out.mono ?_); rintro e w1 ⟨rfl, h1, f1⟩
  have H1 := Lh (And.intro h1 f1)
  clear h1 f1 l0 p1
  go_wp2
  go_ret
  exact ⟨rfl, H1.out⟩
/-- What head leaves of the Reader. -/
def headP (xs : List Int) (most : Int) (s : RS) : RS := if (numP xs M40 s).2.fault = none ∧ (((numP xs M40 s).1 : Int) < 1 ∨ most < ((numP xs M40 s).1 : Int)) then (numP xs M40 s).2.fail 15 0 else (numP xs M40 s).2
theorem lx_head (h : DocIs W q A n c xs s) (hl : LxB W j q) (hj : j ≠ q) (most : Nat) :
  Calls Tryz.prog 91 #[.pointer (some ⟨j, 0, none⟩), .int .i64 (most : Int)] W (DcQ W q A n c xs (.tuple #[.int .i64 ((numP xs M40 s).1 : Int), .int .i64 ((numP xs M40 (headP xs most s)).1 : Int)]) (numP xs M40 (headP xs most s)).2) := by
 have C := Lh (lx_num h hl)
 have HL := Lh hl
 have HH := Lh (show headP xs most s = if (numP xs M40 s).2.fault = none ∧ (((numP xs M40 s).1 : Int) < 1 ∨ (most : Int) < ((numP xs M40 s).1 : Int)) then (numP xs M40 s).2.fail 15 0 else (numP xs M40 s).2 from rfl)
 clear h hl
 generalize headP xs most s = sh at *
 generalize hy : numP xs M40 s = y at *
 obtain ⟨m, s1⟩ := y
 clear hy
 dsimp only at C HH ⊢
 have fin : ∀ w2, Hid (DocIs w2 q A n c xs sh) → Hid (Tur (· = q) W w2) → Hid (Calls Tryz.prog 92 #[.pointer (some ⟨j, 0, none⟩)] w2 (DcQ w2 q A n c xs (.int .i64 ((numP xs M40 sh).1 : Int)) (numP xs M40 sh).2)) := fun w2 h2 f2 => Lh (lx_num h2.out (HL.out.tur f2.out hj))
 have FIN := Lh fin
 clear fin
 rcases hf : s1.fault with _ | ⟨ec, ep⟩
 ·have he := (DocIs.err_no hf).1
  by_cases hk : (m : Int) < 1
  ·have HS := Lh (show sh = s1.fail 15 0 by rw [HH.out, if_pos ⟨hf, .inl hk⟩])
   have hd : decide ((m : Int) < 1) = true := by simpa using hk
   clear hk hf
   go_enter Tryz.func91, Tryz.ntmps91
   go_wp2_with fail
   go_at_call 92; (with_reducible refine C.out.mono ?_); rintro e w1 ⟨rfl, h1, f1⟩
   have H1 := Lh h1
   have F1 := Lh f1
   have l0 : w1.cell? ⟨j, 0, none⟩ = some (.pointer (some ⟨q, 0, none⟩)) := (HL.out.tur f1 hj).cell 0
   have p2 : w1.cell? ⟨q, 2, none⟩ = some (.int .i64 0) := he ▸ h1.blk.cell 2
   clear h1 f1
   go_wp2_with fail
   go_at_call 132; (with_reducible refine (dc_fail H1.out 15 0).mono ?_); rintro e w2 ⟨rfl, h2, f2⟩
   have H2 := Lh (show DocIs w2 q A n c xs sh by rw [HS.out]; exact h2)
   have F2 := Lh (F1.out.trans f2 (fun k e => .inl e))
   clear h2 f2 l0 p2
   go_wp2_with fail
   go_at_call 92; (with_reducible refine (FIN.out _ H2 F2).out.mono ?_); rintro e w3 ⟨rfl, h3, f3⟩
   have H3 := Lh (And.intro h3 (F2.out.trans f3 (fun k e => .inl e)))
   clear h3 f3
   go_wp2
   go_ret2
   exact ⟨rfl, H3.out⟩
  ·by_cases hk2 : (most : Int) < (m : Int)
   ·have HS := Lh (show sh = s1.fail 15 0 by rw [HH.out, if_pos ⟨hf, .inr hk2⟩])
    have hd : decide ((m : Int) < 1) = false := by simpa using hk
    have hd2 : decide (most < m) = true := by simpa using hk2
    clear hk hf hk2
    go_enter Tryz.func91, Tryz.ntmps91
    go_wp2_with fail
    go_at_call 92; (with_reducible refine C.out.mono ?_); rintro e w1 ⟨rfl, h1, f1⟩
    have H1 := Lh h1
    have F1 := Lh f1
    have l0 : w1.cell? ⟨j, 0, none⟩ = some (.pointer (some ⟨q, 0, none⟩)) := (HL.out.tur f1 hj).cell 0
    have p2 : w1.cell? ⟨q, 2, none⟩ = some (.int .i64 0) := he ▸ h1.blk.cell 2
    clear h1 f1
    go_wp2_with fail
    go_at_call 132; (with_reducible refine (dc_fail H1.out 15 0).mono ?_); rintro e w2 ⟨rfl, h2, f2⟩
    have H2 := Lh (show DocIs w2 q A n c xs sh by rw [HS.out]; exact h2)
    have F2 := Lh (F1.out.trans f2 (fun k e => .inl e))
    clear h2 f2 l0 p2
    go_wp2_with fail
    go_at_call 92; (with_reducible refine (FIN.out _ H2 F2).out.mono ?_); rintro e w3 ⟨rfl, h3, f3⟩
    have H3 := Lh (And.intro h3 (F2.out.trans f3 (fun k e => .inl e)))
    clear h3 f3
    go_wp2
    go_ret2
    exact ⟨rfl, H3.out⟩
   ·have HS := Lh (show sh = s1 by rw [HH.out, if_neg (fun h => h.2.elim hk hk2)])
    have hd : decide ((m : Int) < 1) = false := by simpa using hk
    have hd2 : decide (most < m) = false := by simpa using hk2
    clear hk hf hk2
    go_enter Tryz.func91, Tryz.ntmps91
    go_wp2_with fail
    go_at_call 92; (with_reducible refine C.out.mono ?_); rintro e w1 ⟨rfl, h1, f1⟩
    have H1 := Lh (show DocIs w1 q A n c xs sh by rw [HS.out]; exact h1)
    have F1 := Lh f1
    have l0 : w1.cell? ⟨j, 0, none⟩ = some (.pointer (some ⟨q, 0, none⟩)) := (HL.out.tur f1 hj).cell 0
    have p2 : w1.cell? ⟨q, 2, none⟩ = some (.int .i64 0) := he ▸ h1.blk.cell 2
    clear h1 f1
    go_wp2_with fail
    go_at_call 92; (with_reducible refine (FIN.out _ H1 F1).out.mono ?_); rintro e w3 ⟨rfl, h3, f3⟩
    have H3 := Lh (And.intro h3 (F1.out.trans f3 (fun k e => .inl e)))
    clear h3 f3
    go_wp2
    go_ret2
    exact ⟨rfl, H3.out⟩
 ·have HS := Lh (show sh = s1 by rw [HH.out, if_neg (fun h => by rw [hf] at h; cases h.1)])
  have HF := Lh hf
  clear hf
  go_enter Tryz.func91, Tryz.ntmps91
  go_wp2_with fail
  go_at_call 92; (with_reducible refine C.out.mono ?_); rintro e w1 ⟨rfl, h1, f1⟩
  have hd : (s1.err == 0) = false := h1.err_yes (by rw [HF.out]; rfl)
  have p2 : w1.cell? ⟨q, 2, none⟩ = some (.int .i64 s1.err) := h1.blk.cell 2
  have H1 := Lh (show DocIs w1 q A n c xs sh by rw [HS.out]; exact h1)
  have F1 := Lh f1
  have l0 : w1.cell? ⟨j, 0, none⟩ = some (.pointer (some ⟨q, 0, none⟩)) := (HL.out.tur f1 hj).cell 0
  clear h1 f1
  generalize s1.err = er at hd p2
  go_wp2_with fail
  go_at_call 92; (with_reducible refine (FIN.out _ H1 F1).out.mono ?_); rintro e w3 ⟨rfl, h3, f3⟩
  have H3 := Lh (And.intro h3 (F1.out.trans f3 (fun k e => .inl e)))
  clear h3 f3
  go_wp2
  go_ret2
  exact ⟨rfl, H3.out⟩
end
end Go.Proofs.YtglbdbghcdoicaaGreatDoor
