/- The law's own same: is an error the document's fault? -/
import Derived.Test.YtdgokebablhoiaaDoorWWord
import Derived.Test.YtdgokebablhoiaaDoorWIs
import Derived.Test.YtdgokebablhoiaaDoorWAsk
import Derived.Test.YtdgokebablhoiaaDoorWDc
namespace Go.Proofs.YtdgokebablhoiaaDoor
open Go.RowKit

theorem errMeth : (((Tryd.prog.info? 98).bind fun i => i.methods.find? (·.name == "Error")).map fun m => (m.path, m.func)) = some (#[{ deref := true, struct := 102, index := 0 }], some (44, false)) := by kernel_rfl
set_option maxRecDepth 100000 in
theorem mErr (g : Nat) (e p : Int) (w : World) (h : Blk w g 102 #[.int .i64 e, .int .i64 p]) : (Go.method 265 98 (.pointer (some ⟨g, 0, none⟩)) "Error").run Tryd.prog w = .ok (44, .int .i64 e) w := by
  have hc : w.cell? ⟨g, 0, none⟩ = some (.int .i64 e) := h.cell 0
  obtain ⟨m, h1, h2⟩ := Option.map_eq_some_iff.1 errMeth
  obtain ⟨i, hi, hm⟩ := Option.bind_eq_some_iff.1 h1
  obtain ⟨h3, h4⟩ := Prod.mk.inj h2
  have hu := Tryd.underlying102
  have hu2 := Tryd.underlying35
  have hl : (loadVar 35 ⟨g, 0, none⟩).run Tryd.prog w = .ok (.int .i64 e) w := by go_simp
  have hl2 : (loadVar 35 ((⟨g, 0, none⟩ : Addr).add 0)).run Tryd.prog w = .ok (.int .i64 e) w := by rw [show (⟨g, 0, none⟩ : Addr).add 0 = ⟨g, 0, none⟩ by simp [Addr.add]]; exact hl
  show (Go.method ((265 - 1) + 1) 98 (.pointer (some ⟨g, 0, none⟩)) "Error").run Tryd.prog w = _
  unfold Go.method
  simp [typeInfo, hi, hm, h3, h4, follow, run_underlying hu, Place.get, asAddr, fieldPlace, receiverAt, run_underlying hu2, hl2]

theorem anyH_mono {P : Program} {ops : Array Oper} {md : Region.Mode} {Q : Exit → Act → World → Prop} {S S' : World → Prop} (h : ∀ w, S' w → S w) : ∀ (fuel : Nat) (listed : Array Bool) (a : Act) (w : World), wpAnyH P md ops Q S' fuel listed a w → wpAnyH P md ops Q S fuel listed a w
  | 0, _, _, _, hh => hh
  | fuel + 1, _, _, _, hh => ⟨hh.1, fun i hi => wpOp_mono (fun a' w' h' => ⟨h _ h'.1, anyH_mono h fuel _ a' w' h'.2⟩) (hh.2 i hi)⟩
set_option maxRecDepth 100000 in
theorem same_no (r : Nat) (v : Value) (at_ : Int) (W : World) (h : Blk W r 111 (DcC v at_ 0 0)) :
    Calls Tryd.prog 55 #[.nilIface, .pointer (some ⟨r, 0, none⟩)] W fun ev w' => ev = .returned (.bool true) ∧ Below W.heap.size W w' := by
  have p2 : W.cell? ⟨r, 2, none⟩ = some (.int .i64 0) := h.cell 2
  clear h
  go_enter Tryd.func55, Tryd.ntmps55
  go_wp2
  go_ret
  exact ⟨rfl, Below.refl _ _⟩

set_option maxHeartbeats 8000000 in
set_option maxRecDepth 100000 in
theorem same_yes (r g : Nat) (v : Value) (at_ e p : Int) (W : World) (hT : W.cell? ⟨0, 0, none⟩ = some tyErr) (he : (e == 0) = false) (hr : Blk W r 111 (DcC v at_ e p)) (hg : Blk W g 102 #[.int .i64 e, .int .i64 p]) :
    Calls Tryd.prog 55 #[errV g, .pointer (some ⟨r, 0, none⟩)] W fun ev w' => ev = .returned (.bool true) ∧ Below W.heap.size W w' := by
  have HR := Lib.hid hr
  have HG := Lib.hid hg
  have HT := Lib.hid (fun (W9 : World) (h : Below W.heap.size W W9) => (h.cell (p := ⟨0, 0, none⟩) (World.block_lt_of_cell? W _ hT)).trans hT)
  obtain ⟨e1, he1⟩ : ∃ e1, e1 = IntKind.i64.wrap (e + 1) := ⟨_, rfl⟩
  have HN := Lib.hid (show (e == e1) = false by
    have h : e ≠ e1 := by rw [he1, IntKind.wrap_i64]; omega
    simpa using h)
  have hw1 := he1.symm
  have p2 : W.cell? ⟨r, 2, none⟩ = some (.int .i64 e) := hr.cell 2
  clear hT hr hg he1
  go_enter Tryd.func55, Tryd.ntmps55
  go_wp2
  have K0 := Lib.hid (fun (W9 : World) (h : Below W.heap.size W W9) => And.intro ((HR.out.kept h).cell 2) (And.intro ((HR.out.kept h).cell 3) (And.intro ((HG.out.kept h).cell 0) ((HG.out.kept h).cell 1))))
  have x0 : (W.alloc (.cells #[.pointer none] 98)).drew.cell? ⟨W.heap.size, 0, none⟩ = some (.pointer none) := (Blk.new W 98 #[.pointer none]).drew.cell 0
  have BA := Lib.hid (((Below.refl W.heap.size W).alloc (Nat.le_refl _) (.cells #[.pointer none] 98)).drew)
  (refine wp_region_held_drew (S := fun W9 => W9.cell? ⟨r, 2, none⟩ = some (.int .i64 e) ∧ W9.cell? ⟨r, 3, none⟩ = some (.int .i64 p) ∧ W9.cell? ⟨g, 0, none⟩ = some (.int .i64 e) ∧ W9.cell? ⟨g, 1, none⟩ = some (.int .i64 p)) (by kernel_rfl) (K0.out _ BA.out) (fun hHeld => ?_))
  (refine take_q (i := 0) (d := 13) (v := ?v101) rfl rfl (by kernel_rfl) (by kernel_rfl) (by kernel_rfl) (fun _ _ _ h => h) (by kernel_rfl) ?hy101 (by assumption) ?rest101)
  case hy101 => (intro w9 hSw; obtain ⟨s0, s1, s2, s3⟩ := hSw; first | (go_simp; done) | (go_simp; with_reducible rfl))
  (try simp only [Act.put, List.setIfInBounds_toArray, List.set_cons_zero, List.set_cons_succ])
  (refine take_q (i := 1) (d := 14) (v := ?v102) rfl rfl (by kernel_rfl) (by kernel_rfl) (by kernel_rfl) (fun _ _ _ h => h) (by kernel_rfl) ?hy102 (by assumption) ?rest102)
  case hy102 => (intro w9 hSw; obtain ⟨s0, s1, s2, s3⟩ := hSw; first | (go_simp; done) | (go_simp; with_reducible rfl))
  (try simp only [Act.put, List.setIfInBounds_toArray, List.set_cons_zero, List.set_cons_succ])
  (refine wpAnyH_ready (rs := [2]) (by kernel_rfl) (by simp) ?_)
  (refine AllReadyH.cons (o := _) rfl (fun K hK => ?_) AllReadyH.nil)
  go_simp
  go_at_call 64; (with_reducible refine (as_err g W.heap.size (.pointer none) _ (HT.out _ BA.out) x0 ((Blk.new W 98 #[.pointer none]).drew.frozen 0)).mono ?_); rintro ev w1 ⟨W2, rfl, hw, hb⟩
  have B1 := Lib.hid (show Below W.heap.size W w1 from hw ▸ (BA.out.trans (hb.mono BA.out.size)).setCell (p := ⟨W.heap.size, 0, none⟩) (Nat.le_refl _) _)
  have t0 : w1.cell? ⟨W.heap.size, 0, none⟩ = some (.pointer (some ⟨g, 0, none⟩)) := by
    have := ((Blk.new W 98 #[.pointer none]).drew.kept hb).set_ 0 (.pointer (some ⟨g, 0, none⟩))
    rw [hw]
    exact this.cell 0
  clear hw hb
  go_wp2_with fail
  (refine hK.out _ _ (K0.out _ B1.out) (fun hHeld => ?_))
  clear hK K
  (try simp only [Act.put, List.setIfInBounds_toArray, List.set_cons_zero, List.set_cons_succ])
  (refine anyH_mono (S' := fun W9 => ((fun W9 => W9.cell? ⟨r, 2, none⟩ = some (.int .i64 e) ∧ W9.cell? ⟨r, 3, none⟩ = some (.int .i64 p) ∧ W9.cell? ⟨g, 0, none⟩ = some (.int .i64 e) ∧ W9.cell? ⟨g, 1, none⟩ = some (.int .i64 p)) W9) ∧ W9.cell? ⟨W.heap.size, 0, none⟩ = some (.pointer (some ⟨g, 0, none⟩))) (fun _ h => h.1) _ _ _ _ ?_)
  have hHeld := And.intro (K0.out _ B1.out) t0
  (refine take_q (i := 3) (d := 16) (v := ?v103) rfl rfl (by kernel_rfl) (by kernel_rfl) (by kernel_rfl) (fun _ _ _ h => h) (by kernel_rfl) ?hy103 (by assumption) ?rest103)
  case hy103 => (intro w9 hSw; obtain ⟨⟨s0, s1, s2, s3⟩, s4⟩ := hSw; first | (go_simp; done) | (go_simp; with_reducible rfl))
  (try simp only [Act.put, List.setIfInBounds_toArray, List.set_cons_zero, List.set_cons_succ])
  (refine take_q (i := 4) (d := 17) (v := ?v104) rfl rfl (by kernel_rfl) (by kernel_rfl) (by kernel_rfl) (fun _ _ _ h => h) (by kernel_rfl) ?hy104 (by assumption) ?rest104)
  case hy104 => (intro w9 hSw; obtain ⟨⟨s0, s1, s2, s3⟩, s4⟩ := hSw; first | (go_simp; done) | (go_simp; with_reducible rfl))
  (try simp only [Act.put, List.setIfInBounds_toArray, List.set_cons_zero, List.set_cons_succ])
  (refine take_q (i := 5) (d := 18) (v := ?v105) rfl rfl (by kernel_rfl) (by kernel_rfl) (by kernel_rfl) (fun _ _ _ h => h) (by kernel_rfl) ?hy105 (by assumption) ?rest105)
  case hy105 => (intro w9 hSw; obtain ⟨⟨s0, s1, s2, s3⟩, s4⟩ := hSw; first | (go_simp; done) | (go_simp; with_reducible rfl))
  (try simp only [Act.put, List.setIfInBounds_toArray, List.set_cons_zero, List.set_cons_succ])
  (refine take_q (i := 6) (d := 19) (v := ?v106) rfl rfl (by kernel_rfl) (by kernel_rfl) (by kernel_rfl) (fun _ _ _ h => h) (by kernel_rfl) ?hy106 (by assumption) ?rest106)
  case hy106 => (intro w9 hSw; obtain ⟨⟨s0, s1, s2, s3⟩, s4⟩ := hSw; first | (go_simp; done) | (go_simp; with_reducible rfl))
  (try simp only [Act.put, List.setIfInBounds_toArray, List.set_cons_zero, List.set_cons_succ])
  (refine take_q (i := 7) (d := 20) (v := ?v107) rfl rfl (by kernel_rfl) (by kernel_rfl) (by kernel_rfl) (fun _ _ _ h => h) (by kernel_rfl) ?hy107 (by assumption) ?rest107)
  case hy107 => (intro w9 hSw; obtain ⟨⟨s0, s1, s2, s3⟩, s4⟩ := hSw; first | (go_simp; done) | (go_simp; with_reducible rfl))
  (try simp only [Act.put, List.setIfInBounds_toArray, List.set_cons_zero, List.set_cons_succ])
  (refine take_q (i := 8) (d := 21) (v := ?v108) rfl rfl (by kernel_rfl) (by kernel_rfl) (by kernel_rfl) (fun _ _ _ h => h) (by kernel_rfl) ?hy108 (by assumption) ?rest108)
  case hy108 => (intro w9 hSw; obtain ⟨⟨s0, s1, s2, s3⟩, s4⟩ := hSw; first | (go_simp; done) | (go_simp; with_reducible rfl))
  (try simp only [Act.put, List.setIfInBounds_toArray, List.set_cons_zero, List.set_cons_succ])
  (refine take_q (i := 9) (d := 22) (v := ?v109) rfl rfl (by kernel_rfl) (by kernel_rfl) (by kernel_rfl) (fun _ _ _ h => h) (by kernel_rfl) ?hy109 (by assumption) ?rest109)
  case hy109 => (intro w9 hSw; obtain ⟨⟨s0, s1, s2, s3⟩, s4⟩ := hSw; first | (go_simp; done) | (go_simp; with_reducible rfl))
  (try simp only [Act.put, List.setIfInBounds_toArray, List.set_cons_zero, List.set_cons_succ])
  (refine take_q (i := 10) (d := 23) (v := ?v110) rfl rfl (by kernel_rfl) (by kernel_rfl) (by kernel_rfl) (fun _ _ _ h => h) (by kernel_rfl) ?hy110 (by assumption) ?rest110)
  case hy110 => (intro w9 hSw; obtain ⟨⟨s0, s1, s2, s3⟩, s4⟩ := hSw; first | (go_simp; done) | (go_simp; with_reducible rfl))
  (try simp only [Act.put, List.setIfInBounds_toArray, List.set_cons_zero, List.set_cons_succ])
  (refine take_q (i := 11) (d := 24) (v := ?v111) rfl rfl (by kernel_rfl) (by kernel_rfl) (by kernel_rfl) (fun _ _ _ h => h) (by kernel_rfl) ?hy111 (by assumption) ?rest111)
  case hy111 => (intro w9 hSw; obtain ⟨⟨s0, s1, s2, s3⟩, s4⟩ := hSw; first | (go_simp; done) | (go_simp; with_reducible rfl))
  (try simp only [Act.put, List.setIfInBounds_toArray, List.set_cons_zero, List.set_cons_succ])
  (refine take_q (i := 12) (d := 25) (v := ?v112) rfl rfl (by kernel_rfl) (by kernel_rfl) (by kernel_rfl) (fun _ _ _ h => h) (by kernel_rfl) ?hy112 (by assumption) ?rest112)
  case hy112 => (intro w9 hSw; obtain ⟨⟨s0, s1, s2, s3⟩, s4⟩ := hSw; first | (go_simp; done) | (go_simp; with_reducible rfl))
  (try simp only [Act.put, List.setIfInBounds_toArray, List.set_cons_zero, List.set_cons_succ])
  (refine take_q (i := 13) (d := 26) (v := ?v113) rfl rfl (by kernel_rfl) (by kernel_rfl) (by kernel_rfl) (fun _ _ _ h => h) (by kernel_rfl) ?hy113 (by assumption) ?rest113)
  case hy113 => (intro w9 hSw; obtain ⟨⟨s0, s1, s2, s3⟩, s4⟩ := hSw; first | (go_simp; done) | (go_simp; with_reducible rfl))
  (try simp only [Act.put, List.setIfInBounds_toArray, List.set_cons_zero, List.set_cons_succ])
  (refine take_q (i := 14) (d := 27) (v := ?v114) rfl rfl (by kernel_rfl) (by kernel_rfl) (by kernel_rfl) (fun _ _ _ h => h) (by kernel_rfl) ?hy114 (by assumption) ?rest114)
  case hy114 => (intro w9 hSw; obtain ⟨⟨s0, s1, s2, s3⟩, s4⟩ := hSw; first | (go_simp; done) | (go_simp; with_reducible rfl))
  (try simp only [Act.put, List.setIfInBounds_toArray, List.set_cons_zero, List.set_cons_succ])
  (refine take_q (i := 15) (d := 28) (v := ?v115) rfl rfl (by kernel_rfl) (by kernel_rfl) (by kernel_rfl) (fun _ _ _ h => h) (by kernel_rfl) ?hy115 (by assumption) ?rest115)
  case hy115 => (intro w9 hSw; obtain ⟨⟨s0, s1, s2, s3⟩, s4⟩ := hSw; first | (go_simp; done) | (go_simp; with_reducible rfl))
  (try simp only [Act.put, List.setIfInBounds_toArray, List.set_cons_zero, List.set_cons_succ])
  (refine take_q (i := 16) (d := 29) (v := ?v116) rfl rfl (by kernel_rfl) (by kernel_rfl) (by kernel_rfl) (fun _ _ _ h => h) (by kernel_rfl) ?hy116 (by assumption) ?rest116)
  case hy116 => (intro w9 hSw; obtain ⟨⟨s0, s1, s2, s3⟩, s4⟩ := hSw; first | (go_simp; done) | (go_simp; with_reducible rfl))
  (try simp only [Act.put, List.setIfInBounds_toArray, List.set_cons_zero, List.set_cons_succ])
  (refine take_q (i := 17) (d := 30) (v := ?v117) rfl rfl (by kernel_rfl) (by kernel_rfl) (by kernel_rfl) (fun _ _ _ h => h) (by kernel_rfl) ?hy117 (by assumption) ?rest117)
  case hy117 => (intro w9 hSw; obtain ⟨⟨s0, s1, s2, s3⟩, s4⟩ := hSw; first | (go_simp; done) | (go_simp; with_reducible rfl))
  (try simp only [Act.put, List.setIfInBounds_toArray, List.set_cons_zero, List.set_cons_succ])
  (refine take_q (i := 18) (d := 31) (v := ?v118) rfl rfl (by kernel_rfl) (by kernel_rfl) (by kernel_rfl) (fun _ _ _ h => h) (by kernel_rfl) ?hy118 (by assumption) ?rest118)
  case hy118 => (intro w9 hSw; obtain ⟨⟨s0, s1, s2, s3⟩, s4⟩ := hSw; first | (go_simp; done) | (go_simp; with_reducible rfl))
  (try simp only [Act.put, List.setIfInBounds_toArray, List.set_cons_zero, List.set_cons_succ])
  (refine take_q (i := 19) (d := 32) (v := ?v119) rfl rfl (by kernel_rfl) (by kernel_rfl) (by kernel_rfl) (fun _ _ _ h => h) (by kernel_rfl) ?hy119 (by assumption) ?rest119)
  case hy119 => (intro w9 hSw; obtain ⟨⟨s0, s1, s2, s3⟩, s4⟩ := hSw; first | (go_simp; done) | (go_simp; with_reducible rfl))
  (try simp only [Act.put, List.setIfInBounds_toArray, List.set_cons_zero, List.set_cons_succ])
  (refine take_q (i := 20) (d := 33) (v := ?v120) rfl rfl (by kernel_rfl) (by kernel_rfl) (by kernel_rfl) (fun _ _ _ h => h) (by kernel_rfl) ?hy120 (by assumption) ?rest120)
  case hy120 => (intro w9 hSw; obtain ⟨⟨s0, s1, s2, s3⟩, s4⟩ := hSw; first | (go_simp; done) | (go_simp; with_reducible rfl))
  (try simp only [Act.put, List.setIfInBounds_toArray, List.set_cons_zero, List.set_cons_succ])
  (refine take_q (i := 21) (d := 34) (v := ?v121) rfl rfl (by kernel_rfl) (by kernel_rfl) (by kernel_rfl) (fun _ _ _ h => h) (by kernel_rfl) ?hy121 (by assumption) ?rest121)
  case hy121 => (intro w9 hSw; obtain ⟨⟨s0, s1, s2, s3⟩, s4⟩ := hSw; first | (go_simp; done) | (go_simp; with_reducible rfl))
  (try simp only [Act.put, List.setIfInBounds_toArray, List.set_cons_zero, List.set_cons_succ])
  (refine take_q (i := 22) (d := 35) (v := ?v122) rfl rfl (by kernel_rfl) (by kernel_rfl) (by kernel_rfl) (fun _ _ _ h => h) (by kernel_rfl) ?hy122 (by assumption) ?rest122)
  case hy122 => (intro w9 hSw; obtain ⟨⟨s0, s1, s2, s3⟩, s4⟩ := hSw; first | (go_simp; done) | (go_simp; with_reducible rfl))
  (try simp only [Act.put, List.setIfInBounds_toArray, List.set_cons_zero, List.set_cons_succ])
  (refine take_q (i := 23) (d := 36) (v := ?v123) rfl rfl (by kernel_rfl) (by kernel_rfl) (by kernel_rfl) (fun _ _ _ h => h) (by kernel_rfl) ?hy123 (by assumption) ?rest123)
  case hy123 => (intro w9 hSw; obtain ⟨⟨s0, s1, s2, s3⟩, s4⟩ := hSw; first | (go_simp; done) | (go_simp; with_reducible rfl))
  (try simp only [Act.put, List.setIfInBounds_toArray, List.set_cons_zero, List.set_cons_succ])
  (refine take_q (i := 24) (d := 37) (v := ?v124) rfl rfl (by kernel_rfl) (by kernel_rfl) (by kernel_rfl) (fun _ _ _ h => h) (by kernel_rfl) ?hy124 (by assumption) ?rest124)
  case hy124 => (intro w9 hSw; obtain ⟨⟨s0, s1, s2, s3⟩, s4⟩ := hSw; first | (go_simp; done) | (go_simp; with_reducible rfl))
  (try simp only [Act.put, List.setIfInBounds_toArray, List.set_cons_zero, List.set_cons_succ])
  (refine take_q (i := 25) (d := 38) (v := ?v125) rfl rfl (by kernel_rfl) (by kernel_rfl) (by kernel_rfl) (fun _ _ _ h => h) (by kernel_rfl) ?hy125 (by assumption) ?rest125)
  case hy125 => (intro w9 hSw; obtain ⟨⟨s0, s1, s2, s3⟩, s4⟩ := hSw; first | (go_simp; done) | (go_simp; with_reducible rfl))
  (try simp only [Act.put, List.setIfInBounds_toArray, List.set_cons_zero, List.set_cons_succ])
  (refine take_q (i := 26) (d := 39) (v := ?v126) rfl rfl (by kernel_rfl) (by kernel_rfl) (by kernel_rfl) (fun _ _ _ h => h) (by kernel_rfl) ?hy126 (by assumption) ?rest126)
  case hy126 => (intro w9 hSw; obtain ⟨⟨s0, s1, s2, s3⟩, s4⟩ := hSw; first | (go_simp; done) | (go_simp; with_reducible rfl))
  (try simp only [Act.put, List.setIfInBounds_toArray, List.set_cons_zero, List.set_cons_succ])
  (refine take_q (i := 27) (d := 40) (v := ?v127) rfl rfl (by kernel_rfl) (by kernel_rfl) (by kernel_rfl) (fun _ _ _ h => h) (by kernel_rfl) ?hy127 (by assumption) ?rest127)
  case hy127 => (intro w9 hSw; obtain ⟨⟨s0, s1, s2, s3⟩, s4⟩ := hSw; first | (go_simp; done) | (go_simp; with_reducible rfl))
  (try simp only [Act.put, List.setIfInBounds_toArray, List.set_cons_zero, List.set_cons_succ])
  (refine take_q (i := 28) (d := 41) (v := ?v128) rfl rfl (by kernel_rfl) (by kernel_rfl) (by kernel_rfl) (fun _ _ _ h => h) (by kernel_rfl) ?hy128 (by assumption) ?rest128)
  case hy128 => (intro w9 hSw; obtain ⟨⟨s0, s1, s2, s3⟩, s4⟩ := hSw; first | (go_simp; done) | (go_simp; with_reducible rfl))
  (try simp only [Act.put, List.setIfInBounds_toArray, List.set_cons_zero, List.set_cons_succ])
  (refine take_q (i := 29) (d := 42) (v := ?v129) rfl rfl (by kernel_rfl) (by kernel_rfl) (by kernel_rfl) (fun _ _ _ h => h) (by kernel_rfl) ?hy129 (by assumption) ?rest129)
  case hy129 => (intro w9 hSw; obtain ⟨⟨s0, s1, s2, s3⟩, s4⟩ := hSw; first | (go_simp; done) | (go_simp; with_reducible rfl))
  (try simp only [Act.put, List.setIfInBounds_toArray, List.set_cons_zero, List.set_cons_succ])
  (refine take_q (i := 30) (d := 43) (v := ?v130) rfl rfl (by kernel_rfl) (by kernel_rfl) (by kernel_rfl) (fun _ _ _ h => h) (by kernel_rfl) ?hy130 (by assumption) ?rest130)
  case hy130 => (intro w9 hSw; obtain ⟨⟨s0, s1, s2, s3⟩, s4⟩ := hSw; first | (go_simp; done) | (go_simp; with_reducible rfl))
  (try simp only [Act.put, List.setIfInBounds_toArray, List.set_cons_zero, List.set_cons_succ])
  (refine take_q (i := 31) (d := 44) (v := ?v131) rfl rfl (by kernel_rfl) (by kernel_rfl) (by kernel_rfl) (fun _ _ _ h => h) (by kernel_rfl) ?hy131 (by assumption) ?rest131)
  case hy131 => (intro w9 hSw; obtain ⟨⟨s0, s1, s2, s3⟩, s4⟩ := hSw; first | (go_simp; done) | (go_simp; with_reducible rfl))
  (try simp only [Act.put, List.setIfInBounds_toArray, List.set_cons_zero, List.set_cons_succ])
  (refine take_q (i := 32) (d := 45) (v := ?v132) rfl rfl (by kernel_rfl) (by kernel_rfl) (by kernel_rfl) (fun _ _ _ h => h) (by kernel_rfl) ?hy132 (by assumption) ?rest132)
  case hy132 => (intro w9 hSw; obtain ⟨⟨s0, s1, s2, s3⟩, s4⟩ := hSw; first | (go_simp; done) | (go_simp; with_reducible rfl))
  (try simp only [Act.put, List.setIfInBounds_toArray, List.set_cons_zero, List.set_cons_succ])
  (refine take_q (i := 33) (d := 46) (v := ?v133) rfl rfl (by kernel_rfl) (by kernel_rfl) (by kernel_rfl) (fun _ _ _ h => h) (by kernel_rfl) ?hy133 (by assumption) ?rest133)
  case hy133 => (intro w9 hSw; obtain ⟨⟨s0, s1, s2, s3⟩, s4⟩ := hSw; first | (go_simp; done) | (go_simp; with_reducible rfl))
  (try simp only [Act.put, List.setIfInBounds_toArray, List.set_cons_zero, List.set_cons_succ])
  (refine take_q (i := 34) (d := 47) (v := ?v134) rfl rfl (by kernel_rfl) (by kernel_rfl) (by kernel_rfl) (fun _ _ _ h => h) (by kernel_rfl) ?hy134 (by assumption) ?rest134)
  case hy134 => (intro w9 hSw; obtain ⟨⟨s0, s1, s2, s3⟩, s4⟩ := hSw; first | (go_simp; done) | (go_simp; with_reducible rfl))
  (try simp only [Act.put, List.setIfInBounds_toArray, List.set_cons_zero, List.set_cons_succ])
  (refine take_q (i := 35) (d := 48) (v := ?v135) rfl rfl (by kernel_rfl) (by kernel_rfl) (by kernel_rfl) (fun _ _ _ h => h) (by kernel_rfl) ?hy135 (by assumption) ?rest135)
  case hy135 => (intro w9 hSw; obtain ⟨⟨s0, s1, s2, s3⟩, s4⟩ := hSw; first | (go_simp; done) | (go_simp; with_reducible rfl))
  (try simp only [Act.put, List.setIfInBounds_toArray, List.set_cons_zero, List.set_cons_succ])
  (refine wpAnyH_ready (rs := [36]) (by kernel_rfl) (by simp) ?_)
  (refine AllReadyH.cons (o := _) rfl (fun K hK => ?_) AllReadyH.nil)
  go_simp
  go_at_call 34; (with_reducible refine (show Calls Tryd.prog 34 #[errV g, .iface 35 (.int .i64 e)] w1 fun ev w' => ev = .returned (.bool true) ∧ w1 = w' from by have := is_err g e p e w1 (HG.out.kept B1.out); simpa using this).mono ?_); rintro ev w2 ⟨rfl, rfl⟩
  go_wp2_with fail
  (refine hK.out _ _ hHeld (fun hHeld => ?_))
  clear hK K
  (try simp only [Act.put, List.setIfInBounds_toArray, List.set_cons_zero, List.set_cons_succ])
  (refine take_q (i := 37) (d := 50) (v := ?v136) rfl rfl (by kernel_rfl) (by kernel_rfl) (by kernel_rfl) (fun _ _ _ h => h) (by kernel_rfl) ?hy136 (by assumption) ?rest136)
  case hy136 => (intro w9 hSw; obtain ⟨⟨s0, s1, s2, s3⟩, s4⟩ := hSw; first | (go_simp; done) | (go_simp; with_reducible rfl))
  (try simp only [Act.put, List.setIfInBounds_toArray, List.set_cons_zero, List.set_cons_succ])
  (refine take_q (i := 38) (d := 51) (v := ?v137) rfl rfl (by kernel_rfl) (by kernel_rfl) (by kernel_rfl) (fun _ _ _ h => h) (by kernel_rfl) ?hy137 (by assumption) ?rest137)
  case hy137 => (intro w9 hSw; obtain ⟨⟨s0, s1, s2, s3⟩, s4⟩ := hSw; first | (go_simp; done) | (go_simp; with_reducible rfl))
  (try simp only [Act.put, List.setIfInBounds_toArray, List.set_cons_zero, List.set_cons_succ])
  (refine take_q (i := 39) (d := 52) (v := ?v138) rfl rfl (by kernel_rfl) (by kernel_rfl) (by kernel_rfl) (fun _ _ _ h => h) (by kernel_rfl) ?hy138 (by assumption) ?rest138)
  case hy138 => (intro w9 hSw; obtain ⟨⟨s0, s1, s2, s3⟩, s4⟩ := hSw; first | (go_simp; done) | (go_simp; with_reducible rfl))
  (try simp only [Act.put, List.setIfInBounds_toArray, List.set_cons_zero, List.set_cons_succ])
  (refine take_q (i := 40) (d := 53) (v := ?v139) rfl rfl (by kernel_rfl) (by kernel_rfl) (by kernel_rfl) (fun _ _ _ h => h) (by kernel_rfl) ?hy139 (by assumption) ?rest139)
  case hy139 => (intro w9 hSw; obtain ⟨⟨s0, s1, s2, s3⟩, s4⟩ := hSw; first | (go_simp; done) | (go_simp; with_reducible rfl))
  (try simp only [Act.put, List.setIfInBounds_toArray, List.set_cons_zero, List.set_cons_succ])
  (refine take_q (i := 41) (d := 54) (v := ?v140) rfl rfl (by kernel_rfl) (by kernel_rfl) (by kernel_rfl) (fun _ _ _ h => h) (by kernel_rfl) ?hy140 (by assumption) ?rest140)
  case hy140 => (intro w9 hSw; obtain ⟨⟨s0, s1, s2, s3⟩, s4⟩ := hSw; first | (go_simp; done) | (go_simp; with_reducible rfl))
  (try simp only [Act.put, List.setIfInBounds_toArray, List.set_cons_zero, List.set_cons_succ])
  (refine take_q (i := 42) (d := 55) (v := ?v141) rfl rfl (by kernel_rfl) (by kernel_rfl) (by kernel_rfl) (fun _ _ _ h => h) (by kernel_rfl) ?hy141 (by assumption) ?rest141)
  case hy141 => (intro w9 hSw; obtain ⟨⟨s0, s1, s2, s3⟩, s4⟩ := hSw; first | (go_simp; done) | (go_simp; with_reducible rfl))
  (try simp only [Act.put, List.setIfInBounds_toArray, List.set_cons_zero, List.set_cons_succ])
  (refine take_q (i := 43) (d := 56) (v := ?v142) rfl rfl (by kernel_rfl) (by kernel_rfl) (by kernel_rfl) (fun _ _ _ h => h) (by kernel_rfl) ?hy142 (by assumption) ?rest142)
  case hy142 => (intro w9 hSw; obtain ⟨⟨s0, s1, s2, s3⟩, s4⟩ := hSw; first | (go_simp; done) | (go_simp; with_reducible rfl))
  (try simp only [Act.put, List.setIfInBounds_toArray, List.set_cons_zero, List.set_cons_succ])
  (refine take_q (i := 44) (d := 57) (v := ?v143) rfl rfl (by kernel_rfl) (by kernel_rfl) (by kernel_rfl) (fun _ _ _ h => h) (by kernel_rfl) ?hy143 (by assumption) ?rest143)
  case hy143 => (intro w9 hSw; obtain ⟨⟨s0, s1, s2, s3⟩, s4⟩ := hSw; first | (go_simp; done) | (go_simp; with_reducible rfl))
  (try simp only [Act.put, List.setIfInBounds_toArray, List.set_cons_zero, List.set_cons_succ])
  (refine take_q (i := 45) (d := 58) (v := ?v144) rfl rfl (by kernel_rfl) (by kernel_rfl) (by kernel_rfl) (fun _ _ _ h => h) (by kernel_rfl) ?hy144 (by assumption) ?rest144)
  case hy144 => (intro w9 hSw; obtain ⟨⟨s0, s1, s2, s3⟩, s4⟩ := hSw; first | (go_simp; done) | (go_simp; with_reducible rfl))
  (try simp only [Act.put, List.setIfInBounds_toArray, List.set_cons_zero, List.set_cons_succ])
  (refine wpAnyH_ready (rs := [46]) (by kernel_rfl) (by simp) ?_)
  (refine AllReadyH.cons (o := _) rfl (fun K hK => ?_) AllReadyH.nil)
  go_simp
  go_at_call 34; (with_reducible refine (show Calls Tryd.prog 34 #[errV g, .iface 35 (.int .i64 e1)] w1 fun ev w' => ev = .returned (.bool false) ∧ w1 = w' from HN.out ▸ is_err g e p e1 w1 (HG.out.kept B1.out)).mono ?_); rintro ev w2 ⟨rfl, rfl⟩
  go_wp2_with fail
  (refine hK.out _ _ hHeld (fun hHeld => ?_))
  clear hK K
  (try simp only [Act.put, List.setIfInBounds_toArray, List.set_cons_zero, List.set_cons_succ])
  (refine take_q (i := 47) (d := 60) (v := ?v145) rfl rfl (by kernel_rfl) (by kernel_rfl) (by kernel_rfl) (fun _ _ _ h => h) (by kernel_rfl) ?hy145 (by assumption) ?rest145)
  case hy145 => (intro w9 hSw; obtain ⟨⟨s0, s1, s2, s3⟩, s4⟩ := hSw; first | (go_simp; done) | (go_simp; with_reducible rfl))
  (try simp only [Act.put, List.setIfInBounds_toArray, List.set_cons_zero, List.set_cons_succ])
  (refine take_q (i := 48) (d := 61) (v := ?v146) rfl rfl (by kernel_rfl) (by kernel_rfl) (by kernel_rfl) (fun _ _ _ h => h) (by kernel_rfl) ?hy146 (by assumption) ?rest146)
  case hy146 => (intro w9 hSw; obtain ⟨⟨s0, s1, s2, s3⟩, s4⟩ := hSw; first | (go_simp; done) | (go_simp; with_reducible rfl))
  (try simp only [Act.put, List.setIfInBounds_toArray, List.set_cons_zero, List.set_cons_succ])
  (refine take_q (i := 49) (d := 62) (v := ?v147) rfl rfl (by kernel_rfl) (by kernel_rfl) (by kernel_rfl) (fun _ _ _ h => h) (by kernel_rfl) ?hy147 (by assumption) ?rest147)
  case hy147 => (intro w9 hSw; obtain ⟨⟨s0, s1, s2, s3⟩, s4⟩ := hSw; first | (go_simp; done) | (go_simp; with_reducible rfl))
  (try simp only [Act.put, List.setIfInBounds_toArray, List.set_cons_zero, List.set_cons_succ])
  (refine take_q (i := 50) (d := 63) (v := ?v148) rfl rfl (by kernel_rfl) (by kernel_rfl) (by kernel_rfl) (fun _ _ _ h => h) (by kernel_rfl) ?hy148 (by assumption) ?rest148)
  case hy148 => (intro w9 hSw; obtain ⟨⟨s0, s1, s2, s3⟩, s4⟩ := hSw; first | (go_simp; done) | (go_simp; with_reducible rfl))
  (try simp only [Act.put, List.setIfInBounds_toArray, List.set_cons_zero, List.set_cons_succ])
  (refine take_q (i := 52) (d := 65) (v := ?v149) rfl rfl (by kernel_rfl) (by kernel_rfl) (by kernel_rfl) (fun _ _ _ h => h) (by kernel_rfl) ?hy149 (by assumption) ?rest149)
  case hy149 => (intro w9 hSw; obtain ⟨⟨s0, s1, s2, s3⟩, s4⟩ := hSw; first | (go_simp; done) | (go_simp; with_reducible rfl))
  (try simp only [Act.put, List.setIfInBounds_toArray, List.set_cons_zero, List.set_cons_succ])
  (refine take_q (i := 53) (d := 66) (v := ?v150) rfl rfl (by kernel_rfl) (by kernel_rfl) (by kernel_rfl) (fun _ _ _ h => h) (by kernel_rfl) ?hy150 (by assumption) ?rest150)
  case hy150 => (intro w9 hSw; obtain ⟨⟨s0, s1, s2, s3⟩, s4⟩ := hSw; first | (go_simp; done) | (go_simp; with_reducible rfl))
  (try simp only [Act.put, List.setIfInBounds_toArray, List.set_cons_zero, List.set_cons_succ])
  (refine take_q (i := 54) (d := 67) (v := ?v151) rfl rfl (by kernel_rfl) (by kernel_rfl) (by kernel_rfl) (fun _ _ _ h => h) (by kernel_rfl) ?hy151 (by assumption) ?rest151)
  case hy151 => (intro w9 hSw; obtain ⟨⟨s0, s1, s2, s3⟩, s4⟩ := hSw; first | (go_simp; done) | (go_simp; with_reducible rfl))
  (try simp only [Act.put, List.setIfInBounds_toArray, List.set_cons_zero, List.set_cons_succ])
  (refine take_q (i := 55) (d := 68) (v := ?v152) rfl rfl (by kernel_rfl) (by kernel_rfl) (by kernel_rfl) (fun _ _ _ h => h) (by kernel_rfl) ?hy152 (by assumption) ?rest152)
  case hy152 => (intro w9 hSw; obtain ⟨⟨s0, s1, s2, s3⟩, s4⟩ := hSw; first | (go_simp; done) | (go_simp; with_reducible rfl))
  (try simp only [Act.put, List.setIfInBounds_toArray, List.set_cons_zero, List.set_cons_succ])
  have mE := mErr g e p w1 (HG.out.kept B1.out)
  (refine wpAnyH_ready (rs := [51]) (by kernel_rfl) (by simp) ?_)
  (refine AllReadyH.cons (o := _) rfl (fun K hK => ?_) AllReadyH.nil)
  go_simp
  go_at_call 44; (with_reducible refine (word_any e w1).mono ?_); rintro ev w2 ⟨rfl, rfl⟩
  go_wp2_with fail
  (refine hK.out _ _ hHeld (fun hHeld => ?_))
  clear hK K
  (try simp only [Act.put, List.setIfInBounds_toArray, List.set_cons_zero, List.set_cons_succ])
  clear mE
  (refine wpAnyH_ready (rs := [56]) (by kernel_rfl) (by simp) ?_)
  (refine AllReadyH.cons (o := _) rfl (fun K hK => ?_) AllReadyH.nil)
  go_simp
  go_at_call 44; (with_reducible refine (word_any e w1).mono ?_); rintro ev w2 ⟨rfl, rfl⟩
  go_wp2_with fail
  (refine hK.out _ _ hHeld (fun hHeld => ?_))
  clear hK K
  (try simp only [Act.put, List.setIfInBounds_toArray, List.set_cons_zero, List.set_cons_succ])
  (refine take_q (i := 57) (d := 70) (v := ?v153) rfl rfl (by kernel_rfl) (by kernel_rfl) (by kernel_rfl) (fun _ _ _ h => h) (by kernel_rfl) ?hy153 (by assumption) ?rest153)
  case hy153 => (intro w9 hSw; obtain ⟨⟨s0, s1, s2, s3⟩, s4⟩ := hSw; first | (go_simp; done) | (go_simp; with_reducible rfl))
  (try simp only [Act.put, List.setIfInBounds_toArray, List.set_cons_zero, List.set_cons_succ])
  (refine take_q (i := 58) (d := 71) (v := ?v154) rfl rfl (by kernel_rfl) (by kernel_rfl) (by kernel_rfl) (fun _ _ _ h => h) (by kernel_rfl) ?hy154 (by assumption) ?rest154)
  case hy154 => (intro w9 hSw; obtain ⟨⟨s0, s1, s2, s3⟩, s4⟩ := hSw; first | (go_simp; done) | (go_simp; with_reducible rfl))
  (try simp only [Act.put, List.setIfInBounds_toArray, List.set_cons_zero, List.set_cons_succ])
  (refine take_q (i := 59) (d := 4) (v := ?v155) rfl rfl (by kernel_rfl) (by kernel_rfl) (by kernel_rfl) (fun _ _ _ h => h) (by kernel_rfl) ?hy155 (by assumption) ?rest155)
  case hy155 => (intro w9 hSw; obtain ⟨⟨s0, s1, s2, s3⟩, s4⟩ := hSw; first | (go_simp; done) | (go_simp; with_reducible rfl))
  (try simp only [Act.put, List.setIfInBounds_toArray, List.set_cons_zero, List.set_cons_succ])
  (refine wpAnyH_done (by kernel_rfl) ?_ _)
  go_wp2
  go_ret
  exact ⟨rfl, B1.out⟩
end Go.Proofs.YtdgokebablhoiaaDoor
