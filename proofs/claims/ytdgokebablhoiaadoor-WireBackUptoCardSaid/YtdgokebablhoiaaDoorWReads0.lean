/- The law's own reads: what a Writer was told its bytes tell. -/
import Derived.Test.YtdgokebablhoiaaDoorWAsk
namespace Go.Proofs.YtdgokebablhoiaaDoor
open Go.RowKit

theorem flat_split (cs : List Cl) (k m : Nat) (hk : k < cs.length) (hm : k < m) : ∃ rest, (cs.take m).flatMap enc = (cs.take k).flatMap enc ++ (enc cs[k] ++ rest) := by
  refine ⟨((cs.drop (k + 1)).take (m - (k + 1))).flatMap enc, ?_⟩
  have e : cs.take m = cs.take k ++ (cs[k] :: (cs.drop (k + 1)).take (m - (k + 1))) := by
    conv => lhs; rw [show m = k + (m - k) by omega, List.take_add]
    rw [List.drop_eq_getElem_cons hk, show m - k = (m - (k + 1)) + 1 by omega, List.take_succ_cons]
  rw [e, List.flatMap_append, List.flatMap_cons]
theorem flat_succ (cs : List Cl) (k : Nat) (hk : k < cs.length) : (cs.take (k + 1)).flatMap enc = (cs.take k).flatMap enc ++ enc cs[k] := by
  rw [List.take_succ_eq_append_getElem hk, List.flatMap_append]
  simp
theorem enc_1 (x : Cl) (h : x.kind = 1) : enc x = sev x.n.toNat := by unfold enc; rw [if_pos h]
theorem enc_2 (x : Cl) (h : x.kind = 2) : enc x = sev (zz x.i) := by unfold enc; rw [if_neg (by omega), if_pos h]
theorem enc_3 (x : Cl) (h : x.kind = 3) : enc x = sev x.s.size ++ strB x.s := by unfold enc; rw [if_neg (by omega), if_neg (by omega), if_pos h]
theorem enc_0 (x : Cl) (h1 : x.kind ≠ 1) (h2 : x.kind ≠ 2) (h3 : x.kind ≠ 3) : enc x = [] := by unfold enc; rw [if_neg h1, if_neg h2, if_neg h3]

/-- Where the k-th call stands. -/
def at_ (cs : List Cl) (k : Nat) : Nat := ((cs.take k).flatMap enc).length
section
variable {cs : List Cl} {xs : List Int} {k : Nat}
theorem at_le (hxs : xs = (cs.take 60).flatMap enc) (hk : k < cs.length) (hm : k < 60) : at_ cs k ≤ xs.length ∧ at_ cs (k + 1) ≤ xs.length ∧ at_ cs (k + 1) = at_ cs k + (enc cs[k]).length ∧ ∃ rest, xs.drop (at_ cs k) = enc cs[k] ++ rest := by
  obtain ⟨rest, h⟩ := flat_split cs k 60 hk hm
  have h2 : at_ cs (k + 1) = at_ cs k + (enc cs[k]).length := by unfold at_; rw [flat_succ cs k hk, List.length_append]
  have h3 := congrArg List.length h
  rw [List.length_append, List.length_append, ← hxs] at h3
  refine ⟨by unfold at_; omega, by rw [h2]; unfold at_; omega, h2, rest, ?_⟩
  rw [hxs, h]
  unfold at_
  rw [List.drop_left]
end
/-- What reads keeps. -/
structure ReadR (w0 W wr : World) (q : Nat) (A : Option Addr) (n c : Nat) (xs : List Int) (fv : Value) (p : Nat) : Prop where
  rd : RdIs wr q A n c xs ⟨p, none⟩ fv
  below : Below w0.heap.size w0 wr
  below2 : Below W.heap.size W wr
section
variable {w0 W wr w' : World} {q n c p p' : Nat} {A : Option Addr} {xs : List Int} {fv : Value}
theorem ReadR.step (h : ReadR w0 W wr q A n c xs fv p) (hB : w0.heap.size ≤ q) (hB2 : W.heap.size ≤ q) {fv' : Value} (hr : RdIs w' q A n c xs ⟨p', none⟩ fv') (hf : RdFr wr q fv w' fv') : ReadR w0 W w' q A n c xs fv' p' :=
  ⟨hr, h.below.trans (hf.below h.below.size hB), h.below2.trans (hf.below h.below2.size hB2)⟩
theorem ReadR.kept (h : ReadR w0 W wr q A n c xs fv p) (hb : Below wr.heap.size wr w') : ReadR w0 W w' q A n c xs fv p :=
  ⟨h.rd.kept hb, h.below.trans (hb.mono h.below.size), h.below2.trans (hb.mono h.below2.size)⟩
theorem ReadR.drew (h : ReadR w0 W wr q A n c xs fv p) : ReadR w0 W wr.drew q A n c xs fv p := h.kept (Below.refl _ _).drew
end

set_option maxHeartbeats 2000000 in
set_option maxRecDepth 100000 in
theorem reads_any (Ab Al : Option Addr) (l cb nl cl : Nat) (cs : List Cl) (xs : List Int) (w0 W : World) (hT : W.cell? ⟨0, 0, none⟩ = some tyErr) (hxl : xs.length = l) (hx : CellsAt W Ab (bvs xs)) (hw : ∀ x ∈ xs, (Lit.int .u8 x).wf = true) (hbig : l ≤ 140737488355328) (hxs : xs = (cs.take 60).flatMap enc)
    (hb : Below w0.heap.size w0 W) (hl : cs.length = nl) (hc : CallsAt w0 Al cs) (hok : ∀ x ∈ cs, x.Ok) (hs : ∀ x ∈ cs, x.s.size ≤ 1048576) :
    Calls Tryd.prog 31 #[.slice Ab l cb, .slice Al nl cl] W fun e w' => e = .returned (.bool true) ∧ Below W.heap.size W w' := by
  have HR := Lib.hid (rd_read Ab l cb xs W hxl hx hw hbig hT)
  have HC := Lib.hid hc
  have HL := Lib.hid hl
  have HXL := Lib.hid hxl
  have HXS := Lib.hid hxs
  have HK := Lib.hid hok
  have HS := Lib.hid hs
  have HB := Lib.hid hb
  have hbg : (l : Int) ≤ 140737488355328 := by omega
  clear hT hxl hx hw hbig hxs hb hl hc hok hs
  go_enter Tryd.func31, Tryd.ntmps31
  go_wp2_with fail
  go_at_call 24; (with_reducible refine HR.out.mono ?_); rintro e w1 ⟨q, A', c', rfl, hq, hrd, _, hb⟩
  have HA := Lib.hid (show ReadR w0 W w1 q A' l c' xs .nilIface (at_ cs 0) from ⟨hrd, HB.out.trans (hb.mono HB.out.size), hb⟩)
  have HQ := Lib.hid (Nat.le_trans HB.out.size hq)
  have HQ2 := Lib.hid hq
  clear hq hrd hb HR
  go_wp2
  go_loopw [6, 7] (fun t6 t7 wr => ∃ k p : Nat, t7 = .int .i64 (k : Int) ∧ t6 = .int .i64 ((l : Int) - (p : Int)) ∧ k ≤ nl ∧ k ≤ 60 ∧ p ≤ l ∧ Hid (p = at_ cs k ∧ ReadR w0 W wr q A' l c' xs .nilIface p)) (fun _ t7 _ => 60 - (intOf t7).toNat)
  case atStart => exact ⟨0, 0, rfl, by simp, Nat.zero_le _, by omega, by omega, Lib.hid ⟨rfl, HA.out⟩⟩
  case round =>
    obtain ⟨k, p, rfl, rfl, hk, hk6, hp, HP⟩ := hrel
    by_cases hkn : k < nl
    · by_cases hk60 : k < 60
      · have hkl : k < cs.length := by rw [HL.out]; exact hkn
        obtain ⟨ad, rfl, c0, c1, c2, c3, c4⟩ := HC.out.at HP.out.2.below k hkl
        have HAT := Lib.hid (fun (W' : World) (hb : Below w0.heap.size w0 W') => HC.out.at hb k hkl)
        have HO := Lib.hid (HK.out cs[k] (List.getElem_mem _))
        have HZ := Lib.hid (HS.out cs[k] (List.getElem_mem _))
        have HLE := Lib.hid (at_le HXS.out hkl hk60)
        obtain ⟨p', hp'⟩ : ∃ p', p' = at_ cs (k + 1) := ⟨_, rfl⟩
        have HP' := Lib.hid hp'
        have hpl : p' ≤ l := by have := HLE.out.2.1; rw [HXL.out] at this; omega
        generalize cs[k] = x at *
        obtain ⟨rest, hrest⟩ := HLE.out.2.2.2
        have hpe : p' = p + (enc x).length := by rw [hp', HP.out.1]; exact HLE.out.2.2.1
        have HRE := Lib.hid (show xs.drop p = enc x ++ rest by rw [HP.out.1]; exact hrest)
        clear hp' hrest
        obtain ⟨kind, nn, ii, s, mo⟩ := x
        clear c4
        by_cases h1 : kind = 1
        · subst h1
          have HE := Lib.hid (enc_1 ⟨1, nn, ii, s, mo⟩ rfl)
          have HPE := Lib.hid hpe
          have hpp : p < p' := by have := enc_pos ⟨1, nn, ii, s, mo⟩ (.inl rfl); omega
          have HN := Lib.hid (show numP xs 9223372036854775807 ⟨p, none⟩ = (nn.toNat, ⟨p', none⟩) by
            rw [HPE.out, HE.out]
            exact numP_ok (HE.out ▸ HRE.out) (num_lt _ HO.out) _ (by have : nn.toNat < 9223372036854775808 := num_lt _ HO.out; show ((nn.toNat : Nat) : Int) ≤ _; omega))
          have CN := Lib.hid (fun (W' : World) (h : RdIs W' q A' l c' xs ⟨p, none⟩ .nilIface) => HN.out ▸ rd_num h 9223372036854775807 (by omega))
          obtain ⟨mx, hmx⟩ : ∃ mx : Nat, mx = nn.toNat := ⟨_, rfl⟩
          rw [← hmx] at CN
          have HMX := Lib.hid hmx
          clear hmx c2 c3 hpe
          by_cases hneg : nn ≤ 0
          · have hm0 : mx = 0 := by have := HMX.out; omega
            subst hm0
            have hdn : decide (0 < nn) = false := by simpa using hneg
            have hmx0 : max 0 nn = 0 := by omega
            go_wp2
            (refine wp_region_held_drew (S := fun W9 => W9.cell? (fld ad k 1) = some (.int .i64 nn)) (by kernel_rfl) c1 (fun hHeld => ?_))
            (refine take_q (i := 0) (d := 30) (v := ?v101) rfl rfl (by kernel_rfl) (by kernel_rfl) (by kernel_rfl) (fun _ _ _ h => h) (by kernel_rfl) ?hy101 (by assumption) ?rest101)
            case hy101 => (intro w9 hSw; first | (go_simp; done) | (go_simp; with_reducible rfl))
            (try simp only [Act.put, List.setIfInBounds_toArray, List.set_cons_zero, List.set_cons_succ])
            (refine take_q (i := 2) (d := 32) (v := ?v102) rfl rfl (by kernel_rfl) (by kernel_rfl) (by kernel_rfl) (fun _ _ _ h => h) (by kernel_rfl) ?hy102 (by assumption) ?rest102)
            case hy102 => (intro w9 hSw; first | (go_simp; done) | (go_simp; with_reducible rfl))
            (try simp only [Act.put, List.setIfInBounds_toArray, List.set_cons_zero, List.set_cons_succ])
            (refine take_q (i := 3) (d := 33) (v := ?v103) rfl rfl (by kernel_rfl) (by kernel_rfl) (by kernel_rfl) (fun _ _ _ h => h) (by kernel_rfl) ?hy103 (by assumption) ?rest103)
            case hy103 => (intro w9 hSw; first | (go_simp; done) | (go_simp; with_reducible rfl))
            (try simp only [Act.put, List.setIfInBounds_toArray, List.set_cons_zero, List.set_cons_succ])
            (refine take_q (i := 4) (d := 34) (v := ?v104) rfl rfl (by kernel_rfl) (by kernel_rfl) (by kernel_rfl) (fun _ _ _ h => h) (by kernel_rfl) ?hy104 (by assumption) ?rest104)
            case hy104 => (intro w9 hSw; first | (go_simp; done) | (go_simp; with_reducible rfl))
            (try simp only [Act.put, List.setIfInBounds_toArray, List.set_cons_zero, List.set_cons_succ])
            (refine take_q (i := 5) (d := 35) (v := ?v105) rfl rfl (by kernel_rfl) (by kernel_rfl) (by kernel_rfl) (fun _ _ _ h => h) (by kernel_rfl) ?hy105 (by assumption) ?rest105)
            case hy105 => (intro w9 hSw; first | (go_simp; done) | (go_simp; with_reducible rfl))
            (try simp only [Act.put, List.setIfInBounds_toArray, List.set_cons_zero, List.set_cons_succ])
            (refine take_q (i := 6) (d := 36) (v := ?v106) rfl rfl (by kernel_rfl) (by kernel_rfl) (by kernel_rfl) (fun _ _ _ h => h) (by kernel_rfl) ?hy106 (by assumption) ?rest106)
            case hy106 => (intro w9 hSw; first | (go_simp; done) | (go_simp; with_reducible rfl))
            (try simp only [Act.put, List.setIfInBounds_toArray, List.set_cons_zero, List.set_cons_succ])
            (refine take_q (i := 7) (d := 37) (v := ?v107) rfl rfl (by kernel_rfl) (by kernel_rfl) (by kernel_rfl) (fun _ _ _ h => h) (by kernel_rfl) ?hy107 (by assumption) ?rest107)
            case hy107 => (intro w9 hSw; first | (go_simp; done) | (go_simp; with_reducible rfl))
            (try simp only [Act.put, List.setIfInBounds_toArray, List.set_cons_zero, List.set_cons_succ])
            (refine wpAnyH_ready (rs := [1]) (by kernel_rfl) (by simp) ?_)
            (refine AllReadyH.cons (o := _) rfl (fun K hK => ?_) AllReadyH.nil)
            go_simp
            go_at_call 25; (with_reducible refine (CN.out _ HP.out.2.drew.rd).mono ?_); rintro e w2 ⟨rfl, fv2, hr, hf⟩
            obtain rfl := hr.no rfl
            (obtain ⟨ad', e', e0, e1, e2, e3, e4⟩ := HAT.out w2 (HP.out.2.drew.below.trans (hf.below HP.out.2.drew.below.size HQ.out))); cases e'
            have HR2 := Lib.hid (HP.out.2.drew.step HQ.out HQ2.out hr hf)
            clear hr hf
            go_wp2_with fail
            (refine hK.out _ _ e1 (fun hHeld => ?_))
            clear hK K
            (try simp only [Act.put, List.setIfInBounds_toArray, List.set_cons_zero, List.set_cons_succ])
            (refine take_q (i := 8) (d := 38) (v := ?v108) rfl rfl (by kernel_rfl) (by kernel_rfl) (by kernel_rfl) (fun _ _ _ h => h) (by kernel_rfl) ?hy108 (by assumption) ?rest108)
            case hy108 => (intro w9 hSw; first | (go_simp; done) | (go_simp; with_reducible rfl))
            (try simp only [Act.put, List.setIfInBounds_toArray, List.set_cons_zero, List.set_cons_succ])
            (refine take_q (i := 9) (d := 8) (v := ?v109) rfl rfl (by kernel_rfl) (by kernel_rfl) (by kernel_rfl) (fun _ _ _ h => h) (by kernel_rfl) ?hy109 (by assumption) ?rest109)
            case hy109 => (intro w9 hSw; first | (go_simp; done) | (go_simp; with_reducible rfl))
            (try simp only [Act.put, List.setIfInBounds_toArray, List.set_cons_zero, List.set_cons_succ])
            (refine wpAnyH_done (by kernel_rfl) ?_ _)
            go_wp2_with fail
            go_at_call 51; (with_reducible refine (rd_left HR2.out.rd).mono ?_); rintro e w3 ⟨rfl, hb⟩
            have HR3 := Lib.hid (HR2.out.kept hb)
            have HLF := Lib.hid (show ((leftP xs ⟨p', none⟩ : Nat) : Int) = (l : Int) - (p' : Int) by have := HXL.out; unfold leftP; show ((xs.length - p' : Nat) : Int) = _; omega)
            rw [HLF.out]
            clear hb e0 e1 e2 e3 e4
            go_wp2_with fail
            go_at_call 51; (with_reducible refine (rd_left HR3.out.rd).mono ?_); rintro e w4 ⟨rfl, hb⟩
            have HR4 := Lib.hid (HR3.out.kept hb)
            rw [HLF.out]
            clear hb
            go_wp2_with fail
            go_roundw
            case rel => exact ⟨k + 1, p', by go_num, rfl, by omega, by omega, hpl, Lib.hid ⟨HP'.out, HR4.out⟩⟩
            case measure => simp [intOf]; omega
          · obtain ⟨mn, rfl⟩ : ∃ mn : Nat, nn = (mn : Int) := ⟨nn.toNat, by omega⟩
            have hm0 : mx = mn := by have := HMX.out; omega
            subst hm0
            have hmx0 : max 0 (mx : Int) = (mx : Int) := by omega
            have hdn : decide ((0 : Int) < (mx : Int)) = true := by simp; omega
            have hdp : 0 < mx := by omega
            go_wp2
            (refine wp_region_held_drew (S := fun W9 => W9.cell? (fld ad k 1) = some (.int .i64 (mx : Int))) (by kernel_rfl) c1 (fun hHeld => ?_))
            (refine take_q (i := 0) (d := 30) (v := ?v110) rfl rfl (by kernel_rfl) (by kernel_rfl) (by kernel_rfl) (fun _ _ _ h => h) (by kernel_rfl) ?hy110 (by assumption) ?rest110)
            case hy110 => (intro w9 hSw; first | (go_simp; done) | (go_simp; with_reducible rfl))
            (try simp only [Act.put, List.setIfInBounds_toArray, List.set_cons_zero, List.set_cons_succ])
            (refine take_q (i := 2) (d := 32) (v := ?v111) rfl rfl (by kernel_rfl) (by kernel_rfl) (by kernel_rfl) (fun _ _ _ h => h) (by kernel_rfl) ?hy111 (by assumption) ?rest111)
            case hy111 => (intro w9 hSw; first | (go_simp; done) | (go_simp; with_reducible rfl))
            (try simp only [Act.put, List.setIfInBounds_toArray, List.set_cons_zero, List.set_cons_succ])
            (refine take_q (i := 3) (d := 33) (v := ?v112) rfl rfl (by kernel_rfl) (by kernel_rfl) (by kernel_rfl) (fun _ _ _ h => h) (by kernel_rfl) ?hy112 (by assumption) ?rest112)
            case hy112 => (intro w9 hSw; first | (go_simp; done) | (go_simp; with_reducible rfl))
            (try simp only [Act.put, List.setIfInBounds_toArray, List.set_cons_zero, List.set_cons_succ])
            (refine take_q (i := 4) (d := 34) (v := ?v113) rfl rfl (by kernel_rfl) (by kernel_rfl) (by kernel_rfl) (fun _ _ _ h => h) (by kernel_rfl) ?hy113 (by assumption) ?rest113)
            case hy113 => (intro w9 hSw; first | (go_simp; done) | (go_simp; with_reducible rfl))
            (try simp only [Act.put, List.setIfInBounds_toArray, List.set_cons_zero, List.set_cons_succ])
            (refine take_q (i := 5) (d := 35) (v := ?v114) rfl rfl (by kernel_rfl) (by kernel_rfl) (by kernel_rfl) (fun _ _ _ h => h) (by kernel_rfl) ?hy114 (by assumption) ?rest114)
            case hy114 => (intro w9 hSw; first | (go_simp; done) | (go_simp; with_reducible rfl))
            (try simp only [Act.put, List.setIfInBounds_toArray, List.set_cons_zero, List.set_cons_succ])
            (refine take_q (i := 6) (d := 36) (v := ?v115) rfl rfl (by kernel_rfl) (by kernel_rfl) (by kernel_rfl) (fun _ _ _ h => h) (by kernel_rfl) ?hy115 (by assumption) ?rest115)
            case hy115 => (intro w9 hSw; first | (go_simp; done) | (go_simp; with_reducible rfl))
            (try simp only [Act.put, List.setIfInBounds_toArray, List.set_cons_zero, List.set_cons_succ])
            (refine take_q (i := 7) (d := 37) (v := ?v116) rfl rfl (by kernel_rfl) (by kernel_rfl) (by kernel_rfl) (fun _ _ _ h => h) (by kernel_rfl) ?hy116 (by assumption) ?rest116)
            case hy116 => (intro w9 hSw; first | (go_simp; done) | (go_simp; with_reducible rfl))
            (try simp only [Act.put, List.setIfInBounds_toArray, List.set_cons_zero, List.set_cons_succ])
            (refine wpAnyH_ready (rs := [1]) (by kernel_rfl) (by simp) ?_)
            (refine AllReadyH.cons (o := _) rfl (fun K hK => ?_) AllReadyH.nil)
            go_simp
            go_at_call 25; (with_reducible refine (CN.out _ HP.out.2.drew.rd).mono ?_); rintro e w2 ⟨rfl, fv2, hr, hf⟩
            obtain rfl := hr.no rfl
            (obtain ⟨ad', e', e0, e1, e2, e3, e4⟩ := HAT.out w2 (HP.out.2.drew.below.trans (hf.below HP.out.2.drew.below.size HQ.out))); cases e'
            have HR2 := Lib.hid (HP.out.2.drew.step HQ.out HQ2.out hr hf)
            clear hr hf
            go_wp2_with fail
            (refine hK.out _ _ e1 (fun hHeld => ?_))
            clear hK K
            (try simp only [Act.put, List.setIfInBounds_toArray, List.set_cons_zero, List.set_cons_succ])
            (refine take_q (i := 8) (d := 38) (v := ?v117) rfl rfl (by kernel_rfl) (by kernel_rfl) (by kernel_rfl) (fun _ _ _ h => h) (by kernel_rfl) ?hy117 (by assumption) ?rest117)
            case hy117 => (intro w9 hSw; first | (go_simp; done) | (go_simp; with_reducible rfl))
            (try simp only [Act.put, List.setIfInBounds_toArray, List.set_cons_zero, List.set_cons_succ])
            (refine take_q (i := 9) (d := 8) (v := ?v118) rfl rfl (by kernel_rfl) (by kernel_rfl) (by kernel_rfl) (fun _ _ _ h => h) (by kernel_rfl) ?hy118 (by assumption) ?rest118)
            case hy118 => (intro w9 hSw; first | (go_simp; done) | (go_simp; with_reducible rfl))
            (try simp only [Act.put, List.setIfInBounds_toArray, List.set_cons_zero, List.set_cons_succ])
            (refine wpAnyH_done (by kernel_rfl) ?_ _)
            go_wp2_with fail
            go_at_call 51; (with_reducible refine (rd_left HR2.out.rd).mono ?_); rintro e w3 ⟨rfl, hb⟩
            have HR3 := Lib.hid (HR2.out.kept hb)
            have HLF := Lib.hid (show ((leftP xs ⟨p', none⟩ : Nat) : Int) = (l : Int) - (p' : Int) by have := HXL.out; unfold leftP; show ((xs.length - p' : Nat) : Int) = _; omega)
            rw [HLF.out]
            clear hb e0 e1 e2 e3 e4
            go_wp2_with fail
            go_at_call 51; (with_reducible refine (rd_left HR3.out.rd).mono ?_); rintro e w4 ⟨rfl, hb⟩
            have HR4 := Lib.hid (HR3.out.kept hb)
            rw [HLF.out]
            clear hb
            go_wp2_with fail
            go_roundw
            case rel => exact ⟨k + 1, p', by go_num, rfl, by omega, by omega, hpl, Lib.hid ⟨HP'.out, HR4.out⟩⟩
            case measure => simp [intOf]; omega
        · have g1 : (kind == 1) = false := by simpa using h1
          have G1 := Lib.hid h1
          clear h1
          by_cases h2 : kind = 2
          · subst h2
            have HE := Lib.hid (enc_2 ⟨2, nn, ii, s, mo⟩ rfl)
            have HPE := Lib.hid hpe
            have hpp : p < p' := by have := enc_pos ⟨2, nn, ii, s, mo⟩ (.inr (.inl rfl)); omega
            have HN := Lib.hid (show intP xs ⟨p, none⟩ = (ii, ⟨p', none⟩) by
              rw [HPE.out, HE.out]
              exact intP_ok (HE.out ▸ HRE.out) (zz_lt _ HO.out))
            have CN := Lib.hid (fun (W' : World) (h : RdIs W' q A' l c' xs ⟨p, none⟩ .nilIface) => HN.out ▸ rd_int h)
            clear c1 c3 hpe
            go_wp2
            (refine wp_region_held_drew (S := fun W9 => W9.cell? (fld ad k 2) = some (.int .i64 ii)) (by kernel_rfl) c2 (fun hHeld => ?_))
            (refine take_q (i := 0) (d := 41) (v := ?v119) rfl rfl (by kernel_rfl) (by kernel_rfl) (by kernel_rfl) (fun _ _ _ h => h) (by kernel_rfl) ?hy119 (by assumption) ?rest119)
            case hy119 => (intro w9 hSw; first | (go_simp; done) | (go_simp; with_reducible rfl))
            (try simp only [Act.put, List.setIfInBounds_toArray, List.set_cons_zero, List.set_cons_succ])
            (refine take_q (i := 2) (d := 43) (v := ?v120) rfl rfl (by kernel_rfl) (by kernel_rfl) (by kernel_rfl) (fun _ _ _ h => h) (by kernel_rfl) ?hy120 (by assumption) ?rest120)
            case hy120 => (intro w9 hSw; first | (go_simp; done) | (go_simp; with_reducible rfl))
            (try simp only [Act.put, List.setIfInBounds_toArray, List.set_cons_zero, List.set_cons_succ])
            (refine take_q (i := 3) (d := 44) (v := ?v121) rfl rfl (by kernel_rfl) (by kernel_rfl) (by kernel_rfl) (fun _ _ _ h => h) (by kernel_rfl) ?hy121 (by assumption) ?rest121)
            case hy121 => (intro w9 hSw; first | (go_simp; done) | (go_simp; with_reducible rfl))
            (try simp only [Act.put, List.setIfInBounds_toArray, List.set_cons_zero, List.set_cons_succ])
            (refine take_q (i := 4) (d := 45) (v := ?v122) rfl rfl (by kernel_rfl) (by kernel_rfl) (by kernel_rfl) (fun _ _ _ h => h) (by kernel_rfl) ?hy122 (by assumption) ?rest122)
            case hy122 => (intro w9 hSw; first | (go_simp; done) | (go_simp; with_reducible rfl))
            (try simp only [Act.put, List.setIfInBounds_toArray, List.set_cons_zero, List.set_cons_succ])
            (refine take_q (i := 5) (d := 46) (v := ?v123) rfl rfl (by kernel_rfl) (by kernel_rfl) (by kernel_rfl) (fun _ _ _ h => h) (by kernel_rfl) ?hy123 (by assumption) ?rest123)
            case hy123 => (intro w9 hSw; first | (go_simp; done) | (go_simp; with_reducible rfl))
            (try simp only [Act.put, List.setIfInBounds_toArray, List.set_cons_zero, List.set_cons_succ])
            (refine take_q (i := 6) (d := 47) (v := ?v124) rfl rfl (by kernel_rfl) (by kernel_rfl) (by kernel_rfl) (fun _ _ _ h => h) (by kernel_rfl) ?hy124 (by assumption) ?rest124)
            case hy124 => (intro w9 hSw; first | (go_simp; done) | (go_simp; with_reducible rfl))
            (try simp only [Act.put, List.setIfInBounds_toArray, List.set_cons_zero, List.set_cons_succ])
            (refine wpAnyH_ready (rs := [1]) (by kernel_rfl) (by simp) ?_)
            (refine AllReadyH.cons (o := _) rfl (fun K hK => ?_) AllReadyH.nil)
            go_simp
            go_at_call 28; (with_reducible refine (CN.out _ HP.out.2.drew.rd).mono ?_); rintro e w2 ⟨rfl, fv2, hr, hf⟩
            obtain rfl := hr.no rfl
            (obtain ⟨ad', e', e0, e1, e2, e3, e4⟩ := HAT.out w2 (HP.out.2.drew.below.trans (hf.below HP.out.2.drew.below.size HQ.out))); cases e'
            have HR2 := Lib.hid (HP.out.2.drew.step HQ.out HQ2.out hr hf)
            clear hr hf
            go_wp2_with fail
            (refine hK.out _ _ e2 (fun hHeld => ?_))
            clear hK K
            (try simp only [Act.put, List.setIfInBounds_toArray, List.set_cons_zero, List.set_cons_succ])
            (refine take_q (i := 7) (d := 48) (v := ?v125) rfl rfl (by kernel_rfl) (by kernel_rfl) (by kernel_rfl) (fun _ _ _ h => h) (by kernel_rfl) ?hy125 (by assumption) ?rest125)
            case hy125 => (intro w9 hSw; first | (go_simp; done) | (go_simp; with_reducible rfl))
            (try simp only [Act.put, List.setIfInBounds_toArray, List.set_cons_zero, List.set_cons_succ])
            (refine take_q (i := 8) (d := 8) (v := ?v126) rfl rfl (by kernel_rfl) (by kernel_rfl) (by kernel_rfl) (fun _ _ _ h => h) (by kernel_rfl) ?hy126 (by assumption) ?rest126)
            case hy126 => (intro w9 hSw; first | (go_simp; done) | (go_simp; with_reducible rfl))
            (try simp only [Act.put, List.setIfInBounds_toArray, List.set_cons_zero, List.set_cons_succ])
            (refine wpAnyH_done (by kernel_rfl) ?_ _)
            go_wp2_with fail
            go_at_call 51; (with_reducible refine (rd_left HR2.out.rd).mono ?_); rintro e w3 ⟨rfl, hb⟩
            have HR3 := Lib.hid (HR2.out.kept hb)
            have HLF := Lib.hid (show ((leftP xs ⟨p', none⟩ : Nat) : Int) = (l : Int) - (p' : Int) by have := HXL.out; unfold leftP; show ((xs.length - p' : Nat) : Int) = _; omega)
            rw [HLF.out]
            clear hb e0 e1 e2 e3 e4
            go_wp2_with fail
            go_at_call 51; (with_reducible refine (rd_left HR3.out.rd).mono ?_); rintro e w4 ⟨rfl, hb⟩
            have HR4 := Lib.hid (HR3.out.kept hb)
            rw [HLF.out]
            clear hb
            go_wp2_with fail
            go_roundw
            case rel => exact ⟨k + 1, p', by go_num, rfl, by omega, by omega, hpl, Lib.hid ⟨HP'.out, HR4.out⟩⟩
            case measure => simp [intOf]; omega
          · have g2 : (kind == 2) = false := by simpa using h2
            have G2 := Lib.hid h2
            clear h2
            by_cases h3 : kind = 3
            · subst h3
              have HE := Lib.hid (enc_3 ⟨3, nn, ii, s, mo⟩ rfl)
              have HPE := Lib.hid hpe
              have hpp : p < p' := by have := enc_pos ⟨3, nn, ii, s, mo⟩ (.inr (.inr rfl)); omega
              have HN := Lib.hid (show textP xs (s.size : Int) ⟨p, none⟩ = (strB s, ⟨p', none⟩) by
                rw [HPE.out, HE.out, ← strB_len]
                refine textP_ok (rest := rest) ?_ (by rw [HXL.out]; exact hp) (by rw [strB_len]; have : s.size ≤ 1048576 := HZ.out; omega) _ (by omega)
                rw [← List.append_assoc, strB_len]
                exact HE.out ▸ HRE.out)
              have CN := Lib.hid (fun (W' : World) (h : RdIs W' q A' l c' xs ⟨p, none⟩ .nilIface) => strOfNums_strB s ▸ HN.out ▸ rd_text h (s.size : Int) (by have : s.size ≤ 1048576 := HZ.out; omega))
              clear c1 c2 hpe
              go_wp2
              (refine wp_region_held_drew (S := fun W9 => W9.cell? (fld ad k 3) = some (.string s)) (by kernel_rfl) c3 (fun hHeld => ?_))
              (refine take_q (i := 0) (d := 51) (v := ?v127) rfl rfl (by kernel_rfl) (by kernel_rfl) (by kernel_rfl) (fun _ _ _ h => h) (by kernel_rfl) ?hy127 (by assumption) ?rest127)
              case hy127 => (intro w9 hSw; first | (go_simp; done) | (go_simp; with_reducible rfl))
              (try simp only [Act.put, List.setIfInBounds_toArray, List.set_cons_zero, List.set_cons_succ])
              (refine take_q (i := 1) (d := 52) (v := ?v128) rfl rfl (by kernel_rfl) (by kernel_rfl) (by kernel_rfl) (fun _ _ _ h => h) (by kernel_rfl) ?hy128 (by assumption) ?rest128)
              case hy128 => (intro w9 hSw; first | (go_simp; done) | (go_simp; with_reducible rfl))
              (try simp only [Act.put, List.setIfInBounds_toArray, List.set_cons_zero, List.set_cons_succ])
              (refine take_q (i := 2) (d := 53) (v := ?v129) rfl rfl (by kernel_rfl) (by kernel_rfl) (by kernel_rfl) (fun _ _ _ h => h) (by kernel_rfl) ?hy129 (by assumption) ?rest129)
              case hy129 => (intro w9 hSw; first | (go_simp; done) | (go_simp; with_reducible rfl))
              (try simp only [Act.put, List.setIfInBounds_toArray, List.set_cons_zero, List.set_cons_succ])
              (refine take_q (i := 3) (d := 54) (v := ?v130) rfl rfl (by kernel_rfl) (by kernel_rfl) (by kernel_rfl) (fun _ _ _ h => h) (by kernel_rfl) ?hy130 (by assumption) ?rest130)
              case hy130 => (intro w9 hSw; first | (go_simp; done) | (go_simp; with_reducible rfl))
              (try simp only [Act.put, List.setIfInBounds_toArray, List.set_cons_zero, List.set_cons_succ])
              (refine take_q (i := 4) (d := 55) (v := ?v131) rfl rfl (by kernel_rfl) (by kernel_rfl) (by kernel_rfl) (fun _ _ _ h => h) (by kernel_rfl) ?hy131 (by assumption) ?rest131)
              case hy131 => (intro w9 hSw; first | (go_simp; done) | (go_simp; with_reducible rfl))
              (try simp only [Act.put, List.setIfInBounds_toArray, List.set_cons_zero, List.set_cons_succ])
              (refine take_q (i := 5) (d := 56) (v := ?v132) rfl rfl (by kernel_rfl) (by kernel_rfl) (by kernel_rfl) (fun _ _ _ h => h) (by kernel_rfl) ?hy132 (by assumption) ?rest132)
              case hy132 => (intro w9 hSw; first | (go_simp; done) | (go_simp; with_reducible rfl))
              (try simp only [Act.put, List.setIfInBounds_toArray, List.set_cons_zero, List.set_cons_succ])
              (refine take_q (i := 6) (d := 57) (v := ?v133) rfl rfl (by kernel_rfl) (by kernel_rfl) (by kernel_rfl) (fun _ _ _ h => h) (by kernel_rfl) ?hy133 (by assumption) ?rest133)
              case hy133 => (intro w9 hSw; first | (go_simp; done) | (go_simp; with_reducible rfl))
              (try simp only [Act.put, List.setIfInBounds_toArray, List.set_cons_zero, List.set_cons_succ])
              (refine take_q (i := 8) (d := 59) (v := ?v134) rfl rfl (by kernel_rfl) (by kernel_rfl) (by kernel_rfl) (fun _ _ _ h => h) (by kernel_rfl) ?hy134 (by assumption) ?rest134)
              case hy134 => (intro w9 hSw; first | (go_simp; done) | (go_simp; with_reducible rfl))
              (try simp only [Act.put, List.setIfInBounds_toArray, List.set_cons_zero, List.set_cons_succ])
              (refine take_q (i := 9) (d := 60) (v := ?v135) rfl rfl (by kernel_rfl) (by kernel_rfl) (by kernel_rfl) (fun _ _ _ h => h) (by kernel_rfl) ?hy135 (by assumption) ?rest135)
              case hy135 => (intro w9 hSw; first | (go_simp; done) | (go_simp; with_reducible rfl))
              (try simp only [Act.put, List.setIfInBounds_toArray, List.set_cons_zero, List.set_cons_succ])
              (refine take_q (i := 10) (d := 61) (v := ?v136) rfl rfl (by kernel_rfl) (by kernel_rfl) (by kernel_rfl) (fun _ _ _ h => h) (by kernel_rfl) ?hy136 (by assumption) ?rest136)
              case hy136 => (intro w9 hSw; first | (go_simp; done) | (go_simp; with_reducible rfl))
              (try simp only [Act.put, List.setIfInBounds_toArray, List.set_cons_zero, List.set_cons_succ])
              (refine take_q (i := 11) (d := 62) (v := ?v137) rfl rfl (by kernel_rfl) (by kernel_rfl) (by kernel_rfl) (fun _ _ _ h => h) (by kernel_rfl) ?hy137 (by assumption) ?rest137)
              case hy137 => (intro w9 hSw; first | (go_simp; done) | (go_simp; with_reducible rfl))
              (try simp only [Act.put, List.setIfInBounds_toArray, List.set_cons_zero, List.set_cons_succ])
              (refine take_q (i := 12) (d := 63) (v := ?v138) rfl rfl (by kernel_rfl) (by kernel_rfl) (by kernel_rfl) (fun _ _ _ h => h) (by kernel_rfl) ?hy138 (by assumption) ?rest138)
              case hy138 => (intro w9 hSw; first | (go_simp; done) | (go_simp; with_reducible rfl))
              (try simp only [Act.put, List.setIfInBounds_toArray, List.set_cons_zero, List.set_cons_succ])
              (refine wpAnyH_ready (rs := [7]) (by kernel_rfl) (by simp) ?_)
              (refine AllReadyH.cons (o := _) rfl (fun K hK => ?_) AllReadyH.nil)
              go_simp
              go_at_call 48; (with_reducible refine (CN.out _ HP.out.2.drew.rd).mono ?_); rintro e w2 ⟨rfl, fv2, hr, hf⟩
              obtain rfl := hr.no rfl
              (obtain ⟨ad', e', e0, e1, e2, e3, e4⟩ := HAT.out w2 (HP.out.2.drew.below.trans (hf.below HP.out.2.drew.below.size HQ.out))); cases e'
              have HR2 := Lib.hid (HP.out.2.drew.step HQ.out HQ2.out hr hf)
              clear hr hf
              go_wp2_with fail
              (refine hK.out _ _ e3 (fun hHeld => ?_))
              clear hK K
              (try simp only [Act.put, List.setIfInBounds_toArray, List.set_cons_zero, List.set_cons_succ])
              (refine take_q (i := 13) (d := 64) (v := ?v139) rfl rfl (by kernel_rfl) (by kernel_rfl) (by kernel_rfl) (fun _ _ _ h => h) (by kernel_rfl) ?hy139 (by assumption) ?rest139)
              case hy139 => (intro w9 hSw; first | (go_simp; done) | (go_simp; with_reducible rfl))
              (try simp only [Act.put, List.setIfInBounds_toArray, List.set_cons_zero, List.set_cons_succ])
              (refine take_q (i := 14) (d := 8) (v := ?v140) rfl rfl (by kernel_rfl) (by kernel_rfl) (by kernel_rfl) (fun _ _ _ h => h) (by kernel_rfl) ?hy140 (by assumption) ?rest140)
              case hy140 => (intro w9 hSw; first | (go_simp; done) | (go_simp; with_reducible rfl))
              (try simp only [Act.put, List.setIfInBounds_toArray, List.set_cons_zero, List.set_cons_succ])
              (refine wpAnyH_done (by kernel_rfl) ?_ _)
              go_wp2_with fail
              go_at_call 51; (with_reducible refine (rd_left HR2.out.rd).mono ?_); rintro e w3 ⟨rfl, hb⟩
              have HR3 := Lib.hid (HR2.out.kept hb)
              have HLF := Lib.hid (show ((leftP xs ⟨p', none⟩ : Nat) : Int) = (l : Int) - (p' : Int) by have := HXL.out; unfold leftP; show ((xs.length - p' : Nat) : Int) = _; omega)
              rw [HLF.out]
              clear hb e0 e1 e2 e3 e4
              go_wp2_with fail
              go_at_call 51; (with_reducible refine (rd_left HR3.out.rd).mono ?_); rintro e w4 ⟨rfl, hb⟩
              have HR4 := Lib.hid (HR3.out.kept hb)
              rw [HLF.out]
              clear hb
              go_wp2_with fail
              go_roundw
              case rel => exact ⟨k + 1, p', by go_num, rfl, by omega, by omega, hpl, Lib.hid ⟨HP'.out, HR4.out⟩⟩
              case measure => simp [intOf]; omega
            · have g3 : (kind == 3) = false := by simpa using h3
              have HE := Lib.hid (enc_0 ⟨kind, nn, ii, s, mo⟩ G1.out G2.out h3)
              have hpp : p' = p := by rw [hpe, HE.out]; rfl
              subst hpp
              clear h3 hpe
              go_wp2_with fail
              go_roundw
              case rel => exact ⟨k + 1, p', by go_num, rfl, by omega, by omega, hp, Lib.hid ⟨HP'.out, HP.out.2⟩⟩
              case measure => simp [intOf]; omega
      · have HE := Lib.hid (show p = l by
          have := HXL.out
          rw [HP.out.1, ← this, HXS.out]
          unfold at_
          rw [show k = 60 by omega])
        have HLF := Lib.hid (show leftP xs ⟨l, none⟩ = 0 by have := HXL.out; unfold leftP; show xs.length - l = 0; omega)
        have HEN := Lib.hid (show endP xs ⟨l, none⟩ = ⟨l, none⟩ by have := HXL.out; unfold endP; rw [if_neg (by show ¬ l < xs.length; omega)])
        obtain rfl : p = l := HE.out
        go_wp2_with fail
        go_at_call 26; (with_reducible refine (HEN.out ▸ rd_end HP.out.2.rd).mono ?_); rintro e w2 ⟨rfl, fv2, hr, hf⟩
        obtain rfl := hr.no rfl
        have HR2 := Lib.hid (HP.out.2.step HQ.out HQ2.out hr hf)
        clear hr hf
        go_wp2_with fail
        go_at_call 27; (with_reducible refine (rd_err HR2.out.rd).mono ?_); rintro e w3 ⟨hb, rfl⟩
        have HR3 := Lib.hid (HR2.out.kept hb)
        clear hb
        go_wp2_with fail
        go_at_call 51; (with_reducible refine (HLF.out ▸ rd_left HR3.out.rd).mono ?_); rintro e w4 ⟨rfl, hb⟩
        go_wp2
        go_ret
        exact ⟨rfl, (HR3.out.kept hb).below2⟩
    · have HE := Lib.hid (show p = l by
        have := HXL.out
        rw [HP.out.1, ← this, HXS.out]
        unfold at_
        rw [List.take_of_length_le (by have := HL.out; omega), List.take_of_length_le (by have := HL.out; omega)])
      have HLF := Lib.hid (show leftP xs ⟨l, none⟩ = 0 by have := HXL.out; unfold leftP; show xs.length - l = 0; omega)
      have HEN := Lib.hid (show endP xs ⟨l, none⟩ = ⟨l, none⟩ by have := HXL.out; unfold endP; rw [if_neg (by show ¬ l < xs.length; omega)])
      obtain rfl : p = l := HE.out
      go_wp2_with fail
      go_at_call 26; (with_reducible refine (HEN.out ▸ rd_end HP.out.2.rd).mono ?_); rintro e w2 ⟨rfl, fv2, hr, hf⟩
      obtain rfl := hr.no rfl
      have HR2 := Lib.hid (HP.out.2.step HQ.out HQ2.out hr hf)
      clear hr hf
      go_wp2_with fail
      go_at_call 27; (with_reducible refine (rd_err HR2.out.rd).mono ?_); rintro e w3 ⟨hb, rfl⟩
      have HR3 := Lib.hid (HR2.out.kept hb)
      clear hb
      go_wp2_with fail
      go_at_call 51; (with_reducible refine (HLF.out ▸ rd_left HR3.out.rd).mono ?_); rintro e w4 ⟨rfl, hb⟩
      go_wp2
      go_ret
      exact ⟨rfl, (HR3.out.kept hb).below2⟩
end Go.Proofs.YtdgokebablhoiaaDoor
