/- The law's own spatelaw2.GrownBytes: slices are written full, grown, looked at. The law's own spatelaw2.GrownCells: slices are written full, grown, looked at. The law's own spatelaw2.GrownRows: slices are written full, grown, looked at. -/
import Derived.Test.YteffpfgdoganpaaGreatDoorCGr
import Derived.Test.YteffpfgdoganpaaGreatDoorCSm
namespace Go.Proofs.YteffpfgdoganpaaGreatDoor
open Go.RowKit

def mkBytes (i k : Nat) : List Value := [.int .u8 (((i : Int) * 37 + (k : Int)) % 256)]
def grBytes (i k : Nat) : List Value := [.int .u8 ((255 - (i : Int) * 37 - (k : Int)) % 256)]
theorem grBytes_one (i k : Nat) : ∀ u ∈ grBytes i k, u.oneCell' = true := fun u hu => by
  unfold grBytes at hu
  simp only [List.mem_cons, List.not_mem_nil, or_false] at hu
  subst hu; rfl
theorem info_slBytes : (Tryz.prog.info? 22).map (fun i => (i.zero, i.size, i.bytes)) = some (some (.slice none 0 0), 1, 24) := by kernel_rfl
theorem infoE0Bytes : (Tryz.prog.info? 5).map (fun i => (i.zero.map (fun z => z.cells.size), i.size, i.bytes)) = some (some 1, 1, 1) := by kernel_rfl
theorem infoEBytes : ∃ i z, Tryz.prog.info? 5 = some i ∧ i.zero = some z ∧ i.size = 1 ∧ i.bytes = 1 ∧ z.cells.size = 1 := by
  have h := infoE0Bytes
  cases hi : Tryz.prog.info? 5 with
  | none => rw [hi] at h; cases h
  | some ic =>
    rw [hi] at h
    injection h with h
    injection h with h1 h2
    injection h2 with h2 h3
    cases hz : ic.zero with
    | none => rw [hz] at h1; cases h1
    | some z =>
      rw [hz] at h1
      injection h1 with h1
      exact ⟨ic, z, rfl, hz, h2, h3, h1⟩
set_option maxHeartbeats 16000000 in
set_option maxRecDepth 100000 in
theorem grownBytes_any (lo nk ck : Nat) (A : Option Addr) (ps : List Pg) (W : World) (hs : Sep lo W (rG lo 1 (.slice A nk ck) nk (ps.map Pg.v) :: ps.map fun p => rG lo 1 p.v p.n p.ys)) (hp : ∀ p ∈ ps, p.w = p.v ∧ p.m = p.n ∧ p.zs = p.ys) (hl : ps.length = nk) (hlo : lo ≤ W.heap.size) (hn : ∀ p ∈ ps, p.n ≤ 1000000) (hnk : nk ≤ 1000) (hA : A = none → ck = 0) :
    Calls Tryz.prog 51 #[.slice A nk ck] W fun e w' => e = .returned (.bool true) ∧ Tur (vB (ps.map Pg.v)) W w' := by
  obtain ⟨vs, hvs⟩ : ∃ vs, vs = ps.map Pg.v := ⟨_, rfl⟩
  have H0 := Lib.hid (show GrI lo 1 nk (.slice A nk ck) (.slice none 0 0) 0 [] vs ps W W (PhA 1 mkBytes 0 0) from GrI.start (hvs ▸ hs) hp hl hvs.symm hlo (fun j hj => by
    have hm := List.getElem_mem hj
    obtain ⟨h1, h2, h3⟩ := hp _ hm
    have hw : OwG W lo 1 ps[j].v ps[j].n ps[j].ys := hs.1 _ (List.mem_cons_of_mem _ (List.mem_map.2 ⟨_, hm, rfl⟩))
    exact ⟨hn _ hm, hw.len, h1, h2, h3, fun t ht ho => by omega⟩))
  rw [← hvs]
  have HA := Lib.hid hA
  have HLO := Lib.hid hlo
  clear hs hp hl hn hvs hlo hA
  go_enter Tryz.func51, Tryz.ntmps51
  go_wp2
  go_loopw [3] (fun t3 wr => ∃ i : Nat, t3 = .int .i64 (i : Int) ∧ i ≤ nk ∧ Hid (∃ ps, GrI lo 1 nk (.slice A nk ck) (.slice none 0 0) 0 [] vs ps W wr (PhA 1 mkBytes i 0))) (fun t3 _ => nk - (intOf t3).toNat)
  case atStart => exact ⟨0, rfl, Nat.zero_le _, Lib.hid ⟨_, H0.out⟩⟩
  case round =>
    obtain ⟨i, rfl, hi, HP0⟩ := hrel
    rename World => wr
    by_cases hin : i < nk
    · obtain ⟨ps, hP⟩ := HP0.out
      have HP := Lib.hid hP
      clear HP0 hP
      go_wp2
      go_loopw [4] (fun t4 wr => ∃ k : Nat, t4 = .int .i64 (k : Int) ∧ Hid (∃ ps, GrI lo 1 nk (.slice A nk ck) (.slice none 0 0) 0 [] vs ps W wr (PhA 1 mkBytes i k) ∧ ∃ h : i < ps.length, k ≤ ps[i].n)) (fun t4 _ => 1000000 - (intOf t4).toNat)
      case atStart => exact ⟨0, rfl, Lib.hid ⟨_, HP.out, by rw [HP.out.plen]; exact hin, Nat.zero_le _⟩⟩
      case round =>
      clear HP
      obtain ⟨k, rfl, HP0⟩ := hrel
      rename World => wr
      obtain ⟨ps, hP, hip, hkn⟩ := HP0.out
      have HP := Lib.hid hP
      obtain ⟨gk, ck2, hK, _, ck0⟩ := hP.cellK i hin
      injection hK with hK1 _ hK2
      subst hK1
      subst hK2
      obtain ⟨⟨Ai, ci, hvi⟩, _⟩ := hP.form i hip
      rw [hvi] at ck0
      have hn6 := (hP.phi i hip).1
      have hST := fun hk => hP.store (Φ' := PhA 1 mkBytes i (k + 1)) i hip k hk (mkBytes i k) rfl
      have HPH := Lib.hid (fun hk => (hP.phi i hip).put (us := mkBytes i k) rfl rfl hk)
      obtain ⟨n, hn⟩ : ∃ n, n = ps[i].n := ⟨_, rfl⟩
      have HNN := Lib.hid hn
      rw [← hn] at ck0 hn6 hST hvi hkn
      clear HP0 hP hn
      by_cases hlt : k < n
      · obtain ⟨g, c2, hv2, hroom, hnew⟩ := hST hlt
        rw [hvi] at hv2
        injection hv2 with hv3 _ _
        subst hv3
        have HNEW := Lib.hid hnew
        obtain ⟨u0, d0⟩ := Option.isSome_iff_exists.1 (hroom (k) (by omega)).1
        have f0 := (hroom (k) (by omega)).2
        have HFIN := HNEW.out wr (Below.refl _ _) (by rw [HNN.out]; exact HPH.out (by rw [← HNN.out]; exact hlt)) (fun j hj hne h => h.other hne _)
        rw [Nat.mul_one] at HFIN
        have HFIN := Lib.hid HFIN
        clear hnew hroom hST
        go_wp2
        go_roundw
        case rel => exact ⟨k + 1, by go_num, Lib.hid ⟨_, HFIN.out, by rw [List.length_set]; exact hip, by rw [List.getElem_set_self]; show k + 1 ≤ n; omega⟩⟩
        case measure => simp [intOf]; omega
      · clear hST
        go_wp2
        go_roundw
        case rel => exact ⟨i + 1, by go_num, by omega, Lib.hid ⟨_, HP.out.weak (fun j hj h => h.next (fun e => by subst e; have := HNN.out; omega))⟩⟩
        case measure => simp [intOf]; omega
    · obtain rfl : i = nk := by omega
      obtain ⟨ps, hP⟩ := HP0.out
      have HP := Lib.hid (show GrI lo 1 i (.slice A i ck) (.slice none 0 0) 0 [] vs ps W wr (PhB 1 W.heap.size mkBytes grBytes 0 0) from hP.weak (fun j hj h => h.done (by rw [← hP.plen]; exact hj)))
      have HWV := Lib.hid (show vs = ps.map Pg.w from by
        rw [← hP.vs_]
        refine List.map_congr_left (fun p hp => ?_)
        obtain ⟨j, hj, rfl⟩ := List.getElem_of_mem hp
        exact (hP.phi j hj).2.2.1.symm)
      have HVL := Lib.hid (show vs.length = i by have := hP.plen; rw [← hP.vs_, List.length_map]; exact this)
      have HV1 := Lib.hid (show ∀ u ∈ vs, u.oneCell' = true from fun u hu => by
        obtain ⟨p, hp, rfl⟩ := List.mem_map.1 (hP.vs_ ▸ hu)
        obtain ⟨j, hj, rfl⟩ := List.getElem_of_mem hp
        obtain ⟨⟨A2, c2, e2⟩, _⟩ := hP.form j hj
        rw [e2]; rfl)
      have hsz : W.heap.size ≤ wr.heap.size := hP.tur.size
      clear HP0 hP hin H0
      obtain ⟨i0, hi0, hz0, hz1, hz2⟩ := info_parts info_slBytes
      go_wp2_with (first
        | (at_builtin; refine wpList_append_cells _ rfl _ _ _ rfl wr.heap.size _ i0 _ 24 Tryz.underlying116 hi0 hz0 hz1 hz2 rfl (.slice none 0 0) 0 [] rfl (World.ownsRow_nil _ _ _ _) A i ck HA.out vs rfl HVL.out (HP.out.all.at rfl) HV1.out (by unfold maxLen; omega) (by omega) (Nat.le_refl _) ?_
           intro v0 w0 hown hg hv
           have hown : w0.ownsRow wr.heap.size 22 1 v0 i vs := (by simpa using hown)
           obtain ⟨Am, cm, hvm, _⟩ := (OwG.of hown).form
           subst hvm
           have HM := Lib.hid (show GrI lo 1 i (.slice A i ck) (.slice Am i cm) i (ps.map Pg.w) vs ps W w0 (PhB 1 W.heap.size mkBytes grBytes 0 0) from HWV.out ▸ HP.out.mk_ hg (OwG.of hown))
           have HMB := Lib.hid (show ∀ g, (Value.slice Am i cm).ownBlock = some g → W.heap.size ≤ g from fun g e => Nat.le_trans hsz ((OwG.of hown).lt g e).1)
           clear hown hg hv)
        | fail)
      clear HP HWV hsz
      go_loopw [6] (fun t6 wr => ∃ k : Nat, t6 = .int .i64 (k : Int) ∧ k ≤ 40 ∧ Hid (∃ ps, GrI lo 1 i (.slice A i ck) (.slice Am i cm) i (ps.map Pg.w) vs ps W wr (PhB 1 W.heap.size mkBytes grBytes k 0))) (fun t6 _ => 40 - (intOf t6).toNat)
      case atStart => exact ⟨0, rfl, by omega, Lib.hid ⟨_, HM.out⟩⟩
      case round =>
        clear HM
        obtain ⟨k, rfl, hk, HP0⟩ := hrel
        rename World => wr
        by_cases hk40 : k < 40
        · obtain ⟨ps, hP⟩ := HP0.out
          have HP := Lib.hid hP
          clear HP0 hP
          go_wp2
          go_loopw [7] (fun t7 wr => ∃ j : Nat, t7 = .int .i64 (j : Int) ∧ j ≤ i ∧ Hid (∃ ps, GrI lo 1 i (.slice A i ck) (.slice Am i cm) i (ps.map Pg.w) vs ps W wr (PhB 1 W.heap.size mkBytes grBytes k j))) (fun t7 _ => i - (intOf t7).toNat)
          case atStart => exact ⟨0, rfl, Nat.zero_le _, Lib.hid ⟨_, HP.out⟩⟩
          case round =>
          clear HP
          obtain ⟨j, rfl, hj, HP0⟩ := hrel
          rename World => wr
          obtain ⟨ps, hP⟩ := HP0.out
          by_cases hji : j < i
          · have HP := Lib.hid hP
            obtain ⟨gm, cm2, hMv, hgl, cm0, fm0⟩ := hP.cellM j hji
            injection hMv with hM1 _ hM2
            subst hM1
            subst hM2
            have hjp : j < ps.length := by rw [hP.plen]; exact hji
            obtain ⟨_, ⟨Aw, cw, hwv⟩⟩ := hP.form j hjp
            rw [hwv] at cm0
            have hsz : W.heap.size ≤ wr.heap.size := hP.tur.size
            have hlo2 := hP.lo_
            have HMN := Lib.hid (show some gm ≠ ps[j].w.ownBlock from fun e => hP.neM j hjp gm rfl (List.mem_append_right _ (own_list.2 e.symm)))
            have HPJ := Lib.hid (hP.phi j hjp)
            have HOW := Lib.hid ((hP.pair j hjp).2.1)
            have hm6 : ps[j].m ≤ 1000040 := by have h := HPJ.out; have h1 := h.2.1; have h2 := h.2.2.2.2.2.1 (Nat.le_refl _); omega
            obtain ⟨m, hm⟩ : ∃ m, m = ps[j].m := ⟨_, rfl⟩
            have HMM := Lib.hid hm
            rw [← hm] at hwv cm0 hm6
            clear HP0 hP hm
            have hb1 : Below wr.heap.size wr (wr.alloc (.cells #[.int .u8 ((255 - (j : Int) * 37 - (k : Int)) % 256)] 5)) := (Below.refl _ _).alloc (Nat.le_refl _) _
            have HB1 := Lib.hid hb1
            have HO1 := Lib.hid (show OwG (wr.alloc (.cells #[.int .u8 ((255 - (j : Int) * 37 - (k : Int)) % 256)] 5)) lo 1 (.slice Aw m cw) m ps[j].zs from by rw [← hwv, HMM.out]; exact HOW.out.below hb1)
            have HC1 := Lib.hid (show CellsAt (wr.alloc (.cells #[.int .u8 ((255 - (j : Int) * 37 - (k : Int)) % 256)] 5)) (some ⟨wr.heap.size, 0, none⟩) (grBytes j k) from alloc_cells wr _ (grBytes j k))
            have hc1 : (wr.alloc (.cells #[.int .u8 ((255 - (j : Int) * 37 - (k : Int)) % 256)] 5)).cell? ⟨gm, j, none⟩ = some (.slice Aw m cw) := (hb1.cell (p := ⟨gm, j, none⟩) hgl).trans cm0
            have hf1 : (wr.alloc (.cells #[.int .u8 ((255 - (j : Int) * 37 - (k : Int)) % 256)] 5)).frozen? ⟨gm, j, none⟩ = false := (hb1.frozen (p := ⟨gm, j, none⟩) hgl).trans fm0
            have hgl1 : gm < (wr.alloc (.cells #[.int .u8 ((255 - (j : Int) * 37 - (k : Int)) % 256)] 5)).heap.size := by simp; omega
            have HW1 := Lib.hid (And.intro hc1 (And.intro hf1 hgl1))
            clear hc1 hf1 hgl1 hb1
            obtain ⟨i0, z0, hi0, hz0, hz1, hz2, hz3⟩ := infoEBytes
            go_wp2_with (first
              | (at_builtin; refine wpList_append_keepG rfl _ _ _ rfl _ i0 z0 1 1 Tryz.underlying22 hi0 hz0 hz1 hz2 hz3 (by decide) lo (.slice Aw m cw) m ps[j].zs rfl HO1.out ⟨wr.heap.size, 0, none⟩ 1 1 (grBytes j k) rfl rfl HC1.out (grBytes_one j k) (by unfold maxLen; omega) (by omega) (Nat.le_trans hlo2 (by simp)) ?_
                 intro v0 w6 hold hnew hg hv
                 obtain ⟨A6, c6, hv6, _⟩ := hnew.form
                 subst hv6
                 obtain ⟨cm6, fm6⟩ := grownCell hg HW1.out.2.2 (by rw [← hwv]; exact HMN.out) HW1.out.1 HW1.out.2.1
                 have HK := Lib.hid (grown_kind hv)
                 have HJ := Lib.hid (show GrI lo 1 i (.slice A i ck) (.slice (some ⟨gm, 0, none⟩) i cm) i (ps.map Pg.w) vs (ps.set j ⟨ps[j].v, .slice A6 (m + 1) c6, ps[j].n, m + 1, ps[j].ys, ps[j].zs ++ grBytes j k⟩) W w6 (PhB 1 W.heap.size mkBytes grBytes k (j + 1)) from by
                   have h := HP.out.app (Φ' := PhB 1 W.heap.size mkBytes grBytes k (j + 1)) (m := 1) j hjp HB1.out (.inr (fun b e => (HPJ.out.1 b e).imp_left (fun e2 => ⟨_, List.mem_of_getElem? (HP.out.v_at j hjp), e2⟩))) (by rw [← HMM.out, hwv]; exact hold) (by rw [← HMM.out]; exact hnew) (by rw [hwv]; exact hg) (by rw [← HMM.out, hwv]; exact hv) (by decide)
                     (HPJ.out.app rfl rfl (fun b e => (HK.out b e).imp (fun e2 => by rw [hwv]; exact e2) (fun e2 => by have := HB1.out.size; omega))) (fun t ht hne h => h.other hne)
                   rw [← HMM.out] at h
                   exact h)
                 clear hold hnew hg hv)
              | fail)
            go_roundw
            case rel => exact ⟨j + 1, by go_num, by omega, Lib.hid ⟨_, by
              have h := HJ.out.put j hji rfl (.slice A6 (m + 1) c6) (HMB.out gm rfl)
              have e : (ps.map Pg.w).set j (.slice A6 (m + 1) c6) = (ps.set j ⟨ps[j].v, .slice A6 (m + 1) c6, ps[j].n, m + 1, ps[j].ys, ps[j].zs ++ grBytes j k⟩).map Pg.w := by rw [List.map_set]
              rw [e] at h
              exact h⟩⟩
            case measure => simp [intOf]; omega
          · have HP := Lib.hid (show GrI lo 1 i (.slice A i ck) (.slice Am i cm) i (ps.map Pg.w) vs ps W wr (PhB 1 W.heap.size mkBytes grBytes (k + 1) 0) from hP.weak (fun t ht h => h.next (by have := hP.plen; omega)))
            clear HP0 hP
            go_wp2
            go_roundw
            case rel => exact ⟨k + 1, by go_num, by omega, Lib.hid ⟨_, HP.out⟩⟩
            case measure => simp [intOf]; omega
        · obtain rfl : k = 40 := by omega
          clear hk40
          obtain ⟨ps, hP⟩ := HP0.out
          have HP := Lib.hid hP
          clear HP0 hP
          go_wp2
          go_loopw [8] (fun t8 wr => ∃ j : Nat, t8 = .int .i64 (j : Int) ∧ j ≤ i ∧ Hid (GrI lo 1 i (.slice A i ck) (.slice Am i cm) i (ps.map Pg.w) vs ps W wr (PhB 1 W.heap.size mkBytes grBytes 40 0))) (fun t8 _ => i - (intOf t8).toNat)
          case atStart => exact ⟨0, rfl, Nat.zero_le _, HP⟩
          case round =>
            obtain ⟨j, rfl, hj, HPz⟩ := hrel
            rename World => wz
            clear HP
            by_cases hji : j < i
            · have hP := HPz.out
              obtain ⟨gk, ck2, hK, _, ck0⟩ := hP.cellK j hji
              injection hK with hK1 _ hK2
              subst hK1
              subst hK2
              obtain ⟨gm, cm2, hMv, hx1, hx2, hx3⟩ := hP.cellM j hji
              clear hx1 hx2 hx3
              injection hMv with hM1 _ hM2
              subst hM1
              subst hM2
              have hjp : j < ps.length := by rw [hP.plen]; exact hji
              have HPH := Lib.hid (hP.phi j hjp)
              obtain ⟨⟨Av, cv, hvv⟩, ⟨Aw, cw, hwv⟩⟩ := hP.form j hjp
              have hn6 : ps[j].n ≤ 1000000 := HPH.out.2.1
              have hm40 : ps[j].m = ps[j].n + 40 := HPH.out.2.2.2.2.2.1 (Nat.zero_le _)
              obtain ⟨n, hn⟩ : ∃ n, n = ps[j].n := ⟨_, rfl⟩
              rw [← hn] at hvv hn6 hm40
              rw [hm40] at hwv
              rw [hvv] at ck0
              have HFV := Lib.hid hvv
              have HFW := Lib.hid hwv
              have HNN := Lib.hid hn
              have HMM := Lib.hid hm40
              clear hP hn hm40 hvv hwv
              go_wp2
              go_loopw [10] (fun t10 wy => ∃ k : Nat, t10 = .int .i64 (k : Int) ∧ k ≤ n + 40 ∧ Hid (GrI lo 1 i (.slice (some ⟨gk, 0, none⟩) i ck) (.slice (some ⟨gm, 0, none⟩) i cm) i (ps.map Pg.w) vs ps W wy (PhB 1 W.heap.size mkBytes grBytes 40 0))) (fun t10 _ => n + 40 - (intOf t10).toNat)
              case atStart => exact ⟨0, rfl, Nat.zero_le _, HPz⟩
              case round =>
                obtain ⟨k, rfl, hk, HPy⟩ := hrel
                rename World => wy
                clear HPz ck0
                by_cases hk40 : k < n + 40
                · obtain ⟨gk', ckk, hK, hgk, ck0⟩ := HPy.out.cellK j hji
                  injection hK with hK1 _ hK2
                  subst hK2
                  injection hK1 with hK1
                  injection hK1 with hK1
                  subst hK1
                  obtain ⟨gm', cmm, hMv, hgm, cm0, hfm⟩ := HPy.out.cellM j hji
                  clear hfm
                  injection hMv with hM1 _ hM2
                  subst hM2
                  injection hM1 with hM1
                  injection hM1 with hM1
                  subst hM1
                  rw [HFV.out] at ck0
                  rw [HFW.out] at cm0
                  obtain ⟨o1, o2, _, _⟩ := HPy.out.pair j hjp
                  have O1 := Lib.hid (show OwG wy lo 1 (.slice Av n cv) n ps[j].ys by rw [← HFV.out, HNN.out]; exact o1)
                  have O2 := Lib.hid (show OwG wy lo 1 (.slice Aw (n + 40) cw) (n + 40) ps[j].zs by rw [← HFW.out, ← HMM.out]; exact o2)
                  clear o1 o2
                  by_cases hkn : k < n
                  · have EM := Lib.hid (HPH.out.2.2.2.2.2.2.1 k (by rw [← HNN.out]; exact hkn))
                    obtain ⟨gv, cvv, hgv, _⟩ := O1.out.some_ (by omega)
                    injection hgv with hgv _ hgx
                    subst hgv
                    subst hgx
                    obtain ⟨gw, cww, hgw, _⟩ := O2.out.some_ (by omega)
                    injection hgw with hgw _ hgx
                    subst hgw
                    subst hgx
                    have a0 : wy.cell? ⟨gv, k, none⟩ = some (.int .u8 (((j : Int) * 37 + (k : Int)) % 256)) := (by have h := O1.out.el rfl EM.out.1 (j := 0) (by decide) rfl; rwa [Nat.mul_one] at h)
                    have b0 : wy.cell? ⟨gw, k, none⟩ = some (.int .u8 (((j : Int) * 37 + (k : Int)) % 256)) := (by have h := O2.out.el rfl EM.out.2 (j := 0) (by decide) rfl; rwa [Nat.mul_one] at h)
                    have hgv : gv < wy.heap.size := (O1.out.lt gv rfl).2
                    clear O1 O2 EM
                    go_wp2
                    go_roundw
                    case rel => exact ⟨k + 1, by go_num, by omega, HPy⟩
                    case measure => simp [intOf]; omega
                  · obtain ⟨t, hkt⟩ : ∃ t, k = n + t := ⟨k - n, by omega⟩
                    have EM := Lib.hid (show ElA ps[j].zs 1 k (grBytes j t) by rw [hkt]; have := HPH.out.2.2.2.2.2.2.2 t (by rw [HMM.out, ← HNN.out]; omega); rw [← HNN.out] at this; exact this)
                    have HKT := Lib.hid hkt
                    clear hkt
                    obtain ⟨gw, _, hgw, _⟩ := O2.out.some_ (by omega)
                    injection hgw with hgw _ hgx
                    subst hgw
                    subst hgx
                    have b0 : wy.cell? ⟨gw, k, none⟩ = some (.int .u8 ((255 - (j : Int) * 37 - (t : Int)) % 256)) := (by have h := O2.out.el rfl EM.out (j := 0) (by decide) rfl; rwa [Nat.mul_one] at h)
                    rw [show (t : Int) = (k : Int) - (n : Int) by have := HKT.out; omega] at b0
                    clear O1 O2 EM
                    go_wp2
                    go_roundw
                    case rel => exact ⟨k + 1, by go_num, by omega, HPy⟩
                    case measure => simp [intOf]; omega
                · go_wp2
                  go_roundw
                  case rel => ((repeat apply Exists.intro); exact ⟨⟨j + 1, by go_num, by omega, HPy⟩, rfl⟩)
                  case measure => simp [intOf]; omega
            · go_wp2
              go_ret
              exact ⟨rfl, HPz.out.tur⟩
end Go.Proofs.YteffpfgdoganpaaGreatDoor

namespace Go.Proofs.YteffpfgdoganpaaGreatDoor
open Go.RowKit

def mkCells (i k : Nat) : List Value := [.int .i64 (i : Int), .string ⟨#[116, 111, 108, 100]⟩, .int .i64 (k : Int)]
def grCells (i k : Nat) : List Value := [.int .i64 (i : Int), .string ⟨#[109, 111, 114, 101]⟩, .int .i64 (k : Int)]
theorem grCells_one (i k : Nat) : ∀ u ∈ grCells i k, u.oneCell' = true := fun u hu => by
  unfold grCells at hu
  simp only [List.mem_cons, List.not_mem_nil, or_false] at hu
  rcases hu with rfl | rfl | rfl <;> rfl
theorem info_slCells : (Tryz.prog.info? 25).map (fun i => (i.zero, i.size, i.bytes)) = some (some (.slice none 0 0), 1, 24) := by kernel_rfl
theorem infoE0Cells : (Tryz.prog.info? 27).map (fun i => (i.zero.map (fun z => z.cells.size), i.size, i.bytes)) = some (some 3, 3, 32) := by kernel_rfl
theorem infoECells : ∃ i z, Tryz.prog.info? 27 = some i ∧ i.zero = some z ∧ i.size = 3 ∧ i.bytes = 32 ∧ z.cells.size = 3 := by
  have h := infoE0Cells
  cases hi : Tryz.prog.info? 27 with
  | none => rw [hi] at h; cases h
  | some ic =>
    rw [hi] at h
    injection h with h
    injection h with h1 h2
    injection h2 with h2 h3
    cases hz : ic.zero with
    | none => rw [hz] at h1; cases h1
    | some z =>
      rw [hz] at h1
      injection h1 with h1
      exact ⟨ic, z, rfl, hz, h2, h3, h1⟩
set_option maxHeartbeats 16000000 in
set_option maxRecDepth 100000 in
theorem grownCells_any (lo nk ck : Nat) (A : Option Addr) (ps : List Pg) (W : World) (hs : Sep lo W (rG lo 1 (.slice A nk ck) nk (ps.map Pg.v) :: ps.map fun p => rG lo 3 p.v p.n p.ys)) (hp : ∀ p ∈ ps, p.w = p.v ∧ p.m = p.n ∧ p.zs = p.ys) (hl : ps.length = nk) (hlo : lo ≤ W.heap.size) (hn : ∀ p ∈ ps, p.n ≤ 1000000) (hnk : nk ≤ 1000) (hA : A = none → ck = 0) :
    Calls Tryz.prog 50 #[.slice A nk ck] W fun e w' => e = .returned (.bool true) ∧ Tur (vB (ps.map Pg.v)) W w' := by
  obtain ⟨vs, hvs⟩ : ∃ vs, vs = ps.map Pg.v := ⟨_, rfl⟩
  have H0 := Lib.hid (show GrI lo 3 nk (.slice A nk ck) (.slice none 0 0) 0 [] vs ps W W (PhA 3 mkCells 0 0) from GrI.start (hvs ▸ hs) hp hl hvs.symm hlo (fun j hj => by
    have hm := List.getElem_mem hj
    obtain ⟨h1, h2, h3⟩ := hp _ hm
    have hw : OwG W lo 3 ps[j].v ps[j].n ps[j].ys := hs.1 _ (List.mem_cons_of_mem _ (List.mem_map.2 ⟨_, hm, rfl⟩))
    exact ⟨hn _ hm, hw.len, h1, h2, h3, fun t ht ho => by omega⟩))
  rw [← hvs]
  have HA := Lib.hid hA
  have HLO := Lib.hid hlo
  clear hs hp hl hn hvs hlo hA
  go_enter Tryz.func50, Tryz.ntmps50
  go_wp2
  go_loopw [3] (fun t3 wr => ∃ i : Nat, t3 = .int .i64 (i : Int) ∧ i ≤ nk ∧ Hid (∃ ps, GrI lo 3 nk (.slice A nk ck) (.slice none 0 0) 0 [] vs ps W wr (PhA 3 mkCells i 0))) (fun t3 _ => nk - (intOf t3).toNat)
  case atStart => exact ⟨0, rfl, Nat.zero_le _, Lib.hid ⟨_, H0.out⟩⟩
  case round =>
    obtain ⟨i, rfl, hi, HP0⟩ := hrel
    rename World => wr
    by_cases hin : i < nk
    · obtain ⟨ps, hP⟩ := HP0.out
      have HP := Lib.hid hP
      clear HP0 hP
      go_wp2
      go_loopw [4] (fun t4 wr => ∃ k : Nat, t4 = .int .i64 (k : Int) ∧ Hid (∃ ps, GrI lo 3 nk (.slice A nk ck) (.slice none 0 0) 0 [] vs ps W wr (PhA 3 mkCells i k) ∧ ∃ h : i < ps.length, k ≤ ps[i].n)) (fun t4 _ => 1000000 - (intOf t4).toNat)
      case atStart => exact ⟨0, rfl, Lib.hid ⟨_, HP.out, by rw [HP.out.plen]; exact hin, Nat.zero_le _⟩⟩
      case round =>
      clear HP
      obtain ⟨k, rfl, HP0⟩ := hrel
      rename World => wr
      obtain ⟨ps, hP, hip, hkn⟩ := HP0.out
      have HP := Lib.hid hP
      obtain ⟨gk, ck2, hK, _, ck0⟩ := hP.cellK i hin
      injection hK with hK1 _ hK2
      subst hK1
      subst hK2
      obtain ⟨⟨Ai, ci, hvi⟩, _⟩ := hP.form i hip
      rw [hvi] at ck0
      have hn6 := (hP.phi i hip).1
      have hST := fun hk => hP.store (Φ' := PhA 3 mkCells i (k + 1)) i hip k hk (mkCells i k) rfl
      have HPH := Lib.hid (fun hk => (hP.phi i hip).put (us := mkCells i k) rfl rfl hk)
      obtain ⟨n, hn⟩ : ∃ n, n = ps[i].n := ⟨_, rfl⟩
      have HNN := Lib.hid hn
      rw [← hn] at ck0 hn6 hST hvi hkn
      clear HP0 hP hn
      by_cases hlt : k < n
      · obtain ⟨g, c2, hv2, hroom, hnew⟩ := hST hlt
        rw [hvi] at hv2
        injection hv2 with hv3 _ _
        subst hv3
        have HNEW := Lib.hid hnew
        obtain ⟨u0, d0⟩ := Option.isSome_iff_exists.1 (hroom (k * 3) (by omega)).1
        have f0 := (hroom (k * 3) (by omega)).2
        obtain ⟨u1, d1⟩ := Option.isSome_iff_exists.1 (hroom (k * 3 + 1) (by omega)).1
        have f1 := (hroom (k * 3 + 1) (by omega)).2
        obtain ⟨u2, d2⟩ := Option.isSome_iff_exists.1 (hroom (k * 3 + 2) (by omega)).1
        have f2 := (hroom (k * 3 + 2) (by omega)).2
        have HFIN := HNEW.out wr (Below.refl _ _) (by rw [HNN.out]; exact HPH.out (by rw [← HNN.out]; exact hlt)) (fun j hj hne h => h.other hne _)
        skip
        have HFIN := Lib.hid HFIN
        clear hnew hroom hST
        go_wp2
        go_roundw
        case rel => exact ⟨k + 1, by go_num, Lib.hid ⟨_, HFIN.out, by rw [List.length_set]; exact hip, by rw [List.getElem_set_self]; show k + 1 ≤ n; omega⟩⟩
        case measure => simp [intOf]; omega
      · clear hST
        go_wp2
        go_roundw
        case rel => exact ⟨i + 1, by go_num, by omega, Lib.hid ⟨_, HP.out.weak (fun j hj h => h.next (fun e => by subst e; have := HNN.out; omega))⟩⟩
        case measure => simp [intOf]; omega
    · obtain rfl : i = nk := by omega
      obtain ⟨ps, hP⟩ := HP0.out
      have HP := Lib.hid (show GrI lo 3 i (.slice A i ck) (.slice none 0 0) 0 [] vs ps W wr (PhB 3 W.heap.size mkCells grCells 0 0) from hP.weak (fun j hj h => h.done (by rw [← hP.plen]; exact hj)))
      have HWV := Lib.hid (show vs = ps.map Pg.w from by
        rw [← hP.vs_]
        refine List.map_congr_left (fun p hp => ?_)
        obtain ⟨j, hj, rfl⟩ := List.getElem_of_mem hp
        exact (hP.phi j hj).2.2.1.symm)
      have HVL := Lib.hid (show vs.length = i by have := hP.plen; rw [← hP.vs_, List.length_map]; exact this)
      have HV1 := Lib.hid (show ∀ u ∈ vs, u.oneCell' = true from fun u hu => by
        obtain ⟨p, hp, rfl⟩ := List.mem_map.1 (hP.vs_ ▸ hu)
        obtain ⟨j, hj, rfl⟩ := List.getElem_of_mem hp
        obtain ⟨⟨A2, c2, e2⟩, _⟩ := hP.form j hj
        rw [e2]; rfl)
      have hsz : W.heap.size ≤ wr.heap.size := hP.tur.size
      clear HP0 hP hin H0
      obtain ⟨i0, hi0, hz0, hz1, hz2⟩ := info_parts info_slCells
      go_wp2_with (first
        | (at_builtin; refine wpList_append_cells _ rfl _ _ _ rfl wr.heap.size _ i0 _ 24 Tryz.underlying117 hi0 hz0 hz1 hz2 rfl (.slice none 0 0) 0 [] rfl (World.ownsRow_nil _ _ _ _) A i ck HA.out vs rfl HVL.out (HP.out.all.at rfl) HV1.out (by unfold maxLen; omega) (by omega) (Nat.le_refl _) ?_
           intro v0 w0 hown hg hv
           have hown : w0.ownsRow wr.heap.size 25 1 v0 i vs := (by simpa using hown)
           obtain ⟨Am, cm, hvm, _⟩ := (OwG.of hown).form
           subst hvm
           have HM := Lib.hid (show GrI lo 3 i (.slice A i ck) (.slice Am i cm) i (ps.map Pg.w) vs ps W w0 (PhB 3 W.heap.size mkCells grCells 0 0) from HWV.out ▸ HP.out.mk_ hg (OwG.of hown))
           have HMB := Lib.hid (show ∀ g, (Value.slice Am i cm).ownBlock = some g → W.heap.size ≤ g from fun g e => Nat.le_trans hsz ((OwG.of hown).lt g e).1)
           clear hown hg hv)
        | fail)
      clear HP HWV hsz
      go_loopw [6] (fun t6 wr => ∃ k : Nat, t6 = .int .i64 (k : Int) ∧ k ≤ 40 ∧ Hid (∃ ps, GrI lo 3 i (.slice A i ck) (.slice Am i cm) i (ps.map Pg.w) vs ps W wr (PhB 3 W.heap.size mkCells grCells k 0))) (fun t6 _ => 40 - (intOf t6).toNat)
      case atStart => exact ⟨0, rfl, by omega, Lib.hid ⟨_, HM.out⟩⟩
      case round =>
        clear HM
        obtain ⟨k, rfl, hk, HP0⟩ := hrel
        rename World => wr
        by_cases hk40 : k < 40
        · obtain ⟨ps, hP⟩ := HP0.out
          have HP := Lib.hid hP
          clear HP0 hP
          go_wp2
          go_loopw [7] (fun t7 wr => ∃ j : Nat, t7 = .int .i64 (j : Int) ∧ j ≤ i ∧ Hid (∃ ps, GrI lo 3 i (.slice A i ck) (.slice Am i cm) i (ps.map Pg.w) vs ps W wr (PhB 3 W.heap.size mkCells grCells k j))) (fun t7 _ => i - (intOf t7).toNat)
          case atStart => exact ⟨0, rfl, Nat.zero_le _, Lib.hid ⟨_, HP.out⟩⟩
          case round =>
          clear HP
          obtain ⟨j, rfl, hj, HP0⟩ := hrel
          rename World => wr
          obtain ⟨ps, hP⟩ := HP0.out
          by_cases hji : j < i
          · have HP := Lib.hid hP
            obtain ⟨gm, cm2, hMv, hgl, cm0, fm0⟩ := hP.cellM j hji
            injection hMv with hM1 _ hM2
            subst hM1
            subst hM2
            have hjp : j < ps.length := by rw [hP.plen]; exact hji
            obtain ⟨_, ⟨Aw, cw, hwv⟩⟩ := hP.form j hjp
            rw [hwv] at cm0
            have hsz : W.heap.size ≤ wr.heap.size := hP.tur.size
            have hlo2 := hP.lo_
            have HMN := Lib.hid (show some gm ≠ ps[j].w.ownBlock from fun e => hP.neM j hjp gm rfl (List.mem_append_right _ (own_list.2 e.symm)))
            have HPJ := Lib.hid (hP.phi j hjp)
            have HOW := Lib.hid ((hP.pair j hjp).2.1)
            have hm6 : ps[j].m ≤ 1000040 := by have h := HPJ.out; have h1 := h.2.1; have h2 := h.2.2.2.2.2.1 (Nat.le_refl _); omega
            obtain ⟨m, hm⟩ : ∃ m, m = ps[j].m := ⟨_, rfl⟩
            have HMM := Lib.hid hm
            rw [← hm] at hwv cm0 hm6
            clear HP0 hP hm
            have hb1 : Below wr.heap.size wr (wr.alloc (.cells #[.int .i64 (j : Int), .string ⟨#[109, 111, 114, 101]⟩, .int .i64 (k : Int)] 27)) := (Below.refl _ _).alloc (Nat.le_refl _) _
            have HB1 := Lib.hid hb1
            have HO1 := Lib.hid (show OwG (wr.alloc (.cells #[.int .i64 (j : Int), .string ⟨#[109, 111, 114, 101]⟩, .int .i64 (k : Int)] 27)) lo 3 (.slice Aw m cw) m ps[j].zs from by rw [← hwv, HMM.out]; exact HOW.out.below hb1)
            have HC1 := Lib.hid (show CellsAt (wr.alloc (.cells #[.int .i64 (j : Int), .string ⟨#[109, 111, 114, 101]⟩, .int .i64 (k : Int)] 27)) (some ⟨wr.heap.size, 0, none⟩) (grCells j k) from alloc_cells wr _ (grCells j k))
            have hc1 : (wr.alloc (.cells #[.int .i64 (j : Int), .string ⟨#[109, 111, 114, 101]⟩, .int .i64 (k : Int)] 27)).cell? ⟨gm, j, none⟩ = some (.slice Aw m cw) := (hb1.cell (p := ⟨gm, j, none⟩) hgl).trans cm0
            have hf1 : (wr.alloc (.cells #[.int .i64 (j : Int), .string ⟨#[109, 111, 114, 101]⟩, .int .i64 (k : Int)] 27)).frozen? ⟨gm, j, none⟩ = false := (hb1.frozen (p := ⟨gm, j, none⟩) hgl).trans fm0
            have hgl1 : gm < (wr.alloc (.cells #[.int .i64 (j : Int), .string ⟨#[109, 111, 114, 101]⟩, .int .i64 (k : Int)] 27)).heap.size := by simp; omega
            have HW1 := Lib.hid (And.intro hc1 (And.intro hf1 hgl1))
            clear hc1 hf1 hgl1 hb1
            obtain ⟨i0, z0, hi0, hz0, hz1, hz2, hz3⟩ := infoECells
            go_wp2_with (first
              | (at_builtin; refine wpList_append_keepG rfl _ _ _ rfl _ i0 z0 3 32 Tryz.underlying25 hi0 hz0 hz1 hz2 hz3 (by decide) lo (.slice Aw m cw) m ps[j].zs rfl HO1.out ⟨wr.heap.size, 0, none⟩ 1 1 (grCells j k) rfl rfl HC1.out (grCells_one j k) (by unfold maxLen; omega) (by omega) (Nat.le_trans hlo2 (by simp)) ?_
                 intro v0 w6 hold hnew hg hv
                 obtain ⟨A6, c6, hv6, _⟩ := hnew.form
                 subst hv6
                 obtain ⟨cm6, fm6⟩ := grownCell hg HW1.out.2.2 (by rw [← hwv]; exact HMN.out) HW1.out.1 HW1.out.2.1
                 have HK := Lib.hid (grown_kind hv)
                 have HJ := Lib.hid (show GrI lo 3 i (.slice A i ck) (.slice (some ⟨gm, 0, none⟩) i cm) i (ps.map Pg.w) vs (ps.set j ⟨ps[j].v, .slice A6 (m + 1) c6, ps[j].n, m + 1, ps[j].ys, ps[j].zs ++ grCells j k⟩) W w6 (PhB 3 W.heap.size mkCells grCells k (j + 1)) from by
                   have h := HP.out.app (Φ' := PhB 3 W.heap.size mkCells grCells k (j + 1)) (m := 1) j hjp HB1.out (.inr (fun b e => (HPJ.out.1 b e).imp_left (fun e2 => ⟨_, List.mem_of_getElem? (HP.out.v_at j hjp), e2⟩))) (by rw [← HMM.out, hwv]; exact hold) (by rw [← HMM.out]; exact hnew) (by rw [hwv]; exact hg) (by rw [← HMM.out, hwv]; exact hv) (by decide)
                     (HPJ.out.app rfl rfl (fun b e => (HK.out b e).imp (fun e2 => by rw [hwv]; exact e2) (fun e2 => by have := HB1.out.size; omega))) (fun t ht hne h => h.other hne)
                   rw [← HMM.out] at h
                   exact h)
                 clear hold hnew hg hv)
              | fail)
            go_roundw
            case rel => exact ⟨j + 1, by go_num, by omega, Lib.hid ⟨_, by
              have h := HJ.out.put j hji rfl (.slice A6 (m + 1) c6) (HMB.out gm rfl)
              have e : (ps.map Pg.w).set j (.slice A6 (m + 1) c6) = (ps.set j ⟨ps[j].v, .slice A6 (m + 1) c6, ps[j].n, m + 1, ps[j].ys, ps[j].zs ++ grCells j k⟩).map Pg.w := by rw [List.map_set]
              rw [e] at h
              exact h⟩⟩
            case measure => simp [intOf]; omega
          · have HP := Lib.hid (show GrI lo 3 i (.slice A i ck) (.slice Am i cm) i (ps.map Pg.w) vs ps W wr (PhB 3 W.heap.size mkCells grCells (k + 1) 0) from hP.weak (fun t ht h => h.next (by have := hP.plen; omega)))
            clear HP0 hP
            go_wp2
            go_roundw
            case rel => exact ⟨k + 1, by go_num, by omega, Lib.hid ⟨_, HP.out⟩⟩
            case measure => simp [intOf]; omega
        · obtain rfl : k = 40 := by omega
          clear hk40
          obtain ⟨ps, hP⟩ := HP0.out
          have HP := Lib.hid hP
          clear HP0 hP
          go_wp2
          go_loopw [8] (fun t8 wr => ∃ j : Nat, t8 = .int .i64 (j : Int) ∧ j ≤ i ∧ Hid (GrI lo 3 i (.slice A i ck) (.slice Am i cm) i (ps.map Pg.w) vs ps W wr (PhB 3 W.heap.size mkCells grCells 40 0))) (fun t8 _ => i - (intOf t8).toNat)
          case atStart => exact ⟨0, rfl, Nat.zero_le _, HP⟩
          case round =>
            obtain ⟨j, rfl, hj, HPz⟩ := hrel
            rename World => wz
            clear HP
            by_cases hji : j < i
            · have hP := HPz.out
              obtain ⟨gk, ck2, hK, _, ck0⟩ := hP.cellK j hji
              injection hK with hK1 _ hK2
              subst hK1
              subst hK2
              obtain ⟨gm, cm2, hMv, hx1, hx2, hx3⟩ := hP.cellM j hji
              clear hx1 hx2 hx3
              injection hMv with hM1 _ hM2
              subst hM1
              subst hM2
              have hjp : j < ps.length := by rw [hP.plen]; exact hji
              have HPH := Lib.hid (hP.phi j hjp)
              obtain ⟨⟨Av, cv, hvv⟩, ⟨Aw, cw, hwv⟩⟩ := hP.form j hjp
              have hn6 : ps[j].n ≤ 1000000 := HPH.out.2.1
              have hm40 : ps[j].m = ps[j].n + 40 := HPH.out.2.2.2.2.2.1 (Nat.zero_le _)
              obtain ⟨n, hn⟩ : ∃ n, n = ps[j].n := ⟨_, rfl⟩
              rw [← hn] at hvv hn6 hm40
              rw [hm40] at hwv
              rw [hvv] at ck0
              have HFV := Lib.hid hvv
              have HFW := Lib.hid hwv
              have HNN := Lib.hid hn
              have HMM := Lib.hid hm40
              clear hP hn hm40 hvv hwv
              go_wp2
              go_loopw [10] (fun t10 wy => ∃ k : Nat, t10 = .int .i64 (k : Int) ∧ k ≤ n + 40 ∧ Hid (GrI lo 3 i (.slice (some ⟨gk, 0, none⟩) i ck) (.slice (some ⟨gm, 0, none⟩) i cm) i (ps.map Pg.w) vs ps W wy (PhB 3 W.heap.size mkCells grCells 40 0))) (fun t10 _ => n + 40 - (intOf t10).toNat)
              case atStart => exact ⟨0, rfl, Nat.zero_le _, HPz⟩
              case round =>
                obtain ⟨k, rfl, hk, HPy⟩ := hrel
                rename World => wy
                clear HPz ck0
                by_cases hk40 : k < n + 40
                · obtain ⟨gk', ckk, hK, hgk, ck0⟩ := HPy.out.cellK j hji
                  injection hK with hK1 _ hK2
                  subst hK2
                  injection hK1 with hK1
                  injection hK1 with hK1
                  subst hK1
                  obtain ⟨gm', cmm, hMv, hgm, cm0, hfm⟩ := HPy.out.cellM j hji
                  clear hfm
                  injection hMv with hM1 _ hM2
                  subst hM2
                  injection hM1 with hM1
                  injection hM1 with hM1
                  subst hM1
                  rw [HFV.out] at ck0
                  rw [HFW.out] at cm0
                  obtain ⟨o1, o2, _, _⟩ := HPy.out.pair j hjp
                  have O1 := Lib.hid (show OwG wy lo 3 (.slice Av n cv) n ps[j].ys by rw [← HFV.out, HNN.out]; exact o1)
                  have O2 := Lib.hid (show OwG wy lo 3 (.slice Aw (n + 40) cw) (n + 40) ps[j].zs by rw [← HFW.out, ← HMM.out]; exact o2)
                  clear o1 o2
                  by_cases hkn : k < n
                  · have EM := Lib.hid (HPH.out.2.2.2.2.2.2.1 k (by rw [← HNN.out]; exact hkn))
                    obtain ⟨gv, cvv, hgv, _⟩ := O1.out.some_ (by omega)
                    injection hgv with hgv _ hgx
                    subst hgv
                    subst hgx
                    obtain ⟨gw, cww, hgw, _⟩ := O2.out.some_ (by omega)
                    injection hgw with hgw _ hgx
                    subst hgw
                    subst hgx
                    have a0 : wy.cell? ⟨gv, k * 3, none⟩ = some (.int .i64 (j : Int)) := O1.out.el rfl EM.out.1 (j := 0) (by decide) rfl
                    have b0 : wy.cell? ⟨gw, k * 3, none⟩ = some (.int .i64 (j : Int)) := O2.out.el rfl EM.out.2 (j := 0) (by decide) rfl
                    have a1 : wy.cell? ⟨gv, k * 3 + 1, none⟩ = some (.string ⟨#[116, 111, 108, 100]⟩) := O1.out.el rfl EM.out.1 (j := 1) (by decide) rfl
                    have b1 : wy.cell? ⟨gw, k * 3 + 1, none⟩ = some (.string ⟨#[116, 111, 108, 100]⟩) := O2.out.el rfl EM.out.2 (j := 1) (by decide) rfl
                    have a2 : wy.cell? ⟨gv, k * 3 + 2, none⟩ = some (.int .i64 (k : Int)) := O1.out.el rfl EM.out.1 (j := 2) (by decide) rfl
                    have b2 : wy.cell? ⟨gw, k * 3 + 2, none⟩ = some (.int .i64 (k : Int)) := O2.out.el rfl EM.out.2 (j := 2) (by decide) rfl
                    have e1 : ∀ w : World, (binOp .neq 27 (.agg #[.int .i64 (j : Int), .string ⟨#[116, 111, 108, 100]⟩, .int .i64 (k : Int)]) (.agg #[.int .i64 (j : Int), .string ⟨#[116, 111, 108, 100]⟩, .int .i64 (k : Int)])).run Tryz.prog w = .ok (.bool false) w := fun w => by
                      have h := neqCell ⟨(j : Int), ⟨#[116, 111, 108, 100]⟩, (k : Int)⟩ ⟨(j : Int), ⟨#[116, 111, 108, 100]⟩, (k : Int)⟩ w
                      rw [decide_eq_true rfl] at h
                      exact h
                    have hgv : gv < wy.heap.size := (O1.out.lt gv rfl).2
                    have hgw : gw < wy.heap.size := (O2.out.lt gw rfl).2
                    clear O1 O2 EM
                    go_wp2
                    have hbb : Below wy.heap.size wy (wy.alloc (.cells #[.int .i64 (j : Int), .string ⟨#[116, 111, 108, 100]⟩, .int .i64 (k : Int)] 27)) := (Below.refl _ _).alloc (Nat.le_refl _) _
                    have hsz : wy.heap.size < (wy.alloc (.cells #[.int .i64 (j : Int), .string ⟨#[116, 111, 108, 100]⟩, .int .i64 (k : Int)] 27)).heap.size := (Blk.new wy _ _).lt
                    have x0 : (wy.alloc (.cells #[.int .i64 (j : Int), .string ⟨#[116, 111, 108, 100]⟩, .int .i64 (k : Int)] 27)).cell? ⟨wy.heap.size, 0, none⟩ = some (.int .i64 (j : Int)) := (Blk.new wy 27 #[.int .i64 (j : Int), .string ⟨#[116, 111, 108, 100]⟩, .int .i64 (k : Int)]).cell 0
                    have x1 : (wy.alloc (.cells #[.int .i64 (j : Int), .string ⟨#[116, 111, 108, 100]⟩, .int .i64 (k : Int)] 27)).cell? ⟨wy.heap.size, 1, none⟩ = some (.string ⟨#[116, 111, 108, 100]⟩) := (Blk.new wy 27 #[.int .i64 (j : Int), .string ⟨#[116, 111, 108, 100]⟩, .int .i64 (k : Int)]).cell 1
                    have x2 : (wy.alloc (.cells #[.int .i64 (j : Int), .string ⟨#[116, 111, 108, 100]⟩, .int .i64 (k : Int)] 27)).cell? ⟨wy.heap.size, 2, none⟩ = some (.int .i64 (k : Int)) := (Blk.new wy 27 #[.int .i64 (j : Int), .string ⟨#[116, 111, 108, 100]⟩, .int .i64 (k : Int)]).cell 2
                    have K0 := (hbb.cell (p := ⟨gk, j, none⟩) hgk).trans ck0
                    have M0 := (hbb.cell (p := ⟨gm, j, none⟩) hgm).trans cm0
                    have A0 := (hbb.cell (p := ⟨gv, k * 3, none⟩) hgv).trans a0
                    have B0 := (hbb.cell (p := ⟨gw, k * 3, none⟩) hgw).trans b0
                    have A1 := (hbb.cell (p := ⟨gv, k * 3 + 1, none⟩) hgv).trans a1
                    have B1 := (hbb.cell (p := ⟨gw, k * 3 + 1, none⟩) hgw).trans b1
                    have A2 := (hbb.cell (p := ⟨gv, k * 3 + 2, none⟩) hgv).trans a2
                    have B2 := (hbb.cell (p := ⟨gw, k * 3 + 2, none⟩) hgw).trans b2
                    have HJ := Lib.hid (HPy.out.kept hbb)
                    clear hbb ck0 cm0 a0 b0 a1 b1 a2 b2
                    generalize (wy.alloc (.cells #[.int .i64 (j : Int), .string ⟨#[116, 111, 108, 100]⟩, .int .i64 (k : Int)] 27)) = wb at *
                    have hgk : gk < wb.heap.size := by omega
                    have hgm : gm < wb.heap.size := by omega
                    have hgw : gw < wb.heap.size := by omega
                    have hgv : gv < wb.heap.size := by omega
                    refine wp_region_heldq (B := wb.heap.size) (w1 := wb) (by kernel_rfl) (by kernel_rfl) (Held.of (Below.refl _ _).drew (Nat.le_refl _)) ?_
                    repeat
                      (with_reducible refine wpQuiet_step (fun K hK => ?_))
                      first
                        | ((with_reducible refine ite_pos_ ?_ ?_); (focus (go_simp; done)); apply Exists.intro; refine ⟨fun wz hzC => ?_, hK _ ?_⟩; (have hz := HeldC.out hzC; clear hzC; unfold Oper.quietAt; go_simp; (first | done | ((have h0 := (hz.1 gk j hgk).trans K0); (have h1 := (hz.1 gm j hgm).trans M0); (have i0 := (hz.1 wy.heap.size 0 hsz).trans x0); (have j0 := (hz.1 gv (k * 3) hgv).trans A0); (have k0 := (hz.1 gw (k * 3) hgw).trans B0); (have i1 := (hz.1 wy.heap.size 1 hsz).trans x1); (have j1 := (hz.1 gv (k * 3 + 1) hgv).trans A1); (have k1 := (hz.1 gw (k * 3 + 1) hgw).trans B1); (have i2 := (hz.1 wy.heap.size 2 hsz).trans x2); (have j2 := (hz.1 gv (k * 3 + 2) hgv).trans A2); (have k2 := (hz.1 gw (k * 3 + 2) hgw).trans B2); go_simp; (first | done | (with_reducible rfl))) | (with_reducible rfl))); clear hK K; (try simp only [Act.put, List.setIfInBounds_toArray, List.set_cons_zero, List.set_cons_succ]))
                        | ((with_reducible refine ite_neg_ ?_ ?_); (focus (go_simp; done)); refine hK _ ?_; clear hK K; (try simp only [Act.put, List.setIfInBounds_toArray, List.set_cons_zero, List.set_cons_succ]))
                    (with_reducible refine wpQuiet_nil ?_)
                    intro wz hz
                    have HJ2 := Lib.hid (HJ.out.kept hz.2.2.2)
                    clear hz
                    go_wp2
                    go_roundw
                    case rel => exact ⟨k + 1, by go_num, by omega, HJ2⟩
                    case measure => simp [intOf]; omega
                  · obtain ⟨t, hkt⟩ : ∃ t, k = n + t := ⟨k - n, by omega⟩
                    have EM := Lib.hid (show ElA ps[j].zs 3 k (grCells j t) by rw [hkt]; have := HPH.out.2.2.2.2.2.2.2 t (by rw [HMM.out, ← HNN.out]; omega); rw [← HNN.out] at this; exact this)
                    have HKT := Lib.hid hkt
                    clear hkt
                    obtain ⟨gw, _, hgw, _⟩ := O2.out.some_ (by omega)
                    injection hgw with hgw _ hgx
                    subst hgw
                    subst hgx
                    have b0 : wy.cell? ⟨gw, k * 3, none⟩ = some (.int .i64 (j : Int)) := O2.out.el rfl EM.out (j := 0) (by decide) rfl
                    have b1 : wy.cell? ⟨gw, k * 3 + 1, none⟩ = some (.string ⟨#[109, 111, 114, 101]⟩) := O2.out.el rfl EM.out (j := 1) (by decide) rfl
                    have b2 : wy.cell? ⟨gw, k * 3 + 2, none⟩ = some (.int .i64 (t : Int)) := O2.out.el rfl EM.out (j := 2) (by decide) rfl
                    have e1 : ∀ w : World, (binOp .neq 27 (.agg #[.int .i64 (j : Int), .string ⟨#[109, 111, 114, 101]⟩, .int .i64 (t : Int)]) (.agg #[.int .i64 (j : Int), .string ⟨#[109, 111, 114, 101]⟩, .int .i64 (t : Int)])).run Tryz.prog w = .ok (.bool false) w := fun w => by
                      have h := neqCell ⟨(j : Int), ⟨#[109, 111, 114, 101]⟩, (t : Int)⟩ ⟨(j : Int), ⟨#[109, 111, 114, 101]⟩, (t : Int)⟩ w
                      rw [decide_eq_true rfl] at h
                      exact h
                    have hgw : gw < wy.heap.size := (O2.out.lt gw rfl).2
                    clear O1 O2 EM
                    go_wp2
                    rw [show (k : Int) - (n : Int) = (t : Int) by have := HKT.out; omega]
                    have hbb : Below wy.heap.size wy (wy.alloc (.cells #[.int .i64 (j : Int), .string ⟨#[109, 111, 114, 101]⟩, .int .i64 (t : Int)] 27)) := (Below.refl _ _).alloc (Nat.le_refl _) _
                    have hsz : wy.heap.size < (wy.alloc (.cells #[.int .i64 (j : Int), .string ⟨#[109, 111, 114, 101]⟩, .int .i64 (t : Int)] 27)).heap.size := (Blk.new wy _ _).lt
                    have x0 : (wy.alloc (.cells #[.int .i64 (j : Int), .string ⟨#[109, 111, 114, 101]⟩, .int .i64 (t : Int)] 27)).cell? ⟨wy.heap.size, 0, none⟩ = some (.int .i64 (j : Int)) := (Blk.new wy 27 #[.int .i64 (j : Int), .string ⟨#[109, 111, 114, 101]⟩, .int .i64 (t : Int)]).cell 0
                    have x1 : (wy.alloc (.cells #[.int .i64 (j : Int), .string ⟨#[109, 111, 114, 101]⟩, .int .i64 (t : Int)] 27)).cell? ⟨wy.heap.size, 1, none⟩ = some (.string ⟨#[109, 111, 114, 101]⟩) := (Blk.new wy 27 #[.int .i64 (j : Int), .string ⟨#[109, 111, 114, 101]⟩, .int .i64 (t : Int)]).cell 1
                    have x2 : (wy.alloc (.cells #[.int .i64 (j : Int), .string ⟨#[109, 111, 114, 101]⟩, .int .i64 (t : Int)] 27)).cell? ⟨wy.heap.size, 2, none⟩ = some (.int .i64 (t : Int)) := (Blk.new wy 27 #[.int .i64 (j : Int), .string ⟨#[109, 111, 114, 101]⟩, .int .i64 (t : Int)]).cell 2
                    have K0 := (hbb.cell (p := ⟨gk, j, none⟩) hgk).trans ck0
                    have M0 := (hbb.cell (p := ⟨gm, j, none⟩) hgm).trans cm0
                    have B0 := (hbb.cell (p := ⟨gw, k * 3, none⟩) hgw).trans b0
                    have B1 := (hbb.cell (p := ⟨gw, k * 3 + 1, none⟩) hgw).trans b1
                    have B2 := (hbb.cell (p := ⟨gw, k * 3 + 2, none⟩) hgw).trans b2
                    have HJ := Lib.hid (HPy.out.kept hbb)
                    clear hbb ck0 cm0 b0 b1 b2
                    generalize (wy.alloc (.cells #[.int .i64 (j : Int), .string ⟨#[109, 111, 114, 101]⟩, .int .i64 (t : Int)] 27)) = wb at *
                    have hgk : gk < wb.heap.size := by omega
                    have hgm : gm < wb.heap.size := by omega
                    have hgw : gw < wb.heap.size := by omega
                    refine wp_region_heldq (B := wb.heap.size) (w1 := wb) (by kernel_rfl) (by kernel_rfl) (Held.of (Below.refl _ _).drew (Nat.le_refl _)) ?_
                    repeat
                      (with_reducible refine wpQuiet_step (fun K hK => ?_))
                      first
                        | ((with_reducible refine ite_pos_ ?_ ?_); (focus (go_simp; done)); apply Exists.intro; refine ⟨fun wz hzC => ?_, hK _ ?_⟩; (have hz := HeldC.out hzC; clear hzC; unfold Oper.quietAt; go_simp; (first | done | ((have h0 := (hz.1 gk j hgk).trans K0); (have h1 := (hz.1 gm j hgm).trans M0); (have i0 := (hz.1 wy.heap.size 0 hsz).trans x0); (have k0 := (hz.1 gw (k * 3) hgw).trans B0); (have i1 := (hz.1 wy.heap.size 1 hsz).trans x1); (have k1 := (hz.1 gw (k * 3 + 1) hgw).trans B1); (have i2 := (hz.1 wy.heap.size 2 hsz).trans x2); (have k2 := (hz.1 gw (k * 3 + 2) hgw).trans B2); go_simp; (first | done | (with_reducible rfl))) | (with_reducible rfl))); clear hK K; (try simp only [Act.put, List.setIfInBounds_toArray, List.set_cons_zero, List.set_cons_succ]))
                        | ((with_reducible refine ite_neg_ ?_ ?_); (focus (go_simp; done)); refine hK _ ?_; clear hK K; (try simp only [Act.put, List.setIfInBounds_toArray, List.set_cons_zero, List.set_cons_succ]))
                    (with_reducible refine wpQuiet_nil ?_)
                    intro wz hz
                    have HJ2 := Lib.hid (HJ.out.kept hz.2.2.2)
                    clear hz
                    go_wp2
                    go_roundw
                    case rel => exact ⟨k + 1, by go_num, by omega, HJ2⟩
                    case measure => simp [intOf]; omega
                · go_wp2
                  go_roundw
                  case rel => ((repeat apply Exists.intro); exact ⟨⟨j + 1, by go_num, by omega, HPy⟩, rfl⟩)
                  case measure => simp [intOf]; omega
            · go_wp2
              go_ret
              exact ⟨rfl, HPz.out.tur⟩
end Go.Proofs.YteffpfgdoganpaaGreatDoor

namespace Go.Proofs.YteffpfgdoganpaaGreatDoor
open Go.RowKit

def mkRows (i k : Nat) : List Value := [.int .i64 (i : Int), .string ⟨#[116, 111, 108, 100]⟩, .int .i64 (k : Int), .int .i64 0, .int .i64 0, .int .i64 0, .int .i64 0]
def grRows (i k : Nat) : List Value := [.int .i64 (i : Int), .string ⟨#[109, 111, 114, 101]⟩, .int .i64 (k : Int), .int .i64 0, .int .i64 0, .int .i64 0, .int .i64 0]
theorem grRows_one (i k : Nat) : ∀ u ∈ grRows i k, u.oneCell' = true := fun u hu => by
  unfold grRows at hu
  simp only [List.mem_cons, List.not_mem_nil, or_false] at hu
  rcases hu with rfl | rfl | rfl | rfl | rfl | rfl | rfl <;> rfl
theorem info_slRows : (Tryz.prog.info? 35).map (fun i => (i.zero, i.size, i.bytes)) = some (some (.slice none 0 0), 1, 24) := by kernel_rfl
theorem infoE0Rows : (Tryz.prog.info? 84).map (fun i => (i.zero.map (fun z => z.cells.size), i.size, i.bytes)) = some (some 7, 7, 64) := by kernel_rfl
theorem infoERows : ∃ i z, Tryz.prog.info? 84 = some i ∧ i.zero = some z ∧ i.size = 7 ∧ i.bytes = 64 ∧ z.cells.size = 7 := by
  have h := infoE0Rows
  cases hi : Tryz.prog.info? 84 with
  | none => rw [hi] at h; cases h
  | some ic =>
    rw [hi] at h
    injection h with h
    injection h with h1 h2
    injection h2 with h2 h3
    cases hz : ic.zero with
    | none => rw [hz] at h1; cases h1
    | some z =>
      rw [hz] at h1
      injection h1 with h1
      exact ⟨ic, z, rfl, hz, h2, h3, h1⟩
set_option maxHeartbeats 16000000 in
set_option maxRecDepth 100000 in
theorem grownRows_any (lo nk ck : Nat) (A : Option Addr) (ps : List Pg) (W : World) (hs : Sep lo W (rG lo 1 (.slice A nk ck) nk (ps.map Pg.v) :: ps.map fun p => rG lo 7 p.v p.n p.ys)) (hp : ∀ p ∈ ps, p.w = p.v ∧ p.m = p.n ∧ p.zs = p.ys) (hl : ps.length = nk) (hlo : lo ≤ W.heap.size) (hn : ∀ p ∈ ps, p.n ≤ 1000000) (hnk : nk ≤ 1000) (hA : A = none → ck = 0) :
    Calls Tryz.prog 55 #[.slice A nk ck] W fun e w' => e = .returned (.bool true) ∧ Tur (vB (ps.map Pg.v)) W w' := by
  obtain ⟨vs, hvs⟩ : ∃ vs, vs = ps.map Pg.v := ⟨_, rfl⟩
  have H0 := Lib.hid (show GrI lo 7 nk (.slice A nk ck) (.slice none 0 0) 0 [] vs ps W W (PhA 7 mkRows 0 0) from GrI.start (hvs ▸ hs) hp hl hvs.symm hlo (fun j hj => by
    have hm := List.getElem_mem hj
    obtain ⟨h1, h2, h3⟩ := hp _ hm
    have hw : OwG W lo 7 ps[j].v ps[j].n ps[j].ys := hs.1 _ (List.mem_cons_of_mem _ (List.mem_map.2 ⟨_, hm, rfl⟩))
    exact ⟨hn _ hm, hw.len, h1, h2, h3, fun t ht ho => by omega⟩))
  rw [← hvs]
  have HA := Lib.hid hA
  have HLO := Lib.hid hlo
  clear hs hp hl hn hvs hlo hA
  go_enter Tryz.func55, Tryz.ntmps55
  go_wp2
  go_loopw [3] (fun t3 wr => ∃ i : Nat, t3 = .int .i64 (i : Int) ∧ i ≤ nk ∧ Hid (∃ ps, GrI lo 7 nk (.slice A nk ck) (.slice none 0 0) 0 [] vs ps W wr (PhA 7 mkRows i 0))) (fun t3 _ => nk - (intOf t3).toNat)
  case atStart => exact ⟨0, rfl, Nat.zero_le _, Lib.hid ⟨_, H0.out⟩⟩
  case round =>
    obtain ⟨i, rfl, hi, HP0⟩ := hrel
    rename World => wr
    by_cases hin : i < nk
    · obtain ⟨ps, hP⟩ := HP0.out
      have HP := Lib.hid hP
      clear HP0 hP
      go_wp2
      go_loopw [4] (fun t4 wr => ∃ k : Nat, t4 = .int .i64 (k : Int) ∧ Hid (∃ ps, GrI lo 7 nk (.slice A nk ck) (.slice none 0 0) 0 [] vs ps W wr (PhA 7 mkRows i k) ∧ ∃ h : i < ps.length, k ≤ ps[i].n)) (fun t4 _ => 1000000 - (intOf t4).toNat)
      case atStart => exact ⟨0, rfl, Lib.hid ⟨_, HP.out, by rw [HP.out.plen]; exact hin, Nat.zero_le _⟩⟩
      case round =>
      clear HP
      obtain ⟨k, rfl, HP0⟩ := hrel
      rename World => wr
      obtain ⟨ps, hP, hip, hkn⟩ := HP0.out
      have HP := Lib.hid hP
      obtain ⟨gk, ck2, hK, _, ck0⟩ := hP.cellK i hin
      injection hK with hK1 _ hK2
      subst hK1
      subst hK2
      obtain ⟨⟨Ai, ci, hvi⟩, _⟩ := hP.form i hip
      rw [hvi] at ck0
      have hn6 := (hP.phi i hip).1
      have hST := fun hk => hP.store (Φ' := PhA 7 mkRows i (k + 1)) i hip k hk (mkRows i k) rfl
      have HPH := Lib.hid (fun hk => (hP.phi i hip).put (us := mkRows i k) rfl rfl hk)
      obtain ⟨n, hn⟩ : ∃ n, n = ps[i].n := ⟨_, rfl⟩
      have HNN := Lib.hid hn
      rw [← hn] at ck0 hn6 hST hvi hkn
      clear HP0 hP hn
      by_cases hlt : k < n
      · obtain ⟨g, c2, hv2, hroom, hnew⟩ := hST hlt
        rw [hvi] at hv2
        injection hv2 with hv3 _ _
        subst hv3
        have HNEW := Lib.hid hnew
        obtain ⟨u0, d0⟩ := Option.isSome_iff_exists.1 (hroom (k * 7) (by omega)).1
        have f0 := (hroom (k * 7) (by omega)).2
        obtain ⟨u1, d1⟩ := Option.isSome_iff_exists.1 (hroom (k * 7 + 1) (by omega)).1
        have f1 := (hroom (k * 7 + 1) (by omega)).2
        obtain ⟨u2, d2⟩ := Option.isSome_iff_exists.1 (hroom (k * 7 + 2) (by omega)).1
        have f2 := (hroom (k * 7 + 2) (by omega)).2
        obtain ⟨u3, d3⟩ := Option.isSome_iff_exists.1 (hroom (k * 7 + 3) (by omega)).1
        have f3 := (hroom (k * 7 + 3) (by omega)).2
        obtain ⟨u4, d4⟩ := Option.isSome_iff_exists.1 (hroom (k * 7 + 4) (by omega)).1
        have f4 := (hroom (k * 7 + 4) (by omega)).2
        obtain ⟨u5, d5⟩ := Option.isSome_iff_exists.1 (hroom (k * 7 + 5) (by omega)).1
        have f5 := (hroom (k * 7 + 5) (by omega)).2
        obtain ⟨u6, d6⟩ := Option.isSome_iff_exists.1 (hroom (k * 7 + 6) (by omega)).1
        have f6 := (hroom (k * 7 + 6) (by omega)).2
        have HFIN := HNEW.out wr (Below.refl _ _) (by rw [HNN.out]; exact HPH.out (by rw [← HNN.out]; exact hlt)) (fun j hj hne h => h.other hne _)
        skip
        have HFIN := Lib.hid HFIN
        clear hnew hroom hST
        go_wp2
        go_roundw
        case rel => exact ⟨k + 1, by go_num, Lib.hid ⟨_, HFIN.out, by rw [List.length_set]; exact hip, by rw [List.getElem_set_self]; show k + 1 ≤ n; omega⟩⟩
        case measure => simp [intOf]; omega
      · clear hST
        go_wp2
        go_roundw
        case rel => exact ⟨i + 1, by go_num, by omega, Lib.hid ⟨_, HP.out.weak (fun j hj h => h.next (fun e => by subst e; have := HNN.out; omega))⟩⟩
        case measure => simp [intOf]; omega
    · obtain rfl : i = nk := by omega
      obtain ⟨ps, hP⟩ := HP0.out
      have HP := Lib.hid (show GrI lo 7 i (.slice A i ck) (.slice none 0 0) 0 [] vs ps W wr (PhB 7 W.heap.size mkRows grRows 0 0) from hP.weak (fun j hj h => h.done (by rw [← hP.plen]; exact hj)))
      have HWV := Lib.hid (show vs = ps.map Pg.w from by
        rw [← hP.vs_]
        refine List.map_congr_left (fun p hp => ?_)
        obtain ⟨j, hj, rfl⟩ := List.getElem_of_mem hp
        exact (hP.phi j hj).2.2.1.symm)
      have HVL := Lib.hid (show vs.length = i by have := hP.plen; rw [← hP.vs_, List.length_map]; exact this)
      have HV1 := Lib.hid (show ∀ u ∈ vs, u.oneCell' = true from fun u hu => by
        obtain ⟨p, hp, rfl⟩ := List.mem_map.1 (hP.vs_ ▸ hu)
        obtain ⟨j, hj, rfl⟩ := List.getElem_of_mem hp
        obtain ⟨⟨A2, c2, e2⟩, _⟩ := hP.form j hj
        rw [e2]; rfl)
      have hsz : W.heap.size ≤ wr.heap.size := hP.tur.size
      clear HP0 hP hin H0
      obtain ⟨i0, hi0, hz0, hz1, hz2⟩ := info_parts info_slRows
      go_wp2_with (first
        | (at_builtin; refine wpList_append_cells _ rfl _ _ _ rfl wr.heap.size _ i0 _ 24 Tryz.underlying121 hi0 hz0 hz1 hz2 rfl (.slice none 0 0) 0 [] rfl (World.ownsRow_nil _ _ _ _) A i ck HA.out vs rfl HVL.out (HP.out.all.at rfl) HV1.out (by unfold maxLen; omega) (by omega) (Nat.le_refl _) ?_
           intro v0 w0 hown hg hv
           have hown : w0.ownsRow wr.heap.size 35 1 v0 i vs := (by simpa using hown)
           obtain ⟨Am, cm, hvm, _⟩ := (OwG.of hown).form
           subst hvm
           have HM := Lib.hid (show GrI lo 7 i (.slice A i ck) (.slice Am i cm) i (ps.map Pg.w) vs ps W w0 (PhB 7 W.heap.size mkRows grRows 0 0) from HWV.out ▸ HP.out.mk_ hg (OwG.of hown))
           have HMB := Lib.hid (show ∀ g, (Value.slice Am i cm).ownBlock = some g → W.heap.size ≤ g from fun g e => Nat.le_trans hsz ((OwG.of hown).lt g e).1)
           clear hown hg hv)
        | fail)
      clear HP HWV hsz
      go_loopw [6] (fun t6 wr => ∃ k : Nat, t6 = .int .i64 (k : Int) ∧ k ≤ 40 ∧ Hid (∃ ps, GrI lo 7 i (.slice A i ck) (.slice Am i cm) i (ps.map Pg.w) vs ps W wr (PhB 7 W.heap.size mkRows grRows k 0))) (fun t6 _ => 40 - (intOf t6).toNat)
      case atStart => exact ⟨0, rfl, by omega, Lib.hid ⟨_, HM.out⟩⟩
      case round =>
        clear HM
        obtain ⟨k, rfl, hk, HP0⟩ := hrel
        rename World => wr
        by_cases hk40 : k < 40
        · obtain ⟨ps, hP⟩ := HP0.out
          have HP := Lib.hid hP
          clear HP0 hP
          go_wp2
          go_loopw [7] (fun t7 wr => ∃ j : Nat, t7 = .int .i64 (j : Int) ∧ j ≤ i ∧ Hid (∃ ps, GrI lo 7 i (.slice A i ck) (.slice Am i cm) i (ps.map Pg.w) vs ps W wr (PhB 7 W.heap.size mkRows grRows k j))) (fun t7 _ => i - (intOf t7).toNat)
          case atStart => exact ⟨0, rfl, Nat.zero_le _, Lib.hid ⟨_, HP.out⟩⟩
          case round =>
          clear HP
          obtain ⟨j, rfl, hj, HP0⟩ := hrel
          rename World => wr
          obtain ⟨ps, hP⟩ := HP0.out
          by_cases hji : j < i
          · have HP := Lib.hid hP
            obtain ⟨gm, cm2, hMv, hgl, cm0, fm0⟩ := hP.cellM j hji
            injection hMv with hM1 _ hM2
            subst hM1
            subst hM2
            have hjp : j < ps.length := by rw [hP.plen]; exact hji
            obtain ⟨_, ⟨Aw, cw, hwv⟩⟩ := hP.form j hjp
            rw [hwv] at cm0
            have hsz : W.heap.size ≤ wr.heap.size := hP.tur.size
            have hlo2 := hP.lo_
            have HMN := Lib.hid (show some gm ≠ ps[j].w.ownBlock from fun e => hP.neM j hjp gm rfl (List.mem_append_right _ (own_list.2 e.symm)))
            have HPJ := Lib.hid (hP.phi j hjp)
            have HOW := Lib.hid ((hP.pair j hjp).2.1)
            have hm6 : ps[j].m ≤ 1000040 := by have h := HPJ.out; have h1 := h.2.1; have h2 := h.2.2.2.2.2.1 (Nat.le_refl _); omega
            obtain ⟨m, hm⟩ : ∃ m, m = ps[j].m := ⟨_, rfl⟩
            have HMM := Lib.hid hm
            rw [← hm] at hwv cm0 hm6
            clear HP0 hP hm
            have hb1 : Below wr.heap.size wr (wr.alloc (.cells #[.int .i64 (j : Int), .string ⟨#[109, 111, 114, 101]⟩, .int .i64 (k : Int), .int .i64 0, .int .i64 0, .int .i64 0, .int .i64 0] 84)) := (Below.refl _ _).alloc (Nat.le_refl _) _
            have HB1 := Lib.hid hb1
            have HO1 := Lib.hid (show OwG (wr.alloc (.cells #[.int .i64 (j : Int), .string ⟨#[109, 111, 114, 101]⟩, .int .i64 (k : Int), .int .i64 0, .int .i64 0, .int .i64 0, .int .i64 0] 84)) lo 7 (.slice Aw m cw) m ps[j].zs from by rw [← hwv, HMM.out]; exact HOW.out.below hb1)
            have HC1 := Lib.hid (show CellsAt (wr.alloc (.cells #[.int .i64 (j : Int), .string ⟨#[109, 111, 114, 101]⟩, .int .i64 (k : Int), .int .i64 0, .int .i64 0, .int .i64 0, .int .i64 0] 84)) (some ⟨wr.heap.size, 0, none⟩) (grRows j k) from alloc_cells wr _ (grRows j k))
            have hc1 : (wr.alloc (.cells #[.int .i64 (j : Int), .string ⟨#[109, 111, 114, 101]⟩, .int .i64 (k : Int), .int .i64 0, .int .i64 0, .int .i64 0, .int .i64 0] 84)).cell? ⟨gm, j, none⟩ = some (.slice Aw m cw) := (hb1.cell (p := ⟨gm, j, none⟩) hgl).trans cm0
            have hf1 : (wr.alloc (.cells #[.int .i64 (j : Int), .string ⟨#[109, 111, 114, 101]⟩, .int .i64 (k : Int), .int .i64 0, .int .i64 0, .int .i64 0, .int .i64 0] 84)).frozen? ⟨gm, j, none⟩ = false := (hb1.frozen (p := ⟨gm, j, none⟩) hgl).trans fm0
            have hgl1 : gm < (wr.alloc (.cells #[.int .i64 (j : Int), .string ⟨#[109, 111, 114, 101]⟩, .int .i64 (k : Int), .int .i64 0, .int .i64 0, .int .i64 0, .int .i64 0] 84)).heap.size := by simp; omega
            have HW1 := Lib.hid (And.intro hc1 (And.intro hf1 hgl1))
            clear hc1 hf1 hgl1 hb1
            obtain ⟨i0, z0, hi0, hz0, hz1, hz2, hz3⟩ := infoERows
            go_wp2_with (first
              | (at_builtin; refine wpList_append_keepG rfl _ _ _ rfl _ i0 z0 7 64 Tryz.underlying35 hi0 hz0 hz1 hz2 hz3 (by decide) lo (.slice Aw m cw) m ps[j].zs rfl HO1.out ⟨wr.heap.size, 0, none⟩ 1 1 (grRows j k) rfl rfl HC1.out (grRows_one j k) (by unfold maxLen; omega) (by omega) (Nat.le_trans hlo2 (by simp)) ?_
                 intro v0 w6 hold hnew hg hv
                 obtain ⟨A6, c6, hv6, _⟩ := hnew.form
                 subst hv6
                 obtain ⟨cm6, fm6⟩ := grownCell hg HW1.out.2.2 (by rw [← hwv]; exact HMN.out) HW1.out.1 HW1.out.2.1
                 have HK := Lib.hid (grown_kind hv)
                 have HJ := Lib.hid (show GrI lo 7 i (.slice A i ck) (.slice (some ⟨gm, 0, none⟩) i cm) i (ps.map Pg.w) vs (ps.set j ⟨ps[j].v, .slice A6 (m + 1) c6, ps[j].n, m + 1, ps[j].ys, ps[j].zs ++ grRows j k⟩) W w6 (PhB 7 W.heap.size mkRows grRows k (j + 1)) from by
                   have h := HP.out.app (Φ' := PhB 7 W.heap.size mkRows grRows k (j + 1)) (m := 1) j hjp HB1.out (.inr (fun b e => (HPJ.out.1 b e).imp_left (fun e2 => ⟨_, List.mem_of_getElem? (HP.out.v_at j hjp), e2⟩))) (by rw [← HMM.out, hwv]; exact hold) (by rw [← HMM.out]; exact hnew) (by rw [hwv]; exact hg) (by rw [← HMM.out, hwv]; exact hv) (by decide)
                     (HPJ.out.app rfl rfl (fun b e => (HK.out b e).imp (fun e2 => by rw [hwv]; exact e2) (fun e2 => by have := HB1.out.size; omega))) (fun t ht hne h => h.other hne)
                   rw [← HMM.out] at h
                   exact h)
                 clear hold hnew hg hv)
              | fail)
            go_roundw
            case rel => exact ⟨j + 1, by go_num, by omega, Lib.hid ⟨_, by
              have h := HJ.out.put j hji rfl (.slice A6 (m + 1) c6) (HMB.out gm rfl)
              have e : (ps.map Pg.w).set j (.slice A6 (m + 1) c6) = (ps.set j ⟨ps[j].v, .slice A6 (m + 1) c6, ps[j].n, m + 1, ps[j].ys, ps[j].zs ++ grRows j k⟩).map Pg.w := by rw [List.map_set]
              rw [e] at h
              exact h⟩⟩
            case measure => simp [intOf]; omega
          · have HP := Lib.hid (show GrI lo 7 i (.slice A i ck) (.slice Am i cm) i (ps.map Pg.w) vs ps W wr (PhB 7 W.heap.size mkRows grRows (k + 1) 0) from hP.weak (fun t ht h => h.next (by have := hP.plen; omega)))
            clear HP0 hP
            go_wp2
            go_roundw
            case rel => exact ⟨k + 1, by go_num, by omega, Lib.hid ⟨_, HP.out⟩⟩
            case measure => simp [intOf]; omega
        · obtain rfl : k = 40 := by omega
          clear hk40
          obtain ⟨ps, hP⟩ := HP0.out
          have HP := Lib.hid hP
          clear HP0 hP
          go_wp2
          go_loopw [8] (fun t8 wr => ∃ j : Nat, t8 = .int .i64 (j : Int) ∧ j ≤ i ∧ Hid (GrI lo 7 i (.slice A i ck) (.slice Am i cm) i (ps.map Pg.w) vs ps W wr (PhB 7 W.heap.size mkRows grRows 40 0))) (fun t8 _ => i - (intOf t8).toNat)
          case atStart => exact ⟨0, rfl, Nat.zero_le _, HP⟩
          case round =>
            obtain ⟨j, rfl, hj, HPz⟩ := hrel
            rename World => wz
            clear HP
            by_cases hji : j < i
            · have hP := HPz.out
              obtain ⟨gk, ck2, hK, _, ck0⟩ := hP.cellK j hji
              injection hK with hK1 _ hK2
              subst hK1
              subst hK2
              obtain ⟨gm, cm2, hMv, hx1, hx2, hx3⟩ := hP.cellM j hji
              clear hx1 hx2 hx3
              injection hMv with hM1 _ hM2
              subst hM1
              subst hM2
              have hjp : j < ps.length := by rw [hP.plen]; exact hji
              have HPH := Lib.hid (hP.phi j hjp)
              obtain ⟨⟨Av, cv, hvv⟩, ⟨Aw, cw, hwv⟩⟩ := hP.form j hjp
              have hn6 : ps[j].n ≤ 1000000 := HPH.out.2.1
              have hm40 : ps[j].m = ps[j].n + 40 := HPH.out.2.2.2.2.2.1 (Nat.zero_le _)
              obtain ⟨n, hn⟩ : ∃ n, n = ps[j].n := ⟨_, rfl⟩
              rw [← hn] at hvv hn6 hm40
              rw [hm40] at hwv
              rw [hvv] at ck0
              have HFV := Lib.hid hvv
              have HFW := Lib.hid hwv
              have HNN := Lib.hid hn
              have HMM := Lib.hid hm40
              clear hP hn hm40 hvv hwv
              go_wp2
              go_loopw [10] (fun t10 wy => ∃ k : Nat, t10 = .int .i64 (k : Int) ∧ k ≤ n + 40 ∧ Hid (GrI lo 7 i (.slice (some ⟨gk, 0, none⟩) i ck) (.slice (some ⟨gm, 0, none⟩) i cm) i (ps.map Pg.w) vs ps W wy (PhB 7 W.heap.size mkRows grRows 40 0))) (fun t10 _ => n + 40 - (intOf t10).toNat)
              case atStart => exact ⟨0, rfl, Nat.zero_le _, HPz⟩
              case round =>
                obtain ⟨k, rfl, hk, HPy⟩ := hrel
                rename World => wy
                clear HPz ck0
                by_cases hk40 : k < n + 40
                · obtain ⟨gk', ckk, hK, hgk, ck0⟩ := HPy.out.cellK j hji
                  injection hK with hK1 _ hK2
                  subst hK2
                  injection hK1 with hK1
                  injection hK1 with hK1
                  subst hK1
                  obtain ⟨gm', cmm, hMv, hgm, cm0, hfm⟩ := HPy.out.cellM j hji
                  clear hfm
                  injection hMv with hM1 _ hM2
                  subst hM2
                  injection hM1 with hM1
                  injection hM1 with hM1
                  subst hM1
                  rw [HFV.out] at ck0
                  rw [HFW.out] at cm0
                  obtain ⟨o1, o2, _, _⟩ := HPy.out.pair j hjp
                  have O1 := Lib.hid (show OwG wy lo 7 (.slice Av n cv) n ps[j].ys by rw [← HFV.out, HNN.out]; exact o1)
                  have O2 := Lib.hid (show OwG wy lo 7 (.slice Aw (n + 40) cw) (n + 40) ps[j].zs by rw [← HFW.out, ← HMM.out]; exact o2)
                  clear o1 o2
                  by_cases hkn : k < n
                  · have EM := Lib.hid (HPH.out.2.2.2.2.2.2.1 k (by rw [← HNN.out]; exact hkn))
                    obtain ⟨gv, cvv, hgv, _⟩ := O1.out.some_ (by omega)
                    injection hgv with hgv _ hgx
                    subst hgv
                    subst hgx
                    obtain ⟨gw, cww, hgw, _⟩ := O2.out.some_ (by omega)
                    injection hgw with hgw _ hgx
                    subst hgw
                    subst hgx
                    have a0 : wy.cell? ⟨gv, k * 7, none⟩ = some (.int .i64 (j : Int)) := O1.out.el rfl EM.out.1 (j := 0) (by decide) rfl
                    have b0 : wy.cell? ⟨gw, k * 7, none⟩ = some (.int .i64 (j : Int)) := O2.out.el rfl EM.out.2 (j := 0) (by decide) rfl
                    have a1 : wy.cell? ⟨gv, k * 7 + 1, none⟩ = some (.string ⟨#[116, 111, 108, 100]⟩) := O1.out.el rfl EM.out.1 (j := 1) (by decide) rfl
                    have b1 : wy.cell? ⟨gw, k * 7 + 1, none⟩ = some (.string ⟨#[116, 111, 108, 100]⟩) := O2.out.el rfl EM.out.2 (j := 1) (by decide) rfl
                    have a2 : wy.cell? ⟨gv, k * 7 + 2, none⟩ = some (.int .i64 (k : Int)) := O1.out.el rfl EM.out.1 (j := 2) (by decide) rfl
                    have b2 : wy.cell? ⟨gw, k * 7 + 2, none⟩ = some (.int .i64 (k : Int)) := O2.out.el rfl EM.out.2 (j := 2) (by decide) rfl
                    have a3 : wy.cell? ⟨gv, k * 7 + 3, none⟩ = some (.int .i64 0) := O1.out.el rfl EM.out.1 (j := 3) (by decide) rfl
                    have b3 : wy.cell? ⟨gw, k * 7 + 3, none⟩ = some (.int .i64 0) := O2.out.el rfl EM.out.2 (j := 3) (by decide) rfl
                    have a4 : wy.cell? ⟨gv, k * 7 + 4, none⟩ = some (.int .i64 0) := O1.out.el rfl EM.out.1 (j := 4) (by decide) rfl
                    have b4 : wy.cell? ⟨gw, k * 7 + 4, none⟩ = some (.int .i64 0) := O2.out.el rfl EM.out.2 (j := 4) (by decide) rfl
                    have a5 : wy.cell? ⟨gv, k * 7 + 5, none⟩ = some (.int .i64 0) := O1.out.el rfl EM.out.1 (j := 5) (by decide) rfl
                    have b5 : wy.cell? ⟨gw, k * 7 + 5, none⟩ = some (.int .i64 0) := O2.out.el rfl EM.out.2 (j := 5) (by decide) rfl
                    have a6 : wy.cell? ⟨gv, k * 7 + 6, none⟩ = some (.int .i64 0) := O1.out.el rfl EM.out.1 (j := 6) (by decide) rfl
                    have b6 : wy.cell? ⟨gw, k * 7 + 6, none⟩ = some (.int .i64 0) := O2.out.el rfl EM.out.2 (j := 6) (by decide) rfl
                    have e1 : ∀ w : World, (binOp .neq 84 (.agg #[.int .i64 (j : Int), .string ⟨#[116, 111, 108, 100]⟩, .int .i64 (k : Int), .int .i64 0, .int .i64 0, .int .i64 0, .int .i64 0]) (.agg #[.int .i64 (j : Int), .string ⟨#[116, 111, 108, 100]⟩, .int .i64 (k : Int), .int .i64 0, .int .i64 0, .int .i64 0, .int .i64 0])).run Tryz.prog w = .ok (.bool false) w := fun w => by
                      have h := neqRow ⟨⟨(j : Int), ⟨#[116, 111, 108, 100]⟩, (k : Int)⟩, 0, 0, 0, 0⟩ ⟨⟨(j : Int), ⟨#[116, 111, 108, 100]⟩, (k : Int)⟩, 0, 0, 0, 0⟩ w
                      rw [decide_eq_true rfl] at h
                      exact h
                    have hgv : gv < wy.heap.size := (O1.out.lt gv rfl).2
                    have hgw : gw < wy.heap.size := (O2.out.lt gw rfl).2
                    clear O1 O2 EM
                    go_wp2
                    have hbb : Below wy.heap.size wy (wy.alloc (.cells #[.int .i64 (j : Int), .string ⟨#[116, 111, 108, 100]⟩, .int .i64 (k : Int), .int .i64 0, .int .i64 0, .int .i64 0, .int .i64 0] 84)) := (Below.refl _ _).alloc (Nat.le_refl _) _
                    have hsz : wy.heap.size < (wy.alloc (.cells #[.int .i64 (j : Int), .string ⟨#[116, 111, 108, 100]⟩, .int .i64 (k : Int), .int .i64 0, .int .i64 0, .int .i64 0, .int .i64 0] 84)).heap.size := (Blk.new wy _ _).lt
                    have x0 : (wy.alloc (.cells #[.int .i64 (j : Int), .string ⟨#[116, 111, 108, 100]⟩, .int .i64 (k : Int), .int .i64 0, .int .i64 0, .int .i64 0, .int .i64 0] 84)).cell? ⟨wy.heap.size, 0, none⟩ = some (.int .i64 (j : Int)) := (Blk.new wy 84 #[.int .i64 (j : Int), .string ⟨#[116, 111, 108, 100]⟩, .int .i64 (k : Int), .int .i64 0, .int .i64 0, .int .i64 0, .int .i64 0]).cell 0
                    have x1 : (wy.alloc (.cells #[.int .i64 (j : Int), .string ⟨#[116, 111, 108, 100]⟩, .int .i64 (k : Int), .int .i64 0, .int .i64 0, .int .i64 0, .int .i64 0] 84)).cell? ⟨wy.heap.size, 1, none⟩ = some (.string ⟨#[116, 111, 108, 100]⟩) := (Blk.new wy 84 #[.int .i64 (j : Int), .string ⟨#[116, 111, 108, 100]⟩, .int .i64 (k : Int), .int .i64 0, .int .i64 0, .int .i64 0, .int .i64 0]).cell 1
                    have x2 : (wy.alloc (.cells #[.int .i64 (j : Int), .string ⟨#[116, 111, 108, 100]⟩, .int .i64 (k : Int), .int .i64 0, .int .i64 0, .int .i64 0, .int .i64 0] 84)).cell? ⟨wy.heap.size, 2, none⟩ = some (.int .i64 (k : Int)) := (Blk.new wy 84 #[.int .i64 (j : Int), .string ⟨#[116, 111, 108, 100]⟩, .int .i64 (k : Int), .int .i64 0, .int .i64 0, .int .i64 0, .int .i64 0]).cell 2
                    have x3 : (wy.alloc (.cells #[.int .i64 (j : Int), .string ⟨#[116, 111, 108, 100]⟩, .int .i64 (k : Int), .int .i64 0, .int .i64 0, .int .i64 0, .int .i64 0] 84)).cell? ⟨wy.heap.size, 3, none⟩ = some (.int .i64 0) := (Blk.new wy 84 #[.int .i64 (j : Int), .string ⟨#[116, 111, 108, 100]⟩, .int .i64 (k : Int), .int .i64 0, .int .i64 0, .int .i64 0, .int .i64 0]).cell 3
                    have x4 : (wy.alloc (.cells #[.int .i64 (j : Int), .string ⟨#[116, 111, 108, 100]⟩, .int .i64 (k : Int), .int .i64 0, .int .i64 0, .int .i64 0, .int .i64 0] 84)).cell? ⟨wy.heap.size, 4, none⟩ = some (.int .i64 0) := (Blk.new wy 84 #[.int .i64 (j : Int), .string ⟨#[116, 111, 108, 100]⟩, .int .i64 (k : Int), .int .i64 0, .int .i64 0, .int .i64 0, .int .i64 0]).cell 4
                    have x5 : (wy.alloc (.cells #[.int .i64 (j : Int), .string ⟨#[116, 111, 108, 100]⟩, .int .i64 (k : Int), .int .i64 0, .int .i64 0, .int .i64 0, .int .i64 0] 84)).cell? ⟨wy.heap.size, 5, none⟩ = some (.int .i64 0) := (Blk.new wy 84 #[.int .i64 (j : Int), .string ⟨#[116, 111, 108, 100]⟩, .int .i64 (k : Int), .int .i64 0, .int .i64 0, .int .i64 0, .int .i64 0]).cell 5
                    have x6 : (wy.alloc (.cells #[.int .i64 (j : Int), .string ⟨#[116, 111, 108, 100]⟩, .int .i64 (k : Int), .int .i64 0, .int .i64 0, .int .i64 0, .int .i64 0] 84)).cell? ⟨wy.heap.size, 6, none⟩ = some (.int .i64 0) := (Blk.new wy 84 #[.int .i64 (j : Int), .string ⟨#[116, 111, 108, 100]⟩, .int .i64 (k : Int), .int .i64 0, .int .i64 0, .int .i64 0, .int .i64 0]).cell 6
                    have K0 := (hbb.cell (p := ⟨gk, j, none⟩) hgk).trans ck0
                    have M0 := (hbb.cell (p := ⟨gm, j, none⟩) hgm).trans cm0
                    have A0 := (hbb.cell (p := ⟨gv, k * 7, none⟩) hgv).trans a0
                    have B0 := (hbb.cell (p := ⟨gw, k * 7, none⟩) hgw).trans b0
                    have A1 := (hbb.cell (p := ⟨gv, k * 7 + 1, none⟩) hgv).trans a1
                    have B1 := (hbb.cell (p := ⟨gw, k * 7 + 1, none⟩) hgw).trans b1
                    have A2 := (hbb.cell (p := ⟨gv, k * 7 + 2, none⟩) hgv).trans a2
                    have B2 := (hbb.cell (p := ⟨gw, k * 7 + 2, none⟩) hgw).trans b2
                    have A3 := (hbb.cell (p := ⟨gv, k * 7 + 3, none⟩) hgv).trans a3
                    have B3 := (hbb.cell (p := ⟨gw, k * 7 + 3, none⟩) hgw).trans b3
                    have A4 := (hbb.cell (p := ⟨gv, k * 7 + 4, none⟩) hgv).trans a4
                    have B4 := (hbb.cell (p := ⟨gw, k * 7 + 4, none⟩) hgw).trans b4
                    have A5 := (hbb.cell (p := ⟨gv, k * 7 + 5, none⟩) hgv).trans a5
                    have B5 := (hbb.cell (p := ⟨gw, k * 7 + 5, none⟩) hgw).trans b5
                    have A6 := (hbb.cell (p := ⟨gv, k * 7 + 6, none⟩) hgv).trans a6
                    have B6 := (hbb.cell (p := ⟨gw, k * 7 + 6, none⟩) hgw).trans b6
                    have HJ := Lib.hid (HPy.out.kept hbb)
                    clear hbb ck0 cm0 a0 b0 a1 b1 a2 b2 a3 b3 a4 b4 a5 b5 a6 b6
                    generalize (wy.alloc (.cells #[.int .i64 (j : Int), .string ⟨#[116, 111, 108, 100]⟩, .int .i64 (k : Int), .int .i64 0, .int .i64 0, .int .i64 0, .int .i64 0] 84)) = wb at *
                    have hgk : gk < wb.heap.size := by omega
                    have hgm : gm < wb.heap.size := by omega
                    have hgw : gw < wb.heap.size := by omega
                    have hgv : gv < wb.heap.size := by omega
                    refine wp_region_heldq (B := wb.heap.size) (w1 := wb) (by kernel_rfl) (by kernel_rfl) (Held.of (Below.refl _ _).drew (Nat.le_refl _)) ?_
                    repeat
                      (with_reducible refine wpQuiet_step (fun K hK => ?_))
                      first
                        | ((with_reducible refine ite_pos_ ?_ ?_); (focus (go_simp; done)); apply Exists.intro; refine ⟨fun wz hzC => ?_, hK _ ?_⟩; (have hz := HeldC.out hzC; clear hzC; unfold Oper.quietAt; go_simp; (first | done | ((have h0 := (hz.1 gk j hgk).trans K0); (have h1 := (hz.1 gm j hgm).trans M0); (have i0 := (hz.1 wy.heap.size 0 hsz).trans x0); (have j0 := (hz.1 gv (k * 7) hgv).trans A0); (have k0 := (hz.1 gw (k * 7) hgw).trans B0); (have i1 := (hz.1 wy.heap.size 1 hsz).trans x1); (have j1 := (hz.1 gv (k * 7 + 1) hgv).trans A1); (have k1 := (hz.1 gw (k * 7 + 1) hgw).trans B1); (have i2 := (hz.1 wy.heap.size 2 hsz).trans x2); (have j2 := (hz.1 gv (k * 7 + 2) hgv).trans A2); (have k2 := (hz.1 gw (k * 7 + 2) hgw).trans B2); (have i3 := (hz.1 wy.heap.size 3 hsz).trans x3); (have j3 := (hz.1 gv (k * 7 + 3) hgv).trans A3); (have k3 := (hz.1 gw (k * 7 + 3) hgw).trans B3); (have i4 := (hz.1 wy.heap.size 4 hsz).trans x4); (have j4 := (hz.1 gv (k * 7 + 4) hgv).trans A4); (have k4 := (hz.1 gw (k * 7 + 4) hgw).trans B4); (have i5 := (hz.1 wy.heap.size 5 hsz).trans x5); (have j5 := (hz.1 gv (k * 7 + 5) hgv).trans A5); (have k5 := (hz.1 gw (k * 7 + 5) hgw).trans B5); (have i6 := (hz.1 wy.heap.size 6 hsz).trans x6); (have j6 := (hz.1 gv (k * 7 + 6) hgv).trans A6); (have k6 := (hz.1 gw (k * 7 + 6) hgw).trans B6); go_simp; (first | done | (with_reducible rfl))) | (with_reducible rfl))); clear hK K; (try simp only [Act.put, List.setIfInBounds_toArray, List.set_cons_zero, List.set_cons_succ]))
                        | ((with_reducible refine ite_neg_ ?_ ?_); (focus (go_simp; done)); refine hK _ ?_; clear hK K; (try simp only [Act.put, List.setIfInBounds_toArray, List.set_cons_zero, List.set_cons_succ]))
                    (with_reducible refine wpQuiet_nil ?_)
                    intro wz hz
                    have HJ2 := Lib.hid (HJ.out.kept hz.2.2.2)
                    clear hz
                    go_wp2
                    go_roundw
                    case rel => exact ⟨k + 1, by go_num, by omega, HJ2⟩
                    case measure => simp [intOf]; omega
                  · obtain ⟨t, hkt⟩ : ∃ t, k = n + t := ⟨k - n, by omega⟩
                    have EM := Lib.hid (show ElA ps[j].zs 7 k (grRows j t) by rw [hkt]; have := HPH.out.2.2.2.2.2.2.2 t (by rw [HMM.out, ← HNN.out]; omega); rw [← HNN.out] at this; exact this)
                    have HKT := Lib.hid hkt
                    clear hkt
                    obtain ⟨gw, _, hgw, _⟩ := O2.out.some_ (by omega)
                    injection hgw with hgw _ hgx
                    subst hgw
                    subst hgx
                    have b0 : wy.cell? ⟨gw, k * 7, none⟩ = some (.int .i64 (j : Int)) := O2.out.el rfl EM.out (j := 0) (by decide) rfl
                    have b1 : wy.cell? ⟨gw, k * 7 + 1, none⟩ = some (.string ⟨#[109, 111, 114, 101]⟩) := O2.out.el rfl EM.out (j := 1) (by decide) rfl
                    have b2 : wy.cell? ⟨gw, k * 7 + 2, none⟩ = some (.int .i64 (t : Int)) := O2.out.el rfl EM.out (j := 2) (by decide) rfl
                    have b3 : wy.cell? ⟨gw, k * 7 + 3, none⟩ = some (.int .i64 0) := O2.out.el rfl EM.out (j := 3) (by decide) rfl
                    have b4 : wy.cell? ⟨gw, k * 7 + 4, none⟩ = some (.int .i64 0) := O2.out.el rfl EM.out (j := 4) (by decide) rfl
                    have b5 : wy.cell? ⟨gw, k * 7 + 5, none⟩ = some (.int .i64 0) := O2.out.el rfl EM.out (j := 5) (by decide) rfl
                    have b6 : wy.cell? ⟨gw, k * 7 + 6, none⟩ = some (.int .i64 0) := O2.out.el rfl EM.out (j := 6) (by decide) rfl
                    have e1 : ∀ w : World, (binOp .neq 84 (.agg #[.int .i64 (j : Int), .string ⟨#[109, 111, 114, 101]⟩, .int .i64 (t : Int), .int .i64 0, .int .i64 0, .int .i64 0, .int .i64 0]) (.agg #[.int .i64 (j : Int), .string ⟨#[109, 111, 114, 101]⟩, .int .i64 (t : Int), .int .i64 0, .int .i64 0, .int .i64 0, .int .i64 0])).run Tryz.prog w = .ok (.bool false) w := fun w => by
                      have h := neqRow ⟨⟨(j : Int), ⟨#[109, 111, 114, 101]⟩, (t : Int)⟩, 0, 0, 0, 0⟩ ⟨⟨(j : Int), ⟨#[109, 111, 114, 101]⟩, (t : Int)⟩, 0, 0, 0, 0⟩ w
                      rw [decide_eq_true rfl] at h
                      exact h
                    have hgw : gw < wy.heap.size := (O2.out.lt gw rfl).2
                    clear O1 O2 EM
                    go_wp2
                    rw [show (k : Int) - (n : Int) = (t : Int) by have := HKT.out; omega]
                    have hbb : Below wy.heap.size wy (wy.alloc (.cells #[.int .i64 (j : Int), .string ⟨#[109, 111, 114, 101]⟩, .int .i64 (t : Int), .int .i64 0, .int .i64 0, .int .i64 0, .int .i64 0] 84)) := (Below.refl _ _).alloc (Nat.le_refl _) _
                    have hsz : wy.heap.size < (wy.alloc (.cells #[.int .i64 (j : Int), .string ⟨#[109, 111, 114, 101]⟩, .int .i64 (t : Int), .int .i64 0, .int .i64 0, .int .i64 0, .int .i64 0] 84)).heap.size := (Blk.new wy _ _).lt
                    have x0 : (wy.alloc (.cells #[.int .i64 (j : Int), .string ⟨#[109, 111, 114, 101]⟩, .int .i64 (t : Int), .int .i64 0, .int .i64 0, .int .i64 0, .int .i64 0] 84)).cell? ⟨wy.heap.size, 0, none⟩ = some (.int .i64 (j : Int)) := (Blk.new wy 84 #[.int .i64 (j : Int), .string ⟨#[109, 111, 114, 101]⟩, .int .i64 (t : Int), .int .i64 0, .int .i64 0, .int .i64 0, .int .i64 0]).cell 0
                    have x1 : (wy.alloc (.cells #[.int .i64 (j : Int), .string ⟨#[109, 111, 114, 101]⟩, .int .i64 (t : Int), .int .i64 0, .int .i64 0, .int .i64 0, .int .i64 0] 84)).cell? ⟨wy.heap.size, 1, none⟩ = some (.string ⟨#[109, 111, 114, 101]⟩) := (Blk.new wy 84 #[.int .i64 (j : Int), .string ⟨#[109, 111, 114, 101]⟩, .int .i64 (t : Int), .int .i64 0, .int .i64 0, .int .i64 0, .int .i64 0]).cell 1
                    have x2 : (wy.alloc (.cells #[.int .i64 (j : Int), .string ⟨#[109, 111, 114, 101]⟩, .int .i64 (t : Int), .int .i64 0, .int .i64 0, .int .i64 0, .int .i64 0] 84)).cell? ⟨wy.heap.size, 2, none⟩ = some (.int .i64 (t : Int)) := (Blk.new wy 84 #[.int .i64 (j : Int), .string ⟨#[109, 111, 114, 101]⟩, .int .i64 (t : Int), .int .i64 0, .int .i64 0, .int .i64 0, .int .i64 0]).cell 2
                    have x3 : (wy.alloc (.cells #[.int .i64 (j : Int), .string ⟨#[109, 111, 114, 101]⟩, .int .i64 (t : Int), .int .i64 0, .int .i64 0, .int .i64 0, .int .i64 0] 84)).cell? ⟨wy.heap.size, 3, none⟩ = some (.int .i64 0) := (Blk.new wy 84 #[.int .i64 (j : Int), .string ⟨#[109, 111, 114, 101]⟩, .int .i64 (t : Int), .int .i64 0, .int .i64 0, .int .i64 0, .int .i64 0]).cell 3
                    have x4 : (wy.alloc (.cells #[.int .i64 (j : Int), .string ⟨#[109, 111, 114, 101]⟩, .int .i64 (t : Int), .int .i64 0, .int .i64 0, .int .i64 0, .int .i64 0] 84)).cell? ⟨wy.heap.size, 4, none⟩ = some (.int .i64 0) := (Blk.new wy 84 #[.int .i64 (j : Int), .string ⟨#[109, 111, 114, 101]⟩, .int .i64 (t : Int), .int .i64 0, .int .i64 0, .int .i64 0, .int .i64 0]).cell 4
                    have x5 : (wy.alloc (.cells #[.int .i64 (j : Int), .string ⟨#[109, 111, 114, 101]⟩, .int .i64 (t : Int), .int .i64 0, .int .i64 0, .int .i64 0, .int .i64 0] 84)).cell? ⟨wy.heap.size, 5, none⟩ = some (.int .i64 0) := (Blk.new wy 84 #[.int .i64 (j : Int), .string ⟨#[109, 111, 114, 101]⟩, .int .i64 (t : Int), .int .i64 0, .int .i64 0, .int .i64 0, .int .i64 0]).cell 5
                    have x6 : (wy.alloc (.cells #[.int .i64 (j : Int), .string ⟨#[109, 111, 114, 101]⟩, .int .i64 (t : Int), .int .i64 0, .int .i64 0, .int .i64 0, .int .i64 0] 84)).cell? ⟨wy.heap.size, 6, none⟩ = some (.int .i64 0) := (Blk.new wy 84 #[.int .i64 (j : Int), .string ⟨#[109, 111, 114, 101]⟩, .int .i64 (t : Int), .int .i64 0, .int .i64 0, .int .i64 0, .int .i64 0]).cell 6
                    have K0 := (hbb.cell (p := ⟨gk, j, none⟩) hgk).trans ck0
                    have M0 := (hbb.cell (p := ⟨gm, j, none⟩) hgm).trans cm0
                    have B0 := (hbb.cell (p := ⟨gw, k * 7, none⟩) hgw).trans b0
                    have B1 := (hbb.cell (p := ⟨gw, k * 7 + 1, none⟩) hgw).trans b1
                    have B2 := (hbb.cell (p := ⟨gw, k * 7 + 2, none⟩) hgw).trans b2
                    have B3 := (hbb.cell (p := ⟨gw, k * 7 + 3, none⟩) hgw).trans b3
                    have B4 := (hbb.cell (p := ⟨gw, k * 7 + 4, none⟩) hgw).trans b4
                    have B5 := (hbb.cell (p := ⟨gw, k * 7 + 5, none⟩) hgw).trans b5
                    have B6 := (hbb.cell (p := ⟨gw, k * 7 + 6, none⟩) hgw).trans b6
                    have HJ := Lib.hid (HPy.out.kept hbb)
                    clear hbb ck0 cm0 b0 b1 b2 b3 b4 b5 b6
                    generalize (wy.alloc (.cells #[.int .i64 (j : Int), .string ⟨#[109, 111, 114, 101]⟩, .int .i64 (t : Int), .int .i64 0, .int .i64 0, .int .i64 0, .int .i64 0] 84)) = wb at *
                    have hgk : gk < wb.heap.size := by omega
                    have hgm : gm < wb.heap.size := by omega
                    have hgw : gw < wb.heap.size := by omega
                    refine wp_region_heldq (B := wb.heap.size) (w1 := wb) (by kernel_rfl) (by kernel_rfl) (Held.of (Below.refl _ _).drew (Nat.le_refl _)) ?_
                    repeat
                      (with_reducible refine wpQuiet_step (fun K hK => ?_))
                      first
                        | ((with_reducible refine ite_pos_ ?_ ?_); (focus (go_simp; done)); apply Exists.intro; refine ⟨fun wz hzC => ?_, hK _ ?_⟩; (have hz := HeldC.out hzC; clear hzC; unfold Oper.quietAt; go_simp; (first | done | ((have h0 := (hz.1 gk j hgk).trans K0); (have h1 := (hz.1 gm j hgm).trans M0); (have i0 := (hz.1 wy.heap.size 0 hsz).trans x0); (have k0 := (hz.1 gw (k * 7) hgw).trans B0); (have i1 := (hz.1 wy.heap.size 1 hsz).trans x1); (have k1 := (hz.1 gw (k * 7 + 1) hgw).trans B1); (have i2 := (hz.1 wy.heap.size 2 hsz).trans x2); (have k2 := (hz.1 gw (k * 7 + 2) hgw).trans B2); (have i3 := (hz.1 wy.heap.size 3 hsz).trans x3); (have k3 := (hz.1 gw (k * 7 + 3) hgw).trans B3); (have i4 := (hz.1 wy.heap.size 4 hsz).trans x4); (have k4 := (hz.1 gw (k * 7 + 4) hgw).trans B4); (have i5 := (hz.1 wy.heap.size 5 hsz).trans x5); (have k5 := (hz.1 gw (k * 7 + 5) hgw).trans B5); (have i6 := (hz.1 wy.heap.size 6 hsz).trans x6); (have k6 := (hz.1 gw (k * 7 + 6) hgw).trans B6); go_simp; (first | done | (with_reducible rfl))) | (with_reducible rfl))); clear hK K; (try simp only [Act.put, List.setIfInBounds_toArray, List.set_cons_zero, List.set_cons_succ]))
                        | ((with_reducible refine ite_neg_ ?_ ?_); (focus (go_simp; done)); refine hK _ ?_; clear hK K; (try simp only [Act.put, List.setIfInBounds_toArray, List.set_cons_zero, List.set_cons_succ]))
                    (with_reducible refine wpQuiet_nil ?_)
                    intro wz hz
                    have HJ2 := Lib.hid (HJ.out.kept hz.2.2.2)
                    clear hz
                    go_wp2
                    go_roundw
                    case rel => exact ⟨k + 1, by go_num, by omega, HJ2⟩
                    case measure => simp [intOf]; omega
                · go_wp2
                  go_roundw
                  case rel => ((repeat apply Exists.intro); exact ⟨⟨j + 1, by go_num, by omega, HPy⟩, rfl⟩)
                  case measure => simp [intOf]; omega
            · go_wp2
              go_ret
              exact ⟨rfl, HPz.out.tur⟩
end Go.Proofs.YteffpfgdoganpaaGreatDoor
