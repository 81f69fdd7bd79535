/- The law's own room and still. -/
import Derived.Test.YtikacbfpeegcdaaAggOrders
import Derived.Test.YtikacbfpeegcdaaAggBest
import Derived.Deep.DeepAppendRoom
namespace Go.Proofs.Ytikacbfpeegcdaa
open Go.RowKit

theorem wpList_make_cells {P : Program} {w : World} {ops : Array Oper} {rest : List Oper} {o : Oper} {a : Act} {Q : Exit → Act → World → Prop} (hgd : o.guard = none) (l c : Operand) (t : TypeId) (hop : o.op = Op.makeSlice t l c)
    (e : TypeId) (i : TypeInfo) (z : Value) (bytes : Nat) (ht : P.underlying t = some (.slice e)) (hi : P.info? e = some i) (hz : i.zero = some z) (hsize : i.size = 1) (hby : i.bytes = bytes)
    (m n : Nat) (hl : a.eval l = .int .i64 (m : Int)) (hc : a.eval c = .int .i64 (n : Int)) (hmn : m ≤ n) (hn : bytes * n ≤ 281474976710656) (h63 : n ≤ 9223372036854775807)
    (hK : wpList P ops Q rest (a.put o.dst (.slice (some ⟨w.heap.size, 0, none⟩) m n)) (w.alloc (.cells (madeCells z.cells n) e))) :
    wpList P ops Q (o :: rest) a w := by
  refine wpList_plain hgd fun K hK' => ?_
  have hb : ((bytes * n : Nat) : Int) ≤ 281474976710656 := by omega
  rw [Int.natCast_mul] at hb
  have hrun := run_make (P := P) w t e i z ht hi hz .i64 .i64 (m : Int) (n : Int) (by omega) (by omega) (by rw [hby]; exact hb) (by omega)
  rw [hsize] at hrun
  simp only [Int.toNat_natCast, Nat.mul_one] at hrun
  unfold Oper.wp
  simp [execOp, hop, hl, hc, hrun, Result.andThen]
  exact hK' _ _ hK

section
variable {w : World}
theorem wpList_make_ints {ops : Array Oper} {rest : List Oper} {o : Oper} {a : Act} {Q : Exit → Act → World → Prop} (hgd : o.guard = none) (l c : Operand) (hop : o.op = Op.makeSlice 28 l c)
    (n : Nat) (z : Int) (hl : a.eval l = .int .i64 0) (hc : a.eval c = .int .i64 z) (hz : z = (n : Int)) (hn : n ≤ 1000000)
    (hK : ∀ cs : Array Value, cs.size = n → wpList Try.prog ops Q rest (a.put o.dst (.slice (some ⟨w.heap.size, 0, none⟩) 0 n)) (w.alloc (.cells cs 2))) :
    wpList Try.prog ops Q (o :: rest) a w := by
  subst hz
  obtain ⟨i, hi, hz0, hz1, hz2⟩ := info_parts info_i64
  exact wpList_make_cells hgd l c _ hop _ i _ 8 Try.underlying28 hi hz0 hz1 hz2 0 n hl hc (Nat.zero_le _) (by omega) (by omega) (hK _ (size_madeCells _ _))

theorem wpList_append_fill {ops : Array Oper} {rest : List Oper} {o : Oper} {a : Act} {Q : Exit → Act → World → Prop} (hgd : o.guard = none) (s x : Operand)
    (ho : o.op = .call { callee := .builtin .append, args := #[s, x], argTypes := #[28, 28] })
    (g cap : Nat) (cur : Array Value) (hs : a.eval s = .slice (some ⟨g, 0, none⟩) 0 cap) (hg : Blk w g 2 cur) (hcs : cur.size = cap) (hcm : cap ≤ 1000000)
    (A : Option Addr) (m c : Nat) (hA : A = none → c = 0) (news : List Int) (hx : a.eval x = .slice A m c) (hnews : IntsAt w A m news) (hroom : m ≤ cap)
    (h : ∀ w' cur', Blk w' g 2 cur' → cur'.size = cap → cur'.toList.take m = ivs news → w.grownBy w' (some g) → wpList Try.prog ops Q rest (a.put o.dst (.slice (some ⟨g, 0, none⟩) m cap)) w') :
    wpList Try.prog ops Q (o :: rest) a w := by
  obtain ⟨i0, hi, hz0, hz1, hz2⟩ := info_parts info_i64
  have hown : w.ownsRow 0 2 1 (.slice (some ⟨g, 0, none⟩) 0 cap) 0 [] := ⟨rfl, .inr ⟨g, cap, cur, rfl, Nat.zero_le _, hg, Nat.zero_le _, by unfold maxLen; omega, by omega, by simp⟩⟩
  cases A with
  | none =>
    have hm : m = 0 := by
      rcases Nat.eq_zero_or_pos m with h | h
      · exact h
      · obtain ⟨ad, h, _⟩ := hnews.at_ 0 h; cases h
    subst hm
    obtain rfl := hA rfl
    have hn : news = [] := List.eq_nil_of_length_eq_zero hnews.len
    subst hn
    refine wpList_plain hgd fun K hK => ?_
    have hr := run_append_owned_none (P := Try.prog) (w := w) 0 28 o.type 2 i0 1 Try.underlying28 hi _ 0 [] hown
    unfold Oper.wp execOp
    simp only [ho, resolve, invoke, builtin, Sem.run_bind, Sem.run_pure, Result.andThen_ok, List.map_toArray, List.map_cons, List.map_nil, hs, hx, hr]
    exact hK _ _ (h w cur hg hcs (by simp [ivs]) ⟨rfl, rfl, rfl, Nat.le_refl _, fun _ _ _ => rfl⟩)
  | some ad =>
    have hl : (ivs news).length = m := by rw [ivs_len]; exact hnews.len
    refine wpList_append_own_spare w hgd s x _ ho 0 2 i0 1 Try.underlying28 hi hz1 g 0 cap [] hs hown ad m c (ivs news) hx (by omega) (fun j u hj => ?_) (ivs_one _) (by omega) ?_
    · obtain ⟨hlt, rfl⟩ := List.getElem?_eq_some_iff.1 hj
      obtain ⟨ad', h, _, hc⟩ := hnews.cells j hlt
      cases h
      exact hc
    · intro w' h2 h3
      simp only [Nat.zero_add, List.nil_append] at h2 ⊢
      obtain ⟨_, h2⟩ := h2
      rcases h2 with ⟨h', _⟩ | ⟨g', cap', cur', h', _, hg', _, _, hcs', htake⟩
      · cases h'
      · cases h'
        exact h w' cur' hg' (by omega) (by simpa using htake) h3
end

theorem add_zero_ (g k : Nat) : (⟨g, 0, none⟩ : Addr).add k = ⟨g, k, none⟩ := by cases k <;> simp [Addr.add]
theorem fill_step (cs : Array Value) (zs : List Int) (n k : Nat) (hn : n ≤ k) (hk : k < cs.size) (hz : zs.length = n) (h : cs.toList.take k = ivs (zs ++ List.replicate (k - n) (-77))) :
    (cs.setIfInBounds k (.int .i64 (-77))).toList.take (k + 1) = ivs (zs ++ List.replicate (k + 1 - n) (-77)) := by
  have e : k + 1 - n = (k - n) + 1 := by omega
  have hs : (cs.setIfInBounds k (.int .i64 (-77))).toList = cs.toList.set k (.int .i64 (-77)) := by simp
  rw [e, List.replicate_succ', hs, take_succ_ _ k (by simpa using hk), List.getElem_set_self, List.take_set_of_le (Nat.le_refl _), h]
  simp [ivs]

set_option maxHeartbeats 1000000 in
theorem room_any (A : Option Addr) (n cap : Nat) (zs : List Int) (w : World) (hz : IntsAt w A n zs) (hA : A = none → cap = 0) (hn : n ≤ 5000) :
    Calls Try.prog 24 #[.slice A n cap] w fun e w' => ∃ g cur, e = .returned (.slice (some ⟨g, 0, none⟩) n (n + 4)) ∧ w.heap.size ≤ g ∧ Blk w' g 2 cur ∧ cur.toList = ivs (zs ++ [-77, -77, -77, -77]) ∧ Below w.heap.size w w' := by
  have HZ := Lib.hid hz
  have HA0 := Lib.hid hA
  clear hz hA
  go_enter Try.func24, Try.ntmps24
  go_wp2_with (first
    | (at_make; refine wpList_make_ints rfl _ _ rfl (n + 4) _ rfl rfl (by first | omega | simp) (by omega) ?_; intro cs hcs; have HC := Lib.hid hcs; clear hcs)
    | (at_builtin; refine wpList_append_fill rfl _ _ rfl w.heap.size (n + 4) cs rfl (Blk.new w _ cs) HC.out (by omega) A n cap HA0.out zs rfl (HZ.out.below ((Below.refl _ _).alloc (Nat.le_refl _) _)) (by omega) ?_
       intro w1 cur hbk hcs2 htk hgr
       have BK := Lib.hid (show Blk w1 w.heap.size 2 cur ∧ cur.size = n + 4 ∧ cur.toList.take n = ivs zs from ⟨hbk, hcs2, htk⟩)
       have B1 := Lib.hid (below_grown ((Below.refl w.heap.size w).alloc (Nat.le_refl _) (.cells cs 2)) hgr (by intro g hg; cases hg; exact Nat.le_refl _) (by simp))
       clear hbk hcs2 htk hgr))
  go_loopw [5] (fun i wr => ∃ (k : Nat) (cs : Array Value), n ≤ k ∧ k ≤ n + 4 ∧ i = .int .i64 k ∧ Hid (Blk wr w.heap.size 2 cs ∧ cs.size = n + 4 ∧ cs.toList.take k = ivs (zs ++ List.replicate (k - n) (-77)) ∧ Below w.heap.size w wr)) (fun i _ => n + 4 - (intOf i).toNat)
  case atStart => exact ⟨n, cur, Nat.le_refl _, by omega, rfl, Lib.hid ⟨BK.out.1, BK.out.2.1, by simpa using BK.out.2.2, B1.out⟩⟩
  case round =>
    obtain ⟨k, cs2, hk1, hk2, rfl, HP⟩ := hrel
    by_cases hlt : k < n + 4
    · have hkc : k < cs2.size := by rw [HP.out.2.1]; exact hlt
      have hcr : wr.cell? ⟨w.heap.size, k, none⟩ = some (cs2[k]'hkc) := by rw [HP.out.1.cell k, Array.getElem?_eq_getElem hkc]
      have hfr : wr.frozen? ⟨w.heap.size, k, none⟩ = false := HP.out.1.frozen k
      have hne := HP.out.1.lt
      clear hne
      go_wp2
      go_roundw
      case rel => exact ⟨k + 1, cs2.setIfInBounds k (.int .i64 (-77)), by omega, by omega, by go_num, Lib.hid ⟨HP.out.1.set_ k _, by simpa using HP.out.2.1, fill_step cs2 zs n k hk1 hkc HZ.out.len HP.out.2.2.1, HP.out.2.2.2.setCell (Nat.le_refl _) _⟩⟩
      case measure => simp [intOf]; omega
    · go_wp2
      go_ret
      refine ⟨w.heap.size, cs2, rfl, Nat.le_refl _, HP.out.1, ?_, HP.out.2.2.2⟩
      have h := HP.out.2.2.1
      obtain rfl : k = n + 4 := by omega
      rw [List.take_of_length_le (by simp [HP.out.2.1])] at h
      rw [h]
      simp

set_option maxHeartbeats 1000000 in
theorem still_any (g : Nat) (cur : Array Value) (A : Option Addr) (n cap : Nat) (zs : List Int) (w : World) (hz : IntsAt w A n zs) (hg : Blk w g 2 cur) (hc : cur.toList = ivs (zs ++ [-77, -77, -77, -77])) (hn : n ≤ 5000) :
    Calls Try.prog 25 #[.slice (some ⟨g, 0, none⟩) n (n + 4), .slice A n cap] w fun e w' => e = .returned (.bool true) ∧ Below w.heap.size w w' := by
  have HZ := Lib.hid hz
  have HG := Lib.hid hg
  have HC := Lib.hid hc
  clear hz hg hc
  go_enter Try.func25, Try.ntmps25
  go_wp2
  go_loopw [6] (fun i wr => ∃ k : Nat, k ≤ n + 4 ∧ i = .int .i64 k ∧ Hid (Below w.heap.size w wr)) (fun i _ => n + 4 - (intOf i).toNat)
  case atStart => exact ⟨0, Nat.zero_le _, rfl, Lib.hid (Below.refl _ _)⟩
  case round =>
    obtain ⟨k, hk, rfl, HP⟩ := hrel
    have hbk := HG.out.below HP.out HG.out.lt
    by_cases hlt : k < n
    · obtain ⟨ad, rfl, hal, hcell⟩ := (HZ.out.below HP.out).at_ k hlt
      have hcg : wr.cell? ⟨g, k, none⟩ = some (.int .i64 (zs[k]'(by rw [HZ.out.len]; exact hlt))) := by
        have hl := HZ.out.len
        rw [hbk.cell k, ← Array.getElem?_toList, HC.out]
        simp [ivs, List.getElem?_append_left, hl, hlt]
      generalize zs[k]'(by rw [HZ.out.len]; exact hlt) = x at hcell hcg
      have hdn : decide (k < n) = true := by simpa using hlt
      have hdm : decide (n ≤ k) = false := by simpa using hlt
      clear hbk
      go_wp2
      go_quiet (fail)
      go_wp2
      go_roundw
      case rel => exact ⟨k + 1, by omega, by go_num, Lib.hid (below_drewN HP.out _)⟩
      case measure => simp [intOf]; omega
    · by_cases hlt2 : k < n + 4
      · have hcg : wr.cell? ⟨g, k, none⟩ = some (.int .i64 (-77)) := by
          have hl := HZ.out.len
          obtain ⟨j, rfl⟩ : ∃ j, k = n + j := ⟨k - n, by omega⟩
          have hj : j < 4 := by omega
          rw [hbk.cell, ← Array.getElem?_toList, HC.out]
          rw [ivs_append, List.getElem?_append_right (by rw [ivs_len]; omega), ivs_len, hl, Nat.add_sub_cancel_left]
          match j, hj with
          | 0, _ => rfl
          | 1, _ => rfl
          | 2, _ => rfl
          | 3, _ => rfl
        have hdn : decide (k < n) = false := by simpa using hlt
        have hdm : decide (n ≤ k) = true := by simpa using hlt
        clear hbk
        go_wp2
        go_quiet (fail)
        go_wp2
        go_roundw
        case rel => exact ⟨k + 1, by omega, by go_num, Lib.hid (below_drewN HP.out _)⟩
        case measure => simp [intOf]; omega
      · clear hbk
        go_wp2
        go_ret
        exact ⟨rfl, HP.out⟩
end Go.Proofs.Ytikacbfpeegcdaa
