/- The Writer's methods. -/
import Derived.Test.YteffpfgdoganpaaDoorWBase
import Derived.Deep.DeepAppendWide
namespace Go.Proofs.YteffpfgdoganpaaDoor
open Go.RowKit

/-- A number's bytes by sevens, the lowest first. -/
def sev (n : Nat) : List Int := if n < 128 then [(n : Int)] else ((n % 128 + 128 : Nat) : Int) :: sev (n / 128)
termination_by n
decreasing_by omega
theorem sev_small (n : Nat) (h : n < 128) : sev n = [(n : Int)] := by rw [sev, if_pos h]
theorem sev_big (n : Nat) (h : ¬ n < 128) : sev n = ((n % 128 + 128 : Nat) : Int) :: sev (n / 128) := by rw [sev, if_neg h]
theorem sev_len : ∀ (k n : Nat), n < 128 ^ (k + 1) → (sev n).length ≤ k + 1
  | 0, n, h => by rw [sev_small n (by omega)]; simp
  | k + 1, n, h => by
    by_cases h1 : n < 128
    · rw [sev_small n h1]; simp
    · rw [sev_big n h1, List.length_cons]
      have := sev_len k (n / 128) (by rw [Nat.div_lt_iff_lt_mul (by omega)]; rw [Nat.pow_succ] at h; exact h)
      omega
theorem sev_len10 (n : Nat) (h : n < 18446744073709551616) : (sev n).length ≤ 10 := sev_len 9 n (by omega)

/-- append onto an owned row up to growslice's own bound; where the row lies then. -/
theorem run_append_wide_at {P : Program} (w : World) (base : Nat) (t ty e : TypeId) (i : TypeInfo) (z : Value) (size bytes : Nat) (ht : P.underlying t = some (.slice e)) (hi : P.info? e = some i) (hz : i.zero = some z)
    (hsize : i.size = size) (hby : i.bytes = bytes) (hzs : z.cells.size = size) (hsz : 0 < size)
    (v : Value) (n : Nat) (xs : List Value) (hown : w.ownsRow base e size v n xs)
    (ad : Addr) (m c : Nat) (news : List Value) (hl : news.length = m * size) (hnews : ∀ j u, news[j]? = some u → w.cell? (ad.add j) = some u) (h1 : ∀ u ∈ news, u.oneCell' = true)
    (h63 : n + m ≤ maxLen) (hbytes : ((n + m) + (n + m) / 4 + 192) * bytes ≤ 281474976710656) (hbase : base ≤ w.heap.size) :
    ∃ v' w', (Builtin.append_ #[t, t] ty #[v, .slice (some ad) m c]).run P w = .ok v' w' ∧ w'.ownsRow base e size v' (n + m) (xs ++ news) ∧ w.grownBy w' v.ownBlock ∧ (v'.ownBlock = v.ownBlock ∨ v'.ownBlock = some w.heap.size) := by
  subst hsize
  subst hby
  obtain ⟨v', w', hr, h2, h3, h4⟩ := run_append_own_wide (P := P) w base t ty e i z i.size i.bytes ht hi hz rfl rfl hzs hsz v n xs hown ad m c news hl hnews h1 h63 hbytes hbase
  have hsmall : n + m ≤ 9223372036854775807 := by simp only [maxLen] at h63; omega
  refine ⟨v', w', hr, h2, h3, ?_⟩
  rcases hown.2 with ⟨rfl, rfl⟩ | ⟨g, cap, cur, rfl, _, hg, hnc, hcm, hcs, _⟩
  · by_cases hm : m = 0
    · rw [h4.2 ⟨rfl, hm⟩]; exact .inl rfl
    · have hr2 := run_append_nil (P := P) w t ty e i z ht hi hz ad m c news hl hnews (by omega) (by omega) (by have hb := hbytes; simp only [Nat.zero_add] at hb; exact Nat.le_trans (Nat.mul_le_mul_right _ (by omega)) hb)
      rw [hr] at hr2
      injection hr2 with e1 e2
      rw [e1]; exact .inr rfl
  · by_cases hroom : n + m ≤ cap
    · have hfit : n * i.size + news.length ≤ cur.size := by rw [hl, hcs, ← Nat.add_mul]; exact Nat.mul_le_mul_right _ hroom
      have hr2 := run_append_room (P := P) w t ty e i ht hi g n cap cur hg ad m c news hl hnews h1 hroom hfit
      rw [hr] at hr2
      injection hr2 with e1 e2
      rw [e1]; exact .inl rfl
    · have hr2 := run_append_grow (P := P) w t ty e i z ht hi hz ⟨g, 0, none⟩ n cap xs hown.1 (hown.cells (g := g) rfl) ad m c news hl hnews (by omega) (by omega) (growslice_fits_wide (by omega) hbytes)
      rw [hr] at hr2
      injection hr2 with e1 e2
      rw [e1]; exact .inr rfl

section
variable {w : World}
/-- append of a row of bytes onto an owned one. -/
theorem wpList_append_bytes {ops : Array Oper} {rest : List Oper} {o : Oper} {a : Act} {Q : Exit → Act → World → Prop} (hgd : o.guard = none) (s x : Operand)
    (ho : o.op = .call { callee := .builtin .append, args := #[s, x], argTypes := #[45, 45] })
    (base : Nat) (v : Value) (n : Nat) (xs : List Int) (hs : a.eval s = v) (hown : w.ownsRow base 5 1 v n (bvs xs))
    (A : Option Addr) (m c : Nat) (hA : A = none → c = 0) (news : List Int) (hx : a.eval x = .slice A m c) (hl : news.length = m) (hnews : CellsAt w A (bvs news))
    (h63 : n + m ≤ 211106232532992) (hbase : base ≤ w.heap.size)
    (h : ∀ v' w', w'.ownsRow base 5 1 v' (n + m) (bvs xs ++ bvs news) → w.grownBy w' v.ownBlock → (v'.ownBlock = v.ownBlock ∨ v'.ownBlock = some w.heap.size) → wpList Tryd.prog ops Q rest (a.put o.dst v') w') :
    wpList Tryd.prog ops Q (o :: rest) a w := by
  obtain ⟨i0, hi, hz0, hz1, hz2⟩ := info_parts info_u8
  refine wpList_plain hgd fun K hK => ?_
  obtain ⟨v', w', hr, h2, h3, h5⟩ : ∃ v' w', (Builtin.append_ #[45, 45] o.type #[v, .slice A m c]).run Tryd.prog w = .ok v' w' ∧ w'.ownsRow base 5 1 v' (n + m) (bvs xs ++ bvs news) ∧ w.grownBy w' v.ownBlock ∧ (v'.ownBlock = v.ownBlock ∨ v'.ownBlock = some w.heap.size) := by
    cases A with
    | none =>
      have hm : news = [] := by
        cases news with
        | nil => rfl
        | cons u us => obtain ⟨ad, h, _⟩ := hnews 0 (by simp [bvs]); cases h
      subst hm
      simp at hl
      obtain rfl := hl.symm
      obtain rfl := hA rfl
      exact ⟨v, w, run_append_owned_none (P := Tryd.prog) (w := w) base _ o.type _ i0 1 Tryd.underlying45 hi v n (bvs xs) hown, by simpa [bvs] using hown, ⟨rfl, rfl, rfl, Nat.le_refl _, fun _ _ _ => rfl⟩, .inl rfl⟩
    | some ad =>
      exact run_append_wide_at (P := Tryd.prog) w base _ o.type _ i0 _ 1 1 Tryd.underlying45 hi hz0 hz1 hz2 rfl (by omega) v n (bvs xs) hown ad m c (bvs news) (by rw [bvs_len, hl, Nat.mul_one])
        (fun j u hj => by
          obtain ⟨hlt, rfl⟩ := List.getElem?_eq_some_iff.1 hj
          obtain ⟨ad', h, _, hc⟩ := hnews j hlt
          cases h
          exact hc) (bvs_one _) (by unfold maxLen; omega) (by omega) hbase
  unfold Oper.wp execOp
  simp only [ho, resolve, invoke, builtin, Sem.run_bind, Sem.run_pure, Result.andThen_ok, List.map_toArray, List.map_cons, List.map_nil, hs, hx, hr]
  exact hK _ _ (h v' w' h2 h3 h5)
end

theorem cells_one (W : World) (t : TypeId) (x : Value) : CellsAt (W.alloc (.cells #[x] t)) (some ⟨W.heap.size, 0, none⟩) [x] := fun k hk => by
  simp at hk
  subst hk
  exact ⟨_, rfl, by simp, by simp [Addr.add]⟩

theorem u8_of (m : Nat) : IntKind.u8.wrap (m : Int) = ((m % 256 : Nat) : Int) := by simp [IntKind.wrap, IntKind.signed, IntKind.bits]

set_option maxRecDepth 100000 in
theorem or128_ : ∀ x : Fin 256, bits .or .u8 (x.val : Int) 128 = ((x.val % 128 + 128 : Nat) : Int) := by decide
theorem or128 (m : Nat) : bits .or .u8 ((m : Int) % 256) 128 = ((m % 128 + 128 : Nat) : Int) := by
  have h := or128_ ⟨m % 256, by omega⟩
  have e : m % 256 % 128 = m % 128 := by omega
  simp only [e] at h
  rw [← h]
  simp

set_option maxHeartbeats 1000000 in
set_option maxRecDepth 100000 in
theorem w_sevens (n : Nat) (hn : n < 18446744073709551616) (base p : Nat) (v : Value) (bs : List Int) (W : World) (h : Wr W base p v bs) (hbs : bs.length + 10 ≤ 211106232532992) :
    Calls Tryd.prog 69 #[.pointer (some ⟨p, 0, none⟩), .int .u64 (n : Int)] W fun e w' => e = .returned (.tuple #[]) ∧ ∃ v', Wr w' base p v' (bs ++ sev n) ∧ WrFr W p v w' v' := by
  have H := Lib.hid h
  have HN := Lib.hid (sev_len10 n hn)
  have hb := h.base
  have hlt := h.blk.lt
  have HBS := Lib.hid hbs
  clear h hn hbs
  go_enter Tryd.func69, Tryd.ntmps69
  go_wp2
  go_loopw [1] (fun t1 wr => ∃ (m : Nat) (pre cur : List Int) (A : Option Addr) (l c : Nat), t1 = .int .u64 (m : Int) ∧ m ≤ n ∧ Hid (bs ++ sev n = cur ++ sev m ∧ cur = bs ++ pre ∧ Wr wr base p (.slice A l c) cur ∧ WrFr W p v wr (.slice A l c))) (fun t1 _ => (intOf t1).toNat)
  case atStart =>
    obtain ⟨A, c, rfl, _, _, _⟩ := owned_form H.out.own
    exact ⟨n, [], bs, A, _, c, rfl, Nat.le_refl _, Lib.hid ⟨rfl, by simp, H.out, WrFr.refl _ _ _⟩⟩
  case round =>
    obtain ⟨m, pre, cur, A, l, c, rfl, hm, HP⟩ := hrel
    have HPL : Hid (cur.length + 1 ≤ bs.length + 10) := Lib.hid (by
      have h1 := congrArg List.length HP.out.1
      rw [List.length_append, List.length_append] at h1
      have h3 : 1 ≤ (sev m).length := by rw [sev]; split <;> simp
      have := HN.out
      omega)
    have p0 : wr.cell? ⟨p, 0, none⟩ = some (.slice A l c) := HP.out.2.2.1.blk.cell 0
    by_cases h128 : m < 128
    · have HSm := Lib.hid (sev_small m h128)
      have h1 : Wr (wr.alloc (.cells #[.int .u8 (m : Int)] 5)) base p (.slice A l c) cur := HP.out.2.2.1.kept ((Below.refl _ _).alloc (Nat.le_refl _) _)
      have f1 : WrFr W p v (wr.alloc (.cells #[.int .u8 (m : Int)] 5)) (.slice A l c) := HP.out.2.2.2.trans ⟨(Tur.refl _ _).alloc _, .inl rfl⟩
      have H1 := Lib.hid h1
      have F1 := Lib.hid f1
      have S1 := Lib.hid (show base ≤ (wr.alloc (.cells #[.int .u8 (m : Int)] 5)).heap.size from Nat.le_trans h1.base (Nat.le_of_lt h1.blk.lt))
      clear h1 f1
      go_wp2_with (at_builtin; refine wpList_append_bytes rfl _ _ rfl base _ _ cur rfl H1.out.own (some ⟨wr.heap.size, 0, none⟩) 1 1 (fun h => by cases h) [(m : Int)] rfl rfl (cells_one wr _ _) (by have := HBS.out; have := HPL.out; omega) S1.out ?_
                   intro v' w2 hown hg hv
                   obtain ⟨A', c', rfl, _, _, _⟩ := owned_form hown
                   have q0 : w2.cell? ⟨p, 0, none⟩ = some (.slice A l c) := (H1.out.blk.grown hg (fun e => H1.out.ne e.symm)).cell 0
                   have q1 : w2.frozen? ⟨p, 0, none⟩ = false := (H1.out.blk.grown hg (fun e => H1.out.ne e.symm)).frozen 0
                   have HW := Lib.hid (H1.out.put (more := [(m : Int)]) hown hg hv)
                   clear hown hg hv)
      go_end0
      exact ⟨rfl, _, by rw [HP.out.1, HSm.out]; exact HW.out.1, F1.out.trans HW.out.2⟩
    · have hor := or128 m
      have HBg := Lib.hid (sev_big m h128)
      have h1 : Wr (wr.alloc (.cells #[.int .u8 ((m % 128 + 128 : Nat) : Int)] 5)) base p (.slice A l c) cur := HP.out.2.2.1.kept ((Below.refl _ _).alloc (Nat.le_refl _) _)
      have f1 : WrFr W p v (wr.alloc (.cells #[.int .u8 ((m % 128 + 128 : Nat) : Int)] 5)) (.slice A l c) := HP.out.2.2.2.trans ⟨(Tur.refl _ _).alloc _, .inl rfl⟩
      have H1 := Lib.hid h1
      have F1 := Lib.hid f1
      have S1 := Lib.hid (show base ≤ (wr.alloc (.cells #[.int .u8 ((m % 128 + 128 : Nat) : Int)] 5)).heap.size from Nat.le_trans h1.base (Nat.le_of_lt h1.blk.lt))
      clear h1 f1
      go_wp2_with (at_builtin; refine wpList_append_bytes rfl _ _ rfl base _ _ cur rfl H1.out.own (some ⟨wr.heap.size, 0, none⟩) 1 1 (fun h => by cases h) [((m % 128 + 128 : Nat) : Int)] rfl rfl (cells_one wr _ _) (by have := HBS.out; have := HPL.out; omega) S1.out ?_
                   intro v' w2 hown hg hv
                   obtain ⟨A', c', rfl, _, _, _⟩ := owned_form hown
                   have q0 : w2.cell? ⟨p, 0, none⟩ = some (.slice A l c) := (H1.out.blk.grown hg (fun e => H1.out.ne e.symm)).cell 0
                   have q1 : w2.frozen? ⟨p, 0, none⟩ = false := (H1.out.blk.grown hg (fun e => H1.out.ne e.symm)).frozen 0
                   have HW := Lib.hid (H1.out.put (more := [((m % 128 + 128 : Nat) : Int)]) hown hg hv)
                   clear hown hg hv)
      go_roundw
      case rel => exact ⟨m / 128, pre ++ [((m % 128 + 128 : Nat) : Int)], cur ++ [((m % 128 + 128 : Nat) : Int)], _, _, _, by go_num, by omega, Lib.hid ⟨by rw [HP.out.1, HBg.out, List.append_assoc]; rfl, by rw [HP.out.2.1, List.append_assoc], HW.out.1, F1.out.trans HW.out.2⟩⟩
      case measure => simp [intOf]; omega
end Go.Proofs.YteffpfgdoganpaaDoor
