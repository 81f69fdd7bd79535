/- The law AggOrders: the walk. -/
import Derived.Test.YtikacbfpeegcdaaAggQ
import Derived.Test.YtikacbfpeegcdaaRows2
namespace Go.Proofs.Ytikacbfpeegcdaa
open Go.RowKit Go.Shelf

theorem info_i64 : (Try.prog.info? 2).map (fun i => (i.zero, i.size, i.bytes)) = some (some (.int .i64 0), 1, 8) := by kernel_rfl

def ivs (zs : List Int) : List Value := zs.map (Value.int .i64 ·)
theorem ivs_len (zs : List Int) : (ivs zs).length = zs.length := by simp [ivs]
theorem IntsAt.cells {w : World} {A : Option Addr} {n : Nat} {zs : List Int} (h : IntsAt w A n zs) : CellsAt w A (ivs zs) := fun k hk => by
  obtain ⟨ad, e, hl, hc⟩ := h.at_ k (by have := h.len; simp [ivs] at hk; omega)
  exact ⟨ad, e, hl, by rw [hc]; simp [ivs]⟩
theorem IntsAt.of_cells {w : World} {A : Option Addr} {n : Nat} {zs : List Int} (hl : zs.length = n) (h : CellsAt w A (ivs zs)) (hw : ∀ x ∈ zs, I64 x) : IntsAt w A n zs :=
  ⟨hl, fun k hk => by
    obtain ⟨ad, e, hb, hc⟩ := h k (by simp [ivs]; omega)
    exact ⟨ad, e, hb, by rw [hc]; simp [ivs]⟩, hw⟩
theorem ivs_one (zs : List Int) : ∀ u ∈ ivs zs, u.oneCell' = true := fun u hu => by
  simp [ivs] at hu
  obtain ⟨a, _, rfl⟩ := hu
  rfl
theorem ivs_append (a b : List Int) : ivs (a ++ b) = ivs a ++ ivs b := by simp [ivs]

section
variable {w : World}
theorem wpList_append_ints {ops : Array Oper} {rest : List Oper} {o : Oper} {a : Act} {Q : Exit → Act → World → Prop} (hgd : o.guard = none) (s x : Operand)
    (ho : o.op = .call { callee := .builtin .append, args := #[s, x], argTypes := #[28, 28] })
    (base : Nat) (v : Value) (n : Nat) (xs : List Int) (hs : a.eval s = v) (hown : w.ownsRow base 2 1 v n (ivs xs))
    (A : Option Addr) (m c : Nat) (hA : A = none → c = 0) (news : List Int) (hx : a.eval x = .slice A m c) (hnews : IntsAt w A m news)
    (h63 : n + m ≤ 1000000) (hbase : base ≤ w.heap.size)
    (h : ∀ v' w', w'.ownsRow base 2 1 v' (n + m) (ivs (xs ++ news)) → w.grownBy w' v.ownBlock → (v'.ownBlock = v.ownBlock ∨ v'.ownBlock = some w.heap.size) → wpList Try.prog ops Q rest (a.put o.dst v') w') :
    wpList Try.prog ops Q (o :: rest) a w := by
  obtain ⟨i0, hi, hz0, hz1, hz2⟩ := info_parts info_i64
  refine wpList_append_cells w hgd s x _ ho base _ i0 _ 8 Try.underlying28 hi hz0 hz1 hz2 rfl v n (ivs xs) hs hown A m c hA (ivs news) hx ?_ hnews.cells (ivs_one _) (by unfold maxLen; omega) (by omega) hbase ?_
  · rw [ivs_len]; exact hnews.len
  · rw [← ivs_append]; exact h
end

set_option maxHeartbeats 1000000 in
set_option maxRecDepth 100000 in
theorem orders_long (A : Option Addr) (n cap : Nat) (B : Option Addr) (m cap2 : Nat) (w : World) (h : 5000 < n ∨ 5000 < m) (hn : n ≤ 9223372036854775807) (hm : m ≤ 9223372036854775807) :
    Calls Try.prog 9 #[.slice A n cap, .slice B m cap2] w fun e w' => e = .returned (.bool true) ∧ Below w.heap.size w w' := by
  by_cases h1 : 5000 < n
  · clear h
    go_enter Try.func9, Try.ntmps9
    go_wp2_with (go_at_call 11; (with_reducible refine (known_any _).mono ?_); rintro e w1 ⟨rfl, hb1⟩)
    go_ret
    exact ⟨rfl, hb1⟩
  · have h2 : 5000 < m := by omega
    clear h
    go_enter Try.func9, Try.ntmps9
    go_wp2_with (go_at_call 11; (with_reducible refine (known_any _).mono ?_); rintro e w1 ⟨rfl, hb1⟩)
    go_ret
    exact ⟨rfl, hb1⟩

set_option maxHeartbeats 1000000 in
set_option maxRecDepth 100000 in
theorem orders_a (A : Option Addr) (n cap : Nat) (B : Option Addr) (m cap2 : Nat) (xs ys : List Int) (w : World) (ha : IntsAt w A n xs) (hb : IntsAt w B m ys) (hn : n ≤ 5000) (hm : m ≤ 5000)
    (p q : Int) (hf : foldI 0 0 0 0 xs = .inl (p, q)) (r : Sum (Int × Int) (Int × Int × Int × Int)) (hg : foldI 0 0 0 0 ys = r) (hr : ∀ x, r = .inr x → rightB x.1 x.2.1 x.2.2.1 x.2.2.2 = true ∧ I64 x.1 ∧ I64 x.2.1 ∧ I64 x.2.2.1 ∧ I64 x.2.2.2) :
    Calls Try.prog 9 #[.slice A n cap, .slice B m cap2] w fun e w' => e = .returned (.bool true) ∧ Below w.heap.size w w' := by
  have HA := Lib.hid ha
  have HB := Lib.hid hb
  have HF := Lib.hid hf
  have HG := Lib.hid hg
  have HR := Lib.hid hr
  clear ha hb hf hg hr
  go_enter Try.func9, Try.ntmps9
  go_wp2_with fail
  go_at_call 11; (with_reducible refine (known_any _).mono ?_); rintro e w1 ⟨rfl, hb1⟩
  have C := Lib.hid (fold_any A n cap xs w1 (HA.out.below hb1) (by omega))
  have B1 := Lib.hid hb1
  clear hb1
  go_wp2_with fail
  go_at_call 14; (with_reducible refine C.out.mono ?_); intro e w2 hp
  rw [HF.out] at hp
  obtain ⟨g, rfl, hg, hbk, hb2⟩ := hp
  have B2 := Lib.hid (B1.out.trans (hb2.mono B1.out.size))
  have C := Lib.hid (fun W (h : Below w.heap.size w W) => fold_any B m cap2 ys W (HB.out.below h) (by omega))
  clear hg hbk hb2
  go_wp2_with fail
  go_at_call 14; (with_reducible refine (C.out _ (B2.out.alloc B2.out.size _)).mono ?_); intro e w3 hp
  rw [HG.out] at hp
  cases r with
  | inl x =>
    obtain ⟨g', rfl, hg', hbk', hb3⟩ := hp
    have B3 := Lib.hid ((B2.out.alloc B2.out.size _).trans (hb3.mono (by have := B2.out.size; simp; omega)))
    clear hg' hbk' hb3
    go_wp2_with fail
    go_at_call 26; (with_reducible refine (is_ovf _ _).mono ?_); rintro e w4 ⟨rfl, rfl⟩
    go_wp2
    go_ret
    exact ⟨rfl, B3.out.alloc B3.out.size _⟩
  | inr x =>
    obtain ⟨rfl, hb3⟩ := hp
    have B3 := Lib.hid ((B2.out.alloc B2.out.size _).trans (hb3.mono (by have := B2.out.size; simp; omega)))
    have CR := Lib.hid (fun W => (HR.out x rfl).1 ▸ right_any _ _ _ _ (HR.out x rfl).2.1 (HR.out x rfl).2.2.1 (HR.out x rfl).2.2.2.1 (HR.out x rfl).2.2.2.2 W)
    clear hb3
    go_wp2_with fail
    go_at_call 12; (with_reducible refine (CR.out _).mono ?_); rintro e w4 ⟨rfl, hb4⟩
    have B4 := Lib.hid ((B3.out.alloc B3.out.size _).trans (hb4.mono (by have := B3.out.size; simp; omega)))
    clear hb4
    go_wp2_with fail
    go_at_call 26; (with_reducible refine (is_ovf _ _).mono ?_); rintro e w5 ⟨rfl, rfl⟩
    go_wp2
    go_ret
    exact ⟨rfl, B4.out⟩

set_option maxHeartbeats 1000000 in
set_option maxRecDepth 100000 in
theorem orders_b (A : Option Addr) (n cap : Nat) (B : Option Addr) (m cap2 : Nat) (xs ys : List Int) (w : World) (ha : IntsAt w A n xs) (hb : IntsAt w B m ys) (hn : n ≤ 5000) (hm : m ≤ 5000)
    (x : Q4) (hf : foldI 0 0 0 0 xs = .inr x) (p q : Int) (hg : foldI 0 0 0 0 ys = .inl (p, q)) (hr : rightB x.1 x.2.1 x.2.2.1 x.2.2.2 = true ∧ I64 x.1 ∧ I64 x.2.1 ∧ I64 x.2.2.1 ∧ I64 x.2.2.2) :
    Calls Try.prog 9 #[.slice A n cap, .slice B m cap2] w fun e w' => e = .returned (.bool true) ∧ Below w.heap.size w w' := by
  have HA := Lib.hid ha
  have HB := Lib.hid hb
  have HF := Lib.hid hf
  have HG := Lib.hid hg
  have CR := Lib.hid (fun W => hr.1 ▸ right_any _ _ _ _ hr.2.1 hr.2.2.1 hr.2.2.2.1 hr.2.2.2.2 W)
  clear ha hb hf hg hr
  go_enter Try.func9, Try.ntmps9
  go_wp2_with fail
  go_at_call 11; (with_reducible refine (known_any _).mono ?_); rintro e w1 ⟨rfl, hb1⟩
  have C := Lib.hid (fold_any A n cap xs w1 (HA.out.below hb1) (by omega))
  have B1 := Lib.hid hb1
  clear hb1
  go_wp2_with fail
  go_at_call 14; (with_reducible refine C.out.mono ?_); intro e w2 hp
  rw [HF.out] at hp
  obtain ⟨rfl, hb2⟩ := hp
  have B2 := Lib.hid (B1.out.trans (hb2.mono B1.out.size))
  have C := Lib.hid (fun W (h : Below w.heap.size w W) => fold_any B m cap2 ys W (HB.out.below h) (by omega))
  clear hb2
  go_wp2_with fail
  go_at_call 14; (with_reducible refine (C.out _ (B2.out.alloc B2.out.size _)).mono ?_); intro e w3 hp
  rw [HG.out] at hp
  obtain ⟨g', rfl, hg', hbk', hb3⟩ := hp
  have kx := Blk.made hb3
  have x0 := kx.cell 0
  have x1 := kx.cell 1
  have x2 := kx.cell 2
  have x3 := kx.cell 3
  have lx := kx.lt
  simp only [List.getElem?_toArray, List.getElem?_cons_zero, List.getElem?_cons_succ] at x0 x1 x2 x3
  have B3 := Lib.hid ((B2.out.alloc B2.out.size _).trans (hb3.mono (by have := B2.out.size; simp; omega)))
  clear hg' hbk' hb3 kx
  go_wp2_with fail
  go_at_call 12; (with_reducible refine (CR.out _).mono ?_); rintro e w4 ⟨rfl, hb4⟩
  have B4 := Lib.hid ((B3.out.alloc B3.out.size _).trans (hb4.mono (by have := B3.out.size; simp; omega)))
  clear hb4 x0 x1 x2 x3
  go_wp2_with fail
  go_at_call 26; (with_reducible refine (is_nil _).mono ?_); rintro e w5 ⟨rfl, rfl⟩
  go_wp2_with fail
  go_at_call 26; (with_reducible refine (is_ovf _ _).mono ?_); rintro e w5 ⟨rfl, rfl⟩
  go_wp2
  go_ret
  exact ⟨rfl, B4.out⟩

set_option maxHeartbeats 1000000 in
set_option maxRecDepth 100000 in
theorem orders_no (A : Option Addr) (n cap : Nat) (B : Option Addr) (m cap2 : Nat) (xs ys : List Int) (w : World) (ha : IntsAt w A n xs) (hb : IntsAt w B m ys) (hn : n ≤ 5000) (hm : m ≤ 5000)
    (x : Q4) (hf : foldI 0 0 0 0 xs = .inr x) (y : Q4) (hg : foldI 0 0 0 0 ys = .inr y) (hr : rightB x.1 x.2.1 x.2.2.1 x.2.2.2 = true ∧ I64 x.1 ∧ I64 x.2.1 ∧ I64 x.2.2.1 ∧ I64 x.2.2.2)
    (hs : rightB y.1 y.2.1 y.2.2.1 y.2.2.2 = true ∧ I64 y.1 ∧ I64 y.2.1 ∧ I64 y.2.2.1 ∧ I64 y.2.2.2) (hx : 0 ≤ x.1 ∧ x.1 ≤ 5000) (hy : 0 ≤ y.1 ∧ y.1 ≤ 5000) (p q : Int) (hxy : mergeI x y = .inl (p, q)) (hA : A = none → cap = 0) (hB : B = none → cap2 = 0) :
    Calls Try.prog 9 #[.slice A n cap, .slice B m cap2] w fun e w' => e = .returned (.bool true) ∧ Below w.heap.size w w' := by
  have HA := Lib.hid ha
  have HB := Lib.hid hb
  have HF := Lib.hid hf
  have HG := Lib.hid hg
  have CX := Lib.hid (fun W => hr.1 ▸ right_any _ _ _ _ hr.2.1 hr.2.2.1 hr.2.2.2.1 hr.2.2.2.2 W)
  have CY := Lib.hid (fun W => hs.1 ▸ right_any _ _ _ _ hs.2.1 hs.2.2.1 hs.2.2.2.1 hs.2.2.2.2 W)
  have CM := Lib.hid (fun W => hxy ▸ merge_any x y ⟨by omega, by omega⟩ ⟨by omega, by omega⟩ hr.2.2.1 hs.2.2.1 W)
  have CN := Lib.hid (fun W => mergeI_swap_no hxy ▸ merge_any y x ⟨by omega, by omega⟩ ⟨by omega, by omega⟩ hs.2.2.1 hr.2.2.1 W)
  have HA0 := Lib.hid hA
  have HB0 := Lib.hid hB
  clear ha hb hf hg hr hs hx hy hxy hA hB
  obtain ⟨c, s, mi, ma⟩ := x
  obtain ⟨c', s', mi', ma'⟩ := y
  go_enter Try.func9, Try.ntmps9
  go_wp2_with fail
  go_at_call 11; (with_reducible refine (known_any _).mono ?_); rintro e w1 ⟨rfl, hb1⟩
  have C := Lib.hid (fold_any A n cap xs w1 (HA.out.below hb1) (by omega))
  have B1 := Lib.hid hb1
  clear hb1
  go_wp2_with fail
  go_at_call 14; (with_reducible refine C.out.mono ?_); intro e w2 hp
  rw [HF.out] at hp
  obtain ⟨rfl, hb2⟩ := hp
  have B2 := Lib.hid (B1.out.trans (hb2.mono B1.out.size))
  have C := Lib.hid (fun W (h : Below w.heap.size w W) => fold_any B m cap2 ys W (HB.out.below h) (by omega))
  clear hb2
  go_wp2_with fail
  go_at_call 14; (with_reducible refine (C.out _ (B2.out.alloc B2.out.size _)).mono ?_); intro e w3 hp
  rw [HG.out] at hp
  obtain ⟨rfl, hb3⟩ := hp
  have kx := Blk.made hb3
  have x0 : w3.cell? ⟨w2.heap.size, 0, none⟩ = some (.int .i64 c) := kx.cell 0
  have x1 : w3.cell? ⟨w2.heap.size, 1, none⟩ = some (.int .i64 s) := kx.cell 1
  have x2 : w3.cell? ⟨w2.heap.size, 2, none⟩ = some (.int .i64 mi) := kx.cell 2
  have x3 : w3.cell? ⟨w2.heap.size, 3, none⟩ = some (.int .i64 ma) := kx.cell 3
  have lx := kx.lt
  have B3 := Lib.hid ((B2.out.alloc B2.out.size _).trans (hb3.mono (by have := B2.out.size; simp; omega)))
  have KX := Lib.hid (kx.alloc (.cells #[.int .i64 c', .int .i64 s', .int .i64 mi', .int .i64 ma'] 26))
  clear hb3 kx
  go_wp2_with fail
  go_at_call 12; (with_reducible refine (CX.out _).mono ?_); rintro e w4 ⟨rfl, hb4⟩
  have B4 := Lib.hid ((B3.out.alloc B3.out.size _).trans (hb4.mono (by have := B3.out.size; simp; omega)))
  clear x0 x1 x2 x3
  have kx := KX.out.kept hb4
  have ky := Blk.made hb4
  have x0 : w4.cell? ⟨w2.heap.size, 0, none⟩ = some (.int .i64 c) := kx.cell 0
  have x1 : w4.cell? ⟨w2.heap.size, 1, none⟩ = some (.int .i64 s) := kx.cell 1
  have x2 : w4.cell? ⟨w2.heap.size, 2, none⟩ = some (.int .i64 mi) := kx.cell 2
  have x3 : w4.cell? ⟨w2.heap.size, 3, none⟩ = some (.int .i64 ma) := kx.cell 3
  have y0 : w4.cell? ⟨w3.heap.size, 0, none⟩ = some (.int .i64 c') := ky.cell 0
  have y1 : w4.cell? ⟨w3.heap.size, 1, none⟩ = some (.int .i64 s') := ky.cell 1
  have y2 : w4.cell? ⟨w3.heap.size, 2, none⟩ = some (.int .i64 mi') := ky.cell 2
  have y3 : w4.cell? ⟨w3.heap.size, 3, none⟩ = some (.int .i64 ma') := ky.cell 3
  have ly := ky.lt
  have KX := Lib.hid kx
  have KY := Lib.hid ky
  clear hb4 kx ky
  go_wp2_with fail
  go_at_call 12; (with_reducible refine (CY.out _).mono ?_); rintro e w5 ⟨rfl, hb5⟩
  have B5 := Lib.hid (B4.out.trans (hb5.mono (by have := B4.out.size; omega)))
  clear x0 x1 x2 x3 y0 y1 y2 y3
  have kx := KX.out.kept hb5
  have ky := KY.out.kept hb5
  have x0 : w5.cell? ⟨w2.heap.size, 0, none⟩ = some (.int .i64 c) := kx.cell 0
  have x1 : w5.cell? ⟨w2.heap.size, 1, none⟩ = some (.int .i64 s) := kx.cell 1
  have x2 : w5.cell? ⟨w2.heap.size, 2, none⟩ = some (.int .i64 mi) := kx.cell 2
  have x3 : w5.cell? ⟨w2.heap.size, 3, none⟩ = some (.int .i64 ma) := kx.cell 3
  have y0 : w5.cell? ⟨w3.heap.size, 0, none⟩ = some (.int .i64 c') := ky.cell 0
  have y1 : w5.cell? ⟨w3.heap.size, 1, none⟩ = some (.int .i64 s') := ky.cell 1
  have y2 : w5.cell? ⟨w3.heap.size, 2, none⟩ = some (.int .i64 mi') := ky.cell 2
  have y3 : w5.cell? ⟨w3.heap.size, 3, none⟩ = some (.int .i64 ma') := ky.cell 3
  have ly := ky.lt
  have KX := Lib.hid kx
  have KY := Lib.hid ky
  clear hb5 kx ky
  go_wp2_with fail
  go_at_call 27; (with_reducible refine (CM.out _).mono ?_); rintro e w6 ⟨g, rfl, hg, hbk, hb6⟩
  have B6 := Lib.hid (B5.out.trans (hb6.mono (by have := B5.out.size; omega)))
  clear x0 x1 x2 x3 y0 y1 y2 y3
  have kx := KX.out.kept hb6
  have ky := KY.out.kept hb6
  have x0 : w6.cell? ⟨w2.heap.size, 0, none⟩ = some (.int .i64 c) := kx.cell 0
  have x1 : w6.cell? ⟨w2.heap.size, 1, none⟩ = some (.int .i64 s) := kx.cell 1
  have x2 : w6.cell? ⟨w2.heap.size, 2, none⟩ = some (.int .i64 mi) := kx.cell 2
  have x3 : w6.cell? ⟨w2.heap.size, 3, none⟩ = some (.int .i64 ma) := kx.cell 3
  have y0 : w6.cell? ⟨w3.heap.size, 0, none⟩ = some (.int .i64 c') := ky.cell 0
  have y1 : w6.cell? ⟨w3.heap.size, 1, none⟩ = some (.int .i64 s') := ky.cell 1
  have y2 : w6.cell? ⟨w3.heap.size, 2, none⟩ = some (.int .i64 mi') := ky.cell 2
  have y3 : w6.cell? ⟨w3.heap.size, 3, none⟩ = some (.int .i64 ma') := ky.cell 3
  have lx := kx.lt
  have ly := ky.lt
  clear hb6 hg hbk kx ky
  go_wp2_with fail
  go_at_call 27; (with_reducible refine (CN.out _).mono ?_); rintro e w7 ⟨g', rfl, hg, hbk, hb7⟩
  have B7 := Lib.hid ((B6.out.alloc B6.out.size _).trans (hb7.mono (by have := B6.out.size; simp; omega)))
  clear x0 x1 x2 x3 y0 y1 y2 y3
  have km := Blk.made hb7
  have x0 : w7.cell? ⟨w6.heap.size, 0, none⟩ = some (.int .i64 0) := km.cell 0
  have x1 : w7.cell? ⟨w6.heap.size, 1, none⟩ = some (.int .i64 0) := km.cell 1
  have x2 : w7.cell? ⟨w6.heap.size, 2, none⟩ = some (.int .i64 0) := km.cell 2
  have x3 : w7.cell? ⟨w6.heap.size, 3, none⟩ = some (.int .i64 0) := km.cell 3
  have lm := km.lt
  clear hg hbk hb7 km
  go_wp2
  refine wp_region_heldq (B := w7.heap.size + 1) (w1 := w7.alloc (.cells #[.int .i64 0, .int .i64 0, .int .i64 0, .int .i64 0] 26)) (by kernel_rfl) (by kernel_rfl) (Held.of (Below.refl _ _).drew (by simp)) ?_
  repeat
    (with_reducible refine wpQuiet_step (fun K hK => ?_))
    first
      | ((with_reducible refine ite_pos_ ?_ ?_); (focus (go_simp; done)); apply Exists.intro; refine ⟨fun wz hzC => ?_, hK _ ?_⟩; (have hz := HeldC.out hzC; clear hzC; unfold Oper.quietAt; go_simp; (first | done | fail | (with_reducible rfl))); clear hK K; (try simp only [Act.put, List.setIfInBounds_toArray, List.set_cons_zero, List.set_cons_succ]))
      | ((with_reducible refine ite_neg_ ?_ ?_); (focus (go_simp; done)); refine hK _ ?_; clear hK K; (try simp only [Act.put, List.setIfInBounds_toArray, List.set_cons_zero, List.set_cons_succ]))
  (with_reducible refine wpQuiet_nil ?_)
  intro wz hz
  have B8 := Lib.hid ((B7.out.alloc B7.out.size _).trans (hz.2.2.2.mono (by have := B7.out.size; omega)))
  clear hz x0 x1 x2 x3
  go_wp2_with (at_builtin; first
    | (refine wpList_append_ints rfl _ _ rfl wz.heap.size _ 0 [] rfl (World.ownsRow_lit wz #[] 0 (Nat.le_refl _) (by simp [maxLen]) (by simp)) A n cap HA0.out xs rfl (HA.out.below (B8.out.alloc B8.out.size _)) (by omega) (by simp) ?_
       intro v1 w9 hown1 hg1 hv1
       have B9 := Lib.hid (below_grown (B8.out.alloc B8.out.size _) hg1 (by intro g hg; cases hg; exact B8.out.size) (by have := B8.out.size; simp; omega))
       have S9 := Lib.hid (show wz.heap.size ≤ w9.heap.size by have := hg1.size; simp at this; omega)
       have O1 := Lib.hid hown1
       have V1 := Lib.hid hv1
       clear hown1 hg1 hv1)
    | (refine wpList_append_ints rfl _ _ rfl wz.heap.size _ (0 + n) ([] ++ xs) rfl O1.out B m cap2 HB0.out ys rfl (HB.out.below B9.out) (by omega) S9.out ?_
       intro v2 w10 hown2 hg2 hv2
       have B10 := Lib.hid (below_grown B9.out hg2 (by
         intro g hg
         have := O1.out.lt g hg
         have := B8.out.size
         omega) B9.out.size)
       obtain ⟨A', c', rfl, hl', hc', _⟩ := owned_form hown2
       have IW := Lib.hid (IntsAt.of_cells (by simpa [ivs] using hl') hc' (by intro x hx; simp at hx; rcases hx with hx | hx <;> first | exact HA.out.wf x hx | exact HB.out.wf x hx))
       clear hown2 hg2 hv2 hl' hc'))
  go_at_call 14; (with_reducible refine (fold_any A' _ c' _ w10 IW.out (by omega)).mono ?_); intro e w11 hp
  obtain ⟨r, hr⟩ : ∃ r, r = foldI 0 0 0 0 ([] ++ xs ++ ys) := ⟨_, rfl⟩
  rw [← hr] at hp
  have HR := Lib.hid hr
  clear hr
  cases r with
  | inl u =>
    obtain ⟨g3, rfl, hg3, hbk3, hb11⟩ := hp
    have B11 := Lib.hid (B10.out.trans (hb11.mono B10.out.size))
    clear hg3 hbk3 hb11
    go_wp2
    go_ret
    exact ⟨rfl, B11.out.alloc B11.out.size _⟩
  | inr u =>
    obtain ⟨rfl, hb11⟩ := hp
    have B11 := Lib.hid (B10.out.trans (hb11.mono B10.out.size))
    clear hb11
    go_wp2
    go_ret
    exact ⟨rfl, B11.out.alloc B11.out.size _⟩

set_option maxHeartbeats 1000000 in
set_option maxRecDepth 100000 in
theorem orders_ok (A : Option Addr) (n cap : Nat) (B : Option Addr) (m cap2 : Nat) (xs ys : List Int) (w : World) (ha : IntsAt w A n xs) (hb : IntsAt w B m ys) (hn : n ≤ 5000) (hm : m ≤ 5000)
    (x : Q4) (hf : foldI 0 0 0 0 xs = .inr x) (y : Q4) (hg : foldI 0 0 0 0 ys = .inr y) (hr : rightB x.1 x.2.1 x.2.2.1 x.2.2.2 = true ∧ I64 x.1 ∧ I64 x.2.1 ∧ I64 x.2.2.1 ∧ I64 x.2.2.2)
    (hs : rightB y.1 y.2.1 y.2.2.1 y.2.2.2 = true ∧ I64 y.1 ∧ I64 y.2.1 ∧ I64 y.2.2.1 ∧ I64 y.2.2.2) (hx : 0 ≤ x.1 ∧ x.1 ≤ 5000) (hy : 0 ≤ y.1 ∧ y.1 ≤ 5000) (z : Q4) (hxy : mergeI x y = .inr z) (hx0 : x.1 = 0 → x = (0, 0, 0, 0)) (hy0 : y.1 = 0 → y = (0, 0, 0, 0)) (hz : rightB z.1 z.2.1 z.2.2.1 z.2.2.2 = true ∧ I64 z.1 ∧ I64 z.2.1 ∧ I64 z.2.2.1 ∧ I64 z.2.2.2) (hwh : ∀ u, foldI 0 0 0 0 (xs ++ ys) = .inr u → u = z) (hA : A = none → cap = 0) (hB : B = none → cap2 = 0) :
    Calls Try.prog 9 #[.slice A n cap, .slice B m cap2] w fun e w' => e = .returned (.bool true) ∧ Below w.heap.size w w' := by
  have HA := Lib.hid ha
  have HB := Lib.hid hb
  have HF := Lib.hid hf
  have HG := Lib.hid hg
  have CX := Lib.hid (fun W => hr.1 ▸ right_any _ _ _ _ hr.2.1 hr.2.2.1 hr.2.2.2.1 hr.2.2.2.2 W)
  have CY := Lib.hid (fun W => hs.1 ▸ right_any _ _ _ _ hs.2.1 hs.2.2.1 hs.2.2.2.1 hs.2.2.2.2 W)
  have CM := Lib.hid (fun W => hxy ▸ merge_any x y ⟨by omega, by omega⟩ ⟨by omega, by omega⟩ hr.2.2.1 hs.2.2.1 W)
  have CN := Lib.hid (fun W => mergeI_swap_ok hx0 hy0 hxy ▸ merge_any y x ⟨by omega, by omega⟩ ⟨by omega, by omega⟩ hs.2.2.1 hr.2.2.1 W)
  have HA0 := Lib.hid hA
  have HB0 := Lib.hid hB
  have CZ := Lib.hid (fun W => hz.1 ▸ right_any _ _ _ _ hz.2.1 hz.2.2.1 hz.2.2.2.1 hz.2.2.2.2 W)
  have HW := Lib.hid hwh
  clear ha hb hf hg hr hs hx hy hxy hA hB hx0 hy0 hz hwh
  obtain ⟨c2, s2, mi2, ma2⟩ := z
  obtain ⟨c, s, mi, ma⟩ := x
  obtain ⟨c', s', mi', ma'⟩ := y
  go_enter Try.func9, Try.ntmps9
  go_wp2_with fail
  go_at_call 11; (with_reducible refine (known_any _).mono ?_); rintro e w1 ⟨rfl, hb1⟩
  have C := Lib.hid (fold_any A n cap xs w1 (HA.out.below hb1) (by omega))
  have B1 := Lib.hid hb1
  clear hb1
  go_wp2_with fail
  go_at_call 14; (with_reducible refine C.out.mono ?_); intro e w2 hp
  rw [HF.out] at hp
  obtain ⟨rfl, hb2⟩ := hp
  have B2 := Lib.hid (B1.out.trans (hb2.mono B1.out.size))
  have C := Lib.hid (fun W (h : Below w.heap.size w W) => fold_any B m cap2 ys W (HB.out.below h) (by omega))
  clear hb2
  go_wp2_with fail
  go_at_call 14; (with_reducible refine (C.out _ (B2.out.alloc B2.out.size _)).mono ?_); intro e w3 hp
  rw [HG.out] at hp
  obtain ⟨rfl, hb3⟩ := hp
  have kx := Blk.made hb3
  have x0 : w3.cell? ⟨w2.heap.size, 0, none⟩ = some (.int .i64 c) := kx.cell 0
  have x1 : w3.cell? ⟨w2.heap.size, 1, none⟩ = some (.int .i64 s) := kx.cell 1
  have x2 : w3.cell? ⟨w2.heap.size, 2, none⟩ = some (.int .i64 mi) := kx.cell 2
  have x3 : w3.cell? ⟨w2.heap.size, 3, none⟩ = some (.int .i64 ma) := kx.cell 3
  have lx := kx.lt
  have B3 := Lib.hid ((B2.out.alloc B2.out.size _).trans (hb3.mono (by have := B2.out.size; simp; omega)))
  have KX := Lib.hid (kx.alloc (.cells #[.int .i64 c', .int .i64 s', .int .i64 mi', .int .i64 ma'] 26))
  clear hb3 kx
  go_wp2_with fail
  go_at_call 12; (with_reducible refine (CX.out _).mono ?_); rintro e w4 ⟨rfl, hb4⟩
  have B4 := Lib.hid ((B3.out.alloc B3.out.size _).trans (hb4.mono (by have := B3.out.size; simp; omega)))
  clear x0 x1 x2 x3
  have kx := KX.out.kept hb4
  have ky := Blk.made hb4
  have x0 : w4.cell? ⟨w2.heap.size, 0, none⟩ = some (.int .i64 c) := kx.cell 0
  have x1 : w4.cell? ⟨w2.heap.size, 1, none⟩ = some (.int .i64 s) := kx.cell 1
  have x2 : w4.cell? ⟨w2.heap.size, 2, none⟩ = some (.int .i64 mi) := kx.cell 2
  have x3 : w4.cell? ⟨w2.heap.size, 3, none⟩ = some (.int .i64 ma) := kx.cell 3
  have y0 : w4.cell? ⟨w3.heap.size, 0, none⟩ = some (.int .i64 c') := ky.cell 0
  have y1 : w4.cell? ⟨w3.heap.size, 1, none⟩ = some (.int .i64 s') := ky.cell 1
  have y2 : w4.cell? ⟨w3.heap.size, 2, none⟩ = some (.int .i64 mi') := ky.cell 2
  have y3 : w4.cell? ⟨w3.heap.size, 3, none⟩ = some (.int .i64 ma') := ky.cell 3
  have ly := ky.lt
  have KX := Lib.hid kx
  have KY := Lib.hid ky
  clear hb4 kx ky
  go_wp2_with fail
  go_at_call 12; (with_reducible refine (CY.out _).mono ?_); rintro e w5 ⟨rfl, hb5⟩
  have B5 := Lib.hid (B4.out.trans (hb5.mono (by have := B4.out.size; omega)))
  clear x0 x1 x2 x3 y0 y1 y2 y3
  have kx := KX.out.kept hb5
  have ky := KY.out.kept hb5
  have x0 : w5.cell? ⟨w2.heap.size, 0, none⟩ = some (.int .i64 c) := kx.cell 0
  have x1 : w5.cell? ⟨w2.heap.size, 1, none⟩ = some (.int .i64 s) := kx.cell 1
  have x2 : w5.cell? ⟨w2.heap.size, 2, none⟩ = some (.int .i64 mi) := kx.cell 2
  have x3 : w5.cell? ⟨w2.heap.size, 3, none⟩ = some (.int .i64 ma) := kx.cell 3
  have y0 : w5.cell? ⟨w3.heap.size, 0, none⟩ = some (.int .i64 c') := ky.cell 0
  have y1 : w5.cell? ⟨w3.heap.size, 1, none⟩ = some (.int .i64 s') := ky.cell 1
  have y2 : w5.cell? ⟨w3.heap.size, 2, none⟩ = some (.int .i64 mi') := ky.cell 2
  have y3 : w5.cell? ⟨w3.heap.size, 3, none⟩ = some (.int .i64 ma') := ky.cell 3
  have ly := ky.lt
  have KX := Lib.hid kx
  have KY := Lib.hid ky
  clear hb5 kx ky
  go_wp2_with fail
  go_at_call 27; (with_reducible refine (CM.out _).mono ?_); rintro e w6 ⟨rfl, hb6⟩
  have B6 := Lib.hid (B5.out.trans (hb6.mono (by have := B5.out.size; omega)))
  clear x0 x1 x2 x3 y0 y1 y2 y3
  have kx := KX.out.kept hb6
  have ky := KY.out.kept hb6
  have x0 : w6.cell? ⟨w2.heap.size, 0, none⟩ = some (.int .i64 c) := kx.cell 0
  have x1 : w6.cell? ⟨w2.heap.size, 1, none⟩ = some (.int .i64 s) := kx.cell 1
  have x2 : w6.cell? ⟨w2.heap.size, 2, none⟩ = some (.int .i64 mi) := kx.cell 2
  have x3 : w6.cell? ⟨w2.heap.size, 3, none⟩ = some (.int .i64 ma) := kx.cell 3
  have y0 : w6.cell? ⟨w3.heap.size, 0, none⟩ = some (.int .i64 c') := ky.cell 0
  have y1 : w6.cell? ⟨w3.heap.size, 1, none⟩ = some (.int .i64 s') := ky.cell 1
  have y2 : w6.cell? ⟨w3.heap.size, 2, none⟩ = some (.int .i64 mi') := ky.cell 2
  have y3 : w6.cell? ⟨w3.heap.size, 3, none⟩ = some (.int .i64 ma') := ky.cell 3
  have lx := kx.lt
  have ly := ky.lt
  clear hb6 kx ky
  go_wp2_with fail
  go_at_call 27; (with_reducible refine (CN.out _).mono ?_); rintro e w7 ⟨rfl, hb7⟩
  have B7 := Lib.hid ((B6.out.alloc B6.out.size _).trans (hb7.mono (by have := B6.out.size; simp; omega)))
  clear x0 x1 x2 x3 y0 y1 y2 y3
  have km := Blk.made hb7
  have x0 : w7.cell? ⟨w6.heap.size, 0, none⟩ = some (.int .i64 c2) := km.cell 0
  have x1 : w7.cell? ⟨w6.heap.size, 1, none⟩ = some (.int .i64 s2) := km.cell 1
  have x2 : w7.cell? ⟨w6.heap.size, 2, none⟩ = some (.int .i64 mi2) := km.cell 2
  have x3 : w7.cell? ⟨w6.heap.size, 3, none⟩ = some (.int .i64 ma2) := km.cell 3
  have lm := km.lt
  have KM := Lib.hid (km.alloc (.cells #[.int .i64 c2, .int .i64 s2, .int .i64 mi2, .int .i64 ma2] 26))
  clear hb7 km
  go_wp2
  refine wp_region_heldq (B := w7.heap.size + 1) (w1 := w7.alloc (.cells #[.int .i64 c2, .int .i64 s2, .int .i64 mi2, .int .i64 ma2] 26)) (by kernel_rfl) (by kernel_rfl) (Held.of (Below.refl _ _).drew (by simp)) ?_
  repeat
    (with_reducible refine wpQuiet_step (fun K hK => ?_))
    first
      | ((with_reducible refine ite_pos_ ?_ ?_); (focus (go_simp; done)); apply Exists.intro; refine ⟨fun wz hzC => ?_, hK _ ?_⟩; (have hz := HeldC.out hzC; clear hzC; unfold Oper.quietAt; go_simp; (first | done | (go_at_call 12; (with_reducible refine (CZ.out _).mono ?_); rintro e w' ⟨rfl, hb⟩; exact ⟨rfl, HeldC.step hz hb⟩) | (with_reducible rfl))); clear hK K; (try simp only [Act.put, List.setIfInBounds_toArray, List.set_cons_zero, List.set_cons_succ]))
      | ((with_reducible refine ite_neg_ ?_ ?_); (focus (go_simp; done)); refine hK _ ?_; clear hK K; (try simp only [Act.put, List.setIfInBounds_toArray, List.set_cons_zero, List.set_cons_succ]))
  (with_reducible refine wpQuiet_nil ?_)
  intro wz hz
  have KM := Lib.hid (KM.out.below hz.2.2.2 (by omega))
  have lm2 := KM.out.lt
  have B8 := Lib.hid ((B7.out.alloc B7.out.size _).trans (hz.2.2.2.mono (by have := B7.out.size; omega)))
  clear hz x0 x1 x2 x3
  go_wp2_with (at_builtin; first
    | (refine wpList_append_ints rfl _ _ rfl wz.heap.size _ 0 [] rfl (World.ownsRow_lit wz #[] 0 (Nat.le_refl _) (by simp [maxLen]) (by simp)) A n cap HA0.out xs rfl (HA.out.below (B8.out.alloc B8.out.size _)) (by omega) (by simp) ?_
       intro v1 w9 hown1 hg1 hv1
       have B9 := Lib.hid (below_grown (B8.out.alloc B8.out.size _) hg1 (by intro g hg; cases hg; exact B8.out.size) (by have := B8.out.size; simp; omega))
       have S9 := Lib.hid (show wz.heap.size ≤ w9.heap.size by have := hg1.size; simp at this; omega)
       have O1 := Lib.hid hown1
       have V1 := Lib.hid hv1
       have KM := Lib.hid ((KM.out.alloc (.cells #[] 2)).grown hg1 (by intro h; have := Option.some.inj h; simp at this; omega))
       clear hown1 hg1 hv1)
    | (refine wpList_append_ints rfl _ _ rfl wz.heap.size _ (0 + n) ([] ++ xs) rfl O1.out B m cap2 HB0.out ys rfl (HB.out.below B9.out) (by omega) S9.out ?_
       intro v2 w10 hown2 hg2 hv2
       have B10 := Lib.hid (below_grown B9.out hg2 (by
         intro g hg
         have := O1.out.lt g hg
         have := B8.out.size
         omega) B9.out.size)
       obtain ⟨A', c', rfl, hl', hc', _⟩ := owned_form hown2
       have IW := Lib.hid (IntsAt.of_cells (by simpa [ivs] using hl') hc' (by intro x hx; simp at hx; rcases hx with hx | hx <;> first | exact HA.out.wf x hx | exact HB.out.wf x hx))
       have KM := Lib.hid (KM.out.grown hg2 (by intro h; have := O1.out.lt _ h.symm; omega))
       clear hown2 hg2 hv2 hl' hc'))
  go_at_call 14; (with_reducible refine (fold_any A' _ c' _ w10 IW.out (by omega)).mono ?_); intro e w11 hp
  obtain ⟨r, hr⟩ : ∃ r, r = foldI 0 0 0 0 ([] ++ xs ++ ys) := ⟨_, rfl⟩
  rw [← hr] at hp
  have HR := Lib.hid hr
  clear hr
  cases r with
  | inl u =>
    obtain ⟨g3, rfl, hg3, hbk3, hb11⟩ := hp
    have B11 := Lib.hid (B10.out.trans (hb11.mono B10.out.size))
    clear hg3 hbk3 hb11
    go_wp2
    go_ret
    exact ⟨rfl, B11.out.alloc B11.out.size _⟩
  | inr u =>
    obtain ⟨rfl, hb11⟩ := hp
    have B11 := Lib.hid (B10.out.trans (hb11.mono B10.out.size))
    obtain rfl : u = (c2, s2, mi2, ma2) := HW.out u (by have := HR.out; simpa using this.symm)
    have km := KM.out.kept hb11
    have x0 : w11.cell? ⟨w6.heap.size, 0, none⟩ = some (.int .i64 c2) := km.cell 0
    have x1 : w11.cell? ⟨w6.heap.size, 1, none⟩ = some (.int .i64 s2) := km.cell 1
    have x2 : w11.cell? ⟨w6.heap.size, 2, none⟩ = some (.int .i64 mi2) := km.cell 2
    have x3 : w11.cell? ⟨w6.heap.size, 3, none⟩ = some (.int .i64 ma2) := km.cell 3
    have lm := km.lt
    clear hb11 km
    go_wp2
    go_ret
    exact ⟨rfl, B11.out.alloc B11.out.size _⟩
end Go.Proofs.Ytikacbfpeegcdaa
