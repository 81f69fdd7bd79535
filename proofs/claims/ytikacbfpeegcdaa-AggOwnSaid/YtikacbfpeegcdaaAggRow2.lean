/- The law AggOrders, whole; a slice that came in without an address has no room. -/
import Derived.Test.YtikacbfpeegcdaaAggRow
import Derived.Test.YtikacbfpeegcdaaAggOrders
namespace Go.Proofs.Ytikacbfpeegcdaa
open Go.ChangeShapes Go.WideShapes Go.ChangeAt Go.RowKit

theorem ints_none {H : Type} {enc : TypeId × Value → H} {P : Program} {W : World} {t e : TypeId} {A : Option Addr} {n c : Nat} {d : DataW H} {p : List MemPlace}
    (ht : P.underlying t = some (.slice e)) (he : P.underlying e = some (.int .i64)) (hc : P.cellsOf e = 1) (h : DataW.Trod enc P W 0 (fun _ => true) true t (.slice A n c) d p) : A = none → c = 0 := by
  obtain ⟨fuel, hf⟩ := h
  rcases open_ints ht he hc hf with ⟨hcs, _⟩ | ⟨a, len, cap, zs, hcs, _⟩
  · simp [Value.cells] at hcs
    exact fun _ => hcs.2.2
  · simp [Value.cells] at hcs
    obtain ⟨rfl, _, _⟩ := hcs
    exact fun h => by cases h

theorem q_facts (l : List Int) (hl : ∀ x ∈ l, I64 x) (hn : l.length ≤ 1099511627776) (x : Q4) (h : foldI 0 0 0 0 l = .inr x) :
    rightB x.1 x.2.1 x.2.2.1 x.2.2.2 = true ∧ I64 x.1 ∧ I64 x.2.1 ∧ I64 x.2.2.1 ∧ I64 x.2.2.2 := by
  obtain ⟨c, s, mi, ma⟩ := x
  obtain ⟨hr, hc, h1, h2, h3⟩ := fold_right l hl c s mi ma h
  exact ⟨rightB_eq (by simp [hr]), ⟨by simp only; omega, by simp only; omega⟩, h1, h2, h3⟩

theorem I64_min {a b : Int} (ha : I64 a) (hb : I64 b) : I64 (min a b) := by
  obtain ⟨_, _⟩ := ha; obtain ⟨_, _⟩ := hb
  exact ⟨by omega, by omega⟩
theorem I64_max {a b : Int} (ha : I64 a) (hb : I64 b) : I64 (max a b) := by
  obtain ⟨_, _⟩ := ha; obtain ⟨_, _⟩ := hb
  exact ⟨by omega, by omega⟩

theorem law_orders (A : Option Addr) (n cap : Nat) (B : Option Addr) (m cap2 : Nat) (xs ys : List Int) (w : World) (ha : IntsAt w A n xs) (hb : IntsAt w B m ys) (hA : A = none → cap = 0) (hB : B = none → cap2 = 0)
    (hn : n ≤ 9223372036854775807) (hm : m ≤ 9223372036854775807) :
    Calls Try.prog 9 #[.slice A n cap, .slice B m cap2] w fun e w' => e = .returned (.bool true) ∧ Below w.heap.size w w' := by
  by_cases h : 5000 < n ∨ 5000 < m
  · exact orders_long A n cap B m cap2 w h hn hm
  · have h1 : n ≤ 5000 := by omega
    have h2 : m ≤ 5000 := by omega
    have la := ha.len
    have lb := hb.len
    cases hf : foldI 0 0 0 0 xs with
    | inl u => exact orders_a A n cap B m cap2 xs ys w ha hb h1 h2 u.1 u.2 hf _ rfl (fun x hx => q_facts ys hb.wf (by omega) x hx)
    | inr x =>
      have fx := q_facts xs ha.wf (by omega) x hf
      cases hg : foldI 0 0 0 0 ys with
      | inl u => exact orders_b A n cap B m cap2 xs ys w ha hb h1 h2 x hf u.1 u.2 hg fx
      | inr y =>
        have fy := q_facts ys hb.wf (by omega) y hg
        obtain ⟨_, hr, hw, hx0, hy0, hcx, hcy⟩ := orders_facts xs ys x y hf hg
        cases hxy : mergeI x y with
        | inl u => exact orders_no A n cap B m cap2 xs ys w ha hb h1 h2 x hf y hg fx fy ⟨by omega, by omega⟩ ⟨by omega, by omega⟩ u.1 u.2 hxy hA hB
        | inr z =>
          have ez := mergeI_ok hxy
          have fz : rightB z.1 z.2.1 z.2.2.1 z.2.2.2 = true ∧ I64 z.1 ∧ I64 z.2.1 ∧ I64 z.2.2.1 ∧ I64 z.2.2.2 := by
            refine ⟨rightB_eq (by rw [ez]; simpa [RightQ] using hr), ?_⟩
            unfold mergeI at hxy
            split at hxy
            · cases hxy; exact fy.2
            · split at hxy
              · cases hxy; exact fx.2
              · rename_i q0 q1
                split at hxy
                · rename_i hi
                  cases hxy
                  unfold mergeZ
                  rw [if_neg q0, if_neg q1]
                  exact ⟨⟨by simp only; omega, by simp only; omega⟩, hi, I64_min fx.2.2.2.1 fy.2.2.2.1, I64_max fx.2.2.2.2 fy.2.2.2.2⟩
                · cases hxy
          exact orders_ok A n cap B m cap2 xs ys w ha hb h1 h2 x hf y hg fx fy ⟨by omega, by omega⟩ ⟨by omega, by omega⟩ z hxy hx0 hy0 fz (fun u hu => by rw [ez]; exact hw u hu) hA hB
end Go.Proofs.Ytikacbfpeegcdaa
