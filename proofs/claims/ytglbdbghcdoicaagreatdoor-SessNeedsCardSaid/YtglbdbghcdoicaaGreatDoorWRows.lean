/- A slice of bytes that came in reads as a list; how long it may be. Words for the rows of this seat: arguments that read as they did behind a call that leaves old memory alone. -/
import Derived.Test.YtglbdbghcdoicaaGreatDoorWBase
import Derived.Test.YtglbdbghcdoicaaGreatDoorBase
import Derived.ProofKit
import Derived.OpenShut
import Derived.ShutString
import Derived.ChangeOld
import Derived.SizedLaws
import Derived.Lib.SmallJoins
import Derived.ChangeSlices
import Derived.Carry
namespace Go.Proofs.YtglbdbghcdoicaaGreatDoor
open Go.ChangeShapes Go.WideShapes Go.ChangeAt Go.RowKit

theorem block_add (a : Addr) (n : Nat) : (a.add n).block = a.block := by unfold Addr.add; split <;> rfl
theorem bytes_at_arg {H : Type} {enc : TypeId × Value → H} {P : Program} {W : World} {t e : TypeId} {A : Option Addr} {n c : Nat} {d : DataW H} {p : List MemPlace}
    (ht : P.underlying t = some (.slice e)) (he : P.underlying e = some (.int .u8)) (hc : P.cellsOf e = 1) (h : DataW.Trod enc P W 0 (fun _ => true) true t (.slice A n c) d p) :
    ∃ xs : List Int, xs.length = n ∧ CellsAt W A (bvs xs) ∧ (A = none → c = 0) ∧ (∀ x ∈ xs, (Lit.int .u8 x).wf = true) ∧ (n = 0 ∨ ∃ el sp, d = .slice el sp ∧ n ≤ el.length + sp.length) := by
  obtain ⟨fuel, hf⟩ := h
  rcases open_ints ht he hc hf with ⟨hcs, _⟩ | ⟨a, len, cap, zs, hcs, _, hl, hm, hz, hx, hcell, hwf⟩
  · simp [Value.cells] at hcs
    obtain ⟨rfl, rfl, rfl⟩ := hcs
    exact ⟨[], rfl, fun k hk => absurd hk (by simp [bvs]), fun _ => rfl, (fun x hx => by cases hx), .inl rfl⟩
  · simp [Value.cells] at hcs
    obtain ⟨rfl, rfl, rfl⟩ := hcs
    have hzc : zs.length = c := by simpa using hz
    refine ⟨zs.take n, by simp; omega, fun k hk => ?_, (fun h => by cases h), fun x hx => hwf x (List.mem_of_mem_take hx), .inr ?_⟩
    · have hk' : k < n := by rw [bvs_len] at hk; simp at hk; omega
      have h1 := hcell k (by omega)
      have h2 : zs.getD k 0 = (zs.take n)[k]'(by simp; omega) := by
        rw [List.getElem_take, List.getD_eq_getElem?_getD, List.getElem?_eq_getElem (by omega)]; rfl
      rw [h2] at h1
      exact ⟨a, rfl, by have := World.block_lt_of_cell? W _ h1; rwa [block_add] at this, by rw [h1]; simp [bvs]⟩
    · injection hx with h1 _
      exact ⟨_, _, h1, by simp [lits]; omega⟩
theorem bytes_bound {H : Type} {P : Program} {ts : List TypeId} {ds : List (DataW H)} {j n : Nat} {t e : TypeId} {d : DataW H} (h : (DataW.weightsEach P ts ds).all (· ≤ reachBytes) = true) (ht : ts[j]? = some t) (hj : ds[j]? = some d)
    (hd : n = 0 ∨ ∃ el sp, d = .slice el sp ∧ n ≤ el.length + sp.length) (hu : P.underlying t = some (.slice e)) (hb : P.bytesOf e = 1) : n ≤ 140737488351232 := by
  rcases hd with rfl | ⟨el, sp, rfl, hn⟩
  · omega
  · have := sized_slice h ht hj hu
    rw [hb, Nat.mul_one] at this
    have e : reachBytes = 140737488351232 := by decide
    omega
end Go.Proofs.YtglbdbghcdoicaaGreatDoor

namespace Go.Proofs.YtglbdbghcdoicaaGreatDoor
open Go.ChangeShapes Go.WideShapes Go.ChangeAt Go.RowKit

theorem trodAll_below {H : Type} {enc : TypeId × Value → H} {P : Program} (hl : laidOutB P = true) {W W' : World} (hb : Below W.heap.size W W') :
    ∀ (ts : List TypeId) (vs : List Value) (ds : List (DataW H)) (ps : List MemPlace), (ts.all fun t => P.readableRec t && decide (t < P.types.size)) = true →
      DataW.TrodAll enc P W 0 (fun _ => true) true ts vs ds ps → (∀ x ∈ ps, x.block < W.heap.size) → DataW.TrodAll enc P W' 0 (fun b => decide (b < W.heap.size)) true ts vs ds ps
  | [], _, _, _, _, h, _ => by
    obtain ⟨rfl, rfl, rfl⟩ := trodAll_nil h
    exact trodAll_mk0
  | t :: ts, _, _, _, ha, h, hlt => by
    obtain ⟨v, vs, d, ds, p, q, rfl, rfl, rfl, h0, h1⟩ := trodAll_cons h
    simp only [List.all_cons, Bool.and_eq_true, decide_eq_true_eq] at ha
    exact ⟨p, q, Below.trod hl ha.1.1 ha.1.2 h0 hb (fun x hx => hlt x (List.mem_append_left _ hx)), trodAll_below hl hb ts vs ds q ha.2 h1 (fun x hx => hlt x (List.mem_append_right _ hx)), rfl⟩
end Go.Proofs.YtglbdbghcdoicaaGreatDoor
