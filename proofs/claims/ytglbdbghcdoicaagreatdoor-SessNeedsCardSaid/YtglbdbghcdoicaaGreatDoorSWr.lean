/- Rows elsewhere. -/
import Derived.Test.YtglbdbghcdoicaaGreatDoorCLendR
import Derived.Test.YtglbdbghcdoicaaGreatDoorCRefs
namespace Go.Proofs.YtglbdbghcdoicaaGreatDoor
open Go.RowKit

theorem RowAt.turB {S : Nat → Prop} {W W' : World} {A : Option Addr} {n lo : Nat} {xs : List Int} (h : RowAt W A n lo xs) (ht : Tur S W W') (hs : ∀ k, S k → k < lo) : RowAt W' A n lo xs := by
  rcases h with h | ⟨g, cur, rfl, h1, hg, r⟩
  · exact .inl h
  · exact .inr ⟨g, cur, rfl, h1, hg.tur ht (fun hk => by have := hs g hk; omega), r⟩
theorem Ow.turB {S : Nat → Prop} {W W' : World} {lo : Nat} {v : Value} {bs : List Int} (h : Ow W lo v bs) (ht : Tur S W W') (hs : ∀ k, S k → k < lo) : Ow W' lo v bs :=
  ownsRow_tur h ht (fun k e s => by have := (h.lt k e).1; have := hs k s; omega)
theorem Ow.at_ {W : World} {lo n c : Nat} {A : Option Addr} {bs : List Int} (h : Ow W lo (.slice A n c) bs) : CellsAt W A (bvs bs) := by
  obtain ⟨A', c', e, hc, _⟩ := h.form
  injection e with e1 e2 e3
  exact e1 ▸ hc
theorem Lent.rqA_ {W : World} {A : Option Addr} {g n : Nat} {cur : Array Value} {q : Rq} (h : Lent W g cur q.cs) (hq : RqA W A n q) : RqA W (some ⟨g, 0, none⟩) n q := ⟨hq.len, h.rd, hq.big, hq.ok⟩
theorem LentR.rsA_ {W : World} {A : Option Addr} {g n : Nat} {cur : Array Value} {r : Rs} (h : LentR W g cur r.rows) (hr : RsA W A n r) : RsA W (some ⟨g, 0, none⟩) n r := ⟨hr.len, h.rd, hr.big, hr.ok, hr.rows⟩
end Go.Proofs.YtglbdbghcdoicaaGreatDoor
