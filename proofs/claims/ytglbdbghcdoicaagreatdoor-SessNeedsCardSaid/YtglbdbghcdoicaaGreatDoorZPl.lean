/- Plain: the number of a fault is never 0; what is decoded with a fault is nothing. -/
import Derived.Test.YtglbdbghcdoicaaGreatDoorCPls
namespace Go.Proofs.YtglbdbghcdoicaaGreatDoor
open Go.RowKit

def Fok (s : RS) : Prop := ∀ e p, s.fault = some (e, p) → e ≠ 0
theorem Fok.none {k : Nat} : Fok ⟨k, none⟩ := fun _ _ h => by cases h
theorem Fok.some_ {k : Nat} {e p : Int} (h : e ≠ 0) : Fok ⟨k, some (e, p)⟩ := fun e' p' he => by
  injection he with he
  injection he with h1 h2
  exact h1 ▸ h
theorem Fok.fail {s : RS} (h : Fok s) (e p : Int) : Fok (s.fail e p) := by
  unfold RS.fail
  rcases hf : s.fault with _ | x
  · dsimp only
    split
    · exact h
    · rename_i h0; exact Fok.some_ h0
  · dsimp only; exact h
theorem Fok.sev {xs : List Int} {most last : Nat} {s : RS} (h : Fok s) : Fok (sevP xs most last s).2 := by
  unfold sevP
  rcases hf : s.fault with _ | x
  · dsimp only
    rcases sevAll xs s.pos most last with _ | _ | _
    all_goals first | exact Fok.none | exact Fok.some_ (by decide)
  · dsimp only; exact h
def Keeps {α : Type} (f : List Int → RS → α × RS) : Prop := ∀ xs s, Fok s → Fok (f xs s).2
section
variable {α β : Type} {f : List Int → RS → α × RS} {g : α → List Int → RS → β × RS}
theorem Keeps.ret (a : α) : Keeps (retR a) := fun _ _ h => h
theorem Keeps.bind (hf : Keeps f) (hg : ∀ a, Keeps (g a)) : Keeps (bindR f g) := fun xs s h => hg _ xs _ (hf xs s h)
theorem Keeps.numM (most : Int) : Keeps (fun xs s => numP xs most s) := fun xs s h => by
  show Fok (numS most s.pos (sevP xs 9 127 s))
  unfold numS
  split
  · exact Fok.fail (Fok.sev h) _ _
  · exact Fok.sev h
theorem Keeps.num : Keeps numR := Keeps.numM M40
theorem Keeps.int : Keeps intR := fun _ _ h => Fok.sev h
theorem Keeps.text : Keeps textR := fun xs s h => by
  show Fok (textQ xs (numP xs 32 s)).2
  have h1 : Fok (numP xs 32 s).2 := Keeps.numM 32 xs s h
  unfold textQ
  rcases hf : (numP xs 32 s).2.fault with _ | x
  · dsimp only
    split
    · exact Fok.some_ (by decide)
    · exact Fok.none
  · dsimp only; exact h1
theorem Keeps.cell : Keeps cellR := Keeps.bind (f := numR) (g := fun v => bindR textR (fun t => bindR intR (fun i => retR (⟨(v : Int), strOfNums t, i⟩ : CellV)))) Keeps.num (fun _ => Keeps.bind Keeps.text (fun _ => Keeps.bind Keeps.int (fun _ => Keeps.ret _)))
theorem Keeps.count (most : Int) : Keeps (fun xs s => countP xs most s) := fun xs s h => by
  show Fok (countP xs most s).2
  have h1 : Fok (numP xs M40 s).2 := Keeps.num xs s h
  unfold countP
  split
  · exact h1.fail _ _
  · exact h1
theorem Keeps.row : Keeps (fun xs s => rowD xs s) :=
  Keeps.bind (f := cellR) (g := fun c => bindR intR (fun a => bindR intR (fun b => bindR intR (fun d => bindR intR (fun e => retR (⟨c, a, b, d, e⟩ : RowV)))))) Keeps.cell (fun _ => Keeps.bind Keeps.int (fun _ => Keeps.bind Keeps.int (fun _ => Keeps.bind Keeps.int (fun _ => Keeps.bind Keeps.int (fun _ => Keeps.ret _)))))
theorem Fok.iter (hf : Keeps f) (xs : List Int) (st : List α × RS) (h : Fok st.2) : ∀ k, Fok (iterG f xs k st).2
  | 0 => h
  | k + 1 => by
    have ih := Fok.iter hf xs st h k
    unfold iterG stepG
    split
    · exact ih
    · exact hf xs _ ih
theorem Fok.cells (xs : List Int) (st : List CellV × RS) (h : Fok st.2) : ∀ k, Fok (cellsP xs k st).2
  | 0 => h
  | k + 1 => by
    have ih := Fok.cells xs st h k
    unfold cellsP stepC
    split
    · exact ih
    · exact Keeps.cell xs _ ih
theorem Fok.kind (xs : List Int) : Fok (kindD xs).2 := Keeps.num xs _ Fok.none
theorem Fok.readQ (xs : List Int) : Fok (readD xs).2 := by
  have h1 : Fok (numP xs M40 (kindD xs).2).2 := Keeps.num xs _ (Fok.kind xs)
  have h2 : Fok (numP xs M40 (numP xs M40 (kindD xs).2).2).2 := Keeps.num xs _ h1
  unfold readD bodyD
  dsimp only
  split
  · exact Keeps.cell xs _ h2
  · split
    · exact Fok.cells xs _ (Keeps.count 16 xs _ h2) _
    · split
      · have c1 : Fok (cellP xs (numP xs M40 (numP xs M40 (kindD xs).2).2).2).2 := Keeps.cell xs _ h2
        have c2 : Fok (cellP xs (cellP xs (numP xs M40 (numP xs M40 (kindD xs).2).2).2).2).2 := Keeps.cell xs _ c1
        have c3 : Fok (numP xs M40 (cellP xs (cellP xs (numP xs M40 (numP xs M40 (kindD xs).2).2).2).2).2).2 := Keeps.num xs _ c2
        exact c3
      · split
        · exact h2
        · exact h1
theorem Fok.readS (xs : List Int) : Fok (readS xs).2 := by
  have h1 : Fok (numP xs M40 (kindD xs).2).2 := Keeps.num xs _ (Fok.kind xs)
  have h2 : Fok (numP xs M40 (numP xs M40 (kindD xs).2).2).2 := Keeps.num xs _ h1
  unfold Go.Proofs.YtglbdbghcdoicaaGreatDoor.readS bodyS
  dsimp only
  split
  · exact Fok.iter Keeps.row xs _ (Keeps.count 256 xs _ h1) _
  · split
    · exact h2
    · split
      · exact Keeps.num xs _ (Keeps.num xs _ (Keeps.num xs _ (Keeps.num xs _ (Keeps.num xs _ (Keeps.num xs _ h1)))))
      · split
        · exact h2
        · exact h1
theorem Fok.end_ {xs : List Int} {s : RS} (h : Fok s) : Fok (endP xs s) := by
  unfold endP
  split
  · exact h.fail _ _
  · exact h
theorem Fok.check {code : Int} {s : RS} (h : Fok s) : Fok (checkD code s) := by
  unfold checkD
  split
  · exact h
  · exact h.fail _ _
end
/-- A fault's number is not 0; with a fault there is nothing. -/
theorem decRq_fault {xs : List Int} {q : Rq} {e p : Int} (h : decRq xs = (q, some (e, p))) : q = rq0 ∧ (e == 0) = false := by
  unfold decRq at h
  split at h
  · injection h with h1 h2
    exact ⟨h1.symm, by simpa using (Fok.kind xs).fail 15 0 e p h2⟩
  · split at h
    · injection h with h1 h2
      exact ⟨h1.symm, by simpa using (Fok.readQ xs).end_.check e p h2⟩
    · injection h with h1 h2; cases h2
theorem decRs_fault {xs : List Int} {q : Rs} {e p : Int} (h : decRs xs = (q, some (e, p))) : q = rs0 ∧ (e == 0) = false := by
  unfold decRs at h
  split at h
  · injection h with h1 h2
    exact ⟨h1.symm, by simpa using (Fok.kind xs).fail 15 0 e p h2⟩
  · split at h
    · injection h with h1 h2
      exact ⟨h1.symm, by simpa using (Fok.readS xs).end_.check e p h2⟩
    · injection h with h1 h2; cases h2
end Go.Proofs.YtglbdbghcdoicaaGreatDoor
