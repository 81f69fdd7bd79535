/-
  DERIVED. GIVEN WITH THE SEED: THE CARDS: each row of YtikacbfpeegcdaaDoorRows.lean that lists a variable, with what it lists TIED to the program's text (the seventh form; the later family's looks); each row that meets fmt, with fmt's text TOLD by the authors' own Lean function (tested against real Go, not proved from fmt's source: count such statements apart). THE CARD IS WHAT COUNTS. Prove the row's statement (the work); the ties are given (YtikacbfpeegcdaaDoorTie.lean); close each card by the builder's one call (the guide's Derived/Test/ToyasCard.lean, 'card_holds'). Laid BY PROGRAM, IN A SANDBOX (cutbox-door.mjs). By AI agents, Wed Nov 11 2026. No macro, syntax, notation, axiom, sorry.
-/
import Derived.Test.YtikacbfpeegcdaaDoorRows
import GoSem.ClaimSeven
namespace Go.Proofs.YtikacbfpeegcdaaDoor
namespace Rows

/-- THE TIED CARD OF 'spatelaw3.AggFits'. -/
def aggFitsCard : Claim7 := { stood := { row := aggFitsRow, standIns := [], harness := (true, "5e2f5dc0619a1845814db1395a76187d28579b8a50ee28b2771887b4f33d375f"), looks := true }, kinds := [], alts := [], laidByText := true, laidKinds := [.handle], laidTests := true, laidLooks := .later }
def AggFitsCardSaid : Prop := Claim7.holds Tryd.pinned (.plain (OpenSpec.ofChange aggFitsSpec)) aggFitsCard

/-- THE TIED CARD OF 'spatelaw3.AggProducts'. -/
def aggProductsCard : Claim7 := { stood := { row := aggProductsRow, standIns := [], harness := (true, "5e2f5dc0619a1845814db1395a76187d28579b8a50ee28b2771887b4f33d375f"), looks := true }, kinds := [], alts := [], laidByText := true, laidKinds := [.handle], laidTests := true, laidLooks := .later }
def AggProductsCardSaid : Prop := Claim7.holds Tryd.pinned (.plain (OpenSpec.ofChange aggProductsSpec)) aggProductsCard

/-- THE TIED CARD OF 'spatelaw3.AggFolds'. -/
def aggFoldsCard : Claim7 := { stood := { row := aggFoldsRow, standIns := [], harness := (true, "5e2f5dc0619a1845814db1395a76187d28579b8a50ee28b2771887b4f33d375f"), looks := true }, kinds := [], alts := [], laidByText := true, laidKinds := [.handle], laidTests := true, laidLooks := .later }
def AggFoldsCardSaid : Prop := Claim7.holds Tryd.pinned (.plain (OpenSpec.ofChange aggFoldsSpec)) aggFoldsCard

/-- THE TIED CARD OF 'spatelaw3.AggSums'. -/
def aggSumsCard : Claim7 := { stood := { row := aggSumsRow, standIns := [], harness := (true, "5e2f5dc0619a1845814db1395a76187d28579b8a50ee28b2771887b4f33d375f"), looks := true }, kinds := [], alts := [], laidByText := true, laidKinds := [.handle], laidTests := true, laidLooks := .later }
def AggSumsCardSaid : Prop := Claim7.holds Tryd.pinned (.plain (OpenSpec.ofChange aggSumsSpec)) aggSumsCard

/-- THE TIED CARD OF 'spatelaw3.AggPuts'. -/
def aggPutsCard : Claim7 := { stood := { row := aggPutsRow, standIns := [], harness := (true, "5e2f5dc0619a1845814db1395a76187d28579b8a50ee28b2771887b4f33d375f"), looks := true }, kinds := [], alts := [], laidByText := true, laidKinds := [.handle], laidTests := true, laidLooks := .later }
def AggPutsCardSaid : Prop := Claim7.holds Tryd.pinned (.plain (OpenSpec.ofChange aggPutsSpec)) aggPutsCard

/-- THE SECOND FORM's CARD OF 'spatelaw3.AggFits'. -/
def aggFitsUptoCard : Claim7 := { stood := { row := aggFitsUptoRow, standIns := [], harness := (true, "5e2f5dc0619a1845814db1395a76187d28579b8a50ee28b2771887b4f33d375f"), looks := true }, kinds := [], alts := [], laidByText := true, laidKinds := [.handle], laidTests := true, laidLooks := .later }
def AggFitsUptoCardSaid : Prop := Claim7.holds Tryd.pinned (.plain (OpenSpec.upto aggFitsSpec)) aggFitsUptoCard

/-- THE SECOND FORM's CARD OF 'spatelaw3.AggProducts'. -/
def aggProductsUptoCard : Claim7 := { stood := { row := aggProductsUptoRow, standIns := [], harness := (true, "5e2f5dc0619a1845814db1395a76187d28579b8a50ee28b2771887b4f33d375f"), looks := true }, kinds := [], alts := [], laidByText := true, laidKinds := [.handle], laidTests := true, laidLooks := .later }
def AggProductsUptoCardSaid : Prop := Claim7.holds Tryd.pinned (.plain (OpenSpec.upto aggProductsSpec)) aggProductsUptoCard

/-- THE SECOND FORM's CARD OF 'spatelaw3.AggFolds'. -/
def aggFoldsUptoCard : Claim7 := { stood := { row := aggFoldsUptoRow, standIns := [], harness := (true, "5e2f5dc0619a1845814db1395a76187d28579b8a50ee28b2771887b4f33d375f"), looks := true }, kinds := [], alts := [], laidByText := true, laidKinds := [.handle], laidTests := true, laidLooks := .later }
def AggFoldsUptoCardSaid : Prop := Claim7.holds Tryd.pinned (.plain (OpenSpec.upto aggFoldsSpec)) aggFoldsUptoCard

/-- THE SECOND FORM's CARD OF 'spatelaw3.AggSums'. -/
def aggSumsUptoCard : Claim7 := { stood := { row := aggSumsUptoRow, standIns := [], harness := (true, "5e2f5dc0619a1845814db1395a76187d28579b8a50ee28b2771887b4f33d375f"), looks := true }, kinds := [], alts := [], laidByText := true, laidKinds := [.handle], laidTests := true, laidLooks := .later }
def AggSumsUptoCardSaid : Prop := Claim7.holds Tryd.pinned (.plain (OpenSpec.upto aggSumsSpec)) aggSumsUptoCard

/-- THE SECOND FORM's CARD OF 'spatelaw3.AggPuts'. -/
def aggPutsUptoCard : Claim7 := { stood := { row := aggPutsUptoRow, standIns := [], harness := (true, "5e2f5dc0619a1845814db1395a76187d28579b8a50ee28b2771887b4f33d375f"), looks := true }, kinds := [], alts := [], laidByText := true, laidKinds := [.handle], laidTests := true, laidLooks := .later }
def AggPutsUptoCardSaid : Prop := Claim7.holds Tryd.pinned (.plain (OpenSpec.upto aggPutsSpec)) aggPutsUptoCard
end Rows
end Go.Proofs.YtikacbfpeegcdaaDoor
