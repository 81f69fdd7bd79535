/-
  DERIVED. GIVEN WITH THE SEED: THE CARDS: each row of YtdgokebablhoiaaDoorRows.lean that lists a variable, with what it lists TIED to the program's text (the seventh form; the later family's looks); each row that meets fmt, with fmt's text TOLD by the authors' own Lean function (tested against real Go, not proved from fmt's source: count such statements apart). THE CARD IS WHAT COUNTS. Prove the row's statement (the work); the ties are given (YtdgokebablhoiaaDoorTie.lean); close each card by the builder's one call (the guide's Derived/Test/ToyasCard.lean, 'card_holds'). Laid BY PROGRAM, IN A SANDBOX (cutbox-door.mjs). By AI agents, Wed Nov 11 2026. No macro, syntax, notation, axiom, sorry.
-/
import Derived.Test.YtdgokebablhoiaaDoorRows
import GoSem.ClaimSeven
namespace Go.Proofs.YtdgokebablhoiaaDoor
namespace Rows

/-- THE TIED CARD OF 'spatelaw1.WireWrites'. -/
def wireWritesCard : Claim7 := { stood := { row := wireWritesRow, standIns := [], harness := (true, "ee94de4dc58d34873838f65bee0a26f67287d7493605663a09d1a92110e5868f"), looks := true }, kinds := [], alts := [], laidByText := true, laidKinds := [.handle], laidTests := true, laidLooks := .later }
def WireWritesCardSaid : Prop := Claim7.holds Tryd.pinned (.plain (OpenSpec.ofChange wireWritesSpec)) wireWritesCard

/-- THE TIED CARD OF 'spatelaw1.WireBodies'. -/
def wireBodiesCard : Claim7 := { stood := { row := wireBodiesRow, standIns := [], harness := (true, "ee94de4dc58d34873838f65bee0a26f67287d7493605663a09d1a92110e5868f"), looks := true }, kinds := [], alts := [], laidByText := true, laidKinds := [.handle], laidTests := true, laidLooks := .later }
def WireBodiesCardSaid : Prop := Claim7.holds Tryd.pinned (.plain (OpenSpec.ofChange wireBodiesSpec)) wireBodiesCard

/-- THE TIED CARD OF 'spatelaw1.WireOne'. -/
def wireOneCard : Claim7 := { stood := { row := wireOneRow, standIns := [], harness := (true, "ee94de4dc58d34873838f65bee0a26f67287d7493605663a09d1a92110e5868f"), looks := true }, kinds := [], alts := [], laidByText := true, laidKinds := [.handle], laidTests := true, laidLooks := .later }
def WireOneCardSaid : Prop := Claim7.holds Tryd.pinned (.plain (OpenSpec.ofChange wireOneSpec)) wireOneCard

/-- THE TIED CARD OF 'spatelaw1.WireBack'. -/
def wireBackCard : Claim7 := { stood := { row := wireBackRow, standIns := [], harness := (true, "ee94de4dc58d34873838f65bee0a26f67287d7493605663a09d1a92110e5868f"), looks := true }, kinds := [], alts := [], laidByText := true, laidKinds := [.handle], laidTests := true, laidLooks := .later }
def WireBackCardSaid : Prop := Claim7.holds Tryd.pinned (.plain (OpenSpec.ofChange wireBackSpec)) wireBackCard

/-- THE TIED CARD OF 'spatelaw1.WirePieces'. -/
def wirePiecesCard : Claim7 := { stood := { row := wirePiecesRow, standIns := [], harness := (true, "ee94de4dc58d34873838f65bee0a26f67287d7493605663a09d1a92110e5868f"), looks := true }, kinds := [], alts := [], laidByText := true, laidKinds := [.handle], laidTests := true, laidLooks := .later }
def WirePiecesCardSaid : Prop := Claim7.holds Tryd.pinned (.plain (OpenSpec.ofChange wirePiecesSpec)) wirePiecesCard

/-- THE TIED CARD OF 'spatelaw1.WireLong'. -/
def wireLongCard : Claim7 := { stood := { row := wireLongRow, standIns := [], harness := (true, "ee94de4dc58d34873838f65bee0a26f67287d7493605663a09d1a92110e5868f"), looks := true }, kinds := [], alts := [], laidByText := true, laidKinds := [.handle], laidTests := true, laidLooks := .later }
def WireLongCardSaid : Prop := Claim7.holds Tryd.pinned (.plain (OpenSpec.ofChange wireLongSpec)) wireLongCard

/-- THE TIED CARD OF 'spatelaw1.WireCuts'. -/
def wireCutsCard : Claim7 := { stood := { row := wireCutsRow, standIns := [], harness := (true, "ee94de4dc58d34873838f65bee0a26f67287d7493605663a09d1a92110e5868f"), looks := true }, kinds := [], alts := [], laidByText := true, laidKinds := [.handle], laidTests := true, laidLooks := .later }
def WireCutsCardSaid : Prop := Claim7.holds Tryd.pinned (.plain (OpenSpec.ofChange wireCutsSpec)) wireCutsCard

/-- THE TIED CARD OF 'spatelaw1.WireOwn'. -/
def wireOwnCard : Claim7 := { stood := { row := wireOwnRow, standIns := [], harness := (true, "ee94de4dc58d34873838f65bee0a26f67287d7493605663a09d1a92110e5868f"), looks := true }, kinds := [], alts := [], laidByText := true, laidKinds := [.handle], laidTests := true, laidLooks := .later }
def WireOwnCardSaid : Prop := Claim7.holds Tryd.pinned (.plain (OpenSpec.ofChange wireOwnSpec)) wireOwnCard

/-- THE TIED CARD OF 'spatelaw1.WireMany'. -/
def wireManyCard : Claim7 := { stood := { row := wireManyRow, standIns := [], harness := (true, "ee94de4dc58d34873838f65bee0a26f67287d7493605663a09d1a92110e5868f"), looks := true }, kinds := [], alts := [], laidByText := true, laidKinds := [.handle], laidTests := true, laidLooks := .later }
def WireManyCardSaid : Prop := Claim7.holds Tryd.pinned (.plain (OpenSpec.ofChange wireManySpec)) wireManyCard

/-- THE TIED CARD OF 'spatelaw1.WireAnswers'. -/
def wireAnswersCard : Claim7 := { stood := { row := wireAnswersRow, standIns := [], harness := (true, "ee94de4dc58d34873838f65bee0a26f67287d7493605663a09d1a92110e5868f"), looks := true }, kinds := [], alts := [], laidByText := true, laidKinds := [.handle], laidTests := true, laidLooks := .later }
def WireAnswersCardSaid : Prop := Claim7.holds Tryd.pinned (.plain (OpenSpec.ofChange wireAnswersSpec)) wireAnswersCard

/-- THE TIED CARD OF 'spatelaw1.WireNames'. -/
def wireNamesCard : Claim7 := { stood := { row := wireNamesRow, standIns := [], harness := (true, "ee94de4dc58d34873838f65bee0a26f67287d7493605663a09d1a92110e5868f"), looks := true }, kinds := [], alts := [], laidByText := true, laidKinds := [.handle], laidTests := true, laidLooks := .later }
def WireNamesCardSaid : Prop := Claim7.holds Tryd.pinned (.plain (OpenSpec.ofChange wireNamesSpec)) wireNamesCard

/-- THE TIED CARD OF 'spatelaw1.WireReads'. -/
def wireReadsCard : Claim7 := { stood := { row := wireReadsRow, standIns := [], harness := (true, "ee94de4dc58d34873838f65bee0a26f67287d7493605663a09d1a92110e5868f"), looks := true }, kinds := [], alts := [], laidByText := true, laidKinds := [.handle], laidTests := true, laidLooks := .later }
def WireReadsCardSaid : Prop := Claim7.holds Tryd.pinned (.plain (OpenSpec.ofChange wireReadsSpec)) wireReadsCard

/-- THE SECOND FORM's CARD OF 'spatelaw1.WireWrites'. -/
def wireWritesUptoCard : Claim7 := { stood := { row := wireWritesUptoRow, standIns := [], harness := (true, "ee94de4dc58d34873838f65bee0a26f67287d7493605663a09d1a92110e5868f"), looks := true }, kinds := [], alts := [], laidByText := true, laidKinds := [.handle], laidTests := true, laidLooks := .later }
def WireWritesUptoCardSaid : Prop := Claim7.holds Tryd.pinned (.plain (OpenSpec.upto wireWritesSpec)) wireWritesUptoCard

/-- THE SECOND FORM's CARD OF 'spatelaw1.WireBodies'. -/
def wireBodiesUptoCard : Claim7 := { stood := { row := wireBodiesUptoRow, standIns := [], harness := (true, "ee94de4dc58d34873838f65bee0a26f67287d7493605663a09d1a92110e5868f"), looks := true }, kinds := [], alts := [], laidByText := true, laidKinds := [.handle], laidTests := true, laidLooks := .later }
def WireBodiesUptoCardSaid : Prop := Claim7.holds Tryd.pinned (.plain (OpenSpec.upto wireBodiesSpec)) wireBodiesUptoCard

/-- THE SECOND FORM's CARD OF 'spatelaw1.WireOne'. -/
def wireOneUptoCard : Claim7 := { stood := { row := wireOneUptoRow, standIns := [], harness := (true, "ee94de4dc58d34873838f65bee0a26f67287d7493605663a09d1a92110e5868f"), looks := true }, kinds := [], alts := [], laidByText := true, laidKinds := [.handle], laidTests := true, laidLooks := .later }
def WireOneUptoCardSaid : Prop := Claim7.holds Tryd.pinned (.plain (OpenSpec.upto wireOneSpec)) wireOneUptoCard

/-- THE SECOND FORM's CARD OF 'spatelaw1.WireBack'. -/
def wireBackUptoCard : Claim7 := { stood := { row := wireBackUptoRow, standIns := [], harness := (true, "ee94de4dc58d34873838f65bee0a26f67287d7493605663a09d1a92110e5868f"), looks := true }, kinds := [], alts := [], laidByText := true, laidKinds := [.handle], laidTests := true, laidLooks := .later }
def WireBackUptoCardSaid : Prop := Claim7.holds Tryd.pinned (.plain (OpenSpec.upto wireBackSpec)) wireBackUptoCard

/-- THE SECOND FORM's CARD OF 'spatelaw1.WirePieces'. -/
def wirePiecesUptoCard : Claim7 := { stood := { row := wirePiecesUptoRow, standIns := [], harness := (true, "ee94de4dc58d34873838f65bee0a26f67287d7493605663a09d1a92110e5868f"), looks := true }, kinds := [], alts := [], laidByText := true, laidKinds := [.handle], laidTests := true, laidLooks := .later }
def WirePiecesUptoCardSaid : Prop := Claim7.holds Tryd.pinned (.plain (OpenSpec.upto wirePiecesSpec)) wirePiecesUptoCard

/-- THE SECOND FORM's CARD OF 'spatelaw1.WireLong'. -/
def wireLongUptoCard : Claim7 := { stood := { row := wireLongUptoRow, standIns := [], harness := (true, "ee94de4dc58d34873838f65bee0a26f67287d7493605663a09d1a92110e5868f"), looks := true }, kinds := [], alts := [], laidByText := true, laidKinds := [.handle], laidTests := true, laidLooks := .later }
def WireLongUptoCardSaid : Prop := Claim7.holds Tryd.pinned (.plain (OpenSpec.upto wireLongSpec)) wireLongUptoCard

/-- THE SECOND FORM's CARD OF 'spatelaw1.WireCuts'. -/
def wireCutsUptoCard : Claim7 := { stood := { row := wireCutsUptoRow, standIns := [], harness := (true, "ee94de4dc58d34873838f65bee0a26f67287d7493605663a09d1a92110e5868f"), looks := true }, kinds := [], alts := [], laidByText := true, laidKinds := [.handle], laidTests := true, laidLooks := .later }
def WireCutsUptoCardSaid : Prop := Claim7.holds Tryd.pinned (.plain (OpenSpec.upto wireCutsSpec)) wireCutsUptoCard

/-- THE SECOND FORM's CARD OF 'spatelaw1.WireOwn'. -/
def wireOwnUptoCard : Claim7 := { stood := { row := wireOwnUptoRow, standIns := [], harness := (true, "ee94de4dc58d34873838f65bee0a26f67287d7493605663a09d1a92110e5868f"), looks := true }, kinds := [], alts := [], laidByText := true, laidKinds := [.handle], laidTests := true, laidLooks := .later }
def WireOwnUptoCardSaid : Prop := Claim7.holds Tryd.pinned (.plain (OpenSpec.upto wireOwnSpec)) wireOwnUptoCard

/-- THE SECOND FORM's CARD OF 'spatelaw1.WireMany'. -/
def wireManyUptoCard : Claim7 := { stood := { row := wireManyUptoRow, standIns := [], harness := (true, "ee94de4dc58d34873838f65bee0a26f67287d7493605663a09d1a92110e5868f"), looks := true }, kinds := [], alts := [], laidByText := true, laidKinds := [.handle], laidTests := true, laidLooks := .later }
def WireManyUptoCardSaid : Prop := Claim7.holds Tryd.pinned (.plain (OpenSpec.upto wireManySpec)) wireManyUptoCard

/-- THE SECOND FORM's CARD OF 'spatelaw1.WireAnswers'. -/
def wireAnswersUptoCard : Claim7 := { stood := { row := wireAnswersUptoRow, standIns := [], harness := (true, "ee94de4dc58d34873838f65bee0a26f67287d7493605663a09d1a92110e5868f"), looks := true }, kinds := [], alts := [], laidByText := true, laidKinds := [.handle], laidTests := true, laidLooks := .later }
def WireAnswersUptoCardSaid : Prop := Claim7.holds Tryd.pinned (.plain (OpenSpec.upto wireAnswersSpec)) wireAnswersUptoCard

/-- THE SECOND FORM's CARD OF 'spatelaw1.WireNames'. -/
def wireNamesUptoCard : Claim7 := { stood := { row := wireNamesUptoRow, standIns := [], harness := (true, "ee94de4dc58d34873838f65bee0a26f67287d7493605663a09d1a92110e5868f"), looks := true }, kinds := [], alts := [], laidByText := true, laidKinds := [.handle], laidTests := true, laidLooks := .later }
def WireNamesUptoCardSaid : Prop := Claim7.holds Tryd.pinned (.plain (OpenSpec.upto wireNamesSpec)) wireNamesUptoCard

/-- THE SECOND FORM's CARD OF 'spatelaw1.WireReads'. -/
def wireReadsUptoCard : Claim7 := { stood := { row := wireReadsUptoRow, standIns := [], harness := (true, "ee94de4dc58d34873838f65bee0a26f67287d7493605663a09d1a92110e5868f"), looks := true }, kinds := [], alts := [], laidByText := true, laidKinds := [.handle], laidTests := true, laidLooks := .later }
def WireReadsUptoCardSaid : Prop := Claim7.holds Tryd.pinned (.plain (OpenSpec.upto wireReadsSpec)) wireReadsUptoCard
end Rows
end Go.Proofs.YtdgokebablhoiaaDoor
