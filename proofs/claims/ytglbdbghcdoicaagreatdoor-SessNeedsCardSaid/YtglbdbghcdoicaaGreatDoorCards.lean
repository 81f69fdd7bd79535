/-
  DERIVED. GIVEN WITH THE SEED: THE CARDS: each row of YtglbdbghcdoicaaGreatDoorRows.lean that lists a variable, with what it lists TIED to the program's text (the seventh form; the later family's looks); each row that meets fmt, with fmt's text TOLD by the authors' own Lean function (tested against real Go, not proved from fmt's source: count such statements apart). THE CARD IS WHAT COUNTS. Prove the row's statement (the work); the ties are given (YtglbdbghcdoicaaGreatDoorTie.lean); close each card by the builder's one call (the guide's Derived/Test/ToyasCard.lean, 'card_holds'). Laid BY PROGRAM, IN A SANDBOX (cutbox-door.mjs). By AI agents, Wed Nov 11 2026. No macro, syntax, notation, axiom, sorry.
-/
import Derived.Test.YtglbdbghcdoicaaGreatDoorRows
import GoSem.ClaimSeven
namespace Go.Proofs.YtglbdbghcdoicaaGreatDoor
namespace Rows

/-- THE TIED CARD OF 'spatelaw17.SessPlays'. -/
def sessPlaysCard : Claim7 := { stood := { row := sessPlaysRow, standIns := [], harness := (true, "5cbfc9b0bbe5d8303903b4aea87741ef4125704294f19e2fe3dd72a2004f66ed"), looks := true }, kinds := [], alts := [], laidByText := true, laidKinds := [.handle], laidTests := true, laidLooks := .later }
def SessPlaysCardSaid : Prop := Claim7.holds Tryz.pinned (.plain (OpenSpec.ofChange sessPlaysSpec)) sessPlaysCard

/-- THE TIED CARD OF 'spatelaw17.SessNeeds'. -/
def sessNeedsCard : Claim7 := { stood := { row := sessNeedsRow, standIns := [], harness := (true, "5cbfc9b0bbe5d8303903b4aea87741ef4125704294f19e2fe3dd72a2004f66ed"), looks := true }, kinds := [], alts := [], laidByText := true, laidKinds := [.handle], laidTests := true, laidLooks := .later }
def SessNeedsCardSaid : Prop := Claim7.holds Tryz.pinned (.plain (OpenSpec.ofChange sessNeedsSpec)) sessNeedsCard

/-- THE TIED CARD OF 'spatelaw17.SessLocks'. -/
def sessLocksCard : Claim7 := { stood := { row := sessLocksRow, standIns := [], harness := (true, "5cbfc9b0bbe5d8303903b4aea87741ef4125704294f19e2fe3dd72a2004f66ed"), looks := true }, kinds := [], alts := [], laidByText := true, laidKinds := [.handle], laidTests := true, laidLooks := .later }
def SessLocksCardSaid : Prop := Claim7.holds Tryz.pinned (.plain (OpenSpec.ofChange sessLocksSpec)) sessLocksCard

/-- THE TIED CARD OF 'spatelaw17.SessOwn'. -/
def sessOwnCard : Claim7 := { stood := { row := sessOwnRow, standIns := [], harness := (true, "5cbfc9b0bbe5d8303903b4aea87741ef4125704294f19e2fe3dd72a2004f66ed"), looks := true }, kinds := [], alts := [], laidByText := true, laidKinds := [.handle], laidTests := true, laidLooks := .later }
def SessOwnCardSaid : Prop := Claim7.holds Tryz.pinned (.plain (OpenSpec.ofChange sessOwnSpec)) sessOwnCard

/-- THE TIED CARD OF 'spatelaw17.SessBook'. -/
def sessBookCard : Claim7 := { stood := { row := sessBookRow, standIns := [], harness := (true, "5cbfc9b0bbe5d8303903b4aea87741ef4125704294f19e2fe3dd72a2004f66ed"), looks := true }, kinds := [], alts := [], laidByText := true, laidKinds := [.handle], laidTests := true, laidLooks := .later }
def SessBookCardSaid : Prop := Claim7.holds Tryz.pinned (.plain (OpenSpec.ofChange sessBookSpec)) sessBookCard

/-- THE SECOND FORM's CARD OF 'spatelaw17.SessPlays'. -/
def sessPlaysUptoCard : Claim7 := { stood := { row := sessPlaysUptoRow, standIns := [], harness := (true, "5cbfc9b0bbe5d8303903b4aea87741ef4125704294f19e2fe3dd72a2004f66ed"), looks := true }, kinds := [], alts := [], laidByText := true, laidKinds := [.handle], laidTests := true, laidLooks := .later }
def SessPlaysUptoCardSaid : Prop := Claim7.holds Tryz.pinned (.plain (OpenSpec.upto sessPlaysSpec)) sessPlaysUptoCard

/-- THE SECOND FORM's CARD OF 'spatelaw17.SessNeeds'. -/
def sessNeedsUptoCard : Claim7 := { stood := { row := sessNeedsUptoRow, standIns := [], harness := (true, "5cbfc9b0bbe5d8303903b4aea87741ef4125704294f19e2fe3dd72a2004f66ed"), looks := true }, kinds := [], alts := [], laidByText := true, laidKinds := [.handle], laidTests := true, laidLooks := .later }
def SessNeedsUptoCardSaid : Prop := Claim7.holds Tryz.pinned (.plain (OpenSpec.upto sessNeedsSpec)) sessNeedsUptoCard

/-- THE SECOND FORM's CARD OF 'spatelaw17.SessLocks'. -/
def sessLocksUptoCard : Claim7 := { stood := { row := sessLocksUptoRow, standIns := [], harness := (true, "5cbfc9b0bbe5d8303903b4aea87741ef4125704294f19e2fe3dd72a2004f66ed"), looks := true }, kinds := [], alts := [], laidByText := true, laidKinds := [.handle], laidTests := true, laidLooks := .later }
def SessLocksUptoCardSaid : Prop := Claim7.holds Tryz.pinned (.plain (OpenSpec.upto sessLocksSpec)) sessLocksUptoCard

/-- THE SECOND FORM's CARD OF 'spatelaw17.SessOwn'. -/
def sessOwnUptoCard : Claim7 := { stood := { row := sessOwnUptoRow, standIns := [], harness := (true, "5cbfc9b0bbe5d8303903b4aea87741ef4125704294f19e2fe3dd72a2004f66ed"), looks := true }, kinds := [], alts := [], laidByText := true, laidKinds := [.handle], laidTests := true, laidLooks := .later }
def SessOwnUptoCardSaid : Prop := Claim7.holds Tryz.pinned (.plain (OpenSpec.upto sessOwnSpec)) sessOwnUptoCard

/-- THE SECOND FORM's CARD OF 'spatelaw17.SessBook'. -/
def sessBookUptoCard : Claim7 := { stood := { row := sessBookUptoRow, standIns := [], harness := (true, "5cbfc9b0bbe5d8303903b4aea87741ef4125704294f19e2fe3dd72a2004f66ed"), looks := true }, kinds := [], alts := [], laidByText := true, laidKinds := [.handle], laidTests := true, laidLooks := .later }
def SessBookUptoCardSaid : Prop := Claim7.holds Tryz.pinned (.plain (OpenSpec.upto sessBookSpec)) sessBookUptoCard
end Rows
end Go.Proofs.YtglbdbghcdoicaaGreatDoor
