/-
  DERIVED. GIVEN WITH THE SEED: THE CARDS: each row of YtglbdbghcdoicaaDoorRows.lean that lists a variable, with what it lists TIED to the program's text (the seventh form; the later family's looks); each row that meets fmt, with fmt's text TOLD by the authors' own Lean function (tested against real Go, not proved from fmt's source: count such statements apart). THE CARD IS WHAT COUNTS. Prove the row's statement (the work); the ties are given (YtglbdbghcdoicaaDoorTie.lean); close each card by the builder's one call (the guide's Derived/Test/ToyasCard.lean, 'card_holds'). Laid BY PROGRAM, IN A SANDBOX (cutbox-door.mjs). By AI agents, Wed Nov 11 2026. No macro, syntax, notation, axiom, sorry.
-/
import Derived.Test.YtglbdbghcdoicaaDoorRows
import GoSem.ClaimSeven
namespace Go.Proofs.YtglbdbghcdoicaaDoor
namespace Rows

/-- THE TIED CARD OF 'spatelaw17.SessAnswers'. -/
def sessAnswersCard : Claim7 := { stood := { row := sessAnswersRow, standIns := [], harness := (true, "ba00c6e157f7cd2cee10c0778c73d661948d2bbe25c22da38917e3043f400374"), looks := true }, kinds := [], alts := [], laidByText := true, laidKinds := [.handle], laidTests := true, laidLooks := .later }
def SessAnswersCardSaid : Prop := Claim7.holds Tryd.pinned (.plain (OpenSpec.ofChange sessAnswersSpec)) sessAnswersCard

/-- THE TIED CARD OF 'spatelaw17.SessPieces'. -/
def sessPiecesCard : Claim7 := { stood := { row := sessPiecesRow, standIns := [], harness := (true, "ba00c6e157f7cd2cee10c0778c73d661948d2bbe25c22da38917e3043f400374"), looks := true }, kinds := [], alts := [], laidByText := true, laidKinds := [.handle], laidTests := true, laidLooks := .later }
def SessPiecesCardSaid : Prop := Claim7.holds Tryd.pinned (.plain (OpenSpec.ofChange sessPiecesSpec)) sessPiecesCard

/-- THE TIED CARD OF 'spatelaw17.SessWhole'. -/
def sessWholeCard : Claim7 := { stood := { row := sessWholeRow, standIns := [], harness := (true, "ba00c6e157f7cd2cee10c0778c73d661948d2bbe25c22da38917e3043f400374"), looks := true }, kinds := [], alts := [], laidByText := true, laidKinds := [.handle], laidTests := true, laidLooks := .later }
def SessWholeCardSaid : Prop := Claim7.holds Tryd.pinned (.plain (OpenSpec.ofChange sessWholeSpec)) sessWholeCard

/-- THE TIED CARD OF 'spatelaw17.SessHeard'. -/
def sessHeardCard : Claim7 := { stood := { row := sessHeardRow, standIns := [], harness := (true, "ba00c6e157f7cd2cee10c0778c73d661948d2bbe25c22da38917e3043f400374"), looks := true }, kinds := [], alts := [], laidByText := true, laidKinds := [.handle], laidTests := true, laidLooks := .later }
def SessHeardCardSaid : Prop := Claim7.holds Tryd.pinned (.plain (OpenSpec.ofChange sessHeardSpec)) sessHeardCard

/-- THE SECOND FORM's CARD OF 'spatelaw17.SessAnswers'. -/
def sessAnswersUptoCard : Claim7 := { stood := { row := sessAnswersUptoRow, standIns := [], harness := (true, "ba00c6e157f7cd2cee10c0778c73d661948d2bbe25c22da38917e3043f400374"), looks := true }, kinds := [], alts := [], laidByText := true, laidKinds := [.handle], laidTests := true, laidLooks := .later }
def SessAnswersUptoCardSaid : Prop := Claim7.holds Tryd.pinned (.plain (OpenSpec.upto sessAnswersSpec)) sessAnswersUptoCard

/-- THE SECOND FORM's CARD OF 'spatelaw17.SessPieces'. -/
def sessPiecesUptoCard : Claim7 := { stood := { row := sessPiecesUptoRow, standIns := [], harness := (true, "ba00c6e157f7cd2cee10c0778c73d661948d2bbe25c22da38917e3043f400374"), looks := true }, kinds := [], alts := [], laidByText := true, laidKinds := [.handle], laidTests := true, laidLooks := .later }
def SessPiecesUptoCardSaid : Prop := Claim7.holds Tryd.pinned (.plain (OpenSpec.upto sessPiecesSpec)) sessPiecesUptoCard

/-- THE SECOND FORM's CARD OF 'spatelaw17.SessWhole'. -/
def sessWholeUptoCard : Claim7 := { stood := { row := sessWholeUptoRow, standIns := [], harness := (true, "ba00c6e157f7cd2cee10c0778c73d661948d2bbe25c22da38917e3043f400374"), looks := true }, kinds := [], alts := [], laidByText := true, laidKinds := [.handle], laidTests := true, laidLooks := .later }
def SessWholeUptoCardSaid : Prop := Claim7.holds Tryd.pinned (.plain (OpenSpec.upto sessWholeSpec)) sessWholeUptoCard

/-- THE SECOND FORM's CARD OF 'spatelaw17.SessHeard'. -/
def sessHeardUptoCard : Claim7 := { stood := { row := sessHeardUptoRow, standIns := [], harness := (true, "ba00c6e157f7cd2cee10c0778c73d661948d2bbe25c22da38917e3043f400374"), looks := true }, kinds := [], alts := [], laidByText := true, laidKinds := [.handle], laidTests := true, laidLooks := .later }
def SessHeardUptoCardSaid : Prop := Claim7.holds Tryd.pinned (.plain (OpenSpec.upto sessHeardSpec)) sessHeardUptoCard
end Rows
end Go.Proofs.YtglbdbghcdoicaaDoor
