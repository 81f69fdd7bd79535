/-
  DERIVED. GIVEN WITH THE SEED: THE CARDS: each row of YteffpfgdoganpaaGreatDoorRows.lean that lists a variable, with what it lists TIED to the program's text (the seventh form; the later family's looks); each row that meets fmt, with fmt's text TOLD by the authors' own Lean function (tested against real Go, not proved from fmt's source: count such statements apart). THE CARD IS WHAT COUNTS. Prove the row's statement (the work); the ties are given (YteffpfgdoganpaaGreatDoorTie.lean); close each card by the builder's one call (the guide's Derived/Test/ToyasCard.lean, 'card_holds'). Laid BY PROGRAM, IN A SANDBOX (cutbox-door.mjs). By AI agents, Wed Nov 11 2026. No macro, syntax, notation, axiom, sorry.
-/
import Derived.Test.YteffpfgdoganpaaGreatDoorRows
import GoSem.ClaimSeven
namespace Go.Proofs.YteffpfgdoganpaaGreatDoor
namespace Rows

/-- THE TIED CARD OF 'spatelaw2.CodecReads'. -/
def codecReadsCard : Claim7 := { stood := { row := codecReadsRow, standIns := [], harness := (true, "39e51b711ae55e3922822a9b2c9239ddd7204826ba1572042558e6a9bbb2d469"), looks := true }, kinds := [], alts := [], laidByText := true, laidKinds := [.handle], laidTests := true, laidLooks := .later }
def CodecReadsCardSaid : Prop := Claim7.holds Tryz.pinned (.plain (OpenSpec.ofChange codecReadsSpec)) codecReadsCard

/-- THE TIED CARD OF 'spatelaw2.CodecTurns'. -/
def codecTurnsCard : Claim7 := { stood := { row := codecTurnsRow, standIns := [], harness := (true, "39e51b711ae55e3922822a9b2c9239ddd7204826ba1572042558e6a9bbb2d469"), looks := true }, kinds := [], alts := [], laidByText := true, laidKinds := [.handle], laidTests := true, laidLooks := .later }
def CodecTurnsCardSaid : Prop := Claim7.holds Tryz.pinned (.plain (OpenSpec.ofChange codecTurnsSpec)) codecTurnsCard

/-- THE TIED CARD OF 'spatelaw2.CodecBook'. -/
def codecBookCard : Claim7 := { stood := { row := codecBookRow, standIns := [], harness := (true, "39e51b711ae55e3922822a9b2c9239ddd7204826ba1572042558e6a9bbb2d469"), looks := true }, kinds := [], alts := [], laidByText := true, laidKinds := [.handle], laidTests := true, laidLooks := .later }
def CodecBookCardSaid : Prop := Claim7.holds Tryz.pinned (.plain (OpenSpec.ofChange codecBookSpec)) codecBookCard

/-- THE SECOND FORM's CARD OF 'spatelaw2.CodecReads'. -/
def codecReadsUptoCard : Claim7 := { stood := { row := codecReadsUptoRow, standIns := [], harness := (true, "39e51b711ae55e3922822a9b2c9239ddd7204826ba1572042558e6a9bbb2d469"), looks := true }, kinds := [], alts := [], laidByText := true, laidKinds := [.handle], laidTests := true, laidLooks := .later }
def CodecReadsUptoCardSaid : Prop := Claim7.holds Tryz.pinned (.plain (OpenSpec.upto codecReadsSpec)) codecReadsUptoCard

/-- THE SECOND FORM's CARD OF 'spatelaw2.CodecTurns'. -/
def codecTurnsUptoCard : Claim7 := { stood := { row := codecTurnsUptoRow, standIns := [], harness := (true, "39e51b711ae55e3922822a9b2c9239ddd7204826ba1572042558e6a9bbb2d469"), looks := true }, kinds := [], alts := [], laidByText := true, laidKinds := [.handle], laidTests := true, laidLooks := .later }
def CodecTurnsUptoCardSaid : Prop := Claim7.holds Tryz.pinned (.plain (OpenSpec.upto codecTurnsSpec)) codecTurnsUptoCard

/-- THE SECOND FORM's CARD OF 'spatelaw2.CodecBook'. -/
def codecBookUptoCard : Claim7 := { stood := { row := codecBookUptoRow, standIns := [], harness := (true, "39e51b711ae55e3922822a9b2c9239ddd7204826ba1572042558e6a9bbb2d469"), looks := true }, kinds := [], alts := [], laidByText := true, laidKinds := [.handle], laidTests := true, laidLooks := .later }
def CodecBookUptoCardSaid : Prop := Claim7.holds Tryz.pinned (.plain (OpenSpec.upto codecBookSpec)) codecBookUptoCard
end Rows
end Go.Proofs.YteffpfgdoganpaaGreatDoor
