/-
  DERIVED. GIVEN WITH THE SEED: THE CARDS: each row of YteffpfgdoganpaaDoorRows.lean that lists a variable, with what it lists TIED to the program's text (the seventh form; the later family's looks); each row that meets fmt, with fmt's text TOLD by the authors' own Lean function (tested against real Go, not proved from fmt's source: count such statements apart). THE CARD IS WHAT COUNTS. Prove the row's statement (the work); the ties are given (YteffpfgdoganpaaDoorTie.lean); close each card by the builder's one call (the guide's Derived/Test/ToyasCard.lean, 'card_holds'). Laid BY PROGRAM, IN A SANDBOX (cutbox-door.mjs). By AI agents, Wed Nov 11 2026. No macro, syntax, notation, axiom, sorry.
-/
import Derived.Test.YteffpfgdoganpaaDoorRows
import GoSem.ClaimSeven
namespace Go.Proofs.YteffpfgdoganpaaDoor
namespace Rows

/-- THE TIED CARD OF 'spatelaw2.CodecChecks'. -/
def codecChecksCard : Claim7 := { stood := { row := codecChecksRow, standIns := [], harness := (true, "dbde39ae187d9fdd10135f2eefe57d1252aa477f52fd6a3890d3d52e3cbc3b01"), looks := true }, kinds := [], alts := [], laidByText := true, laidKinds := [.handle], laidTests := true, laidLooks := .later }
def CodecChecksCardSaid : Prop := Claim7.holds Tryd.pinned (.plain (OpenSpec.ofChange codecChecksSpec)) codecChecksCard

/-- THE TIED CARD OF 'spatelaw2.CodecWrites'. -/
def codecWritesCard : Claim7 := { stood := { row := codecWritesRow, standIns := [], harness := (true, "dbde39ae187d9fdd10135f2eefe57d1252aa477f52fd6a3890d3d52e3cbc3b01"), looks := true }, kinds := [], alts := [], laidByText := true, laidKinds := [.handle], laidTests := true, laidLooks := .later }
def CodecWritesCardSaid : Prop := Claim7.holds Tryd.pinned (.plain (OpenSpec.ofChange codecWritesSpec)) codecWritesCard

/-- THE TIED CARD OF 'spatelaw2.CodecBack'. -/
def codecBackCard : Claim7 := { stood := { row := codecBackRow, standIns := [], harness := (true, "dbde39ae187d9fdd10135f2eefe57d1252aa477f52fd6a3890d3d52e3cbc3b01"), looks := true }, kinds := [], alts := [], laidByText := true, laidKinds := [.handle], laidTests := true, laidLooks := .later }
def CodecBackCardSaid : Prop := Claim7.holds Tryd.pinned (.plain (OpenSpec.ofChange codecBackSpec)) codecBackCard

/-- THE TIED CARD OF 'spatelaw2.CodecForm'. -/
def codecFormCard : Claim7 := { stood := { row := codecFormRow, standIns := [], harness := (true, "dbde39ae187d9fdd10135f2eefe57d1252aa477f52fd6a3890d3d52e3cbc3b01"), looks := true }, kinds := [], alts := [], laidByText := true, laidKinds := [.handle], laidTests := true, laidLooks := .later }
def CodecFormCardSaid : Prop := Claim7.holds Tryd.pinned (.plain (OpenSpec.ofChange codecFormSpec)) codecFormCard

/-- THE TIED CARD OF 'spatelaw2.CodecUnlike'. -/
def codecUnlikeCard : Claim7 := { stood := { row := codecUnlikeRow, standIns := [], harness := (true, "dbde39ae187d9fdd10135f2eefe57d1252aa477f52fd6a3890d3d52e3cbc3b01"), looks := true }, kinds := [], alts := [], laidByText := true, laidKinds := [.handle], laidTests := true, laidLooks := .later }
def CodecUnlikeCardSaid : Prop := Claim7.holds Tryd.pinned (.plain (OpenSpec.ofChange codecUnlikeSpec)) codecUnlikeCard

/-- THE TIED CARD OF 'spatelaw2.CodecOwn'. -/
def codecOwnCard : Claim7 := { stood := { row := codecOwnRow, standIns := [], harness := (true, "dbde39ae187d9fdd10135f2eefe57d1252aa477f52fd6a3890d3d52e3cbc3b01"), looks := true }, kinds := [], alts := [], laidByText := true, laidKinds := [.handle], laidTests := true, laidLooks := .later }
def CodecOwnCardSaid : Prop := Claim7.holds Tryd.pinned (.plain (OpenSpec.ofChange codecOwnSpec)) codecOwnCard

/-- THE TIED CARD OF 'spatelaw2.CodecFronts'. -/
def codecFrontsCard : Claim7 := { stood := { row := codecFrontsRow, standIns := [], harness := (true, "dbde39ae187d9fdd10135f2eefe57d1252aa477f52fd6a3890d3d52e3cbc3b01"), looks := true }, kinds := [], alts := [], laidByText := true, laidKinds := [.handle], laidTests := true, laidLooks := .later }
def CodecFrontsCardSaid : Prop := Claim7.holds Tryd.pinned (.plain (OpenSpec.ofChange codecFrontsSpec)) codecFrontsCard

/-- THE SECOND FORM's CARD OF 'spatelaw2.CodecChecks'. -/
def codecChecksUptoCard : Claim7 := { stood := { row := codecChecksUptoRow, standIns := [], harness := (true, "dbde39ae187d9fdd10135f2eefe57d1252aa477f52fd6a3890d3d52e3cbc3b01"), looks := true }, kinds := [], alts := [], laidByText := true, laidKinds := [.handle], laidTests := true, laidLooks := .later }
def CodecChecksUptoCardSaid : Prop := Claim7.holds Tryd.pinned (.plain (OpenSpec.upto codecChecksSpec)) codecChecksUptoCard

/-- THE SECOND FORM's CARD OF 'spatelaw2.CodecWrites'. -/
def codecWritesUptoCard : Claim7 := { stood := { row := codecWritesUptoRow, standIns := [], harness := (true, "dbde39ae187d9fdd10135f2eefe57d1252aa477f52fd6a3890d3d52e3cbc3b01"), looks := true }, kinds := [], alts := [], laidByText := true, laidKinds := [.handle], laidTests := true, laidLooks := .later }
def CodecWritesUptoCardSaid : Prop := Claim7.holds Tryd.pinned (.plain (OpenSpec.upto codecWritesSpec)) codecWritesUptoCard

/-- THE SECOND FORM's CARD OF 'spatelaw2.CodecBack'. -/
def codecBackUptoCard : Claim7 := { stood := { row := codecBackUptoRow, standIns := [], harness := (true, "dbde39ae187d9fdd10135f2eefe57d1252aa477f52fd6a3890d3d52e3cbc3b01"), looks := true }, kinds := [], alts := [], laidByText := true, laidKinds := [.handle], laidTests := true, laidLooks := .later }
def CodecBackUptoCardSaid : Prop := Claim7.holds Tryd.pinned (.plain (OpenSpec.upto codecBackSpec)) codecBackUptoCard

/-- THE SECOND FORM's CARD OF 'spatelaw2.CodecForm'. -/
def codecFormUptoCard : Claim7 := { stood := { row := codecFormUptoRow, standIns := [], harness := (true, "dbde39ae187d9fdd10135f2eefe57d1252aa477f52fd6a3890d3d52e3cbc3b01"), looks := true }, kinds := [], alts := [], laidByText := true, laidKinds := [.handle], laidTests := true, laidLooks := .later }
def CodecFormUptoCardSaid : Prop := Claim7.holds Tryd.pinned (.plain (OpenSpec.upto codecFormSpec)) codecFormUptoCard

/-- THE SECOND FORM's CARD OF 'spatelaw2.CodecUnlike'. -/
def codecUnlikeUptoCard : Claim7 := { stood := { row := codecUnlikeUptoRow, standIns := [], harness := (true, "dbde39ae187d9fdd10135f2eefe57d1252aa477f52fd6a3890d3d52e3cbc3b01"), looks := true }, kinds := [], alts := [], laidByText := true, laidKinds := [.handle], laidTests := true, laidLooks := .later }
def CodecUnlikeUptoCardSaid : Prop := Claim7.holds Tryd.pinned (.plain (OpenSpec.upto codecUnlikeSpec)) codecUnlikeUptoCard

/-- THE SECOND FORM's CARD OF 'spatelaw2.CodecOwn'. -/
def codecOwnUptoCard : Claim7 := { stood := { row := codecOwnUptoRow, standIns := [], harness := (true, "dbde39ae187d9fdd10135f2eefe57d1252aa477f52fd6a3890d3d52e3cbc3b01"), looks := true }, kinds := [], alts := [], laidByText := true, laidKinds := [.handle], laidTests := true, laidLooks := .later }
def CodecOwnUptoCardSaid : Prop := Claim7.holds Tryd.pinned (.plain (OpenSpec.upto codecOwnSpec)) codecOwnUptoCard

/-- THE SECOND FORM's CARD OF 'spatelaw2.CodecFronts'. -/
def codecFrontsUptoCard : Claim7 := { stood := { row := codecFrontsUptoRow, standIns := [], harness := (true, "dbde39ae187d9fdd10135f2eefe57d1252aa477f52fd6a3890d3d52e3cbc3b01"), looks := true }, kinds := [], alts := [], laidByText := true, laidKinds := [.handle], laidTests := true, laidLooks := .later }
def CodecFrontsUptoCardSaid : Prop := Claim7.holds Tryd.pinned (.plain (OpenSpec.upto codecFrontsSpec)) codecFrontsUptoCard
end Rows
end Go.Proofs.YteffpfgdoganpaaDoor
