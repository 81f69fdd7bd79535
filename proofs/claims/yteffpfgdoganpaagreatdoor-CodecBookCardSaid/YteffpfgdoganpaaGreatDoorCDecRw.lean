/- DecodeResponse: joined. -/
import Derived.Test.YteffpfgdoganpaaGreatDoorCDecRs
import Derived.Test.YteffpfgdoganpaaGreatDoorCDecRt
import Derived.Test.YteffpfgdoganpaaGreatDoorCDecRv
namespace Go.Proofs.YteffpfgdoganpaaGreatDoor
open Go.RowKit

theorem decode_rs (A : Option Addr) (n c : Nat) (xs : List Int) (W : World) (hl : xs.length = n) (h : CellsAt W A (bvs xs)) (hw : ∀ x ∈ xs, (Lit.int .u8 x).wf = true) (hn : n ≤ 211106232532992) (hT : W.cell? ⟨0, 0, none⟩ = some tyErr) :
    Calls Tryz.prog 9 #[.slice A n c] W (DesQ W (decRs xs)) := by
  obtain k | k | k | k | k | k : ((kindD xs).1 < 1 ∨ 5 < (kindD xs).1) ∨ (kindD xs).1 = 1 ∨ (kindD xs).1 = 2 ∨ (kindD xs).1 = 3 ∨ (kindD xs).1 = 4 ∨ (kindD xs).1 = 5 := by omega
  · exact decode_rs_none A n c xs k W hl h hw hn hT
  · exact decode_rs_rows A n c xs k W hl h hw hn hT
  · exact decode_rs_epoch A n c xs k W hl h hw hn hT
  · exact decode_rs_done A n c xs k W hl h hw hn hT
  · exact decode_rs_stats A n c xs k W hl h hw hn hT
  · exact decode_rs_error A n c xs k W hl h hw hn hT
end Go.Proofs.YteffpfgdoganpaaGreatDoor
