/- The document's CheckRequest: the walk. -/
import Derived.Test.YtglbdbghcdoicaaDoorCCheckRq
namespace Go.Proofs.YtglbdbghcdoicaaDoor
open Go.RowKit

end Go.Proofs.YtglbdbghcdoicaaDoor
