import Derived.Test.YtfffjfhfafhfmaaGreatDoorV02
import Derived.Test.YtfffjfhfafhfmaaGreatDoorV06
namespace Go.SN
open Go.Proofs
set_option maxRecDepth 100000
theorem pA4:rowPart Tryz.prog prL inlS aI rows 445 4=true:=by decide +kernel
end Go.SN
