import Derived.Test.YtfffjfhfafhfmaaGreatDoorV02
import Derived.Test.YtfffjfhfafhfmaaGreatDoorV06
namespace Go.SN
open Go.Proofs
set_option maxRecDepth 100000
theorem pA0:rowPart Tryz.prog prL inlS aI rows 445 0=true:=by decide +kernel
theorem pA1:rowPart Tryz.prog prL inlS aI rows 445 1=true:=by decide +kernel
theorem pA3:rowPart Tryz.prog prL inlS aI rows 445 3=true:=by decide +kernel
theorem pA5:rowPart Tryz.prog prL inlS aI rows 445 5=true:=by decide +kernel
end Go.SN
