import Derived.Test.YtfffjfhfafhfmaaGreatDoorV02
namespace Go.SN
open Go.Proofs
set_option maxRecDepth 100000
theorem rA485:rk 485 1:=by decide +kernel
theorem rA486:rk 486 1:=by decide +kernel
end Go.SN
