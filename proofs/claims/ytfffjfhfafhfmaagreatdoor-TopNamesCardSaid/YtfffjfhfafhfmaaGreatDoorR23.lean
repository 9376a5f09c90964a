import Derived.Test.YtfffjfhfafhfmaaGreatDoorV02
namespace Go.SN
open Go.Proofs
set_option maxRecDepth 100000
theorem rA498:rk 498 2:=by decide +kernel
theorem rA500:rk 500 1:=by decide +kernel
theorem rA501:rk 501 1:=by decide +kernel
end Go.SN
