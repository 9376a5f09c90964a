import Derived.Test.YtfffjfhfafhfmaaGreatDoorV02
namespace Go.SN
open Go.Proofs
set_option maxRecDepth 100000
theorem rA401:rk 401 1:=by decide +kernel
theorem rA402:rk 402 6:=by decide +kernel
theorem rA408:rk 408 8:=by decide +kernel
theorem rA416:rk 416 5:=by decide +kernel
end Go.SN
