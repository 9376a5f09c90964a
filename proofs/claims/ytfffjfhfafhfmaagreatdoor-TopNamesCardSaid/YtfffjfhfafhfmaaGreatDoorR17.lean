import Derived.Test.YtfffjfhfafhfmaaGreatDoorV02
namespace Go.SN
open Go.Proofs
set_option maxRecDepth 100000
theorem rA421:rk 421 1:=by decide +kernel
theorem rA422:rk 422 4:=by decide +kernel
theorem rA426:rk 426 1:=by decide +kernel
theorem rA427:rk 427 6:=by decide +kernel
theorem rA433:rk 433 7:=by decide +kernel
theorem rA440:rk 440 5:=by decide +kernel
theorem rA446:rk 446 2:=by decide +kernel
end Go.SN
