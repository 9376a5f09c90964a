import Derived.Test.YtfffjfhfafhfmaaGreatDoorV02
namespace Go.SN
open Go.Proofs
set_option maxRecDepth 100000
theorem rA362:rk 362 1:=by decide +kernel
theorem rA363:rk 363 5:=by decide +kernel
theorem rA368:rk 368 5:=by decide +kernel
theorem rA373:rk 373 1:=by decide +kernel
theorem rA374:rk 374 5:=by decide +kernel
theorem rA379:rk 379 5:=by decide +kernel
end Go.SN
