import Derived.Test.YtfffjfhfafhfmaaGreatDoorV02
namespace Go.SN
open Go.Proofs
set_option maxRecDepth 100000
theorem rA275:rk 275 1:=by decide +kernel
theorem rA276:rk 276 8:=by decide +kernel
theorem rA284:rk 284 8:=by decide +kernel
theorem rA292:rk 292 4:=by decide +kernel
theorem rA296:rk 296 11:=by decide +kernel
theorem rA307:rk 307 3:=by decide +kernel
theorem rA310:rk 310 8:=by decide +kernel
theorem rA318:rk 318 5:=by decide +kernel
theorem rA323:rk 323 4:=by decide +kernel
theorem rA327:rk 327 1:=by decide +kernel
end Go.SN
