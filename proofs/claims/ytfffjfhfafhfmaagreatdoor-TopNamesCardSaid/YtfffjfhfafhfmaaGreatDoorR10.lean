import Derived.Test.YtfffjfhfafhfmaaGreatDoorV02
namespace Go.SN
open Go.Proofs
set_option maxRecDepth 100000
theorem rA232:rk 232 1:=by decide +kernel
theorem rA233:rk 233 10:=by decide +kernel
theorem rA243:rk 243 6:=by decide +kernel
theorem rA249:rk 249 5:=by decide +kernel
theorem rA254:rk 254 10:=by decide +kernel
theorem rA264:rk 264 3:=by decide +kernel
theorem rA267:rk 267 6:=by decide +kernel
theorem rA273:rk 273 2:=by decide +kernel
end Go.SN
