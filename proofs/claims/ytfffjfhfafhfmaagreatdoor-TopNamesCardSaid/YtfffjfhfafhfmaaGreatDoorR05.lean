import Derived.Test.YtfffjfhfafhfmaaGreatDoorV02
namespace Go.SN
open Go.Proofs
set_option maxRecDepth 100000
theorem rA178:rk 178 1:=by decide +kernel
theorem rA179:rk 179 8:=by decide +kernel
theorem rA187:rk 187 6:=by decide +kernel
theorem rA193:rk 193 2:=by decide +kernel
end Go.SN
