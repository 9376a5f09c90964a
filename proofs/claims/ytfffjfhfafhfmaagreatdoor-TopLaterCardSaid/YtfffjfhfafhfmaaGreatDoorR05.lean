/- A part of the proofs of the statements TopLater and TopShadowed: contracts of functions, checked by evaluation. -/
import Derived.Test.YtfffjfhfafhfmaaGreatDoorV02
namespace Go.SN
open Go.Proofs
set_option maxRecDepth 100000
theorem rA176:rk 176 1:=by decide +kernel
theorem rA177:rk 177 1:=by decide +kernel
theorem rA178:rk 178 1:=by decide +kernel
theorem rA179:rk 179 8:=by decide +kernel
end Go.SN
