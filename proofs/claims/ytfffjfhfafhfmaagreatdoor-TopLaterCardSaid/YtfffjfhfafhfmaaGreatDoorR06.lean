/- A part of the proofs of the statements TopLater and TopShadowed: contracts of functions, checked by evaluation. -/
import Derived.Test.YtfffjfhfafhfmaaGreatDoorV02
namespace Go.SN
open Go.Proofs
set_option maxRecDepth 100000
theorem rA187:rk 187 6:=by decide +kernel
theorem rA193:rk 193 2:=by decide +kernel
theorem rA195:rk 195 1:=by decide +kernel
end Go.SN
