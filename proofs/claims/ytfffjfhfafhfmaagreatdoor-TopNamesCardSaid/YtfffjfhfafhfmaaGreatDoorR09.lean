import Derived.Test.YtfffjfhfafhfmaaGreatDoorV02
namespace Go.SN
open Go.Proofs
set_option maxRecDepth 100000
theorem rA218:rk 218 3:=by decide +kernel
theorem rA222:rk 222 1:=by decide +kernel
theorem rA223:rk 223 4:=by decide +kernel
theorem rA227:rk 227 2:=by decide +kernel
theorem rA229:rk 229 2:=by decide +kernel
theorem rA231:rk 231 1:=by decide +kernel
end Go.SN
