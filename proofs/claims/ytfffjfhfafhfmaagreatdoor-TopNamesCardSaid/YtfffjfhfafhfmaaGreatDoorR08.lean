import Derived.Test.YtfffjfhfafhfmaaGreatDoorV02
namespace Go.SN
open Go.Proofs
set_option maxRecDepth 100000
theorem rA197:rk 197 1:=by decide +kernel
theorem rA198:rk 198 8:=by decide +kernel
theorem rA206:rk 206 2:=by decide +kernel
theorem rA208:rk 208 10:=by decide +kernel
end Go.SN
