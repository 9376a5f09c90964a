import Derived.Test.YtfffjfhfafhfmaaGreatDoorV00
import Derived.Test.YtfffjfhfafhfmaaGreatDoorV10
set_option linter.all false
namespace Go.SB
section
open Go Go.PV Go.SN Go.PV.JS Go.Proofs
open Go.SE
noncomputable section
theorem Qwo:Qwi 50 1=true:=by decide +kernel
theorem Qwp:Qwi 51 1=true:=by decide +kernel
theorem Qwq:Qwi 52 1=true:=by decide +kernel
theorem Qwr:Qwi 53 1=true:=by decide +kernel
theorem Qws:Qwi 54 1=true:=by decide +kernel
theorem Qwt:Qwi 55 1=true:=by decide +kernel
theorem Qwu:Qwi 56 1=true:=by decide +kernel
theorem Qwv:Qwi 57 1=true:=by decide +kernel
end
end
end Go.SB
