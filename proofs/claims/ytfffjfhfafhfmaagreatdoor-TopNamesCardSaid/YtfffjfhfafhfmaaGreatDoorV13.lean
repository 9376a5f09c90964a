import Derived.Test.YtfffjfhfafhfmaaGreatDoorV00
import Derived.Test.YtfffjfhfafhfmaaGreatDoorV10
set_option linter.all false
namespace Go.SB
section
open Go Go.PV Go.SN Go.PV.JS Go.Proofs
open Go.SE
noncomputable section
theorem Qww:Qwi 58 1=true:=by decide +kernel
theorem Qwx:Qwi 59 1=true:=by decide +kernel
theorem Qwy:Qwi 60 1=true:=by decide +kernel
theorem Qwz:Qwi 61 1=true:=by decide +kernel
theorem Qxa:Qwi 62 1=true:=by decide +kernel
theorem Qxb:Qwi 63 1=true:=by decide +kernel
theorem Qxc:Qwi 64 1=true:=by decide +kernel
theorem Qxd:Qwi 65 1=true:=by decide +kernel
end
end
end Go.SB
