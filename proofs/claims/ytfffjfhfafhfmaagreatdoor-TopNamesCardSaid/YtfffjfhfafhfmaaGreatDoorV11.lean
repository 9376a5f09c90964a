import Derived.Test.YtfffjfhfafhfmaaGreatDoorV00
import Derived.Test.YtfffjfhfafhfmaaGreatDoorV10
set_option linter.all false
namespace Go.SB
section
open Go Go.PV Go.SN Go.PV.JS Go.Proofs
open Go.SE
noncomputable section
theorem Qwm:Qwi 33 11=true:=by decide +kernel
theorem Qwn:Qwi 44 6=true:=by decide +kernel
end
end
end Go.SB
