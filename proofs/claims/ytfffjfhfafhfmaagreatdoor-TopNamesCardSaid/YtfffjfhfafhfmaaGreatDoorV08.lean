import Derived.Test.YtfffjfhfafhfmaaGreatDoorV00
import Derived.Test.YtfffjfhfafhfmaaGreatDoorV06
import Derived.Test.YtfffjfhfafhfmaaGreatDoorV03
set_option linter.all false
namespace Go.SE
section
open Go Go.PV Go.SN Go.Proofs Go.PV.JS
set_option maxRecDepth 10000
theorem e0j:a4h P0 29=some (.agg [iV 0,sV ⟨#[]⟩,sV ⟨#[]⟩,iV 0]):=by rfl
theorem d9J:a1M P0 29=some 4:=by rfl
theorem e0g:b4T P0 29=some true:=by rfl
theorem d9L:a2G P0 33=some 29:=by rfl
def idK:List Kd:=[.int .i64,.str,.str,.int .i64]
theorem d9U:d6e P0 29 idK idK=true:=by decide+kernel
def IsId(v:V):Prop:=∃k s h p,v= .agg [iV k,sV s,sV h,iV p]
theorem IsId.kl{v:V}(h:IsId v):∃cs,v= .agg cs/\Kl idK cs:=by
 obtain⟨k,s,h,p,rfl⟩:=h;refine⟨_,rfl,[.int .i64 k,.string s,.string h,.int .i64 p],rfl,rfl,λ j a u ha hu=> ?_⟩
 match j with
 |0=>simp[idK]at ha hu;subst ha;subst hu;exact⟨_,rfl⟩
 |1=>simp[idK]at ha hu;subst ha;subst hu;exact⟨_,rfl⟩
 |2=>simp[idK]at ha hu;subst ha;subst hu;exact⟨_,rfl⟩
 |3=>simp[idK]at ha hu;subst ha;subst hu;exact⟨_,rfl⟩
 |j+4=>grind
section
attribute [local simp] a0K a0I a0v a0V a1h a1F opE ev evs evo a0D a2H a0u a0m St.get St.put tgp tgl a1w a0Z sc a0W a1b a0E a3B a1K a6x lenOf a2u am5 Tryz.underlying29 Tryz.underlying33 a0b V.fit a5z anb a4Z bT V.cells storeAt setCells a3a a3b fill e0j d9J e0g d9L a0r
variable {h s:ByteArray} {k p:Int} {c:List V} {i n:Nat} {call:PV.Calls} {l:St} {y:V}
variable {b:St}
variable {f:List V}
end
section
variable {prim:Nat->Option Fp} {inl:Nat->Bool}
theorem a9P{k:Nat}{xs:List V}{v:V}{m:Nat}(hp:prim k=none)(h:RC P0 prim inl k xs v):∃N,m<=N/\a7O P0 (a0d P0 prim inl N) N k xs []=some (v,[]):=by
 obtain⟨M,hM⟩:=h;refine⟨max M m,ar6 _ _,b8S hp ?_⟩;exact(a0L (P:=P0) (prim:=prim) (inl:=inl) (by omega:M<=max M m+1)).cbv _ _ _ _ hM
end
end
end Go.SE
