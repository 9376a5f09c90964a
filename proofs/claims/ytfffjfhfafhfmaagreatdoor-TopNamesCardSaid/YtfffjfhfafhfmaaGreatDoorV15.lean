import Derived.Deep.DeepHandedRow
import Derived.Lib.SmallJoins
import Derived.Test.YtfffjfhfafhfmaaGreatDoorCards
import Derived.Test.YtfffjfhfafhfmaaGreatDoorTie
import Derived.Test.YtfffjfhfafhfmaaGreatDoorV09
import Derived.Test.YtfffjfhfafhfmaaGreatDoorV14
set_option linter.all false
namespace Go.Proofs.YtfffjfhfafhfmaaGreatDoor.topNames
section
open Go.ChangeShapes Go.WideShapes Go.ChangeAt Go.RowKit
open Go.ChangeMaps (open_string shut_string)
open Go.Deep
theorem c7G:laidOutB Tryz.prog=true:=by kernel_rfl
set_option maxRecDepth 100000
theorem Qqa:ownKnob Tryz.prog.godebug=none:=by kernel_rfl
theorem c2K{H:Type}{enc:Nat×Value->H}{W:World}{base:Nat}{spare:Nat->Bool}{held:Bool}{u:Value}{d:DataW H}{p:List MemPlace}{b0:Nat}
  (hval:Value.okWide Tryz.prog W .any b0 22 u) (h:DataW.Trod enc Tryz.prog W base spare held 22 u d p):
  ∃v,PV.RepV (SN.d3O W) (λ _=>none) v u/\SN.InD SN.g0 SN.N0 (.sl false 9223372036854775807 (.int .u8 0 255)) v:=by
 obtain⟨A,L,C,rfl⟩:=okWide_slice al0 hval;obtain⟨fuel,h⟩:=h;rcases open_ints al0 am8 (by kernel_rfl) h with⟨h0,_⟩|⟨a,len,cap,zs,hcs,_,hl,hm,hz,_,hi,hw⟩
 .have h0:=List.cons.inj h0|>.1
  rw[h0];exact⟨.nils,.rep .nils,.nils (by omega)⟩
 .have hcs:=List.cons.inj hcs|>.1
  injection hcs with e1 e2 e3
  subst e1;subst e2;subst e3;have hsp:a.spot=none:=by
   have:Value.okWide Tryz.prog W .any b0 22 (.slice (some a) L C):=hval;simp only[Value.okWide,al0,Cell.okWide,Cell.ok]at this;exact this.2.2.2.1
  have hlz:L<=zs.length:=by rw[hz];split<;>omega
  have hlen:((zs.take L).map λ z=>PV.V.lit (.int .u8 z)).length=L:=by simp[hlz]
  have hx:∀(i:Nat) (x:PV.V),((zs.take L).map λ z=>PV.V.lit (.int .u8 z))[i]?=some x->i<L/\x= .lit (.int .u8 (zs.getD i 0)):=by
   intro i x hx;have hiL:i<L:=by
    have:=(ay0.1 hx).1;omega
   refine⟨hiL,?_⟩;simp[hiL,show i<zs.length by omega]at hx;rw[<-hx];simp[List.getD,show i<zs.length by omega]
  have hc:∀(i:Nat) (x:PV.V) (j:Nat) (c:PV.V),((zs.take L).map λ z=>PV.V.lit (.int .u8 z))[i]?=some x->x.cells[j]?=some c->i<L/\j=0/\c= .lit (.int .u8 (zs.getD i 0)):=by
   intro i x j c h1 h2;obtain⟨h3,rfl⟩:=hx i x h1;have h2:([PV.V.lit (.int .u8 (zs.getD i 0))]:List PV.V)[j]?=some c:=h2;cases j with
   |zero=>simp at h2;exact⟨h3,rfl,h2.symm⟩
   |succ j=>simp at h2
  refine⟨.sl none ((zs.take L).map λ z=> .lit (.int .u8 z)),?_,?_⟩
  .have:=PV.Rep.sl (M:=SN.d3O W) (own:=none) (xs:=(zs.take L).map λ z=>PV.V.lit (.int .u8 z)) (A:=a) (sz:=1) (cap:=C) (λ i _=> .int .u8 (zs.getD i 0)) (by rw[hlen];exact hl) hsp ?_ ?_ ?_
   .rw[hlen]at this
    exact .rep this
   .intro x hx
    obtain⟨z,_,rfl⟩:=ax5.1 hx;exact⟨rfl,rfl⟩
   .intro i x j c h1 h2
    obtain⟨h3,rfl,_⟩:=hc i x j c h1 h2;have:=hi i (by omega);obtain⟨ab,ao,asp⟩:=a;subst hsp;show W.cell? ⟨ab,ao+(i*1+0),none⟩=_;rw[show ao+(i*1+0)=ao+i by omega];by_cases hi0:i=0
    .subst hi0
     simpa[Addr.add]using this
    .simpa[Addr.add,hi0]using this
   .intro i x j c h1 h2
    obtain⟨_,_,rfl⟩:=hc i x j c h1 h2;exact .lit rfl
  .refine .sl ?_ ?_
   .rw[hlen]
    unfold maxLen at hm;omega
   .intro x hx
    obtain⟨z,hz,rfl⟩:=ax5.1 hx;have:=hw z (au4 hz);simp only[Lit.wf,az6,ay2]at this;exact .int this.1 this.2
theorem c7b(H:Type)(enc:Nat×Value->H)(W:World)(base:Nat)(args:Array Value)(ds gs:List (DataW H))(before:List MemPlace)
  (hval0:∀(j:Nat) t v,Tryz.f3.params[j]?=some t->args[j]?=some v->Value.okWide Tryz.prog W .any base t v)
  (hW:DataW.Whole enc Tryz.prog Tryz.f3.params.toList Rows.topNamesSpec.vars false W args.toList ds gs before) (hL:laidMetH Tryz.prog Rows.topNamesRow.laid W) (hS:W.ShapedOpen Tryz.prog):
  Calls Tryz.prog 3 args W λ e W'=>∃v,e= .returned v/\Rows.topNamesSpec.post enc Tryz.prog Tryz.f3 false true false false W args v W':=by
 have hval:∀(j:Nat) t v,Tryz.f3.params[j]?=some t->args[j]?=some v->Value.okWide Tryz.prog W .any base t v:=hval0;have hW':=hW;obtain⟨p,q,hA0,hV,rfl,hfz,hnd⟩:=hW;have hA:DataW.TrodAll enc Tryz.prog W 0 (λ _=>true) true Tryz.f3.params.toList args.toList ds p:=hA0;rw[Tryz.params3]at hA hval;obtain⟨v0,vs0,d0,Qtn,p0,q0,hargs,rfl,rfl,h0,r0⟩:=trodAll_cons hA;obtain⟨v1,vs1,d1,ds1,Qjt,q1,rfl,rfl,rfl,h1,r1⟩:=trodAll_cons r0;obtain⟨rfl,rfl,rfl⟩:=trodAll_nil r1;obtain rfl:args= #[v0,v1]:=by cases args;simp_all
 obtain⟨rfl,rfl⟩:=trodVars_none hV;obtain⟨sv,hr,hD⟩:=c2K (hval 0 22 v0 rfl rfl) h0;have hk0:=h0;obtain⟨n,rfl,rfl,rfl,w1⟩:=open_int Tryz.underlying23 (hval 1 23 v1 rfl rfl) h1;clear hA0 hval0;simp only[ap8]at hW';have hlt0:∀x∈p0,x.block<W.heap.size:=λ x hx=>by simpa using hW'.lt x (by simp[hx])
 have hn:0<=n/\n<=18446744073709551615:=by
  simp only[Lit.wf,az6,ay2]at w1;exact w1
 obtain⟨N,hN⟩:=SB.Qxv hD hn;obtain⟨hg,hs⟩:=d5J hL hS;have hx:PV.ListRep (SN.d3O W) (λ _=>none) [sv,.lit (.int .u64 n)] (#[v0,.int .u64 n]:Array Value).toList:=by
  refine⟨rfl,λ j c u hc hu=> ?_⟩
  match j with
  |0=>cases hc;cases hu;exact hr
  |1=>cases hc;cases hu;exact .rep (.lit rfl)
  |j+2=>cases hc
 have ha:∀x∈[sv,.lit (.int .u64 n)],PV.isD x:=by
  intro x hx;simp only[ay4,av0,ar1]at hx;rcases hx with rfl|rfl
  .exact SB.Qlx hD
  .exact PV.a2L nofun
 refine(SN.c3j hg hs hx ha hN).mono λ e W' ⟨he,bel⟩=> ?_;subst he;exact⟨_,rfl,_,_,_,[],_,[],hW',trodAll_mk1 (shut_bool Tryz.underlying4 _),(trodAll_cons_mk (Below.trod c7G (by kernel_rfl) (at8 (by kernel_rfl)) hk0 bel hlt0) (trodAll_cons_mk (shut_int Tryz.underlying23 w1) trodAll_mk0)),rfl,bel.frame _,λ h=>by cases h⟩
theorem d7i(os:Os){H:Type}(enc:Nat×Value->H):∃places,DataW.whole enc Tryz.prog ((a9Y os).forCall (λ _ _=>0) ⟨#[],#[.slice none 0 0,.int .u64 0],[]⟩).memory Tryz.f3.params.toList Rows.topNamesSpec.vars false (#[.slice none 0 0,.int .u64 0]:Array Value).toList 8=some ([.nil,.lit (.int .u64 0)],[],places):=
 ⟨[],by kernel_rfl⟩
theorem d4c(os:Os)(started:os.Started)(H:Type)(enc:Nat×Value->H)(F:Stop.Interp):
  ReturnsInHanded {} Tryz.checked os 3 .any ((OpenSpec.ofChange Rows.topNamesSpec).preRow enc Tryz.prog Tryz.f3 Rows.topNamesRow.domain false Rows.topNamesRow.laid) (((OpenSpec.ofChange Rows.topNamesSpec).at F).post enc Tryz.prog Tryz.f3 false true false false):=by
 obtain⟨places,hx⟩:=d7i os enc;refine returnsInHanded_of_row (C:=Tryz.checked) (s:=OpenSpec.ofChange Rows.topNamesSpec) Qqa started (by kernel_rfl) Tryz.func3
  (witness_row_at (enc:=enc) (C:=Tryz.checked) false (a9Y os) #[.slice none 0 0,.int .u64 0] rfl (by kernel_rfl) (by kernel_rfl) (by kernel_rfl)
   (OpenSpec.preRow_of_cond 8 hx (by kernel_rfl) (λ k hk=>by cases hk) (by kernel_rfl) (c8u os))) ?_
 intro W base args ds gs before hval hW _ _ _ hL hS _;exact c7b H enc W base args ds gs before hval hW hL hS
theorem d3P:joinedFacts Tryz.prog 3 Tryz.f3 (OpenSpec.ofChange Rows.topNamesSpec).bare Rows.topNamesRow=true:=by
 unfold joinedFacts;rewrite[<-Qcy,Qcz,Qda,<-Qdb]
 kernel_rfl
theorem d4u:Tryz.prog.funcNamed "webfinger/webfingertop.TopNames" =some 3:=by kernel_rfl
theorem d2b:false=Rows.topNamesRow.goesBy Tryz.pinned.checked.prog:=by
 have h:Tryz.prog.goesFrom "webfinger/webfingertop.TopNames" =false:=by
  unfold Program.goesFrom;rewrite[d4u,Option.any_some];exact Qdd
 have h2:Tryz.prog.goesAt .entering "webfinger/webfingertop.TopNames" =false:=by
  unfold Program.goesAt;rewrite[h];rfl
 exact h2.symm
theorem d9R:Rows.TopNamesSaid:=
 OpenClaim.holds_of_cond 3 Tryz.f3 rfl rfl rfl rfl rfl rfl rfl ⟨rfl,rfl,rfl,rfl,rfl⟩ rfl rfl rfl rfl rfl d4u Tryz.func3 d3P
  (at8 (by kernel_rfl)) (by unfold Func.isWrapper;first|(rw[ax3 (by decide +kernel)];kernel_rfl)|(rw[ay9 (by decide +kernel)];exact⟨rfl,rfl⟩))
  (λ os started H enc _ F=>by rw[OpenClaim.pre_eq_preRow];exact d4c os started H enc F)
theorem b4R(f:Nat)(fn:Func)(hf:Tryz.pinned.checked.prog.funcNamed "webfinger/webfingertop.TopNames" =some f)(hfn:Tryz.pinned.checked.prog.funcs[f]?=some fn):
  false=Tryz.pinned.checked.prog.looks []/\∀(j:Nat) t,fn.params[j]?=some t->Tryz.pinned.checked.prog.wantsStandIn t=false:=by
 obtain rfl:f=3:=ax8 ((show Tryz.prog.funcNamed "webfinger/webfingertop.TopNames" =some 3 by kernel_rfl).symm.trans hf)|>.symm;obtain rfl:fn=Tryz.f3:=(ax8 (Tryz.func3.symm.trans hfn)).symm;refine⟨by kernel_rfl,λ j t ht=> ?_⟩;rw[Tryz.params3]at ht;have hm:t∈[22,23]:=by simpa using Array.mem_of_getElem? ht
 have hall:([22,23].all λ u=> !Tryz.prog.wantsStandIn u)=true:=by kernel_rfl
 exact(show Tryz.prog.wantsStandIn t=false by simpa using ay5.1 hall t hm)
theorem proved:Rows.TopNamesCardSaid:=
 Claim7.holds_tied_plain_at .later [] _ _ _ _ d9R (λ _ h=>by cases h) (by kernel_rfl) (λ _ h=>by cases h) topNames_row_tie rfl ⟨rfl,rfl⟩ (by kernel_rfl) rfl b4R d2b
end
end Go.Proofs.YtfffjfhfafhfmaaGreatDoor.topNames
