/- A part of the proof of TopLater: the law returns true for every input. No conditions. -/
import Derived.Deep.DeepHandedRow
import Derived.Lib.SmallJoins
import Derived.Test.YtfffjfhfafhfmaaGreatDoorCards
import Derived.Test.YtfffjfhfafhfmaaGreatDoorTie
import Derived.Test.YtfffjfhfafhfmaaGreatDoorV09
import Derived.Test.YtfffjfhfafhfmaaGreatDoorV10
set_option linter.all false
namespace Go.Proofs.YtfffjfhfafhfmaaGreatDoor.topLater
section
open Go.ChangeShapes Go.WideShapes Go.ChangeAt Go.RowKit
open Go.ChangeMaps (open_string shut_string)
open Go.Deep
theorem c7G:laidOutB Tryz.prog=true:=by kernel_rfl
set_option maxRecDepth 100000
theorem own:ownKnob Tryz.prog.godebug=none:=by kernel_rfl
theorem c2K{H:Type}{enc:Nat×Value->H}{W:World}{base:Nat}{spare:Nat->Bool}{held:Bool}{u:Value}{d:DataW H}{p:List MemPlace}{b0:Nat}
  (hval:Value.okWide Tryz.prog W .any b0 22 u) (h:DataW.Trod enc Tryz.prog W base spare held 22 u d p):
  ∃v,PV.RepV (SN.d3O W) (λ _=>none) v u/\SN.InD SN.g0 SN.N0 (.sl false 9223372036854775807 (.int .u8 0 255)) v:=by
 obtain⟨A,L,C,rfl⟩:=okWide_slice al0 hval;obtain⟨fuel,h⟩:=h;rcases open_ints al0 am8 (by kernel_rfl) h with⟨h0,_⟩|⟨a,len,cap,zs,hcs,_,hl,hm,hz,_,hi,hw⟩
 .have h0:=List.cons.inj h0|>.1
  rw[h0];exact⟨.nils,.rep .nils,.nils (by omega)⟩
 .have hcs:=List.cons.inj hcs|>.1
  injection hcs with e1 e2 e3
  subst e1;subst e2;subst e3;have hsp:a.spot=none:=by
   have:Value.okWide Tryz.prog W .any b0 22 (.slice (some a) L C):=hval;simp only[Value.okWide,al0,Cell.okWide,Cell.ok]at this;exact this.2.2.2.1
  have hlz:L<=zs.length:=by rw[hz];split<;>omega
  have hlen:((zs.take L).map λ z=>PV.V.lit (.int .u8 z)).length=L:=by simp[hlz]
  have hx:∀(i:Nat) (x:PV.V),((zs.take L).map λ z=>PV.V.lit (.int .u8 z))[i]?=some x->i<L/\x= .lit (.int .u8 (zs.getD i 0)):=by
   intro i x hx;have hiL:i<L:=by
    have:=(ay0.1 hx).1;omega
   refine⟨hiL,?_⟩;simp[hiL,show i<zs.length by omega]at hx;rw[<-hx];simp[List.getD,show i<zs.length by omega]
  have hc:∀(i:Nat) (x:PV.V) (j:Nat) (c:PV.V),((zs.take L).map λ z=>PV.V.lit (.int .u8 z))[i]?=some x->x.cells[j]?=some c->i<L/\j=0/\c= .lit (.int .u8 (zs.getD i 0)):=by
   intro i x j c h1 h2;obtain⟨h3,rfl⟩:=hx i x h1;have h2:([PV.V.lit (.int .u8 (zs.getD i 0))]:List PV.V)[j]?=some c:=h2;cases j with
   |zero=>simp at h2;exact⟨h3,rfl,h2.symm⟩
   |succ j=>simp at h2
  refine⟨.sl none ((zs.take L).map λ z=> .lit (.int .u8 z)),?_,?_⟩
  .have:=PV.Rep.sl (M:=SN.d3O W) (own:=none) (xs:=(zs.take L).map λ z=>PV.V.lit (.int .u8 z)) (A:=a) (sz:=1) (cap:=C) (λ i _=> .int .u8 (zs.getD i 0)) (by rw[hlen];exact hl) hsp ?_ ?_ ?_
   .rw[hlen]at this
    exact .rep this
   .intro x hx
    obtain⟨z,_,rfl⟩:=ax5.1 hx;exact⟨rfl,rfl⟩
   .intro i x j c h1 h2
    obtain⟨h3,rfl,_⟩:=hc i x j c h1 h2;have:=hi i (by omega);obtain⟨ab,ao,asp⟩:=a;subst hsp;show W.cell? ⟨ab,ao+(i*1+0),none⟩=_;rw[show ao+(i*1+0)=ao+i by omega];by_cases hi0:i=0
    .subst hi0
     simpa[Addr.add]using this
    .simpa[Addr.add,hi0]using this
   .intro i x j c h1 h2
    obtain⟨_,_,rfl⟩:=hc i x j c h1 h2;exact .lit rfl
  .refine .sl ?_ ?_
   .rw[hlen]
    unfold maxLen at hm;omega
   .intro x hx
    obtain⟨z,hz,rfl⟩:=ax5.1 hx;have:=hw z (au4 hz);simp only[Lit.wf,az6,ay2]at this;exact .int this.1 this.2
theorem c7b(H:Type)(enc:Nat×Value->H)(W:World)(base:Nat)(args:Array Value)(ds gs:List (DataW H))(before:List MemPlace)
  (hval0:∀(j:Nat) t v,Tryz.f5.params[j]?=some t->args[j]?=some v->Value.okWide Tryz.prog W .any base t v)
  (hW:DataW.Whole enc Tryz.prog Tryz.f5.params.toList Rows.topLaterSpec.vars false W args.toList ds gs before) (hL:laidMetH Tryz.prog Rows.topLaterRow.laid W) (hS:W.ShapedOpen Tryz.prog):
  Calls Tryz.prog 5 args W λ e W'=>∃v,e= .returned v/\Rows.topLaterSpec.post enc Tryz.prog Tryz.f5 false true false false W args v W':=by
 have hval:∀(j:Nat) t v,Tryz.f5.params[j]?=some t->args[j]?=some v->Value.okWide Tryz.prog W .any base t v:=hval0;have hW':=hW;obtain⟨p,q,hA0,hV,rfl,hfz,hnd⟩:=hW;have hA:DataW.TrodAll enc Tryz.prog W 0 (λ _=>true) true Tryz.f5.params.toList args.toList ds p:=hA0;rw[Tryz.params5]at hA hval;obtain⟨v0,vs0,d0,ds0,p0,q0,hargs,rfl,rfl,h0,r0⟩:=trodAll_cons hA;obtain⟨v1,vs1,d1,ds1,Qjt,q1,rfl,rfl,rfl,h1,r1⟩:=trodAll_cons r0;obtain⟨v2,vs2,d2,ds2,Qjv,q2,rfl,rfl,rfl,h2,r2⟩:=trodAll_cons r1;obtain⟨v3,vs3,d3,ds3,p3,q3,rfl,rfl,rfl,h3,r3⟩:=trodAll_cons r2;obtain⟨rfl,rfl,rfl⟩:=trodAll_nil r3;obtain rfl:args= #[v0,v1,v2,v3]:=by cases args;simp_all
 obtain⟨rfl,rfl⟩:=trodVars_none hV;obtain⟨sv,hr,hD⟩:=c2K (hval 0 22 v0 rfl rfl) h0;have hk0:=h0;obtain⟨n,rfl,rfl,rfl,w1⟩:=open_int Tryz.underlying23 (hval 1 23 v1 rfl rfl) h1;obtain⟨m,rfl,rfl,rfl,w2⟩:=open_int Tryz.underlying23 (hval 2 23 v2 rfl rfl) h2;obtain⟨ov,ho,oD⟩:=c2K (hval 3 22 v3 rfl rfl) h3;have hk3:=h3;clear hA0 hval0;simp only[ap8]at hW';have hlt0:∀x∈p0,x.block<W.heap.size:=λ x hx=>by simpa using hW'.lt x (by simp[hx])
 have hlt3:∀x∈p3,x.block<W.heap.size:=λ x hx=>by simpa using hW'.lt x (by simp[hx])
 have hn:0<=n/\n<=18446744073709551615:=by
  simp only[Lit.wf,az6,ay2]at w1;exact w1
 have hm:0<=m/\m<=18446744073709551615:=by
  simp only[Lit.wf,az6,ay2]at w2;exact w2
 obtain⟨N,hN⟩:=SB.Qdz hD oD hn.1 hn.2 hm.1 hm.2;obtain⟨hg,hs⟩:=d5J hL hS;have hx:PV.ListRep (SN.d3O W) (λ _=>none) [sv,.lit (.int .u64 n),.lit (.int .u64 m),ov] (#[v0,.int .u64 n,.int .u64 m,v3]:Array Value).toList:=by
  refine⟨rfl,λ j c u hc hu=> ?_⟩
  match j with
  |0=>cases hc;cases hu;exact hr
  |1=>cases hc;cases hu;exact .rep (.lit rfl)
  |2=>cases hc;cases hu;exact .rep (.lit rfl)
  |3=>cases hc;cases hu;exact ho
  |j+4=>cases hc
 have ha:∀x∈[sv,.lit (.int .u64 n),.lit (.int .u64 m),ov],PV.isD x:=by
  intro x hx;simp only[ay4,av0,ar1]at hx;rcases hx with rfl|rfl|rfl|rfl
  .exact SB.Qlx hD
  .exact PV.a2L nofun
  .exact PV.a2L nofun
  .exact SB.Qlx oD
 refine(SN.c3j hg hs hx ha hN).mono λ e W' ⟨he,bel⟩=> ?_;subst he;exact⟨_,rfl,_,_,_,[],_,[],hW',trodAll_mk1 (shut_bool Tryz.underlying4 _),(trodAll_cons_mk (Below.trod c7G (by kernel_rfl) (at8 (by kernel_rfl)) hk0 bel hlt0) (trodAll_cons_mk (shut_int Tryz.underlying23 w1) (trodAll_cons_mk (shut_int Tryz.underlying23 w2) (trodAll_cons_mk (Below.trod c7G (by kernel_rfl) (at8 (by kernel_rfl)) hk3 bel hlt3) trodAll_mk0)))),rfl,bel.frame _,λ h=>by cases h⟩
theorem d7i(os:Os){H:Type}(enc:Nat×Value->H):∃places,DataW.whole enc Tryz.prog ((a9Y os).forCall (λ _ _=>0) ⟨#[],#[.slice none 0 0,.int .u64 0,.int .u64 0,.slice none 0 0],[]⟩).memory Tryz.f5.params.toList Rows.topLaterSpec.vars false (#[.slice none 0 0,.int .u64 0,.int .u64 0,.slice none 0 0]:Array Value).toList 8=some ([.nil,.lit (.int .u64 0),.lit (.int .u64 0),.nil],[],places):=
 ⟨[],by kernel_rfl⟩
theorem d4c(os:Os)(started:os.Started)(H:Type)(enc:Nat×Value->H)(F:Stop.Interp):
  ReturnsInHanded {} Tryz.checked os 5 .any ((OpenSpec.ofChange Rows.topLaterSpec).preRow enc Tryz.prog Tryz.f5 Rows.topLaterRow.domain false Rows.topLaterRow.laid) (((OpenSpec.ofChange Rows.topLaterSpec).at F).post enc Tryz.prog Tryz.f5 false true false false):=by
 obtain⟨places,hx⟩:=d7i os enc;refine returnsInHanded_of_row (C:=Tryz.checked) (s:=OpenSpec.ofChange Rows.topLaterSpec) own started (by kernel_rfl) Tryz.func5
  (witness_row_at (enc:=enc) (C:=Tryz.checked) false (a9Y os) #[.slice none 0 0,.int .u64 0,.int .u64 0,.slice none 0 0] rfl (by kernel_rfl) (by kernel_rfl) (by kernel_rfl)
   (OpenSpec.preRow_of_cond 8 hx (by kernel_rfl) (λ k hk=>by cases hk) (by kernel_rfl) (c8u os))) ?_
 intro W base args ds gs before hval hW _ _ _ hL hS _;exact c7b H enc W base args ds gs before hval hW hL hS
theorem d3P:joinedFacts Tryz.prog 5 Tryz.f5 (OpenSpec.ofChange Rows.topLaterSpec).bare Rows.topLaterRow=true:=by
 unfold joinedFacts;rewrite[<-Qcy,Qcz,Qda,<-Qdb]
 kernel_rfl
theorem d4u:Tryz.prog.funcNamed "webfinger/webfingertop.TopLater" =some 5:=by kernel_rfl
theorem d2b:false=Rows.topLaterRow.goesBy Tryz.pinned.checked.prog:=by
 have h:Tryz.prog.goesFrom "webfinger/webfingertop.TopLater" =false:=by
  unfold Program.goesFrom;rewrite[d4u,Option.any_some];exact Qdd
 have h2:Tryz.prog.goesAt .entering "webfinger/webfingertop.TopLater" =false:=by
  unfold Program.goesAt;rewrite[h];rfl
 exact h2.symm
theorem d9R:Rows.TopLaterSaid:=
 OpenClaim.holds_of_cond 5 Tryz.f5 rfl rfl rfl rfl rfl rfl rfl ⟨rfl,rfl,rfl,rfl,rfl⟩ rfl rfl rfl rfl rfl d4u Tryz.func5 d3P
  (at8 (by kernel_rfl)) (by unfold Func.isWrapper;first|(rw[ax3 (by decide +kernel)];kernel_rfl)|(rw[ay9 (by decide +kernel)];exact⟨rfl,rfl⟩))
  (λ os started H enc _ F=>by rw[OpenClaim.pre_eq_preRow];exact d4c os started H enc F)
theorem b4R(f:Nat)(fn:Func)(hf:Tryz.pinned.checked.prog.funcNamed "webfinger/webfingertop.TopLater" =some f)(hfn:Tryz.pinned.checked.prog.funcs[f]?=some fn):
  false=Tryz.pinned.checked.prog.looks []/\∀(j:Nat) t,fn.params[j]?=some t->Tryz.pinned.checked.prog.wantsStandIn t=false:=by
 obtain rfl:f=5:=ax8 ((show Tryz.prog.funcNamed "webfinger/webfingertop.TopLater" =some 5 by kernel_rfl).symm.trans hf)|>.symm;obtain rfl:fn=Tryz.f5:=(ax8 (Tryz.func5.symm.trans hfn)).symm;refine⟨by kernel_rfl,λ j t ht=> ?_⟩;rw[Tryz.params5]at ht;have hm:t∈[22,23,23,22]:=by simpa using Array.mem_of_getElem? ht
 have hall:([22,23,23,22].all λ u=> !Tryz.prog.wantsStandIn u)=true:=by kernel_rfl
 exact(show Tryz.prog.wantsStandIn t=false by simpa using ay5.1 hall t hm)
theorem proved:Rows.TopLaterCardSaid:=
 Claim7.holds_tied_plain_at .later [] _ _ _ _ d9R (λ _ h=>by cases h) (by kernel_rfl) (λ _ h=>by cases h) topLater_row_tie rfl ⟨rfl,rfl⟩ (by kernel_rfl) rfl b4R d2b
end
end Go.Proofs.YtfffjfhfafhfmaaGreatDoor.topLater
