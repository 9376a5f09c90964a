/- A part of the proof of the statement TopErrors: for every input the law returns true. -/
import Derived.Test.YtfffjfhfafhfmaaGreatDoorV00
import Derived.Test.YtfffjfhfafhfmaaGreatDoorV07
import Derived.Test.YtfffjfhfafhfmaaGreatDoorV08
import Derived.Test.YtfffjfhfafhfmaaGreatDoorV05
import Derived.Test.YtfffjfhfafhfmaaGreatDoorV09
import Derived.Test.YtfffjfhfafhfmaaGreatDoorV02
import Derived.Test.YtfffjfhfafhfmaaGreatDoorV03
import Derived.Shelf.Vars
import Derived.OpenShut
import Derived.Deep.Strs
import Derived.LaidLaws
set_option linter.all false
namespace Go.SE
section
open Go Go.PV Go.SN Go.Proofs
set_option maxRecDepth 100000
abbrev R0:Rel:=RC P0 a4w inlS
def c9Y(c:SumA)(xs:List Ar)(ps:List Sh):Bool:=d7d c xs&&c.posts.all λ p=>ps.any λ s=>d6x p.cs s p.res
theorem b0r{k:Nat}{c:SumA}{xs:List Ar}{ps:List Sh}(hh:a1p (λ N=>(Lp N).cbv) k c)(hc:c9Y c xs ps=true){a:List V}(hv:ShL (xs.map Ar.sh) a):∃v,R0 k a v/\∃s∈ps,ShOk s v:=by
 unfold c9Y at hc;rw[az6]at hc;obtain⟨v,h1,p,b,d⟩:=b9z hh hc.1 hv;obtain⟨s,e,f⟩:=ar4.1 (ay5.1 hc.2 p b);exact⟨v,h1,s,e,d s f⟩
def aId:Ar:= .agg [kI,.str 12573,.str 253,kI]
theorem d8G:c3u R0 d5X:=by
 intro k a p h xs hx;unfold d5X at h;split at h
 .simp only[az0,az8]at h;obtain⟨rfl,rfl⟩:=h;have:xs=[]:=ay7.1 hx.1.symm;subst this;exact⟨_,a68.2,_,az7.2 rfl,.lit⟩
 .simp only[az0,az8]at h;obtain⟨rfl,rfl⟩:=h;exact b0r (a8S 233 d8R (by omega) rfl) (xs:=[.cell (.sl false 9223372036854775807 (.int .u8 0 255))]) (by decide+kernel) hx
 .simp only[az0,az8]at h;obtain⟨rfl,rfl⟩:=h;exact b0r (a8S 462 d8J (by omega) rfl) (xs:=[.cell (.str 1099511627776)]) (by decide+kernel) hx
 .simp only[az0,az8]at h;obtain⟨rfl,rfl⟩:=h;exact b0r (a8S 493 d8U (by omega) rfl) (xs:=[.cell (.sl false 1048576 d6u),.cell kU,aId]) (by decide+kernel) hx
 .simp only[az0,az8]at h;obtain⟨rfl,rfl⟩:=h;exact b0r (a8S 430 d9q (by omega) rfl) (xs:=[.cell (.sl false 64 idD),aId]) (by decide+kernel) hx
 .simp only[az0,az8]at h;obtain⟨rfl,rfl⟩:=h;exact b0r (a8S 427 d9d (by omega) rfl) (xs:=[.agg [.bool,kU],.agg [.bool,kU]]) (by decide+kernel) hx
 .cases h
theorem d8o:d3A R0 d6L:=by
 intro k a h xs hx;unfold d6L at h;split at h
 .next e=>
  subst e;cases h;obtain⟨v,h1,_⟩:=b9z (a8S 496 d9r (by omega) rfl) (xa:=[.cell (.sl false 1048576 d6u),.cell kU,.cell (.str 1048576)]) (by decide+kernel) hx;exact⟨v,h1⟩
 .cases h
theorem c2z{d:List TD}{v:V}(h:ShOk (.agg (d.map .td)) v)(hd:d=[kI,.str 12573,.str 253,kI]\/d=[.int .i64 1 4,.str 12573,.str 253,kI]):IsId v:=by
 obtain⟨cs,rfl,h1,h2⟩:=b7J h;have hl:cs.length=4:=by rcases hd with rfl|rfl<;>exact h1.symm
 match cs,hl with
 |[a,b,c,e],_=>
  have ka:∃n,a= .lit (.int .i64 n):=by
   rcases hd with rfl|rfl<;>(have:=h2 0 _ a rfl rfl;cases this with|int _ _=>exact⟨_,rfl⟩)
  have kb:∃n,b= .lit (.string n):=by
   rcases hd with rfl|rfl<;>(have:=h2 1 _ b rfl rfl;cases this with|str _=>exact⟨_,rfl⟩)
  have kc:∃n,c= .lit (.string n):=by
   rcases hd with rfl|rfl<;>(have:=h2 2 _ c rfl rfl;cases this with|str _=>exact⟨_,rfl⟩)
  have ke:∃n,e= .lit (.int .i64 n):=by
   rcases hd with rfl|rfl<;>(have:=h2 3 _ e rfl rfl;cases this with|int _ _=>exact⟨_,rfl⟩)
  obtain⟨_,rfl⟩:=ka;obtain⟨_,rfl⟩:=kb;obtain⟨_,rfl⟩:=kc;obtain⟨_,rfl⟩:=ke;exact⟨_,_,_,_,rfl⟩
theorem d7U:c4q R0 d8w d5X:=by
 intro k a p xs v h hx hv;unfold d8w at h hv;split at h
 .next e=>
  subst e;rw[ax3 rfl]at hv;simp only[d5X,az0,az8]at h;obtain⟨rfl,rfl⟩:=h
  match xs,hx with
  |[L,i],hx=>
   obtain⟨hL,hi⟩:=ShL.cons.1 hx;obtain⟨hi,_⟩:=ShL.cons.1 hi;obtain⟨k,s,h,p,rfl⟩:=c2z (d:=[kI,.str 12573,.str 253,kI]) hi (.inl rfl);have hx':ShL ([Ar.cell (.sl false 64 idD),aId].map Ar.sh) [L,.agg [iV k,sV s,sV h,iV p]]:=hx;refine b1C rfl rfl rfl rfl ?_ ?_ ?_ hv
   .cases hL with
    |td hL=>
     cases hL with
     |nils _=>exact .inl rfl
     | @sl _ _ _ _ _ ys h1 h2=>refine .inr ⟨ys,rfl,λ y hy=>c2z (d:=[.int .i64 1 4,.str 12573,.str 253,kI]) ?_ (.inr rfl),by omega⟩;exact d0m (h2 y hy)
   .obtain⟨w,w1,_⟩:=b9z (a8S 404 d9o (by omega) rfl) (xa:=[.cell (.sl false 64 idD),aId]) (by decide+kernel) hx';exact⟨w,w1⟩
   .obtain⟨w,w1,_⟩:=b9z (a8S 403 d9c (by omega) rfl) (xa:=[.cell (.sl false 64 idD),aId]) (by decide+kernel) hx';exact⟨w,w1⟩
  |[],hx=>cases hx.1
  |[_],hx=>have:=hx.1;simp at this
  |_::_::_::_,hx=>have:=hx.1;simp at this
 .next e=>
  rw[ay9 e]at hv;exact hv
def thv(a b c:V):Nat->V
 |0=>a
 |1=>b
 |2=>c
 |_=> .nils
theorem b4N{c:V}(hs:InD g0 N0 (.sl false 9223372036854775807 (.int .u8 0 255)) c){n:Int}(h0:0<=n)(h1:n<=18446744073709551615){b:ByteArray}(hb:(b.size:Int)<=9223372036854775807):
  ∃N,(a0d P0 a4w inlS N).cbv 7 [c,.lit (.int .u64 n),.lit (.string b)] []=some (.lit (.bool true),[]):=by
 have e:=b3W hs rfl;let g:Th:=⟨thv c (.lit (.int .u64 n)) (.lit (.string b)),λ _=>0,λ i=>match i with
  |0=>e
  |1=>⟨a6N,nofun⟩
  |2=>⟨c3R,nofun⟩
  |_+3=>⟨a6n,nofun⟩⟩
 have hw:WF K7:=by
  intro f hf;simp only[K7,ay4,av0,ar1]at hf;rcases hf with rfl|rfl|rfl<;>rfl
 have a:Sat P0 R0 g K7:=by
  intro f hf;simp only[K7,ay4,av0,ar1]at hf;rcases hf with rfl|rfl|rfl
  .exact hs
  .exact .int h0 h1
  .exact .str hb
 have:=d0z (P:=P0) (prim:=a4w) (inl:=inlS) (k:=7) rfl rfl (c3g (pr:=prL) (ru:=[15,43]) (tot:=d6L) (m:=60) (d:=3) b2x d7U d8G d8o) e0l hw a rfl;exact this
end
end Go.SE
namespace Go.PV
section
open Go.RowKit
section
variable {P:Program} {call:Calls} {ops:Array Oper} {S:Nat->St} {R:Nat->Out} {F:Nat->List Nat×List Nat} {D:Nat->Bool} {base:Nat} {E:List Nat} {I w:World} {J:Mem} {H:Pl} {a:Act}
def Mix(ops:Array Oper)(S:Nat->St)(R:Nat->Out)(base:Nat)(E:List Nat)(I:World)(J:Mem)(H:Pl)(D:Nat->Bool)(a:Act)(w:World):Prop:=
 ∃M μ,J.le M/\NewMem base E J M/\H.le μ/\Inv base E I M μ (a0b (c2l (S 0).h R D ops.size)) w/\Slots M μ (b8o ops (S 0) R D ops.size) a/\
  (∀i,(S 0).nx<=i->μ i≠none->∃j,j<ops.size/\D j=true/\(S j).nx<=i/\i<(S (j+1)).nx)/\a.defers=[]/\a.tmps.size=(S 0).sz
variable {M:Mem} {μ:Pl}
theorem Inv.congrG{g g':G}(h:Inv base E I M μ g w)(e:∀i,g i=g' i):Inv base E I M μ g' w:=by
 have:g=g':=Ax9 e;rw[<-this];exact h
variable {b get:Nat->V} {d:Option Tmp} {u:Value}
theorem c9z{sz:Nat}{v:V}(hS:Slots M μ get a)(hv:RepV M μ v u)(hz:a.tmps.size=sz)(he:∀t,b t=if d=some t/\t<sz then v else get t):Slots M μ b (a.put d u):=by
 intro t;rw[he t];cases d with
 |none=>simpa[Act.put]using hS t
 |some d=>
  show RepV M μ _ ((a.tmps.setIfInBounds d u).getD t undef);by_cases hd:some d=some t/\t<sz
  .simp_all
  .rw[ay9 hd];have:(a.tmps.setIfInBounds d u).getD t undef=a.tmps.getD t undef:=by
    simp only[ax6,Ay7];by_cases e:d=t
    .grind
    .simp[e]
   rw[this];exact hS t
theorem a9J:(a.put d u).tmps.size=a.tmps.size/\(a.put d u).defers=a.defers:=by
 cases d<;>simp[Act.put]
variable {o:Oper}
theorem c2Z(h:∀t∈a5n ops o,get t=b t):a0V ops o get=a0V ops o b:=by
 grind[a0V,a5n]
theorem c4Z(hS:Slots M μ get a):a0V ops o get=Region.wanted o (yielded ops a.tmps):=by
 unfold a0V Region.wanted;cases o.guard with
 |none=>rfl
 |some p=>
  obtain⟨j,b⟩:=p;simp only;unfold yielded;cases hd:(ops[j]?).bind (·.dst)with
  |none=>simp
  |some d=>simp only[az1];have hr:=hS d;rw[ax6]at hr;grind[a1z,undef,b6h]
theorem Mix.step(hc:CallsOk P call)(hR:Run P call ops S R F)(hs:(S 0).sz<=256){i:Nat}(ht:Turn ops F D i)(hm:Mix ops S R base E I J H D a w){K:Act->World->Prop}{Q:Exit->Act->World->Prop}
  (hK:∀y o,Mix ops S R base E I J H (λ j=>j==i||D j) y o->K y o):wpOp P ops Q i K a w:=by
 have hi:=ht.lt;have ho:ops[i]?=some ops[i]:=aw0 hi;obtain⟨M,μ,m1,m2,m3,m4,m5,m6,m7,m8⟩:=hm;obtain⟨C,z,A⟩:=hR.at_ hs (aq5 hi);have b:∀t∈a5n ops ops[i],b8o ops (S 0) R D ops.size t=(S i).get t:=λ t hx=>by
  rw[A t];exact ht.see (λ k hk hw=>hR.wrS_foot hk hw) (.inl (hR.slot_foot hi hx))
 have hw:a0V ops ops[i] (b8o ops (S 0) R D ops.size)=a0V ops ops[i] (S i).get:=c2Z b;have d:∀t,b8o ops (S 0) R (λ j=>j==i||D j) ops.size t=if ops[i].dst=some t/\t<(S 0).sz then(R i).v else b8o ops (S 0) R D ops.size t:=λ t=>by
  rw[b8o,ht.set (λ k hk hw=>hR.wrS_foot hk hw)];have:wrS ops (S 0).sz t i=decide (ops[i].dst=some t/\t<(S 0).sz):=by
   unfold wrS;rw[ho];simp only[az1,Bool.decide_and]
   congr 1
   grind
  rw[this];by_cases hc:ops[i].dst=some t/\t<(S 0).sz
  .grind
  .rw[ay9 hc];simp only[hc,decide_false];rfl
 unfold wpOp;rw[ho];simp only;rw[<-c4Z m5,hw];cases e:a0V ops ops[i] (S i).get with
 |false=>
  simp only[ay6,av8];obtain⟨hr,_⟩:=hR.no i _ ho e;refine hK _ _ ⟨M,μ,m1,m2,m3,m4.congrG λ l=> ?_,c9z m5 .und m8 (λ t=>by grind),λ l hl hp=> ?_,by grind[a9J],by grind[a9J]⟩
  .rw[a3l,a3l,ht.set (x:=2*l) (λ k hk hw=>hR.wrB_foot hk hw)];grind[wrB]
  grind
 |true=>
  simp only[aw4];obtain⟨q,hF⟩:=hR.yes i _ ho e;have f:Agree (a0b (c2l (S 0).h R D ops.size)) (a0b (S i).h) (a3q (S i).get ops[i]++a2w (S i).get (a0b (S i).h) ops[i]):=λ l hl=>by
   rw[z,a3l,a3l];refine ht.see (x:=2*l) (λ k hk hw=>hR.wrB_foot hk hw) ?_;rw[hF];simp only[a5A,ax1,ax5];grind
  have r:∀x∈ops[i].op.operands,ev (b8o ops (S 0) R D ops.size) x=ev (S i).get x:=c6A λ t hx=>b t (by
   simp only[a5n,ax1,Az5];exact .inr ⟨.tmp t,by grind,rfl⟩)
  have g:opE P call (b8o ops (S 0) R D ops.size) (a0b (c2l (S 0).h R D ops.size)) (S i).nx ops[i]=some (R i):=by
   rw[d1J _ r,<-q];have c:Agree (a0b (S i).h) (a0b (c2l (S 0).h R D ops.size)) (a3q (S i).get ops[i]++a2w (S i).get (a0b (S i).h) ops[i]):=λ l hl=>(f l hl).symm;exact(d2H _ c).symm
  have m:∀l,(S i).nx<=l->l<(S i).nx+(R i).cnt->μ l=none:=λ l h1 h2=>by
   refine At1 λ hp=> ?_;obtain⟨j,j1,j2,j3,j4⟩:=m6 l (av9 (hR.nx_mono (aw7 i) (aq5 hi)) h1) hp;rw[<-hR.nx_step hi]at h2;rcases Nat.lt_trichotomy i j with h|h|h
   .have:=hR.nx_mono (i:=i+1) (j:=j) h (aq5 j1);omega
   .subst h;rw[ht.not]at j2;cases j2
   .have:=hR.nx_mono (i:=j+1) (j:=i) h (aq5 hi);omega
  refine .inl (c6M hc m4 m5 m g K Q λ u o B s k1 k2 k3 k4 k5 k6=>hK _ _ ?_);refine⟨B,s,Mem.le_trans m1 k1,m2.trans k2,Pl.le_trans m3 k3,k5.congrG λ l=> ?_,c9z (λ t=>(m5 t).mono k1 k3) k4 m8 d,λ l hl hp=> ?_,by grind[a9J],by grind[a9J]⟩
  .have e1:a0b ((R i).upd++c2l (S 0).h R D ops.size) l=a9H (a0b (S 0).h l) (wrB R l) (newB R l) (λ j=>j==i||D j) ops.size:=by
    rw[ht.set (x:=2*l) (λ k hk hw=>hR.wrB_foot hk hw),<-a3l (h:=(S 0).h)];rw[a5e];unfold upd;cases hf:(R i).upd.find? (λ p=>p.1==l)with
    |none=>grind[wrB]
    |some p=>grind[wrB,newB]
   rw[e1,a3l]
  .by_cases n:(S i).nx<=l/\l<(S i).nx+(R i).cnt
   .exact⟨i,hi,by simp,n.1,by rw[hR.nx_step hi];exact n.2⟩
   grind
theorem c6G{b:Array Bool}(hz:b.size=ops.size)(he:a8E ops=true)(hr:Region.ready .any ops b=[]):∀j,j<ops.size->b.getD j false=true:=by
 intro j;induction j using Nat.strongRecOn with
 |ind j ih=>
  intro hj;cases hd:b.getD j false with
  |true=>rfl
  |false=>
   have:j∈Region.ready .any ops b:=by
    rw[mem_ready];have c:j<b.size:=by omega
    refine⟨by grind,ops[j],aw0 hj,λ e hm hb=> ?_⟩;unfold a8E at he;rw[ay5]at he;have h1:=he (ops[j],j) (by grind);rw[ay5]at h1;have h2:=h1 e (by grind);rw[hb]at h2;have h3:e.on<j:=by simpa using h2
    exact ih e.on h3 (by omega)
   grind
theorem b8K(hR:Run P call ops S R F)(hs:(S 0).sz<=256)(hD:∀j,j<ops.size->D j=true)(hm:Mix ops S R base E I J H D a w):StOk P base E I J H (S ops.size) a w:=by
 obtain⟨M,μ,m1,m2,m3,m4,m5,m6,m7,m8⟩:=hm;obtain⟨c,d,b⟩:=hR.at_ hs (ay3 _);refine⟨M,μ,m1,m2,m3,m4.congrG λ l=> ?_,λ t=> ?_,λ l hl=> ?_,m7,by grind,by grind⟩
 .grind[a3l,a4K]
 .rw[b t];have e:b8o ops (S 0) R D ops.size t=b8o ops (S 0) R (λ _=>true) ops.size t:=a4K λ j hj _=>hD j hj;rw[<-e];exact m5 t
 .refine At1 λ hp=> ?_;obtain⟨j,j1,j2,j3,j4⟩:=m6 l (av9 (hR.nx_mono (aw7 _) (ay3 _)) hl) hp;have:=hR.nx_mono (i:=j+1) (j:=ops.size) j1 (ay3 _);omega
theorem c9Q(hc:CallsOk P call)(hR:Run P call ops S R F)(hs:(S 0).sz<=256)(he:a8E ops=true)(c:d2U ops F){Q:Exit->Act->World->Prop}(hQ:∀a w,StOk P base E I J H (S ops.size) a w->Q .normal a w):
  ∀(fuel:Nat) (b:Array Bool) (a:Act) (w:World),b.size=ops.size->b.toList.count false<=fuel->Cl ops (λ j=>b.getD j false)->Mix ops S R base E I J H (λ j=>b.getD j false) a w->
   wpAny P .any ops Q fuel b a w
 |0,b,a,w,hz,hf,d,hm=>by
  have e:∀j,j<ops.size->b.getD j false=true:=λ j hj=>by
   have g:j<b.size:=by omega
   rw[ax6,aw0 g,an3];grind[ar7]
  refine⟨?_,hQ _ _ (b8K hR hs e hm)⟩;apply List.eq_nil_iff_forall_not_mem.2;grind[mem_ready]
 |fuel+1,b,a,w,hz,hf,d,hm=>by
  refine⟨λ hr=>hQ _ _ (b8K hR hs (c6G hz he hr) hm),λ i hi=> ?_⟩;obtain⟨h0,o,ho,h⟩:=mem_ready.1 hi;have f:i<ops.size:=(as3.1 ho).1;have k:i<b.size:=by omega
  have l:o=ops[i]:=by rw[aw0 f]at ho;injection ho with ho;exact ho.symm
  subst l;have m:b.getD i false=false:=by
   rw[ax6,aw0 k]at h0|-;exact h0
  have p:(λ j=>(b.setIfInBounds i true).getD j false)=λ j=>j==i||b.getD j false:=by
   funext j
   by_cases q:j=i
   .simp_all
   .simp_all[as7]
  obtain⟨ht,n⟩:=Turn.of (D:=λ j=>b.getD j false) c d f m h;refine Mix.step hc hR hs ht hm λ r s t=>c9Q hc hR hs he c hQ fuel _ r s (by grind) ?_ (by grind) (by grind);simp_all[List.count_set]
theorem d3R(hf:P.follows .mixedOrders=true)(hc:CallsOk P call):b5A P call:=by
 intro base E I w J H a id ops s n fs b c f;obtain⟨hl,S,R,g,m,hR⟩:=c8P c;obtain⟨he,d⟩:=b1p hl f;obtain⟨M,μ,b⟩:=b;subst g;refine wp_region_any hf (c9Q hc hR b.small he d (λ a w h=>⟨av5,by rw[<-m];exact h⟩) _ _ _ _ (by simp) (by simp) ?_ ?_)
 .intro j o _ hj;by_cases h:j<ops.size<;>simp[h]at hj
 .have e:∀l k,a9H (a0b (S 0).h l) (wrB R l) (newB R l) (λ j=>(Array.replicate ops.size false).getD j false) k=a0b (S 0).h l:=λ l k=>by
   induction k with
   |zero=>rfl
   |succ k ih=>
    have:(Array.replicate ops.size false).getD k false=false:=by by_cases h:k<ops.size<;>simp[h]
    simp_all[a9H]
  have e2:∀t k,b8o ops (S 0) R (λ j=>(Array.replicate ops.size false).getD j false) k t=(S 0).get t:=λ t k=>by
   induction k with
   |zero=>rfl
   |succ k ih=>
    have:(Array.replicate ops.size false).getD k false=false:=by by_cases h:k<ops.size<;>simp[h]
    simp_all[b8o,a9H]
  refine⟨M,μ,b.le,b.fresh,b.ple,(b.inv.drawn _).congrG λ l=> ?_,λ t=> ?_,λ i hi hp=>absurd (b.new i hi) hp,b.defers,b.size⟩
  .rw[a3l,e]
  .rw[e2];exact b.slots t
end
end
end Go.PV
namespace Go.SN
section
open Go Go.PV Go.RowKit Go.Proofs
set_option maxRecDepth 100000
theorem d5Z(k:Nat)(f:List V->List (List V)->Option (V×List (List V)))(b:List V)(bs:List (List V))(v:V)(a:List (List V))(h:a4w k=some f)(hf:f b bs=some (v,a)):a2R Tryz.prog k b bs v a:=by
 unfold a4w at h;split at h;all_goals first
  |(cases h;first
    |exact d9D hf|exact d9N hf|exact d9M hf|exact e0n hf|exact d9S hf|exact d6S hf|exact d7W hf|exact d7J hf|exact d7A hf|exact d7B hf|exact d7s hf|exact d8q hf|exact d8v hf
    |exact d8j hf|exact d6R hf|exact d8m hf|exact d7p hf|exact d7z hf|exact d7S hf|exact d7t hf|exact d8c hf)
  |cases h
def nmB(f:Func):Bool:=f.name != "runtime.NumGoroutine"
theorem d7X:(Tryz.prog.funcs.toList.all nmB)=true:=by decide+kernel
theorem c0L(k:Nat)(fn:Func)(h:Tryz.prog.funcs[k]?=some fn):fn.name≠ "runtime.NumGoroutine" :=by
 grind[d7X,nmB]
theorem b6A:Tryz.prog.follows .mixedOrders=true:=by decide+kernel
theorem d1F(n:Nat):CallsOk Tryz.prog (a0d Tryz.prog a4w inlS n):=(c5d c0L (λ _ hc=>d3R b6A hc) d5Z n).2
def d3O(W:World):Mem:=λ b o=>W.cell? ⟨b,o,none⟩
theorem c4S{W:World}(hg:GlW W)(hs:glN<=W.heap.size):Inv W.heap.size [] W (d3O W) (λ _=>none) (a0b []) W:=
 ⟨λ _ _ _ h=>h,(λ id x h=>by simp[a0b]at h),(λ i j b c a ⟨x,hx⟩=>by grind),(λ id x b cap o u h=>by grind),rfl,rfl,rfl,ay3 _,λ _ _ _=>rfl,⟨hg,hs,nofun⟩⟩
theorem b6l{g:G}:∀{xs:List V} {s:List Nat×List Nat},(∀x∈xs,isD x)->a0G (a1y 4 g) s xs=some (xs,s)
 |[],_,_=>rfl
 |x::r,s,h=>by
  have e:a1y 4 g s x=some (x,s):=(h x (ay1 ..)).2.2.2.1 3 g s;simp only[a0G,e,b6l λ y hy=>h y (az9 _ hy)]
theorem c3j{k n:Nat}{xs:List V}{us:Array Value}{W:World}(hg:GlW W)(hs:glN<=W.heap.size)(hx:ListRep (d3O W) (λ _=>none) xs us.toList)
  (ha:∀x∈xs,isD x) (h:(a0d Tryz.prog a4w inlS n).cbv k xs []=some (.lit (.bool true),[])):
  Calls Tryz.prog k us W λ e a=>e= .returned (.bool true)/\Below W.heap.size W a:=by
 have hd:a1q (a0d Tryz.prog a4w inlS n).cbv (a0b []) 0 k xs=some {v:= .lit (.bool true),upd:=[],cnt:=0}:=by
  unfold a1q;simp only[b6l ha,a0G];simp[h,a2s,a3y,a1u,a1R];exact⟨rfl,rfl,rfl⟩
 refine((d1F n).cbv (c4S hg hs) (λ _ _ _=>rfl) hx hd).2.mono ?_;rintro(u|_|_) a he<;>first|cases he;done|skip
 obtain⟨c,b,_,_,_,hr,hI,_⟩:=he;refine⟨?_,hI.os,hI.tape,hI.output,hI.size,λ k hk=>hI.frame k hk (by simp)⟩;cases hr with
 |rep hr=>cases hr with|lit _=>rfl
end
end Go.SN
namespace Go.Proofs.YtfffjfhfafhfmaaGreatDoor
section
open Go.RowKit Go.Deep
theorem gForms:Tryz.prog.globalNamed "webfinger/utf8text.forms" =some 1:=by kernel_rfl
theorem gFormsType:(Tryz.prog.globals[1]?).map (·.type)=some 440:=by kernel_rfl
theorem c7i:Tryz.prog.cellsOf 440=12:=by kernel_rfl
theorem c2F:Tryz.prog.cellsOf 439=3:=by kernel_rfl
theorem d2F:Tryz.prog.cellsOf 5=1:=by kernel_rfl
theorem c7K:Tryz.prog.cellsOf 3=1:=by kernel_rfl
theorem a9l{H:Type}{enc:Nat×Value->H}{w:World}{base:Nat}{spare:Nat->Bool}{held:Bool}{fuel:Nat}{c0 c1 c2:Value}{a b c:Int}{q:List MemPlace}
  (h:DataW.trod enc Tryz.prog w base spare held fuel 439 [c0,c1,c2]=some (.agg [.lit (.int .u8 a),.lit (.int .u8 b),.lit (.int .i64 c)],q)):
  c0= .int .u8 a/\c1= .int .u8 b/\c2= .int .i64 c:=by
 obtain⟨y0,y1,y2,n,hx,_,t0,t1,t2⟩:=trod_struct3 Tryz.underlying439 h;grind[d2F,c7K,DataW.trod_int,am8,am5]
variable {W:World}
theorem c3H{P:Program}{n:String}{d:DataW Unit}{r:List (String×DataW Unit)}{ps:List MemPlace}(h:DataW.LaidVars P W ((n,d)::r) ps):
  (∃g t cs fuel p,P.globalNamed n=some g/\(P.globals[g]?).map (·.type)=some t/\W.var? P n=some cs/\DataW.trod (λ _=>()) P W 0 (λ _=>true) false fuel t cs.toList=some (d,p))/\∃q,DataW.LaidVars P W r q:=by
 obtain⟨g,t,cs,fuel,p,q,h1,h2,h3,h4,h5,_⟩:=h;grind
set_option maxRecDepth 100000 in
theorem b2Z(h:laidMetH Tryz.prog Rows.topErrorsRow.laid W):Forms W:=by
 have h0:∃ps,DataW.LaidVars Tryz.prog W [("unicode/utf8.acceptRanges",Rows.laid_unicode_utf8_acceptRanges),("webfinger/utf8text.forms",Rows.laid_webfinger_utf8text_forms),("unicode/utf8.first",Rows.laid_unicode_utf8_first)] ps:=by
  obtain⟨ps,h,_⟩:=show laidMet Tryz.prog Rows.topErrorsRow.laid W from h
  exact⟨ps,h⟩
 obtain⟨ps,h0⟩:=h0;obtain⟨_,q,h0⟩:=c3H h0;obtain⟨⟨g',t',cs,fuel,p,hg',ht',hvar,hd⟩,_⟩:=c3H h0;obtain rfl:=ax8 (gForms.symm.trans hg');obtain rfl:=ax8 (gFormsType.symm.trans ht');obtain⟨xs,m,_,hx,hl,hlen,hat⟩:=DataW.trod_array Tryz.underlying440 hd;rw[c7i]at hl;have hcs:cs=a3r:=by
  obtain⟨l⟩:=cs;simp only at hl hat
  match l,hl with
  |[c0,c1,c2,c3,c4,c5,c6,c7,c8,c9,c10,c11],_=>
   match xs,hlen with
   |[x0,x1,x2,x3],_=>simp only[Rows.laid_webfinger_utf8text_forms,av2,ar8,az8,DataW.agg.injEq,Az2,ao0]at hx;obtain⟨⟨e0,e1,e2,e3⟩,_⟩:=hx;have a0:=hat 0 (by omega);have a1:=hat 1 (by omega);have a2:=hat 2 (by omega);have a3:=hat 3 (by omega);simp only[c2F]at a0 a1 a2 a3;obtain⟨d0,q0⟩:=x0;obtain⟨d1,q1⟩:=x1;obtain⟨d2,q2⟩:=x2;obtain⟨d3,q3⟩:=x3;simp only at e0 e1 e2 e3;subst e0 e1 e2 e3;simp only[Nat.zero_mul,Nat.one_mul,Nat.reduceMul,Ax3,List.drop_succ_cons,Aw6,List.take_zero,as6,ao1]at a0 a1 a2 a3;obtain⟨rfl,rfl,rfl⟩:=a9l a0;obtain⟨rfl,rfl,rfl⟩:=a9l a1;obtain⟨rfl,rfl,rfl⟩:=a9l a2;obtain⟨rfl,rfl,rfl⟩:=a9l a3;rfl
 grind[World.var?,Forms]
theorem d5J(h:laidMetH Tryz.prog Rows.topErrorsRow.laid W)(hs:W.ShapedOpen Tryz.prog):PV.GlW W/\PV.glN<=W.heap.size:=by
 obtain⟨t1,f1,hF⟩:=b2Z h;have h0:((begin Tryz.prog (λ _ _=>0) default).world.heap[0]?).bind Obj.row?=some (#[.int .i64 0],3):=by kernel_rfl
 obtain⟨cs,hh,hsz,_⟩:=hs.1 0 _ _ (by decide+kernel) h0;obtain⟨m,hm⟩:=Go.Proofs.cell_of_shapedOpen_int hs (by decide+kernel) h0 rfl (by kernel_rfl) (by kernel_rfl) am5;have h3:(((begin Tryz.prog (λ _ _=>0) default).world.heap[3]?).bind Obj.row?).isSome=true:=by kernel_rfl
 obtain⟨⟨z3,t3⟩,h3⟩:=at0.1 h3;obtain⟨c3,hh3,_⟩:=hs.1 3 z3 t3 (by decide+kernel) h3;refine⟨⟨⟨m,3,(0,0),?_⟩,t1,f1,?_⟩,?_⟩
 .show(if(0:Nat)<PV.glN then W.heap[0]? else none)=_;rw[ax3 (by decide),hh];obtain⟨l⟩:=cs
  match l,hsz with
  |[u],_=>grind[World.cell?]
 .show(if(1:Nat)<PV.glN then W.heap[1]? else none)=_;rw[ax3 (by decide)];exact hF
 .have:3<W.heap.size:=(as3.1 hh3).1;show 4<=_;omega
def d4s:DataW Unit->List Value
 | .lit (.int k n)=>[.int k n]
 |_=>[]
def d7c:DataW Unit->List Value
 | .agg l=>l.flatMap d4s
 |d=>d4s d
def d2n:DataW Unit->List Value
 | .agg l=>l.flatMap d7c
 |_=>[]
def d8Q(cs:List Value):Obj->Obj
 | .cells _ t frozen=> .cells cs.toArray t frozen
 |o=>o
noncomputable def a9Y(os:Os):World:=
 {World.holding Tryz.prog os ⟨#[],#[],[]⟩with
  heap:=(((World.holding Tryz.prog os ⟨#[],#[],[]⟩).heap.modify 1 (d8Q (d2n Rows.laid_webfinger_utf8text_forms))).modify 2 (d8Q (d2n Rows.laid_unicode_utf8_first))).modify 3 (d8Q (d2n Rows.laid_unicode_utf8_acceptRanges))}
theorem c8u(os:Os):laidMet Tryz.prog Rows.topErrorsRow.laid ((a9Y os).forCall (λ _ _=>0) ⟨#[],#[.slice none 0 0,.int .u64 0,.string ByteArray.empty],[]⟩).memory:=
 laidMet_of_run' 8 (by kernel_rfl) (by kernel_rfl)
end
end Go.Proofs.YtfffjfhfafhfmaaGreatDoor
