import Derived.Test.YtfffjfhfafhfmaaGreatDoorV00
import Derived.LoopN
import Derived.Scope
set_option linter.all false
namespace Go.SN
section
open Go.PV
def c8o(s:AS)(pl:List (Nat×Nat))(p:Nat×Operand):Option (Nat×Nat×AV):=
 match pl[p.1]?,evA s p.2 with
 |some (off,n),some v=>some (off,n,v)
 |_,_=>none
def c4v(s:AS)(p:Nat×Operand):Option (Nat×AV):=(evA s p.2).map λ v=>(p.1,v)
def a6H:AS->TD->List (Nat×AV)->TD×AS
 |s,d,[]=>(d,s)
 |s,d,v::r=>a6H (a2O s v.2).2 (a7d d (a2O s v.2).1) r
def c9Z(o:Nat):AV->Option AV
 | .ptr nm off=>some (.ptr nm (off+o))
 | .eptr nm sz e off=>some (.eptr nm sz e (off+o))
 | .cptr l=>some (.cptr (l.drop o))
 |_=>none
def d0O(c:AV)(cs:List AV):Option AV:=match c with
 | .agg _=>some (.agg cs)
 |_=>cs.head?
def d7x(x:V)(cs:List V):Option V:=match x with
 | .agg _=>some (.agg cs)
 |_=>cs.head?
theorem b5Y{g:G}{id ty sz i off:Nat}{xs:List V}{vs:List V}{x c:V}(hg:g id=some (.row ty sz xs false))(hx:xs[i]?=some x)(b:off+vs.length<=x.cells.length)(hp:d7x x (setCells x.cells off vs)=some c):
  storeAt g (.eptr id sz i off) vs=some [(id,some (.row ty sz (xs.set i c) false))]:=by
 simp only[storeAt,hg,hx,Az0,az1,ao5,ax3 b];grind[d7x]
theorem d1R{Γ:Gm}{c d:AV}{x:V}{cs:List AV}{us:List V}(h:In Γ c x)(hk:a4z c=true)(hc:InL Γ cs us)(hp:d0O c cs=some d):∃b,d7x x us=some b/\In Γ d b:=by
 have head:cs.head?=some d->∃b,us.head?=some b/\In Γ d b:=by
  intro hh;cases cs with
  |nil=>cases hh
  |cons y cs=>cases us with
   |nil=>cases hc.1
   |cons u us=>simp only[List.head?_cons,az0]at hh;subst hh;exact⟨u,rfl,hc.tail.1⟩
 cases h with
 |any=>cases hk
 |agg f e=>simp only[d0O,az0]at hp;subst hp;exact⟨_,rfl,.agg hc.1 hc.2⟩
 |dat f e g i=>cases e<;>exact head hp
 |_=>exact head hp
def b1e:Int:=100000000000
def b0G(s:AS)(ty sz:Nat)(e:LE)(d:TD)(f:Bool):List (AV×AS):=[(.row (newB s (.row ty sz e d f)).1 sz (.k 0) e,(newB s (.row ty sz e d f)).2)]
section
variable (P:Program)
def c4k(t:Nat)(parts:List (Nat×Operand))(s:AS):R:=
 match c0x P t,P.underlying t with
 |some z,some (.struct fs)=>match a0D (fun(f:Field)=>(a1M P f.type).map λ n=>(f.offset,n)) fs.toList with
  |some pl=>match a0D (c8o s pl) parts with
   |some ps=>match c5b z.cells ps with
    |some l=>one (.agg l) s
    |none=>none
   |none=>none
  |none=>none
 |_,_=>none
def a7e(t:Nat)(n:Nat)(parts:List (Nat×Operand))(s:AS):R:=
 match a2G P t with
 |none=>none
 |some e=>match c0x P e,a1M P e with
  |some z,some sz=>
   if sz=0||n*sz>16777216||z.cells.length≠sz then none else
   match a0D (c4v s) parts with
   |none=>none
   |some vs=>
    if vs.any (λ p=>p.2.cells.length≠sz||p.1>=n|| !b9L p.2)then none else
    let q:=match vs with
     |v::r=>if vs.map (λ p:Nat×AV=>p.1)=List.range n then a6H (a2O s v.2).2 (a2O s v.2).1 r else a6H (a2O s z).2 (a2O s z).1 vs
     |[]=>a2O s z
    some (b0G q.2 e sz (.k n) q.1 false)
  |_,_=>none
def npA:AV->Bool
 | .any=>true
 | .lit v=>a4Z (.lit v)
 |_=>false
def bkA:List AV->Bool
 |[c,_]=>npA c
 |_=>false
def bkS:List AV->Bool
 |[.lit (.pointer none),_]=>true
 |_=>false
def c4j(t:Nat)(p v:AV)(s:AS):R:=
 match a1M P t with
 |none=>none
 |some n=>if v.cells.length≠n|| !b9L v then none else
  match p with
  | .ptr nm off=>match a4U s nm with
    |some (.var l)=>if off+v.cells.length<=l.length then(if bkA (a2S l off v.cells)&& !bkS l then none else one .und (setB s nm (.var (a2S l off v.cells))))else none
    |_=>none
  | .eptr nm sz e off=>match a4U s nm with
    |some (.row _ z k d false)=>if !(z==sz&&e=k)then none else
     let c:=a9h s d
     if !a4z c.1||off+v.cells.length>c.1.cells.length then none else
     let cs:=a2S c.1.cells off v.cells
     match d0O c.1 cs with
     |some b=>
      let q:=a2O c.2 b
      (match a4U q.2 nm with
      |some (.row ty f g h false)=>if f==sz then one .und (setB q.2 nm (.row ty sz g (a7d h q.1) false))else none
      |_=>none)
     |none=>none
    |_=>none
  |_=>none
def a7A(v:AV)(s:AS):R:=
 match v with
 | .ptr .. | .eptr .. | .cptr _| .fn .. | .fns _=>one v s
 |_=>none
def a8f(t:Nat)(f:Nat)(v:AV)(s:AS):R:=
 match a1K P t f with
 |none=>none
 |some (o,ft)=>match a1M P ft with
  |none=>none
  |some n=>if n=0 then none else(c9Z o v).bind λ w=>one w s
def c5p(t:Nat)(f:Nat)(v:AV)(s:AS):R:=
 match a1K P t f,v with
 |some (o,ft),.agg l=>match c5g P ft (l.drop o)with
  |some v=>one v s
  |none=>none
 |_,_=>none
def a7S(t:Nat)(v i:AV)(s:AS):R:=
 match a2G P t,i with
 |some e,.int _ n=>match a1M P e,c1G v with
  |some sz,some m=>if !(s.ent n&&s.ent ((m.sub n).addc (-1)))then none else
   match v with
   | .dat _ _ d=>if a4x d==some sz&&a4z (a9h s d).1 then one (.cptr (a9h s d).1.cells) (a9h s d).2 else none
   | .row nm z off _=>match a4U s nm with
     |some (.row _ _ k _ _)=>if z==sz&&s.ent ((k.sub off).sub m)then one (.eptr nm sz k 0) s else none
     |_=>none
   |_=>none
  |_,_=>none
 |_,_=>none
def a8j(t:Nat)(l c:AV)(s:AS):R:=
 match a2G P t,l,c with
 |some e,.int _ n,.int _ m=>match P.info? e,c0x P e,a1M P e with
  |some i,some z,some sz=>
   if i.bytes>1000||sz=0||z.cells.length≠sz|| !(s.ent n&&s.ent (m.sub n)&&s.ent (m.neg.addc 1000000))then none else
   some (b0G (a2O s z).2 e sz n (a2O s z).1 false)
  |_,_,_=>none
 |_,_,_=>none
def c4D(t:Option Nat)(v:AV)(s:AS):R:=
 match v,t with
 | .str e,some t=>if b3g P t then one (.int .i64 e) s else none
 |v,some t=>match a2G P t,c1G v with
  |some _,some e=>one (.int .i64 e) s
  |_,_=>none
 |_,_=>none
def d9u(i:TypeInfo):Bool:=match i.zero with|some z=>z.cells.size==i.size|none=>false
def d7I(s:AS):AV->Option (LE×TD)
 | .str e=>some (e,.int .u8 0 255)
 |v=>elA s v
def b7N(t u:Nat)(x y:AV)(s:AS):R:=
 match a2G P t with
 |none=>none
 |some e=>match P.info? e,P.underlying u,d7I s y with
  |some i,some du,some (m,dy)=>
   if !d9u i||i.size=0||i.bytes>1000|| !a2P du|| !(a4x dy==some i.size||a0x m==some 0)then none else
   match x with
   | .nils=>if !s.ent (m.neg.addc b1e)then none else
     some (d0X s (.ge (m.addc (-1))) (λ s=>b0G s e i.size m dy false) (λ s=>[(.nils,s)]))
   | .row nm sz off n=>match a4U s nm with
     |some (.row ty z k dz b)=>
      if ty≠e||sz≠i.size||z≠i.size||a0x off≠some 0|| !(n=k|| !b)|| !s.ent (k.sub n)|| !s.ent ((n.add m).neg.addc b1e)then none else
      some (b0G (d1K s nm) e i.size (n.add m) (if a0x m=some 0 then dz else if a0x n=some 0 then dy else a7d dz dy) b)
     |_=>none
   | .slf n dz=>if s.ent (m.addc (-1))&&(a4x dz==some i.size||a0x n==some 0)&&s.ent ((n.add m).neg.addc b1e)then some (b0G s e i.size (n.add m) (if a0x n=some 0 then dy else a7d dz dy) false)else none
   |_=>none
  |_,_,_=>none
end
section
variable {P:Program} {a:AS} {Γ:Gm} {s:St}
theorem a7L(h:Ok a Γ s){ty sz:Nat}{e:LE}{d:TD}{f:Bool}{xs:List V}(he:e.ok Γ.ρ Γ.n)(hl:(xs.length:Int)=e.ev Γ.ρ)(hx:∀x∈xs,InD Γ.g Γ.N d x){f':Bool}(hf:f'=true->f=true):
  Good (b0G a ty sz e d f) Γ s {v:= .row s.nx sz 0 xs.length,upd:=[(s.nx,some (.row ty sz xs f'))],cnt:=1}:=by
 obtain⟨c,l1,r1,n1,n2,o1⟩:=h.newB (b:= .row ty sz e d f) (x:= .row ty sz xs f') (.row he hl hx hf);refine Good.one l1 ?_ o1;show In c (.row a.m sz (.k 0) e) (.row s.nx sz 0 xs.length);rw[<-n1];exact .row n2 (a1W 0) (a0p he l1.n l1.ρ) (by rw[a1P];rfl) (by grind)
variable {t:Nat}
theorem c5j(h:Ok a Γ s){parts:Array (Nat×Operand)}{g:List (AV×AS)}(hr:c4k P t parts.toList a=some g){call:PV.Calls}{o:Oper}(ho:o.op= .build t parts):
  ∃r,opE P call s.get (a0b s.h) s.nx o=some r/\Good g Γ s r:=by
 unfold c4k at hr;split at hr
 .next z fs hz ht=>
  split at hr
  .next pl m=>
   split at hr
   .next ps b=>
    split at hr
    .next l hl=>
     injection hr with hr
     subst hr;obtain⟨hk,B,C,_,u⟩:=a9F (Γ:=Γ) hz;have hq:∃c,a0D (a3b s.get pl) parts.toList=some c/\ps.length=c.length/\∀(j:Nat) (p:Nat×Nat×AV) (q:Nat×Nat×V),ps[j]?=some p->c[j]?=some q->p.1=q.1/\p.2.1=q.2.1/\In Γ p.2.2 q.2.2:=by
      clear hl;generalize parts.toList=L at b;induction L generalizing ps with
      |nil=>simp only[a0D,az0]at b;subst b;exact⟨[],rfl,rfl,λ j p q h=>by simp at h⟩
      |cons x L ih=>
       simp only[a0D]at b;cases hx:c8o a pl x with
       |none=>grind
       |some p0=>
        cases hL:a0D (c8o a pl) L with
        |none=>grind
        |some d=>
         simp only[hx,hL,az0]at b;subst b;obtain⟨c,y,e,i⟩:=ih d hL;unfold c8o at hx;split at hx
         .next off n v A f=>
          injection hx with hx
          subst hx;obtain⟨w,D,E⟩:=a1n h f;refine⟨(off,n,w)::c,by grind[a0D,a3b],by simp[e],λ j p q hj hq=> ?_⟩;grind
         .cases hx
     obtain⟨c,y,e,i⟩:=hq;obtain⟨us,F,k⟩:=c5Y (u.cells hk) e i hl;refine⟨{v:= .agg us},?_,GoodP.good (GoodP.one (Gm.le.refl Γ) (.agg k.1 k.2) h)⟩;simp_all[opE]
    .cases hr
   .cases hr
  .cases hr
 .cases hr
theorem d5o{Γ:Gm}{a:AV}{v:V}(h:In Γ a v)(hn:npA a=false):a4Z v=false:=by
 cases h with
 |any=>cases hn
 |lit=>exact hn
 |dat _ h=>cases h<;>rfl
 |_=>rfl
variable {l:List AV} {cs:List V}
theorem c2E{Γ:Gm}(h:InL Γ l cs)(hn:bkA l=false):bk cs=false:=by
 match l,cs,h with
 |[x,y],[c,d],h=>exact d5o (h.2 0 x c rfl rfl) hn
 |_,[],_=>rfl
 |_,[_],_=>rfl
 |_,_::_::_::_,_=>rfl
 |[],[_,_],h=>cases h.1
 |[_],[_,_],h=>cases h.1
 |_::_::_::_,[_,_],h=>cases h.1
theorem d5I{Γ:Gm}(h:InL Γ l cs)(hn:bkS l=true):bk cs=true:=by
 unfold bkS at hn;split at hn
 .next y=>
  match cs,h with
  |[c,d],h=>have:=h.2 0 _ c rfl rfl;cases this;rfl
 .cases hn
theorem c2v(h:Ok a Γ s){p v:AV}{pv q:V}(hp:In Γ p pv)(hv:In Γ v q){Y:List (AV×AS)}(hr:c4j P t p v a=some Y):
  ∃n u,a1M P t=some n/\(q.cells.length≠n|| !q.fit)=false/\storeAt (a0b s.h) pv q.cells=some u/\Good Y Γ s {v:= .und,upd:=u}:=by
 unfold c4j at hr;split at hr
 .cases hr
 next n hn=>
 split at hr
 .cases hr
 next hc=>
 simp only[ay8,ay2,ax2,ap6,av7,Au8,au9]at hc;obtain⟨c1,c2⟩:=hc;obtain⟨hk,f1,f2⟩:=a8g hv c2;have c:(q.cells.length≠n|| !q.fit)=false:=by
  rw[f1,<-f2.1,c1];simp
 refine⟨n,?_⟩;split at hr
 .next nm off=>
  split at hr
  .next l hb=>
   split at hr
   .next w=>
    split at hr
    .cases hr
    next C=>
    injection hr with hr
    subst hr;cases hp with
    |ptr h0=>
     have f:=a0N hb;obtain⟨_,b,r,y⟩:=h.box _ f;cases y with
     | @var _ cs k1=>
       obtain⟨A,l1,o1⟩:=h.setB f (InB.var (a3Y (o:=off) k1 f2));refine⟨[(Γ.ν nm,some (.var (setCells cs off q.cells)))],hn,c,?_,Good.one l1 .und o1⟩;have j:a0b s.h (Γ.ν nm)=some (.var cs):=by rw[<-h.g];exact r
       simp only[storeAt,j];rw[ax3 (by rw[<-f2.1,<-k1.1];exact w),ay9];intro hb;simp only[az6,ax2]at hb C;cases h1:bkA (a2S l off v.cells)with
       |false=>rw[c2E (a3Y (o:=off) k1 f2) h1]at hb;cases hb.1
       |true=>
        cases h2:bkS l with
        |false=>exact C ⟨h1,h2⟩
        |true=>rw[d5I k1 h2]at hb;cases hb.2
   .cases hr
  .cases hr
 .next nm sz e off=>
  split at hr
  .next M z k d hb=>
   split at hr
   .cases hr
   next D=>
   simp only[ax2,av7,az6,aw5,ay2]at D;obtain⟨rfl,rfl⟩:=D;simp only at hr;split at hr
   .cases hr
   next E=>
   simp only[ay8,ax2,ay2,ap6,av7]at E;obtain⟨F,Z⟩:=E;cases hp with
   | @eptr _ _ _ i _ h0 h1 h2=>
     have f:=a0N hb;obtain⟨_,b,r,y⟩:=h.box _ f;cases y with
     | @row _ _ _ _ _ f' xs k1 k2 k3 k4=>
       have N:f'=false:=by
        cases f' with
        |false=>rfl
        |true=>cases k4 rfl
       subst N;have G:i<xs.length:=by omega
       obtain⟨A,l1,g1,N1,o1,i1⟩:=a7I 4 _ _ _ _ _ h (k3 xs[i] (au2 G));have g:=i1.cells F;have H:InL A (a2S (a9h a d).1.cells off v.cells) (setCells xs[i].cells off q.cells):=a3Y (o:=off) g (f2.mono l1);have j:a0b s.h (Γ.ν nm)=some (.row M z xs false):=by rw[<-h.g];exact r
       split at hr
       .next v' O=>
        have Q:In A (a9h a d).1 xs[i]:=i1;have R:=d1R Q F H O;obtain⟨x',S,T⟩:=R;obtain⟨I,l2,g2,n2,r2,v2,o2,i2⟩:=a3p 4 _ _ _ _ _ o1 T;split at hr
        .next ty L k' d' U=>
         split at hr
         .next B=>
          have B:L=z:=by simpa using B
          subst B;injection hr with hr
          subst hr;have m:=a0N U;obtain⟨_,b',J,W⟩:=o2.box _ m;have K:I.ν nm=Γ.ν nm:=by rw[v2];exact l1.ν nm h0
          have X:I.g=Γ.g:=g2.trans g1;simp only[K,X,r,az0]at J;subst J;cases W with
          |row q1 q2 q3 q4=>
           obtain⟨p1,l3,o3⟩:=o2.setB m (b':= .row _ L k' (a7d d' (a2O (a9h a d).2 v').1) false) (x:= .row _ L (xs.set i x') false)
            (.row q1 (by rw[List.length_set];exact q2) (λ x hx=>by
             rcases Ax2 hx with hx|rfl
             .exact b3P (q3 x hx)
             .exact b3Y i2) (λ h=>by cases h))
           rw[K]at o3;refine⟨[(Γ.ν nm,some (.row _ L (xs.set i x') false))],hn,c,?_,Good.one ((l1.trans l2).trans l3) .und o3⟩;have w:off+q.cells.length<=xs[i].cells.length:=by
            have e1:=g.1;have e2:=f2.1;have e3:(a9h a d).1=(b3h 4 a d).1:=rfl;rw[<-e1,<-e2,<-e3];omega
           exact b5Y j (az5 G) w S
         .cases hr
        .cases hr
       .cases hr
  .cases hr
 .cases hr
end
end
section
open Go.PV
section
variable {P:Program} {a:AS} {Γ:Gm} {s:St}
theorem a8e:∀{vs:List (Nat×AV)} {us:List (Nat×V)} {a:AS} {Γ:Gm} {d:TD},Ok a Γ s->vs.length=us.length->(∀(j:Nat) (p:Nat×AV) (q:Nat×V),vs[j]?=some p->us[j]?=some q->In Γ p.2 q.2)->
  ∃b,Γ.le b/\Ok (a6H a d vs).2 b s/\(∀x,InD Γ.g Γ.N d x->InD b.g b.N (a6H a d vs).1 x)/\∀q∈us,InD b.g b.N (a6H a d vs).1 q.2
 |[],[],a,Γ,d,h,_,_=>⟨Γ,Gm.le.refl Γ,h,λ _ hx=>hx,nofun⟩
 |[],_::_,_,_,_,_,hl,_=>by cases hl
 |_::_,[],_,_,_,_,hl,_=>by cases hl
 |v::vs,u::us,a,Γ,d,h,hl,hv=>by
  obtain⟨e,l1,g1,n1,r1,v1,o1,i1⟩:=a3p 4 _ _ _ _ _ h (hv 0 v u rfl rfl);obtain⟨c,l2,o2,k2,i2⟩:=a8e (vs:=vs) (us:=us) (d:=a7d d (a2O a v.2).1) o1 (by grind) (λ j p q hp hq=>(hv (j+1) p q (by grind) (by grind)).mono l1);refine⟨c,l1.trans l2,o2,λ x hx=>k2 x (b3P (hx.mono l1.keeps)),λ q hq=> ?_⟩;rcases ay4.1 hq with rfl|hq
  .exact k2 _ (b3Y i1)
  .exact i2 q hq
theorem a7C{sz:Nat}{D:V->Prop}:∀{us:List (Nat×V)} {xs:List V},(∀q∈us,q.2.cells.length=sz/\q.1<xs.length/\q.2.fit=true)->∃b,a1H xs sz us=some b/\b.length=xs.length/\
  ((∀x∈xs,D x)->(∀q∈us,D q.2)->∀y∈b,D y)/\∀k,(k∉us.map (·.1))->b[k]?=xs[k]?
 |[],xs,_=>⟨xs,rfl,rfl,λ h _=>h,λ _ _=>rfl⟩
 |(i,v)::us,xs,h=>by
  have h0:=h (i,v) (ay1 ..);obtain⟨b,h1,h2,h3,h4⟩:=a7C (sz:=sz) (D:=D) (us:=us) (xs:=xs.set i v) λ q hq=>by
   grind
  refine⟨b,?_,by grind,λ hx hq=>h3 (λ x d=> ?_) (λ q c=>hq q (az9 _ c)),λ k hk=> ?_⟩
  .simp_all[a1H]
  .grind[ay1]
  grind
theorem b9r(h:Ok a Γ s):∀{L:List (Nat×Operand)} {vs:List (Nat×AV)},a0D (c4v a) L=some vs->∃us,a0D (a3a s.get) L=some us/\vs.length=us.length/\∀(j:Nat) (p:Nat×AV) (q:Nat×V),vs[j]?=some p->us[j]?=some q->p.1=q.1/\In Γ p.2 q.2
 |[],vs,hv=>by simp only[a0D,az0]at hv;subst hv;exact⟨[],rfl,rfl,λ j p q h=>by simp at h⟩
 |x::L,vs,hv=>by
  simp only[a0D]at hv;cases hx:c4v a x with
  |none=>grind
  |some p0=>
   cases hL:a0D (c4v a) L with
   |none=>grind
   |some b=>simp only[hx,hL,az0]at hv;subst hv;obtain⟨us,d,c,e⟩:=b9r h hL;simp only[c4v,az2]at hx;obtain⟨v,hx,rfl⟩:=hx;obtain⟨w,f,g⟩:=a1n h hx;refine⟨(x.1,w)::us,by grind[a0D,a3a],by simp[c],λ j p q hj hq=> ?_⟩;grind
theorem c5U(h:Ok a Γ s){ty sz n:Nat}{d:TD}{b:List V}(hl:b.length=n)(hx:∀x∈b,InD Γ.g Γ.N d x):
  Good (b0G a ty sz (.k n) d false) Γ s {v:= .row s.nx sz 0 n,upd:=[(s.nx,some (.row ty sz b false))],cnt:=1}:=by
 grind[a7L,a1W,a1P]
theorem Good.le{d:List (AV×AS)}{b:Gm}{r:Out}(hl:Γ.le b)(h:Good d b s r):Good d Γ s r:=by
 obtain⟨p,hp,c,l2,h2⟩:=h;exact⟨p,hp,c,hl.trans l2,h2⟩
theorem b1B(h:Ok a Γ s){t:Nat}{n:Nat}{parts:Array (Nat×Operand)}{U:List (AV×AS)}(hr:a7e P t n parts.toList a=some U){call:PV.Calls}{o:Oper}(ho:o.op= .buildSlice t n parts):
  ∃r,opE P call s.get (a0b s.h) s.nx o=some r/\Good U Γ s r:=by
 unfold a7e at hr;split at hr
 .cases hr
 next e he=>
 split at hr
 .next z sz hz K=>
  split at hr
  .cases hr
  next hc=>
  simp only[ay8,ay2,ap6,Au8,au9]at hc;obtain⟨⟨c1,c2⟩,c3⟩:=hc;split at hr
  .cases hr
  next vs L=>
  split at hr
  .cases hr
  next E=>
  simp only at hr;injection hr with hr
  obtain⟨hk,M,W,_,N⟩:=a9F (Γ:=Γ) hz;have X:M.cells.length=sz:=by rw[<-(N.cells hk).1];exact c3
  obtain⟨us,Y,I,J⟩:=b9r h L;have c:∀q∈us,q.2.cells.length=sz/\q.1<(List.replicate n M).length/\q.2.fit=true:=by
   intro q hq;obtain⟨j,hj⟩:=List.getElem?_of_mem hq;have f:j<vs.length:=by rw[I];exact(ay0.1 hj).1
   obtain⟨e1,e2⟩:=J j vs[j] q (az5 f) hj;have hm:¬(vs[j].2.cells.length≠sz||vs[j].1>=n|| !b9L vs[j].2)=true:=λ h=>E (ar4.2 ⟨vs[j],au2 f,h⟩);simp only[ay8,ay2,ax2,ap6,Au8,au9,av7]at hm;obtain⟨⟨m1,m2⟩,m3⟩:=hm;obtain⟨_,f1,f2⟩:=a8g e2 m3;exact⟨by rw[<-f2.1];exact m1,by grind,f1⟩
  have l:∀b,a1H (List.replicate n M) sz us=some b->opE P call s.get (a0b s.h) s.nx o=some {v:= .row s.nx sz 0 n,upd:=[(s.nx,some (.row e sz b false))],cnt:=1}:=by
   intro b O;simp only[opE,ho,Az0,he,W,K,az1];rw[ay9 (by grind)];simp only[Y,O,az1];rfl
  subst hr;cases vs with
  |nil=>have:us=[]:=ay7.1 I.symm;subst this;obtain⟨g,l1,g1,n1,r1,v1,o1,i1⟩:=a3p 4 _ _ _ _ _ h N;obtain⟨b,C,Q,R,_⟩:=a7C (D:=λ x=>InD g.g g.N (a2O a z).1 x) c;refine⟨_,l b C,Good.le l1 (c5U o1 (by grind) λ x hx=>R (λ x hx=> ?_) (nofun) x hx)⟩;rw[(Aw9.1 hx).2];exact i1
  |cons v vs=>
   cases us with
   |nil=>cases I
   |cons u us=>
    simp only;split
    .next f=>
     obtain⟨g,l1,g1,n1,r1,v1,o1,i1⟩:=a3p 4 _ _ _ _ _ h (J 0 v u rfl rfl).2;obtain⟨m,l2,o2,k2,i2⟩:=a8e (d:=(a2O a v.2).1) (vs:=vs) (us:=us) o1 (by grind) (λ j p q hp hq=>(J (j+1) p q (by grind) (by grind)).2.mono l1);obtain⟨b,C,Q,_,y4⟩:=a7C (D:=λ _=>True) c;have F:∀y∈b,∃q∈u::us,y=q.2:=by
      have gen:∀{us:List (Nat×V)} {xs b:List V},a1H xs sz us=some b->∀(k:Nat) (y:V),b[k]?=some y->k∈us.map (·.1)->∃q∈us,y=q.2:=by
       intro us;induction us with
       |nil=>grind
       |cons p us ih=>
        intro xs b hp k y hy hk;obtain⟨i,w⟩:=p;simp only[a1H]at hp;split at hp
        .next A=>
         by_cases G:k∈us.map (·.1)
         .obtain⟨q,hq,e⟩:=ih hp k y hy G;grind
         .have S:k=i:=by
           rcases ay4.1 hk with hk|hk
           .exact hk
           .grind
          subst S;have H:∀{us:List (Nat×V)} {xs b:List V},a1H xs sz us=some b->k∉us.map (·.1)->b[k]?=xs[k]?:=by
           intro us;induction us with
           |nil=>grind[a1H]
           |cons p us Z=>
            intro xs b hp hk;obtain⟨i,w⟩:=p;simp only[a1H]at hp;split at hp
            .grind
            .cases hp
          have:=H hp G;rw[this,Ay4 A.2.1]at hy;injection hy with hy
          exact⟨(k,w),ay1 ..,hy.symm⟩
        .cases hp
      intro y hy;obtain⟨k,hk⟩:=List.getElem?_of_mem hy;refine gen C k y hk ?_;have T:k<n:=by
       have:=(ay0.1 hk).1;rw[Q,ap7]at this;exact this
      have B:(u::us).map (·.1)=(v::vs).map (·.1):=by
       apply List.ext_getElem?;intro j;rw[au3,au3];cases hj:(v::vs)[j]? with
       |none=>grind[List.getElem?_eq_none_iff]
       |some p=>grind
      rw[B];rw[f];exact aq2.2 T
     refine⟨_,l b C,Good.le (l1.trans l2) (c5U o2 (by grind) λ x hx=> ?_)⟩;obtain⟨q,hq,rfl⟩:=F x hx;rcases ay4.1 hq with rfl|hq
     .exact k2 _ i1
     .exact i2 q hq
    .next f=>
     obtain⟨g,l1,g1,n1,r1,v1,o1,i1⟩:=a3p 4 _ _ _ _ _ h N;obtain⟨m,l2,o2,k2,i2⟩:=a8e (d:=(a2O a z).1) o1 I (λ j p q hp hq=>(J j p q hp hq).2.mono l1);obtain⟨b,C,Q,R,_⟩:=a7C (D:=λ x=>InD m.g m.N (a6H (a2O a z).2 (a2O a z).1 (v::vs)).1 x) c;refine⟨_,l b C,Good.le (l1.trans l2) (c5U o2 (by grind) λ x hx=>R (λ x hx=> ?_) i2 x hx)⟩;rw[(Aw9.1 hx).2];exact k2 _ i1
 .cases hr
end
end
section
open Go.PV
section
variable (P:Program)
def opA(s:AS)(o:Oper):R:=
 match o.op with
 | .move x| .assign x=>(evA s x).bind λ v=>one v s
 | .pick c x y=>match evA s c,evA s x,evA s y with
   |some (.bool q),some x,some y=>some (d0X s q (λ s=>[(x,s)]) (λ s=>[(y,s)]))
   |_,_,_=>none
 | .alloc t=>(c0x P t).bind λ z=>if bkA z.cells&&t !=bT then none else one (.ptr (newB s (.var z.cells)).1 0) (newB s (.var z.cells)).2
 | .box t x=>(evA s x).bind λ v=>if b9L v then(if bkA v.cells&&t !=bT then none else one (.ptr (newB s (.var v.cells)).1 0) (newB s (.var v.cells)).2)else none
 | .build t parts=>c4k P t parts.toList s
 | .buildSlice t n parts=>a7e P t n parts.toList s
 | .load t x=>((evA s x).bind (b4z s)).bind λ q=>(c5g P t q.1).bind λ v=>one v q.2
 | .store t x y=>(evA s x).bind λ p=>(evA s y).bind λ v=>c4j P t p v s
 | .nilCheck x=>(evA s x).bind λ v=>a7A v s
 | .fieldAddr t x f=>(evA s x).bind λ v=>a8f P t f v s
 | .field t x f=>(evA s x).bind λ v=>c5p P t f v s
 | .indexAddr t x i=>(evA s x).bind λ v=>(evA s i).bind λ n=>a7S P t v n s
 | .index t x i=>(evA s x).bind λ v=>(evA s i).bind λ n=>c2H P t (b0H v) n s
 | .slice t x lo hi mx=>(evA s x).bind λ v=>(d3b s lo).bind λ l=>(d3b s hi).bind λ h=>(d3b s mx).bind λ m=>c5f P t (b0H v) l h m s
 | .binOp op t x y _=>(evA s x).bind λ a=>(evA s y).bind λ b=>d7h P op t a b s
 | .unOp op _ x=>(evA s x).bind λ v=>unA op (b0H v) s
 | .convert src dst x=>(evA s x).bind λ v=>d1k P src dst (b0H v) s
 | .makeFunc (.func f) first cap=>(c2c s first.toList).bind λ l=>(c2c s cap.toList).bind λ k=>one (.fn f l k) s
 | .makeSlice t l c=>(evA s l).bind λ n=>(evA s c).bind λ m=>a8j P t n m s
 | .extract x i=>(evA s x).bind λ v=>match v with
   | .tup l=>(l[i]?).bind λ v=>one v s
   |_=>none
 | .call {callee:= .builtin .len,args,argTypes}=>match c2c s args.toList with
   |some [v]=>c4D P argTypes[0]? (b0H v) s
   |_=>none
 | .call {callee:= .builtin .append,args,argTypes}=>match c2c s args.toList,argTypes.toList with
   |some [x,y],[t,u]=>b7N P t u x (b0H y) s
   |_,_=>none
 | .call {callee:= .builtin .min,args,.. }=>match c2c s args.toList with
   |some [.int k x,.int _ y]=>some (d0X s (.ge ((x.sub y).addc (-1))) (λ s=>[(.int k y,s)]) (λ s=>[(.int k x,s)]))
   |_=>none
 | .call {callee:= .builtin .max,args,.. }=>match c2c s args.toList with
   |some [.int k x,.int _ y]=>some (d0X s (.ge ((y.sub x).addc (-1))) (λ s=>[(.int k y,s)]) (λ s=>[(.int k x,s)]))
   |_=>none
 |_=>none
end
section
variable {P:Program} {a:AS} {Γ:Gm} {s:St} {call:PV.Calls} {o:Oper} {rs:List (AV×AS)}
theorem c0P{g:G}{N:Nat->Prop}(b:ByteArray):∀x∈a2F b,InD g N (.int .u8 0 255) x:=by
 intro x hx;unfold a2F at hx;obtain⟨y,_,rfl⟩:=ax5.1 hx;exact .int (by omega) (by have:=y.toNat_lt;omega)
theorem d1D(h:Ok a Γ s){av:AV}{v:V}(hv:In Γ av v){e:LE}{d:TD}(he:d7I a av=some (e,d)):
  e.ok Γ.ρ Γ.n/\∃xs,a4j (a0b s.h) v=some xs/\(xs.length:Int)=e.ev Γ.ρ/\∀x∈xs,InD Γ.g Γ.N d x:=by
 unfold d7I at he;split at he
 .cases hv with
  | @str _ b h1 h2=>
    simp only[az0,az8]at he;obtain⟨rfl,rfl⟩:=he;have hl:(a2F b).length=b.size:=by unfold a2F;rw[ap3];rfl
    exact⟨h1,a2F b,rfl,by grind,c0P b⟩
 .next c=>
  obtain⟨h1,xs,h2,h3,h4⟩:=d0u h hv he;refine⟨h1,xs,?_,h3,h4⟩;cases hv with
  |str=>grind
  |has=>simp[elA]at he
  |dat _ k2=>cases k2<;>exact h2
  |nils=>exact h2
  |row=>exact h2
  |_=>simp[elA]at he
theorem b3Q(h:Ok a Γ s){t:Nat}{l c:AV}{lv cv:V}(hl:In Γ l lv)(hc:In Γ c cv)(hr:a8j P t l c a=some rs){x y:Operand}(hx:ev s.get x=some lv)(hy:ev s.get y=some cv)(ho:o.op= .makeSlice t x y):
  ∃r,opE P call s.get (a0b s.h) s.nx o=some r/\Good rs Γ s r:=by
 unfold a8j at hr;split at hr
 .next e k n p m he=>
  split at hr
  .next i z sz hi hz d=>
   split at hr
   .cases hr
   next hg=>
   simp only[ay8,ay2,ax2,ap6,Au8,au9,av7,az6]at hg;obtain⟨⟨⟨g1,g2⟩,g3⟩,⟨g4,g5⟩,g6⟩:=hg;injection hr with hr
   subst hr;cases hl with
   | @int _ _ nv n1 n2=>cases hc with
     | @int _ _ mv m1 m2=>
       have b1:=h.ent n1 g4;have b2:=h.ent (a0o m1 n1) g5;have b3:=h.ent (a0k (a1g m1)) g6;rw[a0s]at b2;rw[a0j,a1m]at b3;obtain⟨hk,b,q,_,j⟩:=a9F (Γ:=Γ) hz;obtain⟨u,l1,w,_,r1,v1,o1,i1⟩:=a3p 4 _ _ _ _ _ h j;refine⟨{v:= .row s.nx sz 0 (List.replicate nv.toNat b).length,upd:=[(s.nx,some (.row e sz (List.replicate nv.toNat b) false))],cnt:=1},?_,Good.le l1 (a7L o1 (a0p n1 l1.n l1.ρ) ?_ ?_ λ h=>h)⟩
       .have f:b.cells.length=sz:=by rw[<-(j.cells hk).1];exact g3
        simp only[opE,ho,Az0,he,hx,hy,a4J (k:=k) (m:=nv) (by omega),a4J (k:=p) (m:=mv) (by omega),hi,q,d,az1];have cz:(decide (nv.toNat>mv.toNat)||decide (mv.toNat>1000000)||decide (i.bytes>1000)||decide (sz=0)||decide (b.cells.length≠sz))=false:=by
         rw[an1 (show¬nv.toNat>mv.toNat by omega),an1 (show¬mv.toNat>1000000 by omega),an1 g1,an1 g2,an1 (λ h=>h f)];rfl
        rw[cz];rw[ap7];rfl
       .rw[a0q n1 l1.ρ,ap7];omega
       .intro x g;rw[(Aw9.1 g).2];exact i1
  .cases hr
 .cases hr
theorem c0T(h:Ok a Γ s){t u:Nat}{x y:AV}{Z yv:V}(hx:In Γ x Z)(hy:In Γ y yv)(hr:b7N P t u x y a=some rs):∃r,a0M P (a0b s.h) s.nx t u Z yv=some r/\Good rs Γ s r:=by
 unfold b7N at hr;split at hr
 .cases hr
 next e he=>
 split at hr
 .next i du m dy hi Q I=>
  split at hr
  .cases hr
  next hg=>
  simp only[ay8,ay2,ax2,ap6,av7,aw5]at hg;obtain⟨⟨⟨⟨g1,g2⟩,g3⟩,g4⟩,g5⟩:=hg;obtain⟨m1,c,y1,y2,J⟩:=d1D h hy I;have hz:∃z,i.zero=some z/\z.cells.size=i.size:=by
   unfold d9u at g1;cases hz:i.zero with
   |none=>simp[hz]at g1
   |some z=>rw[hz]at g1;exact⟨z,rfl,by simpa using g1⟩
  obtain⟨z,z1,z2⟩:=hz;have K:c.any (fun y=>decide (y.cells.length≠i.size))=false:=by
   rw[Ax5];intro y hy;rcases g5 with g5|g5
   .simp[a9A (J y hy) g5]
   .have:=a0B g5 Γ.ρ;have:c=[]:=ay7.1 (by omega);subst this;cases hy
  have A:¬(c.any (fun y=>decide (y.cells.length≠i.size))||decide (z.cells.size≠i.size)||decide (i.size=0)||decide (i.bytes>1000)|| !a2P du)=true:=by
   rw[K,g4];simp[z2,g2,g3]
  unfold a0M;simp only[Az0,he,hi,z1,Q,y1,az1];rw[ay9 A];split at hr
  .split at hr
   .cases hr
   next d=>
   have d:a.ent (m.neg.addc b1e)=true:=by simpa using d
   have hl:=h.ent (a0k (a1g m1)) d;rw[a0j,a1m]at hl;injection hr with hr
   subst hr;cases hx;have B:¬c.length>a2Z:=by
    have:(a2Z:Int)=b1e:=rfl;omega
   simp only;by_cases g:c.isEmpty=true
   .have h0:c.length=0:=by rw[Ax8.1 g];rfl
    refine⟨{v:= .nils,cnt:=1},by rw[ax3 g];rfl,?_⟩;refine b0w h (b:= .ge (m.addc (-1))) (t:=false) (a0k m1) ?_ (fun h=>by cases h) (fun _ a' C=> ?_)
    .simp only[AB.holds,a0j];constructor
     .intro h;cases h
     .intro h;omega
    .obtain⟨l1,o1⟩:=C.nxUp (at3 s.nx);exact Good.one l1 .nils o1
   .have h0:c.length≠0:=fun h0=>g (by rw[ay7.1 h0];rfl);refine⟨{v:= .row s.nx i.size 0 c.length,upd:=[(s.nx,some (.row e i.size c false))],cnt:=1},by rw[ay9 g,ay9 B];rfl,?_⟩;refine b0w h (b:= .ge (m.addc (-1))) (t:=true) (a0k m1) ?_ (fun _ a' C=> ?_) (fun h=>by cases h)
    .simp only[AB.holds,a0j,true_iff];omega
    .exact a7L C m1 y2 J fun h=>h
  .next nm sz off n=>
   split at hr
   .next ty zz k dz D hb=>
    split at hr
    .cases hr
    next hc=>
    simp only[ay8,ay2,ax2,ap6,Au8,au9,av7]at hc;obtain⟨⟨⟨⟨⟨⟨c1,c2⟩,c3⟩,c4⟩,c5⟩,c6⟩,c7⟩:=hc;subst c1;subst c2;subst c3;injection hr with hr
    subst hr;cases hx with
    | @row _ _ _ _ ov nv h0 h1 h2 h3 h4=>
      have l:=a0N hb;obtain⟨_,b,R,S⟩:=h.box _ l;cases S with
      | @row _ _ _ _ _ f' xs k1 k2 k3 k4=>
        have e6:=h.ent (a0o k1 h2) c6;have e7:=h.ent (a0k (a1g (a1A h2 m1))) c7;rw[a0s]at e6;rw[a0j,a1m,a1B]at e7;have L:ov=0:=by have:=a0B c4 Γ.ρ;omega
        subst L;have M:a0b s.h (Γ.ν nm)=some (.row ty i.size xs f'):=by rw[<-h.g];exact R
        have N:¬(nv<xs.length/\f'=true):=by
         rintro⟨T,U⟩;rcases c5 with c5|c5
         .rw[c5]at h4;omega
         .have:=k4 U;rw[this]at c5;cases c5
        have w:¬(decide (ty≠ty)||decide (i.size≠i.size)||decide (i.size≠i.size)||decide (0≠0)||decide (nv>xs.length)||(decide (nv<xs.length)&&f')||decide (nv+c.length>a2Z))=true:=by
         have:(a2Z:Int)=b1e:=rfl;simp only[Au8,ap0,decide_false,As1,ay8,az6,ay2,ap6];exact⟨⟨by omega,N⟩,by omega⟩
        simp only[M];rw[ay9 w];refine⟨_,rfl,?_⟩;have f:(xs.take nv++c).length=nv+c.length:=by rw[ar0,au7,au8 (by omega)]
        have E:∀x∈xs.take nv++c,InD Γ.g Γ.N (if a0x m=some 0 then dz else if a0x n=some 0 then dy else a7d dz dy) x:=by
         intro x hx;rcases ax1.1 hx with hx|hx
         .have q:=k3 x (au4 hx);split
          .exact q
          .split
           .next W=>
            have:=a0B W Γ.ρ;have:nv=0:=by omega
            subst this;simp at hx
           .exact b3P q
         .have q:=J x hx;split
          .next X=>
           have:=a0B X Γ.ρ;have:c=[]:=ay7.1 (by omega);subst this;cases hx
          .split
           .exact q
           .exact b3Y q
        have F:InB Γ (.row ty i.size (n.add m) (if a0x m=some 0 then dz else if a0x n=some 0 then dy else a7d dz dy) D) (.row ty i.size (xs.take nv++c) f'):=
         .row (a1A h2 m1) (by rw[f,a1B];omega) E k4
        obtain⟨T,U,q3⟩:=h.named l;obtain⟨l1,o1⟩:=h.upd (bx:=(a.m,.row ty i.size (n.add m) (if a0x m=some 0 then dz else if a0x n=some 0 then dy else a7d dz dy) D)::a.bx.filter fun p=>p.1 !=nm)
         (us:=[(s.nx,some (.row ty i.size (xs.take nv++c) f')),(Γ.ν nm,none)]) (nx:=s.nx+1) (m:=a.m+1) (ν:=fun i=>if i=a.m then s.nx else Γ.ν i) (at3 _) (fun i hi=>by simp[Nat.ne_of_lt hi]) (at3 _)
         (fun i h1 h2=>by have:i=a.m:=by omega
                          subst this;simp) (fun i j h1 h2 h3 h4 _=>by omega)
         (fun p hp=>by
          rcases ay4.1 hp with rfl|hp
          .exact⟨.inr (.inl (h.nx _ (ay3 _))),au5 _⟩
          .have:p=(Γ.ν nm,none):=az7.1 hp;subst this;exact⟨.inl U,Av3 T⟩)
         (fun p hp=>by
          rcases ay4.1 hp with rfl|hp
          .exact .inr ⟨au5 _,.inr (by simp only[aw4];exact h.nx _ (ay3 _)),_,by simp[a0b],F⟩
          .obtain⟨G,O⟩:=as2.1 hp;refine .inl ⟨G,fun q hq=> ?_⟩;have p1:=(h.named G).1;rcases ay4.1 hq with rfl|hq
           .exact fun e=>by simp only at e;omega
           .have:q=(Γ.ν nm,none):=az7.1 hq;subst this;intro e;have:=h.inj p G _ l e.symm;rw[this]at O;simp at O)
         (fun p hp q hq e=>by
          have key:∀r∈a.bx,(if r.1=a.m then s.nx else Γ.ν r.1)=Γ.ν r.1/\Γ.ν r.1≠s.nx:=fun r hr=>by
           obtain⟨T,_,q3⟩:=h.named hr;exact⟨ay9 (by omega),by omega⟩
          rcases ay4.1 hp with rfl|hp<;>rcases ay4.1 hq with rfl|hq
          .rfl
          .have hq:=(as2.1 hq).1;rw[ax3 rfl,(key q hq).1]at e;exact absurd e.symm (key q hq).2
          .have hp:=(as2.1 hp).1;rw[ax3 rfl,(key p hp).1]at e;exact absurd e (key p hp).2
          .have hp:=(as2.1 hp).1;have hq:=(as2.1 hq).1;rw[(key p hp).1,(key q hq).1]at e;exact h.inj p hp q hq e)
        refine Good.one l1 ?_ o1;have:=In.row (Γ:=⟨Γ.ρ,Γ.n,fun j=>if j=a.m then s.nx else Γ.ν j,a.m+1,s.nx+1,a0b ([(s.nx,some (.row ty i.size (xs.take nv++c) f')),(Γ.ν nm,none)]++s.h),fun id=>∃p∈(a.m,ABox.row ty i.size (n.add m) (if a0x m=some 0 then dz else if a0x n=some 0 then dy else a7d dz dy) D)::a.bx.filter (fun p=>p.1 !=nm),(fun j=>if j=a.m then s.nx else Γ.ν j) p.1=id⟩)
         (nm:=a.m) (sz:=i.size) (off:= .k 0) (e:=n.add m) (o:=0) (m:=nv+c.length) (au5 _) (a1W 0) (a1A h2 m1) (by rw[a1P];rfl) (by show((nv+c.length:Nat):Int)=(n.add m).ev Γ.ρ;rw[a1B];omega)
        simp only[aw4]at this;exact this
   .cases hr
  .next n dz=>
   split at hr
   .next hc=>
    simp only[az6,ay8,aw5]at hc;obtain⟨⟨c1,c2⟩,c3⟩:=hc;injection hr with hr
    subst hr;cases hx with
    | @slf _ _ zs w1 w2 w3=>
      have e1:=h.ent (a0k m1) c1;have e3:=h.ent (a0k (a1g (a1A w1 m1))) c3;rw[a0j]at e1;rw[a0j,a1m,a1B]at e3;have d:(a2Z:Int)=b1e:=rfl;have g:¬c.isEmpty=true:=fun h=>by
       have:c.length=0:=by rw[Ax8.1 h];rfl
       omega
      have Y:∀x∈zs,x.cells.length=i.size:=fun x hx=>by
       rcases c2 with c2|c2
       .exact a9A (w3 x hx) c2
       .have:=a0B c2 Γ.ρ;have:zs=[]:=ay7.1 (by omega);subst this;cases hx
      have H:zs.any (fun y=>decide (y.cells.length≠i.size))=false:=by
       rw[Ax5];intro y hy;simp[Y y hy]
      have f:(zs++c).length=zs.length+c.length:=ar0;have E:∀x∈zs++c,InD Γ.g Γ.N (if a0x n=some 0 then dy else a7d dz dy) x:=fun x hx=>by
       rcases ax1.1 hx with hx|hx
       .split
        .next h0=>
         have:=a0B h0 Γ.ρ;have:zs=[]:=ay7.1 (by omega);subst this;cases hx
        .exact b3P (w3 x hx).zero
       .split
        .exact J x hx
        .exact b3Y (J x hx)
      refine⟨{v:= .row s.nx i.size 0 (zs++c).length,upd:=[(s.nx,some (.row e i.size (zs++c) false))],cnt:=1},?_,a7L h (a1A w1 m1) (by rw[f,a1B];omega) E fun h=>h⟩;simp only;rw[ay9 g,H,ay9 (by simp only[As1,ay2];omega),f];rfl
   .cases hr
  .cases hr
 .cases hr
end
end
section
open Go.PV
section
variable {P:Program} {a:AS} {Γ:Gm} {s:St} {call:PV.Calls} {o:Oper} {rs:List (AV×AS)}
variable {x:AV} {y:Operand} {v:V}
theorem b6f(h:Ok a Γ s)(hx:In Γ x v)(hr:a7A x a=some rs)(hy:ev s.get y=some v)(ho:o.op= .nilCheck y):
  ∃r,opE P call s.get (a0b s.h) s.nx o=some r/\Good rs Γ s r:=by
 refine⟨{v:=v},?_,?_⟩
 .simp only[opE,ho,Az0,hy,az1];cases hx<;>grind[a7A]
 .have:rs=[(x,a)]:=by
   cases x<;>first|grind[a7A]|(injection hr with hr;exact hr.symm)
  subst this;exact GoodP.good (GoodP.one (Gm.le.refl Γ) hx h)
theorem c7P(hx:In Γ x v){o:Nat}{r:AV}(hr:c9Z o x=some r):∃w,a3B o v=some w/\In Γ r w:=by
 cases hx with
 |ptr h0=>cases hr;exact⟨_,rfl,.ptr h0⟩
 |eptr h0 h1 h2=>cases hr;exact⟨_,rfl,.eptr h0 h1 h2⟩
 |cptr h1 h2=>cases hr;have:=(show InL Γ _ _ from⟨h1,h2⟩).drop o;exact⟨_,rfl,.cptr this.1 this.2⟩
 |cptrR h1 h2 h3 h4 h5=>cases hr;have:=(show InL Γ _ _ from⟨h4,h5⟩).drop o;rw[List.drop_drop]at this;exact⟨_,rfl,.cptrR h1 h2 h3 this.1 this.2⟩
 |_=>cases hr
variable {f:Nat} {t:Nat}
theorem b3n(h:Ok a Γ s)(hx:In Γ x v)(hr:a8f P t f x a=some rs)(hy:ev s.get y=some v)(ho:o.op= .fieldAddr t y f):
  ∃r,opE P call s.get (a0b s.h) s.nx o=some r/\Good rs Γ s r:=by
 unfold a8f at hr;split at hr
 .cases hr
 next off ft hf=>
 split at hr
 .cases hr
 next n n1=>
 split at hr
 .cases hr
 next n2=>
 rw[az3]at hr;obtain⟨r,r1,hr⟩:=hr;injection hr with hr
 subst hr;obtain⟨w,b,c⟩:=c7P hx r1;refine⟨{v:=w},?_,GoodP.good (GoodP.one (Gm.le.refl Γ) c h)⟩;simp only[opE,ho,Az0,hf,n1,az1];rw[ay9 n2];simp only[hy,b,az1];rfl
theorem c2y(h:Ok a Γ s)(hx:In Γ x v)(hr:c5p P t f x a=some rs)(hy:ev s.get y=some v)(ho:o.op= .field t y f):
  ∃r,opE P call s.get (a0b s.h) s.nx o=some r/\Good rs Γ s r:=by
 unfold c5p at hr;split at hr
 .next off ft l hf=>
  split at hr
  .next w hw=>
   injection hr with hr
   subst hr;cases hx with
   |agg h1 h2=>obtain⟨z,b,c⟩:=b6T ((show InL Γ _ _ from⟨h1,h2⟩).drop off) hw;refine⟨{v:=z},?_,GoodP.good (GoodP.one (Gm.le.refl Γ) c h)⟩;simp only[opE,ho,Az0,hf,hy,b,az1];rfl
  .cases hr
 .cases hr
theorem b3v(h:Ok a Γ s){i:AV}{iv:V}(hx:In Γ x v)(hi:In Γ i iv)(hr:a7S P t x i a=some rs){z:Operand}(hy:ev s.get y=some v)(hz:ev s.get z=some iv)(ho:o.op= .indexAddr t y z):
  ∃r,opE P call s.get (a0b s.h) s.nx o=some r/\Good rs Γ s r:=by
 unfold a7S at hr;split at hr
 .next e k n he=>
  split at hr
  .next sz m C hm=>
   split at hr
   .cases hr
   next hc=>
   simp only[ax2,av7,az6]at hc;obtain⟨c1,c2⟩:=hc;cases hi with
   | @int _ _ q n1 n2=>
     obtain⟨m1,mm,m2,m3⟩:=b3Z hx hm;have b1:=h.ent n1 c1;have b2:=h.ent (a0k (a0o m1 n1)) c2;rw[a0j,a0s]at b2;have hq:a2u (.lit (.int k q))=some q.toNat:=a4J (by omega);have l:q.toNat<mm:=by omega
     cases hx with
     | @dat r F d G _ H k1 k2 k3 k4=>
       simp only at hr;split at hr
       .next hs=>
        rw[az6,aw5]at hs;obtain⟨hs,p⟩:=hs;injection hr with hr
        subst hr;cases k2 with
        |nils j1=>grind[lenOf]
        | @sl _ _ _ _ _ xs j1 j2=>simp only[lenOf,az0]at m2;subst m2;have u:=(j2 xs[q.toNat] (au2 l)).zero (g:=Γ.g) (N:=Γ.N);obtain⟨D,l1,_,_,o1,i1⟩:=a7I 4 _ _ _ _ _ h u;have c:=i1.cells p;refine⟨{v:= .dptr xs[q.toNat].cells},?_,GoodP.good (GoodP.one l1 (.cptr c.1 c.2) o1)⟩;simp only[opE,ho,Az0,hz,hq,he,C,hy,az1,az5 l];rw[ay9 (λ h=>h (a9A u hs))];rfl
        | @row _ _ _ _ id ty w off nn xs f j1 j2 j3 j4 j6 j5=>
          simp only[lenOf,az0]at m2;subst m2;have A:w=sz:=by rw[j6]at hs;injection hs
          subst A;have j:off+q.toNat<xs.length:=by omega
          have B:xs[off+q.toNat]∈(xs.drop off).take nn:=by
           refine ax4 (i:=q.toNat) ?_;rw[av1,ax3 l,at5,az5 j]
          obtain⟨D,l1,_,_,o1,i1⟩:=a7I 4 _ _ _ _ _ h (j5 _ B);have c:=i1.cells p;obtain⟨I,f2,J⟩:=l1.keeps _ _ _ _ _ j1 j2;refine⟨{v:= .eptr id w (off+q.toNat) 0},?_,GoodP.good (GoodP.one l1 (.cptrR J I (az5 j) c.1 c.2) o1)⟩;simp_all[opE]
       .cases hr
     | @row nm K off F ov H k0 k1 k2 k3 k4=>
       simp only at hr;split at hr
       .next ty M O d f hb=>
        split at hr
        .next hs=>
         rw[az6,aw5]at hs;obtain⟨rfl,hs⟩:=hs;injection hr with hr
         subst hr;simp only[lenOf,az0]at m2;subst m2;simp only[c1G,az0]at hm;subst hm;obtain⟨_,b,L,E⟩:=h.box _ (a0N hb);cases E with
         |row j1 j2 j3 j4=>have b3:=h.ent (a0o (a0o j1 k1) k2) hs;rw[a0s,a0s]at b3;refine⟨{v:= .eptr (Γ.ν nm) K (ov+q.toNat) 0},?_,GoodP.good (GoodP.one (Gm.le.refl Γ) (.eptr k0 j1 (by omega)) h)⟩;simp_all[opE]
        .cases hr
       .cases hr
     |nils=>grind
     |_=>grind
  .cases hr
 .cases hr
theorem c5F(h:Ok a Γ s){d:Array Nat}(hx:In Γ x v)(hr:c4D P d[0]? x a=some rs){args:Array Operand}(hy:evs s.get args=some [v])(ho:o.op= .call {callee:= .builtin .len,args:=args,argTypes:=d}):
  ∃r,opE P call s.get (a0b s.h) s.nx o=some r/\Good rs Γ s r:=by
 unfold c4D at hr;split at hr
 .next e t ht=>
  split at hr
  .next c=>
   injection hr with hr
   subst hr;have f:P.underlying t=some .string:=by
    unfold b3g at c;split at c
    .grind
    .cases c
   cases hx with
   | @str _ b h1 h2=>
     refine⟨{v:= .lit (.int .i64 b.size)},?_,GoodP.good (GoodP.one (Gm.le.refl Γ) (.int h1 h2) h)⟩;have:a0t P (Builtin.len_ d o.type #[.string b])=some (.lit (.int .i64 b.size)):=by
      simp only[a0t,Builtin.len_,ht,Az0];have e0:(#[Value.string b]:Array Value)[0]?=some (.string b):=rfl;simp only[e0,a0a,a0g f,az1,a0i,goInt];rfl
     simp only[opE,ho,Az0,hy,az1,a1b,this];rfl
  .cases hr
 .next i t ht=>
  split at hr
  .next e el he g=>
   injection hr with hr
   subst hr;obtain⟨h1,m,h2,h3⟩:=b3Z hx g;refine⟨{v:= .lit (.int .i64 m)},?_,GoodP.good (GoodP.one (Gm.le.refl Γ) (.int h1 h3) h)⟩;have j:∀u,v≠ .lit u:=λ u e=>by subst e;cases h2
   simp only[opE,ho,Az0,hy,az1];cases v<;>grind
  .cases hr
 .cases hr
theorem d5Q(h:Ok a Γ s)(hr:opA P a o=some rs):∃r,opE P call s.get (a0b s.h) s.nx o=some r/\Good rs Γ s r:=by
 have one':∀{x:Operand} {rs:List (AV×AS)},((evA a x).bind λ v=>one v a)=some rs->∃v,ev s.get x=some v/\GoodP rs Γ s v:=by
  intro x rs hr;rw[az3]at hr;obtain⟨av,h1,hr⟩:=hr;injection hr with hr
  subst hr;obtain⟨v,h2,h3⟩:=a1n h h1;exact⟨v,h2,GoodP.one (Gm.le.refl Γ) h3 h⟩
 cases ho:o.op with
 |move x=>simp only[opA,ho]at hr;obtain⟨v,h2,h3⟩:=one' hr;exact⟨{v:=v},by grind[opE],h3.good⟩
 |assign x=>simp only[opA,ho]at hr;obtain⟨v,h2,h3⟩:=one' hr;exact⟨{v:=v},by grind[opE],h3.good⟩
 |pick c x y=>
  simp only[opA,ho]at hr;split at hr
  .next q ax ay hq hx hy=>
   injection hr with hr
   subst hr;obtain⟨cv,c1,c2⟩:=a1n h hq;obtain⟨J,j,K⟩:=a1n h hx;obtain⟨L,A,M⟩:=a1n h hy;cases c2 with
   | @bool _ t b1 b2=>
     refine⟨{v:=if t then J else L},?_,b0w h b1 b2 (λ ht B e=> ?_) (λ ht B e=> ?_)⟩
     .simp only[opE,ho,Az0,c1,az1];grind
     .subst ht;exact GoodP.good (GoodP.one (Gm.le.refl Γ) K e)
     .subst ht;exact GoodP.good (GoodP.one (Gm.le.refl Γ) M e)
  .cases hr
 |alloc t=>
  simp only[opA,ho]at hr;rw[az3]at hr;obtain⟨z,hz,hr⟩:=hr;split at hr
  .cases hr
  next E=>
  injection hr with hr
  subst hr;obtain⟨hk,H,V,_,I⟩:=a9F (Γ:=Γ) hz;have hg:(bk H.cells&&t !=bT)=false:=by
   cases h1:bkA z.cells with
   |false=>rw[c2E (I.cells hk) h1];rfl
   |true=>grind
  obtain⟨C,l1,_,n1,n2,o1⟩:=h.newB (.var (I.cells hk));refine⟨{v:= .ptr s.nx 0,upd:=[(s.nx,some (.var H.cells))],cnt:=1},?_,Good.one l1 ?_ o1⟩
  .grind[opE]
  .rw[<-n1];exact .ptr n2
 |box t x=>
  simp only[opA,ho]at hr;rw[az3]at hr;obtain⟨av,hx,hr⟩:=hr;split at hr
  .next hf=>
   split at hr
   .cases hr
   next E=>
   injection hr with hr
   subst hr;obtain⟨v,v1,d⟩:=a1n h hx;obtain⟨_,f1,f2⟩:=a8g d hf;have hg:(bk v.cells&&t !=bT)=false:=by
    cases h1:bkA av.cells with
    |false=>rw[c2E f2 h1];rfl
    |true=>grind
   obtain⟨C,l1,_,n1,n2,o1⟩:=h.newB (.var f2);refine⟨{v:= .ptr s.nx 0,upd:=[(s.nx,some (.var v.cells))],cnt:=1},?_,Good.one l1 ?_ o1⟩
   .simp_all[opE]
   .rw[<-n1];exact .ptr n2
  .cases hr
 |build t parts=>simp only[opA,ho]at hr;exact c5j h hr ho
 |buildSlice t n parts=>simp only[opA,ho]at hr;exact b1B h hr ho
 |load t x=>
  simp only[opA,ho]at hr;rw[az3]at hr;obtain⟨⟨l,B⟩,h1,hr⟩:=hr;rw[az3]at h1 hr;obtain⟨p,hp,hl⟩:=h1;obtain⟨v,hv,hr⟩:=hr;injection hr with hr
  subst hr;obtain⟨pv,N,F⟩:=a1n h hp;obtain⟨cs,C,c1,l1,o1,i1⟩:=c7N h F hl;obtain⟨w,W,O⟩:=b6T i1 hv;exact⟨{v:=w},by simp_all[opE],GoodP.good (GoodP.one l1 O o1)⟩
 |store t x y=>simp only[opA,ho]at hr;rw[az3]at hr;obtain⟨p,hp,hr⟩:=hr;rw[az3]at hr;obtain⟨v,hv,hr⟩:=hr;obtain⟨pv,N,F⟩:=a1n h hp;obtain⟨g,v1,d⟩:=a1n h hv;obtain⟨n,u,X,Y,Z,s4⟩:=c2v h F d hr;simp_all[opE]
 |nilCheck x=>simp only[opA,ho]at hr;rw[az3]at hr;obtain⟨v,hv,hr⟩:=hr;obtain⟨g,v1,d⟩:=a1n h hv;exact b6f h d hr v1 ho
 |fieldAddr t x f=>simp only[opA,ho]at hr;rw[az3]at hr;obtain⟨v,hv,hr⟩:=hr;obtain⟨g,v1,d⟩:=a1n h hv;exact b3n h d hr v1 ho
 |field t x f=>simp only[opA,ho]at hr;rw[az3]at hr;obtain⟨v,hv,hr⟩:=hr;obtain⟨g,v1,d⟩:=a1n h hv;exact c2y h d hr v1 ho
 |indexAddr t x i=>simp only[opA,ho]at hr;rw[az3]at hr;obtain⟨v,hv,hr⟩:=hr;rw[az3]at hr;obtain⟨n,hn,hr⟩:=hr;obtain⟨g,v1,d⟩:=a1n h hv;obtain⟨nv,n1,n2⟩:=a1n h hn;exact b3v h d n2 hr v1 n1 ho
 |index t x i=>simp only[opA,ho]at hr;rw[az3]at hr;obtain⟨v,hv,hr⟩:=hr;rw[az3]at hr;obtain⟨n,hn,hr⟩:=hr;obtain⟨g,v1,d⟩:=a1n h hv;obtain⟨nv,n1,n2⟩:=a1n h hn;obtain⟨u,w,k1,k2,z,k3,k4⟩:=c3a h (a3j d) n2 hr;exact⟨{v:=z},by simp_all[opE],k4.good⟩
 |slice t x lo hi mx=>simp only[opA,ho]at hr;rw[az3]at hr;obtain⟨v,hv,hr⟩:=hr;rw[az3]at hr;obtain⟨l,hl,hr⟩:=hr;rw[az3]at hr;obtain⟨u,hu,hr⟩:=hr;rw[az3]at hr;obtain⟨m,hm,hr⟩:=hr;obtain⟨g,v1,d⟩:=a1n h hv;obtain⟨lv,l1,l2⟩:=b6V h hl;obtain⟨uv,u1,Q⟩:=b6V h hu;obtain⟨mv,m1,m2⟩:=b6V h hm;obtain⟨z,k3,k4⟩:=c3P h (a3j d) l2 Q m2 hr;exact⟨{v:=z},by simp_all[opE],k4.good⟩
 |binOp op t x y u=>simp only[opA,ho]at hr;rw[az3]at hr;obtain⟨v,hv,hr⟩:=hr;rw[az3]at hr;obtain⟨n,hn,hr⟩:=hr;obtain⟨g,v1,d⟩:=a1n h hv;obtain⟨nv,n1,n2⟩:=a1n h hn;obtain⟨z,k3,k4⟩:=d0H h d n2 hr (p:=x) (q:=y);exact⟨{v:=z},by simp_all[opE],k4.good⟩
 |unOp op t x=>simp only[opA,ho]at hr;rw[az3]at hr;obtain⟨v,hv,hr⟩:=hr;obtain⟨g,v1,d⟩:=a1n h hv;obtain⟨u,k1,z,k3,k4⟩:=d3X (P:=P) h (a3j d) hr;exact⟨{v:=z},by simp_all[opE],k4.good⟩
 |convert src R x=>simp only[opA,ho]at hr;rw[az3]at hr;obtain⟨v,hv,hr⟩:=hr;obtain⟨g,v1,d⟩:=a1n h hv;obtain⟨z,k3,k4⟩:=c7v h (a3j d) hr x v1 ho (call:=call);exact⟨_,k3,k4.good⟩
 |makeFunc f first cap=>
  cases f with
  |func f=>
   simp only[opA,ho]at hr;rw[az3]at hr;obtain⟨l,hl,hr⟩:=hr;rw[az3]at hr;obtain⟨k,hk,hr⟩:=hr;injection hr with hr
   subst hr;obtain⟨lv,l1,l2⟩:=a4R h hl;obtain⟨kv,k1,k2⟩:=a4R h hk;exact⟨{v:= .fn f lv kv},by grind[opE],GoodP.good (GoodP.one (Gm.le.refl Γ) (.fn l2.1 k2.1 l2.2 k2.2) h)⟩
  |_=>grind[opA]
 |makeSlice t l c=>simp only[opA,ho]at hr;rw[az3]at hr;obtain⟨v,hv,hr⟩:=hr;rw[az3]at hr;obtain⟨n,hn,hr⟩:=hr;obtain⟨g,v1,d⟩:=a1n h hv;obtain⟨nv,n1,n2⟩:=a1n h hn;exact b3Q h d n2 hr v1 n1 ho
 |extract x i=>
  simp only[opA,ho]at hr;rw[az3]at hr;obtain⟨v,hv,hr⟩:=hr;obtain⟨g,v1,d⟩:=a1n h hv;cases d with
  | @tup l cs t1 t2=>
    simp only at hr;rw[az3]at hr;obtain⟨w,hw,hr⟩:=hr;injection hr with hr
    subst hr;have G:i<cs.length:=by rw[<-t1];exact(ay0.1 hw).1
    refine⟨{v:=cs[i]},?_,GoodP.good (GoodP.one (Gm.le.refl Γ) (t2 i w cs[i] hw (az5 G)) h)⟩;grind[opE]
  |_=>simp at hr
 |call c=>
  obtain⟨callee,args,ts⟩:=c;cases callee with
  |value f=>grind[opA]
  |invoke x n=>simp[opA,ho]at hr
  |builtin b=>
   have two:∀{k D:IntKind} {x y:LE},c2c a args.toList=some [.int k x,.int D y]->x.ok Γ.ρ Γ.n/\y.ok Γ.ρ Γ.n/\evs s.get args=some [.lit (.int k (x.ev Γ.ρ)),.lit (.int D (y.ev Γ.ρ))]:=by
    intro k D x y hv;obtain⟨vs,e1,e2⟩:=a4R h hv;cases vs with
    |nil=>cases e2.1
    |cons p vs=>cases vs with
     |nil=>have:=e2.1;simp at this
     |cons q vs=>cases vs with
      |cons=>have:=e2.1;simp at this
      |nil=>
       have S:=e2.2 0 _ p rfl rfl;have T:=e2.2 1 _ q rfl rfl;cases S with
       |int a1 a2=>cases T with
        |int b1 b2=>grind
   cases b with
   |append=>
    simp only[opA,ho]at hr;split at hr
    .next x y t u hv U=>
     obtain⟨vs,e1,e2⟩:=a4R h hv;cases vs with
     |nil=>cases e2.1
     |cons p vs=>cases vs with
      |nil=>have:=e2.1;simp at this
      |cons q vs=>cases vs with
       |cons=>have:=e2.1;simp at this
       |nil=>obtain⟨r,r1,r2⟩:=c0T h (e2.2 0 _ p rfl rfl) (a3j (e2.2 1 _ q rfl rfl)) hr;grind[opE]
    .cases hr
   |len=>
    simp only[opA,ho]at hr;split at hr
    .next x hv=>
     obtain⟨vs,e1,e2⟩:=a4R h hv;cases vs with
     |nil=>cases e2.1
     |cons p vs=>cases vs with
      |cons=>have:=e2.1;simp at this
      |nil=>exact c5F h (a3j (e2.2 0 _ p rfl rfl)) hr e1 ho
    .cases hr
   |min=>
    simp only[opA,ho]at hr;split at hr
    .next k x D y hv=>
     injection hr with hr
     subst hr;obtain⟨j,A,e1⟩:=two hv;refine⟨{v:= .lit (.int k (if y.ev Γ.ρ<x.ev Γ.ρ then y.ev Γ.ρ else x.ev Γ.ρ))},?_,b0w h (b:= .ge ((x.sub y).addc (-1))) (t:=decide (y.ev Γ.ρ<x.ev Γ.ρ)) (a0k (a0o j A)) ?_ (λ ht B e=> ?_) (λ ht B e=> ?_)⟩
     .simp only[opE,ho,Az0,e1,az1];rfl
     .simp only[AB.holds,a0j,a0s,ay2];omega
     .have ht:y.ev Γ.ρ<x.ev Γ.ρ:=by simpa using ht
      exact GoodP.good (GoodP.one (Gm.le.refl Γ) (.int A (by rw[ax3 ht])) e)
     .have ht:¬y.ev Γ.ρ<x.ev Γ.ρ:=by simpa using ht
      exact GoodP.good (GoodP.one (Gm.le.refl Γ) (.int j (by rw[ay9 ht])) e)
    .cases hr
   |max=>
    simp only[opA,ho]at hr;split at hr
    .next k x D y hv=>
     injection hr with hr
     subst hr;obtain⟨j,A,e1⟩:=two hv;refine⟨{v:= .lit (.int k (if y.ev Γ.ρ>x.ev Γ.ρ then y.ev Γ.ρ else x.ev Γ.ρ))},?_,b0w h (b:= .ge ((y.sub x).addc (-1))) (t:=decide (y.ev Γ.ρ>x.ev Γ.ρ)) (a0k (a0o A j)) ?_ (λ ht B e=> ?_) (λ ht B e=> ?_)⟩
     .simp only[opE,ho,Az0,e1,az1];rfl
     .simp only[AB.holds,a0j,a0s,ay2];omega
     .have ht:y.ev Γ.ρ>x.ev Γ.ρ:=by simpa using ht
      exact GoodP.good (GoodP.one (Gm.le.refl Γ) (.int A (by rw[ax3 ht])) e)
     .have ht:¬y.ev Γ.ρ>x.ev Γ.ρ:=by simpa using ht
      exact GoodP.good (GoodP.one (Gm.le.refl Γ) (.int j (by rw[ay9 ht])) e)
    .cases hr
   |_=>simp[opA,ho]at hr
 |_=>simp[opA,ho]at hr
end
end
section
open Go.PV
def Gm.bare(Γ:Gm)(nb:Nat):Gm:={ρ:=Γ.ρ,n:=Γ.n,ν:=λ i=>i,m:=nb,nx:=0,g:=g0,N:=N0}
inductive Ce where
 |av (a:AV)
 |own (ty sz:Nat) (e:LE) (d:TD)
 |may (e:LE) (d:TD)
 |self
 deriving Inhabited
inductive Pa where
 |ce (c:Ce)
 |agg (l:List Ce)
 deriving Inhabited
inductive Re where
 |pa (p:Pa)
 |tup (l:List Pa)
 deriving Inhabited
inductive InC (Γ:Gm):Ce->V->Prop
 |av {a:AV} {v:V}:a4z a=true->In (Γ.bare 0) a v->InC Γ (.av a) v
 |own {ty sz:Nat} {e:LE} {d:TD} {f:Bool} {xs:List V}:e.ok Γ.ρ Γ.n->(xs.length:Int)=e.ev Γ.ρ->(∀x∈xs,InD g0 N0 d x)->InC Γ (.own ty sz e d) (.sl (some (ty,sz,f)) xs)
 |may0 {e:LE} {d:TD} {v:V} {m:Nat} {hi:Int}:e.ok Γ.ρ Γ.n->InD g0 N0 (.sl false hi d) v->lenOf v=some m->(m:Int)=e.ev Γ.ρ->InC Γ (.may e d) v
 |may1 {ty sz:Nat} {e:LE} {d:TD} {f:Bool} {xs:List V}:e.ok Γ.ρ Γ.n->(xs.length:Int)=e.ev Γ.ρ->a4x d=some sz->(∀x∈xs,InD g0 N0 d x)->InC Γ (.may e d) (.sl (some (ty,sz,f)) xs)
 |self:InC Γ .self (.dptr [])
def InCs(Γ:Gm)(l:List Ce)(cs:List V):Prop:=l.length=cs.length/\∀(j:Nat) (a:Ce) (c:V),l[j]?=some a->cs[j]?=some c->InC Γ a c
inductive InP (Γ:Gm):Pa->V->Prop
 |ce {c:Ce} {v:V}:InC Γ c v->(∀l,v≠ .agg l)->(∀l,v≠ .tup l)->InP Γ (.ce c) v
 |agg {l:List Ce} {cs:List V}:InCs Γ l cs->InP Γ (.agg l) (.agg cs)
def InPs(Γ:Gm)(l:List Pa)(cs:List V):Prop:=l.length=cs.length/\∀(j:Nat) (a:Pa) (c:V),l[j]?=some a->cs[j]?=some c->InP Γ a c
inductive InR (Γ:Gm):Re->V->Prop
 |pa {p:Pa} {v:V}:InP Γ p v->InR Γ (.pa p) v
 |tup {l:List Pa} {cs:List V}:InPs Γ l cs->InR Γ (.tup l) (.tup cs)
def InBs(Γ:Gm)(l:List (List Ce))(bs:List (List V)):Prop:=l.length=bs.length/\∀(j:Nat) (a:List Ce) (c:List V),l[j]?=some a->bs[j]?=some c->InCs Γ a c
theorem d1z(Γ:Gm):(Γ.bare 0).le Γ:=⟨ay3 _,aw7 _,aw7 _,λ _ _=>rfl,λ i h=>absurd h (as0 i),λ _ _ _=>aw7 _,Keeps.zero⟩
variable {Γ:Gm}
theorem c4n{b:Gm}(h:Γ.le b)(nb:Nat):(Γ.bare nb).le (b.bare nb):=⟨h.n,ay3 _,ay3 _,h.ρ,λ _ _=>rfl,λ i h k=>absurd h (Ax4.2 k),Keeps.refl⟩
theorem InC.mono{Γ b:Gm}(h:Γ.le b){c:Ce}{v:V}(hc:InC Γ c v):InC b c v:=by
 cases hc with
 |av h0 h1=>exact .av h0 (h1.mono (c4n h 0))
 |own h1 h2 h3=>exact .own (a0p h1 h.n h.ρ) (by rw[a0q h1 h.ρ];exact h2) h3
 |may0 h1 h2 h3 h4=>exact .may0 (a0p h1 h.n h.ρ) h2 h3 (by rw[a0q h1 h.ρ];exact h4)
 |may1 h1 h2 h3 h4=>exact .may1 (a0p h1 h.n h.ρ) (by rw[a0q h1 h.ρ];exact h2) h3 h4
 |self=>exact .self
theorem InCs.mono{Γ b:Gm}(h:Γ.le b){l:List Ce}{cs:List V}(hc:InCs Γ l cs):InCs b l cs:=⟨hc.1,λ j a c ha d=>(hc.2 j a c ha d).mono h⟩
theorem InP.mono{Γ b:Gm}(h:Γ.le b){p:Pa}{v:V}(hc:InP Γ p v):InP b p v:=by
 cases hc with
 |ce h1 h2 h3=>exact .ce (h1.mono h) h2 h3
 |agg h1=>exact .agg (h1.mono h)
theorem InPs.mono{Γ b:Gm}(h:Γ.le b){l:List Pa}{cs:List V}(hc:InPs Γ l cs):InPs b l cs:=⟨hc.1,λ j a c ha d=>(hc.2 j a c ha d).mono h⟩
variable {cs:List V} {v:V}
def d0F(a:AS):Ce->AV×AS
 | .av v=>(v,a)
 | .own ty sz e d=>(.row a.m sz (.k 0) e,(newB a (.row ty sz e d true)).2)
 | .may e d=>(.dat true e d,a)
 | .self=>(.cptr [],a)
def a3L(nm:Nat)(a:AS):Ce->AV×AS
 | .self=>(.ptr nm 0,a)
 | .av (.cptr _)=>(.any,a)
 |c=>d0F a c
def a5l{A B:Type}(f:AS->A->B×AS)(a:AS):List A->List B×AS
 |[]=>([],a)
 |c::r=>((f a c).1::(a5l f (f a c).2 r).1,(a5l f (f a c).2 r).2)
def d5L(a:AS):Pa->AV×AS
 | .ce c=>d0F a c
 | .agg l=>(.agg (a5l d0F a l).1,(a5l d0F a l).2)
def d9j(a:AS):Re->AV×AS
 | .pa p=>d5L a p
 | .tup l=>(.tup (a5l d5L a l).1,(a5l d5L a l).2)
section
variable {a:AS} {Γ:Gm} {s:St}
abbrev On(s:St)(us:HP)(nx:Nat):St:={s with h:=us++s.h,nx:=nx}
theorem Ok.newU(h:Ok a Γ s){ty sz:Nat}{xs:List V}{f:Bool}:∃b,Γ.le b/\b.ρ=Γ.ρ/\b.n=Γ.n/\Ok a b {s with h:=[(s.nx,some (.row ty sz xs f))]++s.h,nx:=s.nx+1}/\¬b.N s.nx/\b.g s.nx=some (.row ty sz xs f):=by
 obtain⟨l1,o1⟩:=h.upd (bx:=a.bx) (us:=[(s.nx,some (.row ty sz xs f))]) (nx:=s.nx+1) (m:=a.m) (ν:=Γ.ν) (ay3 _) (λ _ _=>rfl) (at3 _) (λ i h1 h2=>by omega) (λ i j h1 h2 h3 h4 _=>by omega)
  (λ p hp=>by
   have:p=(s.nx,some (.row ty sz xs f)):=az7.1 hp;subst this;exact⟨.inr (.inl (h.nx _ (ay3 _))),au5 _⟩)
  (λ p hp=> .inl ⟨hp,λ q hq e=>by
   have:q=(s.nx,some (.row ty sz xs f)):=az7.1 hq;subst this;have:=(h.named hp).1;grind⟩) h.inj
 refine⟨_,l1,rfl,rfl,o1,?_,by simp[a0b]⟩;rintro⟨p,hp,e⟩;have:=(h.named hp).1;grind
def d3E{A:Type}(IN:Gm->A->V->Prop)(f:AS->A->AV×AS)(fv:HP×Nat->V->V×HP×Nat):Prop:=∀(a:AS) (Γ:Gm) (s:St) (us:HP) (nx:Nat) (c:A) (v:V),Ok a Γ (On s us nx)->IN Γ c v->
 ∃b d,(fv (us,nx) v).2.1=d++us/\nx<=(fv (us,nx) v).2.2/\(∀p∈d,nx<=p.1)/\Γ.le b/\b.ρ=Γ.ρ/\b.n=Γ.n/\Ok (f a c).2 b (On s (fv (us,nx) v).2.1 (fv (us,nx) v).2.2)/\In b (f a c).1 (fv (us,nx) v).1
theorem b3J:d3E InC d0F a0J:=by
 intro a Γ s us nx c v h hc;have i:∀{av:AV},a0J (us,nx) v=(v,us,nx)->In Γ av v->∃l n,(a0J (us,nx) v).2.1=n++us/\nx<=(a0J (us,nx) v).2.2/\(∀p∈n,nx<=p.1)/\Γ.le l/\l.ρ=Γ.ρ/\l.n=Γ.n/\Ok a l (On s (a0J (us,nx) v).2.1 (a0J (us,nx) v).2.2)/\In l av (a0J (us,nx) v).1:=by
  intro av e hi;rw[e];exact⟨Γ,[],rfl,ay3 _,(nofun),Gm.le.refl Γ,rfl,rfl,h,hi⟩
 cases hc with
 | @av av _ h0 h1=>
   have h2:=h1.mono (d1z Γ);refine i ?_ h2;cases h1 with
   |any=>cases h0
   |dat o q=>cases q<;>rfl
   |_=>rfl
 | @own ty sz e d f xs h1 h2 h3=>
   have r:∀x∈xs,InD Γ.g Γ.N d x:=λ x hx=>(h3 x hx).zero;obtain⟨g,l1,r1,n1,n2,o1⟩:=h.newB (b:= .row ty sz e d true) (x:= .row ty sz xs f) (.row h1 h2 r λ _=>rfl);have hn:g.n=Γ.n:=by rw[o1.n,h.n];rfl
   refine⟨g,[(nx,some (.row ty sz xs f))],rfl,at3 _,(λ p hp=>by
    grind),l1,r1,hn,o1,?_⟩
   show In g (.row a.m sz (.k 0) e) (.row nx sz 0 xs.length);have:g.ν a.m=nx:=n1;rw[<-this];exact .row n2 (a1W 0) (a0p h1 l1.n l1.ρ) (by rw[a1P];rfl) (by grind)
 | @may0 e d _ m hi h1 h2 h3 h4=>
   cases h2 with
   |nils o=>exact i rfl (.dat (hi:=hi) h1 (.nils o) h3 h4)
   |sl o q=>exact i rfl (.dat (hi:=hi) h1 (.sl o q) h3 h4)
 | @may1 ty sz e d f xs h1 h2 h3 h4=>
   obtain⟨g,l1,r1,n1,o1,t,u⟩:=h.newU (ty:=ty) (sz:=sz) (xs:=xs) (f:=f);refine⟨g,[(nx,some (.row ty sz xs f))],rfl,at3 _,(λ p hp=>by
    grind),l1,r1,n1,o1,?_⟩
   show In g (.dat true e d) (.row nx sz 0 xs.length);exact .dat (hi:=xs.length) (m:=xs.length) (a0p h1 l1.n l1.ρ) (.row u t (by omega) (ar9 _) h3 λ x hx=>(h4 x (at9 (au4 hx))).zero) rfl (by grind)
 |self=>exact i rfl (.cptr rfl λ j a c h=>by simp at h)
def a7g(id:Nat)(s:HP×Nat)(v:V):V×HP×Nat:=(a0H id (a0J s v).1,(a0J s v).2)
theorem c0m{s:HP×Nat}{c:V}(h:(a0J s c).1= .dptr []):c= .dptr []:=by
 unfold a0J at h;grind
theorem c3d{id:Nat}{v:V}(h:v≠ .dptr []):a0H id v=v:=by
 unfold a0H;grind
theorem c7u{nm id:Nat}:d3E (λ Γ c v=>InC Γ c v/\nm<Γ.m/\Γ.ν nm=id) (a3L nm) (a7g id):=by
 intro a Γ s us nx c v h hc;obtain⟨hc,h1,h2⟩:=hc;have gen:a3L nm a c=d0F a c->v≠ .dptr []->∃b d,(a7g id (us,nx) v).2.1=d++us/\nx<=(a7g id (us,nx) v).2.2/\(∀p∈d,nx<=p.1)/\Γ.le b/\b.ρ=Γ.ρ/\b.n=Γ.n/\Ok (a3L nm a c).2 b (On s (a7g id (us,nx) v).2.1 (a7g id (us,nx) v).2.2)/\In b (a3L nm a c).1 (a7g id (us,nx) v).1:=by
  intro e g;have e2:a0H id (a0J (us,nx) v).1=(a0J (us,nx) v).1:=c3d λ e=>g (c0m e);rw[e];unfold a7g;rw[e2];exact b3J a Γ s us nx c v h hc
 cases hc with
 |self=>exact⟨Γ,[],rfl,ay3 _,(nofun),Gm.le.refl Γ,rfl,rfl,h,by
   show In Γ (.ptr nm 0) (.ptr id 0);rw[<-h2];exact .ptr h1⟩
 | @av av _ h0 f=>
   by_cases i:∃l,av= .cptr l
   .obtain⟨l,rfl⟩:=i;have hi:=b3J a Γ s us nx (.av (.cptr l)) v h (.av h0 f);obtain⟨b,d,j,k,m,n,o,q,r,_⟩:=hi;exact⟨b,d,j,k,m,n,o,q,r,.any⟩
   .refine gen ?_ ?_
    .cases av<;>first|rfl|grind
    .rintro rfl;cases f with
     |any=>cases h0
     |cptr=>grind
     |dat h1 h2=>cases h2
 |own h1 h2 h3=>exact gen rfl (nofun)
 |may0 h1 h2 h3 h4=>exact gen rfl (λ e=>by subst e;cases h2)
 |may1 h1 h2 h3 h4=>exact gen rfl (nofun)
end
end
section
open Go.PV
def c1T:AS->List Nat->List (List Ce)->Option AS
 |a,[],[]=>some a
 |a,nm::r,l::b=>if(a4U (a5l (a3L nm) a l).2 nm).isSome then c1T (setB (a5l (a3L nm) a l).2 nm (.var (a5l (a3L nm) a l).1)) r b else none
 |_,_,_=>none
def c7n(id:Nat)(s:HP×Nat)(l:List V):List V×HP×Nat:=((PV.a0f s l).1.map (a0H id),(PV.a0f s l).2)
section
variable {s:St}
def c6D{A:Type}(IN:Gm->A->V->Prop)(f:AS->A->AV×AS)(b:HP×Nat->List V->List V×HP×Nat):Prop:=∀(l:List A) (cs:List V) (a:AS) (Γ:Gm) (s:St) (us:HP) (nx:Nat),Ok a Γ (On s us nx)->
 l.length=cs.length->(∀(j:Nat) (x:A) (c:V),l[j]?=some x->cs[j]?=some c->IN Γ x c)->
 ∃d e,(b (us,nx) cs).2.1=e++us/\nx<=(b (us,nx) cs).2.2/\(∀p∈e,nx<=p.1)/\Γ.le d/\d.ρ=Γ.ρ/\d.n=Γ.n/\Ok (a5l f a l).2 d (On s (b (us,nx) cs).2.1 (b (us,nx) cs).2.2)/\InL d (a5l f a l).1 (b (us,nx) cs).1
theorem b8c{A:Type}{IN:Gm->A->V->Prop}{f:AS->A->AV×AS}{fv:HP×Nat->V->V×HP×Nat}{b:HP×Nat->List V->List V×HP×Nat}(hf:d3E IN f fv)(hm:∀{Γ g:Gm}{x:A}{v:V},Γ.le g->IN Γ x v->IN g x v)
  (i:∀s,b s []=([],s)) (e:∀s c cs,b s (c::cs)=((fv s c).1::(b (fv s c).2 cs).1,(b (fv s c).2 cs).2)):c6D IN f b:=by
 intro l;induction l with
 |nil=>intro cs a Γ s us nx h hl _;have:cs=[]:=ay7.1 hl.symm;subst this;rw[i];exact⟨Γ,[],rfl,ay3 _,(nofun),Gm.le.refl Γ,rfl,rfl,h,InL.nil⟩
 |cons x l ih=>
  intro cs a Γ s us nx h hl hx;cases cs with
  |nil=>cases hl
  |cons c cs=>
   obtain⟨k,m,e1,n1,k1,l1,r1,m1,o1,i1⟩:=hf a Γ s us nx x c h (hx 0 x c rfl rfl);obtain⟨n,o,e2,n2,k2,l2,r2,m2,o2,i2⟩:=ih cs (f a x).2 k s (fv (us,nx) c).2.1 (fv (us,nx) c).2.2 o1 (by simpa using hl) (λ j y d hy hd=>hm l1 (hx (j+1) y d (by simpa using hy) (by simpa using hd)));rw[e];refine⟨n,o++m,?_,av9 n1 n2,λ p hp=> ?_,l1.trans l2,r2.trans r1,m2.trans m1,o2,InL.cons (i1.mono l2) i2⟩
   .show(b (fv (us,nx) c).2 cs).2.1=_;rw[show(fv (us,nx) c).2=((fv (us,nx) c).2.1,(fv (us,nx) c).2.2)from rfl,e2,e1,Ay5]
   .rcases ax1.1 hp with hp|hp
    .exact av9 n1 (k2 p hp)
    .exact k1 p hp
theorem c7w:c6D InC d0F PV.a0f:=b8c b3J (λ h k=>k.mono h) (λ _=>rfl) (λ _ _ _=>rfl)
theorem b5Z{nm id:Nat}:c6D (λ Γ c v=>InC Γ c v/\nm<Γ.m/\Γ.ν nm=id) (a3L nm) (c7n id):=b8c c7u (λ h k=>⟨k.1.mono h,aw9 k.2.1 h.m,(h.ν _ k.2.1).trans k.2.2⟩) (λ _=>rfl) (λ _ _ _=>rfl)
theorem c6e:d3E InP d5L a2B:=by
 intro a Γ s us nx p v h hp;cases hp with
 | @ce c _ h1 h2 h3=>
   have e:a2B (us,nx) v=a0J (us,nx) v:=by cases v<;>first|rfl|exact absurd rfl (h2 _)
   rw[e];exact b3J a Γ s us nx c v h h1
 | @agg l cs h1=>obtain⟨b,d,e1,n1,k1,l1,r1,m1,o1,i1⟩:=c7w l cs a Γ s us nx h h1.1 h1.2;exact⟨b,d,e1,n1,k1,l1,r1,m1,o1,.agg i1.1 i1.2⟩
theorem c7J:c6D InP d5L a1Z:=b8c c6e (λ h k=>k.mono h) (λ _=>rfl) (λ _ _ _=>rfl)
theorem d1s:d3E InR d9j a1R:=by
 intro a Γ s us nx r v h hr;cases hr with
 | @pa p _ h1=>
   have e:a1R (us,nx) v=a2B (us,nx) v:=by
    cases h1 with
    |ce _ _ h3=>cases v<;>first|rfl|exact absurd rfl (h3 _)
    |agg _=>rfl
   rw[e];exact c6e a Γ s us nx p v h h1
 | @tup l cs h1=>obtain⟨b,c,e1,n1,k1,l1,r1,m1,o1,i1⟩:=c7J l cs a Γ s us nx h h1.1 h1.2;exact⟨b,c,e1,n1,k1,l1,r1,m1,o1,.tup i1.1 i1.2⟩
theorem a5B:∀{nms:List Nat} {ls:List (List Ce)} {bs:List (List V)} {a o:AS} {Γ:Gm} {us:HP} {nx:Nat},Ok a Γ (On s us nx)->(∀nm∈nms,nm<Γ.m)->InBs Γ ls bs->c1T a nms ls=some o->
  ∃p nx',a2s (us,nx) (nms.map Γ.ν) bs=some (p,nx')/\nx<=nx'/\∃f,Γ.le f/\Ok o f (On s p nx')
 |[],[],bs,a,o,Γ,us,nx,h,_,hb,hr=>by
  have:bs=[]:=ay7.1 hb.1.symm;subst this;simp only[c1T,az0]at hr;subst hr;exact⟨us,nx,rfl,ay3 _,Γ,Gm.le.refl Γ,h⟩
 |[],_::_,_,_,_,_,_,_,_,_,_,hr=>by cases hr
 |_::_,[],_,_,_,_,_,_,_,_,_,hr=>by cases hr
 |nm::nms,l::ls,bs,a,o,Γ,us,nx,h,d,hb,hr=>by
  cases bs with
  |nil=>cases hb.1
  |cons cs bs=>
   simp only[c1T]at hr;split at hr
   .next e=>
    have h0:=hb.2 0 l cs rfl rfl;obtain⟨q,w,e1,n1,k1,l1,r1,m1,o1,i1⟩:=b5Z (nm:=nm) (id:=Γ.ν nm) l cs a Γ s us nx h h0.1 λ j x c hx hc=>⟨h0.2 j x c hx hc,d nm (ay1 ..),rfl⟩;obtain⟨b,r⟩:=at0.1 e;have g:=a0N r;have t:q.ν nm=Γ.ν nm:=l1.ν nm (d nm (ay1 ..));obtain⟨i,l2,o2⟩:=o1.setB g (InB.var i1);rw[t]at o2;have u:Ok (setB (a5l (a3L nm) a l).2 nm (.var (a5l (a3L nm) a l).1)) i (On s ((Γ.ν nm,some (.var ((PV.a0f (us,nx) cs).1.map (a0H (Γ.ν nm)))))::(PV.a0f (us,nx) cs).2.1) (PV.a0f (us,nx) cs).2.2):=o2;obtain⟨p,nx',b1,b2,v,l3,o3⟩:=a5B (nms:=nms) (ls:=ls) (bs:=bs) u (λ k hk=>aw9 (d k (az9 _ hk)) (l1.trans l2).m) ⟨by simpa using hb.1,λ j x c hx hc=>(hb.2 (j+1) x c (by simpa using hx) (by simpa using hc)).mono (l1.trans l2)⟩ hr;refine⟨p,nx',?_,av9 n1 b2,v,(l1.trans l2).trans l3,o3⟩;have n:nms.map i.ν=nms.map Γ.ν:=Az8 λ k hk=>(l1.trans l2).ν k (d k (az9 _ hk));rw[n]at b1;simp only[av2,a2s];exact b1
   .cases hr
end
end
section
open Go.PV
def a3x:Nat->TD->Option TD
 |0,_=>none
 |n+1,d=>match d with
  | .bool| .int _ _ _| .str _| .lit _=>some d
  | .sl r hi d=>if r then(a3x n d).map (.sl false hi)else some (.sl false hi d)
  | .agg l=>(a0D (a3x n) l).map .agg
  | .val r hi=>if r||n==0 then none else some (.val false hi)
  | .rel [.int _ _ _,.str _,.sl false _ _,.sl false _ _]=>if n==0 then none else some d
  |_=>none
def a5j:Nat->AS->AV->Option AV
 |0,_,_=>none
 |n+1,a,v=>match v with
  | .bool _| .int _ _| .str _| .has _| .lit _| .nils=>some v
  | .dat r e d=>if r then(a3x n d).map (.dat false e)else some (.dat false e d)
  | .row .. =>match elA a v with
    |some (e,d)=>(a3x n d).map (.dat false e)
    |none=>none
  | .agg l=>(a0D (a5j n a) l).map .agg
  | .tup l=>(a0D (a5j n a) l).map .tup
  |_=>none
def a2J:Nat->AV->List Nat
 |0,_=>[]
 |n+1,v=>match v with
  | .row nm _ _ _=>[nm]
  | .agg l| .tup l=>l.flatMap (a2J n)
  | .fn _ x y=>x.flatMap (a2J n)++y.flatMap (a2J n)
  |_=>[]
theorem a2g{A B:Type}{f:A->Option B}{l:List A}{r:List B}(h:a0D f l=some r):l.length=r.length/\∀(j:Nat) (x:A) (y:B),l[j]?=some x->r[j]?=some y->f x=some y:=⟨(a2p h).1.symm,(a2p h).2⟩
theorem a8s:∀(k:Nat) {d e:TD} {x:V},a3x k d=some e->InD g0 N0 d x->InD g0 N0 e x
 |0,_,_,_,h,_=>by cases h
 |k+1,d,e,x,h,hx=>by
  unfold a3x at h;split at h
  .grind
  .grind
  .grind
  .grind
  .next r hi d0=>
   cases hx with
   |nils h1=>
    cases r
    .cases h;exact .nils h1
    .simp only[aw4,az2]at h;obtain⟨_,_,rfl⟩:=h;exact .nils h1
   |sl h1 h2=>
    cases r
    .cases h;exact .sl h1 h2
    .simp only[aw4,az2]at h;obtain⟨d1,hd,rfl⟩:=h;exact .sl h1 λ y hy=>a8s k hd (h2 y hy)
   |row h1=>cases h1
  .next l=>
   simp only[az2]at h;obtain⟨l',hl,rfl⟩:=h;obtain⟨l1,l2⟩:=a2g hl;cases hx with
   |agg h1 h2=>
    refine .agg (by omega) λ j d c hj hc=> ?_;have b:j<l.length:=by rw[l1];exact(ay0.1 hj).1
    exact a8s k (l2 j l[j] d (az5 b) hj) (h2 j l[j] c (az5 b) hc)
  .next r hi=>
   split at h
   .cases h
   .grind
  .grind
  .cases h
variable {g:G} {N:Nat->Prop}
theorem e0k{d0 d1 d2 d3:TD}{c0 c1 c2 c3:V}(h0:InD g N d0 c0)(h1:InD g N d1 c1)(h2:InD g N d2 c2)(h3:InD g N d3 c3):InD g N (.agg [d0,d1,d2,d3]) (.agg [c0,c1,c2,c3]):=
 .agg rfl λ j d c hd hc=>by
  match j,hd,hc with
  |0,hd,hc=>cases hd;cases hc;exact h0
  |1,hd,hc=>cases hd;cases hc;exact h1
  |2,hd,hc=>grind
  |3,hd,hc=>grind
  |j+4,hd,hc=>simp at hd
theorem c6g{h:Int}{d:TD}{c:V}(hc:InD g N (.sl false h d) c):InD g0 N0 (.sl false h d) c/\∀k ms,a0C (k+1) g ms c=some (c,ms):=by
 cases hc with
 |nils h1=>exact⟨.nils h1,λ _ _=>rfl⟩
 |sl h1 h2=>exact⟨.sl h1 h2,λ _ _=>rfl⟩
def Met(Un:Nat->Prop)(ms b:List Nat):Prop:=∀id∈b,id∈ms\/Un id
variable {Un:Nat->Prop}
theorem Met.refl{ms:List Nat}:Met Un ms ms:=λ _ h=> .inl h
variable {a b:List Nat}
theorem Met.trans{c:List Nat}(h:Met Un a b)(k:Met Un b c):Met Un a c:=λ id hi=>(k id hi).elim (h id) .inr
theorem Met.mono{c:Nat->Prop}(h:Met Un a b)(k:∀id,Un id->c id):Met c a b:=λ i hi=>(h i hi).imp (λ h=>h) (k i)
theorem a5Z{Un:Nat->Prop}{f:List Nat->V->Option (V×List Nat)}{Q:Nat->V->Prop}:∀{cs:List V} {ms:List Nat} {o:Nat},(∀(j:Nat) (c:V),cs[j]?=some c->∀ms,∃e b,f ms c=some (e,b)/\Q (o+j) e/\Met Un ms b)->
  ∃d b,a0G f ms cs=some (d,b)/\d.length=cs.length/\(∀(j:Nat) (e:V),d[j]?=some e->Q (o+j) e)/\Met Un ms b
 |[],ms,o,_=>⟨[],ms,rfl,rfl,(λ j c h=>by simp at h),Met.refl⟩
 |c::cs,ms,o,h=>by
  obtain⟨e,m1,e1,g,t1⟩:=h 0 c rfl ms;obtain⟨d,m2,e2,l2,i,t2⟩:=a5Z (cs:=cs) (ms:=m1) (o:=o+1) (Q:=Q) (λ j x hx ms=>by
   have:=h (j+1) x (by grind) ms;rw[show o+(j+1)=o+1+j by omega]at this;exact this)
  refine⟨e::d,m2,by grind[a0G],by simp[l2],λ j x hx=> ?_,t1.trans t2⟩;cases j with
  |zero=>simp at hx;subst hx;exact g
  |succ j=>rw[show o+(j+1)=o+1+j by omega];exact i j x (by grind)
theorem a5G{g:G}{N:Nat->Prop}:∀(k:Nat) {d p:TD} {x:V},InD g N d x->a3x k d=some p->∀(D:Nat),k<=D->∀ms,∃q m,a0C D g ms x=some (q,m)/\InD g0 N0 p q/\Met (λ id=>¬N id) ms m
 |0,_,_,_,_,h,_,_,_=>by cases h
 |k+1,d,p,x,hx,h,0,hD,ms=>by omega
 |k+1,d,p,x,hx,h,D+1,hD,ms=>by
  have t:k<=D:=by omega
  have e:∀{p:TD},InD g0 N0 p x->a0C (D+1) g ms x=some (x,ms)->∃q m,a0C (D+1) g ms x=some (q,m)/\InD g0 N0 p q/\Met (λ id=>¬N id) ms m:=λ h1 h2=>⟨x,ms,h2,h1,Met.refl⟩;have agg:∀{l l':List TD} {cs:List V},l.length=cs.length->(∀(j:Nat) (d:TD) (c:V),l[j]?=some d->cs[j]?=some c->InD g N d c)->a0D (a3x k) l=some l'->
    ∃q m,a0C (D+1) g ms (.agg cs)=some (q,m)/\InD g0 N0 (.agg l') q/\Met (λ id=>¬N id) ms m:=by
   intro l l' cs h1 h2 hl;obtain⟨l1,l2⟩:=a2g hl;obtain⟨C,z,e1,e2,e3,e4⟩:=a5Z (f:=a0C D g) (Un:=λ id=>¬N id) (Q:=λ j A=>∀p,l'[j]?=some p->InD g0 N0 p A) (o:=0) (ms:=ms) (cs:=cs) (λ j c hc ms=>by
    have B:j<l.length:=by rw[h1];exact(ay0.1 hc).1
    have w:j<l'.length:=by omega
    obtain⟨A,z,E,F,H⟩:=a5G k (h2 j l[j] c (az5 B) hc) (l2 j l[j] l'[j] (az5 B) (az5 w)) D t ms;refine⟨A,z,E,λ p u=> ?_,H⟩;rw[as4,az5 w]at u;injection u with u;subst u;exact F)
   exact⟨.agg C,z,by grind[a0C],.agg (by omega) λ j d c hd hc=>e3 j c hc d (by grind),e4⟩
  unfold a3x at h;split at h
  .cases h;cases hx;exact e .bool rfl
  .cases h;cases hx with|int h1 h2=>exact e (.int h1 h2) rfl
  .cases h;cases hx with|str h1=>exact e (.str h1) rfl
  .cases h;cases hx;exact e .lit rfl
  .next r hi d0=>
   cases r with
   |false=>
    cases h;cases hx with
    |nils h1=>exact e (.nils h1) rfl
    |sl h1 h2=>exact e (.sl h1 h2) rfl
   |true=>
    simp only[aw4,az2]at h;obtain⟨d1,hd,rfl⟩:=h;cases hx with
    |nils h1=>exact e (.nils h1) rfl
    |sl h1 h2=>exact e (.sl h1 λ y hy=>a8s k hd (h2 y hy)) rfl
    | @row _ _ _ _ id ty sz off n xs f h1 h2 h3 h4 h5 h6=>
      obtain⟨l,z,e1,e2,e3,e4⟩:=a5Z (f:=a0C D g) (Un:=λ id=>¬N id) (Q:=λ _ A=>InD g0 N0 d1 A) (o:=0) (ms:=id::ms) (cs:=(xs.drop off).take n) (λ j c hc ms=>a5G k (h6 c (ax4 hc)) hd D t ms);refine⟨.sl none l,z,?_,.sl ?_ λ y hy=> ?_,λ i hi=> ?_⟩
      .simp_all[a0C]
      .grind
      .grind[List.getElem?_of_mem]
      .rcases e4 i hi with h7|h7
       .grind
       .grind
  .next l=>
   simp only[az2]at h;obtain⟨l',hl,rfl⟩:=h;cases hx with
   |agg h1 h2=>grind
  .next r hi=>
   split at h
   .cases h
   .next hr=>
    simp only[ay8,ap6,at1,Ay8]at hr;injection h with h
    subst h;obtain⟨I,K⟩:=hr;subst I;cases hx with
    |val h1=>
     cases h1 with
     |agg h2 h3=>
      have:a0D (a3x k) (b2S false hi)=some (b2S false hi):=by
       cases k with
       |zero=>grind
       |succ k=>rfl
      obtain⟨q,z,E,F,H⟩:=agg h2 h3 this;exact⟨q,z,E,.val F,H⟩
  .split at h
   .cases h
   next hk=>
   injection h with h
   subst h;cases hx with
   |rel h1 h2=>
    have J:=h2;obtain⟨n,x,ks,is,a,b,rfl,_⟩:=J;cases h1 with
    |agg e1 e2=>
     have i0:=e2 0 _ _ rfl rfl;have i1:=e2 1 _ _ rfl rfl;obtain⟨i2,f2⟩:=c6g (e2 2 _ _ rfl rfl);obtain⟨i3,f3⟩:=c6g (e2 3 _ _ rfl rfl);cases i0 with
     |int L M=>
      cases i1 with
      |str O=>
       match D,t with
       |0,t=>grind
       |D+1,_=>
        refine e (.rel (e0k (.int L M) (.str O) i2 i3) h2) ?_;have f0:∀v ms,a0C (D+1) g ms (.lit v)=some (.lit v,ms):=λ _ _=>rfl;show(match a0G (a0C (D+1) g) ms _ with
         |some (l,ms)=>some (V.agg l,ms)
         |none=>none)=_
        simp only[a0G,f0,f2,f3]
  .cases h
section
variable {a:AS} {Γ:Gm} {s:St}
def UnN(Γ:Gm)(l:List Nat)(id:Nat):Prop:=¬Γ.N id\/∃nm∈l,nm<Γ.m/\Γ.ν nm=id
theorem b2U(h:Ok a Γ s):∀(k:Nat) {av t:AV} {v:V},In Γ av v->a5j k a av=some t->∀(D:Nat),k<=D->∀ms,∃C g,a0C D (a0b s.h) ms v=some (C,g)/\In (Γ.bare 0) t C/\a4z t=true/\Met (UnN Γ (a2J k av)) ms g
 |0,_,_,_,_,hr,_,_,_=>by cases hr
 |k+1,av,t,v,hv,hr,0,hD,ms=>by omega
 |k+1,av,t,v,hv,hr,D+1,hD,ms=>by
  have L:k<=D:=by omega
  have p:In (Γ.bare 0) t v->a4z t=true->a0C (D+1) (a0b s.h) ms v=some (v,ms)->∃C g,a0C (D+1) (a0b s.h) ms v=some (C,g)/\In (Γ.bare 0) t C/\a4z t=true/\Met (UnN Γ (a2J (k+1) av)) ms g:=λ h1 h2 h3=>⟨v,ms,h3,h1,h2,Met.refl⟩;have G:∀{l l':List AV} {cs:List V},InL Γ l cs->a0D (a5j k a) l=some l'->∃u g,a0G (a0C D (a0b s.h)) ms cs=some (u,g)/\InL (Γ.bare 0) l' u/\Met (UnN Γ (l.flatMap (a2J k))) ms g:=by
   intro l l' cs hl hm;obtain⟨l1,l2⟩:=a2g hm;obtain⟨u,w,e1,e2,e3,e4⟩:=a5Z (f:=a0C D (a0b s.h)) (Un:=UnN Γ (l.flatMap (a2J k))) (Q:=λ j I=>∀x,l'[j]?=some x->In (Γ.bare 0) x I) (o:=0) (ms:=ms) (cs:=cs) (λ j c hc ms=>by
    have J:j<l.length:=by rw[hl.1];exact(ay0.1 hc).1
    have H:j<l'.length:=by omega
    obtain⟨I,w,q,B,_,E⟩:=b2U h k (hl.2 j l[j] c (az5 J) hc) (l2 j l[j] l'[j] (az5 J) (az5 H)) D L ms;refine⟨I,w,q,λ x hx=> ?_,E.mono λ i hid=>hid.imp (λ h=>h) fun⟨nm,h1,h2⟩=>⟨nm,ax9.2 ⟨l[j],au2 J,h1⟩,h2⟩⟩;rw[as4,az5 H]at hx;cases hx;exact B)
   exact⟨u,w,e1,⟨by have:=hl.1;omega,λ j x c hx hc=>e3 j c hc x (by rw[as4];exact hx)⟩,e4⟩
  have F:∀{e:LE} {d K:TD} {hi:Int} {m:Nat},e.ok Γ.ρ Γ.n->InD Γ.g Γ.N (.sl true hi d) v->lenOf v=some m->(m:Int)=e.ev Γ.ρ->a3x k d=some K->∃C g,a0C (D+1) (a0b s.h) ms v=some (C,g)/\In (Γ.bare 0) (.dat false e K) C/\Met (λ id=>¬Γ.N id) ms g:=by
   intro e d K hi m h1 h2 h3 h4 hd;have P:a3x (k+1) (.sl true hi d)=some (.sl false hi K):=by simp only[a3x,aw4,hd,ax0]
   obtain⟨C,w,q,B,E⟩:=a5G (k+1) h2 P (D+1) hD ms;rw[h.g]at q;refine⟨C,w,q,.dat (hi:=hi) (m:=m) h1 B ?_ h4,E⟩;cases h2 with
   |nils=>simp only[a0C,az0,az8]at q;rw[<-q.1];exact h3
   |sl=>simp only[a0C,az0,az8]at q;rw[<-q.1];exact h3
   | @row _ _ _ _ id ty sz off n xs f j1 j2 j3 j4 j5 j6=>
     rw[h.g]at j1;simp only[a0C,j1,ao5,j3,aw4]at q;split at q
     .next l T hl=>
      injection q with q;injection q with q _;subst q
      have:l.length=((xs.drop off).take n).length:=by
       have gen:∀{cs:List V} {ms g:List Nat} {l:List V},a0G (a0C D (a0b s.h)) ms cs=some (l,g)->l.length=cs.length:=by
        intro cs;induction cs with
        |nil=>intro ms g l h;simp only[a0G,az0,az8]at h;rw[<-h.1]
        |cons c cs ih=>
         intro ms g l h;simp only[a0G]at h;split at h
         .cases h
         .split at h
          .cases h
          .next h2=>injection h with h;injection h with h _;subst h;simp[ih h2]
       exact gen hl
      simp only[lenOf,az0]at h3|-;rw[this,au7,as8,au8 (by omega)];exact h3
     .cases q
  cases hv with
  |slf=>simp[a5j]at hr
  |any=>simp[a5j]at hr
  |und=>simp[a5j]at hr
  |bool h1 h2=>cases hr;exact p (.bool h1 h2) rfl rfl
  |int h1 h2=>cases hr;exact p (.int h1 h2) rfl rfl
  |str h1 h2=>cases hr;exact p (.str h1 h2) rfl rfl
  |has h1 h2 h3=>cases hr;exact p (.has h1 h2 h3) rfl rfl
  |lit=>cases hr;exact p .lit rfl rfl
  |nils=>cases hr;exact p .nils rfl rfl
  | @dat r e d hi v m h1 h2 h3 h4=>
    simp only[a5j]at hr;cases r with
    |false=>
     cases hr;cases h2 with
     |nils j1=>exact p (.dat (hi:=hi) h1 (.nils j1) h3 h4) rfl rfl
     |sl j1 j2=>exact p (.dat (hi:=hi) h1 (.sl j1 j2) h3 h4) rfl rfl
    |true=>simp only[aw4,az2]at hr;obtain⟨K,hd,rfl⟩:=hr;obtain⟨C,w,q,B,E⟩:=F h1 h2 h3 h4 hd;exact⟨C,w,q,B,rfl,E.mono λ id hid=> .inl hid⟩
  | @row nm sz off e o m h0 h1 h2 h3 h4=>
    simp only[a5j]at hr;split at hr
    .next U d A=>
     simp only[az2]at hr;obtain⟨K,hd,rfl⟩:=hr;simp only[elA]at A;split at A
     .next ty z kk d0 f hb=>
      split at A
      .next hc=>
       rw[az6,aw5]at hc;obtain⟨hz,hc⟩:=hc;subst hz;simp only[az0,az8]at A;obtain⟨rfl,rfl⟩:=A;obtain⟨_,b,R,S⟩:=h.box _ (a0N hb);cases S with
       | @row _ _ _ _ _ f' xs k1 k2 k3 k4=>
         have M:=h.ent (a0o (a0o k1 h1) h2) hc;rw[a0s,a0s]at M;have N:a0b s.h (Γ.ν nm)=some (.row ty z xs f'):=by rw[<-h.g];exact R
         obtain⟨l,w,e1,e2,e3,e4⟩:=a5Z (f:=a0C D (a0b s.h)) (Un:=λ id=>¬Γ.N id) (Q:=λ _ I=>InD g0 N0 K I) (o:=0) (ms:=Γ.ν nm::ms) (cs:=(xs.drop o).take m) (λ j c hc ms=>by
          obtain⟨I,w,q,B,E⟩:=a5G k (k3 c (at9 (au4 (ax4 hc)))) hd D L ms;rw[h.g]at q;exact⟨I,w,q,B,E⟩)
         have O:l.length=m:=by rw[e2,au7,as8,au8 (by omega)]
         refine⟨.sl none l,w,?_,.dat (hi:=m) (m:=m) h2 (.sl (by rw[O];exact ar9 _) λ y hy=> ?_) (by simp only[lenOf,O]) h4,rfl,λ i hi=> ?_⟩
         .have:o+m<=xs.length:=by omega
          simp only[a0C,N,ao5,this,aw4,e1]
         .obtain⟨j,hj⟩:=List.getElem?_of_mem hy;exact e3 j y hj
         .rcases e4 i hi with h7|h7
          .rcases ay4.1 h7 with rfl|h7
           .exact .inr (.inr ⟨nm,az7.2 rfl,h0,rfl⟩)
           .exact .inl h7
          .exact .inr (.inl h7)
      .cases A
     .cases A
    .cases hr
  |agg h1 h2=>simp only[a5j,az2]at hr;obtain⟨l',hl,rfl⟩:=hr;obtain⟨u,w,q,B,E⟩:=G ⟨h1,h2⟩ hl;exact⟨.agg u,w,by simp only[a0C,q],.agg B.1 B.2,rfl,E⟩
  |tup h1 h2=>simp only[a5j,az2]at hr;obtain⟨l',hl,rfl⟩:=hr;obtain⟨u,w,q,B,E⟩:=G ⟨h1,h2⟩ hl;exact⟨.tup u,w,by simp only[a0C,q],.tup B.1 B.2,rfl,E⟩
  |fn=>simp[a5j]at hr
  |fns=>simp[a5j]at hr
  |ptr=>simp[a5j]at hr
  |eptr=>simp[a5j]at hr
  |cptr=>simp[a5j]at hr
  |cptrR=>simp[a5j]at hr
end
end
section
open Go.PV
def b3N{A B:Type}(f:List Nat->A->Option (B×List Nat)):List Nat->List A->Option (List B×List Nat)
 |kn,[]=>some ([],kn)
 |kn,x::r=>match f kn x with
  |none=>none
  |some (b,kn)=>match b3N f kn r with
   |none=>none
   |some (bs,kn)=>some (b::bs,kn)
def b6M:Nat->AS->List Nat->AV->Option (AV×List Nat)
 |0,_,_,_=>none
 |n+1,a,ps,v=>match v with
  | .ptr nm off=>if off≠0 then none else match ps.idxOf? nm with
    |some j=>some (.ptr j 0,ps)
    |none=>some (.ptr ps.length 0,ps++[nm])
  | .fns l=>some (.fns l,ps)
  | .fn f x y=>match b3N (b6M n a) ps x with
    |none=>none
    |some (x,ps)=>match b3N (b6M n a) ps y with
     |none=>none
     |some (y,ps)=>some (.fn f x y,ps)
  |v=>(a5j 8 a v).map λ v=>(v,ps)
def a5v:Nat->AV->List Nat
 |0,_=>[]
 |n+1,v=>match v with
  | .fn _ x y=>x.flatMap (a5v n)++y.flatMap (a5v n)
  |v=>a2J 8 v
def a1U(a:AS)(kn:List Nat)(v:AV):Option (Ce×List Nat):=
 match v with
 | .row nm sz off e=>match a4U a nm with
   |some (.row ty z k d _)=>if z==sz&&(a0x off==some 0&&(decide (e=k)&& !kn.contains nm))then(a3x 8 d).map λ b=>(.own ty sz e b,nm::kn)else none
   |_=>none
 | .dat true _ _| .agg _| .tup _=>none
 |v=>(a5j 8 a v).map λ v=>(.av v,kn)
def a4o(a:AS)(nm:Nat)(kn:List Nat)(v:AV):Option (Ce×List Nat):=
 match v with
 | .ptr b off=>if b=nm/\off=0 then some (.self,kn)else none
 |v=>a1U a kn v
def b0y(a:AS)(kn:List Nat)(nm:Nat):Option (List Ce×List Nat):=
 match a4U a nm with
 |some (.var l)=>b3N (a4o a nm) kn l
 |_=>none
def a4l(a:AS)(kn:List Nat)(v:AV):Option (Pa×List Nat):=
 match v with
 | .agg l=>(b3N (a1U a) kn l).map λ r=>(.agg r.1,r.2)
 |v=>(a1U a kn v).map λ r=>(.ce r.1,r.2)
def b2P(a:AS)(v:AV):Option (Re×List Nat):=
 match v with
 | .tup l=>(b3N (a4l a) [] l).map λ r=>(.tup r.1,r.2)
 |v=>(a4l a [] v).map λ r=>(.pa r.1,r.2)
section
variable {a:AS} {Γ:Gm} {s:St}
def a7R(Γ:Gm)(l:List Nat):Prop:=∀nm∈l,nm<Γ.m/\Γ.N (Γ.ν nm)
def Nms(Γ:Gm)(l:List Nat):Prop:=∀nm∈l,nm<Γ.m
theorem a6O{A B C D:Type}{IN:A->C->Prop}{OUT:Nat->B->D->Prop}{Un:Nat->Prop}{f:List Nat->A->Option (B×List Nat)}{F:List Nat×List Nat->C->Option (D×List Nat×List Nat)}{good:List Nat->Prop}
  (hm:∀{n n':Nat} {b:B} {d:D},n<=n'->OUT n b d->OUT n' b d):∀{l:List A} {cs:List C} {kn:List Nat} {r:List B} {e:List Nat} {ms:List Nat},
  (∀x∈l,∀(c:C) (kn:List Nat) (b:B) (e:List Nat) (ms:List Nat),IN x c->good kn->f kn x=some (b,e)->∃d g,F (ms,kn.map Γ.ν) c=some (d,g,e.map Γ.ν)/\OUT e.length b d/\good e/\Met Un ms g/\kn.length<=e.length)->
  l.length=cs.length->(∀(j:Nat) (x:A) (c:C),l[j]?=some x->cs[j]?=some c->IN x c)->good kn->b3N f kn l=some (r,e)->
  ∃ds g,a0G F (ms,kn.map Γ.ν) cs=some (ds,g,e.map Γ.ν)/\r.length=ds.length/\(∀(j:Nat) (b:B) (d:D),r[j]?=some b->ds[j]?=some d->OUT e.length b d)/\good e/\Met Un ms g/\kn.length<=e.length
 |[],cs,kn,r,e,ms,_,hl,_,hg,hr=>by
  have:cs=[]:=ay7.1 hl.symm;subst this;simp only[b3N,az0,az8]at hr;obtain⟨rfl,rfl⟩:=hr;exact⟨[],ms,rfl,rfl,(λ j b d h=>by simp at h),hg,Met.refl,ay3 _⟩
 |x::l,[],_,_,_,_,_,hl,_,_,_=>by cases hl
 |x::l,c::cs,kn,r,e,ms,hf,hl,hx,hg,hr=>by
  simp only[b3N]at hr;cases h1:f kn x with
  |none=>grind
  |some q=>
   obtain⟨b,k1⟩:=q;simp only[h1]at hr;cases h2:b3N f k1 l with
   |none=>grind
   |some q=>obtain⟨bs,k2⟩:=q;simp only[h2,az0,az8]at hr;obtain⟨rfl,rfl⟩:=hr;obtain⟨d,m1,e1,o1,g1,t1,n1⟩:=hf x (ay1 ..) c kn b k1 ms (hx 0 x c rfl rfl) hg h1;obtain⟨ds,m2,e2,l2,o2,g2,t2,n2⟩:=a6O (F:=F) (OUT:=OUT) (Un:=Un) (IN:=IN) hm (l:=l) (cs:=cs) (ms:=m1) (λ y hy=>hf y (az9 _ hy)) (by grind) (λ j y d hy hd=>hx (j+1) y d (by grind) (by grind)) g1 h2;refine⟨d::ds,m2,by grind[a0G],by simp[l2],λ j b' i hb hd=> ?_,g2,t1.trans t2,av9 n1 n2⟩;grind
theorem c4X{ν:Nat->Nat}:∀{ps:List Nat} {nm:Nat},(∀p∈ps,ν p=ν nm->p=nm)->(ps.map ν).idxOf? (ν nm)=ps.idxOf? nm
 |[],_,_=>rfl
 |p::ps,nm,h=>by
  have ih:=c4X (ps:=ps) (nm:=nm) λ q hq=>h q (az9 _ hq);grind
theorem b3H(Γ:Gm){nb b:Nat}(h:nb<=b):(Γ.bare nb).le (Γ.bare b):=⟨ay3 _,h,ay3 _,λ _ _=>rfl,λ _ _=>rfl,λ i _ _=>aw7 _,Keeps.refl⟩
theorem c5O(h:Ok a Γ s):∀(k:Nat) {av t:AV} {v:V} {ps g:List Nat} {ms:List Nat},In Γ av v->Nms Γ ps->b6M k a ps av=some (t,g)->∀D,k<=D->
  ∃y m,a1y D (a0b s.h) (ms,ps.map Γ.ν) v=some (y,m,g.map Γ.ν)/\In (Γ.bare g.length) t y/\Nms Γ g/\Met (UnN Γ (a5v k av)) ms m/\ps.length<=g.length
 |0,_,_,_,_,_,_,_,_,hr,_,_=>by cases hr
 |k+1,av,t,v,ps,g,ms,hv,hp,hr,0,hD=>by omega
 |k+1,av,t,v,ps,g,ms,hv,hp,hr,D+1,hD=>by
  have B:k<=D:=by omega
  have data:(a5j 8 a av).map (λ v=>(v,ps))=some (t,g)->a1y (D+1) (a0b s.h) (ms,ps.map Γ.ν) v=(match a0C ED (a0b s.h) ms v with|some (v,ms)=>some (v,ms,ps.map Γ.ν)|none=>none)->a5v (k+1) av=a2J 8 av->
    ∃y m,a1y (D+1) (a0b s.h) (ms,ps.map Γ.ν) v=some (y,m,g.map Γ.ν)/\In (Γ.bare g.length) t y/\Nms Γ g/\Met (UnN Γ (a5v (k+1) av)) ms m/\ps.length<=g.length:=by
   intro h1 h2 h3;simp only[az2,az8]at h1;obtain⟨x,hx,rfl,rfl⟩:=h1;obtain⟨y,C,E,F,_,G⟩:=b2U h 8 hv hx ED c7d ms;rw[h2,E,h3];exact⟨y,C,rfl,F.mono (b3H Γ (aw7 _)),hp,G,ay3 _⟩
  cases hv with
  |slf=>simp[b6M,a5j]at hr
  | @ptr nm off h0=>
    simp only[b6M]at hr;split at hr
    .cases hr
    next u=>
    have u:off=0:=by simpa using u
    subst u;have w:=c4X (ν:=Γ.ν) (ps:=ps) (nm:=nm) λ p o e=>h.νinj p nm (hp p o) h0 e;split at hr
    .next j hj=>
     simp only[az0,az8]at hr;obtain⟨rfl,rfl⟩:=hr;refine⟨.ptr j 0,ms,?_,?_,hp,Met.refl,ay3 _⟩
     .simp only[a1y,Au8,ap0,av8,w,hj]
     .have H:j<ps.length:=by
       have:=At9.1 hj;obtain⟨h1,_⟩:=this;exact h1
      exact .ptr (Γ:=Γ.bare ps.length) (nm:=j) H
    .next hj=>
     simp only[az0,az8]at hr;obtain⟨rfl,rfl⟩:=hr;refine⟨.ptr ps.length 0,ms,?_,?_,?_,Met.refl,by simp⟩
     .simp only[a1y,Au8,ap0,av8,w,hj,ap3,Aw1,av2,ar8]
     .exact .ptr (Γ:=Γ.bare (ps++[nm]).length) (nm:=ps.length) (by simp[Gm.bare])
     .intro p o;rcases ax1.1 o with o|o
      .exact hp p o
      .rw[az7.1 o];exact h0
  |fns h1=>simp only[b6M,az0,az8]at hr;obtain⟨rfl,rfl⟩:=hr;exact⟨_,ms,rfl,.fns h1,hp,Met.refl,ay3 _⟩
  | @fn f l l2 asq bs h1 h2 h3 h4=>
    simp only[b6M]at hr;split at hr
    .cases hr
    next R N I=>
    split at hr
    .cases hr
    next S O J=>
    simp only[az0,az8]at hr;obtain⟨rfl,rfl⟩:=hr;have gen:∀{l:List AV} {cs:List V} {kn q:List Nat} {r:List AV} {ms:List Nat},InL Γ l cs->Nms Γ kn->b3N (b6M k a) kn l=some (r,q)->
      ∃ds m,a0G (a1y D (a0b s.h)) (ms,kn.map Γ.ν) cs=some (ds,m,q.map Γ.ν)/\r.length=ds.length/\(∀(j:Nat) (b:AV) (d:V),r[j]?=some b->ds[j]?=some d->In (Γ.bare q.length) b d)/\Nms Γ q/\Met (UnN Γ (l.flatMap (a5v k))) ms m/\kn.length<=q.length:=by
     intro l cs kn q r ms hl hk hm;refine a6O (IN:=In Γ) (OUT:=λ n b d=>In (Γ.bare n) b d) (good:=Nms Γ) (f:=b6M k a) (λ hn hb=>hb.mono (b3H Γ hn)) (λ x hx c kn b q ms hc K he=> ?_) hl.1 hl.2 hk hm;obtain⟨d,C,E,F,G,P,Q⟩:=c5O h k hc K he D B (ms:=ms);exact⟨d,C,E,F,G,P.mono λ i hid=>hid.imp (λ h=>h) fun⟨nm,z,A⟩=>⟨nm,ax9.2 ⟨x,hx,z⟩,A⟩,Q⟩
    obtain⟨L,m1,a1,a2,a3,a4,a5,a6⟩:=gen (ms:=ms) ⟨h1,h3⟩ hp I;obtain⟨M,m2,b1,b2,b3,b4,b5,b6⟩:=gen (ms:=m1) ⟨h2,h4⟩ a4 J;refine⟨.fn f L M,m2,by simp only[a1y,a1,b1],.fn a2 b2 (λ j x c hx hc=>(a3 j x c hx hc).mono (b3H Γ b6)) b3,b4,?_,av9 a6 b6⟩;simp only[a5v];exact(a5.mono λ i hid=>hid.imp (λ h=>h) fun⟨nm,z,A⟩=>⟨nm,av4 _ z,A⟩).trans (b5.mono λ i hid=>hid.imp (λ h=>h) fun⟨nm,z,A⟩=>⟨nm,aw2 _ z,A⟩)
  |any=>simp[b6M,a5j]at hr
  |und=>simp[b6M,a5j]at hr
  |eptr=>simp[b6M,a5j]at hr
  |cptr=>simp[b6M,a5j]at hr
  |cptrR=>simp[b6M,a5j]at hr
  |bool h1 h2=>exact data hr rfl rfl
  |int h1 h2=>exact data hr rfl rfl
  |str h1 h2=>exact data hr rfl rfl
  |has h1 h2 h3=>exact data hr rfl rfl
  |lit=>exact data hr rfl rfl
  |nils=>exact data hr rfl rfl
  |dat h1 h2 h3 h4=>cases h2<;>exact data hr rfl rfl
  |row h0 h1 h2 h3 h4=>exact data hr rfl rfl
  |agg h1 h2=>exact data hr rfl rfl
  |tup h1 h2=>exact data hr rfl rfl
variable {b ms:List Nat} {v:V}
theorem a6u{D:Nat}{g:G}{c:V}(h:a0C (D+1) g ms v=some (c,b)):(∀l,c= .agg l->∃k,v= .agg k)/\∀l,c= .tup l->∃k,v= .tup k:=by
 cases v with
 |agg l=>refine⟨λ _ _=>⟨l,rfl⟩,λ l' e=> ?_⟩;grind[a0C]
 |tup l=>refine⟨λ l' e=> ?_,λ _ _=>⟨l,rfl⟩⟩;grind[a0C]
 |row id sz off n=>grind[a0C]
 |lit u=>injection h with h;grind
 |nils=>injection h with h;grind
 |sl o xs=>injection h with h;grind
 |slf xs=>injection h with h;grind
 |_=>cases h
variable {av:AV} {c:Ce} {kn:List Nat}
theorem a6P(h:Ok a Γ s){g:List Nat}(hv:In Γ av v)(hk:a7R Γ kn)(hr:a1U a kn av=some (c,g)):
  ∃n q,a0h (a0b s.h) (ms,kn.map Γ.ν) v=some (n,q,g.map Γ.ν)/\(InC Γ c n/\(∀l,n≠ .agg l)/\∀l,n≠ .tup l)/\a7R Γ g/\Met (λ id=>¬Γ.N id) ms q/\kn.length<=g.length:=by
 have data:(a5j 8 a av).map (λ v=>(Ce.av v,kn))=some (c,g)->a0h (a0b s.h) (ms,kn.map Γ.ν) v=(match a0C ED (a0b s.h) ms v with|some (v,ms)=>some (v,ms,kn.map Γ.ν)|none=>none)->a2J 8 av=[]->(∀l,v≠ .agg l)->(∀l,v≠ .tup l)->
   ∃n q,a0h (a0b s.h) (ms,kn.map Γ.ν) v=some (n,q,g.map Γ.ν)/\(InC Γ c n/\(∀l,n≠ .agg l)/\∀l,n≠ .tup l)/\a7R Γ g/\Met (λ id=>¬Γ.N id) ms q/\kn.length<=g.length:=by
  intro h1 h2 h3 h4 h5;simp only[az2,az8]at h1;obtain⟨x,hx,rfl,rfl⟩:=h1;obtain⟨n,u,t,B,C,D⟩:=b2U h 8 hv hx ED c7d ms;rw[h2,t];refine⟨n,u,rfl,⟨.av C B,?_,?_⟩,hk,D.mono λ i hid=> ?_,ay3 _⟩
  .intro l e;obtain⟨k,hk⟩:=(a6u (a5E▸t)).1 l e;exact h4 k hk
  .intro l e;obtain⟨k,hk⟩:=(a6u (a5E▸t)).2 l e;exact h5 k hk
  .rcases hid with hid|⟨nm,I,_⟩
   .exact hid
   .rw[h3]at I;cases I
 cases hv with
 | @row nm sz off e o m h0 h1 h2 h3 h4=>
   simp only[a1U]at hr;split at hr
   .next ty z k d f hb=>
    split at hr
    .next hc=>
     simp only[az6,aw5,ay2,ax2,List.contains_eq_mem,Ax6]at hc;obtain⟨rfl,c2,rfl,c4⟩:=hc;simp only[az2,az8]at hr;obtain⟨J,hd,rfl,rfl⟩:=hr;obtain⟨_,b,E,F⟩:=h.box _ (a0N hb);cases F with
     | @row _ _ _ _ _ f' xs k1 k2 k3 k4=>
       have w:a0b s.h (Γ.ν nm)=some (.row ty z xs f'):=by rw[<-h.g];exact E
       have ho:o=0:=by have:=a0B c2 Γ.ρ;omega
       subst ho;have hm:m=xs.length:=by omega
       subst hm;obtain⟨l,u,e1,e2,e3,e4⟩:=a5Z (f:=a0C ED (a0b s.h)) (Un:=λ id=>¬Γ.N id) (Q:=λ _ G=>InD g0 N0 J G) (o:=0) (ms:=ms) (cs:=xs) (λ j c hc ms=>by
        obtain⟨G,u,t,B,D⟩:=a5G 8 (k3 c (ax4 hc)) hd ED c7d ms;rw[h.g]at t;exact⟨G,u,t,B,D⟩)
       have A:¬(kn.map Γ.ν).contains (Γ.ν nm)=true:=by
        rw[au1];intro H;obtain⟨p,hp,e⟩:=ax5.1 H;have:=h.νinj p nm (hk p hp).1 h0 e;subst this;exact c4 hp
       refine⟨.sl (some (ty,z,f')) l,u,?_,⟨.own h2 (by rw[e2];exact h4) λ y hy=> ?_,(nofun),(nofun)⟩,?_,e4,by simp⟩
       .simp only[a0h,w,ao5];rw[ax3 (by simp only[at1]at A;rw[A];rfl),e1];rfl
       .obtain⟨j,hj⟩:=List.getElem?_of_mem hy;exact e3 j y hj
       .intro p hp;rcases ay4.1 hp with rfl|hp
        .exact⟨h0,(h.N _).2 ⟨_,a0N hb,rfl⟩⟩
        .exact hk p hp
    .cases hr
   .cases hr
 | @dat r e d hi v m h1 h2 h3 h4=>
   cases r with
   |true=>simp[a1U]at hr
   |false=>cases h2<;>exact data hr rfl rfl (nofun) (nofun)
 |agg=>simp[a1U]at hr
 |tup=>simp[a1U]at hr
 |bool=>exact data hr rfl rfl (nofun) (nofun)
 |int=>exact data hr rfl rfl (nofun) (nofun)
 |str=>exact data hr rfl rfl (nofun) (nofun)
 |has=>exact data hr rfl rfl (nofun) (nofun)
 |lit=>exact data hr rfl rfl (nofun) (nofun)
 |nils=>exact data hr rfl rfl (nofun) (nofun)
 |_=>simp[a1U,a5j]at hr
theorem b0C(h:Ok a Γ s){nm:Nat}(hv:In Γ av v)(hk:a7R Γ kn)(hr:a4o a nm kn av=some (c,b)):
  a6J v=false/\∃e d,a0h (a0b s.h) (ms,kn.map Γ.ν) (a0S (Γ.ν nm) v)=some (e,d,b.map Γ.ν)/\InC Γ c e/\a7R Γ b/\Met (λ id=>¬Γ.N id) ms d/\kn.length<=b.length:=by
 have gen:a1U a kn av=some (c,b)->a6J v=false->a0S (Γ.ν nm) v=v->a6J v=false/\∃e d,a0h (a0b s.h) (ms,kn.map Γ.ν) (a0S (Γ.ν nm) v)=some (e,d,b.map Γ.ν)/\InC Γ c e/\a7R Γ b/\Met (λ id=>¬Γ.N id) ms d/\kn.length<=b.length:=by
  intro h1 h2 h3;rw[h3];obtain⟨e,d,f,⟨g,_⟩,i,j,k⟩:=a6P h hv hk h1 (ms:=ms);exact⟨h2,e,d,f,g,i,j,k⟩
 cases hv with
 | @ptr l off h0=>
   simp only[a4o]at hr;split at hr
   .next hc=>
    obtain⟨rfl,rfl⟩:=hc;simp only[az0,az8]at hr;obtain⟨rfl,rfl⟩:=hr;refine⟨rfl,.dptr [],ms,?_,.self,hk,Met.refl,ay3 _⟩;simp_all[a0S,a0h]
   .cases hr
 |any=>grind[a4o,a1U,a5j]
 |cptr=>grind[a4o,a1U,a5j]
 |dat h1 h2 h3 h4=>cases h2<;>exact gen hr rfl rfl
 |_=>exact gen hr rfl rfl
end
end
section
open Go.PV
def c0k(names:List Nat)(p:Nat×ABox):Nat×ABox:=match p.2 with
 | .row ty sz e d _=>if names.contains p.1 then(p.1,.row ty sz e d true)else p
 |_=>p
def d5Y(a:AS)(names kn:List Nat):AS:={a with bx:=(a.bx.filter λ p=> !kn.contains p.1).map (c0k names)}
theorem b0Q(names:List Nat)(p:Nat×ABox):(c0k names p).1=p.1:=by
 grind[c0k]
section
variable {a:AS} {Γ:Gm} {s:St}
variable {l:List AV} {r:List Ce} {e kn ms:List Nat} {cs:List V}
theorem b5J(h:Ok a Γ s)(hl:InL Γ l cs)(hk:a7R Γ kn)(hr:b3N (a1U a) kn l=some (r,e)):
  ∃g i,a0G (a0h (a0b s.h)) (ms,kn.map Γ.ν) cs=some (g,i,e.map Γ.ν)/\InCs Γ r g/\a7R Γ e/\Met (λ id=>¬Γ.N id) ms i/\kn.length<=e.length:=by
 obtain⟨ds,k,m,n,o,p,q,t⟩:=a6O (Γ:=Γ) (IN:=In Γ) (OUT:=λ _ b d=>InC Γ b d) (good:=a7R Γ) (Un:=λ id=>¬Γ.N id) (f:=a1U a) (F:=a0h (a0b s.h)) (ms:=ms) (λ _ hb=>hb) (λ x _ c kn b e ms hc j he=>by
  obtain⟨d,k,m,n,o,p,q⟩:=a6P h hc j he (ms:=ms);grind) hl.1 hl.2 hk hr
 exact⟨ds,k,m,⟨n,o⟩,p,q,t⟩
theorem b8N{S A B C:Type}{f:S->B->Option (C×S)}{g:A->B}:∀{l:List A} {s:S},a0G f s (l.map g)=a0G (λ s a=>f s (g a)) s l
 |[],_=>rfl
 |a::l,s=>by
  simp only[av2,a0G];cases f s (g a)with
  |none=>rfl
  |some q=>simp only[b8N]
theorem b5N(h:Ok a Γ s){nm:Nat}(hl:InL Γ l cs)(hk:a7R Γ kn)(hr:b3N (a4o a nm) kn l=some (r,e)):
  cs.any a6J=false/\∃g i,a0G (a0h (a0b s.h)) (ms,kn.map Γ.ν) (cs.map (a0S (Γ.ν nm)))=some (g,i,e.map Γ.ν)/\InCs Γ r g/\a7R Γ e/\Met (λ id=>¬Γ.N id) ms i/\kn.length<=e.length:=by
 have k:∀{l:List AV} {cs:List V} {kn e:List Nat} {r:List Ce},InL Γ l cs->a7R Γ kn->b3N (a4o a nm) kn l=some (r,e)->cs.any a6J=false:=by
  intro l;induction l with
  |nil=>intro cs kn e r hl _ _;have:cs=[]:=ay7.1 hl.1.symm;subst this;rfl
  |cons x l ih=>
   intro cs kn e r hl hk hr;cases cs with
   |nil=>cases hl.1
   |cons c cs=>
    simp only[b3N]at hr;split at hr
    .cases hr
    .next y k1 hy=>
     split at hr
     .cases hr
     .next B k2 o=>
      obtain⟨m,_,_,_,_,n,_,_⟩:=b0C h (hl.2 0 x c rfl rfl) hk hy (ms:=[]);have:=ih (cs:=cs) ⟨by simpa using hl.1,λ j a b ha hb=>hl.2 (j+1) a b (by grind) (by grind)⟩ n o;simp[m,this]
 refine⟨k hl hk hr,?_⟩;rw[b8N];obtain⟨ds,q,m,u,n,w,z,A⟩:=a6O (Γ:=Γ) (IN:=In Γ) (OUT:=λ _ b d=>InC Γ b d) (good:=a7R Γ) (Un:=λ id=>¬Γ.N id) (f:=a4o a nm) (F:=λ t v=>a0h (a0b s.h) t (a0S (Γ.ν nm) v)) (ms:=ms) (λ _ hb=>hb) (λ x _ c kn b e ms hc p he=>by
  obtain⟨_,d,q,m,u,n,w,z⟩:=b0C h hc p he (ms:=ms);grind) hl.1 hl.2 hk hr
 exact⟨ds,q,m,⟨u,n⟩,w,z,A⟩
theorem a8x(h:Ok a Γ s){ps:List Nat}{r:List (List Ce)}(hp:Nms Γ ps)(hk:a7R Γ kn)(hr:b3N (b0y a) kn ps=some (r,e)):
  ∃bs g,a0G (a1x (a0b s.h)) (ms,kn.map Γ.ν) (ps.map Γ.ν)=some (bs,g,e.map Γ.ν)/\InBs Γ r bs/\a7R Γ e/\Met (λ id=>¬Γ.N id) ms g:=by
 obtain⟨ds,i,v,k,m,n,o,y⟩:=a6O (Γ:=Γ) (IN:=fun(nm:Nat) (id:Nat)=>Γ.ν nm=id) (OUT:=λ _ b d=>InCs Γ b d) (good:=a7R Γ) (Un:=λ id=>¬Γ.N id) (f:=b0y a) (F:=a1x (a0b s.h)) (ms:=ms) (λ _ hb=>hb) (λ x _ c kn b e ms hc p he=>by
  subst hc;unfold b0y at he;split at he
  .next l hb=>
   obtain⟨_,b',q,t⟩:=h.box _ (a0N hb);cases t with
   | @var _ cs k1=>
     obtain⟨z,u,i,v,k,m,n,o⟩:=b5N h k1 p he (ms:=ms);have w:a0b s.h (Γ.ν x)=some (.var cs):=by rw[<-h.g];exact q
     exact⟨u,i,by simp_all[a1x],k,m,n,o⟩
  .cases he) (l:=ps) (cs:=ps.map Γ.ν) (by simp) (λ j x c hx hc=>by grind) hk hr
 exact⟨ds,i,v,⟨k,m⟩,n,o⟩
variable {av:AV} {v:V}
theorem b0V(h:Ok a Γ s){b:List Nat}{c:Pa}(hv:In Γ av v)(hk:a7R Γ kn)(hr:a4l a kn av=some (c,b)):
  ∃e d,a0O (a0b s.h) (ms,kn.map Γ.ν) v=some (e,d,b.map Γ.ν)/\InP Γ c e/\(∀l,e≠ .tup l)/\a7R Γ b/\Met (λ id=>¬Γ.N id) ms d/\kn.length<=b.length:=by
 have data:(a1U a kn av).map (λ r=>(Pa.ce r.1,r.2))=some (c,b)->a0O (a0b s.h) (ms,kn.map Γ.ν) v=a0h (a0b s.h) (ms,kn.map Γ.ν) v->
   ∃e d,a0O (a0b s.h) (ms,kn.map Γ.ν) v=some (e,d,b.map Γ.ν)/\InP Γ c e/\(∀l,e≠ .tup l)/\a7R Γ b/\Met (λ id=>¬Γ.N id) ms d/\kn.length<=b.length:=by
  intro h1 h2;simp only[az2,az8]at h1;obtain⟨⟨x,q⟩,hx,rfl,rfl⟩:=h1;obtain⟨e,g,p,⟨i,j,f⟩,k,m,n⟩:=a6P h hv hk hx (ms:=ms);rw[h2];exact⟨e,g,p,.ce i j f,f,k,m,n⟩
 cases hv with
 | @agg l cs h1 h2=>simp only[a4l,az2,az8]at hr;obtain⟨⟨x,q⟩,hx,rfl,rfl⟩:=hr;obtain⟨o,g,p,i,k,m,n⟩:=b5J h ⟨h1,h2⟩ hk hx (ms:=ms);exact⟨.agg o,g,by grind[a0O],.agg i,(nofun),k,m,n⟩
 |any=>grind[a4l,a1U,a5j]
 |dat h1 h2 h3 h4=>cases h2<;>exact data hr rfl
 |_=>exact data hr rfl
theorem c0z(h:Ok a Γ s){c:Re}(hv:In Γ av v)(hr:b2P a av=some (c,e)):
  ∃i g,a2q (a0b s.h) (ms,[]) v=some (i,g,e.map Γ.ν)/\InR Γ c i/\a7R Γ e/\Met (λ id=>¬Γ.N id) ms g:=by
 have nil:a7R Γ []:=nofun;have data:(a4l a [] av).map (λ r=>(Re.pa r.1,r.2))=some (c,e)->a2q (a0b s.h) (ms,[]) v=a0O (a0b s.h) (ms,[]) v->
   ∃i g,a2q (a0b s.h) (ms,[]) v=some (i,g,e.map Γ.ν)/\InR Γ c i/\a7R Γ e/\Met (λ id=>¬Γ.N id) ms g:=by
  intro h1 h2;simp only[az2,az8]at h1;obtain⟨⟨x,t⟩,hx,rfl,rfl⟩:=h1;obtain⟨i,j,k,m,_,n,o,p⟩:=b0V h hv nil hx (ms:=ms);rw[h2];exact⟨i,j,k,.pa m,n,o⟩
 cases hv with
 | @tup l cs h1 h2=>
   simp only[b2P,az2,az8]at hr;obtain⟨⟨x,t⟩,hx,rfl,rfl⟩:=hr;obtain⟨ds,j,k,m,n,o,p,w⟩:=a6O (Γ:=Γ) (IN:=In Γ) (OUT:=λ _ b d=>InP Γ b d) (good:=a7R Γ) (Un:=λ id=>¬Γ.N id) (f:=a4l a) (F:=a0O (a0b s.h)) (ms:=ms) (λ _ hb=>hb) (λ x _ c kn b e ms hc q he=>by
    obtain⟨d,j,k,m,_,n,o,p⟩:=b0V h hc q he (ms:=ms);grind) h1 h2 nil hx
   have u:a0G (a0O (a0b s.h)) (ms,[]) cs=some (ds,j,t.map Γ.ν):=k;exact⟨.tup ds,j,by grind[a2q],.tup ⟨m,n⟩,o,p⟩
 |any=>simp[b2P,a4l,a1U,a5j]at hr
 |dat h1 h2 h3 h4=>cases h2<;>exact data hr rfl
 |_=>exact data hr rfl
variable {names:List Nat}
theorem c3i(h:Ok a Γ s)(hk:a7R Γ kn)(hm:∀id∈ms,UnN Γ names id)(hd:kn.all (λ nm=> !names.contains nm)=true):a1u (a0b s.h) ms (kn.map Γ.ν)=true:=by
 unfold a1u;rw[ay5];intro id hid;obtain⟨nm,b,rfl⟩:=ax5.1 hid;rw[ay8];left;rw[ax2,<-at1,au1];intro c;rcases hm _ c with hm|⟨d,h1,h2,h3⟩
 .exact hm (hk nm b).2
 .have:=h.νinj d nm h2 (hk nm b).1 h3;grind
theorem a7x{g:G}:∀{ms:List Nat} {p:Nat×Option Box},p∈a3y g ms->p.1∈ms/\∃ty sz xs f,g p.1=some (.row ty sz xs f)/\p.2=some (.row ty sz xs true)
 |[],p,h=>by cases h
 |id::ms,p,h=>by
  unfold a3y at h;split at h
  .next ty sz xs f hg=>
   rcases ay4.1 h with rfl|h
   .grind
   .obtain⟨h1,h2⟩:=a7x h;grind
  .obtain⟨h1,h2⟩:=a7x h;grind
theorem c7e(h:Ok a Γ s)(hk:a7R Γ kn)(hm:∀id∈ms,UnN Γ names id):
  ∃d,Γ.le d/\d.ρ=Γ.ρ/\d.n=Γ.n/\d.m=Γ.m/\d.ν=Γ.ν/\Ok (d5Y a names kn) d (On s ((kn.map Γ.ν).map (λ id=>(id,none))++a3y (a0b s.h) ms) s.nx):=by
 have g:∀{id:Nat},(∃ty sz xs f,a0b s.h id=some (.row ty sz xs f))->id<s.nx:=λ {id} ⟨ty,sz,xs,f,h1⟩=>by
  refine Ax7 λ x=> ?_;rw[h.nx id x]at h1;cases h1
 obtain⟨l1,o1⟩:=h.upd (bx:=(a.bx.filter λ p=> !kn.contains p.1).map (c0k names)) (us:=(kn.map Γ.ν).map (λ id=>(id,none))++a3y (a0b s.h) ms) (nx:=s.nx) (m:=a.m) (ν:=Γ.ν) (ay3 _) (λ _ _=>rfl) (ay3 _) (λ i h1 h2=>by omega) (λ i j h1 h2 h3 h4 _=>by omega)
  (λ p hp=>by
   rcases ax1.1 hp with hp|hp
   .obtain⟨id,hid,rfl⟩:=ax5.1 hp;obtain⟨nm,k,rfl⟩:=ax5.1 hid;exact⟨.inl (hk nm k).2,h.νlt nm (hk nm k).1⟩
   .obtain⟨_,ty,sz,xs,f,h1,h2⟩:=a7x hp;exact⟨.inr (.inr ⟨ty,sz,xs,f,true,h1,h2⟩),g ⟨ty,sz,xs,f,h1⟩⟩)
  (λ p hp=>by
   obtain⟨q,hq,rfl⟩:=ax5.1 hp;obtain⟨o,t⟩:=as2.1 hq;obtain⟨n,b,hb,u⟩:=h.box q o;have C:∀r∈(kn.map Γ.ν).map (λ id=>(id,(none:Option Box))),r.1≠Γ.ν q.1:=by
    intro r hr e;obtain⟨id,hid,rfl⟩:=ax5.1 hr;obtain⟨nm,k,rfl⟩:=ax5.1 hid;have:=h.νinj nm q.1 (hk nm k).1 n e;subst this;rw[ax2,<-at1,au1]at t;exact t k
   have c:a0b ((kn.map Γ.ν).map (λ id=>(id,none))++a3y (a0b s.h) ms++s.h) (Γ.ν q.1)=some b\/∃ty sz xs f,b= .row ty sz xs f/\a0b ((kn.map Γ.ν).map (λ id=>(id,none))++a3y (a0b s.h) ms++s.h) (Γ.ν q.1)=some (.row ty sz xs true)/\Γ.ν q.1∈ms:=by
    rcases c2R ((kn.map Γ.ν).map (λ id=>(id,none))++a3y (a0b s.h) ms) s.h (Γ.ν q.1)with⟨r,hr,e1,e2⟩|⟨_,e2⟩
    .rcases ax1.1 hr with hr|hr
     .grind
     .obtain⟨h0,ty,sz,xs,f,h1,h2⟩:=a7x hr;refine .inr ⟨ty,sz,xs,f,?_,by rw[e2,h2],e1▸h0⟩;rw[e1,<-h.g,hb]at h1;injection h1
    .exact .inl (by rw[e2,<-h.g];exact hb)
   have l:=(h.named o).2.1;rw[b0Q];refine .inr ⟨by rw[<-h.m];exact n,.inl l,?_⟩;obtain⟨v,bq⟩:=q;rcases c with c|⟨ty,sz,xs,f,rfl,c,y⟩
   .refine⟨b,c,?_⟩;cases u with
    |var k1=>exact .var k1
    |row k1 k2 k3 k4=>
     unfold c0k;simp only;split
     .exact .row k1 k2 k3 λ _=>rfl
     .exact .row k1 k2 k3 k4
   .refine⟨_,c,?_⟩;have w:names.contains v=true:=by
     rw[au1];rcases hm _ y with hm|⟨z,D,E,F⟩
     .grind
     .have:=h.νinj z v E n F;subst this;exact D
    cases u with
    |row k1 k2 k3 k4=>unfold c0k;simp only;rw[ax3 w];exact .row k1 k2 k3 λ _=>rfl)
  (λ p hp q hq e=>by
   obtain⟨G,A,rfl⟩:=ax5.1 hp;obtain⟨H,B,rfl⟩:=ax5.1 hq;rw[b0Q,b0Q]at e;rw[h.inj G (as2.1 A).1 H (as2.1 B).1 e])
 exact⟨_,l1,rfl,rfl,by rw[h.m],rfl,o1⟩
end
end
section
open Go.PV
structure Sub where
 sy:List (Sy×LE)
 nm:List (Nat×Nat)
 deriving Inhabited
def a9e(D:Sub)(i:Nat):Option (Sy×LE):=D.sy.find? λ p=>p.1.id==i
def a5s(D:Sub)(i:Nat):Option Nat:=(D.nm.find? λ p=>p.1==i).map (·.2)
def a4r(D:Sub):List (Sy×Int)->Option LE
 |[]=>some (.k 0)
 |(s,a)::r=>match a9e D s.id,a4r D r with
  |some (b,e),some c=>if s=b then some ((e.smul a).add c)else none
  |_,_=>none
def a2Q(D:Sub)(e:LE):Option LE:=(a4r D e.ts).map λ x=>x.addc e.c
def d1M(s:AS)(e b:LE):Bool:=decide (e=b)||(s.ent (e.sub b)&&s.ent (b.sub e))
def c4G(p:LE):Option Sy:=if p.c=0 then(match p.ts with|[(b,1)]=>some b|_=>none)else none
def c1w(s:AS)(nc:Nat)(D:Sub)(sy:Sy)(e:LE):Option Sub:=match a9e D sy.id with
 |some _=>none
 |none=>if decide (sy.id<nc)&&(s.ent (e.addc (- sy.lo))&&s.ent (e.neg.addc sy.hi))then some {D with sy:=(sy,e)::D.sy}else none
def a8Q(s:AS)(D:Sub)(p e:LE):Option Sub:=match a2Q D p with
 |some b=>if d1M s b e then some D else none
 |none=>none
def d3r(D:Sub)(p:LE):Option Sy:=(p.ts.find? λ q=>decide (q.2=1)&&(a9e D q.1.id).isNone).map (·.1)
def b1y(s:AS)(nc:Nat)(D:Sub)(p e:LE):Option Sub:=
 match(match c4G p with|some b=>(match a9e D b.id with|none=>some b|some _=>none)|none=>none)with
 |some b=>c1w s nc D b e
 |none=>match d3r D p with
  |none=>a8Q s D p e
  |some b=>match a2Q D (p.sub (.sy b))with
   |none=>none
   |some r=>match c1w s nc D b (e.sub r)with
    |none=>none
    |some E=>a8Q s E p e
def d5n(mb mc:Nat)(D:Sub)(p nm:Nat):Option Sub:=
 if p<mb then(if p=nm then some D else none)else
 match a5s D p with
 |some b=>if b=nm then some D else none
 |none=>if nm<mb||mc<=p||D.nm.any (λ q=>q.2==nm)then none else some {D with nm:=(p,nm)::D.nm}
def a9i{A B:Type}(f:Sub->A->B->Option Sub):Sub->List A->List B->Option Sub
 |D,[],[]=>some D
 |D,p::r,v::b=>match f D p v with
  |some D=>a9i f D r b
  |none=>none
 |_,_,_=>none
def d5l(b r:Bool)(c:LE)(e d:TD):Bool:=TD.le (.sl b 1 e) (.sl r 1 d)||(!b&&a0x c==some 0)
def c1a(s:AS)(nc mb mc:Nat):Nat->Sub->AV->AV->Option Sub
 |0,_,_,_=>none
 |n+1,D,p,v=>match p,v with
  | .any,_=>some D
  | .und,.und=>some D
  | .bool .unk,.bool _=>some D
  | .bool (.c b),.bool (.c b')=>if b=b' then some D else none
  | .int k e,.int m g=>if k=m then b1y s nc D e g else none
  | .str e,.str g=>b1y s nc D e g
  | .str e,.has g=>b1y s nc D e g
  | .str e,.lit (.string b)=>b1y s nc D e (.k b.size)
  | .has e,.lit (.string b)=>if b.data.toList.contains 47 then b1y s nc D e (.k b.size)else none
  | .has e,.has g=>b1y s nc D e g
  | .lit u,.lit q=>if c5G u q then some D else none
  | .nils,.nils=>some D
  | .dat r e d,.dat t g w=>if d5l t r g w d then b1y s nc D e g else none
  | .dat _ e _,.nils=>b1y s nc D e (.k 0)
  | .row nm sz o e,.row h i j g=>if sz=i then(match d5n mb mc D nm h with
    |some D=>(match b1y s nc D o j with
     |some D=>b1y s nc D e g
     |none=>none)
    |none=>none)else none
  | .agg l,.agg l'=>a9i (c1a s nc mb mc n) D l l'
  | .tup l,.tup l'=>a9i (c1a s nc mb mc n) D l l'
  | .fn f x y,.fn f' z A=>if f=f' then(match a9i (c1a s nc mb mc n) D x z with
    |some D=>a9i (c1a s nc mb mc n) D y A
    |none=>none)else none
  | .fns l,.fn f [] []=>if l.contains f then some D else none
  | .fns l,.fns l'=>if l'.all (l.contains ·)then some D else none
  | .ptr nm o,.ptr h j=>if o=j then d5n mb mc D nm h else none
  |_,_=>none
def ρOf (D:Sub)(ρ:Nat->Int)(i:Nat):Int:=match a9e D i with|some (_,e)=>e.ev ρ|none=>ρ i
def νOf (mb:Nat)(D:Sub)(ν:Nat->Nat)(i:Nat):Nat:=if i<mb then ν i else match a5s D i with|some nm=>ν nm|none=>ν i
def Gm.pat(Γ:Gm)(nc mb mc:Nat)(D:Sub):Gm:={ρ:=ρOf D Γ.ρ,n:=nc,ν:=νOf mb D Γ.ν,m:=mc,nx:=Γ.nx,g:=Γ.g,N:=Γ.N}
def Ext(D E:Sub):Prop:=(∀i q,a9e D i=some q->a9e E i=some q)/\∀i q,a5s D i=some q->a5s E i=some q
theorem Ext.refl{D:Sub}:Ext D D:=⟨λ _ _ h=>h,λ _ _ h=>h⟩
theorem Ext.trans{a b c:Sub}(h:Ext a b)(k:Ext b c):Ext a c:=⟨λ i q x=>k.1 i q (h.1 i q x),λ i q x=>k.2 i q (h.2 i q x)⟩
structure OkSub (Γ:Gm) (nc mb mc:Nat) (D:Sub):Prop where
 sy:∀q∈D.sy,q.2.ok Γ.ρ Γ.n/\q.1.id<nc/\q.1.lo<=q.2.ev Γ.ρ/\q.2.ev Γ.ρ<=q.1.hi
 nm:∀q∈D.nm,mb<=q.1/\q.1<mc/\q.2<Γ.m/\mb<=q.2
section
variable {a:AS} {Γ:Gm} {s:St} {nc mb mc:Nat} {D E:Sub}
theorem a3O{i:Nat}{q:Sy×LE}(h:a9e D i=some q):q∈D.sy/\q.1.id=i:=⟨ar3 h,by have:=Ay2 h;simpa using this⟩
theorem b6a(hs:OkSub Γ nc mb mc D):∀{l:List (Sy×Int)} {e:LE},a4r D l=some e->e.ok Γ.ρ Γ.n/\e.ev Γ.ρ=tsv (ρOf D Γ.ρ) l/\b9S (ρOf D Γ.ρ) nc l
 |[],e,h=>by
  simp only[a4r,az0]at h;subst h;exact⟨a1W 0,by rw[a1P];rfl,nofun⟩
 |(c,x)::r,e,h=>by
  simp only[a4r]at h;cases hf:a9e D c.id with
  |none=>simp[hf]at h
  |some q=>
   cases hr:a4r D r with
   |none=>simp[hf,hr]at h
   |some f=>
    obtain⟨d,eq⟩:=q;simp only[hf,hr]at h;split at h
    .next e1=>
     subst e1;injection h with h
     subst h;obtain⟨h1,h2,h3⟩:=b6a hs hr;obtain⟨m1,_⟩:=a3O hf;obtain⟨k1,k2,k3,k4⟩:=hs.sy _ m1;have b:ρOf D Γ.ρ c.id=eq.ev Γ.ρ:=by unfold ρOf;rw[hf]
     refine⟨a1A (a0Q k1) h1,by rw[a1B,a0R,h2,tsv,b],λ p hp=> ?_⟩;rcases ay4.1 hp with rfl|hp
     .exact⟨k2,by rw[b];exact k3,by rw[b];exact k4⟩
     .exact h3 p hp
    .cases h
variable {e p:LE}
theorem a4a(hs:OkSub Γ nc mb mc D)(h:a2Q D p=some e):e.ok Γ.ρ Γ.n/\e.ev Γ.ρ=p.ev (ρOf D Γ.ρ)/\p.ok (ρOf D Γ.ρ) nc:=by
 unfold a2Q at h;simp only[az2]at h;obtain⟨x,hx,rfl⟩:=h;obtain⟨h1,h2,h3⟩:=b6a hs hx;exact⟨a0k h1,by grind[a0j,LE.ev],h3⟩
theorem b1Y(hx:Ext D E):∀{l:List (Sy×Int)} {e:LE},a4r D l=some e->a4r E l=some e
 |[],_,h=>h
 |(b,x)::r,e,h=>by
  simp only[a4r]at h|-;cases hf:a9e D b.id with
  |none=>grind
  |some q=>
   cases hr:a4r D r with
   |none=>grind
   |some c=>rw[hx.1 _ _ hf,b1Y hx hr];grind
theorem c0u(hx:Ext D E)(h:a2Q D p=some e):a2Q E p=some e:=by
 grind[a2Q,az2,b1Y]
theorem c8Q(h:a2W Γ.ρ Γ.n a.cs){c:LE}(he:e.ok Γ.ρ Γ.n)(b:c.ok Γ.ρ Γ.n)(hs:d1M a e c=true):e.ev Γ.ρ=c.ev Γ.ρ:=by
 unfold d1M at hs;rw[ay8,az6,ay2]at hs;rcases hs with rfl|⟨h1,h2⟩
 .rfl
 .have:=b0j h (a0o he b) h1;have:=b0j h (a0o b he) h2;grind[a0s]
theorem c5L{b:Sy}(h:c4G p=some b):p=⟨0,[(b,1)]⟩:=by
 unfold c4G at h;split at h
 .next h0=>
  split at h
  .next d ht=>
   injection h with h
   subst h;obtain⟨c,e⟩:=p;grind
  .cases h
 .cases h
theorem b9n(h:a2W Γ.ρ Γ.n a.cs)(hs:OkSub Γ nc mb mc D){sy:Sy}(he:e.ok Γ.ρ Γ.n)(hu:c1w a nc D sy e=some E):
  OkSub Γ nc mb mc E/\Ext D E/\E.nm=D.nm/\∀b,Ext E b->sy.id<nc/\ρOf b Γ.ρ sy.id=e.ev Γ.ρ/\sy.lo<=e.ev Γ.ρ/\e.ev Γ.ρ<=sy.hi:=by
 unfold c1w at hu;split at hu
 .cases hu
 .next hf=>
  split at hu
  .next hc=>
   simp only[az6,ay2]at hc;injection hu with hu
   subst hu;have b1:=b0j h (a0k he) hc.2.1;have b2:=b0j h (a0k (a1g he)) hc.2.2;rw[a0j]at b1;rw[a0j,a1m]at b2;refine⟨⟨λ q hq=> ?_,hs.nm⟩,⟨λ i q hq=> ?_,λ _ _ h=>h⟩,rfl,λ b hx=> ?_⟩
   .rcases ay4.1 hq with rfl|hq
    .grind
    .exact hs.sy q hq
   .grind[a9e]
   .have c:a9e {D with sy:=(sy,e)::D.sy} sy.id=some (sy,e):=by simp[a9e]
    have d:=hx.1 _ _ c;grind[ρOf]
  .cases hu
theorem b5m(h:a2W Γ.ρ Γ.n a.cs)(hs:OkSub Γ nc mb mc D)(he:e.ok Γ.ρ Γ.n)(hu:a8Q a D p e=some E):
  E=D/\∀b,Ext D b->OkSub Γ nc mb mc b->p.ok (ρOf b Γ.ρ) nc/\p.ev (ρOf b Γ.ρ)=e.ev Γ.ρ:=by
 unfold a8Q at hu;split at hu
 .next g c=>
  split at hu
  .next d=>
   injection hu with hu
   subst hu;refine⟨rfl,λ b hx f=> ?_⟩;obtain⟨k1,k2,k3⟩:=a4a f (c0u hx c);grind[c8Q]
  .cases hu
 .cases hu
theorem d2w(h:a2W Γ.ρ Γ.n a.cs)(hs:OkSub Γ nc mb mc D)(he:e.ok Γ.ρ Γ.n)(hu:b1y a nc D p e=some E):
  OkSub Γ nc mb mc E/\Ext D E/\E.nm=D.nm/\∀b,Ext E b->OkSub Γ nc mb mc b->p.ok (ρOf b Γ.ρ) nc/\p.ev (ρOf b Γ.ρ)=e.ev Γ.ρ:=by
 unfold b1y at hu;split at hu
 .next f hb=>
  obtain⟨k1,k2,k3,k4⟩:=b9n h hs he hu;refine⟨k1,k2,k3,λ b hx g=> ?_⟩;obtain⟨c1,i,c2,c3⟩:=k4 b hx;split at hb
  .next d c=>
   split at hb
   .injection hb with hb
    subst hb;rw[c5L c];refine⟨λ q hq=> ?_,by grind[LE.ev,tsv]⟩;have:q=(d,1):=az7.1 hq;subst this;exact⟨c1,by grind,by grind⟩
   .cases hb
  .cases hb
 .split at hu
  .grind[b5m,Ext.refl]
  .next f c=>
   split at hu
   .cases hu
   .next r hr=>
    obtain⟨r1,_,_⟩:=a4a hs hr;split at hu
    .cases hu
    .next j hb=>
     obtain⟨k1,k2,k3,_⟩:=b9n h hs (a0o he r1) hb;grind[b5m]
variable {nm:Nat}
theorem d2D(hs:OkSub Γ nc mb mc D){p:Nat}(g:nm<Γ.m)(hu:d5n mb mc D p nm=some E):OkSub Γ nc mb mc E/\Ext D E/\E.sy=D.sy/\(p<mb/\p=nm\/p<mc)/\∀b,Ext E b->νOf mb b Γ.ν p=Γ.ν nm:=by
 unfold d5n at hu;split at hu
 .next c=>
  split at hu
  .next e=>
   injection hu with hu
   subst hu;subst e;exact⟨hs,Ext.refl,rfl,.inl ⟨c,rfl⟩,λ b _=>by unfold νOf;rw[ax3 c]⟩
  .cases hu
 .next c=>
  split at hu
  .next k hf=>
   split at hu
   .next e=>
    injection hu with hu
    subst hu;subst e;have d:∃q∈D.nm,q.1=p:=by
     unfold a5s at hf;simp only[az2]at hf;obtain⟨q,f,_⟩:=hf;exact⟨q,ar3 f,by have:=Ay2 f;simpa using this⟩
    obtain⟨q,f,l⟩:=d;exact⟨hs,Ext.refl,rfl,.inr (l▸(hs.nm q f).2.1),λ b hx=>by unfold νOf;rw[ay9 c,hx.2 _ _ hf]⟩
   .cases hu
  .next hf=>
   split at hu
   .cases hu
   next hc=>
   simp only[ay8,ay2,ap6]at hc;injection hu with hu
   subst hu;have j:a5s {D with nm:=(p,nm)::D.nm} p=some nm:=by simp[a5s]
   refine⟨⟨hs.sy,λ q hq=> ?_⟩,⟨λ _ _ h=>h,λ i q hq=> ?_⟩,rfl,.inr (by omega),λ b hx=>by unfold νOf;rw[ay9 c,hx.2 _ _ j]⟩
   .rcases ay4.1 hq with rfl|hq
    .exact⟨by simp only;omega,by simp only;omega,g,by simp only;omega⟩
    .exact hs.nm q hq
   .by_cases e1:p=i
    .subst e1;rw[hf]at hq;cases hq
    .unfold a5s at hq|-;rw[Au3];have:(p==i)=false:=by simpa using e1
     simp only[this];exact hq
def Fits(Γ:Gm)(nc mb mc:Nat)(D E:Sub)(Q:Gm->Prop):Prop:=OkSub Γ nc mb mc E/\Ext D E/\∀b,Ext E b->OkSub Γ nc mb mc b->Q (Γ.pat nc mb mc b)
variable {Q:Gm->Prop}
theorem Fits.same(hs:OkSub Γ nc mb mc D)(hQ:∀b,Ext D b->OkSub Γ nc mb mc b->Q (Γ.pat nc mb mc b)):Fits Γ nc mb mc D D Q:=⟨hs,Ext.refl,hQ⟩
variable {ρ:Nat->Int} {d:TD}
theorem b7F{g:G}{N:Nat->Prop}{r c:Bool}{f:TD}{hi:Int}{v:V}{m:Nat}(hl:d5l c r e f d=true)(hv:InD g N (.sl c hi f) v)(hm:lenOf v=some m)(he:(m:Int)=e.ev ρ):∃hi',InD g N (.sl r hi' d) v:=by
 unfold d5l at hl;rw[ay8]at hl;rcases hl with hl|hl
 .refine⟨m,(hv.hi (hi':=m) hm (ar9 _)).le ?_⟩;simp only[TD.le,az6,ar9,decide_true,ao5]at hl|-;refine⟨hl.1,?_⟩;have h2:=hl.2;split
  .next hr=>rw[ax3 hr]at h2;exact h2
  .next hr=>
   rw[ay9 hr]at h2;simp only[ay8,ay2]at h2|-;rcases h2 with h2|h2
   .omega
   .exact .inr h2
 .simp only[az6,ax2,aw5]at hl;obtain⟨rfl,hl⟩:=hl;have:=a0B hl ρ;have b:m=0:=by omega
  subst b;cases hv with
  |nils=>exact⟨0,.nils (ar9 0)⟩
  | @sl _ _ _ _ _ xs h1 h2=>
    have hx:xs=[]:=by simp only[lenOf,az0]at hm;exact ay7.1 hm
    subst hx;exact⟨0,.sl (ar9 0) (nofun)⟩
theorem b3a{A B C:Type}{f:Sub->A->B->Option Sub}{IN:B->C->Prop}{Q:Gm->A->C->Prop}(hf:∀x y c D E,OkSub Γ nc mb mc D->f D x y=some E->IN y c->Fits Γ nc mb mc D E λ G=>Q G x c):∀{l:List A} {l':List B} {cs:List C} {D E:Sub},
  OkSub Γ nc mb mc D->a9i f D l l'=some E->l'.length=cs.length->(∀(j:Nat) (y:B) (c:C),l'[j]?=some y->cs[j]?=some c->IN y c)->l.length=cs.length/\Fits Γ nc mb mc D E λ G=>∀(j:Nat) (x:A) (c:C),l[j]?=some x->cs[j]?=some c->Q G x c
 |[],[],cs,D,E,hs,hu,hl,_=>by
  grind[a9i,Fits.same]
 |[],_::_,_,_,_,_,hu,_,_=>by cases hu
 |_::_,[],_,_,_,_,hu,_,_=>by cases hu
 |x::l,y::l',[],_,_,_,_,hl,_=>by cases hl
 |x::l,y::l',c::cs,D,E,hs,hu,hl,hi=>by
  simp only[a9i]at hu;cases h1:f D x y with
  |none=>grind
  |some e=>
   simp only[h1]at hu;obtain⟨k1,k2,k3⟩:=hf x y c D e hs h1 (hi 0 y c rfl rfl);obtain⟨g,m1,m2,m3⟩:=b3a hf (l:=l) (l':=l') (cs:=cs) k1 hu (by grind) (λ j y c hy hc=>hi (j+1) y c (by grind) (by grind));refine⟨by simp[g],m1,k2.trans m2,λ h hx i j k m b d=> ?_⟩;cases j with
   |zero=>simp at b d;subst b;subst d;exact k3 h (m2.trans hx) i
   |succ j=>grind
theorem Fits.and{b:Sub}{e:Gm->Prop}(h:Fits Γ nc mb mc D b Q)(k:Fits Γ nc mb mc b E e):Fits Γ nc mb mc D E λ G=>Q G/\e G:=
 ⟨k.1,h.2.1.trans k.2.1,λ c hx d=>⟨h.2.2 c (k.2.1.trans hx) d,k.2.2 c hx d⟩⟩
theorem Fits.imp{d:Gm->Prop}(h:Fits Γ nc mb mc D E Q)(k:∀G:Gm,G.g=Γ.g->G.N=Γ.N->Q G->d G):Fits Γ nc mb mc D E d:=⟨h.1,h.2.1,λ b hx c=>k _ rfl rfl (h.2.2 b hx c)⟩
theorem a2o(h:a2W Γ.ρ Γ.n a.cs)(hs:OkSub Γ nc mb mc D)(he:e.ok Γ.ρ Γ.n)(hu:b1y a nc D p e=some E):Fits Γ nc mb mc D E λ G=>p.ok G.ρ G.n/\p.ev G.ρ=e.ev Γ.ρ:=by
 obtain⟨h1,h2,_,h3⟩:=d2w h hs he hu;exact⟨h1,h2,h3⟩
theorem b6p(c:∀i,i<mb->i<Γ.m->i<mc)(hs:OkSub Γ nc mb mc D){p:Nat}(b:nm<Γ.m)(hu:d5n mb mc D p nm=some E):Fits Γ nc mb mc D E λ G=>p<G.m/\G.ν p=Γ.ν nm:=by
 obtain⟨h1,h2,_,h3,h4⟩:=d2D hs b hu;refine⟨h1,h2,λ d hx e=>⟨?_,h4 d hx⟩⟩;rcases h3 with⟨h3,rfl⟩|h3
 .exact c _ h3 b
 .exact h3
theorem b3I(h:a2W Γ.ρ Γ.n a.cs)(j:∀i,i<mb->i<Γ.m->i<mc):∀(n:Nat) {D E:Sub} {p av:AV} {v:V},OkSub Γ nc mb mc D->c1a a nc mb mc n D p av=some E->In Γ av v->Fits Γ nc mb mc D E λ G=>In G p v
 |0,_,_,_,_,_,_,hu,_=>by cases hu
 |n+1,D,E,p,av,v,hs,hu,hv=>by
  have g:∀{l l':List AV} {cs:List V} {D E:Sub},OkSub Γ nc mb mc D->a9i (c1a a nc mb mc n) D l l'=some E->InL Γ l' cs->Fits Γ nc mb mc D E λ G=>InL G l cs:=by
   intro l l' cs D E hs hu hl;obtain⟨h1,k1⟩:=b3a (IN:=In Γ) (Q:=λ G x c=>In G x c) (λ x y c D E hs hf hc=>b3I h j n hs hf hc) hs hu hl.1 hl.2;exact k1.imp λ G _ _ hG=>⟨h1,hG⟩
  have b:D=E->(∀G:Gm,G.g=Γ.g->G.N=Γ.N->In G p v)->Fits Γ nc mb mc D E λ G=>In G p v:=by
   rintro rfl hG;exact Fits.same hs λ o _ _=>hG _ rfl rfl
  unfold c1a at hu;split at hu
  .injection hu with hu;exact b hu λ _ _ _=> .any
  .injection hu with hu;cases hv;exact b hu λ _ _ _=> .und
  .injection hu with hu;cases hv;exact b hu λ _ _ _=> .bool av5 av5
  .split at hu
   .next e=>injection hu with hu;subst e;cases hv with|bool h1 h2=>exact b hu λ _ _ _=> .bool av5 h2
   .cases hu
  .split at hu
   .next e=>
    subst e;cases hv with
    |int h1 h2=>exact(a2o h hs h1 hu).imp λ G _ _ ⟨d,f⟩=> .int d (by grind)
   .cases hu
  .cases hv with
   |str h1 h2=>exact(a2o h hs h1 hu).imp λ G _ _ ⟨d,f⟩=> .str d (by grind)
  .cases hv with
   |has h1 h2 _=>exact(a2o h hs h1 hu).imp λ G _ _ ⟨d,f⟩=> .str d (by grind)
  .cases hv;exact(a2o h hs (a1W _) hu).imp λ G _ _ ⟨d,f⟩=> .str d (by rw[f,a1P])
  .split at hu
   .next hm=>
    cases hv;exact(a2o h hs (a1W _) hu).imp λ G _ _ ⟨d,f⟩=> .has d (by rw[f,a1P]) (by grind)
   .cases hu
  .cases hv with
   |has h1 h2 h3=>exact(a2o h hs h1 hu).imp λ G _ _ ⟨d,f⟩=> .has d (by grind) h3
  .split at hu
   .next e=>injection hu with hu;have e:=b4d e;subst e;cases hv;exact b hu λ _ _ _=> .lit
   .cases hu
  .injection hu with hu;cases hv;exact b hu λ _ _ _=> .nils
  .split at hu
   .next hl=>
    cases hv with
    |dat h1 h2 h3 h4=>obtain⟨hi',h5⟩:=b7F hl h2 h3 h4;exact(a2o h hs h1 hu).imp λ G hg hN ⟨d,f⟩=> .dat d (by rw[hg,hN];exact h5) h3 (by grind)
   .cases hu
  .cases hv;exact(a2o h hs (a1W 0) hu).imp λ G hg hN ⟨d,f⟩=> .dat (hi:=0) (m:=0) d (.nils (ar9 0)) rfl (by grind[a1P])
  .split at hu
   .next e=>
    subst e;cases hv with
    |row h0 h1 h2 h3 h4=>
     split at hu
     .next k hn=>
      split at hu
      .next r ho=>
       have f1:=b6p j hs h0 hn;have f2:=a2o h f1.1 h1 ho;have f3:=a2o h f2.1 h2 hu;exact((f1.and f2).and f3).imp λ G _ _ ⟨⟨⟨d,f⟩,t,w⟩,u,z⟩=>by rw[<-f];exact .row d t u (by grind) (by grind)
      .cases hu
     .cases hu
   .cases hu
  .cases hv with
   |agg h1 h2=>exact(g hs hu ⟨h1,h2⟩).imp λ G _ _ q=> .agg q.1 q.2
  .cases hv with
   |tup h1 h2=>exact(g hs hu ⟨h1,h2⟩).imp λ G _ _ q=> .tup q.1 q.2
  .split at hu
   .next e=>
    subst e;cases hv with
    |fn h1 h2 h3 h4=>
     split at hu
     .next k hx=>
      have f1:=g hs hx ⟨h1,h3⟩;have f2:=g f1.1 hu ⟨h2,h4⟩;exact(f1.and f2).imp λ G _ _ ⟨d,f⟩=> .fn d.1 f.1 d.2 f.2
     .cases hu
   .cases hu
  .split at hu
   .next hc=>
    injection hu with hu
    cases hv with
    |fn h1 h2 h3 h4=>have e1:_=[]:=ay7.1 h1.symm;have e2:_=[]:=ay7.1 h2.symm;subst e1;subst e2;exact b hu λ _ _ _=> .fns (au1.1 hc)
   .cases hu
  .split at hu
   .next hc=>
    injection hu with hu
    cases hv with
    |fns h1=>exact b hu λ _ _ _=> .fns (au1.1 (ay5.1 hc _ h1))
   .cases hu
  .split at hu
   .next e=>
    subst e;cases hv with
    |ptr h0=>exact(b6p j hs h0 hu).imp λ G _ _ ⟨d,f⟩=>by rw[<-f];exact .ptr d
   .cases hu
  .cases hu
def mbT:Nat:=1000000
def c9A(s:AS)(nc:Nat)(D:Sub)(p c:Ce):Option Sub:=
 match p,c with
 | .av p,.av v=>if a4z p then c1a s nc mbT 0 6 D p v else none
 | .own ty sz e d,.own h g b f=>if ty=h&&sz=g&&(f.le d||a0x b==some 0)then b1y s nc D e b else none
 | .may e d,.own _ g b f=>if a4x d==some g&&(f.le d||a0x b==some 0)then b1y s nc D e b else none
 | .may e d,.may b f=>if a4x d==a4x f&&(f.le d)then b1y s nc D e b else none
 | .may e d,.av (.dat false b f)=>if d5l false false b f d then b1y s nc D e b else none
 | .may e _,.av .nils=>b1y s nc D e (.k 0)
 | .self,.self=>some D
 |_,_=>none
def d6K(s:AS)(nc:Nat)(D:Sub)(p c:Pa):Option Sub:=
 match p,c with
 | .ce p,.ce c=>c9A s nc D p c
 | .agg l,.agg l'=>a9i (c9A s nc) D l l'
 |_,_=>none
def d6T(s:AS)(nc:Nat)(D:Sub)(p c:Re):Option Sub:=
 match p,c with
 | .pa p,.pa c=>d6K s nc D p c
 | .tup l,.tup l'=>a9i (d6K s nc) D l l'
 |_,_=>none
theorem b8F{c:TD}{xs:List V}(hc:(c.le d||a0x e==some 0)=true)(hl:(xs.length:Int)=e.ev ρ)(hx:∀x∈xs,InD g0 N0 c x):∀x∈xs,InD g0 N0 d x:=by
 intro x b;rw[ay8,aw5]at hc;rcases hc with hc|hc
 .exact(hx x b).le hc
 grind[a0B]
end
end
section
open Go.PV
def GB(ρ:Nat->Int)(n nb:Nat):Gm:={ρ:=ρ,n:=n,ν:=λ i=>i,m:=nb,nx:=0,g:=g0,N:=N0}
structure OkS (ρ:Nat->Int) (n nc:Nat) (w:Sub):Prop where
 sy:∀q∈w.sy,q.2.ok ρ n/\q.1.id<nc/\q.1.lo<=q.2.ev ρ/\q.2.ev ρ<=q.1.hi
 nm:w.nm=[]
def FitsT(ρ:Nat->Int)(n nc:Nat)(w u:Sub)(Q:(Nat->Int)->Prop):Prop:=OkS ρ n nc u/\Ext w u/\∀b,Ext u b->OkS ρ n nc b->Q (ρOf b ρ)
section
variable {a:AS} {ρ:Nat->Int} {n nc nb:Nat} {w u:Sub}
theorem OkS.sub(h:OkS ρ n nc w)(mb mc:Nat):OkSub (GB ρ n nb) nc mb mc w:=⟨h.sy,λ q hq=>by rw[h.nm]at hq;cases hq⟩
theorem OkSub.s{mb mc:Nat}(h:OkSub (GB ρ n nb) nc mb mc w)(hb:nb<=mb):OkS ρ n nc w:=⟨h.sy,by
 cases hn:w.nm with
 |nil=>rfl
 |cons q r=>have:=h.nm q (by grind);have h2:q.2<nb:=this.2.2.1;omega⟩
theorem Fits.t{mb:Nat}{Q:Gm->Prop}{d:(Nat->Int)->Prop}(h:Fits (GB ρ n nb) nc mb nb w u Q)(hb:nb<=mb)(hq:∀ρ',(∀G:Gm,G.le (GB ρ' nc nb)->G.ρ=ρ'->G.n=nc->G.g=g0->G.N=N0->Q G->d ρ')):FitsT ρ n nc w u d:=by
 refine⟨h.1.s hb,h.2.1,λ b hx c=> ?_⟩;refine hq _ ((GB ρ n nb).pat nc mb nb b) ⟨ay3 _,ay3 _,ay3 _,λ _ _=>rfl,λ i hi=> ?_,λ i h k=>absurd h (Ax4.2 k),Keeps.refl⟩ rfl rfl rfl rfl (h.2.2 b hx (c.sub mb nb));show i=νOf mb b (λ i=>i) i;have hi:i<nb:=hi;unfold νOf;grind
theorem FitsT.imp{Q d:(Nat->Int)->Prop}(h:FitsT ρ n nc w u Q)(k:∀G,Q G->d G):FitsT ρ n nc w u d:=⟨h.1,h.2.1,λ b hx c=>k _ (h.2.2 b hx c)⟩
theorem a7y{A B C:Type}{f:Sub->A->B->Option Sub}{IN:B->C->Prop}{Q:(Nat->Int)->A->C->Prop}(hf:∀x y c w u,OkS ρ n nc w->f w x y=some u->IN y c->FitsT ρ n nc w u λ G=>Q G x c):∀{l:List A} {l':List B} {cs:List C} {w u:Sub},
  OkS ρ n nc w->a9i f w l l'=some u->l'.length=cs.length->(∀(j:Nat) (y:B) (c:C),l'[j]?=some y->cs[j]?=some c->IN y c)->l.length=cs.length/\FitsT ρ n nc w u λ G=>∀(j:Nat) (x:A) (c:C),l[j]?=some x->cs[j]?=some c->Q G x c
 |[],[],cs,w,u,hs,hu,hl,_=>by
  simp only[a9i,az0]at hu;subst hu;exact⟨hl,hs,Ext.refl,λ _ _ _ j x y h=>by simp at h⟩
 |[],_::_,_,_,_,_,hu,_,_=>by cases hu
 |_::_,[],_,_,_,_,hu,_,_=>by cases hu
 |x::l,y::l',[],_,_,_,_,hl,_=>by cases hl
 |x::l,y::l',c::cs,w,u,hs,hu,hl,hi=>by
  simp only[a9i]at hu;cases h1:f w x y with
  |none=>grind
  |some e=>
   simp only[h1]at hu;obtain⟨k1,k2,k3⟩:=hf x y c w e hs h1 (hi 0 y c rfl rfl);obtain⟨g,m1,m2,m3⟩:=a7y hf (l:=l) (l':=l') (cs:=cs) k1 hu (by grind) (λ j y c hy hc=>hi (j+1) y c (by grind) (by grind));refine⟨by simp[g],m1,k2.trans m2,λ i hx k j m o b d=> ?_⟩;cases j with
   |zero=>simp at b d;subst b;subst d;exact k3 i (m2.trans hx) k
   |succ j=>grind
theorem b5C(h:a2W ρ n a.cs)(hb:nb<=mbT)(hs:OkS ρ n nc w){k:Nat}{p av:AV}{v:V}(hu:c1a a nc mbT nb k w p av=some u)(hv:In (GB ρ n nb) av v):FitsT ρ n nc w u λ ρ'=>In (GB ρ' nc nb) p v:=
 (b3I (Γ:=GB ρ n nb) (mb:=mbT) (mc:=nb) h (λ _ _ h=>h) k (hs.sub mbT nb) hu hv).t hb λ ρ' G b _ _ _ _ hG=>hG.mono b
theorem c0F(h:a2W ρ n a.cs)(hb:nb<=mbT)(hs:OkS ρ n nc w){k:Nat}{p l:List AV}{vs:List V}(hu:a9i (c1a a nc mbT nb k) w p l=some u)(hv:InL (GB ρ n nb) l vs):FitsT ρ n nc w u λ ρ'=>InL (GB ρ' nc nb) p vs:=by
 obtain⟨h1,h2⟩:=a7y (IN:=In (GB ρ n nb)) (Q:=λ ρ' x c=>In (GB ρ' nc nb) x c) (λ x y c w u hs hf hc=>b5C h hb hs hf hc) hs hu hv.1 hv.2;exact h2.imp λ ρ' hq=>⟨h1,hq⟩
theorem a6i(h:a2W ρ n a.cs)(hs:OkS ρ n nc w){p e:LE}(he:e.ok ρ n)(hu:b1y a nc w p e=some u):FitsT ρ n nc w u λ ρ'=>p.ok ρ' nc/\p.ev ρ'=e.ev ρ:=
 (a2o (Γ:=GB ρ n 0) (mb:=mbT) (mc:=0) h (hs.sub mbT 0) he hu).t (aw7 _) λ ρ' G _ h1 h2 _ _ hq=>by rw[h1,h2]at hq;exact hq
theorem c5P(h:a2W ρ n a.cs)(hs:OkS ρ n nc w){p c:Ce}{v:V}(hu:c9A a nc w p c=some u)(hv:InC (GB ρ n 0) c v):FitsT ρ n nc w u λ ρ'=>InC (GB ρ' nc 0) p v:=by
 unfold c9A at hu;split at hu
 .split at hu
  .next hk=>
   cases hv with
   |av h0 h1=>exact(b5C h (aw7 _) hs hu h1).imp λ ρ' hq=> .av hk hq
  .cases hu
 .next ty sz e d k g i j=>
  split at hu
  .next hc=>
   rw[az6,az6,ay2,ay2]at hc;obtain⟨⟨rfl,rfl⟩,hc⟩:=hc;cases hv with
   |own h1 h2 h3=>exact(a6i h hs h1 hu).imp λ ρ' ⟨b,f⟩=> .own b (by show _=e.ev ρ';rw[f];exact h2) (b8F hc h2 h3)
  .cases hu
 .next e d ty g i j=>
  split at hu
  .next hc=>
   rw[az6,aw5]at hc;cases hv with
   |own h1 h2 h3=>exact(a6i h hs h1 hu).imp λ ρ' ⟨b,f⟩=> .may1 b (by show _=e.ev ρ';rw[f];exact h2) hc.1 (b8F hc.2 h2 h3)
  .cases hu
 .next e d i j=>
  split at hu
  .next hc=>
   rw[az6,aw5]at hc;cases hv with
   | @may0 _ _ _ m hi h1 h2 h3 h4=>exact(a6i h hs h1 hu).imp λ ρ' ⟨b,f⟩=> .may0 (hi:=hi) b (h2.le (by simp_all[TD.le])) h3 (by show _=e.ev ρ';rw[f];exact h4)
   |may1 h1 h2 h3 h4=>exact(a6i h hs h1 hu).imp λ ρ' ⟨b,f⟩=> .may1 b (by show _=e.ev ρ';rw[f];exact h2) (hc.1.trans h3) λ x hx=>(h4 x hx).le hc.2
  .cases hu
 .next e d i j=>
  split at hu
  .next hc=>
   cases hv with
   |av h0 h1=>cases h1 with
    |dat k1 k2 k3 k4=>obtain⟨hi',k5⟩:=b7F hc k2 k3 k4;exact(a6i h hs k1 hu).imp λ ρ' ⟨b,f⟩=> .may0 (hi:=hi') b k5 k3 (by show _=e.ev ρ';rw[f];exact k4)
  .cases hu
 .next e d=>
  cases hv with
  |av h0 h1=>cases h1;exact(a6i h hs (a1W 0) hu).imp λ ρ' ⟨b,f⟩=> .may0 (hi:=0) (m:=0) b (.nils (ar9 0)) rfl (by show _=e.ev ρ';rw[f,a1P];rfl)
 .injection hu with hu
  subst hu;cases hv;exact⟨hs,Ext.refl,λ _ _ _=> .self⟩
 .cases hu
theorem b9p(h:a2W ρ n a.cs)(hs:OkS ρ n nc w){p l:List Ce}{vs:List V}(hu:a9i (c9A a nc) w p l=some u)(hv:InCs (GB ρ n 0) l vs):FitsT ρ n nc w u λ ρ'=>InCs (GB ρ' nc 0) p vs:=by
 obtain⟨h1,h2⟩:=a7y (IN:=InC (GB ρ n 0)) (Q:=λ ρ' x c=>InC (GB ρ' nc 0) x c) (λ x y c w u hs hf hc=>c5P h hs hf hc) hs hu hv.1 hv.2;exact h2.imp λ ρ' hq=>⟨h1,hq⟩
theorem c5D(h:a2W ρ n a.cs)(hs:OkS ρ n nc w){p c:Pa}{v:V}(hu:d6K a nc w p c=some u)(hv:InP (GB ρ n 0) c v):FitsT ρ n nc w u λ ρ'=>InP (GB ρ' nc 0) p v:=by
 unfold d6K at hu;split at hu
 .cases hv with
  |ce h1 h2 h3=>exact(c5P h hs hu h1).imp λ ρ' hq=> .ce hq h2 h3
 .cases hv with
  |agg h1=>exact(b9p h hs hu h1).imp λ ρ' hq=> .agg hq
 .cases hu
theorem d1n(h:a2W ρ n a.cs)(hs:OkS ρ n nc w){p c:Re}{v:V}(hu:d6T a nc w p c=some u)(hv:InR (GB ρ n 0) c v):FitsT ρ n nc w u λ ρ'=>InR (GB ρ' nc 0) p v:=by
 unfold d6T at hu;split at hu
 .cases hv with
  |pa h1=>exact(c5D h hs hu h1).imp λ ρ' hq=> .pa hq
 .cases hv with
  |tup h1=>obtain⟨k1,k2⟩:=a7y (IN:=InP (GB ρ n 0)) (Q:=λ ρ' x c=>InP (GB ρ' nc 0) x c) (λ x y c w u hs hf hc=>c5D h hs hf hc) hs hu h1.1 h1.2;exact k2.imp λ ρ' hq=> .tup ⟨k1,hq⟩
 .cases hu
theorem b9q(h:a2W ρ n a.cs)(hs:OkS ρ n nc w){p l:List (List Ce)}{bs:List (List V)}(hu:a9i (λ w=>a9i (c9A a nc) w) w p l=some u)(hv:InBs (GB ρ n 0) l bs):FitsT ρ n nc w u λ ρ'=>InBs (GB ρ' nc 0) p bs:=by
 obtain⟨h1,h2⟩:=a7y (IN:=InCs (GB ρ n 0)) (Q:=λ ρ' x c=>InCs (GB ρ' nc 0) x c) (λ x y c w u hs hf hc=>b9p h hs hf hc) hs hu hv.1 hv.2;exact h2.imp λ ρ' hq=>⟨h1,hq⟩
end
end
section
open Go.PV
structure PostA where
 n:Nat
 syms:List Sy
 res:Re
 boxes:List (List Ce)
 cs:List LE
 deriving Inhabited
structure SumA where
 n:Nat
 syms:List Sy
 args:List AV
 boxes:List (List Ce)
 cs:List LE
 posts:List PostA
 deriving Inhabited
def a1p(call:Nat->a7F)(k:Nat)(c:SumA):Prop:=∀(ρ:Nat->Int) (asq:List V) (bs:List (List V)),
 (∀d∈c.syms,d.ok ρ c.n)->a2W ρ c.n c.cs->InL (GB ρ c.n c.boxes.length) c.args asq->InBs (GB ρ c.n 0) c.boxes bs->
 ∃N v b,call N k asq bs=some (v,b)/\∃p∈c.posts,∃ρ':Nat->Int,(∀i,i<c.n->ρ' i=ρ i)/\c.n<=p.n/\(∀d∈p.syms,d.ok ρ' p.n)/\a2W ρ' p.n p.cs/\InR (GB ρ' p.n 0) p.res v/\InBs (GB ρ' p.n 0) p.boxes b
def a3c:Nat->Sub->AV->Option AV
 |0,_,_=>none
 |n+1,m,v=>match v with
  | .any=>some .any
  | .bool (.c b)=>some (.bool (.c b))
  | .bool _=>some (.bool .unk)
  | .int k e=>(a2Q m e).map (.int k)
  | .str e=>(a2Q m e).map .str
  | .has e=>(a2Q m e).map .has
  | .lit v=>some (.lit v)
  | .nils=>some .nils
  | .dat r e d=>(a2Q m e).map λ e=> .dat r e d
  | .agg l=>(a0D (a3c n m) l).map .agg
  | .tup l=>(a0D (a3c n m) l).map .tup
  | .fns l=>some (.fns l)
  |_=>none
def a7K(m:Sub):Ce->Option Ce
 | .av v=>if a4z v then(a3c 6 m v).map .av else none
 | .own ty sz e d=>(a2Q m e).map λ e=> .own ty sz e d
 | .may e d=>(a2Q m e).map λ e=> .may e d
 | .self=>some .self
def b6D(m:Sub):Pa->Option Pa
 | .ce c=>(a7K m c).map .ce
 | .agg l=>(a0D (a7K m) l).map .agg
def b8O(m:Sub):Re->Option Re
 | .pa p=>(b6D m p).map .pa
 | .tup l=>(a0D (b6D m) l).map .tup
def a2c:AS->Sub->List Sy->AS×Sub
 |a,m,[]=>(a,m)
 |a,m,sy::r=>match a9e m sy.id with
  |some _=>a2c a m r
  |none=>a2c (fresh a sy.lo sy.hi).2 {m with sy:=(sy,(fresh a sy.lo sy.hi).1)::m.sy} r
def b1i(m:Sub):AS->List LE->Option AS
 |a,[]=>some a
 |a,g::r=>match a2Q m g with
  |some g'=>b1i m (a.with g') r
  |none=>none
def d1i(a:AS)(names kn ps:List Nat)(m:Sub)(p:PostA):Option (AV×AS):=
 match b1i (a2c a m p.syms).2 (a2c a m p.syms).1 p.cs with
 |none=>none
 |some a2=>match a0D (a0D (a7K (a2c a m p.syms).2)) p.boxes,b8O (a2c a m p.syms).2 p.res with
  |some bs,some r=>match c1T (d5Y a2 names kn) ps bs with
   |some a3=>some (d9j a3 r)
   |none=>none
  |_,_=>none
def d2X(c:SumA)(args:List AV)(a:AS):R:=
 match b3N (b6M 4 a) [] args with
 |none=>none
 |some (asq,ps)=>match b3N (b0y a) [] ps with
  |none=>none
  |some (bs,kn)=>
   if !(kn.all (λ nm=> !(args.flatMap (a5v 4)).contains nm)&&(decide (ps.length<=mbT)&&decide (ps.length=c.boxes.length)))then none else
   match a9i (c1a a c.n mbT c.boxes.length 6) ⟨[],[]⟩ c.args asq with
   |none=>none
   |some m=>match a9i (λ m=>a9i (c9A a c.n) m) m c.boxes bs with
    |none=>none
    |some m=>
     if !(c.syms.all (λ d=>match a9e m d.id with|some (b,_)=>decide (d=b)|none=>false)&&c.cs.all λ g=>match a2Q m g with|some g'=>a.ent g'|none=>false)then none else
     a0D (d1i a (args.flatMap (a5v 4)) kn ps m) c.posts
section
variable {a:AS} {Γ:Gm} {s:St} {nc:Nat} {m:Sub} {ρ':Nat->Int}
def Agr(m:Sub)(ρ ρ':Nat->Int):Prop:=∀i q,a9e m i=some q->q.2.ev ρ=ρ' i
theorem b1I{ρ:Nat->Int}(ha:Agr m ρ ρ'):∀{l:List (Sy×Int)} {e:LE},a4r m l=some e->e.ev ρ=tsv ρ' l
 |[],e,h=>by
  simp only[a4r,az0]at h;subst h;rw[a1P];rfl
 |(b,x)::r,e,h=>by
  simp only[a4r]at h;cases hf:a9e m b.id with
  |none=>grind
  |some q=>
   cases hr:a4r m r with
   |none=>grind
   |some d=>
    obtain⟨c,eq⟩:=q;simp only[hf,hr]at h;split at h
    .injection h with h
     subst h;rw[a1B,a0R,b1I ha hr,tsv,ha _ _ hf]
    .cases h
theorem a7T{ρ:Nat->Int}(ha:Agr m ρ ρ'){p e:LE}(h:a2Q m p=some e):e.ev ρ=p.ev ρ':=by
 unfold a2Q at h;simp only[az2]at h;obtain⟨x,hx,rfl⟩:=h;rw[a0j,b1I ha hx];grind[LE.ev]
theorem b6g(hs:OkS Γ.ρ Γ.n nc m)(ha:Agr m Γ.ρ ρ'):∀(k:Nat) {av g:AV} {v:V},In (GB ρ' nc 0) av v->a3c k m av=some g->In (GB Γ.ρ Γ.n 0) g v
 |0,_,_,_,_,h=>by cases h
 |k+1,av,g,v,hv,h=>by
  have d:∀{p e:LE},a2Q m p=some e->e.ok Γ.ρ Γ.n/\e.ev Γ.ρ=p.ev ρ':=λ h=>⟨(a4a (hs.sub (nb:=0) 0 0) h).1,a7T ha h⟩;have f:∀{l l':List AV} {cs:List V},l.length=cs.length->(∀(j:Nat) (a:AV) (c:V),l[j]?=some a->cs[j]?=some c->In (GB ρ' nc 0) a c)->a0D (a3c k m) l=some l'->InL (GB Γ.ρ Γ.n 0) l' cs:=by
   intro l l' cs h1 h2 hl;obtain⟨l1,l2⟩:=a2g hl;refine⟨by omega,λ j x c hx hc=> ?_⟩;have i:j<l.length:=by rw[l1];exact(ay0.1 hx).1
   exact b6g hs ha k (h2 j l[j] c (az5 i) hc) (l2 j l[j] x (az5 i) hx)
  cases hv with
  |any=>cases h;exact .any
  |und=>cases h
  | @bool b t h1 h2=>cases b<;>(cases h)<;>first|exact .bool av5 h2|exact .bool av5 av5
  |int h1 h2=>simp only[a3c,az2]at h;obtain⟨e,he,rfl⟩:=h;exact .int (d he).1 (by rw[h2];exact(d he).2.symm)
  |str h1 h2=>simp only[a3c,az2]at h;obtain⟨e,he,rfl⟩:=h;exact .str (d he).1 (by rw[h2];exact(d he).2.symm)
  |has h1 h2 h3=>simp only[a3c,az2]at h;obtain⟨e,he,rfl⟩:=h;exact .has (d he).1 (by rw[h2];exact(d he).2.symm) h3
  |lit=>cases h;exact .lit
  |nils=>cases h;exact .nils
  |dat h1 h2 h3 h4=>simp only[a3c,az2]at h;obtain⟨e,he,rfl⟩:=h;exact .dat (d he).1 h2 h3 (by rw[h4];exact(d he).2.symm)
  |agg h1 h2=>simp only[a3c,az2]at h;obtain⟨l,hl,rfl⟩:=h;have:=f h1 h2 hl;exact .agg this.1 this.2
  |tup h1 h2=>simp only[a3c,az2]at h;obtain⟨l,hl,rfl⟩:=h;have:=f h1 h2 hl;exact .tup this.1 this.2
  |fns h1=>cases h;exact .fns h1
  |row h0=>exact absurd h0 (as0 _)
  |ptr h0=>exact absurd h0 (as0 _)
  |eptr h0=>exact absurd h0 (as0 _)
  |fn=>cases h
  |cptr=>cases h
  |slf=>cases h
  |cptrR h0=>cases h0
theorem b5e{k:Nat}{av c:AV}(h:a3c k m av=some c)(hk:a4z av=true):a4z c=true:=by
 cases k with
 |zero=>cases h
 |succ k=>
  cases av with
  |any=>cases hk
  |bool b=>cases b<;>(cases h;rfl)
  |int k e=>simp only[a3c,az2]at h;obtain⟨_,_,rfl⟩:=h;rfl
  |str e=>simp only[a3c,az2]at h;obtain⟨_,_,rfl⟩:=h;rfl
  |has e=>simp only[a3c,az2]at h;obtain⟨_,_,rfl⟩:=h;rfl
  |dat r e d=>simp only[a3c,az2]at h;obtain⟨_,_,rfl⟩:=h;rfl
  |agg l=>simp only[a3c,az2]at h;obtain⟨_,_,rfl⟩:=h;rfl
  |tup l=>simp only[a3c,az2]at h;obtain⟨_,_,rfl⟩:=h;rfl
  |lit v=>cases h;rfl
  |nils=>cases h;rfl
  |fns l=>cases h;rfl
  |_=>cases h
theorem b6b(hs:OkS Γ.ρ Γ.n nc m)(ha:Agr m Γ.ρ ρ'){c d:Ce}{v:V}(hv:InC (GB ρ' nc 0) c v)(h:a7K m c=some d):InC Γ d v:=by
 have b:∀{p e:LE},a2Q m p=some e->e.ok Γ.ρ Γ.n/\e.ev Γ.ρ=p.ev ρ':=λ h=>⟨(a4a (hs.sub (nb:=0) 0 0) h).1,a7T ha h⟩;cases hv with
 |av h0 h1=>simp only[a7K]at h;rw[ax3 h0]at h;simp only[az2]at h;obtain⟨x,hx,rfl⟩:=h;exact .av (b5e hx h0) (b6g hs ha 6 h1 hx)
 |own h1 h2 h3=>simp only[a7K,az2]at h;obtain⟨e,he,rfl⟩:=h;exact .own (b he).1 (by rw[h2];exact(b he).2.symm) h3
 |may0 h1 h2 h3 h4=>simp only[a7K,az2]at h;obtain⟨e,he,rfl⟩:=h;exact .may0 (b he).1 h2 h3 (by rw[h4];exact(b he).2.symm)
 |may1 h1 h2 h3 h4=>simp only[a7K,az2]at h;obtain⟨e,he,rfl⟩:=h;exact .may1 (b he).1 (by rw[h2];exact(b he).2.symm) h3 h4
 |self=>cases h;exact .self
theorem b2p(hs:OkS Γ.ρ Γ.n nc m)(ha:Agr m Γ.ρ ρ'){l l':List Ce}{vs:List V}(hv:InCs (GB ρ' nc 0) l vs)(h:a0D (a7K m) l=some l'):InCs Γ l' vs:=by
 obtain⟨l1,l2⟩:=a2g h;refine⟨by have:=hv.1;omega,λ j x c hx hc=> ?_⟩;have b:j<l.length:=by rw[l1];exact(ay0.1 hx).1
 exact b6b hs ha (hv.2 j l[j] c (az5 b) hc) (l2 j l[j] x (az5 b) hx)
theorem b6s(hs:OkS Γ.ρ Γ.n nc m)(ha:Agr m Γ.ρ ρ'){p b:Pa}{v:V}(hv:InP (GB ρ' nc 0) p v)(h:b6D m p=some b):InP Γ b v:=by
 cases hv with
 |ce h1 h2 h3=>simp only[b6D,az2]at h;obtain⟨x,hx,rfl⟩:=h;exact .ce (b6b hs ha h1 hx) h2 h3
 |agg h1=>simp only[b6D,az2]at h;obtain⟨x,hx,rfl⟩:=h;exact .agg (b2p hs ha h1 hx)
theorem c2L(hs:OkS Γ.ρ Γ.n nc m)(ha:Agr m Γ.ρ ρ'){p d:Re}{v:V}(hv:InR (GB ρ' nc 0) p v)(h:b8O m p=some d):InR Γ d v:=by
 cases hv with
 |pa h1=>simp only[b8O,az2]at h;obtain⟨x,hx,rfl⟩:=h;exact .pa (b6s hs ha h1 hx)
 | @tup l cs h1=>
   simp only[b8O,az2]at h;obtain⟨x,hx,rfl⟩:=h;obtain⟨l1,l2⟩:=a2g hx;refine .tup ⟨by have:=h1.1;omega,λ j y c hy hc=> ?_⟩;have b:j<l.length:=by rw[l1];exact(ay0.1 hy).1
   exact b6s hs ha (h1.2 j l[j] c (az5 b) hc) (l2 j l[j] y (az5 b) hy)
theorem OkS.mono{b:Gm}(h:OkS Γ.ρ Γ.n nc m)(hl:Γ.le b):OkS b.ρ b.n nc m:=⟨λ q hq=>by
 obtain⟨h1,h2,h3,h4⟩:=h.sy q hq;exact⟨a0p h1 hl.n hl.ρ,h2,by rw[a0q h1 hl.ρ];exact h3,by rw[a0q h1 hl.ρ];exact h4⟩,h.nm⟩
theorem Agr.mono{b:Gm}(h:Agr m Γ.ρ ρ')(hs:OkS Γ.ρ Γ.n nc m)(hl:Γ.le b):Agr m b.ρ ρ':=λ i q hq=>by
 rw[a0q (hs.sy q (a3O hq).1).1 hl.ρ];exact h i q hq
theorem a6L:∀{l:List Sy} {a:AS} {Γ:Gm} {m:Sub},Ok a Γ s->OkS Γ.ρ Γ.n nc m->Agr m Γ.ρ ρ'->(∀sy∈l,sy.ok ρ' nc)->
  ∃b,Γ.le b/\Ok (a2c a m l).1 b s/\OkS b.ρ b.n nc (a2c a m l).2/\Agr (a2c a m l).2 b.ρ ρ'
 |[],a,Γ,m,h,hs,ha,_=>⟨Γ,Gm.le.refl Γ,h,hs,ha⟩
 |sy::l,a,Γ,m,h,hs,ha,hl=>by
  have c:=hl sy (ay1 ..);have e:∀sy∈l,sy.ok ρ' nc:=λ x hx=>hl x (az9 _ hx);unfold a2c;split
  .exact a6L h hs ha e
  .next hf=>
   obtain⟨d,l1,g1,n1,o1,k1,e1⟩:=h.fresh c.2.1 c.2.2;have f:OkS d.ρ d.n nc {m with sy:=(sy,(fresh a sy.lo sy.hi).1)::m.sy}:=⟨λ q hq=>by
    rcases ay4.1 hq with rfl|hq
    .exact⟨k1,c.1,by show sy.lo<=_;rw[e1];exact c.2.1,by show _<=sy.hi;rw[e1];exact c.2.2⟩
    .exact(hs.mono l1).sy q hq,hs.nm⟩
   have g:Agr {m with sy:=(sy,(fresh a sy.lo sy.hi).1)::m.sy} d.ρ ρ':=λ i q hq=>by
    unfold a9e at hq;rw[Au3]at hq;split at hq
    .grind
    .exact ha.mono hs l1 i q hq
   obtain⟨j,l2,o2,k,a2⟩:=a6L (l:=l) o1 f g e;exact⟨j,l1.trans l2,o2,k,a2⟩
theorem b9W(hs:OkS Γ.ρ Γ.n nc m)(ha:Agr m Γ.ρ ρ'):∀{l:List LE} {a b:AS},Ok a Γ s->a2W ρ' nc l->b1i m a l=some b->Ok b Γ s
 |[],a,b,h,_,hr=>by grind[b1i]
 |g::l,a,b,h,hc,hr=>by
  simp only[b1i]at hr;split at hr
  .next g' hg=>
   refine b9W hs ha (h.with (a4a (hs.sub (nb:=0) 0 0) hg).1 ?_) (λ x hx=>hc x (az9 _ hx)) hr;rw[a7T ha hg];exact(hc g (ay1 ..)).2
  .cases hr
end
end
section
open Go.PV
section
variable {a:AS} {Γ:Gm} {s:St}
theorem InC.gb{c:Ce}{v:V}(h:InC Γ c v):InC (GB Γ.ρ Γ.n 0) c v:=by
 cases h with
 |av h0 h1=>exact .av h0 h1
 |own h1 h2 h3=>exact .own h1 h2 h3
 |may0 h1 h2 h3 h4=>exact .may0 h1 h2 h3 h4
 |may1 h1 h2 h3 h4=>exact .may1 h1 h2 h3 h4
 |self=>exact .self
theorem InCs.gb{c:List Ce}{v:List V}(h:InCs Γ c v):InCs (GB Γ.ρ Γ.n 0) c v:=⟨h.1,λ j x y hx hy=>(h.2 j x y hx hy).gb⟩
theorem InBs.gb{c:List (List Ce)}{v:List (List V)}(h:InBs Γ c v):InBs (GB Γ.ρ Γ.n 0) c v:=⟨h.1,λ j x y hx hy=>(h.2 j x y hx hy).gb⟩
theorem InP.gb{p:Pa}{v:V}(h:InP Γ p v):InP (GB Γ.ρ Γ.n 0) p v:=by
 cases h with
 |ce h1 h2 h3=>exact .ce h1.gb h2 h3
 |agg h1=>exact .agg h1.gb
theorem InR.gb{p:Re}{v:V}(h:InR Γ p v):InR (GB Γ.ρ Γ.n 0) p v:=by
 cases h with
 |pa h1=>exact .pa h1.gb
 |tup h1=>exact .tup ⟨h1.1,λ j x y hx hy=>(h1.2 j x y hx hy).gb⟩
theorem c6J{names kn ps:List Nat}{ms:List Nat}{b:Sub}{p:PostA}{ρ':Nat->Int}{v:V}{m:List (List V)}{q:AV×AS}(h:Ok a Γ s)(hk:a7R Γ kn)(hm:∀id∈ms,UnN Γ names id)(hp:Nms Γ ps)
  (hs:OkS Γ.ρ Γ.n p.n b) (ha:Agr b Γ.ρ ρ') (y:∀z∈p.syms,z.ok ρ' p.n) (hc:a2W ρ' p.n p.cs) (hr:InR (GB ρ' p.n 0) p.res v) (hb:InBs (GB ρ' p.n 0) p.boxes m) (hq:d1i a names kn ps b p=some q):
  ∃us nx',a2s ((kn.map Γ.ν).map (λ id=>(id,none))++a3y (a0b s.h) ms,s.nx) (ps.map Γ.ν) m=some (us,nx')/\s.nx<=(a1R (us,nx') v).2.2/\
   Good [q] Γ s {v:=(a1R (us,nx') v).1,upd:=(a1R (us,nx') v).2.1,cnt:=(a1R (us,nx') v).2.2-s.nx}:=by
 unfold d1i at hq;split at hq
 .cases hq
 next a2 A=>
 split at hq
 .next B C D E=>
  split at hq
  .next a3 F=>
   injection hq with hq
   subst hq;obtain⟨i,l1,o1,G,g1⟩:=a6L h hs ha y;have o2:=b9W G g1 o1 hc A;have H:a7R i kn:=λ nm hn=>by
    obtain⟨M,O⟩:=hk nm hn;refine⟨aw9 M l1.m,?_⟩;rw[l1.ν nm M];obtain⟨q,hq,e⟩:=(h.N _).1 O;have n:a2.bx=a.bx:=by
     have e1:∀(l:List Sy) (a:AS) (b:Sub),(a2c a b l).1.bx=a.bx:=by
      intro l;induction l with
      |nil=>intro a b;rfl
      |cons z l ih=>grind[a2c,fresh]
     have e2:∀(l:List LE) (b:Sub) (a o:AS),b1i b a l=some o->o.bx=a.bx:=by
      intro l;induction l with
      |nil=>grind[b1i]
      |cons g l ih=>grind[b1i,AS.with]
     grind
    refine(o2.N _).2 ⟨q,by grind,?_⟩;rw[l1.ν q.1 (h.box q hq).1];exact e
   have I:∀id∈ms,UnN i names id:=by
    intro id hid;rcases hm id hid with h1|⟨nm,h1,h2,h3⟩
    .by_cases hn:i.N id
     .exfalso;obtain⟨q,hq,e⟩:=(o2.N _).1 hn;have n:a2.bx=a.bx:=by
       have e1:∀(l:List Sy) (a:AS) (b:Sub),(a2c a b l).1.bx=a.bx:=by
        intro l;induction l with
        |nil=>intro a b;rfl
        |cons z l ih=>grind[a2c,fresh]
       have e2:∀(l:List LE) (b:Sub) (a o:AS),b1i b a l=some o->o.bx=a.bx:=by
        intro l;induction l with
        |nil=>grind[b1i]
        |cons g l ih=>grind[b1i,AS.with]
       grind
      rw[n]at hq;rw[l1.ν q.1 (h.box q hq).1]at e;exact h1 ((h.N _).2 ⟨q,hq,e⟩)
     .exact .inl hn
    .exact .inr ⟨nm,h1,aw9 h2 l1.m,by rw[l1.ν nm h2];exact h3⟩
   obtain⟨d,l2,r2,n2,m2,P,o3⟩:=c7e o2 H I;have J:kn.map i.ν=kn.map Γ.ν:=Az8 λ k f=>l1.ν k (hk k f).1;have K:ps.map d.ν=ps.map Γ.ν:=by rw[P];exact Az8 λ k f=>l1.ν k (hp k f)
   rw[J]at o3;have N:OkS d.ρ d.n p.n (a2c a b p.syms).2:=G.mono l2;have g2:Agr (a2c a b p.syms).2 d.ρ ρ':=g1.mono G l2;have L:InBs d B m:=by
    obtain⟨b1,b2⟩:=a2g D;refine⟨by have:=hb.1;omega,λ j x c hx hc=> ?_⟩;have r:j<p.boxes.length:=by rw[b1];exact(ay0.1 hx).1
    exact b2p N g2 (hb.2 j p.boxes[j] c (az5 r) hc) (b2 j p.boxes[j] x (az5 r) hx)
   obtain⟨us,nx',b1,b2,t,l3,o4⟩:=a5B o3 (λ k f=>by rw[m2];exact aw9 (hp k f) l1.m) L F;rw[K]at b1;have u:InR d C v:=c2L N g2 hr E;have w:InR t C v:=by
    cases u with
    |pa h1=>exact .pa (h1.mono l3)
    |tup h1=>exact .tup (h1.mono l3)
   obtain⟨Q,R,c1,c2,c3,l4,r4,n4,o5,i5⟩:=d1s a3 t s us nx' C v o4 w;refine⟨us,nx',b1,av9 b2 c2,Good.one (((l1.trans l2).trans l3).trans l4) i5 ?_⟩;have e:s.nx+((a1R (us,nx') v).2.2-s.nx)=(a1R (us,nx') v).2.2:=by omega
   rw[e];exact o5
  .cases hq
 .cases hq
theorem c8w(h:Ok a Γ s){c:SumA}{k:Nat}{call:Nat->a7F}(hc:a1p call k c){args:List AV}{vs:List V}(hv:InL Γ args vs){B:List (AV×AS)}(hr:d2X c args a=some B):
  ∃N r,a1q (call N) (a0b s.h) s.nx k vs=some r/\Good B Γ s r:=by
 unfold d2X at hr;split at hr
 .cases hr
 next asq ps has=>
 split at hr
 .cases hr
 next bs kn S=>
 split at hr
 .cases hr
 next m=>
 simp only[ax2,av7,az6,ay2]at m;obtain⟨C,q9,D⟩:=m;split at hr
 .cases hr
 next s1 E=>
 split at hr
 .cases hr
 next l G=>
 split at hr
 .cases hr
 next H=>
 simp only[ax2,av7,az6,ay5]at H;obtain⟨u,w⟩:=H;have o:=a6O (Γ:=Γ) (IN:=In Γ) (OUT:=λ n b d=>In (Γ.bare n) b d) (good:=Nms Γ) (Un:=UnN Γ (args.flatMap (a5v 4))) (f:=b6M 4 a) (F:=a1y 4 (a0b s.h)) (ms:=[]) (λ hn hb=>hb.mono (b3H Γ hn)) (λ x hx c kn b s2 ms hc T he=>by
  obtain⟨d,m',P,Q,R,q4,q5⟩:=c5O h 4 hc T he 4 (ay3 _) (ms:=ms);exact⟨d,m',P,Q,R,q4.mono λ i hid=>hid.imp (λ h=>h) fun⟨nm,w1,w2⟩=>⟨nm,ax9.2 ⟨x,hx,w1⟩,w2⟩,q5⟩) hv.1 hv.2 (λ _ h=>by cases h) has
 obtain⟨y,z,a1,a2,a3,a4,a5,_⟩:=o;have s3:a0G (a1y 4 (a0b s.h)) ([],[]) vs=some (y,z,ps.map Γ.ν):=a1;obtain⟨I,J,b1,b2,b3,b4⟩:=a8x h (ms:=z) a4 (kn:=[]) (λ _ h=>by cases h) S;have s4:a0G (a1x (a0b s.h)) (z,[]) (ps.map Γ.ν)=some (I,J,kn.map Γ.ν):=b1;have K:∀id∈J,UnN Γ (args.flatMap (a5v 4)) id:=by
  intro id hid;rcases b4 id hid with h1|h1
  .rcases a5 id h1 with h2|h2;all_goals grind
  .exact .inl h1
 have U:=c3i h b3 K C;have W:OkS Γ.ρ Γ.n c.n ⟨[],[]⟩:=⟨(λ q hq=>by cases hq),rfl⟩;have t:InL (GB Γ.ρ Γ.n c.boxes.length) asq y:=by rw[<-D];exact⟨a2,a3⟩
 obtain⟨f1,f2,f3⟩:=c0F (a:=a) h.cons (by grind) W E t;obtain⟨g1,g2,g3⟩:=b9q (a:=a) h.cons f1 G b2.gb;have hA:=f3 l g2 g1;have hB:=g3 l Ext.refl g1;have hS:∀L∈c.syms,L.ok (ρOf l Γ.ρ) c.n:=by
  intro L X;have:=u L X;split at this
  .next Y e hf=>
   have e1:L=Y:=by simpa using this
   subst e1;obtain⟨m1,m2⟩:=a3O hf;obtain⟨_,k2,k3,k4⟩:=g1.sy _ m1;have s5:ρOf l Γ.ρ L.id=e.ev Γ.ρ:=by unfold ρOf;rw[hf]
   exact⟨k2,by grind,by grind⟩
  .cases this
 have hC:a2W (ρOf l Γ.ρ) c.n c.cs:=by
  intro g hg;have:=w g hg;split at this
  .next g' Z=>
   obtain⟨P,Q,R⟩:=a4a (g1.sub (nb:=0) 0 0) Z;refine⟨R,?_⟩;have p7:g'.ev Γ.ρ=g.ev (ρOf l Γ.ρ):=Q;rw[<-p7];exact h.ent P this
  .cases this
 obtain⟨N,v,s6,p8,p,hp,ρ',p1,p2,p3,p4,p5,p6⟩:=hc (ρOf l Γ.ρ) y I hS hC hA hB;obtain⟨p9,q0⟩:=a2g hr;obtain⟨j,hj⟩:=List.getElem?_of_mem hp;have M:j<B.length:=by rw[<-p9];exact(ay0.1 hj).1
 have A:=q0 j p B[j] hj (az5 M);have q6:OkS Γ.ρ Γ.n p.n l:=⟨λ q hq=>by
  obtain⟨P,Q,R⟩:=g1.sy q hq;grind,g1.nm⟩
 have O:Agr l Γ.ρ ρ':=λ i q hq=>by
  obtain⟨m1,m2⟩:=a3O hq;obtain⟨_,k2,_⟩:=g1.sy _ m1;grind[ρOf]
 obtain⟨us,nx',e1,e2,e3⟩:=c6J h b3 K a4 q6 O p3 p4 p5 p6 A;refine⟨N,{v:=(a1R (us,nx') v).1,upd:=(a1R (us,nx') v).2.1,cnt:=(a1R (us,nx') v).2.2-s.nx},?_,?_⟩
 .have q8:(ps.map Γ.ν).all (λ x=>decide (x<s.nx))=true:=by
   rw[ay5];intro id hid;obtain⟨nm,q7,rfl⟩:=ax5.1 hid;exact Ax1 (h.νlt nm (a4 nm q7))
  simp_all[a1q]
 .obtain⟨q,hq,hg⟩:=e3;have:q=B[j]:=az7.1 hq;subst this;exact⟨_,au2 M,hg⟩
end
end
end Go.SN
namespace Go.PV
section
variable {P:Program}
structure Calls.le (c i:Calls):Prop where
 cbv:∀k asq bs r,c.cbv k asq bs=some r->i.cbv k asq bs=some r
 none:∀k,c.inl k=none->i.inl k=none
 inl:∀k f,c.inl k=some f->∃f',i.inl k=some f'/\∀asq h nx r,f asq h nx=some r->f' asq h nx=some r
variable {c i:Calls}
variable {k:Nat} {g:G} {args:List V} {nx:Nat} {r:Out}
theorem c0r(hc:c.le i)(h:a1q c.cbv g nx k args=some r):a1q i.cbv g nx k args=some r:=by
 unfold a1q at h|-;cases h1:a0G (a1y 4 g) ([],[]) args with
 |none=>grind
 |some q=>
  obtain⟨asq,ms,ps⟩:=q;rw[h1]at h;simp only at h|-;cases h2:a0G (a1x g) (ms,[]) ps with
  |none=>grind
  |some q=>
   obtain⟨bs,ms,ks⟩:=q;rw[h2]at h;simp only at h|-;split at h
   .cases h
   .next h3=>
    rw[ay9 h3];cases h4:c.cbv k asq bs with
    |none=>grind
    |some q=>rw[hc.cbv _ _ _ _ h4];rw[h4]at h;exact h
variable {get:Nat->V} {o:Oper}
theorem c6U(hc:c.le i)(h:opE P c get g nx o=some r):opE P i get g nx o=some r:=by
 obtain⟨d,op,type,pos,after,guard⟩:=o;cases op;case call cl=>
  obtain⟨callee,args,e⟩:=cl;cases callee with
  |builtin b=>cases b<;>exact h
  |invoke a b=>exact h
  |value f=>
   simp only[opE,Az0,az3]at h|-;obtain⟨l,hl,v,hv,h⟩:=h;refine⟨l,hl,v,hv,?_⟩;split at h
   .next k a b=>
    split at h
    .cases h
    .next hi=>
     simp only[hc.none _ hi];exact c0r hc h
   .cases h
 case makeFunc fn first cap=>cases fn<;>exact h
 case makeMap t r=>cases r<;>exact h
 all_goals exact h
variable {s:St}
theorem b7a(hc:c.le i){r:V×St}(h:a1h P c o s=some r):a1h P i o s=some r:=by
 have key:(a1F c s.get o=some none/\a1F i s.get o=some none)\/∃l f f',a1F c s.get o=some (some (l,f))/\a1F i s.get o=some (some (l,f'))/\(∀asq h nx r,f asq h nx=some r->f' asq h nx=some r)\/a1F c s.get o=none:=by
  unfold a1F;split
  .split
   .next k a b hv=>
    cases hi:c.inl k with
    |none=>simp[hc.none _ hi]
    |some f=>
     obtain⟨f',h1,h2⟩:=hc.inl _ _ hi;rw[h1];simp only;cases hl:evs s.get _ with
     |none=>simp_all
     |some l=>grind
   grind
  .grind
 unfold a1h at h|-;rcases key with⟨h1,h2⟩|⟨l,f,f',⟨h1,h2,h3⟩|h1⟩
 .grind[az2,c6U]
 .grind[az2]
 .grind
theorem b2w(hc:c.le i)(h:a1F c get o=some none):a1F i get o=some none:=by
 unfold a1F at h|-;split
 .next ho=>
  rw[ho]at h;simp only at h;split
  .next k a b hv=>
   rw[hv]at h;simp only at h;cases hi:c.inl k with
   |none=>simp[hc.none _ hi]
   |some f=>rw[hi]at h;simp only[az2]at h;obtain⟨_,_,h⟩:=h;cases h
  .rfl
 .rfl
theorem a4p(hc:c.le i){ops:Array Oper}{a:St}(h:a0v P c ops o s=some a):a0v P i ops o s=some a:=by
 unfold a0v at h|-;split
 .next hw=>
  rw[ax3 hw]at h;simp only[az2]at h|-;obtain⟨q,hq,e⟩:=h;exact⟨q,b7a hc hq,e⟩
 grind
theorem a4q(hc:c.le i){ops:Array Oper}{a:St}:∀{l:List Oper} {s:St},a0I P c ops l s=some a->a0I P i ops l s=some a
 |[],_,h=>h
 |o::l,s,h=>by
  simp only[a0I]at h|-;cases hs:a0v P c ops o s with
  |none=>simp[hs]at h
  |some b=>rw[hs]at h;rw[a4p hc hs];exact a4q hc h
theorem b0c(hc:c.le i){ops:Array Oper}:∀{l:List Oper} {s:St} {r:List (List Nat×List Nat)×St},a4g P c ops l s=some r->a4g P i ops l s=some r
 |[],_,_,h=>h
 |o::l,s,r,h=>by
  simp only[a4g]at h|-;cases hs:a0v P c ops o s with
  |none=>grind
  |some a=>
   rw[hs]at h;rw[a4p hc hs];simp only at h|-;cases hf:a4g P c ops l a with
   |none=>grind
   |some q=>
    obtain⟨fs,e⟩:=q;rw[hf]at h;rw[b0c hc hf];simp only at h|-;split at h
    .next hw=>
     rw[ax3 hw];cases hi:a1F c s.get o with
     |none=>grind
     |some x=>grind[b2w]
    grind
theorem a4d{f f':St->Option (Ex×St)}(hf:∀s r,f s=some r->f' s=some r):∀{n m:Nat} {s:St} {r:Ex×St},n<=m->iter f n s=some r->iter f' m s=some r
 |0,_,_,_,_,h=>(by cases h)
 |n+1,0,_,_,hm,_=>(by cases hm)
 |n+1,m+1,s,r,hm,h=>by
  simp only[iter]at h|-;cases hs:f s with
  |none=>simp[hs]at h
  |some q=>
   rw[hf _ _ hs];rw[hs]at h;obtain⟨x,a⟩:=q;cases x with
   |normal=>exact a4d hf (As2 hm) h
   |_=>exact h
variable {m n:Nat}
theorem a3f(hc:c.le i)(hn:n<=m):∀{b:Code} {s:St} {r:Ex×St},a0e P c n b s=some r->a0e P i m b s=some r:=by
 intro b;induction b with
 |region id ops d=>
  intro s r h;cases d with
  |false=>grind[a0e,az2,a4q]
  |true=>grind[a0e,b0c]
 |seq a b e f=>
  intro s r h;simp only[a0e]at h|-;cases ha:a0e P c n a s with
  |none=>grind
  |some q=>grind
 |cond q a b e f=>grind[a0e]
 |block id b ih=>grind[a0e]
 |loop b ih=>grind[a0e,a4d]
 |scope b ih=>grind[a0e]
 |_=>intro s r h;exact h
theorem a6q(hc:c.le i)(hn:n<=m){h:HP}{r:V×St}(e:a1j P c n k args h nx=some r):a1j P i m k args h nx=some r:=by
 unfold a1j at e|-;simp only[Az0,az3]at e|-;obtain⟨fn,h1,e⟩:=e;refine⟨fn,h1,?_⟩;split at e
 .cases e
 .next hs=>
  rw[ay9 hs];simp only[az3]at e|-;obtain⟨b,h2,⟨x,s⟩,h3,e⟩:=e;exact⟨b,h2,(x,s),a3f hc hn h3,e⟩
variable {prim:Nat->Option Fp} {inl:Nat->Bool}
theorem a0L:∀{n m:Nat},n<=m->(a0d P prim inl n).le (a0d P prim inl m)
 |0,m,_=>by
  refine⟨λ k asq bs r h=>by simp[a0d]at h,λ k h=> ?_,λ k f h=> ?_⟩
  .cases m<;>grind[a0d]
  .simp only[a0d]at h;split at h
   .next hi=>
    injection h with h
    subst h;cases m with
    |zero=>simp_all[a0d]
    |succ m=>simp_all[a0d]
   .cases h
 |n+1,0,h=>(by cases h)
 |n+1,m+1,hm=>by
  have ih:=a0L (n:=n) (m:=m) (As2 hm);refine⟨λ k asq bs r h=> ?_,λ k h=> ?_,λ k f h=> ?_⟩
  .simp only[a0d]at h|-;split at h
   .exact h
   .grind[az3,a6q]
  .simp_all[a0d]
  .simp only[a0d]at h|-;split at h
   .next hi=>
    injection h with h
    subst h;refine⟨_,by rw[ax3 hi],λ asq h nx r e=> ?_⟩;grind[az2,a6q]
   .cases h
end
end Go.PV
namespace Go.SN
section
open Go.PV
def a1f{A B:Type}(f:A->Option (List B)):List A->Option (List B)
 |[]=>some []
 |a::r=>match f a with
  |none=>none
  |some x=>match a1f f r with
   |none=>none
   |some y=>some (x++y)
theorem a2x{A B:Type}{f:A->Option (List B)}:∀{l:List A} {r:List B},a1f f l=some r->∀a∈l,∃x,f a=some x/\∀b∈x,b∈r
 |[],_,_,a,ha=>(by cases ha)
 |a::l,r,h,b,hb=>by
  simp only[a1f]at h;cases h1:f a with
  |none=>grind
  |some x=>
   cases h2:a1f f l with
   |none=>grind
   |some y=>
    simp only[h1,h2,az0]at h;subst h;rcases ay4.1 hb with rfl|hb
    .grind
    .obtain⟨z,c,d⟩:=a2x h2 b hb;grind
def d3q(a:AS):Bool:=
 let B:=b1F a.cs (b1F a.cs [])
 a.cs.all λ g=>decide (d3i B g.neg.ts g.neg.c<=0)
def b4H:List SumA->List AV->AS->R
 |[],_,_=>none
 |c::r,args,a=>match d2X c args a with
  |some x=>some (x.filter λ p=>d3q p.2)
  |none=>b4H r args a
section
variable (P:Program) (ctx:Nat->List SumA) (inl:Nat->Bool)
def opC(a:AS)(o:Oper):R:=
 match o.op with
 | .call {callee:= .value f,args,.. }=>match evA a f,d9h a args.toList with
   |some (.fn k x y),some l=>if inl k then none else b4H (ctx k) (x++l++y) a
   |some (.fns ks),some l=>a1f (λ k=>if inl k then none else b4H (ctx k) l a) ks
   |_,_=>none
 |_=>opA P a o
def run(a:AS)(o:Oper):Option (List (Bool×AS)):=(opC P ctx inl a o).map λ r=>r.map λ p=>(true,d6r p.2 o.dst p.1)
def c7f(a:AS)(o:Oper):List (Bool×AS):=[(false,d6r a o.dst .und)]
def c7j(ops:Array Oper)(o:Oper)(a:AS):Option (List (Bool×AS)):=
 match o.guard with
 |none=>run P ctx inl a o
 |some (j,b)=>match(ops[j]?).bind (·.dst)with
  |none=>some (c7f a o)
  |some d=>match a.get d with
   | .bool q=>match(match assume a q b with
     |none=>some []
     |some e=>run P ctx inl (e.put d (.bool (.c b))) o)with
     |none=>none
     |some l=>some (l++(match assume a q (!b)with
      |none=>[]
      |some e=>c7f (e.put d (.bool (.c !b))) o))
   | .und=>some (c7f a o)
   |_=>none
end
section
variable {P:Program} {prim:Nat->Option Fp} {inl:Nat->Bool} {ctx:Nat->List SumA} {a:AS} {Γ:Gm} {s:St}
abbrev Lv(P:Program)(prim:Nat->Option Fp)(inl:Nat->Bool)(N:Nat):PV.Calls:=a0d P prim inl N
def a9d(P:Program)(prim:Nat->Option Fp)(inl:Nat->Bool)(ctx:Nat->List SumA):Prop:=∀k,∀c∈ctx k,a1p (λ N=>(Lv P prim inl N).cbv) k c
variable {N:Nat}
theorem a1L{k:Nat}(h:inl k=false):(Lv P prim inl N).inl k=none:=by
 cases N<;>simp[Lv,a0d,h]
theorem Ok.feas(h:Ok a Γ s):d3q a=true:=ay5.2 λ g hg=>Ax1<|by
 obtain⟨h1,h2⟩:=h.cons g hg;have h3:=b7B (a5D h.cons (a5D (B:=[]) h.cons (λ _ h=>by cases h))) g.neg.ts g.neg.c (a1g h1);have h4:g.neg.ev Γ.ρ=g.neg.c+tsv Γ.ρ g.neg.ts:=rfl;rw[<-h4,a1m]at h3;exact Int.le_trans h3 (by omega)
theorem b0U(hc:a9d P prim inl ctx)(h:Ok a Γ s){k:Nat}:∀{cs:List SumA} {args:List AV} {vs:List V} {b:List (AV×AS)},(∀c∈cs,c∈ctx k)->InL Γ args vs->b4H cs args a=some b->
  ∃N r,a1q (Lv P prim inl N).cbv (a0b s.h) s.nx k vs=some r/\Good b Γ s r
 |[],_,_,_,_,_,hr=>by cases hr
 |c::cs,args,vs,b,hm,hv,hr=>by
  simp only[b4H]at hr;split at hr
  .next x hx=>
   injection hr with hr
   subst hr;obtain⟨N,r,n1,p,f,d,g,i,e⟩:=c8w h (call:=λ N=>(Lv P prim inl N).cbv) (hc k c (hm c (ay1 ..))) hv hx;exact⟨N,r,n1,p,as2.2 ⟨f,e.feas⟩,d,g,i,e⟩
  .exact b0U hc h (λ c hc=>hm c (az9 _ hc)) hv hr
variable {o:Oper}
theorem d4T(hc:a9d P prim inl ctx)(h:Ok a Γ s){c:List (AV×AS)}(hr:opC P ctx inl a o=some c):
  ∃N r,a1F (Lv P prim inl N) s.get o=some none/\opE P (Lv P prim inl N) s.get (a0b s.h) s.nx o=some r/\Good c Γ s r:=by
 unfold opC at hr;split at hr
 .next f args t ho=>
  split at hr
  .next k x y l hf hl=>
   split at hr
   .cases hr
   next hi=>
   have hi:inl k=false:=by simpa using hi
   obtain⟨fv,f1,f2⟩:=a1n h hf;obtain⟨vs,l1,l2⟩:=c5I h hl;cases f2 with
   | @fn _ _ _ asq bs d e g i=>
     obtain⟨N,r,n1,n2⟩:=b0U hc h (k:=k) (λ _ h=>h) (((show InL Γ _ _ from⟨d,g⟩).append l2).append ⟨e,i⟩) hr;refine⟨N,r,?_,?_,n2⟩
     .grind[a1F,a1L]
     .simp only[opE,ho,Az0,l1,f1,az1,a1L hi,n1]
  .next ks l hf hl=>
   obtain⟨fv,f1,f2⟩:=a1n h hf;obtain⟨vs,l1,l2⟩:=c5I h hl;cases f2 with
   | @fns _ k hk=>
     obtain⟨x,b,j⟩:=a2x hr k hk;split at b
     .cases b
     next hi=>
     have hi:inl k=false:=by simpa using hi
     obtain⟨N,r,n1,p,m,n⟩:=b0U hc h (k:=k) (λ _ h=>h) l2 b;refine⟨N,r,?_,?_,p,j p m,n⟩
     .grind[a1F,a1L]
     .simp only[opE,ho,Az0,l1,f1,az1,a1L hi,ao8,ap8,n1]
  .cases hr
 .next q=>
  obtain⟨r,r1,r2⟩:=d5Q h hr (call:=Lv P prim inl 0);refine⟨0,r,?_,r1,r2⟩;unfold a1F;split
  .grind
  .rfl
theorem Ok.refine(h:Ok a Γ s){d:Nat}{av:AV}(hv:In Γ av (s.get d)):Ok (a.put d av) Γ s:=by
 obtain⟨e1,e2,e3,e4,e5⟩:=b0M (s:=a) (i:=d) (v:=av);refine⟨by rw[e3];exact h.n,by rw[e5];exact h.m,h.nxe,h.νlt,h.νinj,h.g,by rw[e1];exact h.N,by rw[e4];exact h.sz,h.small,λ i=> ?_,by rw[e2];exact h.cons,by rw[e1];exact h.box,by rw[e1];exact h.inj,h.nx⟩;rw[AS.get_put (by rw[h.sz];exact h.small)];split
 .next e=>rw[e.1];exact hv
 .exact h.env i
def d7q(v:V)(b:Bool):Bool:=match v with| .lit (.bool t)=>t==b|_=>false
def Steps(P:Program)(prim:Nat->Option Fp)(inl:Nat->Bool)(ops:Array Oper)(o:Oper)(Γ:Gm)(s:St)(l:List (Bool×AS)):Prop:=
 ∃N c,a0v P (Lv P prim inl N) ops o s=some c/\(a0V ops o s.get=true->a1F (Lv P prim inl N) s.get o=some none)/\∃p∈l,p.1=a0V ops o s.get/\∃b,Γ.le b/\Ok p.2 b c
variable {ops:Array Oper} {l:List (Bool×AS)}
theorem d0d(hc:a9d P prim inl ctx)(h:Ok a Γ s)(hw:a0V ops o s.get=true)(hr:run P ctx inl a o=some l):Steps P prim inl ops o Γ s l:=by
 unfold run at hr;simp only[az2]at hr;obtain⟨i,b,rfl⟩:=hr;obtain⟨N,r,n1,n2,p,d,c,e,f,g⟩:=d4T hc h b;refine⟨N,a2H {s with h:=r.upd++s.h,nx:=s.nx+r.cnt} o.dst r.v,?_,λ _=>n1,_,ax5.2 ⟨p,d,rfl⟩,hw.symm,c,e,g.put f⟩;simp_all[a0v,a1h]
theorem b7r(h:Ok a Γ s)(hw:a0V ops o s.get=false):Steps P prim inl ops o Γ s (c7f a o):=by
 refine⟨0,a2H s o.dst .und,?_,(λ h=>by grind),_,az7.2 rfl,hw.symm,Γ,Gm.le.refl Γ,h.put .und⟩;simp_all[a0v]
theorem Steps.mem{l':List (Bool×AS)}(h:Steps P prim inl ops o Γ s l)(hl:∀p∈l,p∈l'):Steps P prim inl ops o Γ s l':=by
 obtain⟨N,b,h1,h2,p,c,d⟩:=h;exact⟨N,b,h1,h2,p,hl p c,d⟩
theorem b8M(hc:a9d P prim inl ctx)(h:Ok a Γ s)(hr:c7j P ctx inl ops o a=some l):Steps P prim inl ops o Γ s l:=by
 unfold c7j at hr;split at hr
 .next hg=>exact d0d hc h (by unfold a0V;rw[hg]) hr
 .next j b hg=>
  split at hr
  .next hd=>
   injection hr with hr
   subst hr;exact b7r h (by unfold a0V;rw[hg];simp only[hd])
  .next d hd=>
   have g:a0V ops o s.get=d7q (s.get d) b:=by
    unfold a0V;rw[hg];simp only[hd];rfl
   have f:=h.env d;split at hr
   .next q hq=>
    rw[hq]at f;cases i:s.get d with
    |lit u=>
     rw[i]at f;cases f with
     | @bool _ t r v=>
       rw[i]at g;have g:a0V ops o s.get=(t==b):=g;obtain⟨w,a1,a2⟩:=h.assume r v;split at hr
       .cases hr
       next l1 k=>
       injection hr with hr
       subst hr;have m:∀c,c=t->In Γ (.bool (.c c)) (s.get d):=λ c e=>by rw[i,e];exact .bool av5 rfl
       by_cases n:t=b
       .subst n;rw[a1]at k;exact(d0d hc (a2.refine (m t rfl)) (by rw[g];simp) k).mem λ p hp=>av4 _ hp
       .have ht:t= !b:=by cases t<;>cases b<;>simp_all
        subst ht;rw[a1];exact(b7r (a2.refine (m _ rfl)) (by rw[g];cases b<;>rfl)).mem λ p hp=>aw2 _ hp
    |_=>rw[i]at f;cases f
   .next hq=>
    rw[hq]at f;injection hr with hr
    subst hr;refine b7r h ?_;rw[g];generalize s.get d=x at f;cases f;rfl
   .cases hr
theorem a7N{M:Nat}(hN:N<=M){s b:St}(h:a0v P (Lv P prim inl N) ops o s=some b):a0v P (Lv P prim inl M) ops o s=some b:=a4p (a0L hN) h
end
end
section
open Go.PV
def c1F:Code->List Nat
 | .region _ ops _=>ops.toList.filterMap (·.dst)
 | .seq a b| .cond _ a b=>c1F a++c1F b
 | .block _ b| .loop b| .scope b=>c1F b
 |_=>[]
section
variable {P:Program} {call:PV.Calls}
def Kept(L:List Nat)(s a:St):Prop:=a.sz=s.sz/\∀i,i∉L->a.get i=s.get i
variable {L:List Nat} {s:St}
theorem Kept.refl:Kept L s s:=⟨rfl,λ _ _=>rfl⟩
theorem Kept.trans{L:List Nat}{a b c:St}(h:Kept L a b)(k:Kept L b c):Kept L a c:=⟨k.1.trans h.1,λ i hi=>(k.2 i hi).trans (h.2 i hi)⟩
variable {a:St}
theorem Kept.mono{L':List Nat}{b:St}(h:Kept L a b)(k:∀i∈L,i∈L'):Kept L' a b:=⟨h.1,λ i hi=>h.2 i λ c=>hi (k i c)⟩
variable {d:Option Tmp} {v:V}
theorem d0S:(a2H s d v).sz=s.sz:=by
 cases d with
 |none=>rfl
 |some d=>grind[a2H,St.put]
theorem b5a(hs:s.sz<=256):Kept d.toList s (a2H s d v):=by
 cases d with
 |none=>exact Kept.refl
 |some d=>refine⟨d0S,λ i hi=> ?_⟩;show(s.put d v).get i=s.get i;rw[St.get_put hs,ay9];grind
theorem a8C{ops:Array Oper}{o:Oper}(hs:s.sz<=256)(h:a0v P call ops o s=some a):Kept o.dst.toList s a:=by
 unfold a0v at h;split at h
 .simp only[az2]at h;obtain⟨⟨v,b⟩,h1,rfl⟩:=h;have e:b.env=s.env/\b.sz=s.sz:=by
   unfold a1h at h1;split at h1
   .cases h1
   .grind[az2]
   .grind[az2]
  grind[Kept,b5a,St.get]
 grind[b5a]
theorem a9c{ops:Array Oper}:∀{l:List Oper} {s a:St},s.sz<=256->a0I P call ops l s=some a->Kept (l.filterMap (·.dst)) s a
 |[],s,a,_,h=>by grind[a0I,Kept.refl]
 |o::l,s,a,hs,h=>by
  simp only[a0I]at h;cases h1:a0v P call ops o s with
  |none=>grind
  |some b=>simp only[h1]at h;have k1:=a8C hs h1;have k2:=a9c (by rw[k1.1];exact hs) h;refine(k1.mono λ i hi=> ?_).trans (k2.mono λ i hi=> ?_);all_goals grind
theorem b5v{ops:Array Oper}:∀{l:List Oper} {s e:St} {fs:List (List Nat×List Nat)},s.sz<=256->a4g P call ops l s=some (fs,e)->Kept (l.filterMap (·.dst)) s e
 |[],s,e,fs,_,h=>by simp only[a4g,az0,az8]at h;rw[<-h.2];exact Kept.refl
 |o::l,s,e,fs,hs,h=>by
  simp only[a4g]at h;cases h1:a0v P call ops o s with
  |none=>simp[h1]at h
  |some a=>
   simp only[h1]at h;cases h2:a4g P call ops l a with
   |none=>simp[h2]at h
   |some q=>
    obtain⟨b,c⟩:=q;simp only[h2]at h;have he:c=e:=by
     split at h
     .split at h
      .injection h with h;injection h
      .cases h
     .injection h with h;injection h
    subst he;have k1:=a8C hs h1;have k2:=b5v (by rw[k1.1];exact hs) h2;refine(k1.mono λ i hi=> ?_).trans (k2.mono λ i hi=> ?_)
    .rw[Az5];exact⟨o,ay1 ..,by simpa using hi⟩
    .rw[Az5]at hi|-;obtain⟨x,hx,e⟩:=hi;exact⟨x,az9 _ hx,e⟩
theorem b4Z{L:List Nat}{f:St->Option (Ex×St)}(hf:∀s x a,s.sz<=256->f s=some (x,a)->Kept L s a):∀{n:Nat} {s a:St} {x:Ex},s.sz<=256->iter f n s=some (x,a)->Kept L s a
 |0,_,_,_,_,h=>(by cases h)
 |n+1,s,a,x,hs,h=>by
  simp only[iter]at h;cases h1:f s with
  |none=>grind
  |some q=>
   obtain⟨y,b⟩:=q;rw[h1]at h;have k1:=hf s y b hs h1;cases y with
   |normal=>exact k1.trans (b4Z hf (by rw[k1.1];exact hs) h)
   |_=>grind
theorem c0b{n:Nat}:∀{c:Code} {s d:St} {x:Ex},s.sz<=256->a0e P call n c s=some (x,d)->Kept (c1F c) s d:=by
 intro c;induction c with
 |skip=>intro s d x _ h;injection h with h;grind[Kept.refl]
 |label l=>intro s d x _ h;injection h with h;grind[Kept.refl]
 |exit i=>intro s d x _ h;injection h with h;grind[Kept.refl]
 |ret=>intro s d x _ h;injection h with h;grind[Kept.refl]
 |region id ops k=>
  intro s d x hs h;cases k with
  |false=>simp only[a0e,az2,az8]at h;obtain⟨m,h1,_,rfl⟩:=h;exact a9c hs h1
  |true=>
   simp only[a0e]at h;split at h
   .cases h
   .next fs e hf=>
    split at h
    .injection h with h;injection h with _ h;subst h;exact b5v hs hf
    .cases h
 |seq a b f g=>
  intro s d x hs h;simp only[a0e]at h;cases h1:a0e P call n a s with
  |none=>grind
  |some q=>
   obtain⟨y,m⟩:=q;rw[h1]at h;have k1:=(f hs h1).mono (L':=c1F (.seq a b)) λ i hi=>av4 _ hi;cases y with
   |normal=>exact k1.trans ((g (by rw[k1.1];exact hs) h).mono λ i hi=>aw2 _ hi)
   |_=>grind
 |cond q a b f g=>
  intro s d x hs h;simp only[a0e]at h;split at h
  .next t _=>
   cases t with
   |true=>exact(f hs h).mono λ i hi=>av4 _ hi
   |false=>exact(g hs h).mono λ i hi=>aw2 _ hi
  .cases h
 |block id b ih=>
  intro s d x hs h;simp only[a0e]at h;cases h1:a0e P call n b s with
  |none=>grind
  |some q=>
   obtain⟨y,m⟩:=q;rw[h1]at h;have k1:=ih hs h1;cases y with
   |exit j=>injection h with h;injection h with _ h;subst h;exact k1
   |_=>injection h with h;injection h with _ h;subst h;exact k1
 |loop b ih=>intro s d x hs h;simp only[a0e]at h;exact b4Z (λ s x d hs h=>ih hs h) hs h
 |scope b ih=>intro s d x hs h;simp only[a0e]at h;exact ih hs h
 |_=>intro s d x hs h;cases h
end
end
section
open Go.PV
def c6r(f:AV->AV->Bool):List AV->List AV->Bool
 |[],[]=>true
 |a::r,b::c=>f a b&&c6r f r c
 |_,_=>false
def leV:Nat->AV->AV->Bool
 |0,_,_=>false
 |n+1,a,b=>match a,b with
  |_,.any=>true
  | .und,.und=>true
  | .bool _,.bool .unk=>true
  | .bool a,.bool b=>decide (a=b)
  | .int k e,.int m g=>decide (k=m)&&decide (e=g)
  | .str e,.str g=>decide (e=g)
  | .has e,.has g=>decide (e=g)
  | .lit u,.lit o=>c5G u o
  | .nils,.nils=>true
  | .dat r e d,.dat p g h=>decide (e=g)&&d5l r p e d h
  | .row a b c d,.row i b' j h=>decide (a=i)&&decide (b=b')&&decide (c=j)&&decide (d=h)
  | .agg l,.agg l'=>c6r (leV n) l l'
  | .tup l,.tup l'=>c6r (leV n) l l'
  | .fn f x y,.fn f' q t=>decide (f=f')&&c6r (leV n) x q&&c6r (leV n) y t
  | .fns l,.fns l'=>l.all (l'.contains ·)
  | .ptr a b,.ptr i b'=>decide (a=i)&&decide (b=b')
  | .eptr a b c d,.eptr i b' j h=>decide (a=i)&&decide (b=b')&&decide (c=j)&&decide (d=h)
  | .cptr l,.cptr l'=>c6r (leV n) l l'
  |_,_=>false
def leB:ABox->ABox->Bool
 | .var l,.var l'=>c6r (leV 6) l l'
 | .row ty sz e d f,.row b c g h f'=>decide (ty=b)&&decide (sz=c)&&decide (e=g)&&(d.le h||a0x e==some 0)&&(!f||f')
 |_,_=>false
def c1t(a:AS):AV->List Nat->Option LE
 |v,[]=>match v with
  | .int _ e=>some e
  | .str e=>some e
  | .has e=>some e
  |v=>c1G v
 |v,i::p=>match v with
  | .agg l| .tup l=>match l[i]? with
    |some v=>c1t a v p
    |none=>none
  | .ptr nm off=>match a4U a nm with
    |some (.var l)=>match l[off+i]? with
     |some v=>c1t a v p
     |none=>none
    |_=>none
  | .row nm _ _ _=>match a4U a nm with
    |some (.row _ _ k _ _)=>some k
    |_=>none
  |_=>none
structure LinF where
 c:Int
 ts:List (Bool×Nat×List Nat×Int)
 deriving Inhabited
def d6C(a h:AS):List (Bool×Nat×List Nat×Int)->Option LE
 |[]=>some (.k 0)
 |(b,i,p,k)::r=>match(if b then c1t a (a.get i) p else c1t h (h.get i) p),d6C a h r with
  |some e,some x=>some ((e.smul k).add x)
  |_,_=>none
def d2V(a h:AS)(f:LinF):Option LE:=(d6C a h f.ts).map λ x=>x.addc f.c
structure Hd where
 h1:AS
 slots:List Nat
 boxN:List Nat
 gs:List LE
 rk:LE
 deriving Inhabited
def Hd.h(H:Hd)(a:AS):AS:={H.h1 with cs:=H.gs++a.cs}
def b6E:List Nat->Bool
 |[]=>true
 |a::r=> !r.contains a&&b6E r
def b7Z(nb:Nat)(e:LE):Bool:=e.ts.all λ p=>decide (p.1.id<nb)
def d0h(nb:Nat):AB->Bool
 | .c _| .unk=>true
 | .ge e| .eq e| .ne e| .teq e| .feq e=>b7Z nb e
def b5s(nb mb:Nat):Nat->AV->Bool
 |0,_=>false
 |n+1,v=>match v with
  | .bool b=>d0h nb b
  | .int _ e| .str e| .has e| .dat _ e _| .slf e _=>b7Z nb e
  | .row nm _ o e=>decide (nm<mb)&&(b7Z nb o&&b7Z nb e)
  | .agg l| .tup l| .cptr l=>l.all (b5s nb mb n)
  | .fn _ x y=>x.all (b5s nb mb n)&&y.all (b5s nb mb n)
  | .ptr nm _=>decide (nm<mb)
  | .eptr nm _ e _=>decide (nm<mb)&&b7Z nb e
  |_=>true
def d5b(nb mb:Nat):ABox->Bool
 | .var l=>l.all (b5s nb mb 6)
 | .row _ _ e _ _=>b7Z nb e
def a3I(a0 a:AS)(b:List Nat)(H:Hd)(fs:List LinF)(c:LinF):Bool:=
 decide (a.n<=H.h1.n)&&(decide (a.m<=H.h1.m)&&(decide (H.h1.sz=a.sz)&&(b6E (H.h1.bx.map (·.1))&&(H.h1.bx.all (λ p=>decide (p.1<H.h1.m))&&
 ((List.range 256).all (λ i=>(b.contains i&&(H.slots.contains i||(match H.h1.get i with| .any=>true|_=>false)))||(!b.contains i&&(H.slots.contains i||leV 6 (a.get i) (H.h1.get i))))&&
 (H.boxN.all (λ nm=>decide (nm<a.m))&&(H.h1.bx.all (λ p=>decide (a.m<=p.1)||(H.boxN.contains p.1||d5b a.n a.m p.2))&&(decide (a0D (d2V a0 H.h1) fs=some H.gs)&&decide (d2V a0 H.h1 c=some H.rk)))))))))
def b1n(nb:Nat)(b:Sub):List (Sy×Int)->Option LE
 |[]=>some (.k 0)
 |(s,x)::r=>match b1n nb b r with
  |none=>none
  |some c=>if s.id<nb then some ((LE.smul x (.sy s)).add c)else match a9e b s.id with
   |some (d,e)=>if s=d then some ((e.smul x).add c)else none
   |none=>none
def b2s(nb:Nat)(b:Sub)(e:LE):Option LE:=(b1n nb b e.ts).map λ x=>x.addc e.c
def c4a(a:AS)(H:Hd)(e:AS)(b:Sub)(nm:Nat):Option Sub:=
 match a4U H.h1 nm,a4U e nm with
 |some (.var l),some (.var l')=>a9i (c1a e H.h1.n a.m H.h1.m 6) b l l'
 |_,_=>none
def a8W(H:Hd)(e:AS)(g:Sub)(nm:Nat):Option Sub:=
 match a4U H.h1 nm,(a5s g nm).bind (a4U e)with
 |some (.row ty sz k d f),some (.row b c h i f')=>if decide (ty=b)&&(decide (sz=c)&&((i.le d||a0x h==some 0)&&(!f'||f)))then b1y e H.h1.n g k h else none
 |_,_=>none
def b0A{A:Type}(f:Sub->A->Option Sub):Sub->List A->Option Sub
 |b,[]=>some b
 |b,x::r=>match f b x with
  |some b=>b0A f b r
  |none=>none
def c5Z(a:AS)(H:Hd)(e:AS):Option Sub:=
 match a9i (λ c i j=>c1a e H.h1.n a.m H.h1.m 6 c (H.h1.get i) (e.get j)) ⟨[],[]⟩ H.slots H.slots with
 |none=>none
 |some c=>match b0A (c4a a H e) c H.boxN with
  |none=>none
  |some c=>match b0A (a8W H e) c (List.range' a.m (H.h1.m-a.m))with
   |none=>none
   |some c=>
    if H.h1.bx.all (λ p=>decide (a.m<=p.1)||(H.boxN.contains p.1||(match a4U e p.1 with|some b=>leB b p.2|none=>false)))&&
     (c.sy.all (λ q=>decide (a.n<=q.1.id))&&b6E (c.nm.map (·.2))&&H.gs.all λ g=>match b2s a.n c g with|some g'=>e.ent g'|none=>false)then some c else none
section
variable {a e:AS} {Γ w z:Gm} {s B:St}
theorem b7P{f:AV->AV->Bool}(hf:∀{a b:AV}{v:V},f a b=true->In Γ a v->In Γ b v):∀{l l':List AV} {cs:List V},c6r f l l'=true->InL Γ l cs->InL Γ l' cs
 |[],[],_,_,h=>h
 |[],_::_,_,h,_=>by cases h
 |_::_,[],_,h,_=>by cases h
 |a::l,b::l',[],_,h=>by cases h.1
 |a::l,b::l',c::cs,h,hl=>by
  rw[c6r,az6]at h;exact InL.cons (hf h.1 hl.tail.1) (b7P hf h.2 hl.tail.2)
theorem c1P:∀(n:Nat) {a b:AV} {v:V},leV n a b=true->In Γ a v->In Γ b v
 |0,_,_,_,h,_=>by cases h
 |n+1,a,b,v,h,hv=>by
  have c:∀{l l':List AV} {cs:List V},c6r (leV n) l l'=true->InL Γ l cs->InL Γ l' cs:=λ h hl=>b7P (λ h hv=>c1P n h hv) h hl;unfold leV at h;split at h
  .exact .any
  .exact hv
  .cases hv with|bool h1 h2=>exact .bool av5 av5
  .grind
  .rw[az6,ay2,ay2]at h;obtain⟨rfl,rfl⟩:=h;exact hv
  .grind
  .grind
  .grind[b4d]
  .exact hv
  .rw[az6,ay2]at h;obtain⟨rfl,h⟩:=h;cases hv with
   |dat h1 h2 h3 h4=>obtain⟨hi',h5⟩:=b7F h h2 h3 h4;exact .dat h1 h5 h3 h4
  .simp only[az6,ay2]at h;obtain⟨⟨⟨rfl,rfl⟩,rfl⟩,rfl⟩:=h;exact hv
  .cases hv with|agg h1 h2=>have:=c h ⟨h1,h2⟩;exact .agg this.1 this.2
  .cases hv with|tup h1 h2=>have:=c h ⟨h1,h2⟩;exact .tup this.1 this.2
  .simp only[az6,ay2]at h;obtain⟨⟨rfl,h1⟩,h2⟩:=h;cases hv with
   |fn k1 k2 k3 k4=>have d:=c h1 ⟨k1,k3⟩;have f:=c h2 ⟨k2,k4⟩;exact .fn d.1 f.1 d.2 f.2
  .cases hv with|fns h1=>exact .fns (au1.1 (ay5.1 h _ h1))
  .grind
  .simp only[az6,ay2]at h;obtain⟨⟨⟨rfl,rfl⟩,rfl⟩,rfl⟩:=h;exact hv
  .cases hv with
   |cptr h1 h2=>have:=c h ⟨h1,h2⟩;exact .cptr this.1 this.2
   |cptrR h1 h2 h3 h4 h5=>have:=c h ⟨h4,h5⟩;exact .cptrR h1 h2 h3 this.1 this.2
  .cases h
theorem d3W{b b':ABox}{x:Box}(h:leB b b'=true)(hb:InB Γ b x):InB Γ b' x:=by
 unfold leB at h;split at h
 .cases hb with|var k1=>exact .var (b7P (λ h hv=>c1P 6 h hv) h k1)
 .simp only[az6,ay2]at h;obtain⟨⟨⟨⟨rfl,rfl⟩,rfl⟩,hd⟩,hf⟩:=h;cases hb with
  | @row _ _ _ _ _ f0 xs k1 k2 k3 k4=>
    refine .row k1 k2 (λ x hx=> ?_) (λ d=> ?_)
    .rw[ay8,aw5]at hd;rcases hd with hd|hd
     .exact(k3 x hx).le hd
     .have:=a0B hd Γ.ρ;have c:xs=[]:=ay7.1 (by omega);rw[c]at hx;cases hx
    .grind
 .cases h
structure OkB (a:AS) (Γ:Gm) (s:St):Prop where
 n:Γ.n=a.n
 m:Γ.m=a.m
 sz:a.sz=s.sz
 env:∀i,In Γ (a.get i) (s.get i)
 cons:a2W Γ.ρ Γ.n a.cs
 box:∀p∈a.bx,p.1<Γ.m/\∃b,Γ.g (Γ.ν p.1)=some b/\InB Γ p.2 b
theorem Ok.toB(h:Ok a Γ s):OkB a Γ s:=⟨h.n,h.m,h.sz,h.env,h.cons,h.box⟩
theorem b7G(h:OkB a Γ s):∀{p:List Nat} {av:AV} {v:V} {e:LE},In Γ av v->c1t a av p=some e->e.ok Γ.ρ Γ.n
 |[],av,v,e,hv,ho=>by
  unfold c1t at ho;split at ho
  .cases ho;cases hv with|int h1 _=>exact h1
  .cases ho;cases hv with|str h1 _=>exact h1
  .cases ho;cases hv with|has h1 _ _=>exact h1
  grind[b3Z]
 |i::p,av,v,e,hv,ho=>by
  unfold c1t at ho;have c:∀{l:List AV} {cs:List V} {i:Nat},InL Γ l cs->(match l[i]? with|some v=>c1t a v p|none=>none)=some e->e.ok Γ.ρ Γ.n:=by
   intro l cs i hl ho;split at ho
   .next x hx=>
    have j:i<cs.length:=by rw[<-hl.1];exact(ay0.1 hx).1
    exact b7G h (hl.2 i x cs[i] hx (az5 j)) ho
   .cases ho
  cases hv with
  |agg h1 h2=>exact c ⟨h1,h2⟩ ho
  |tup h1 h2=>exact c ⟨h1,h2⟩ ho
  |ptr h0=>
   simp only at ho;split at ho
   .next l hb=>
    obtain⟨_,b,m,g⟩:=h.box _ (a0N hb);cases g with
    |var k1=>exact c k1 ho
   .cases ho
  |row h0=>
   simp only at ho;split at ho
   .next k d f hb=>
    injection ho with ho
    subst ho;obtain⟨_,b,m,g⟩:=h.box _ (a0N hb);cases g with
    |row k1 _ _ _=>exact k1
   .cases ho
  |_=>simp at ho
theorem b1g:∀{l:List Nat},b6E l=true->l.Nodup
 |[],_=>List.nodup_nil
 |a::r,h=>by
  rw[b6E,az6,ax2,<-at1,au1]at h;exact Aw0.2 ⟨h.1,b1g h.2⟩
theorem b1U{nb nc mb mc:Nat}{b:Sub}(hs:OkSub Γ nc mb mc b)(g:∀q∈b.sy,nb<=q.1.id):∀{l:List (Sy×Int)} {x:LE},b1n nb b l=some x->b9S (ρOf b Γ.ρ) nc l->(∀i,i<nb->i<Γ.n)->x.ok Γ.ρ Γ.n/\x.ev Γ.ρ=tsv (ρOf b Γ.ρ) l
 |[],x,h,_,_=>by
  simp only[b1n,az0]at h;subst h;exact⟨a1W 0,by rw[a1P];rfl⟩
 |(f,k)::r,x,h,j,hn=>by
  simp only[b1n]at h;split at h
  .cases h
  next o m=>
  obtain⟨h1,h2⟩:=b1U hs g m (λ p hp=>j p (az9 _ hp)) hn;obtain⟨o1,o2,o3⟩:=j (f,k) (ay1 ..);simp only at o1 o2 o3;split at h
  .next n=>
   injection h with h
   subst h;have d:a9e b f.id=none:=by
    cases hf:a9e b f.id with
    |none=>rfl
    |some q=>obtain⟨m1,m2⟩:=a3O hf;have:=g q m1;omega
   have c:ρOf b Γ.ρ f.id=Γ.ρ f.id:=by unfold ρOf;rw[d]
   rw[c]at o2 o3;refine⟨a1A (a0Q (a9r ⟨hn _ n,o2,o3⟩)) h1,?_⟩;rw[a1B,a0R,a6w,h2,tsv,c]
  .split at h
   .next t e hf=>
    split at h
    .injection h with h
     subst h;obtain⟨m1,_⟩:=a3O hf;have c:ρOf b Γ.ρ f.id=e.ev Γ.ρ:=by unfold ρOf;rw[hf]
     refine⟨a1A (a0Q (hs.sy _ m1).1) h1,?_⟩;rw[a1B,a0R,h2,tsv,c]
    .cases h
   .cases h
theorem c2p{nb nc mb mc:Nat}{b:Sub}(hs:OkSub Γ nc mb mc b)(c:∀q∈b.sy,nb<=q.1.id){p x:LE}(h:b2s nb b p=some x)(d:p.ok (ρOf b Γ.ρ) nc)(hn:nb<=Γ.n):x.ok Γ.ρ Γ.n/\x.ev Γ.ρ=p.ev (ρOf b Γ.ρ):=by
 unfold b2s at h;simp only[az2]at h;obtain⟨y,hy,rfl⟩:=h;obtain⟨h1,h2⟩:=b1U hs c hy d (λ i hi=>by omega);grind[a0k,a0j,LE.ev]
theorem b3w{A:Type}{nc mb mc:Nat}{f:Sub->A->Option Sub}{Q:Gm->A->Prop}{good:A->Prop}(hf:∀x c b,good x->OkSub Γ nc mb mc c->f c x=some b->Fits Γ nc mb mc c b λ G=>Q G x):∀{l:List A} {c b:Sub},(∀x∈l,good x)->OkSub Γ nc mb mc c->b0A f c l=some b->Fits Γ nc mb mc c b λ G=>∀x∈l,Q G x
 |[],c,b,_,hs,h=>by
  simp only[b0A,az0]at h;subst h;exact⟨hs,Ext.refl,nofun⟩
 |x::l,c,b,hg,hs,h=>by
  simp only[b0A]at h;cases h1:f c x with
  |none=>grind
  |some d=>
   simp only[h1]at h;obtain⟨k1,k2,k3⟩:=hf x c d (hg x (ay1 ..)) hs h1;obtain⟨m1,m2,m3⟩:=b3w hf (λ y hy=>hg y (az9 _ hy)) k1 h;refine⟨m1,k2.trans m2,λ g hx i y hy=> ?_⟩;rcases ay4.1 hy with rfl|hy
   .exact k3 g (m2.trans hx) i
   grind
end
end
section
open Go.PV
section
variable {a e:AS} {Γ Γ' Γa Γe:Gm} {s sa:St}
variable {n nb:Nat} {ρ:Nat->Int}
theorem a3i{x:LE}(h:b7Z nb x=true)(ho:x.ok ρ n):x.ok ρ nb:=λ p hp=>by
 obtain⟨h1,h2⟩:=ho p hp;exact⟨by have:=ay5.1 h p hp;simpa using this,h2⟩
theorem c3M{b:AB}(h:d0h nb b=true)(ho:b.ok ρ n):b.ok ρ nb:=by
 cases b<;>first|trivial|exact a3i h ho
def Gm.cut(Γ:Gm)(nb mb:Nat):Gm:={Γ with n:=nb,m:=mb,nx:=0}
theorem b4g{nb mb:Nat}:∀(k:Nat) {av:AV} {v:V},b5s nb mb k av=true->In Γ av v->In (Γ.cut nb mb) av v
 |0,_,_,h,_=>by cases h
 |k+1,av,v,h,hv=>by
  have b:∀{l:List AV} {cs:List V},l.all (b5s nb mb k)=true->InL Γ l cs->InL (Γ.cut nb mb) l cs:=λ h hl=>⟨hl.1,λ j x c hx hc=>b4g k (ay5.1 h x (ax4 hx)) (hl.2 j x c hx hc)⟩;unfold b5s at h;cases hv with
  |any=>exact .any
  |und=>exact .und
  |bool h1 h2=>exact .bool (c3M h h1) h2
  |int h1 h2=>exact .int (a3i h h1) h2
  |str h1 h2=>exact .str (a3i h h1) h2
  |has h1 h2 h3=>exact .has (a3i h h1) h2 h3
  |lit=>exact .lit
  |nils=>exact .nils
  |dat h1 h2 h3 h4=>exact .dat (a3i h h1) h2 h3 h4
  |row h0 h1 h2 h3 h4=>simp only[az6,ay2]at h;exact .row (Γ:=Γ.cut nb mb) h.1 (a3i h.2.1 h1) (a3i h.2.2 h2) h3 h4
  |agg h1 h2=>have:=b h ⟨h1,h2⟩;exact .agg this.1 this.2
  |tup h1 h2=>have:=b h ⟨h1,h2⟩;exact .tup this.1 this.2
  |fn h1 h2 h3 h4=>simp only[az6]at h;have d:=b h.1 ⟨h1,h3⟩;have f:=b h.2 ⟨h2,h4⟩;exact .fn d.1 f.1 d.2 f.2
  |fns h1=>exact .fns h1
  |ptr h0=>exact .ptr (Γ:=Γ.cut nb mb) (at8 h)
  |eptr h0 h1 h2=>simp only[az6,ay2]at h;exact .eptr (Γ:=Γ.cut nb mb) h.1 (a3i h.2 h1) h2
  |cptr h1 h2=>have:=b h ⟨h1,h2⟩;exact .cptr this.1 this.2
  |cptrR h1 h2 h3 h4 h5=>have:=b h ⟨h4,h5⟩;exact .cptrR h1 h2 h3 this.1 this.2
  |slf h1 h2 h3=>exact .slf (a3i h h1) h2 h3
theorem c6w{mb:Nat}{b:ABox}{x:Box}(h:d5b nb mb b=true)(hb:InB Γ b x):InB (Γ.cut nb mb) b x:=by
 cases hb with
 |var k1=>exact .var ⟨k1.1,λ j y c hy hc=>b4g 6 (ay5.1 h y (ax4 hy)) (k1.2 j y c hy hc)⟩
 |row k1 k2 k3 k4=>exact .row (a3i h k1) k2 k3 k4
theorem a6K{l:List (Nat×ABox)}(h:(l.map (·.1)).Nodup){p:Nat×ABox}(hp:p∈l):(l.find? (λ q=>q.1==p.1)).map (·.2)=some p.2:=by
 induction l with
 |nil=>cases hp
 |cons q l ih=>
  rw[av2,Aw0]at h;rcases ay4.1 hp with rfl|hp
  .simp
  .grind
theorem b2u{x y:AS}(b:x.bx=y.bx):∀{p:List Nat} {av:AV},c1t x av p=c1t y av p
 |[],_=>rfl
 |i::p,av=>by
  have hg:∀nm,a4U x nm=a4U y nm:=λ nm=>by grind[a4U]
  have ih:∀av,c1t x av p=c1t y av p:=λ av=>b2u b;cases av<;>grind[c1t]
theorem d2O{h1:AS}{c:Gm}(oa:OkB a Γa sa)(h:Γa.n<=c.n)(d:∀i,i<Γa.n->c.ρ i=Γa.ρ i)(j:∃h0:AS,h0.bx=h1.bx/\Ok h0 c s)(l:∀i,In c (h1.get i) (s.get i)){f:LinF}{g:LE}(hf:d2V a h1 f=some g):g.ok c.ρ c.n:=by
 obtain⟨h0,hb,oh⟩:=j;unfold d2V at hf;simp only[az2]at hf;obtain⟨x,hx,rfl⟩:=hf;refine a0k ?_;generalize f.ts=L at hx;induction L generalizing x with
 |nil=>simp only[d6C,az0]at hx;subst hx;exact a1W 0
 |cons t L ih=>
  obtain⟨b,i,p,k⟩:=t;simp only[d6C]at hx;split at hx
  .next e n he m=>
   injection hx with hx
   subst hx;refine a1A (a0Q ?_) (ih n m);cases b with
   |true=>simp only[aw4]at he;exact a0p (b7G oa (oa.env i) he) h d
   |false=>simp only[ay6,av8]at he;rw[<-b2u hb]at he;exact b7G oh.toB (l i) he
  .cases hx
theorem b9t{a0:AS}{p9:Gm}{s0:St}{W:List Nat}{H:Hd}{fs:List LinF}{s6:LinF}{A:Sub}(hh:a3I a0 a W H fs s6=true)(o0:OkB a0 p9 s0)(s7:p9.n=Γa.n)(s8:p9.ρ=Γa.ρ)(oa:OkB a Γa sa)(hl:Γa.le Γe)(oe:Ok e Γe s)(X:Kept W sa s)(hf:c5Z a H e=some A):
  ∃F,Γa.le F/\Ok (H.h a) F s/\F.n=H.h1.n/\H.rk.ok F.ρ F.n/\∀(rk:LE) r',rk.ok F.ρ F.n->b2s a.n A rk=some r'->r'.ok Γe.ρ Γe.n/\r'.ev Γe.ρ=rk.ev F.ρ:=by
 unfold a3I at hh;simp only[az6,ay2]at hh;obtain⟨hn,hm,v8,E,Y,s9,v9,q0,w0,w1⟩:=hh;have E:=b1g E;have z0:a.m<=Γe.m:=by rw[<-oa.m];exact hl.m
 have w2:a.n<=Γe.n:=by rw[<-oa.n];exact hl.n
 unfold c5Z at hf;split at hf
 .cases hf
 next z1 h1=>
 split at hf
 .cases hf
 next z2 h2=>
 split at hf
 .cases hf
 next m h3=>
 split at hf
 .next p4=>
  injection hf with hf
  subst hf;simp only[az6]at p4;obtain⟨p5,⟨w3,u0⟩,p1⟩:=p4;have u1:∀i,i<a.m->i<Γe.m->i<H.h1.m:=λ i h _=>aw9 h hm;have w4:OkSub Γe H.h1.n a.m H.h1.m ⟨[],[]⟩:=⟨(λ q hq=>by cases hq),(λ q hq=>by cases hq)⟩;obtain⟨_,f1,z3,w5⟩:=b3a (Γ:=Γe) (nc:=H.h1.n) (mb:=a.m) (mc:=H.h1.m) (IN:=fun(j c:Nat)=>j=c) (Q:=λ G i c=>In G (H.h1.get i) (s.get c)) (λ x y c A n hs hu hc=>by
   subst hc;exact b3I oe.cons u1 6 hs hu (oe.env y)) w4 h1 rfl (λ j y c hy hc=>by rw[hy]at hc;injection hc)
  obtain⟨f2,w6,w7⟩:=b3w (Γ:=Γe) (nc:=H.h1.n) (mb:=a.m) (mc:=H.h1.m) (f:=c4a a H e) (good:=λ _=>True) (Q:=λ G nm=>∃l cs,a4U H.h1 nm=some (.var l)/\Γe.N (Γe.ν nm)/\Γe.g (Γe.ν nm)=some (.var cs)/\InL G l cs) (λ nm A n _ hs hu=>by
   unfold c4a at hu;split at hu
   .next l l' q8 C=>
    obtain⟨_,b,q9,s1⟩:=oe.box _ (a0N C);have hN:=(oe.named (a0N C)).2.1;cases s1 with
    | @var _ cs k1=>obtain⟨u,B⟩:=b3a (Γ:=Γe) (nc:=H.h1.n) (mb:=a.m) (mc:=H.h1.m) (IN:=In Γe) (Q:=λ G x c=>In G x c) (λ x y c A n hs hu hc=>b3I oe.cons u1 6 hs hu hc) hs hu k1.1 k1.2;exact B.imp λ G _ _ hG=>⟨l,cs,q8,hN,q9,u,hG⟩
   .cases hu) (λ _ _=>av5) f1 h2
  obtain⟨f3,u2,w8⟩:=b3w (Γ:=Γe) (nc:=H.h1.n) (mb:=a.m) (mc:=H.h1.m) (f:=a8W H e) (good:=λ nm=>a.m<=nm) (Q:=λ G nm=>∃b x o,a4U H.h1 nm=some b/\G.ν nm=Γe.ν o/\o<Γe.m/\a.m<=o/\Γe.g (Γe.ν o)=some x/\InB G b x/\Γe.N (Γe.ν o)) (λ nm A n w9 hs hu=>by
   unfold a8W at hu;split at hu
   .next ty sz k d f z4 z5 k' d' f' q8 C=>
    rw[az3]at C;obtain⟨o,p2,C⟩:=C;split at hu
    .next hc=>
     simp only[az6,ay2]at hc;obtain⟨rfl,rfl,hd,z6⟩:=hc;obtain⟨_,b,q9,s1⟩:=oe.box _ (a0N C);have hN:=oe.named (a0N C);have O:∃q∈A.nm,q.1=nm/\q.2=o:=by
      unfold a5s at p2;simp only[az2]at p2;obtain⟨q,u,B⟩:=p2;exact⟨q,ar3 u,by have:=Ay2 u;simpa using this,B⟩
     obtain⟨q,u,B,T⟩:=O;obtain⟨m1,m2,m3,m4⟩:=hs.nm q u;cases s1 with
     | @row _ _ _ _ _ f0 xs k1 k2 k3 k4=>
       obtain⟨e1,e2,e3⟩:=a2o (mb:=a.m) (mc:=H.h1.m) oe.cons hs k1 hu;refine⟨e1,e2,λ s2 hx x4=> ?_⟩;obtain⟨g1,g2⟩:=e3 s2 hx x4;have D:=(e2.trans hx).2 _ _ p2;refine⟨.row ty sz k d f,.row ty sz xs f0,o,q8,?_,T▸m3,T▸m4,q9,.row g1 ?_ (λ x hx=> ?_) (λ h0=> ?_),hN.2.1⟩
       .show νOf a.m s2 Γe.ν nm=_;unfold νOf;rw[ay9 (by omega),D]
       .show _=k.ev (Γe.pat H.h1.n a.m H.h1.m s2).ρ;rw[g2];exact k2
       .rw[ay8,aw5]at hd;rcases hd with hd|hd
        .exact(k3 x hx).le hd
        .have:=a0B hd Γe.ρ;have x5:xs=[]:=ay7.1 (by omega);rw[x5]at hx;cases hx
       .have:=k4 h0;simp_all
    .cases hu
   .cases hu) (λ x hx=>(an2.1 hx).1) f2 h3
  have p6:∀q∈m.sy,a.n<=q.1.id:=λ q hq=>by simpa using ay5.1 w3 q hq
  have Q1:=w5 m (w6.trans u2) f3;have Q2:=w7 m u2 f3;have Q3:=w8 m Ext.refl f3;have t:∀i,i<a.m->νOf a.m m Γe.ν i=Γe.ν i:=λ i hi=>by unfold νOf;rw[ax3 hi]
  have v:∀i,a.m<=i->i<H.h1.m->∃o,a5s m i=some o/\νOf a.m m Γe.ν i=Γe.ν o/\o<Γe.m/\a.m<=o:=by
   intro i h1 h2;have O:i∈List.range' a.m (H.h1.m-a.m):=an2.2 ⟨h1,by omega⟩;obtain⟨b,x,o,u,B,T,q4,_⟩:=Q3 i O;cases D:a5s m i with
   |none=>
    exfalso;have gen:∀{l:List Nat} {A n:Sub},b0A (a8W H e) A l=some n->i∈l->∃z,a5s n i=some z:=by
     intro l;induction l with
     |nil=>intro A n _ hi;cases hi
     |cons y l ih=>
      intro A n Z hi;simp only[b0A]at Z;split at Z
      .next z7 U=>
       rcases ay4.1 hi with rfl|hi
       .have:∃z,a5s A i=some z:=by
         unfold a8W at U;split at U
         .next C=>rw[az3]at C;obtain⟨z,hz,_⟩:=C;exact⟨z,hz⟩
         .cases U
        obtain⟨z,hz⟩:=this;have uE:∀{nc:Nat} {A n:Sub} {p x:LE},b1y e nc A p x=some n->n.nm=A.nm:=by
         intro nc A n p x hu;have bE:∀{A n:Sub} {sy:Sy} {x:LE},c1w e nc A sy x=some n->n.nm=A.nm:=by
          intro A n sy x hu;unfold c1w at hu;split at hu
          .cases hu
          .split at hu
           .cases hu;rfl
           .cases hu
         have kE:∀{A n:Sub},a8Q e A p x=some n->n.nm=A.nm:=by
          intro A n hu;unfold a8Q at hu;split at hu
          .split at hu
           .cases hu;rfl
           .cases hu
          .cases hu
         unfold b1y at hu;split at hu
         .exact bE hu
         .split at hu
          .exact kE hu
          .split at hu
           .cases hu
           .split at hu
            .cases hu
            .next hb=>exact(kE hu).trans (bE hb)
        have rF:∀{A n:Sub} {y:Nat},a8W H e A y=some n->n.nm=A.nm:=by
         intro A n y hu;unfold a8W at hu;split at hu
         .split at hu
          .exact uE hu
          .cases hu
         .cases hu
        have all:∀{l:List Nat} {A n:Sub},b0A (a8W H e) A l=some n->n.nm=A.nm:=by
         intro l;induction l with
         |nil=>intro A n h;simp only[b0A,az0]at h;rw[h]
         |cons y l ih=>
          intro A n h;simp only[b0A]at h;split at h
          .next U=>rw[ih h,rF U]
          .cases h
        refine⟨z,?_⟩;unfold a5s at hz|-;rw[all Z,rF U];exact hz
       .exact ih Z hi
      .cases Z
    obtain⟨z,hz⟩:=gen h3 O;rw[D]at hz;cases hz
   |some z=>
    have hz:νOf a.m m Γe.ν i=Γe.ν z:=by unfold νOf;rw[ay9 (by omega),D]
    have s3:∃q∈m.nm,q.1=i/\q.2=z:=by
     unfold a5s at D;simp only[az2]at D;obtain⟨q,u,B⟩:=D;exact⟨q,ar3 u,by have:=Ay2 u;simpa using this,B⟩
    obtain⟨q,r1,r2,r3⟩:=s3;obtain⟨_,_,m3,m4⟩:=f3.nm q r1;exact⟨z,rfl,hz,r3▸m3,r3▸m4⟩
  have K:∀id,(∃p∈H.h1.bx,νOf a.m m Γe.ν p.1=id)->Γe.N id:=by
   rintro id ⟨p,hp,rfl⟩;have x6:p.1<H.h1.m:=by simpa using ay5.1 Y p hp
   by_cases V:a.m<=p.1
   .obtain⟨b,x,o,u,B,T,q4,q5,q6,q7⟩:=Q3 p.1 (an2.2 ⟨V,by omega⟩);have:νOf a.m m Γe.ν p.1=Γe.ν o:=B;rw[this];exact q7
   .rw[t p.1 (by omega)];have:=ay5.1 p5 p hp;simp only[ay8,ay2,au1]at this;rcases this with h0|h0|h0
    .exact absurd h0 V
    .obtain⟨l,cs,_,B,_⟩:=Q2 p.1 h0;exact B
    .split at h0
     .next b hb=>exact(oe.named (a0N hb)).2.1
     .cases h0
  have L:(Γe.pat H.h1.n a.m H.h1.m m).le {Γe.pat H.h1.n a.m H.h1.m m with N:=λ id=>∃p∈H.h1.bx,νOf a.m m Γe.ν p.1=id}:=
   ⟨ay3 _,ay3 _,ay3 _,λ _ _=>rfl,λ _ _=>rfl,λ i h k=>absurd h (Ax4.2 k),λ id ty sz xs f h1 h2=>⟨λ h=>h2 (K id h),f,h1⟩⟩
  have P:∀i,i<a.n->ρOf m Γe.ρ i=Γe.ρ i:=λ i hi=>by
   unfold ρOf;cases x7:a9e m i with
   |none=>rfl
   |some q=>obtain⟨m1,m2⟩:=a3O x7;have:=p6 q m1;omega
  have M:Γa.le {Γe.pat H.h1.n a.m H.h1.m m with N:=λ id=>∃p∈H.h1.bx,νOf a.m m Γe.ν p.1=id}:=by
   refine⟨by rw[oa.n];exact hn,by rw[oa.m];exact hm,hl.nx,λ i hi=> ?_,λ i hi=> ?_,λ i h1 h2=> ?_,λ id ty sz xs f h1 h2=> ?_⟩
   .show ρOf m Γe.ρ i=_;rw[P i (by rw[<-oa.n];exact hi)];exact hl.ρ i hi
   .show νOf a.m m Γe.ν i=_;rw[t i (by rw[<-oa.m];exact hi)];exact hl.ν i hi
   .obtain⟨o,_,u,B,T⟩:=v i (by rw[<-oa.m];exact h1) h2;show _<=νOf a.m m Γe.ν i;rw[u];exact hl.new o (by rw[oa.m];exact T) B
   .obtain⟨u,B⟩:=hl.keeps id ty sz xs f h1 h2;exact⟨λ h=>u (K id h),B⟩
  have s4:(Γe.cut a.n a.m).le {Γe.pat H.h1.n a.m H.h1.m m with N:=λ id=>∃p∈H.h1.bx,νOf a.m m Γe.ν p.1=id}:=
   ⟨hn,hm,aw7 _,λ i hi=>P i hi,λ i hi=>t i hi,λ i h1 h2=>aw7 _,λ id ty sz xs f h1 h2=>⟨λ h=>h2 (K id h),f,h1⟩⟩
  have u3:∀i,In {Γe.pat H.h1.n a.m H.h1.m m with N:=λ id=>∃p∈H.h1.bx,νOf a.m m Γe.ν p.1=id} (H.h1.get i) (s.get i):=by
   intro i;by_cases p7:i<256
   .have:=ay5.1 s9 i (aq2.2 p7);simp only[ay8,az6,au1,ax2,<-at1 (List.contains _ _)]at this;have R:i∈H.slots->In {Γe.pat H.h1.n a.m H.h1.m m with N:=λ id=>∃p∈H.h1.bx,νOf a.m m Γe.ν p.1=id} (H.h1.get i) (s.get i):=by
     intro hi;obtain⟨j,hj⟩:=List.getElem?_of_mem hi;exact(Q1 j i i hj hj).mono L
    rcases this with⟨_,h0|h0⟩|⟨h1,h0|h0⟩
    .exact R h0
    .split at h0
     .next u4=>rw[u4];exact .any
     .cases h0
    .exact R h0
    .have x8:i∉W:=h1;rw[X.2 i x8];exact c1P 6 h0 ((oa.env i).mono M)
   .have:H.h1.get i= .any:=by unfold AS.get;rw[ay9 p7]
    rw[this];exact .any
  have u5:∀p∈H.h1.bx,∃b,Γe.g (νOf a.m m Γe.ν p.1)=some b/\InB {Γe.pat H.h1.n a.m H.h1.m m with N:=λ id=>∃p∈H.h1.bx,νOf a.m m Γe.ν p.1=id} p.2 b:=by
   intro p hp;have x6:p.1<H.h1.m:=by simpa using ay5.1 Y p hp
   have u6:a4U H.h1 p.1=some p.2:=a6K E hp;by_cases V:a.m<=p.1
   .obtain⟨b,x,o,u,B,T,q4,q5,q6,q7⟩:=Q3 p.1 (an2.2 ⟨V,by omega⟩);rw[u6]at u;injection u with u;subst u;have x9:νOf a.m m Γe.ν p.1=Γe.ν o:=B;exact⟨x,by rw[x9];exact q5,q6.mono L⟩
   .rw[t p.1 (by omega)];have h9:=ay5.1 p5 p hp;simp only[ay8,ay2,au1]at h9;by_cases hb:p.1∈H.boxN
    .obtain⟨l,cs,u,B,T,q4⟩:=Q2 p.1 hb;rw[u6]at u;injection u with u;rw[u];exact⟨_,T,.var ⟨q4.1,λ j x c hx hc=>(q4.2 j x c hx hc).mono L⟩⟩
    .rcases h9 with h0|h0|h0
     .exact absurd h0 V
     .exact absurd h0 hb
     .split at h0
      .next b u7=>
       obtain⟨_,x,x1,x2⟩:=oe.box _ (a0N u7);have I:=ay5.1 q0 p hp;simp only[ay8,ay2,au1]at I;rcases I with I|I|I
       .exact absurd I V
       .exact absurd I hb
       .exact⟨x,x1,(c6w I (d3W h0 x2)).mono s4⟩
      .cases h0
  have S:∀i j,i<H.h1.m->j<H.h1.m->νOf a.m m Γe.ν i=νOf a.m m Γe.ν j->i=j:=by
   intro i j hi hj J;by_cases p3:i<a.m<;>by_cases u9:j<a.m
   .rw[t i p3,t j u9]at J;exact oe.νinj i j (by omega) (by omega) J
   .obtain⟨o,_,u,B,T⟩:=v j (by omega) hj;rw[t i p3,u]at J;have:=oe.νinj i o (by omega) B J;omega
   .obtain⟨o,_,u,B,T⟩:=v i (by omega) hi;rw[t j u9,u]at J;have:=oe.νinj o j B (by omega) J;omega
   .obtain⟨x,x0,x1,x2,x3⟩:=v i (by omega) hi;obtain⟨y,y0,y1,y2,y3⟩:=v j (by omega) hj;rw[x1,y1]at J;have y4:=oe.νinj x y x2 y2 J;subst y4;have mem:∀{i z:Nat},a5s m i=some z->∃q∈m.nm,q.1=i/\q.2=z:=by
     intro i z D;unfold a5s at D;simp only[az2]at D;obtain⟨q,u,B⟩:=D;exact⟨q,ar3 u,by have:=Ay2 u;simpa using this,B⟩
    obtain⟨q,u,B,T⟩:=mem x0;obtain⟨r,r1,r2,r3⟩:=mem y0;have v2:=b1g u0;have:q=r:=by
     have inj:∀{l:List (Nat×Nat)},(l.map (·.2)).Nodup->∀q∈l,∀r∈l,q.2=r.2->q=r:=by
      intro l;induction l with
      |nil=>intro _ q hq;cases hq
      |cons w l ih=>
       intro E q hq r hr s5;rw[av2,Aw0]at E;rcases ay4.1 hq with e1|hq<;>rcases ay4.1 hr with e2|hr
       .rw[e1,e2]
       .exact absurd (show w.2∈l.map (·.2)from by rw[<-e1,s5];exact Aw7 hr) E.1
       .exact absurd (show w.2∈l.map (·.2)from by rw[<-e2,<-s5];exact Aw7 hq) E.1
       .exact ih E.2 q hq r hr s5
     exact inj v2 q u r r1 (T.trans r3.symm)
    rw[<-B,<-r2,this]
  have base:∀cs,a2W (ρOf m Γe.ρ) H.h1.n cs->Ok {H.h1 with cs:=cs} {Γe.pat H.h1.n a.m H.h1.m m with N:=λ id=>∃p∈H.h1.bx,νOf a.m m Γe.ν p.1=id} s:=by
   intro cs y5;refine⟨rfl,rfl,oe.nxe,λ i hi=> ?_,S,oe.g,λ id=>Iff.rfl,?_,oe.small,u3,y5,λ p hp=>⟨at8 (ay5.1 Y p hp),u5 p hp⟩,λ p hp q hq e2=> ?_,oe.nx⟩
   .show νOf a.m m Γe.ν i<s.nx;by_cases p3:i<a.m
    .rw[t i p3];exact oe.νlt i (by omega)
    .obtain⟨o,_,u,B,_⟩:=v i (by omega) hi;rw[u];exact oe.νlt o B
   .show H.h1.sz=s.sz;rw[v8,oa.sz];exact X.1.symm
   .have y6:p.1<H.h1.m:=by simpa using ay5.1 Y p hp
    have y7:q.1<H.h1.m:=by simpa using ay5.1 Y q hq
    have e3:=S p.1 q.1 y6 y7 e2;have h5:=a6K E hp;have h6:=a6K E hq;rw[e3,h6]at h5;injection h5 with h5
    exact Prod.ext e3 h5.symm
  have p8:a2W (ρOf m Γe.ρ) H.h1.n a.cs:=λ g hg=>by
   obtain⟨k1,k2⟩:=oa.cons g hg;refine⟨a0p k1 M.n M.ρ,?_⟩;have:g.ev (ρOf m Γe.ρ)=g.ev Γa.ρ:=a0q k1 M.ρ;rw[this];exact k2
  have o1:=base a.cs p8;have v3:∀{f:LinF} {g:LE},d2V a0 H.h1 f=some g->g.ok (ρOf m Γe.ρ) H.h1.n:=λ hf=>d2O (h1:=H.h1) o0 (by rw[s7];exact M.n) (λ i hi=>by rw[s8];exact M.ρ i (by rw[<-s7];exact hi)) ⟨{H.h1 with cs:=a.cs},rfl,o1⟩ u3 hf;have sub:∀(rk:LE) r',rk.ok (ρOf m Γe.ρ) H.h1.n->b2s a.n m rk=some r'->r'.ok Γe.ρ Γe.n/\r'.ev Γe.ρ=rk.ev (ρOf m Γe.ρ):=λ rk r' h1 h2=>c2p f3 p6 h2 h1 w2;have v5:a2W (ρOf m Γe.ρ) H.h1.n (H.gs++a.cs):=by
   intro g hg;rcases ax1.1 hg with hg|hg
   .obtain⟨g1,g2⟩:=a2g w0;obtain⟨j,hj⟩:=List.getElem?_of_mem hg;have y8:j<fs.length:=by rw[g1];exact(ay0.1 hj).1
    have v7:=v3 (g2 j fs[j] g (az5 y8) hj);refine⟨v7,?_⟩;have:=ay5.1 p1 g hg;split at this
    .next g' y9=>
     obtain⟨k1,k2⟩:=sub g g' v7 y9;rw[<-k2];exact oe.ent k1 this
    .cases this
   .exact p8 g hg
  exact⟨_,M,base _ v5,rfl,v3 w1,sub⟩
 .cases hf
end
end
section
open Go.PV
def d9p(m i:Nat):Bool:=(m>>>i) % 2==1
def d5g(m i:Nat):Nat:=m|||(1<<<i)
def d4K:List Nat->Nat->Nat
 |[],m=>m
 |i::r,m=>d4K r (d5g m i)
def a3D:Code->Nat->Nat
 | .region _ ops _,m=>ops.foldl (λ m o=>d4K (a5n ops o) m) m
 | .cond c a b,m=>a3D b (a3D a (match c with| .tmp t=>d5g m t|_=>m))
 | .seq a b,m=>a3D b (a3D a m)
 | .block _ b,m| .loop b,m| .scope b,m=>a3D b m
 |_,m=>m
def c8S(fn:Func):Nat:=fn.results.foldl (λ m r=>match r with| .tmp t=>d5g m t| .cell t _=>d5g m t) 0
def tsM:List (Sy×Int)->Nat->Nat
 |[],m=>m
 |(s,_)::r,m=>tsM r (d5g m s.id)
def LE.sm(e:LE)(m:Nat):Nat:=tsM e.ts m
def c4H(f:AV->Nat->Nat):List AV->Nat->Nat
 |[],m=>m
 |v::r,m=>c4H f r (f v m)
def avM:Nat->AV->Nat->Nat
 |0,_,m=>m
 |n+1,v,m=>match v with
  | .bool b=>(match b with
    | .ge e| .eq e| .ne e| .teq e| .feq e=>e.sm m
    |_=>m)
  | .int _ e| .str e| .has e| .dat _ e _| .slf e _| .eptr _ _ e _=>e.sm m
  | .row _ _ o e=>e.sm (o.sm m)
  | .agg l| .tup l| .cptr l=>c4H (avM n) l m
  | .fn _ x y=>c4H (avM n) y (c4H (avM n) x m)
  |_=>m
def trM:Tr->Nat->Nat
 | .leaf,m=>m
 | .one v,m=>avM 6 v m
 | .node l r,m=>trM r (trM l m)
def bxM:List (Nat×ABox)->Nat->Nat
 |[],m=>m
 |(_,.var l)::r,m=>bxM r (c4H (avM 6) l m)
 |(_,.row _ _ e _ _)::r,m=>bxM r (e.sm m)
def d5D(lm nb:Nat):List (Sy×Int)->List Sy->List Sy
 |[],l=>l
 |(s,_)::r,l=>d5D lm nb r (if s.id<nb||d9p lm s.id||l.contains s then l else s::l)
def d4j(lm nb:Nat):List LE->List Sy->List Sy
 |[],l=>l
 |g::r,l=>d4j lm nb r (d5D lm nb g.ts l)
def d6y(l:List LE)(g:LE):List LE:=if 0<=g.min then l else if l.any (λ h=>decide (h.ts=g.ts)&&decide (h.c<=g.c))then l else g::l
def c3X:List LE->List LE->List LE
 |l,[]=>l
 |l,g::r=>c3X (d6y l g) r
def c5B(s:Sy)(p:LE):LE:=let a:=a3C s p.ts;(p.sub ((LE.sy s).smul a)).addc (if 0<a then a*s.hi else a*s.lo)
def d4k(s:Sy)(p q:LE):LE:=(p.smul (-(a3C s q.ts))).add (q.smul (a3C s p.ts))
def d2j(s:Sy)(cs:List LE):List LE:=
 let P:=cs.filter λ g=>decide (0<a3C s g.ts);let Q:=cs.filter λ g=>decide (a3C s g.ts<0)
 if P.length*Q.length>30 then cs else
 c3X (cs.filter λ g=>decide (a3C s g.ts=0)) (P.flatMap (λ p=>Q.map (d4k s p))++(P.map (c5B s)++Q.map (c5B s)))
def d0R:List Sy->List LE->List LE
 |[],cs=>cs
 |s::r,cs=>d0R r (d2j s cs)
def d3x(a:AS):AS:={a with cs:=d0R (d4j (bxM a.bx (trM a.env 0)) a.nb a.cs []) a.cs}
def d7n:AV->Bool
 | .ptr _ _=>true
 |_=>false
def Tr.mk:Tr->Tr->Tr
 | .leaf,.leaf=> .leaf
 |l,r=> .node l r
def trC(lm:Nat):Nat->Nat->Tr->Tr
 |_,_,.leaf=> .leaf
 |_,p,.one v=>if d9p lm p||d7n v then .one v else .leaf
 |w,p,.node l r=>Tr.mk (trC lm (w+w) p l) (trC lm (w+w) (p+w) r)
def a7o(a:AS):AS:={a with env:=trC a.lv 1 0 a.env}
def b4V(b:Array Oper)(a:AS):AS:=d3x (a7o a)
section
variable {a:AS} {Γ:Gm} {s:St} {ρ:Nat->Int} {n:Nat}
theorem d0V{l:List LE}{g:LE}(hl:a2W ρ n l)(hg:g.ok ρ n/\0<=g.ev ρ):a2W ρ n (d6y l g):=by
 unfold d6y;split
 .exact hl
 .split
  .exact hl
  .intro h hh;rcases ay4.1 hh with rfl|hh
   .exact hg
   .exact hl h hh
theorem b6F:∀{r l:List LE},a2W ρ n l->a2W ρ n r->a2W ρ n (c3X l r)
 |[],_,hl,_=>hl
 |g::r,l,hl,hr=>b6F (r:=r) (l:=d6y l g) (d0V hl (hr g (ay1 ..))) λ h hh=>hr h (az9 _ hh)
theorem b2f{s:Sy}:∀{l:List (Sy×Int)},a3C s l≠0->∃a,(s,a)∈l
 |[],h=>absurd rfl h
 |(c,a)::r,h=>by
  unfold a3C at h;split at h
  .grind
  .obtain⟨b,hb⟩:=b2f h;grind
theorem b9U{s:Sy}{p:LE}(hp:p.ok ρ n/\0<=p.ev ρ)(hc:a3C s p.ts≠0):(c5B s p).ok ρ n/\0<=(c5B s p).ev ρ:=by
 obtain⟨b,hb⟩:=b2f hc;have hs:s.ok ρ n:=hp.1 (s,b) hb;refine⟨a0k (a0o hp.1 (a0Q (a9r hs))),?_⟩;unfold c5B;simp only;rw[a0j,a0s,a0R,a6w];have:=hp.2;have hb:a3C s p.ts*ρ s.id<=(if 0<a3C s p.ts then a3C s p.ts*s.hi else a3C s p.ts*s.lo):=by
  split
  .next ha=>exact aq1 hs.2.2 (aq3 ha)
  .next ha=>exact aq7 (by omega) hs.2.1
 omega
theorem c6y{s:Sy}{cs:List LE}(h:a2W ρ n cs):a2W ρ n (d2j s cs):=by
 unfold d2j;simp only;split
 .exact h
 .refine b6F (λ g hg=>h g (as2.1 hg).1) λ g hg=> ?_;rcases ax1.1 hg with hg|hg
  .obtain⟨p,hp,hg⟩:=ax9.1 hg;obtain⟨q,hq,rfl⟩:=ax5.1 hg;obtain⟨b,c⟩:=as2.1 hp;obtain⟨e,d⟩:=as2.1 hq;have c:=at8 c;have d:=at8 d;obtain⟨f,i⟩:=h p b;obtain⟨j,k⟩:=h q e;refine⟨a1A (a0Q f) (a0Q j),?_⟩;unfold d4k;rw[a1B,a0R,a0R];exact Int.add_nonneg (ao3 (by omega) i) (ao3 (aq3 c) k)
  .rcases ax1.1 hg with hg|hg
   .obtain⟨p,hp,rfl⟩:=ax5.1 hg;obtain⟨b,c⟩:=as2.1 hp;exact b9U (h p b) (by grind)
   .obtain⟨p,hp,rfl⟩:=ax5.1 hg;obtain⟨b,c⟩:=as2.1 hp;exact b9U (h p b) (by grind)
theorem b9m:∀{r:List Sy} {cs:List LE},a2W ρ n cs->a2W ρ n (d0R r cs)
 |[],_,h=>h
 |_::r,_,h=>b9m (r:=r) (c6y h)
theorem Ok.elim(h:Ok a Γ s):Ok (d3x a) Γ s:=⟨h.n,h.m,h.nxe,h.νlt,h.νinj,h.g,h.N,h.sz,h.small,h.env,b9m h.cons,h.box,h.inj,h.nx⟩
theorem Ok.lv(h:Ok a Γ s){x y:Nat}:Ok {a with lv:=x,nb:=y} Γ s:=⟨h.n,h.m,h.nxe,h.νlt,h.νinj,h.g,h.N,h.sz,h.small,h.env,h.cons,h.box,h.inj,h.nx⟩
theorem b0F(d j:Nat):Tr.get d .leaf j= .any:=by cases d<;>rfl
theorem c3W(d:Nat)(l r:Tr)(j:Nat):Tr.get (d+1) (Tr.mk l r) j=Tr.get (d+1) (.node l r) j:=by
 unfold Tr.mk;grind[Tr.get]
theorem a8r(lm:Nat):∀(t:Tr) (w p d j:Nat),Tr.get d (trC lm w p t) j= .any\/Tr.get d (trC lm w p t) j=Tr.get d t j
 | .leaf,_,_,_,_=> .inr rfl
 | .one v,_,p,d,j=>by
   unfold trC;grind[b0F]
 | .node l r,w,p,d,j=>by
   unfold trC;cases d with
   |zero=>refine .inl ?_;unfold Tr.mk;split<;>rfl
   |succ d=>
    rw[c3W];simp only[Tr.get];split
    .exact a8r lm l _ _ d _
    .exact a8r lm r _ _ d _
theorem Ok.prune(h:Ok a Γ s):Ok (a7o a) Γ s:=by
 refine⟨h.n,h.m,h.nxe,h.νlt,h.νinj,h.g,h.N,h.sz,h.small,λ i=> ?_,h.cons,h.box,h.inj,h.nx⟩;have hi:=h.env i;unfold AS.get at hi|-;split
 .next b=>
  rw[ax3 b]at hi;rcases a8r a.lv a.env 1 0 8 i with e|e
  .simp only[a7o,e];exact .any
  grind[a7o]
 .exact .any
theorem Ok.clean(h:Ok a Γ s){ops:Array Oper}:Ok (b4V ops a) Γ s:=h.prune.elim
end
end
section
open Go.PV
abbrev Ir:=Nat->List AV->AS->R
section
variable (P:Program) (ctx:Nat->List SumA) (inl:Nat->Bool) (ir:Ir)
def d5C(a:AS)(o:Oper):Option (Nat×List AV):=
 match o.guard,o.op with
 |none,.call {callee:= .value f,args,.. }=>match evA a f,c2c a args.toList with
  |some (.fn k x y),some l=>if inl k then some (k,x++l++y)else none
  |_,_=>none
 |_,_=>none
def d1P(ops:Array Oper)(o:Oper)(a:AS):Option (List AS):=
 match d5C inl a o with
 |some (k,args)=>(ir k args a).map λ r=>r.map λ p=>d6r p.2 o.dst p.1
 |none=>(c7j P ctx inl ops o a).map λ l=>l.map (·.2)
def a7Z(ops:Array Oper):List Oper->AS->Option (List AS)
 |[],a=>some [a]
 |o::r,a=>match d1P P ctx inl ir ops o a with
  |none=>none
  |some l=>a1f (λ x=>a7Z ops r x) l
end
section
variable {P:Program} {prim:Nat->Option Fp} {inl:Nat->Bool} {ctx:Nat->List SumA} {ir:Ir} {a:AS} {Γ G:Gm} {s:St}
def Gm.base(Γ:Gm):Gm:={Γ with nx:=0}
theorem c1d:Γ.base.le Γ:=⟨ay3 _,ay3 _,aw7 _,λ _ _=>rfl,λ _ _=>rfl,λ _ _ _=>aw7 _,Keeps.refl⟩
theorem c0s(hz:G.nx=0)(h:G.le Γ):G.le Γ.base:=⟨h.n,h.m,by rw[hz];exact aw7 _,h.ρ,h.ν,λ _ _ _=>by grind,h.keeps⟩
theorem In.base{av:AV}{v:V}(hv:In Γ av v):In Γ.base av v:=by
 induction hv with
 |any=>exact .any
 |und=>exact .und
 |bool h1 h2=>exact .bool h1 h2
 |int h1 h2=>exact .int h1 h2
 |str h1 h2=>exact .str h1 h2
 |has h1 h2 h3=>exact .has h1 h2 h3
 |lit=>exact .lit
 |nils=>exact .nils
 |dat h1 h2 h3 h4=>exact .dat h1 h2 h3 h4
 |row h0 h1 h2 h3 h4=>exact .row (Γ:=Γ.base) h0 h1 h2 h3 h4
 |agg h1 _ ih=>exact .agg h1 ih
 |tup h1 _ ih=>exact .tup h1 ih
 |fn h1 h2 _ _ b c=>exact .fn h1 h2 b c
 |fns h1=>exact .fns h1
 |ptr h0=>exact .ptr (Γ:=Γ.base) h0
 |eptr h0 h1 h2=>exact .eptr (Γ:=Γ.base) h0 h1 h2
 |cptr h1 _ ih=>exact .cptr h1 ih
 |cptrR h1 h2 h3 h4 _ ih=>exact .cptrR (Γ:=Γ.base) h1 h2 h3 h4 ih
 |slf h1 h2 h3=>exact .slf (Γ:=Γ.base) h1 h2 h3
def d4i(P:Program)(prim:Nat->Option Fp)(inl:Nat->Bool)(ir:Ir):Prop:=∀(k:Nat) (args:List AV) (a:AS) (Γ:Gm) (s:St) (vs:List V) (c:List (AV×AS)),Ok a Γ s->InL Γ args vs->ir k args a=some c->
 ∃N f v d nx',(Lv P prim inl N).inl k=some f/\f vs s.h s.nx=some (v,d,nx')/\∃p∈c,∃b,Γ.base.le b/\In b p.1 v/\Ok p.2 b {s with h:=d,nx:=nx'}
theorem c8L(hc:a9d P prim inl ctx)(hi:d4i P prim inl ir)(hz:G.nx=0)(d:G.le Γ)(h:Ok a Γ s){ops:Array Oper}{o:Oper}{l:List AS}(hr:d1P P ctx inl ir ops o a=some l):
  ∃N e,a0v P (Lv P prim inl N) ops o s=some e/\∃r∈l,∃b,G.le b/\Ok r b e:=by
 unfold d1P at hr;split at hr
 .next k args hk=>
  simp only[az2]at hr;obtain⟨q,c,rfl⟩:=hr;unfold d5C at hk;split at hk
  .next f xs E hg ho=>
   split at hk
   .next t x y l hf hl=>
    split at hk
    .next u=>
     injection hk with hk
     injection hk with g i
     subst g;subst i;obtain⟨fv,f1,f2⟩:=a1n h hf;obtain⟨vs,l1,l2⟩:=a4R h hl;cases f2 with
     | @fn _ _ _ asq bs w z A B=>obtain⟨N,F,v,C,nx',n1,n2,p,j,b,m,n,D⟩:=hi t _ a Γ s _ q h (((show InL Γ _ _ from⟨w,A⟩).append l2).append ⟨z,B⟩) c;refine⟨N,a2H {s with h:=C,nx:=nx'} o.dst v,?_,_,ax5.2 ⟨p,j,rfl⟩,b,(c0s hz d).trans m,D.put n⟩;unfold a0v;rw[ax3 (by unfold a0V;rw[hg])];unfold a1h a1F;simp only[ho,f1,n1,l1,ax0,n2]
    .cases hk
   .cases hk
  .cases hk
 .simp only[az2]at hr;obtain⟨q,c,rfl⟩:=hr;obtain⟨N,e,n1,_,p,j,_,b,m,n⟩:=b8M hc h c (prim:=prim);exact⟨N,e,n1,_,ax5.2 ⟨p,j,rfl⟩,b,d.trans m,n⟩
theorem b1R(hc:a9d P prim inl ctx)(hi:d4i P prim inl ir)(hz:G.nx=0){ops:Array Oper}:∀{l:List Oper} {a:AS} {Γ:Gm} {s:St} {r:List AS},G.le Γ->Ok a Γ s->a7Z P ctx inl ir ops l a=some r->
  ∃N f,a0I P (Lv P prim inl N) ops l s=some f/\∃d∈r,∃c,G.le c/\Ok d c f
 |[],a,Γ,s,r,b,h,hr=>by
  simp only[a7Z,az0]at hr;subst hr;exact⟨0,s,rfl,a,az7.2 rfl,Γ,b,h⟩
 |o::l,a,Γ,s,r,b,h,hr=>by
  simp only[a7Z]at hr;split at hr
  .cases hr
  next q hq=>
  obtain⟨N,n,n1,p,g,i,l1,o1⟩:=c8L hc hi hz b h hq (prim:=prim);obtain⟨x,j,k⟩:=a2x hr p g;obtain⟨M,m,m1,d,a1,e,l2,o2⟩:=b1R hc hi hz l1 o1 j;refine⟨max N M,m,?_,d,k d a1,e,l2,o2⟩;simp only[a0I,a7N (ar5 N M) n1];exact a4q (a0L (ar6 N M)) m1
end
end
section
open Go.PV
section
variable {g:Type}
def fN(n:Nat)(k:Nat->g):g:=match n with
 |0=>k 0
 |m+1=>k (Nat.succ m)
def fI(i:Int)(k:Int->g):g:=match i with
 | .ofNat n=>fN n λ n=>k (.ofNat n)
 | .negSucc n=>fN n λ n=>k (.negSucc n)
def fSy(s:Sy)(k:Sy->g):g:=match s with
 |⟨a,b,c⟩=>fN a λ a=>fI b λ b=>fI c λ c=>k ⟨a,b,c⟩
def fTs:List (Sy×Int)->(List (Sy×Int)->g)->g
 |[],k=>k []
 |p::r,k=>match p with
  |(s,i)=>fSy s λ s=>fI i λ i=>fTs r λ r=>k ((s,i)::r)
def fLE(e:LE)(k:LE->g):g:=match e with
 |⟨c,a⟩=>fI c λ c=>fTs a λ a=>k ⟨c,a⟩
def fLs{a:Type}(f:a->(a->g)->g):List a->(List a->g)->g
 |[],k=>k []
 |x::r,k=>f x λ x=>fLs f r λ r=>k (x::r)
def fAB(b:AB)(k:AB->g):g:=match b with
 | .c true=>k (.c true)
 | .c false=>k (.c false)
 | .ge e=>fLE e λ e=>k (.ge e)
 | .eq e=>fLE e λ e=>k (.eq e)
 | .ne e=>fLE e λ e=>k (.ne e)
 | .teq e=>fLE e λ e=>k (.teq e)
 | .feq e=>fLE e λ e=>k (.feq e)
 | .unk=>k .unk
def fV:Nat->AV->(AV->g)->g
 |0,v,k=>k v
 |n+1,v,k=>match v with
  | .bool b=>fAB b λ b=>k (.bool b)
  | .int i e=>fLE e λ e=>k (.int i e)
  | .str e=>fLE e λ e=>k (.str e)
  | .has e=>fLE e λ e=>k (.has e)
  | .dat r e d=>fLE e λ e=>k (.dat r e d)
  | .row a b o e=>fN a λ a=>fLE o λ o=>fLE e λ e=>k (.row a b o e)
  | .agg l=>fLs (fV n) l λ l=>k (.agg l)
  | .tup l=>fLs (fV n) l λ l=>k (.tup l)
  | .cptr l=>fLs (fV n) l λ l=>k (.cptr l)
  | .ptr a o=>fN a λ a=>fN o λ o=>k (.ptr a o)
  | .slf e d=>fLE e λ e=>k (.slf e d)
  |v=>k v
def fTr:Tr->(Tr->g)->g
 | .leaf,k=>k .leaf
 | .one v,k=>fV 5 v λ v=>k (.one v)
 | .node l r,k=>fTr l λ l=>fTr r λ r=>k (.node l r)
def fBx(p:Nat×ABox)(k:Nat×ABox->g):g:=match p with
 |(i,b)=>fN i λ i=>match b with
  | .var l=>fLs (fV 5) l λ l=>k (i,.var l)
  | .row t z e d f=>fLE e λ e=>k (i,.row t z e d f)
def fA(a:AS)(k:AS->g):g:=match a with
 |⟨env,bx,cs,n,m,sz,lv,nb⟩=>fTr env λ env=>fLs fBx bx λ bx=>fLs fLE cs λ cs=>fN n λ n=>fN m λ m=>fN sz λ sz=>fN lv λ lv=>fN nb λ nb=>k ⟨env,bx,cs,n,m,sz,lv,nb⟩
theorem a4i(n:Nat)(k:Nat->g):fN n k=k n:=by cases n<;>rfl
theorem c2N(i:Int)(k:Int->g):fI i k=k i:=by cases i<;>simp[fI,a4i]
theorem d3L(s:Sy)(k:Sy->g):fSy s k=k s:=by simp_all[fSy,a4i,c2N]
theorem c9R:∀(l:List (Sy×Int)) (k:List (Sy×Int)->g),fTs l k=k l
 |[],k=>rfl
 |(s,i)::r,k=>by simp only[fTs,d3L,c2N,c9R]
theorem b8I(e:LE)(k:LE->g):fLE e k=k e:=by simp_all[fLE,c2N,c9R]
theorem a3t{a:Type}{f:a->(a->g)->g}(hf:∀x k,f x k=k x):∀(l:List a) (k:List a->g),fLs f l k=k l
 |[],k=>rfl
 |x::r,k=>by simp only[fLs,hf,a3t hf]
theorem d5E(b:AB)(k:AB->g):fAB b k=k b:=by
 cases b<;>simp only[fAB,b8I];grind
theorem d1Y:∀(n:Nat) (v:AV) (k:AV->g),fV n v k=k v
 |0,v,k=>rfl
 |n+1,v,k=>by
  cases v<;>simp only[fV,b8I,d5E,a4i,a3t (d1Y n)]
theorem d0p:∀(t:Tr) (k:Tr->g),fTr t k=k t
 | .leaf,k=>rfl
 | .one v,k=>by simp only[fTr,d1Y]
 | .node l r,k=>by simp only[fTr,d0p]
theorem d5t(p:Nat×ABox)(k:Nat×ABox->g):fBx p k=k p:=by
 grind[fBx,a4i,a3t,d1Y,b8I]
theorem d5v(a:AS)(k:AS->g):fA a k=k a:=by
 simp_all[fA,d0p,a3t,d5t,b8I,a4i]
end
end
section
open Go.PV
inductive Pt where
 |td (d:TD)
 |und
 |nils
 |own (ty sz:Nat) (hi:Int) (d:TD)
 |boolc (b:Bool)
 |agg (l:List Pt)
 |tup (l:List Pt)
 |fn (f:Nat) (x y:List Pt)
 |pre (ty sz:Nat) (hi:Int) (d:TD)
 |self
 deriving Inhabited
def a9j:Nat->AS->Pt->AV×AS
 |0,a,_=>(.any,a)
 |n+1,a,p=>match p with
  | .td d=>a9h a d
  | .und=>(.und,a)
  | .nils=>(.nils,a)
  | .own ty sz hi d=>(.row (fresh a 0 hi).2.m sz (.k 0) (fresh a 0 hi).1,(newB (fresh a 0 hi).2 (.row ty sz (fresh a 0 hi).1 d true)).2)
  | .boolc b=>(.bool (.c b),a)
  | .pre ty sz hi d=>(.row (fresh (fresh a 0 hi).2 0 hi).2.m sz (.k 0) (fresh a 0 hi).1,(newB (fresh (fresh a 0 hi).2 0 hi).2 (.row ty sz (fresh (fresh a 0 hi).2 0 hi).1 d false)).2)
  | .agg l=>(.agg (a5l (a9j n) a l).1,(a5l (a9j n) a l).2)
  | .tup l=>(.tup (a5l (a9j n) a l).1,(a5l (a9j n) a l).2)
  | .fn f x y=>(.fn f (a5l (a9j n) a x).1 (a5l (a9j n) (a5l (a9j n) a x).2 y).1,(a5l (a9j n) (a5l (a9j n) a x).2 y).2)
  | .self=>(.any,a)
def c9E(nm:Nat)(a:AS)(p:Pt):AV×AS:=match p with
 | .self=>(.ptr nm 0,a)
 |p=>a9j 5 a p
structure Ann where
 slots:List (Nat×Pt)
 boxes:List (Nat×List Pt)
 facts:List LinF
 rank:LinF
 deriving Inhabited
def c9T:AS->List Nat->AS
 |a,[]=>a
 |a,d::r=>c9T (a.put d .any) r
def b6q:AS->List (Nat×Pt)->AS
 |a,[]=>a
 |a,(i,p)::r=>b6q ((a9j 5 a p).2.put i (a9j 5 a p).1) r
def d1L:AV->Option Nat
 | .ptr nm 0=>some nm
 | .fn _ (.ptr nm 0::_) _=>some nm
 | .fn _ [] (.ptr nm 0::_)=>some nm
 |_=>none
def b4x:AS->List (Nat×List Pt)->Option AS
 |a,[]=>some a
 |a,(i,l)::r=>match d1L (a.get i)with
  |some nm=>b4x (setB (a5l (c9E nm) a l).2 nm (.var (a5l (c9E nm) a l).1)) r
  |_=>none
def c4R:AS->List Nat->AS
 |a,[]=>a
 |a,nm::r=>c4R (d1K a nm) r
def c9u(a:AS)(l:List (Nat×List Pt)):List Nat:=l.flatMap λ q=>match d1L (a.get q.1)with
 |some nm=>(match a4U a nm with
  |some (.var l)=>l.flatMap (a2J 5)
  |_=>[])
 |_=>[]
def Tr.mapT(f:AV->AV):Tr->Tr
 | .leaf=> .leaf
 | .one v=> .one (f v)
 | .node l r=> .node (Tr.mapT f l) (Tr.mapT f r)
def d5i(nb mb:Nat)(v:AV):AV:=if b5s nb mb 6 v then v else .any
def c9V(nb mb:Nat):ABox->ABox
 | .var l=> .var (l.map (d5i nb mb))
 |b=>b
def d3n(mb:Nat)(a:AS):AS:={a with env:=a.env.mapT (d5i a.n mb),bx:=(a.bx.filter λ p=>decide (p.1<mb)).map λ p=>(p.1,c9V a.n mb p.2),m:=mb}
def d9l:List Nat->Nat->Nat
 |[],m=>m
 |x::r,m=>d9l r (min x m)
def b9T(mb:Nat)(a:AS)(b:List Ann):Nat:=d9l ((b.flatMap λ n=>n.slots.flatMap (λ q=>a2J 5 (a.get q.1))++c9u a n.boxes).filter λ nm=>decide (mb<=nm)) a.m
def d6Q(a0 a:AS)(c:List Nat)(n:Ann):Option (Ann×Hd):=
 let b:=c4R a (n.slots.flatMap (λ q=>a2J 5 (a.get q.1))++c9u a n.boxes)
 match b4x b n.boxes with
 |none=>none
 |some b=>
  let h1:=b6q (c9T b c) n.slots
  match a0D (d2V a0 h1) n.facts,d2V a0 h1 n.rank with
  |some gs,some rk=>some (n,{h1:=h1,slots:=n.slots.map (·.1),boxN:=n.boxes.flatMap (λ q=>(d1L (a.get q.1)).toList),gs:=gs,rk:=rk})
  |_,_=>none
abbrev b4r:=Option (List (Ex×AS))
def d0v(a:AS)(rk:LE)(e:AS)(q:Ann×Hd):Bool:=match c5Z a q.2 e with
 |some b=>match b2s a.n b q.2.rk with
  |some r=>e.ent ((rk.sub r).addc (-1))
  |none=>false
 |none=>false
def c7C(a:AS)(hs:List (Ann×Hd))(rk:LE)(b:Ex×AS):b4r:=match b.1 with
 | .normal=>if hs.any (d0v a rk b.2)then some []else none
 |_=>some [b]
def b8q(b:AS->b4r)(a:AS)(hs:List (Ann×Hd))(q:Ann×Hd):b4r:=
 if !((q.2.h a).ent q.2.rk)then none else match b {q.2.h a with nb:=(q.2.h a).n}with
 |none=>none
 |some c=>a1f (c7C a hs q.2.rk) c
def c6v(c:AS->b4r)(b:List Nat)(d:List Ann)(a0 a:AS):b4r:=
 match a0D (d6Q a0 a b) d with
 |none=>none
 |some hs=>if hs.all (λ q=>a3I a0 a b q.2 q.1.facts q.1.rank)&&hs.any (λ q=>(c5Z a q.2 a0).isSome)then a1f (b8q c a hs) hs else none
def a9V(b:AS->b4r):Nat->AS->b4r
 |0,_=>none
 |n+1,a=>match b a with
  |none=>none
  |some c=>a1f (λ d=>match d.1 with
   | .normal=>a9V b n d.2
   |x=>some [(x,d.2)]) c
def c8t(c:Nat->AS->b4r)(mb:Nat)(d:List Nat)(b:List Ann)(a:AS):b4r:=
 if b.isEmpty then a9V (c mb) 70 a else if decide (mb<=b9T mb a b)&&decide (b9T mb a b<=a.m)then c6v (c (b9T mb a b)) d b a (d3n (b9T mb a b) a)else none
section
variable (P:Program) (ctx:Nat->List SumA) (inl:Nat->Bool) (ir:Ir) (dr:Array Oper->AS->Option (List AS)) (ann:Nat->List Ann)
def b0k(id:Nat)(p:Ex×AS):Ex×AS:=match p.1 with
 | .exit j=>if j=id then(.normal,p.2)else(.exit j,p.2)
 |x=>(x,p.2)
def a2d:Nat->Nat->Code->AS->b4r
 |_,_,.skip,a|_,_,.label _,a=>some [(.normal,a)]
 |_,_,.region _ ops false,a=>(a7Z P ctx inl ir ops ops.toList a).map λ l=>l.map λ a=>(.normal,b4V ops a)
 |_,_,.region _ ops true,a=>(dr ops a).map λ l=>l.map λ a=>(.normal,b4V ops a)
 |b,mb,.seq x y,a=>match a2d b mb x {a with lv:=a3D y a.lv}with
  |none=>none
  |some l=>a1f (λ q=>match q.1 with
   | .normal=>fA {q.2 with lv:=a.lv,nb:=a.nb} (a2d b mb y)
   |x=>some [(x,q.2)]) l
 |b,mb,.cond c x y,a=>match evA a c with
  |some (.bool q)=>
   match(match assume a q true with|some a=>a2d b mb x a|none=>some []),(match assume a q false with|some a=>a2d b mb y a|none=>some [])with
   |some l,some r=>some (l++r)
   |_,_=>none
  |_=>none
 |_,mb,.block id x,a=>(a2d id mb x a).map λ l=>l.map (b0k id)
 |b,mb,.loop x,a=>c8t (λ mb=>a2d b mb x) mb (c1F x) (ann b) (a7o {a with lv:=a3D x a.lv})
 |b,mb,.scope x,a=>a2d b mb x a
 |_,_,.exit id,a=>some [(.exit id,a)]
 |_,_,.ret,a=>some [(.ret,a)]
 |_,_,_,_=>none
end
section
variable {P:Program} {prim:Nat->Option Fp} {inl:Nat->Bool} {ctx:Nat->List SumA} {ir:Ir} {dr:Array Oper->AS->Option (List AS)} {ann:Nat->List Ann}
def d3d(P:Program)(prim:Nat->Option Fp)(inl:Nat->Bool)(c:Code)(Γ:Gm)(s:St)(l:List (Ex×AS)):Prop:=
 ∃N x b,a0e P (Lv P prim inl N) N c s=some (x,b)/\∃p∈l,p.1=x/\∃a,Γ.le a/\Ok p.2 a b
def d6j(P:Program)(prim:Nat->Option Fp)(inl:Nat->Bool)(dr:Array Oper->AS->Option (List AS)):Prop:=∀(ops:Array Oper) (a:AS) (Γ:Gm) (s:St) (l:List AS),Ok a Γ s->dr ops a=some l->
 ∃N fs c,a4g P (Lv P prim inl N) ops ops.toList s=some (fs,c)/\a6F ops fs=true/\∃d∈l,∃b,Γ.le b/\Ok d b c
variable {c:Code} {s:St}
theorem a3k{N M:Nat}(h:N<=M){r:Ex×St}(e:a0e P (Lv P prim inl N) N c s=some r):a0e P (Lv P prim inl M) M c s=some r:=a3f (a0L h) h e
theorem a6T{f:AV->AV}(hf:f .any= .any):∀(d:Nat) (t:Tr) (i:Nat),Tr.get d (t.mapT f) i=f (Tr.get d t i)
 |0,.leaf,_=>hf.symm
 |0,.one _,_=>rfl
 |0,.node _ _,_=>hf.symm
 |_+1,.leaf,_=>hf.symm
 |_+1,.one _,_=>hf.symm
 |d+1,.node l r,i=>by
  simp only[Tr.mapT,Tr.get];split
  .exact a6T hf d l _
  .exact a6T hf d r _
variable {a:AS} {Γ:Gm} {mb:Nat}
theorem c4s{av:AV}{v:V}(hv:In Γ av v):In (Γ.cut a.n mb) (d5i a.n mb av) v:=by
 unfold d5i;split
 .grind[b4g]
 .exact .any
theorem d1C(h:Ok a Γ s):OkB (d3n mb a) (Γ.cut a.n mb) s:=by
 refine⟨rfl,rfl,h.sz,λ i=> ?_,?_,λ p hp=> ?_⟩
 .have:(d3n mb a).get i=d5i a.n mb (a.get i):=by
   unfold AS.get d3n;split
   .exact a6T rfl 8 a.env i
   .rfl
  rw[this];exact c4s (h.env i)
 .have:=h.cons;rw[h.n]at this;exact this
 .obtain⟨q,hq,rfl⟩:=ax5.1 hp;obtain⟨d,e⟩:=as2.1 hq;obtain⟨_,b,k1,k2⟩:=h.box q d;refine⟨at8 e,b,k1,?_⟩;show InB _ (c9V a.n mb q.2) b;generalize q.2=bx at k2;cases k2 with
  | @var l cs w=>exact .var ⟨by rw[ap3];exact w.1,λ j x c hx hc=>by
    rw[au3]at hx;cases hl:l[j]? with
    |none=>grind
    |some y=>
     rw[hl]at hx;injection hx with hx
     subst hx;exact c4s (w.2 j y c hl hc)⟩
  |row f g k m=>exact .row (Γ:=Γ.cut a.n mb) (by show LE.ok _ a.n _;rw[<-h.n];exact f) g k m
variable {l:List (Ex×AS)}
theorem c7B{k:AS->b4r}{a0:AS}{d:Gm}(hb:∀(a:AS)(d A:Gm)(s:St)(l:List (Ex×AS)),d.nx=0->d.m=Γ.m->d.le A->Ok a A s->k a=some l->d3d P prim inl c d s l)(hz:Γ.nx=0){B:List Ann}(h0:Ok a0 d s)(C:d.n=Γ.n)(m:d.ρ=Γ.ρ)(D:Γ.le d)(h:OkB a Γ s)(hr:c6v k (c1F c) B a0 a=some l):
  d3d P prim inl (.loop c) Γ s l:=by
 unfold c6v at hr;split at hr
 .cases hr
 next hs p3=>
 split at hr
 .next hc=>
  rw[az6,ay5,ar4]at hc;obtain⟨n,T,E,o⟩:=hc;have key:∀(M:Nat) (q:Ann×Hd),q∈hs->∀(b:Gm) (F:St),Γ.le b->Ok (q.2.h a) b F->Kept (c1F c) s F->q.2.rk.ok b.ρ b.n->q.2.rk.ev b.ρ<M->
    ∃N x w,iter (a0e P (Lv P prim inl N) N c) N F=some (x,w)/\∃p∈l,p.1=x/\∃G,Γ.le G/\Ok p.2 G w:=by
   intro M;induction M with
   |zero=>
    intro q hq b F e oh _ f U;exfalso;obtain⟨x,g,_⟩:=a2x hr q hq;unfold b8q at g;split at g
    .cases g
    next H=>
    have:=oh.ent f (by grind);omega
   |succ M ih=>
    intro q hq b F e oh hk f U;obtain⟨x,g,x2⟩:=a2x hr q hq;unfold b8q at g;split at g
    .cases g
    next H=>
    have p4:=oh.ent f (by grind);split at g
    .cases g
    next Y t=>
    have V:(b.cut b.n Γ.m).le b:=⟨ay3 _,e.m,aw7 _,λ _ _=>rfl,λ _ _=>rfl,λ _ _ _=>aw7 _,Keeps.refl⟩;have u:Γ.le (b.cut b.n Γ.m):=⟨e.n,ay3 _,by grind,e.ρ,e.ν,λ i h1 h2=>absurd h2 (aq9.2 h1),e.keeps⟩;obtain⟨N,y,S,e1,p,p1,Z,I,l2,oe⟩:=hb _ (b.cut b.n Γ.m) _ _ _ rfl rfl V (oh.lv (x:=(q.2.h a).lv)) t;have k2:Kept (c1F c) s S:=hk.trans (c0b (by rw[hk.1];exact h0.small) e1);obtain⟨z,J,z2⟩:=a2x g p p1;obtain⟨py,pe⟩:=p;simp only at Z;subst Z;cases py with
    |normal=>
     simp only[c7C]at J;split at J
     .next K=>
      obtain⟨q',L,hn⟩:=ar4.1 K;unfold d0v at hn;split at hn
      .next σ v=>
       split at hn
       .next r W=>
        obtain⟨O,g1,g2,g3,g4,g5⟩:=b9t (n q' L) h0.toB C m h (u.trans l2) oe k2 v;obtain⟨r1,r2⟩:=g5 _ r g4 W;have Q:=a0p f l2.n l2.ρ;have R:=oe.ent (a0k (a0o Q r1)) hn;rw[a0j,a0s,a0q f l2.ρ,r2]at R;obtain⟨N',x',w,f1,f2⟩:=ih q' L O S g1 g2 k2 g4 (by omega);refine⟨max N N'+1,x',w,?_,f2⟩;have X:=a3k (M:=max N N'+1) (by omega) e1;simp only[iter,X];exact a4d (λ s r hs=>a3k (by omega) hs) (by omega) f1
       .cases hn
      .cases hn
     .cases J
    |exit j=>
     refine⟨N+1,.exit j,S,?_,(.exit j,pe),?_,rfl,I,u.trans l2,oe⟩
     .simp only[iter,a3k (at3 N) e1]
     .simp only[c7C,az0]at J;grind
    |ret=>
     refine⟨N+1,.ret,S,?_,(.ret,pe),?_,rfl,I,u.trans l2,oe⟩
     .simp only[iter,a3k (at3 N) e1]
     .simp only[c7C,az0]at J;grind
  obtain⟨σ,v⟩:=at0.1 o;obtain⟨b,g1,g2,g3,g4,_⟩:=b9t (n T E) h0.toB C m h D h0 Kept.refl v;obtain⟨N,x,w,f1,f2⟩:=key ((T.2.rk.ev b.ρ).toNat+1) T E b s g1 g2 Kept.refl g4 (by omega);exact⟨N,x,w,by grind[a0e],f2⟩
 .cases hr
theorem b4I{c:Code}{e:AS->b4r}{b:Gm}(hb:∀(a:AS)(Γ:Gm)(s:St)(l:List (Ex×AS)),b.le Γ->Ok a Γ s->e a=some l->d3d P prim inl c b s l):∀(n:Nat) (a:AS) (Γ:Gm) (s:St) (l:List (Ex×AS)),b.le Γ->Ok a Γ s->a9V e n a=some l->
  ∃N x i,iter (a0e P (Lv P prim inl N) N c) N s=some (x,i)/\∃p∈l,p.1=x/\∃d,b.le d/\Ok p.2 d i
 |0,_,_,_,_,_,_,hr=>by cases hr
 |n+1,a,Γ,s,l,o,h,hr=>by
  simp only[a9V]at hr;split at hr
  .cases hr
  next k f=>
  obtain⟨N,x,m,e1,p,A,z,g,l1,o1⟩:=hb a Γ s k o h f;obtain⟨w,t,u⟩:=a2x hr p A;obtain⟨px,pe⟩:=p;simp only at z;subst z;cases px with
  |normal=>obtain⟨M,y,B,f1,f2⟩:∃N x i,iter (a0e P (Lv P prim inl N) N c) N m=some (x,i)/\∃p∈w,p.1=x/\∃d,b.le d/\Ok p.2 d i:=b4I hb n pe g m w l1 o1 t;obtain⟨q,C,D⟩:=f2;refine⟨max N M+1,y,B,?_,q,u q C,D⟩;have v:=a3k (M:=max N M+1) (by omega) e1;simp only[iter,v];exact a4d (λ s r hs=>a3k (by omega) hs) (by omega) f1
  |exit j=>cases t;exact⟨N+1,.exit j,m,by simp only[iter,a3k (at3 N) e1],_,u _ (az7.2 rfl),rfl,g,l1,o1⟩
  |ret=>cases t;exact⟨N+1,.ret,m,by simp only[iter,a3k (at3 N) e1],_,u _ (az7.2 rfl),rfl,g,l1,o1⟩
theorem b7m{f:Nat->AS->b4r}(hb:∀(mb:Nat)(a:AS)(b Γ:Gm)(s:St)(l:List (Ex×AS)),b.nx=0->b.m=mb->b.le Γ->Ok a Γ s->f mb a=some l->d3d P prim inl c b s l){b:Gm}{d:List Ann}(hz:b.nx=0)(hm:b.m=mb)(e:b.le Γ)(h:Ok a Γ s)(hr:c8t f mb (c1F c) d a=some l):
  d3d P prim inl (.loop c) b s l:=by
 unfold c8t at hr;split at hr
 .obtain⟨N,x,j,f1,f2⟩:=b4I (λ a Γ s l hl ho g=>hb mb a b Γ s l hz hm hl ho g) 70 a Γ s l e h hr;exact⟨N,x,j,by grind[a0e],f2⟩
 split at hr
 .next hd=>
  rw[az6,ay2,ay2]at hd;have hn:=h.n;have q:=h.m;have l1:b.le (Γ.cut a.n (b9T mb a d)):=⟨by show _<=a.n;rw[<-hn];exact e.n,by show _<=b9T mb a d;omega,by grind,e.ρ,e.ν,λ i _ _=>by grind,e.keeps⟩;have l2:(Γ.cut a.n (b9T mb a d)).le Γ:=⟨by show a.n<=_;grind,by show b9T mb a d<=_;omega,aw7 _,λ _ _=>rfl,λ _ _=>rfl,λ _ _ _=>aw7 _,Keeps.refl⟩;obtain⟨N,x,j,e1,p,r,t,k,l3,o⟩:=c7B (Γ:=Γ.cut a.n (b9T mb a d)) (λ a b n s l z m hl ho g=>hb _ a b n s l z m hl ho g) rfl h hn rfl l2 (d1C h) hr;exact⟨N,x,j,e1,p,r,t,k,l1.trans l3,o⟩
 .cases hr
theorem b9X(hc:a9d P prim inl ctx)(hi:d4i P prim inl ir)(hd:d6j P prim inl dr):∀(c:Code) (b mb:Nat) (a:AS) (d Γ:Gm) (s:St) (l:List (Ex×AS)),d.nx=0->d.m=mb->d.le Γ->Ok a Γ s->a2d P ctx inl ir dr ann b mb c a=some l->d3d P prim inl c d s l:=by
 intro c;induction c with
 |skip=>intro b mb a d Γ s l hz hm e h hr;cases hr;exact⟨0,.normal,s,rfl,_,az7.2 rfl,rfl,Γ,e,h⟩
 |label _=>intro b mb a d Γ s l hz hm e h hr;cases hr;exact⟨0,.normal,s,rfl,_,az7.2 rfl,rfl,Γ,e,h⟩
 |exit id=>intro b mb a d Γ s l hz hm e h hr;cases hr;exact⟨0,.exit id,s,rfl,_,az7.2 rfl,rfl,Γ,e,h⟩
 |ret=>intro b mb a d Γ s l hz hm e h hr;cases hr;exact⟨0,.ret,s,rfl,_,az7.2 rfl,rfl,Γ,e,h⟩
 |region id ops D=>
  intro b mb a d Γ s l hz hm e h hr;cases D with
  |false=>simp only[a2d,az2]at hr;obtain⟨r,hr,rfl⟩:=hr;obtain⟨N,F,n1,C,a1,u,l1,o1⟩:=b1R hc hi hz e h hr;exact⟨N,.normal,F,by grind[a0e],_,ax5.2 ⟨C,a1,rfl⟩,rfl,u,l1,o1.clean (ops:=ops)⟩
  |true=>simp only[a2d,az2]at hr;obtain⟨r,hr,rfl⟩:=hr;obtain⟨N,fs,F,n1,n2,C,a1,u,l1,o1⟩:=hd ops a Γ s r h hr;exact⟨N,.normal,F,by simp_all[a0e],_,ax5.2 ⟨C,a1,rfl⟩,rfl,u,e.trans l1,o1.clean (ops:=ops)⟩
 |seq x y A B=>
  intro b mb a d Γ s l hz hm e h hr;simp only[a2d,d5v]at hr;split at hr
  .cases hr
  next lx i=>
  obtain⟨N,z,k,n1,p,n,o,f,l1,o1⟩:=A b mb _ d Γ s lx hz hm e (h.lv (y:=a.nb)) i;obtain⟨w,G,H⟩:=a2x hr p n;obtain⟨pz,pa⟩:=p;simp only at o;subst o;cases pz with
  |normal=>obtain⟨M,J,K,m1,q,L,O,I,l2,o2⟩:=B b mb _ d f k w hz hm l1 o1.lv G;refine⟨max N M,J,K,?_,q,H q L,O,I,l2,o2⟩;grind[a0e,a3k,ar6]
  |exit j=>cases G;exact⟨N,.exit j,k,by grind[a0e],_,H _ (az7.2 rfl),rfl,f,l1,o1⟩
  |ret=>cases G;exact⟨N,.ret,k,by grind[a0e],_,H _ (az7.2 rfl),rfl,f,l1,o1⟩
 |cond q x y A B=>
  intro b mb a d Γ s l hz hm e h hr;simp only[a2d]at hr;split at hr
  .next g hg=>
   obtain⟨v,v1,Q⟩:=a1n h hg;cases Q with
   | @bool _ t b1 b2=>
     obtain⟨C,a1,a2⟩:=h.assume b1 b2;split at hr
     .next lx ly i E=>
      injection hr with hr
      subst hr;cases t with
      |true=>rw[a1]at i;obtain⟨N,z,k,n1,p,n,o⟩:=A b mb C d Γ s lx hz hm e a2 i;exact⟨N,z,k,by simp_all[a0e],p,av4 _ n,o⟩
      |false=>rw[a1]at E;obtain⟨N,z,k,n1,p,n,o⟩:=B b mb C d Γ s ly hz hm e a2 E;exact⟨N,z,k,by simp_all[a0e],p,aw2 _ n,o⟩
     .cases hr
  .cases hr
 |block id x ih=>
  intro b mb a d Γ s l hz hm e h hr;simp only[a2d,az2]at hr;obtain⟨lx,i,rfl⟩:=hr;obtain⟨N,z,k,n1,p,n,o,f,l1,o1⟩:=ih id mb a d Γ s lx hz hm e h i;obtain⟨pz,pa⟩:=p;simp only at o;subst o;cases pz with
  |exit j=>refine⟨N,(if j=id then .normal else .exit j),k,by grind[a0e],b0k id (.exit j,pa),ax5.2 ⟨_,n,rfl⟩,?_,f,l1,?_⟩;all_goals grind[b0k]
  |normal=>exact⟨N,.normal,k,by grind[a0e],_,ax5.2 ⟨_,n,rfl⟩,rfl,f,l1,o1⟩
  |ret=>exact⟨N,.ret,k,by grind[a0e],_,ax5.2 ⟨_,n,rfl⟩,rfl,f,l1,o1⟩
 |loop x ih=>intro b mb a d Γ s l hz hm e h hr;simp only[a2d]at hr;exact b7m (λ mb a d Γ s l z m hl h hr=>ih b mb a d Γ s l z m hl h hr) hz hm e (h.lv (y:=a.nb)).prune hr
 |scope x ih=>intro b mb a d Γ s l hz hm e h hr;simp only[a2d]at hr;obtain⟨N,z,k,n1,p⟩:=ih b mb a d Γ s l hz hm e h hr;exact⟨N,z,k,by grind[a0e],p⟩
 |_=>intro b mb a d Γ s l hz hm e h hr;cases hr
end
end
section
open Go.PV
def a9g(a:AS)(v:AV):Option (Ce×List Nat):=match v with
 | .agg _| .tup _| .dat true _ _=>none
 |v=>(a5j 8 a v).map λ w=>(.av w,a2J 8 v)
def b4t(a:AS)(v:AV):Option (Pa×List Nat):=match v with
 | .agg l=>(a0D (a9g a) l).map λ r=>(.agg (r.map (·.1)),r.flatMap (·.2))
 |v=>(a9g a v).map λ r=>(.ce r.1,r.2)
def a9D(a:AS)(v:AV):Option (Re×List Nat):=match v with
 | .tup l=>(a0D (b4t a) l).map λ r=>(.tup (r.map (·.1)),r.flatMap (·.2))
 |v=>(b4t a v).map λ r=>(.pa r.1,r.2)
def d6O(k:Nat)(a:AS)(v:AV):Option (Re×List Nat×List Nat):=if d1T k then(b2P a v).map λ r=>(r.1,r.2,[])else(a9D a v).map λ r=>(r.1,[],r.2)
section
variable {a:AS} {Γ:Gm} {s:St}
theorem UnN.mono{l l':List Nat}(h:∀x∈l,x∈l'){id:Nat}:UnN Γ l id->UnN Γ l' id:=Or.imp (λ h=>h) fun⟨nm,h1,h2⟩=>⟨nm,h nm h1,h2⟩
theorem d7y{A B:Type}{IN:A->V->Prop}{OUT:B->V->Prop}{f:A->Option (B×List Nat)}{F:List Nat×List Nat->V->Option (V×List Nat×List Nat)}{R:List Nat}
  (hf:∀(x:A) (c:V) (b:B) (ks ms:List Nat),IN x c->f x=some (b,ks)->∃d e,F (ms,R) c=some (d,e,R)/\OUT b d/\Met (UnN Γ ks) ms e):∀{l:List A} {cs:List V} {r:List (B×List Nat)} {ms:List Nat},
  l.length=cs.length->(∀(j:Nat) (x:A) (c:V),l[j]?=some x->cs[j]?=some c->IN x c)->a0D f l=some r->
  ∃ds e,a0G F (ms,R) cs=some (ds,e,R)/\(r.map (·.1)).length=ds.length/\(∀(j:Nat) (b:B) (d:V),(r.map (·.1))[j]?=some b->ds[j]?=some d->OUT b d)/\Met (UnN Γ (r.flatMap (·.2))) ms e
 |[],cs,r,ms,hl,_,hr=>by
  have:cs=[]:=ay7.1 hl.symm;subst this;simp only[a0D,az0]at hr;subst hr;exact⟨[],ms,rfl,rfl,(λ j b d h=>by simp at h),Met.refl⟩
 |x::l,[],_,_,hl,_,_=>by cases hl
 |x::l,c::cs,r,ms,hl,hx,hr=>by
  cases h1:f x with
  |none=>grind[a0D]
  |some q=>
   cases h2:a0D f l with
   |none=>grind[a0D]
   |some g=>
    simp only[a0D,h1,h2,az0]at hr;subst hr;obtain⟨b,ks⟩:=q;obtain⟨d,m1,a1,a2,a3⟩:=hf x c b ks ms (hx 0 x c rfl rfl) h1;obtain⟨ds,m2,b1,b2,b3,b4⟩:=d7y hf (l:=l) (cs:=cs) (ms:=m1) (by grind) (λ j x c p q=>hx (j+1) x c (by grind) (by grind)) h2;refine⟨d::ds,m2,by grind[a0G],by grind,?_,?_⟩
    .intro j b' k p q;cases j with
     |zero=>grind
     |succ j=>grind
    .refine(a3.mono λ i hi=>UnN.mono ?_ hi).trans (b4.mono λ i hi=>UnN.mono ?_ hi)
     .grind
     .grind
variable {av:AV} {ks ms:List Nat} {v:V}
theorem b9f(h:Ok a Γ s){c:Ce}(hv:In Γ av v)(hr:a9g a av=some (c,ks)):
  ∃g i,a0h (a0b s.h) (ms,List.range s.nx) v=some (g,i,List.range s.nx)/\(InC Γ c g/\(∀l,g≠ .agg l)/\∀l,g≠ .tup l)/\Met (UnN Γ ks) ms i:=by
 have data:(a5j 8 a av).map (λ v=>(Ce.av v,a2J 8 av))=some (c,ks)->a0h (a0b s.h) (ms,List.range s.nx) v=(match a0C ED (a0b s.h) ms v with|some (v,ms)=>some (v,ms,List.range s.nx)|none=>none)->(∀l,v≠ .agg l)->(∀l,v≠ .tup l)->
   ∃g i,a0h (a0b s.h) (ms,List.range s.nx) v=some (g,i,List.range s.nx)/\(InC Γ c g/\(∀l,g≠ .agg l)/\∀l,g≠ .tup l)/\Met (UnN Γ ks) ms i:=by
  intro h1 h2 h4 h5;simp only[az2,az8]at h1;obtain⟨x,hx,rfl,rfl⟩:=h1;obtain⟨g,B,q,C,t,D⟩:=b2U h 8 hv hx ED c7d ms;rw[h2,q];refine⟨g,B,rfl,⟨.av t C,?_,?_⟩,D⟩
  .intro l e;obtain⟨k,hk⟩:=(a6u (a5E▸q)).1 l e;exact h4 k hk
  .intro l e;obtain⟨k,hk⟩:=(a6u (a5E▸q)).2 l e;exact h5 k hk
 cases hv with
 | @row nm sz off e o m h0 h1 h2 h3 h4=>
   refine data hr ?_ (nofun) (nofun);have u:=h.νlt nm (by grind);have w:(List.range s.nx).contains (Γ.ν nm)=true:=by rw[au1];exact aq2.2 u
   have n:=hr;simp only[a9g,az2,az8]at n;obtain⟨x,hx,_⟩:=n;simp only[a5j]at hx;split at hx
   .next E F j=>
    simp only[elA]at j;split at j
    .next ty z k d f hb=>
     obtain⟨_,b,y,A⟩:=h.box _ (a0N hb);cases A with
     | @row _ _ _ _ _ f' xs k1 k2 k3 k4=>
       have p:a0b s.h (Γ.ν nm)=some (.row ty z xs f'):=by rw[<-h.g];exact y
       simp only[a0h,p,w,aq4,ay6,and_false,av8];rfl
    .cases j
   .cases hx
 | @dat r e d hi v m h1 h2 h3 h4=>
   cases r with
   |true=>simp[a9g]at hr
   |false=>cases h2<;>exact data hr rfl (nofun) (nofun)
 |agg=>simp[a9g]at hr
 |tup=>simp[a9g]at hr
 |bool=>exact data hr rfl (nofun) (nofun)
 |int=>exact data hr rfl (nofun) (nofun)
 |str=>exact data hr rfl (nofun) (nofun)
 |has=>exact data hr rfl (nofun) (nofun)
 |lit=>exact data hr rfl (nofun) (nofun)
 |nils=>exact data hr rfl (nofun) (nofun)
 |_=>grind[a9g,a5j]
theorem b8T(h:Ok a Γ s){c:Pa}(hv:In Γ av v)(hr:b4t a av=some (c,ks)):
  ∃g e,a0O (a0b s.h) (ms,List.range s.nx) v=some (g,e,List.range s.nx)/\InP Γ c g/\Met (UnN Γ ks) ms e:=by
 have data:(a9g a av).map (λ r=>(Pa.ce r.1,r.2))=some (c,ks)->a0O (a0b s.h) (ms,List.range s.nx) v=a0h (a0b s.h) (ms,List.range s.nx) v->
   ∃g e,a0O (a0b s.h) (ms,List.range s.nx) v=some (g,e,List.range s.nx)/\InP Γ c g/\Met (UnN Γ ks) ms e:=by
  intro h1 h2;simp only[az2,az8]at h1;obtain⟨⟨x,t⟩,hx,rfl,rfl⟩:=h1;obtain⟨g,i,j,⟨k,n,o⟩,m⟩:=b9f h hv hx (ms:=ms);rw[h2];exact⟨g,i,j,.ce k n o,m⟩
 cases hv with
 | @agg l cs h1 h2=>
   simp only[b4t,az2,az8]at hr;obtain⟨r,hx,rfl,rfl⟩:=hr;obtain⟨p,i,j,k,m,q⟩:=d7y (Γ:=Γ) (IN:=In Γ) (OUT:=InC Γ) (f:=a9g a) (F:=a0h (a0b s.h)) (R:=List.range s.nx) (ms:=ms) (λ x c b ks ms hc he=>by
    obtain⟨d,i,j,k,m⟩:=b9f h hc he (ms:=ms);exact⟨d,i,j,k.1,m⟩) h1 h2 hx
   exact⟨.agg p,i,by simp only[a0O,j],.agg ⟨k,m⟩,q⟩
 |any=>grind[b4t,a9g,a5j]
 |dat h1 h2 h3 h4=>cases h2<;>exact data hr rfl
 |_=>exact data hr rfl
variable {c:Re}
theorem b7w(h:Ok a Γ s)(hv:In Γ av v)(hr:a9D a av=some (c,ks)):
  ∃e d,a2q (a0b s.h) (ms,List.range s.nx) v=some (e,d,List.range s.nx)/\InR Γ c e/\Met (UnN Γ ks) ms d:=by
 have data:(b4t a av).map (λ r=>(Re.pa r.1,r.2))=some (c,ks)->a2q (a0b s.h) (ms,List.range s.nx) v=a0O (a0b s.h) (ms,List.range s.nx) v->
   ∃e d,a2q (a0b s.h) (ms,List.range s.nx) v=some (e,d,List.range s.nx)/\InR Γ c e/\Met (UnN Γ ks) ms d:=by
  intro h1 h2;simp only[az2,az8]at h1;obtain⟨⟨x,n⟩,hx,rfl,rfl⟩:=h1;obtain⟨e,g,i,j,k⟩:=b8T h hv hx (ms:=ms);rw[h2];exact⟨e,g,i,.pa j,k⟩
 cases hv with
 | @tup l cs h1 h2=>simp only[a9D,az2,az8]at hr;obtain⟨r,hx,rfl,rfl⟩:=hr;obtain⟨ds,g,i,j,k,m⟩:=d7y (Γ:=Γ) (IN:=In Γ) (OUT:=InP Γ) (f:=b4t a) (F:=a0O (a0b s.h)) (R:=List.range s.nx) (ms:=ms) (λ x c b ks ms hc he=>b8T h hc he (ms:=ms)) h1 h2 hx;exact⟨.tup ds,g,by simp only[a2q,i],.tup ⟨j,k⟩,m⟩
 |any=>simp[a9D,b4t,a9g,a5j]at hr
 |dat h1 h2 h3 h4=>cases h2<;>exact data hr rfl
 |_=>exact data hr rfl
theorem d0T(h:Ok a Γ s){k:Nat}{kn names:List Nat}(hv:In Γ av v)(hr:d6O k a av=some (c,kn,names)):
  ∃b d,a5t k (a0b s.h) s.nx v=some (b,d,kn.map Γ.ν)/\InR Γ c b/\a7R Γ kn/\Met (UnN Γ names) [] d:=by
 unfold d6O at hr;unfold a5t;split at hr
 .next ho=>
  simp only[az2,az8]at hr;obtain⟨⟨x,l⟩,hx,rfl,rfl,rfl⟩:=hr;obtain⟨b,e,f,g,j,m⟩:=c0z h hv hx (ms:=[]);rw[ax3 ho];exact⟨b,e,f,g,j,m.mono λ i hi=> .inl hi⟩
 .next ho=>
  simp only[az2,az8]at hr;obtain⟨⟨x,l⟩,hx,rfl,rfl,rfl⟩:=hr;obtain⟨b,e,f,g,j⟩:=b7w h hv hx (ms:=[]);rw[ay9 ho];exact⟨b,e,by simp only[c6k,f,aq8,aw4,ar8],g,(nofun),j⟩
end
end
end Go.SN
namespace Go.PV
section
open Go.RowKit
def Ret(R:Value->World->Prop):Ending->World->Prop
 | .returned v,w=>R v w
 |_,_=>False
def b6L(P:Program)(k:Nat):Bool:=match P.funcs[k]? with
 |some fn=>fn.body.isSome&&fn.name != "runtime.NumGoroutine"
 |none=>false
def ListRep(M:Mem)(μ:Pl)(vs:List V)(us:List Value):Prop:=
 vs.length=us.length/\∀(j:Nat) (c:V) (u:Value),vs[j]?=some c->us[j]?=some u->RepV M μ c u
theorem ListRep.append{M:Mem}{μ:Pl}{vs b:List V}{us d:List Value}(h:ListRep M μ vs us)(k:ListRep M μ b d):ListRep M μ (vs++b) (us++d):=by
 refine⟨by simp[h.1,k.1],λ j c u hc hu=> ?_⟩;by_cases hj:j<vs.length
 .rw[aw1 hj]at hc;rw[aw1 (by rw[<-h.1];exact hj)]at hu;exact h.2 j c u hc hu
 .rw[av3 (by omega)]at hc;rw[av3 (by rw[<-h.1];omega),<-h.1]at hu;exact k.2 _ c u hc hu
structure CallsOk (P:Program) (call:Calls):Prop where
 cbv:∀{base:Nat} {I:List Nat} {J w:World} {M:Mem} {μ:Pl} {H:HP} {nx k:Nat} {args:List V} {us:Array Value} {r:Out},
  Inv base I J M μ (a0b H) w->(∀i,nx<=i->i<nx+r.cnt->μ i=none)->ListRep M μ args us.toList->a1q call.cbv (a0b H) nx k args=some r->
  b6L P k=true/\Go.Calls P k us w (Ret λ u w'=>∃M' μ',M.le M'/\NewMem base I M M'/\μ.le μ'/\RepV M' μ' r.v u/\Inv base I J M' μ' (a0b (r.upd++H)) w'/\∀i,μ i=none->¬(nx<=i/\i<nx+r.cnt)->μ' i=none)
 inl:∀{base:Nat} {I:List Nat} {J w:World} {M:Mem} {μ:Pl} {h:HP} {nx k:Nat} {args:List V} {us:Array Value} {fn:List V->HP->Nat->Option (V×HP×Nat)} {v:V} {h':HP} {nx':Nat},
  call.inl k=some fn->Inv base I J M μ (a0b h) w->(∀i,nx<=i->μ i=none)->ListRep M μ args us.toList->fn args h nx=some (v,h',nx')->
  b6L P k=true/\Go.Calls P k us w (Ret λ u w'=>∃M' μ',M.le M'/\NewMem base I M M'/\μ.le μ'/\RepV M' μ' v u/\Inv base I J M' μ' (a0b h') w'/\∀i,nx'<=i->μ' i=none)
section
variable {P:Program} {base:Nat} {I:List Nat} {J w:World} {M N:Mem} {μ L:Pl} {g g':G} {get:Nat->V} {a:Act} {nx:Nat} {call:Calls} {o:Oper} {r:Out}
theorem b0i{f:Operand}{args:Array Operand}{c:Array Nat}{k:Nat}{x y:Array Value}(ho:o.op= .call {callee:= .value f,args:=args,argTypes:=c})(hf:a.eval f= .func (.func k) x y)(hk:b6L P k=true):
  (execOp a.eval o).run P w= .ok (.enter k (x++args.map a.eval++y)) w:=by
 unfold b6L at hk;cases b:P.funcs[k]? with
 |none=>simp[b]at hk
 |some fn=>
  simp only[b,az6,Av2,Au8]at hk;have h1:¬fn.name= "runtime.NumGoroutine" :=hk.2;have h2:¬fn.body=none:=by
   have:=hk.1;cases hb:fn.body<;>simp_all
  simp[execOp,ho,resolve,hf,Deferred.ofValue,invoke,callFunc,b,h1,h2,Result.andThen]
theorem b2J{f:Nat}{asq bs:List V}{u:Value}(h:RepV M μ (.fn f asq bs) u):∃x y:Array Value,u= .func (.func f) x y/\ListRep M μ asq x.toList/\ListRep M μ bs y.toList:=by
 cases h with
 |fn h1 h2 h3 h4=>exact⟨_,_,rfl,⟨by grind,λ j c u hc hu=>h3 j c u hc (by grind)⟩,⟨by grind,λ j c u hc hu=>h4 j c u hc (by grind)⟩⟩
 |rep h=>cases h with|fn h1 h2 h3 h4=>exact⟨_,_,rfl,⟨by grind,λ j c u hc hu=> .rep (h3 j c u hc (by grind))⟩,⟨by grind,λ j c u hc hu=> .rep (h4 j c u hc (by grind))⟩⟩
theorem b7u(hS:Slots M μ get a){xs:Array Operand}{vs:List V}(h:evs get xs=some vs):ListRep M μ vs (xs.map a.eval).toList:=b1m hS h
variable {s:St} {v:V}
theorem c4K{A:St}(hc:CallsOk P call)(hR:StRel P base I J N L s a w M μ)(h:a1h P call o s=some (v,A)):
  A.env=s.env/\A.sz=s.sz/\∀(next:Act->World->Prop) (Q:Exit->Act->World->Prop),
   (∀u p z j,M.le z->NewMem base I M z->μ.le j->RepV z j v u->Inv base I J z j (a0b A.h) p->(∀i,A.nx<=i->j i=none)->next (a.put o.dst u) p)->o.wp P a w next Q:=by
 have ret:∀{k:Nat} {us:Array Value} {R:Value->World->Prop} {next:Act->World->Prop} {Q:Exit->Act->World->Prop},(execOp a.eval o).run P w= .ok (.enter k us) w->Go.Calls P k us w (Ret R)->
   (∀u p,R u p->next (a.put o.dst u) p)->o.wp P a w next Q:=by
  intro k us R next Q he d hn
  unfold Oper.wp;rw[he,Oper.upon_enter];refine d.mono λ e p he=> ?_;cases e with
  |returned v=>exact hn v p he
  |panicked c=>exact he.elim
  |outgrown=>exact he.elim
 unfold a1h at h;cases hi:a1F call s.get o with
 |none=>grind
 |some q=>
  cases q with
  |some q=>
   obtain⟨args,fn⟩:=q;simp only[hi]at h;cases B:fn args s.h s.nx with
   |none=>grind
   |some t=>
    obtain⟨v1,h1,E⟩:=t;simp only[B,ax0,az0,az8]at h;obtain⟨rfl,rfl⟩:=h;refine⟨rfl,rfl,λ next Q hn=> ?_⟩;unfold a1F at hi;split at hi
    .next f asq F ho=>
     split at hi
     .next k x y hf=>
      split at hi
      .next G hk=>
       simp only[az2]at hi;obtain⟨l,hl,e⟩:=hi;injection e with e;injection e with e1 e2;subst e1;subst e2
       obtain⟨X,Y,hu,hX,hY⟩:=b2J (a0A hR.slots hf);have m:=b7u hR.slots hl;obtain⟨C,d⟩:=hc.inl (us:=X++asq.map a.eval++Y) hk hR.inv hR.new (by simp only[Aw8];exact(hX.append m).append hY) B;grind[b0i]
      .cases hi
     .cases hi
    .cases hi
  |none=>
   simp only[hi]at h;cases b:opE P call s.get (a0b s.h) s.nx o with
   |none=>grind
   |some r=>
    simp only[b,ax0,az0,az8]at h;obtain⟨rfl,rfl⟩:=h;refine⟨rfl,rfl,λ next Q hn=> ?_⟩;by_cases hv:∀c f,o.op= .call c->c.callee≠ .value f
    .obtain⟨u,p,z,j,k1,k2,k3,k4,k5,k6⟩:=d5P (hR.new _ (ay3 _)) hR.inv hR.slots hv b;subst k1;have D:=hn u p _ j (Mem.le_refl _) NewMem.refl k2 k4 (by grind[a5e]) (λ i hi=>k6 i (hR.new i (by grind)) (.inr hi));unfold Oper.wp;grind[Oper.upon_value,Oper.upon_skip]
    .simp only[Classical.not_forall]at hv;obtain⟨c,f,ho,n⟩:=hv;obtain⟨callee,asq,F⟩:=c;have n:=Classical.not_not.1 n;simp only at n;subst n;simp only[opE,ho,Az0,az3]at b;obtain⟨l,hl,H,hf,b⟩:=b;split at b
     .next k x y=>
      split at b
      .cases b
      .obtain⟨X,Y,hu,hX,hY⟩:=b2J (a0A hR.slots hf);have m:=b7u hR.slots hl;obtain⟨C,d⟩:=hc.cbv (us:=X++asq.map a.eval++Y) hR.inv (λ i hi _=>hR.new i hi) (by simp only[Aw8];exact(hX.append m).append hY) b;refine ret (b0i ho hu C) d λ u p ⟨z,j,k1,k0,k2,k3,k4,k5⟩=>hn u p z j k1 k0 k2 k3 k4 λ i hi=>k5 i (hR.new i (by grind)) (by grind)
     .cases b
theorem b6h{t:Bool}(h:RepV M μ v (.bool t)):v= .lit (.bool t):=by
 cases h with
 |rep h=>cases h;rfl
variable {ops:Array Oper}
theorem c8y(hS:Slots M μ s.get a):a0V ops o s.get=Region.wanted o (yielded ops a.tmps):=by
 unfold a0V Region.wanted;cases o.guard with
 |none=>rfl
 |some p=>
  obtain⟨j,b⟩:=p;simp only;unfold yielded;cases hd:(ops[j]?).bind (·.dst)with
  |none=>simp
  |some d=>simp only[az1];have hr:=hS d;rw[ax6]at hr;grind[a1z,undef,b6h]
theorem c1i{n:St}{i:Nat}{Q:Exit->Act->World->Prop}{K:Act->World->Prop}(hc:CallsOk P call)(ho:ops[i]?=some o)(hR:StRel P base I J N L s a w M μ)
  (h:a0v P call ops o s=some n) (hK:∀p k,StOk P base I J N L n p k->K p k):wpOp P ops Q i K a w:=by
 unfold wpOp;rw[ho];unfold a0v at h;rw[c8y hR.slots]at h;simp only;by_cases hw:Region.wanted o (yielded ops a.tmps)=true
 .rw[ax3 hw]at h|-;simp only[az2]at h;obtain⟨⟨v,c⟩,hs,rfl⟩:=h;obtain⟨e1,e2,e⟩:=c4K hc hR hs;refine .inl (e _ _ λ u k q f k1 k0 k2 k3 k4 k5=>hK _ _ ⟨q,f,?_⟩);have hg:∀t,c.get t=s.get t:=λ t=>by grind[St.get]
  have l:Slots q f c.get a:=λ t=>by rw[hg t];exact(hR.slots t).mono k1 k2
  have hz:a.tmps.size=c.sz:=by rw[e2];exact hR.size
  have m:c.sz<=256:=by rw[e2];exact hR.small
  have b:∀(d:Option Tmp) (v:V),(a2H c d v).h=c.h/\(a2H c d v).nx=c.nx/\(a2H c d v).sz=c.sz:=by
   intro d v;cases d with
   |none=>exact⟨rfl,rfl,rfl⟩
   |some d=>simp only[a2H,St.put];grind
  obtain⟨x,y,j⟩:=b o.dst v;refine⟨Mem.le_trans hR.le k1,hR.fresh.trans k0,Pl.le_trans hR.ple k2,by grind,l.put k3 hz m,by grind,?_,?_,by grind⟩
  .cases o.dst<;>exact hR.defers
  .rw[j,<-hz];cases o.dst<;>simp[Act.put]
 .rw[ay9 hw]at h|-;cases h;refine hK _ _ ⟨M,μ,?_⟩;have b:∀(d:Option Tmp) (v:V),(a2H s d v).h=s.h/\(a2H s d v).nx=s.nx/\(a2H s d v).sz=s.sz:=by
   intro d v;cases d with
   |none=>exact⟨rfl,rfl,rfl⟩
   |some d=>simp only[a2H,St.put];grind
  obtain⟨x,y,j⟩:=b o.dst .und;refine⟨hR.le,hR.fresh,hR.ple,by rw[x];exact hR.inv,hR.slots.put .und hR.size hR.small,by rw[y];exact hR.new,?_,?_,by rw[j];exact hR.small⟩
  .cases o.dst<;>exact hR.defers
  .rw[j,<-hR.size];cases o.dst<;>simp[Act.put]
end
end
section
open Go.RowKit
def e0c:Ex->Exit->Prop
 | .normal,.normal=>True
 | .exit i,.exit j=>i=j
 | .ret,.ret=>True
 |_,_=>False
def d6i(P:Program)(base:Nat)(A:List Nat)(C:World)(B:Mem)(z:Pl)(x:Ex)(s:St)(e:Exit)(a:Act)(w:World):Prop:=
 e0c x e/\StOk P base A C B z s a w
section
variable {P:Program} {base:Nat} {A:List Nat} {C w:World} {M B:Mem} {μ z:Pl} {a:Act} {call:Calls}
theorem b1P(hc:CallsOk P call){ops:Array Oper}{d:St}:∀(l:List Oper) (k:Nat) (s:St) (a:Act) (w:World),ops.toList.drop k=l->a0I P call ops l s=some d->StOk P base A C B z s a w->
  wpOps P ops (d6i P base A C B z .normal d) (List.range' k l.length) a w
 |[],k,s,a,w,_,h,hR=>by
  simp only[a0I,az0]at h;subst h;exact⟨av5,hR⟩
 |o::l,k,s,a,w,hd,h,⟨M,μ,hR⟩=>by
  simp only[a0I]at h;split at h
  .cases h
  .next e hs=>
   have ho:ops[k]?=some o:=by
    have:(ops.toList.drop k)[0]?=some o:=by rw[hd];rfl
    simpa using this
   have b:ops.toList.drop (k+1)=l:=by
    have:=an8 (List.drop 1) hd;simpa[List.drop_drop,Nat.add_comm]using this
   show wpOps P ops _ (List.range' k (l.length+1)) a w;rw[List.range'_succ,wpOps_cons];exact c1i hc ho hR hs λ f g c=>b1P hc l (k+1) e f g b h c
def b5A(P:Program)(call:Calls):Prop:=∀{base:Nat} {A:List Nat} {C w:World} {B:Mem} {z:Pl} {a:Act} {id:Nat} {ops:Array Oper} {s b:St} {fs:List (List Nat×List Nat)},
 StOk P base A C B z s a w->a4g P call ops ops.toList s=some (fs,b)->a6F ops fs=true->(Code.region id ops true).wp P (d6i P base A C B z .normal b) a w
theorem c7F(hc:CallsOk P call)(v:b5A P call){n:Nat}:∀(c:Code) (s d:St) (x:Ex) (a:Act) (w:World),StOk P base A C B z s a w->a0e P call n c s=some (x,d)->
  c.wp P (d6i P base A C B z x d) a w:=by
 intro c;induction c with
 |skip=>intro s d x a w hR h;simp only[a0e,az0,az8]at h;obtain⟨rfl,rfl⟩:=h;exact wp_skip ⟨av5,hR⟩
 |label l=>intro s d x a w hR h;simp only[a0e,az0,az8]at h;obtain⟨rfl,rfl⟩:=h;exact wp_label ⟨av5,hR⟩
 |region id ops r=>
  intro s d x a w hR h;cases r with
  |false=>simp only[a0e,az2,az8]at h;obtain⟨g,hs,rfl,rfl⟩:=h;refine wp_region ?_;rw[List.range_eq_range'];exact b1P hc ops.toList 0 s a w rfl hs hR
  |true=>
   simp only[a0e]at h;split at h
   .cases h
   .next fs e hf=>
    split at h
    .next ha=>
     simp only[az0,az8]at h;obtain⟨rfl,rfl⟩:=h;exact v hR hf ha
    .cases h
 |seq c1 c2 f p=>
  intro s d x a w hR h;simp only[a0e]at h;split at h
  .next g h1=>
   refine wp_seq (wp_mono (f s g .normal a w hR h1) λ e k o hq=> ?_);obtain⟨he,b⟩:=hq;cases e<;>first|exact he.elim|exact p g d x k o b h
  .next u=>
   refine wp_seq (wp_mono (f s d x a w hR h) λ e k o hq=> ?_);obtain⟨he,b⟩:=hq;cases e with
   |normal=>
    cases x with
    |normal=>grind
    |exit i=>exact he.elim
    |ret=>exact he.elim
   |_=>exact⟨he,b⟩
 |cond q c1 c2 f p=>
  intro s d x a w hR h;simp only[a0e]at h;split at h
  .next t hq=>
   obtain⟨M,μ,hS⟩:=hR;have hv:=a1z (a0A hS.slots hq);refine wp_cond (t:=t) hv ?_;cases t with
   |true=>exact f s d x a w ⟨M,μ,hS⟩ h
   |false=>exact p s d x a w ⟨M,μ,hS⟩ h
  .cases h
 |block id c ih=>
  intro s d x a w hR h;simp only[a0e]at h;refine wp_block ?_;split at h
  .next j g h1=>
   simp only[az0,az8]at h;obtain⟨rfl,rfl⟩:=h;refine wp_mono (ih s g (.exit j) a w hR h1) λ e k o hq=> ?_;obtain⟨he,b⟩:=hq;cases e with
   |exit i=>
    have:j=i:=he;subst this;by_cases hj:j=id
    .subst hj;simp only[Exit.inBlock,aw4];exact⟨av5,b⟩
    .simp only[Exit.inBlock,ay9 hj];exact⟨rfl,b⟩
   |_=>exact he.elim
  .next u=>
   refine wp_mono (ih s d x a w hR h) λ e k o hq=> ?_;obtain⟨he,b⟩:=hq;cases e with
   |exit i=>
    cases x with
    |exit j=>grind
    |normal=>exact he.elim
    |ret=>exact he.elim
   |_=>exact⟨he,b⟩
 |loop c ih=>
  intro s d x a w hR h;refine wp_loop_rounds n ?_;have key:∀(m:Nat) (s:St) (a:Act) (w:World),StOk P base A C B z s a w->iter (a0e P call n c) m s=some (x,d)->Code.rounds P c (d6i P base A C B z x d) m a w:=by
   intro m;induction m with
   |zero=>grind[iter]
   |succ m y=>
    intro s a w hR h;simp only[iter]at h;rw[rounds_succ];split at h
    .next g h1=>
     refine wp_mono (ih s g .normal a w hR h1) λ e k o hq=> ?_;obtain⟨he,b⟩:=hq;cases e<;>first|exact he.elim|exact y g k o b h
    .next u=>
     refine wp_mono (ih s d x a w hR h) λ e k o hq=> ?_;obtain⟨he,b⟩:=hq;cases e with
     |normal=>
      cases x with
      |normal=>grind
      |exit i=>exact he.elim
      |ret=>exact he.elim
     |_=>exact⟨he,b⟩
  exact key n s a w hR (by grind[a0e])
 |scope c ih=>
  intro s d x a w hR h;simp only[a0e]at h;refine wp_scope_straight (wp_mono (ih s d x a w hR h) λ e k o hq=> ?_);obtain⟨he,b⟩:=hq;cases e with
  |goto l=>cases x<;>exact he.elim
  |_=>exact⟨he,b⟩
 |exit id=>intro s d x a w hR h;simp only[a0e,az0,az8]at h;obtain⟨rfl,rfl⟩:=h;exact wp_exit ⟨rfl,hR⟩
 |ret=>intro s d x a w hR h;simp only[a0e,az0,az8]at h;obtain⟨rfl,rfl⟩:=h;exact wp_ret ⟨av5,hR⟩
 |_=>grind[a0e]
end
end
section
open Go.RowKit
section
variable {P:Program} {base:Nat} {B:List Nat} {C w:World} {M E:Mem} {μ D:Pl} {g:G} {a:Act} {call:Calls}
variable {v:V}
theorem d2T(hI:Inv base B C M μ g w){t:Nat}{p:V}{u:Value}{cs:List V}(hp:RepV M μ p u)(c:a0E g p=some cs)(hv:a6x P t cs=some v):
  ∃A x,u= .pointer (some A)/\(loadVar t A).run P w= .ok x w/\RepV M μ v x:=by
 obtain⟨A,us,hA,hc,b⟩:=a7B hI hp c;refine⟨A,?_⟩;rcases a8t hv hc with⟨n,h1,h2,h3,h4⟩|⟨h2,u,h3,h4⟩
 .refine⟨_,hA,?_,h4⟩;have hl:=run_loadCells_list (P:=P) w A (us.take n) (λ j x hx=>by
   rw[av1]at hx;split at hx
   .grind
   .cases hx)
  rw[au7,au8 h3]at hl;simp[loadVar,a6z h2,a2n h1,hl]
 .refine⟨u,hA,?_,h4⟩;have:=b 0 u h3;have e:A.add 0=A:=by simp[Addr.add]
  rw[e]at this;simp[loadVar,a6z h2,load,Sem.run,this]
def c6K(P:Program)(s:St)(r:ResultVar):Option V:=match r with
 | .tmp t=>some (s.get t)
 | .cell a t=>do a6x P t (<-a0E (a0b s.h) (s.get a))
def c8S(c:Array Value)(r:ResultVar):Sem Value:=match r with
 | .tmp t=>pure (c.getD t undef)
 | .cell b t=>do loadVar t (<-asAddr (c.getD b undef))
theorem c0C(fn:Func)(b:Array Value):results fn b=(do let vs<-fn.results.mapM (c8S b);pure (if h:vs.size=1 then vs[0]else .tuple vs)):=by
 unfold results;rfl
theorem a8X{s:St}(hR:StRel P base B C E D s a w M μ):∀(l:List ResultVar) (vs:List V),a0D (c6K P s) l=some vs->
  ∃us:List Value,(l.mapM (m:=Sem) (c8S a.tmps)).run P w= .ok us w/\ListRep M μ vs us
 |[],vs,h=>by
  simp only[a0D,az0]at h;subst h;exact⟨[],by simp,rfl,λ j c u hc=>by simp at hc⟩
 |r::l,vs,h=>by
  simp only[a0D]at h;split at h
  .cases h
  .next v hv=>
   split at h
   .cases h
   .next e f=>
    cases h;obtain⟨us,h1,h2⟩:=a8X hR l e f;have d:∃u,(c8S a.tmps r).run P w= .ok u w/\RepV M μ v u:=by
     cases r with
     |tmp t=>simp only[c6K,az0]at hv;subst hv;exact⟨_,rfl,hR.slots t⟩
     |cell b t=>simp only[c6K,Az0,az3]at hv;obtain⟨cs,i,hv⟩:=hv;obtain⟨A,x,hA,hx,hr⟩:=d2T hR.inv (hR.slots b) i hv;refine⟨x,?_,hr⟩;simp only[c8S,hA,asAddr,Sem.run_bind,Sem.run_pure,Result.andThen,hx]
    obtain⟨u,hu,hr⟩:=d;refine⟨u::us,?_,by simp[h2.1],λ j c x hc hx=> ?_⟩
    .rw[List.mapM_cons];simp only[Sem.run_bind,hu,Result.andThen,h1,Sem.run_pure]
    .cases j with
     |zero=>simp at hc hx;subst hc;subst hx;exact hr
     |succ j=>exact h2.2 j c x (by grind) (by grind)
theorem ListRep.tup{vs:List V}{us:List Value}(h:ListRep M μ vs us):RepV M μ (.tup vs) (.tuple us.toArray):=
 .tup (by simpa using h.1) λ j c u hc hu=>h.2 j c u hc (by simpa using hu)
variable {fn:Func}
theorem c0j{s:St}(hR:StRel P base B C E D s a w M μ)(h:a0m P fn s=some v):∃u,(results fn a.tmps).run P w= .ok u w/\RepV M μ v u:=by
 have d:∃vs,a0D (c6K P s) fn.results.toList=some vs/\(match vs with|[v]=>some v|vs=>some (.tup vs))=some v:=by
  unfold a0m at h;simp only[Az0,az3]at h;exact h
 obtain⟨vs,c,hv⟩:=d;obtain⟨us,h1,h2⟩:=a8X hR _ _ c;have b:(results fn a.tmps).run P w= .ok (if h:us.toArray.size=1 then us.toArray[0]else .tuple us.toArray) w:=by
  rw[c0C,At2];simp only[Sem.run_bind,Sem.run_map,h1,Result.andThen,Sem.run_pure]
 match vs,us,h2,hv,b with
 |[x],[u],h2,hv,b=>
  injection hv with hv;subst hv
  exact⟨u,by simpa using b,h2.2 0 x u rfl rfl⟩
 |[],[],h2,hv,b=>
  injection hv with hv;subst hv
  exact⟨.tuple #[],by simpa using b,by simpa using h2.tup⟩
 |x::y::vs,u::e::us,h2,hv,b=>
  injection hv with hv;subst hv
  exact⟨.tuple (u::e::us).toArray,by grind,h2.tup⟩
 |[],_::_,h2,_,_=>exact absurd h2.1 (by simp)
 |[_],[],h2,_,_=>exact absurd h2.1 (by simp)
 |[_],_::_::_,h2,_,_=>exact absurd h2.1 (by simp)
 |_::_::_,[],h2,_,_=>exact absurd h2.1 (by simp)
 |_::_::_,[_],h2,_,_=>exact absurd h2.1 (by simp)
theorem a5h:∀(vs:List V) (i:Nat) (t:T) (j:Nat),i+vs.length<=256->j<256->T.get 8 (a0u vs i t) j=if i<=j/\j<i+vs.length then vs.getD (j-i) .und else T.get 8 t j
 |[],i,t,j,_,_=>by
  rw[ay9 (by grind)];rfl
 |v::vs,i,t,j,h,hj=>by
  simp only[a0u];rw[a5h vs (i+1) _ j (by grind) hj,T.get_put 8 t i j v (by grind) hj];by_cases e:j=i
  .grind
  .by_cases h1:i+1<=j/\j<i+1+vs.length
   .rw[ax3 h1,ax3 (by simp;omega),show j-i=(j-(i+1))+1 by omega];rfl
   .grind
variable {us:Array Value} {h:HP} {args:List V} {nx:Nat}
theorem c8h(hI:Inv base B C M μ (a0b h) w)(hn:∀i,nx<=i->μ i=none)(b:ListRep M μ args us.toList)(hs:max args.length fn.ntmps<=256):
  StRel P base B C M μ {env:=a0u args 0 .leaf,h:=h,nx:=nx,sz:=max args.length fn.ntmps} {tmps:=us++Array.replicate (fn.ntmps-us.size) undef,defers:=[]} w M μ:=by
 have hl:args.length=us.size:=by simpa using b.1
 refine⟨Mem.le_refl M,NewMem.refl,Pl.le_refl μ,hI,λ t=> ?_,hn,rfl,by simp;omega,hs⟩;show RepV M μ (St.get _ t) ((us++Array.replicate (fn.ntmps-us.size) undef).getD t undef);unfold St.get;by_cases ht:t<256
 .simp only[ax3 ht];rw[a5h args 0 .leaf t (by omega) ht];by_cases h1:t<args.length
  .rw[ax3 (by omega)];have e1:args.getD (t-0) .und=args[t]:=by simp[h1]
   have e2:(us++Array.replicate (fn.ntmps-us.size) undef).getD t undef=us[t]'(by omega):=by
    rw[ax6,Array.getElem?_append_left (by omega)];simp[show t<us.size by omega]
   rw[e1,e2];exact b.2 t _ _ (az5 h1) (by simp[show t<us.size by omega])
  .rw[ay9 (by omega)];have e2:(us++Array.replicate (fn.ntmps-us.size) undef).getD t undef=undef:=by
    rw[ax6,Au5 (by omega),At7];grind
   rw[e2];exact .und
 .simp only[ay9 ht];have e2:(us++Array.replicate (fn.ntmps-us.size) undef).getD t undef=undef:=by
   rw[ax6];by_cases h2:t<us.size
   .omega
   .rw[Au5 (by omega),At7];grind
  rw[e2];exact .und
theorem b8v(hc:CallsOk P call)(q:b5A P call){n k:Nat}{j:St}
  (hI:Inv base B C M μ (a0b h) w) (hn:∀i,nx<=i->μ i=none) (l:ListRep M μ args us.toList) (hb:a1j P call n k args h nx=some (v,j)):
  Go.Calls P k us w (Ret λ u m=>∃f b,M.le f/\NewMem base B M f/\μ.le b/\RepV f b v u/\Inv base B C f b (a0b j.h) m/\∀i,j.nx<=i->b i=none):=by
 unfold a1j at hb;simp only[Az0,az3]at hb;obtain⟨fn,s,hb⟩:=hb;split at hb
 .cases hb
 .next hs=>
  simp only[az3]at hb;obtain⟨c,t,⟨x,o⟩,he,hb⟩:=hb;have hR:=c8h (P:=P) (fn:=fn) hI hn l (by omega);have hw:=c7F hc q c _ o x _ w ⟨M,μ,hR⟩ he;refine calls_of_wp s t (wp_mono hw λ e z m hq=> ?_);obtain⟨hx,f,b,d⟩:=hq;have p:∀{x:Ex},(match x with| .exit _=>none|_=>(a0m P fn o).bind λ r=>some (r,o))=some (v,j)->z.defers=[]/\∃u,(results fn z.tmps).run P m= .ok u m/\∃f b,M.le f/\NewMem base B M f/\μ.le b/\RepV f b v u/\Inv base B C f b (a0b j.h) m/\∀i,j.nx<=i->b i=none:=by
   intro x hb;have:(a0m P fn o).bind (λ r=>some (r,o))=some (v,j):=by cases x<;>first|exact hb|cases hb
   simp only[az3,az0,az8]at this;obtain⟨r,hr,rfl,rfl⟩:=this;obtain⟨u,hu,y⟩:=c0j d hr;exact⟨d.defers,u,hu,f,b,d.le,d.fresh,d.ple,y,d.inv,d.new⟩
  cases x with
  |exit i=>simp at hb
  |normal=>cases e<;>first|exact hx.elim|exact p (x:= .normal) hb
  |ret=>cases e<;>first|exact hx.elim|exact p (x:= .ret) hb
end
end
end Go.PV
namespace Go.SN
section
open Go.PV
def b7d:AS->Nat->List (List Ce)->AS
 |a,_,[]=>a
 |a,i,l::r=>b7d {(a5l (a3L i) a l).2 with bx:=(i,.var (a5l (a3L i) a l).1)::(a5l (a3L i) a l).2.bx} (i+1) r
def b4p:AS->Nat->List AV->AS
 |a,_,[]=>a
 |a,i,v::r=>b4p (a.put i v) (i+1) r
def b9M(c:SumA)(sz:Nat):AS:=b4p (b7d {env:= .leaf,bx:=[],cs:=c.cs,n:=c.n,m:=c.boxes.length,sz:=sz} 0 c.boxes) 0 c.args
def d1X(e:AS):AV->Option (List AV)
 | .ptr nm off=>match a4U e nm with
   |some (.var l)=>some (l.drop off)
   |_=>none
 |_=>none
def c6j(e:AS)(b:AB):List (AS×AV):=match b with
 | .c _=>[(e,.bool b)]
 |_=>(match assume e b true with|some d=>[(d,.bool (.c true))]|none=>[])++(match assume e b false with|some d=>[(d,.bool (.c false))]|none=>[])
def c6i:AS->List AV->List (AS×List AV)
 |e,[]=>[(e,[])]
 |e,v::r=>(match v with| .bool b=>c6j e b|v=>[(e,v)]).flatMap fun(q:AS×AV)=>(c6i q.1 r).map fun(p:AS×List AV)=>(p.1,q.2::p.2)
def b8n(e:AS):AV->List (AS×AV)
 | .bool b=>c6j e b
 | .tup l=>(c6i e l).map λ q=>(q.1,.tup q.2)
 |v=>[(e,v)]
section
variable (P:Program)
def d6a(e:AS):ResultVar->Option AV
 | .tmp t=>some (e.get t)
 | .cell x t=>(d1X e (e.get x)).bind (c5g P t)
def a6t(fn:Func)(e:AS):Option AV:=match a0D (d6a P e) fn.results.toList with
 |some [v]=>some v
 |some vs=>some (.tup vs)
 |none=>none
def d4B(c:SumA):Sub:=⟨c.syms.map λ b=>(b,.sy b),[]⟩
def b4b(c:SumA)(e:AS)(h:Re)(bs:List (List Ce))(p:PostA):Bool:=
 if !decide (c.n<=p.n)then false else
 match d6T e p.n (d4B c) p.res h with
 |none=>false
 |some b=>match a9i (λ b=>a9i (c9A e p.n) b) b p.boxes bs with
  |none=>false
  |some b=>b.sy.all (λ q=>decide (c.n<=q.1.id)||decide (q.2= .sy q.1))&&(p.syms.all (λ f=>match a9e b f.id with|some (d,_)=>decide (f=d)|none=>false)&&
    p.cs.all λ g=>match a2Q b g with|some g'=>e.ent g'|none=>false)
def d7m(k:Nat)(c:SumA)(q:AS×AV):Bool:=match d6O k q.1 q.2 with
 |none=>false
 |some (d,kn,names)=>match b3N (b0y q.1) kn (List.range c.boxes.length)with
  |none=>false
  |some (bs,b)=>b.all (λ nm=> !names.contains nm)&&c.posts.any (b4b c q.1 d bs)
def d0E(k:Nat)(fn:Func)(c:SumA)(b:Ex×AS):Bool:=match b.1 with
 | .exit _=>false
 |_=>match a6t P fn b.2 with
  |none=>false
  |some v=>(b8n b.2 v).all (d7m k c)
def b4D(ctx:Nat->List SumA)(inl:Nat->Bool)(ir:Ir)(dr:Array Oper->AS->Option (List AS))(e:Nat->List Ann)(k:Nat)(c:SumA):Bool:=
 match P.funcs[k]? with
 |none=>false
 |some fn=>match fn.body with
  |none=>false
  |some b=>if max c.args.length fn.ntmps>256 then false else
   match a2d P ctx inl ir dr e 999 c.boxes.length b {b9M c (max c.args.length fn.ntmps)with lv:=c8S fn,nb:=c.n}with
   |none=>false
   |some d=>d.all (d0E P k fn c)
end
section
variable {P:Program} {a:AS} {Γ:Gm} {s:St}
theorem b1J{ρ:Nat->Int}{n nb:Nat}{s:St}(hs:s.h=[]):∀{ls:List (List Ce)} {bs:List (List V)} {i:Nat} {a:AS} {Γ:Gm} {us:HP} {nx:Nat},Ok a Γ (On s us nx)->Γ.ρ=ρ->Γ.n=n->(∀j,j<nb->Γ.ν j=j)->nb<=Γ.m->nb<=nx->(∀j,i<=j->j<nb->a0b us j=none)->i+ls.length<=nb->InBs Γ ls bs->
  ∃t,t.ρ=ρ/\t.n=n/\(∀j,j<nb->t.ν j=j)/\nb<=t.m/\Ok (b7d a i ls) t (On s (a0w i (us,nx) bs).1 (a0w i (us,nx) bs).2)
 |[],bs,i,a,Γ,us,nx,h,h1,h2,h3,h4,_,_,_,hb=>by
  have:bs=[]:=ay7.1 hb.1.symm;subst this;exact⟨Γ,h1,h2,h3,h4,h⟩
 |l::ls,[],_,_,_,_,_,_,_,_,_,_,_,_,_,hb=>by cases hb.1
 |l::ls,cs::bs,i,a,Γ,us,nx,h,h1,h2,h3,h4,h5,h6,h7,hb=>by
  have h0:=hb.2 0 l cs rfl rfl;have hi:i<nb:=by simp only[an0]at h7;omega
  obtain⟨f,y,e1,n1,k1,l1,r1,m1,o1,i1⟩:=b5Z (nm:=i) (id:=i) l cs a Γ s us nx h h0.1 λ j x c hx hc=>⟨h0.2 j x c hx hc,by omega,h3 i hi⟩;have e1:(PV.a0f (us,nx) cs).2.1=y++us:=e1;have n1:nx<=(PV.a0f (us,nx) cs).2.2:=n1;have o1:Ok (a5l (a3L i) a l).2 f (On s (PV.a0f (us,nx) cs).2.1 (PV.a0f (us,nx) cs).2.2):=o1;have i1:InL f (a5l (a3L i) a l).1 ((PV.a0f (us,nx) cs).1.map (a0H i)):=i1;have u:∀j,i<=j->j<nb->a0b (PV.a0f (us,nx) cs).2.1 j=none:=by
   intro j hj v;rw[e1];rw[b3o]
   .exact h6 j hj v
   .intro p hp e;have:=k1 p hp;omega
  have o:f.ν i=i:=by rw[l1.ν i (by omega)];exact h3 i hi
  have g:a0b ((PV.a0f (us,nx) cs).2.1++s.h) i=none:=by rw[hs,ap8];exact u i (ay3 _) hi
  obtain⟨l2,o2⟩:=o1.upd (bx:=(i,.var (a5l (a3L i) a l).1)::(a5l (a3L i) a l).2.bx) (us:=[(i,some (.var ((PV.a0f (us,nx) cs).1.map (a0H i))))]) (nx:=(PV.a0f (us,nx) cs).2.2) (m:=(a5l (a3L i) a l).2.m) (ν:=f.ν) (ay3 _) (λ _ _=>rfl) (ay3 _) (λ j A B=>by omega) (λ j k A B C D _=>by omega)
   (λ p hp=>by
    have:p=(i,some (.var ((PV.a0f (us,nx) cs).1.map (a0H i)))):=az7.1 hp;subst this;exact⟨.inr (.inl g),by show i<_;omega⟩)
   (λ p hp=>by
    rcases ay4.1 hp with rfl|hp
    .refine .inr ⟨by show i<(a5l (a3L i) a l).2.m;rw[<-o1.m];have:=l1.m;omega,.inr (by show a0b _ (f.ν i)=none;rw[o];exact g),.var ((PV.a0f (us,nx) cs).1.map (a0H i)),?_,.var i1⟩;show a0b _ (f.ν i)=_;rw[o];simp[a0b]
    .refine .inl ⟨hp,λ q hq e=> ?_⟩;have:q=(i,some (.var ((PV.a0f (us,nx) cs).1.map (a0H i)))):=az7.1 hq;subst this;obtain⟨_,b,d,_⟩:=o1.box p hp;have e:i=f.ν p.1:=e;rw[<-e,o1.g]at d;have d:a0b ((PV.a0f (us,nx) cs).2.1++s.h) i=some b:=d;rw[g]at d;cases d)
   (λ p hp q hq e=>by
    have key:∀r∈(a5l (a3L i) a l).2.bx,f.ν r.1≠i:=by
     intro r hr e;obtain⟨_,b,d,_⟩:=o1.box r hr;rw[e,o1.g]at d;have d:a0b ((PV.a0f (us,nx) cs).2.1++s.h) i=some b:=d;rw[g]at d;cases d
    rcases ay4.1 hp with rfl|hp<;>rcases ay4.1 hq with rfl|hq
    .rfl
    .exact absurd (e.symm.trans o) (key q hq)
    .exact absurd (e.trans o) (key p hp)
    .exact o1.inj p hp q hq e)
  have z:Ok {(a5l (a3L i) a l).2 with bx:=(i,.var (a5l (a3L i) a l).1)::(a5l (a3L i) a l).2.bx} _ (On s ((i,some (.var ((PV.a0f (us,nx) cs).1.map (a0H i))))::(PV.a0f (us,nx) cs).2.1) (PV.a0f (us,nx) cs).2.2):=o2;have w:=b1J (ρ:=ρ) (n:=n) (nb:=nb) hs (ls:=ls) (bs:=bs) (i:=i+1) z (r1.trans h1) (m1.trans h2) (λ j hj=>by show f.ν j=j;rw[l1.ν j (by omega)];exact h3 j hj) (by show nb<=(a5l (a3L i) a l).2.m;rw[<-o1.m];have:=l1.m;omega) (by omega)
   (λ j hj v=>by
    show a0b ((i,some (.var ((PV.a0f (us,nx) cs).1.map (a0H i))))::(PV.a0f (us,nx) cs).2.1) j=none;simp only[a0b];rw[ay9 (by omega)];exact u j (by omega) v) (by simp only[an0]at h7;omega) ⟨by simpa using hb.1,λ j x c hx hc=>((hb.2 (j+1) x c (by simpa using hx) (by simpa using hc)).mono l1).mono l2⟩
  exact w
theorem c5V(h:Ok a Γ s){b:AB}{v:V}(hv:In Γ (.bool b) v):∃q∈c6j a b,Ok q.1 Γ s/\In Γ q.2 v:=by
 cases hv with
 | @bool _ t b1 b2=>
   have gen:(∀x,b≠ .c x)->∃q∈c6j a b,Ok q.1 Γ s/\In Γ q.2 (.lit (.bool t)):=by
    intro f;have e:c6j a b=(match assume a b true with|some d=>[(d,.bool (.c true))]|none=>[])++(match assume a b false with|some d=>[(d,.bool (.c false))]|none=>[]):=by
     cases b<;>first|rfl|grind
    obtain⟨g,a1,a2⟩:=h.assume b1 b2;rw[e];cases t with
    |true=>rw[a1];exact⟨_,av4 _ (az7.2 rfl),a2,.bool av5 rfl⟩
    |false=>rw[a1];exact⟨_,aw2 _ (az7.2 rfl),a2,.bool av5 rfl⟩
   cases b with
   |c x=>exact⟨_,az7.2 rfl,h,.bool b1 b2⟩
   |_=>simp_all
theorem b5z:∀{l:List AV} {cs:List V} {a:AS},Ok a Γ s->InL Γ l cs->∃q∈c6i a l,Ok q.1 Γ s/\InL Γ q.2 cs
 |[],cs,a,h,hl=>⟨_,az7.2 rfl,h,hl⟩
 |v::l,[],_,_,hl=>by cases hl.1
 |v::l,c::cs,a,h,hl=>by
  have first:∃q∈(match v with| .bool b=>c6j a b|v=>[(a,v)]),Ok q.1 Γ s/\In Γ q.2 c:=by
   split
   .exact c5V h hl.tail.1
   .exact⟨_,az7.2 rfl,h,hl.tail.1⟩
  obtain⟨q,d,e,f⟩:=first
  obtain⟨p,g,i,j⟩:=b5z e hl.tail.2;exact⟨_,ax9.2 ⟨q,d,ax5.2 ⟨p,g,rfl⟩⟩,i,InL.cons f j⟩
theorem c5Q(h:Ok a Γ s){av:AV}{v:V}(hv:In Γ av v):∃q∈b8n a av,Ok q.1 Γ s/\In Γ q.2 v:=by
 unfold b8n;split
 .exact c5V h hv
 .cases hv with
  |tup h1 h2=>obtain⟨q,c,d,b⟩:=b5z h ⟨h1,h2⟩;exact⟨_,ax5.2 ⟨q,c,rfl⟩,d,.tup b.1 b.2⟩
 simp_all
theorem a8v:∀{args:List AV} {vs:List V} {i:Nat} {a:AS},Ok a Γ s->InL Γ args vs->(∀j v,vs[j]?=some v->s.get (i+j)=v)->Ok (b4p a i args) Γ s
 |[],_,_,_,h,_,_=>h
 |x::args,[],_,_,_,hl,_=>by cases hl.1
 |x::args,v::vs,i,a,h,hl,hg=>by
  refine a8v (args:=args) (vs:=vs) (i:=i+1) (h.refine ?_) hl.tail.2 (λ j w hw=>by
   rw[show i+1+j=i+(j+1)by omega];simp_all)
  have:=hg 0 v rfl;rw[ap1]at this;rw[this];exact hl.tail.1
theorem c4U{ρ:Nat->Int}{c:SumA}{asq:List V}{bs:List (List V)}{sz:Nat}(l:sz<=256)(r:asq.length<=sz)(hc:a2W ρ c.n c.cs)(ha:InL (GB ρ c.n c.boxes.length) c.args asq)(hb:InBs (GB ρ c.n 0) c.boxes bs):
  ∃Γ,Γ.ρ=ρ/\Γ.n=c.n/\(∀j,j<c.boxes.length->Γ.ν j=j)/\c.boxes.length<=Γ.m/\Ok (b9M c sz) Γ {env:=a0u asq 0 .leaf,h:=(a0w 0 ([],bs.length) bs).1,nx:=(a0w 0 ([],bs.length) bs).2,sz:=sz}:=by
 have o0:Ok {env:= .leaf,bx:=[],cs:=c.cs,n:=c.n,m:=c.boxes.length,sz:=sz} {ρ:=ρ,n:=c.n,ν:=λ i=>i,m:=c.boxes.length,nx:=bs.length,g:=a0b ([]++[]),N:=λ _=>False} (On {env:=a0u asq 0 .leaf,h:=[],nx:=0,sz:=sz} [] bs.length):=by
  refine⟨rfl,rfl,rfl,(λ i hi=>by have:=hb.1;show i<bs.length;have hi:i<c.boxes.length:=hi;omega),(λ i j _ _ e=>e),rfl,(λ id=>⟨False.elim,fun⟨p,hp,_⟩=>(by cases hp)⟩),rfl,l,(λ i=> ?_),hc,(λ p hp=>by cases hp),(λ p hp=>by cases hp),(λ _ _=>rfl)⟩;have:AS.get {env:= .leaf,bx:=[],cs:=c.cs,n:=c.n,m:=c.boxes.length,sz:=sz} i= .any:=by
   unfold AS.get;split<;>rfl
  rw[this];exact .any
 have o:InBs {ρ:=ρ,n:=c.n,ν:=λ i=>i,m:=c.boxes.length,nx:=bs.length,g:=a0b ([]++[]),N:=λ _=>False} c.boxes bs:=by
  refine⟨hb.1,λ j x v hx hv=> ?_⟩;have h1:=hb.2 j x v hx hv;refine⟨h1.1,λ k y w hy hw=> ?_⟩;have h2:=h1.2 k y w hy hw;cases h2 with
  |av t b=>exact .av t b
  |own b d f=>exact .own b d f
  |may0 b d f q=>exact .may0 b d f q
  |may1 b d f q=>exact .may1 b d f q
  |self=>exact .self
 obtain⟨Γ,r1,n1,v1,m1,o1⟩:=b1J (s:={env:=a0u asq 0 .leaf,h:=[],nx:=0,sz:=sz}) rfl (ls:=c.boxes) (bs:=bs) (i:=0) (nb:=c.boxes.length) o0 rfl rfl (λ _ _=>rfl) (ay3 _) (by rw[hb.1];exact ay3 _) (λ _ _ _=>rfl) (by simp) o;refine⟨Γ,r1,n1,v1,m1,?_⟩;have e:On {env:=a0u asq 0 .leaf,h:=[],nx:=0,sz:=sz} (a0w 0 ([],bs.length) bs).1 (a0w 0 ([],bs.length) bs).2={env:=a0u asq 0 .leaf,h:=(a0w 0 ([],bs.length) bs).1,nx:=(a0w 0 ([],bs.length) bs).2,sz:=sz}:=by
  simp only[On,ap8]
 rw[e]at o1;refine a8v o1 (InL.mono ⟨by rw[n1];exact ay3 _,m1,aw7 _,λ i _=>by rw[r1];rfl,λ i hi=>v1 i hi,λ i _ _=>aw7 _,Keeps.zero⟩ ha) λ j v hv=> ?_;have u:j<asq.length:=(ay0.1 hv).1;rw[as4];unfold St.get;rw[ax3 (by omega)];rw[a5h asq 0 .leaf j (by omega) (by omega),ax3 ⟨aw7 _,by omega⟩];simp[hv]
end
end
section
open Go.PV
section
variable {P:Program} {prim:Nat->Option Fp} {inl:Nat->Bool} {ctx:Nat->List SumA} {ir:Ir} {dr:Array Oper->AS->Option (List AS)} {ann:Nat->List Ann}
variable {a:AS} {Γ:Gm} {s:St}
theorem c6B(h:Ok a Γ s){av:AV}{v:V}{l:List AV}(hv:In Γ av v)(hl:d1X a av=some l):∃cs,a0E (a0b s.h) v=some cs/\InL Γ l cs:=by
 unfold d1X at hl;split at hl
 .split at hl
  .next l0 hb=>
   injection hl with hl
   subst hl;cases hv with
   |ptr h0=>
    obtain⟨_,b,c,d⟩:=h.box _ (a0N hb);cases d with
    | @var _ cs k1=>exact⟨_,by simp only[a0E,<-h.g,c],k1.drop _⟩
  .cases hl
 .cases hl
def d9k:List V->V
 |[v]=>v
 |vs=> .tup vs
def c6K(P:Program)(s:St):ResultVar->Option V
 | .tmp t=>some (s.get t)
 | .cell y t=>(a0E (a0b s.h) (s.get y)).bind (a6x P t)
theorem b8e(fn:Func)(s:St):a0m P fn s=(a0D (c6K P s) fn.results.toList).bind (λ vs=>some (d9k vs)):=by
 unfold a0m;simp only[Az0]
 congr 1
 .funext vs
  cases vs with
  |nil=>rfl
  |cons x l=>cases l<;>rfl
theorem b0S(h:Ok a Γ s){fn:Func}{av:AV}(hr:a6t P fn a=some av):∃v,a0m P fn s=some v/\In Γ av v:=by
 unfold a6t at hr;have b:∀(r:ResultVar) (x:AV),d6a P a r=some x->∃v,c6K P s r=some v/\In Γ x v:=by
  intro r x hx;cases r with
  |tmp t=>simp only[d6a,az0]at hx;subst hx;exact⟨_,rfl,h.env t⟩
  |cell y t=>simp only[d6a,az3]at hx;obtain⟨l,hl,hx⟩:=hx;obtain⟨cs,c1,c2⟩:=c6B h (h.env y) hl;obtain⟨v,v1,e⟩:=b6T c2 hx;exact⟨v,by grind[c6K],e⟩
 cases hm:a0D (d6a P a) fn.results.toList with
 |none=>grind
 |some l=>
  obtain⟨cs,c1,c2⟩:=b1s (Γ:=Γ) (g:=c6K P s) b hm;rw[hm]at hr;have hE:a0m P fn s=some (d9k cs):=by
   rw[b8e,c1];rfl
  rw[hE];cases l with
  |nil=>
   have:cs=[]:=ay7.1 c2.1.symm;subst this;injection hr with hr;subst hr
   exact⟨_,rfl,.tup c2.1 c2.2⟩
  |cons x l=>
   cases cs with
   |nil=>cases c2.1
   |cons c cs=>
    cases l with
    |nil=>
     cases cs with
     |cons=>have:=c2.1;simp at this
     |nil=>
      injection hr with hr;subst hr
      exact⟨c,rfl,c2.2 0 x c rfl rfl⟩
    |cons y l=>
     cases cs with
     |nil=>have:=c2.1;simp at this
     |cons d cs=>
      injection hr with hr;subst hr
      exact⟨_,rfl,.tup c2.1 c2.2⟩
theorem b7k{c:SumA}{e:AS}{z:Re}{bs:List (List Ce)}{p:PostA}{ρ:Nat->Int}{v:V}{bv:List (List V)}(h:Ok e Γ s)(m:∀i,i<c.n->Γ.ρ i=ρ i)(hn:c.n<=Γ.n)(hs:∀d∈c.syms,d.ok ρ c.n)(hv:InR Γ z v)(hb:InBs Γ bs bv)(hf:b4b c e z bs p=true):
  ∃ρ':Nat->Int,(∀i,i<c.n->ρ' i=ρ i)/\c.n<=p.n/\(∀d∈p.syms,d.ok ρ' p.n)/\a2W ρ' p.n p.cs/\InR (GB ρ' p.n 0) p.res v/\InBs (GB ρ' p.n 0) p.boxes bv:=by
 unfold b4b at hf;split at hf
 .cases hf
 next f=>
 have f:c.n<=p.n:=by simpa using f
 have n:OkS Γ.ρ Γ.n p.n (d4B c):=⟨λ q hq=>by
  obtain⟨d,k,rfl⟩:=ax5.1 hq;obtain⟨h1,h2,h3⟩:=hs d k;have e:Γ.ρ d.id=ρ d.id:=m _ h1;refine⟨a9r ⟨aw9 h1 hn,by grind,by grind⟩,aw9 h1 f,by grind[a6w],by grind[a6w]⟩,rfl⟩
 split at hf
 .cases hf
 next A h1=>
 split at hf
 .cases hf
 next b h2=>
 simp only[az6]at hf;obtain⟨hid,l,o⟩:=hf;obtain⟨f1,B,r⟩:=d1n (a:=e) h.cons n h1 hv.gb;obtain⟨f2,t,u⟩:=b9q (a:=e) h.cons f1 h2 hb.gb;refine⟨ρOf b Γ.ρ,λ i hi=> ?_,f,λ d k=> ?_,λ g hg=> ?_,r b t f2,u b Ext.refl f2⟩
 .unfold ρOf;cases j:a9e b i with
  |none=>grind
  |some q=>
   obtain⟨m1,m2⟩:=a3O j;have:=ay5.1 hid q m1;simp only[ay8,ay2]at this;rcases this with h0|h0
   .omega
   .grind[a6w]
 .have:=ay5.1 l d k;split at this
  .next w C j=>
   have e1:d=w:=by simpa using this
   subst e1;obtain⟨m1,_⟩:=a3O j;obtain⟨_,k2,k3,k4⟩:=f2.sy _ m1;have hr:ρOf b Γ.ρ d.id=C.ev Γ.ρ:=by unfold ρOf;rw[j]
   exact⟨k2,by grind,by grind⟩
  .cases this
 .have:=ay5.1 o g hg;split at this
  .next g' x=>
   obtain⟨k1,k2,k3⟩:=a4a (f2.sub (nb:=0) 0 0) x;have y:g'.ev Γ.ρ=g.ev (ρOf b Γ.ρ):=k2;exact⟨k3,by rw[<-y];exact h.ent k1 this⟩
  .cases this
theorem c4x(hc:a9d P prim inl ctx)(hi:d4i P prim inl ir)(hd:d6j P prim inl dr){k:Nat}{c:SumA}(hp:prim k=none)(h:b4D P ctx inl ir dr ann k c=true):a1p (λ N=>(Lv P prim inl N).cbv) k c:=by
 intro ρ asq bs A B has g;unfold b4D at h;split at h
 .cases h
 next fn C=>
 split at h
 .cases h
 next l d=>
 split at h
 .cases h
 next T=>
 split at h
 .cases h
 next m e=>
 have D:asq.length=c.args.length:=has.1.symm;have n:max c.args.length fn.ntmps<=256:=by omega
 obtain⟨Γ,r1,n1,v1,m1,o1⟩:=c4U (sz:=max c.args.length fn.ntmps) n (by grind) B has g;have l0:(Γ.cut Γ.n c.boxes.length).le Γ:=⟨ay3 _,by show c.boxes.length<=_;omega,aw7 _,λ _ _=>rfl,λ _ _=>rfl,λ _ _ _=>aw7 _,Keeps.refl⟩;obtain⟨N,x,z,e1,p,U,Q,b,l2,o2⟩:=b9X hc hi hd l 999 c.boxes.length _ (Γ.cut Γ.n c.boxes.length) Γ _ m rfl rfl l0 o1.lv e;have V:Γ.n<=b.n:=l2.n;have W:c.boxes.length<=b.m:=l2.m;have o:∀i,i<c.boxes.length->b.ν i=Γ.ν i:=l2.ν;have R:∀i,i<Γ.n->b.ρ i=Γ.ρ i:=l2.ρ;have q:=ay5.1 h p U;unfold d0E at q;obtain⟨px,pe⟩:=p;simp only at Q;subst Q;have X:(∀j,px≠ .exit j)->(match a6t P fn pe with
   |none=>false
   |some v=>(b8n pe v).all (d7m k c))=true->
   ∃N v r,(Lv P prim inl N).cbv k asq bs=some (v,r)/\∃p∈c.posts,∃ρ':Nat->Int,(∀i,i<c.n->ρ' i=ρ i)/\c.n<=p.n/\(∀Y∈p.syms,Y.ok ρ' p.n)/\a2W ρ' p.n p.cs/\InR (GB ρ' p.n 0) p.res v/\InBs (GB ρ' p.n 0) p.boxes r:=by
  intro hx hm;split at hm
  .cases hm
  next Z E=>
  obtain⟨v,w1,F⟩:=b0S o2 E;obtain⟨⟨pe,rv⟩,s1,o2,w2⟩:=c5Q o2 F;have hm:=ay5.1 hm _ s1;unfold d7m at hm;split at hm
  .cases hm
  next re kn names G=>
  split at hm
  .cases hm
  next bA H I=>
  rw[az6]at hm;obtain⟨p,J,t⟩:=ar4.1 hm.2;obtain⟨S,u,a1,a2,a3,a4⟩:=d0T o2 w2 G;have K:Nms b (List.range c.boxes.length):=λ j hj=>by
   grind
  obtain⟨bv,L,b1,b2,b3,b4⟩:=a8x o2 (ms:=u) K a3 I;have w:(List.range c.boxes.length).map b.ν=List.range bs.length:=by
   rw[<-g.1]
   conv=>rhs;rw[<-List.map_id (List.range c.boxes.length)]
   refine Az8 λ j hj=> ?_;have hj:=aq2.1 hj;rw[o j (by omega),v1 j hj];rfl
  rw[w]at b1;have f:a1u (a0b z.h) L (H.map b.ν)=true:=c3i o2 (names:=names) b3 (λ id hid=>by
   rcases b4 id hid with h1|h1
   .rcases a4 id h1 with h2|h2;all_goals grind
   .exact .inl h1) hm.1
  have M:∀i,i<c.n->b.ρ i=ρ i:=λ i hi=>by grind
  have hn:c.n<=b.n:=by omega
  obtain⟨ρ',q1,q2,q3,q4,q5,q6⟩:=b7k o2 M hn A a2 b2 t;refine⟨N+1,S,bv,?_,p,J,ρ',q1,q2,q3,q4,q5,q6⟩;have y:a1j P (Lv P prim inl N) N k asq (a0w 0 ([],bs.length) bs).1 (a0w 0 ([],bs.length) bs).2=some (v,z):=by
   unfold a1j;simp only[C,Az0,az1,d];rw[ay9 (by grind)];simp only[D,e1,az1];cases px with
   |exit j=>grind
   |normal=>grind
   |ret=>grind
  show(a0d P prim inl (N+1)).cbv k asq bs=_;simp only[a0d,hp,Az0];rw[show(a0d P prim inl N)=Lv P prim inl N from rfl,y];have O:a5t k (a0b z.h) z.nx v=some (S,u,kn.map b.ν):=a1;simp only[az1,O,b1,f,aq4,ay6,av8];rfl
 grind
end
end
section
open Go.PV
section
variable (P:Program) (ctx:Nat->List SumA) (inl:Nat->Bool) (dr:Array Oper->AS->Option (List AS)) (H:Nat->Nat->List Ann)
def d6X(fn:Func)(a:AS)(b:Ex×AS):R:=match b.1 with
 | .exit _=>none
 |_=>(a6t P fn b.2).map λ v=>[(v,{b.2 with env:=a.env,sz:=a.sz,lv:=a.lv,nb:=a.nb})]
def irL:Nat->Ir
 |0=>λ _ _ _=>none
 |d+1=>λ k args a=>if inl k then match P.funcs[k]? with
  |none=>none
  |some fn=>match fn.body with
   |none=>none
   |some b=>if max args.length fn.ntmps>256 then none else
    match a2d P ctx inl (irL d) dr (H k) 999 a.m b {b4p {a with env:= .leaf,sz:=max args.length fn.ntmps} 0 args with lv:=c8S fn,nb:=a.n}with
    |none=>none
    |some c=>a1f (d6X P fn a) c
  else none
end
section
variable {P:Program} {prim:Nat->Option Fp} {inl:Nat->Bool} {ctx:Nat->List SumA} {dr:Array Oper->AS->Option (List AS)} {H:Nat->Nat->List Ann}
theorem d5V(hc:a9d P prim inl ctx)(hd:d6j P prim inl dr):∀(d:Nat),d4i P prim inl (irL P ctx inl dr H d):=by
 intro d;induction d with
 |zero=>intro k args a Γ s vs t _ _ hr;cases hr
 |succ d ih=>
  intro k args a Γ s vs t h hv hr;simp only[irL]at hr;split at hr
  .next hk=>
   split at hr
   .cases hr
   next fn A=>
   split at hr
   .cases hr
   next e n=>
   split at hr
   .cases hr
   next B=>
   split at hr
   .cases hr
   next g c=>
   have C:vs.length=args.length:=hv.1.symm;have l:max args.length fn.ntmps<=256:=by omega
   have o0:Ok {a with env:= .leaf,sz:=max args.length fn.ntmps} Γ {env:=a0u vs 0 .leaf,h:=s.h,nx:=s.nx,sz:=max args.length fn.ntmps}:=by
    refine⟨h.n,h.m,h.nxe,h.νlt,h.νinj,h.g,h.N,rfl,l,λ i=> ?_,h.cons,h.box,h.inj,h.nx⟩;have:AS.get {a with env:= .leaf,sz:=max args.length fn.ntmps} i= .any:=by
     unfold AS.get;split<;>rfl
    rw[this];exact .any
   have o1:=a8v (args:=args) (vs:=vs) (i:=0) o0 hv (λ j v hj=>by
    have D:j<vs.length:=(ay0.1 hj).1;rw[as4];unfold St.get;rw[ax3 (by omega)];rw[a5h vs 0 .leaf j (by omega) (by omega),ax3 ⟨aw7 _,by omega⟩];grind)
   obtain⟨N,x,u,e1,p,E,y,b,l2,o2⟩:=b9X hc ih hd e 999 a.m _ Γ.base Γ _ g rfl h.m c1d o1.lv c;obtain⟨w,o,F⟩:=a2x hr p E;obtain⟨px,pe⟩:=p;simp only at y;subst y;have m:(∀j,px≠ .exit j)->(a6t P fn pe).map (λ v=>[(v,{pe with env:=a.env,sz:=a.sz,lv:=a.lv,nb:=a.nb})])=some w->∃N f v z nx',(Lv P prim inl N).inl k=some f/\f vs s.h s.nx=some (v,z,nx')/\∃p∈t,∃b,Γ.base.le b/\In b p.1 v/\Ok p.2 b {s with h:=z,nx:=nx'}:=by
    intro hx hw;simp only[az2]at hw;obtain⟨av,q,rfl⟩:=hw;obtain⟨v,v1,G⟩:=b0S o2 q;refine⟨N+1,λ args h nx=>(a1j P (a0d P prim inl N) N k args h nx).map λ r=>(r.1,r.2.h,r.2.nx),v,u.h,u.nx,?_,?_,_,F _ (az7.2 rfl),b,l2,G,?_⟩
    .simp_all[a0d]
    .show(a1j P (a0d P prim inl N) N k vs s.h s.nx).map _=_;unfold a1j;simp_all
    .exact⟨o2.n,o2.m,o2.nxe,o2.νlt,o2.νinj,o2.g,o2.N,h.sz,h.small,λ i=>(h.env i).base.mono l2,o2.cons,o2.box,o2.inj,o2.nx⟩
   cases px with
   |exit j=>cases o
   |normal=>exact m (nofun) o
   |ret=>exact m (nofun) o
  .cases hr
end
end
end Go.SN
namespace Go.PV
section
open Go.RowKit
theorem a1C{S A B:Type}{f:S->A->Option (B×S)}{le:S->S->Prop}(hr:∀s,le s s)(ht:∀{a b c},le a b->le b c->le a c)(hf:∀s a b d,f s a=some (b,d)->le s d):
  ∀{l:List A} {s d:S} {r:List B},a0G f s l=some (r,d)->le s d/\r.length=l.length/\
   ∀(j:Nat) (a:A) (b:B),l[j]?=some a->r[j]?=some b->∃e i,f e a=some (b,i)/\le s e/\le i d
 |[],s,d,r,h=>by
  simp only[a0G,az0,az8]at h;grind
 |a::l,s,d,r,h=>by
  simp only[a0G]at h;split at h
  .cases h
  .next b e h1=>
   split at h
   .cases h
   .next bs i h2=>
    simp only[az0,az8]at h;obtain⟨rfl,rfl⟩:=h;obtain⟨k1,k2,k3⟩:=a1C hr ht hf h2;grind
theorem a1a(l:List Nat):l⊆l:=λ _ h=>h
theorem a3N{g:G}:∀(d:Nat) (ms:List Nat) (v i:V) (c:List Nat),a0C d g ms v=some (i,c)->ms⊆c
 |0,_,_,_,_,h=>by simp[a0C]at h
 |d+1,ms,v,i,c,h=>by
  have hm:∀{l:List V} {e f:List Nat} {r:List V},a0G (a0C d g) e l=some (r,f)->e⊆f:=
   λ h=>(a1C (le:=λ a b:List Nat=>a⊆b) a1a (λ a b=>aw3 a b) (a3N d) h).1
  cases v with
  |lit u=>grind[a0C]
  |nils=>grind[a0C]
  |sl o xs=>grind[a0C]
  |slf xs=>grind[a0C]
  |agg cs=>grind[a0C]
  |tup cs=>grind[a0C]
  |row id sz off n=>grind[a0C]
  |_=>simp[a0C]at h
section
variable {P:Program} {base:Nat} {pts:List Nat} {w0 w:World} {M M0:Mem} {μ μ0:Pl} {g:G} {a:Act} {call:Calls}
open Classical in
noncomputable def ext(M:Mem)(μ:Pl)(g:G)(w:World)(ms:List Nat):Mem:=λ b o=>match M b o with
 |some u=>some u
 |none=>if∃id ty sz xs f cap,id∈ms/\g id=some (.row ty sz xs f)/\μ id=some (b,cap)/\o<xs.length*sz then w.cell? ⟨b,o,none⟩else none
variable {ms:List Nat}
theorem a8H:M.le (ext M μ g w ms):=λ b o u h=>by unfold ext;rw[h]
theorem c2M(hI:Inv base pts w0 M μ g w)(b o:Nat)(u:Value)(h:ext M μ g w ms b o=some u):w.cell? ⟨b,o,none⟩=some u:=by
 unfold ext at h;cases hM:M b o with
 |some x=>
  rw[hM]at h;injection h with h;subst h
  exact hI.mem b o x hM
 |none=>simp_all
theorem d5d(hI:Inv base pts w0 M μ g w){id ty sz b cap o:Nat}{xs:List V}{f:Bool}{u:Value}(hid:id∈ms)(hg:g id=some (.row ty sz xs f))(hp:μ id=some (b,cap))(ho:o<xs.length*sz)
  (hu:w.cell? ⟨b,o,none⟩=some u):ext M μ g w ms b o=some u:=by
 unfold ext;cases hM:M b o with
 |some x=>have:=hI.mem b o x hM;grind
 |none=>simp only;rw[ax3 ⟨id,ty,sz,xs,f,cap,hid,hg,hp,ho⟩];exact hu
variable {d:Nat} {x:V}
theorem a2M{e:List Nat}{r:V}(h:a0C d g ms x=some (r,e)):r.cells.length=x.cells.length/\(a0r x=true->a0r r=true)/\
  ∀(j:Nat) (i:V),r.cells[j]?=some i->∃c d1 p f,x.cells[j]?=some c/\d1<=d/\a0C d1 g p c=some (i,f)/\f⊆e:=by
 cases d with
 |zero=>simp[a0C]at h
 |succ d=>
  have single:∀{y k:V},a0C (d+1) g ms y=some (k,e)->y.cells=[y]->k.cells=[k]->a0r k=true->k.cells.length=y.cells.length/\(a0r y=true->a0r k=true)/\
    ∀(j:Nat) (i:V),k.cells[j]?=some i->∃c d1 p f,y.cells[j]?=some c/\d1<=d+1/\a0C d1 g p c=some (i,f)/\f⊆e:=by
   intro y k hy e1 e2 e3;refine⟨by grind,λ _=>e3,λ j i hc=> ?_⟩;rw[e2]at hc;cases j with
   |zero=>simp at hc;subst hc;exact⟨y,d+1,ms,e,by grind,ay3 _,hy,a1a _⟩
   |succ j=>simp at hc
  cases x with
  |lit u=>have h0:=h;simp only[a0C,az0,az8]at h;obtain⟨rfl,rfl⟩:=h;exact single h0 rfl rfl rfl
  |nils=>have h0:=h;simp only[a0C,az0,az8]at h;obtain⟨rfl,rfl⟩:=h;exact single h0 rfl rfl rfl
  |sl o xs=>have h0:=h;simp only[a0C,az0,az8]at h;obtain⟨rfl,rfl⟩:=h;exact single h0 rfl rfl rfl
  |slf xs=>have h0:=h;simp only[a0C,az0,az8]at h;obtain⟨rfl,rfl⟩:=h;exact single h0 rfl rfl rfl
  |row id sz off n=>
   have h0:=h;simp only[a0C]at h;split at h
   .split at h
    .split at h
     .cases h;exact single h0 rfl rfl rfl
     .cases h
    .cases h
   .cases h
  |agg cs=>
   simp only[a0C]at h;split at h
   .next l m hl=>
    simp only[az0,az8]at h;obtain⟨rfl,rfl⟩:=h;obtain⟨k1,k2,k3⟩:=a1C (le:=λ a b:List Nat=>a⊆b) a1a (λ a b=>aw3 a b) (a3N d) hl;refine⟨k2,λ hc=>by simp[a0r]at hc,λ j i hc=> ?_⟩;have q:j<cs.length:=by rw[<-k2];exact(ay0.1 hc).1
    obtain⟨s,t,v,A,z⟩:=k3 j cs[j] i (az5 q) hc;exact⟨cs[j],d,s,t,az5 q,by omega,v,z⟩
   .cases h
  |tup cs=>
   simp only[a0C]at h;split at h
   .next l m hl=>
    have h0:=h;simp only[az0,az8]at h;obtain⟨rfl,rfl⟩:=h;refine⟨rfl,λ hc=>by simp[a0r]at hc,λ j i hc=> ?_⟩;cases j with
    |zero=>simp[V.cells]at hc;subst hc;exact⟨.tup cs,d+1,ms,m,rfl,ay3 _,by simp[a0C,hl],a1a _⟩
    |succ j=>simp[V.cells]at hc
   .cases h
  |_=>simp[a0C]at h
theorem b9c{b:List Nat}{f:V}(h:a0C d g ms x=some (f,b))(hf:x.fit=true):f.fit=true:=by
 obtain⟨_,_,k3⟩:=a2M h;simp only[V.fit,ay5]at hf|-;intro i e;obtain⟨j,hj⟩:=List.getElem?_of_mem e;obtain⟨c,d1,k,l,h1,_,h3,_⟩:=k3 j i hj;exact(a2M h3).2.1 (hf c (ax4 h1))
theorem b4n(hI:Inv base pts w0 M μ g w):∀(d:Nat) (ms H msF:List Nat) (v R:V) (u:Value),a0C d g ms v=some (R,H)->H⊆msF->RepV M μ v u->Rep (ext M μ g w msF) R u:=by
 intro d;induction d using Nat.strongRecOn with
 |_ d ih=>
  intro ms H msF v R u h hF hr;cases d with
  |zero=>simp[a0C]at h
  |succ d=>
   cases v with
   |lit x=>simp only[a0C,az0,az8]at h;obtain⟨rfl,rfl⟩:=h;cases hr with|rep hr=>exact hr.mono a8H
   |nils=>simp only[a0C,az0,az8]at h;obtain⟨rfl,rfl⟩:=h;cases hr with|rep hr=>exact hr.mono a8H
   |sl o xs=>simp only[a0C,az0,az8]at h;obtain⟨rfl,rfl⟩:=h;cases hr with|rep hr=>exact c9g (hr.mono a8H)
   |slf xs=>simp only[a0C,az0,az8]at h;obtain⟨rfl,rfl⟩:=h;obtain⟨A,_,_,hr⟩:=a9C hr;exact hr.mono a8H
   |agg cs=>
    simp only[a0C]at h;split at h
    .next l m hl=>
     have hx:a0C (d+1) g ms (.agg cs)=some (.agg l,m):=by simp[a0C,hl]
     simp only[az0,az8]at h;obtain⟨rfl,rfl⟩:=h;obtain⟨us,rfl,h1,h2,h3⟩:=b3l hr;obtain⟨k1,k2,k3⟩:=a1C (le:=λ a b:List Nat=>a⊆b) a1a (λ a b=>aw3 a b) (a3N d) hl;refine .agg (by rw[k2];simpa using h1) ?_ ?_
     .intro c hc;obtain⟨j,hj⟩:=List.getElem?_of_mem hc;have k:j<cs.length:=by rw[<-k2];exact(ay0.1 hj).1
      obtain⟨s,q,t,_,_⟩:=k3 j cs[j] c (az5 k) hj;exact(a2M t).2.1 (h2 _ (au2 k))
     .intro j c x hc hx;have k:j<cs.length:=by rw[<-k2];exact(ay0.1 hc).1
      obtain⟨s,q,t,_,I⟩:=k3 j cs[j] c (az5 k) hc;exact ih d (by omega) s q msF _ _ _ t (aw3 I hF) (h3 j cs[j] x (az5 k) (by simpa using hx))
    .cases h
   |tup cs=>
    simp only[a0C]at h;split at h
    .next l m hl=>
     simp only[az0,az8]at h;obtain⟨rfl,rfl⟩:=h;obtain⟨k1,k2,k3⟩:=a1C (le:=λ a b:List Nat=>a⊆b) a1a (λ a b=>aw3 a b) (a3N d) hl;have:∃us:Array Value,u= .tuple us/\cs.length=us.size/\∀(j:Nat) (c:V) (x:Value),cs[j]?=some c->us[j]?=some x->RepV M μ c x:=by
      cases hr with
      |tup h1 h2=>exact⟨_,rfl,h1,h2⟩
      |rep hr=>cases hr with|tup h1 h2=>exact⟨_,rfl,h1,λ j c x a b=> .rep (h2 j c x a b)⟩
     obtain⟨us,rfl,h1,h3⟩:=this;refine .tup (by rw[k2];exact h1) ?_;intro j c x hc hx;have k:j<cs.length:=by rw[<-k2];exact(ay0.1 hc).1
     obtain⟨s,q,t,_,I⟩:=k3 j cs[j] c (az5 k) hc;exact ih d (by omega) s q msF _ _ _ t (aw3 I hF) (h3 j cs[j] x (az5 k) hx)
    .cases h
   |row id sz off n=>
    simp only[a0C]at h;split at h
    .next ty z xs f hg=>
     split at h
     .next hc=>
      obtain⟨rfl,X⟩:=hc;split at h
      .next l m hl=>
       simp only[az0,az8]at h;obtain⟨rfl,rfl⟩:=h;obtain⟨k1,k2,k3⟩:=a1C (le:=λ a b:List Nat=>a⊆b) a1a (λ a b=>aw3 a b) (a3N d) hl;obtain⟨b,cap,rfl,hp,U⟩:=b3u hr;obtain⟨⟨B,hb,Y,W,Z,p1,F,D⟩,_⟩:=hI.at_ hg hp;have G:l.length=n:=by rw[k2];simp;omega
       have hid:id∈msF:=hF (k1 (ay1 ..));have a0b:∀(i:Nat) (p:V),l[i]?=some p->∃x s q,xs[off+i]?=some x/\a0C d g s x=some (p,q)/\q⊆m:=by
        intro i p hi;have k:i<n:=by rw[<-G];exact(ay0.1 hi).1
        have hx:((xs.drop off).take n)[i]?=some (xs[off+i]'(by omega)):=by
         rw[av1,ax3 k,at5,az5 (show off+i<xs.length by omega)]
        obtain⟨s,q,t,_,I⟩:=k3 i _ p hx hi;exact⟨_,s,q,az5 (by omega),t,I⟩
       have L:=Rep.sl (M:=ext M μ g w msF) (own:=none) (xs:=l) (A:=⟨b,off*z,none⟩) (sz:=z) (cap:=cap-off) (λ i j=>B[(off+i)*z+j]!)
        (by omega) rfl (λ p S=>by
         obtain⟨i,hi⟩:=List.getElem?_of_mem S;obtain⟨x,s,q,hx,t,_⟩:=a0b i p hi;obtain⟨e1,e2⟩:=F x (ax4 hx);exact⟨by rw[(a2M t).1,e1],b9c t e2⟩)
       have r:∀(i:Nat) (p:V) (j:Nat) (E:V),l[i]?=some p->p.cells[j]?=some E->∃c d1 s q,d1<=d/\a0C d1 g s c=some (E,q)/\q⊆m/\
         (off+i)*z+j<xs.length*z/\B[(off+i)*z+j]?=some B[(off+i)*z+j]!/\RepV M μ c B[(off+i)*z+j]! :=by
        intro i p j E hi hj;obtain⟨x,s,q,hx,t,I⟩:=a0b i p hi;obtain⟨_,_,T⟩:=a2M t;obtain⟨c,d1,t1,t2,N,O,J,C⟩:=T j E hj;obtain⟨y,hy,K⟩:=D (off+i) x j c hx N;have p2:j<z:=by rw[<-(F x (ax4 hx)).1];exact(ay0.1 N).1
        have k:=(ay0.1 hx).1;have Q:=aw8 z (show off+i+1<=xs.length from k);rw[ar2]at Q;have e:B[(off+i)*z+j]! =y:=by rw[Array.getElem!_eq_getD,ax6,hy];rfl
        exact⟨c,d1,t1,t2,O,J,aw3 C I,by omega,by rw[e];exact hy,by rw[e];exact K⟩
       rw[G]at L;refine L (λ i p j E hi hj=> ?_) (λ i p j E hi hj=> ?_)
       .obtain⟨c,d1,t1,t2,_,_,_,k,hy,_⟩:=r i p j E hi hj;have he:off*z+(i*z+j)=(off+i)*z+j:=by rw[ar2];omega
        show ext M μ g w msF b (off*z+(i*z+j))=_;rw[he];exact d5d hI hid hg hp k (by rw[a3z hb];exact hy)
       .obtain⟨c,d1,t1,t2,O,J,C,_,_,K⟩:=r i p j E hi hj;exact ih d1 (by omega) t1 t2 msF c E _ J (aw3 C hF) K
      .cases h
     .cases h
    .cases h
   |_=>simp[a0C]at h
end
end
section
open Go.RowKit
section
variable {P:Program} {base:Nat} {H:List Nat} {I w:World} {M K M2:Mem} {μ J:Pl} {g:G} {a:Act} {call:Calls}
def b2D(M2:Mem)(μ:Pl)(g:G)(w:World)(id:Nat)(x:Box):Prop:=
 ∃b cap ty sz xs c f,μ id=some (b,cap)/\g id=some (.row ty sz xs f)/\x= .row ty sz c f/\c.length=xs.length/\∀d,BoxAt M2 d w b cap x
inductive OutC (M2:Mem) (μ:Pl) (g:G) (w:World):Option (Nat×Box)->V->Value->Prop
 |data {c:V} {u:Value}:Rep M2 c u->(∀s nx,a0J (s,nx) c=(c,s,nx))->OutC M2 μ g w none c u
 |dp {A:Addr}:A.spot=none->OutC M2 μ g w none (.dptr []) (.pointer (some A))
 |own {id b cap ty sz:Nat} {xs:List V} {f:Bool}:b2D M2 μ g w id (.row ty sz xs f)->μ id=some (b,cap)->xs.length<=cap->
   OutC M2 μ g w (some (id,.row ty sz xs f)) (.sl (some (ty,sz,f)) xs) (.slice (some ⟨b,0,none⟩) xs.length cap)
variable {ms:List Nat} {c v:V}
theorem c0H{d:Nat}{b:List Nat}(h:a0C d g ms v=some (c,b))(s:HP)(nx:Nat):a0J (s,nx) c=(c,s,nx):=by
 cases d with
 |zero=>simp[a0C]at h
 |succ d=>
  cases v with
  |lit u=>simp only[a0C,az0,az8]at h;obtain⟨rfl,_⟩:=h;rfl
  |nils=>simp only[a0C,az0,az8]at h;obtain⟨rfl,_⟩:=h;rfl
  |sl o xs=>simp only[a0C,az0,az8]at h;obtain⟨rfl,_⟩:=h;rfl
  |slf xs=>simp only[a0C,az0,az8]at h;obtain⟨rfl,_⟩:=h;rfl
  |agg cs=>
   simp only[a0C]at h;split at h
   .simp only[az0,az8]at h;obtain⟨rfl,_⟩:=h;rfl
   .cases h
  |tup cs=>
   simp only[a0C]at h;split at h
   .simp only[az0,az8]at h;obtain⟨rfl,_⟩:=h;rfl
   .cases h
  |row id sz off n=>
   simp only[a0C]at h;split at h
   .split at h
    .split at h
     .simp only[az0,az8]at h;obtain⟨rfl,_⟩:=h;rfl
     .cases h
    .cases h
   .cases h
  |_=>simp[a0C]at h
variable {msF:List Nat}
theorem d1I(hI:Inv base H I M μ g w){id ty sz b cap:Nat}{xs l:List V}{f:Bool}{e:List Nat}(hg:g id=some (.row ty sz xs f))(hp:μ id=some (b,cap))
  (hl:a0G (a0C ED g) ms xs=some (l,e)) (hF:e⊆msF):b2D (ext M μ g w msF) μ g w id (.row ty sz l f):=by
 obtain⟨k1,k2,k3⟩:=a1C (le:=λ a b:List Nat=>a⊆b) a1a (λ a b=>aw3 a b) (a3N ED) hl;obtain⟨⟨q,hb,r,k,E,s,C,d⟩,_⟩:=hI.at_ hg hp;have a0b:∀(i:Nat) (h:V),l[i]?=some h->∃x p m,xs[i]?=some x/\a0C ED g p x=some (h,m)/\m⊆e:=by
  intro i h hi;have n:i<xs.length:=by rw[<-k2];exact(ay0.1 hi).1
  obtain⟨p,m,t,_,u⟩:=k3 i _ h (az5 n) hi;exact⟨_,p,m,az5 n,t,u⟩
 refine⟨b,cap,ty,sz,xs,l,f,hp,hg,rfl,k2,λ F=>⟨q,hb,r,k,by omega,s,λ h G=> ?_,λ i h j D hi hj=> ?_⟩⟩
 .grind[List.getElem?_of_mem,a2M,b9c]
 .obtain⟨x,p,m,hx,t,u⟩:=a0b i h hi;obtain⟨_,_,v⟩:=a2M t;obtain⟨c,d1,t1,t2,z,_,A,o⟩:=v j D hj;obtain⟨y,hy,B⟩:=d i x j c hx z;exact⟨y,hy,.rep (b4n hI d1 t1 t2 msF c D y A (aw3 o (aw3 u hF)) B)⟩
def a2y(o:Option (Nat×Box)):List Nat:=match o with|some p=>[p.1]|none=>[]
variable {u:Value}
theorem d0A(h:RepV M μ (.dptr []) u):∃A:Addr,u= .pointer (some A)/\A.spot=none:=by
 cases h with
 |rep h=>cases h
 |dptr us h1=>exact⟨_,rfl,h1⟩
theorem b1T(hI:Inv base H I M μ g w){s i:List Nat×List Nat}(h:a0h g s v=some (c,i))(hF:i.1⊆msF)(hr:RepV M μ v u):
  ∃o,OutC (ext M μ g w msF) μ g w o c u/\(a0r v=true->a0r c=true)/\s.1⊆i.1/\i.2=a2y o++s.2/\∀x∈a2y o,x∉s.2:=by
 obtain⟨ms,ks⟩:=s;have dat:∀{c:V} {d:List Nat},a0C ED g ms v=some (c,d)->d⊆msF->OutC (ext M μ g w msF) μ g w none c u/\(a0r v=true->a0r c=true)/\ms⊆d:=λ he hs=>
  ⟨.data (b4n hI ED _ _ msF v _ u he hs hr) (c0H he),(a2M he).2.1,a3N ED _ _ _ _ he⟩
 have k:(match a0C ED g ms v with
   |some (v,ms)=>some (v,ms,ks)
   |none=>none)=some (c,i)->∃o,OutC (ext M μ g w msF) μ g w o c u/\(a0r v=true->a0r c=true)/\ms⊆i.1/\i.2=a2y o++ks/\∀x∈a2y o,x∉ks:=by
  intro h;split at h
  .next p d he=>
   simp only[az0,az8]at h;obtain⟨rfl,rfl⟩:=h;obtain⟨h1,h2,h3⟩:=dat he hF;exact⟨none,h1,h2,h3,rfl,λ x hx=>by simp[a2y]at hx⟩
  .cases h
 unfold a0h at h;split at h
 .next id sz off n=>
  split at h
  .next ty z xs f hg=>
   split at h
   .next e=>
    simp only[ax2]at e;obtain⟨rfl,rfl,rfl,j⟩:=e;split at h
    .next l d hl=>
     simp only[az0,az8]at h;obtain⟨rfl,rfl⟩:=h;obtain⟨b,cap,rfl,hp,m⟩:=b3u hr;obtain⟨k1,k2,_⟩:=a1C (le:=λ a b:List Nat=>a⊆b) a1a (λ a b=>aw3 a b) (a3N ED) hl;have ho:=OutC.own (d1I hI hg hp hl hF) hp (by grind);rw[k2]at ho;refine⟨_,by simpa using ho,λ _=>rfl,k1,rfl,λ x hx=> ?_⟩;simp[a2y]at hx;subst hx;simpa using j
    .cases h
   .grind
  .cases h
 .simp only[az0,az8]at h;obtain⟨rfl,rfl⟩:=h;obtain⟨A,rfl,hA⟩:=d0A hr;exact⟨none,.dp hA,λ _=>rfl,a1a _,rfl,λ x hx=>by simp[a2y]at hx⟩
 .grind
theorem a6M(hI:Inv base H I M μ g w){msF:List Nat}:∀{cs l:List V} {us:List Value} {s b:List Nat×List Nat},a0G (a0h g) s cs=some (l,b)->b.1⊆msF->CellsRep M μ cs us->
  ∃os:List (Option (Nat×Box)),os.length=l.length/\l.length=us.length/\(∀c∈l,a0r c=true)/\(∀(j:Nat) (o:Option (Nat×Box)) (c:V) (u:Value),os[j]?=some o->l[j]?=some c->us[j]?=some u->OutC (ext M μ g w msF) μ g w o c u)/\
   s.1⊆b.1/\b.2=(os.flatMap a2y).reverse++s.2/\(s.2.Nodup->b.2.Nodup)
 |[],l,us,s,b,h,_,hc=>by
  simp only[a0G,az0,az8]at h;obtain⟨rfl,rfl⟩:=h;have:us=[]:=aw6 hc.1.symm;subst this;exact⟨[],rfl,rfl,λ c hc=>by simp at hc,λ j o c u h=>by simp at h,a1a _,rfl,λ h=>h⟩
 |v::cs,l,us,s,b,h,hF,hc=>by
  simp only[a0G]at h;split at h
  .cases h
  .next c q h1=>
   split at h
   .cases h
   .next l2 r h2=>
    simp only[az0,az8]at h;obtain⟨rfl,rfl⟩:=h
    match us,hc with
    |[],hc=>exact absurd hc.1 (by simp)
    |u::us,hc=>
     have d:CellsRep M μ cs us:=⟨by simpa using hc.1,λ c h=>hc.2.1 c (az9 _ h),λ j c u h1 h2=>hc.2.2 (j+1) c u (by grind) (by grind)⟩;obtain⟨os,e1,e2,e0,e3,e4,e5,e6⟩:=a6M hI h2 hF d;obtain⟨o,t,f,n,k,x⟩:=b1T hI h1 (aw3 e4 hF) (hc.2.2 0 v u rfl rfl);have f:=f (hc.2.1 v (ay1 ..));refine⟨o::os,by simp[e1],by simp[e2],λ m i=>(ay4.1 i).elim (λ e=>e▸f) (e0 m),λ j y m z k1 k2 k3=> ?_,aw3 n e4,?_,λ hn=>e6 ?_⟩
     .cases j with
      |zero=>grind
      |succ j=>grind
     .rw[e5,k];cases o<;>simp[a2y]
     .rw[k];cases o with
      |none=>grind[a2y]
      |some p=>grind[a2y]
structure Bring (M2:Mem) (μ:Pl) (g:G) (w:World) (L:List (Nat×Box)) (h:HP) (nx:Nat) (h2:HP) (nx2:Nat):Prop where
 num:nx2=nx+L.length
 get:∀i,a0b h2 i=if nx<=i/\i<nx2 then(L[i-nx]?).map (·.2)else a0b h i
 rows:∀p∈L,b2D M2 μ g w p.1 p.2
variable {h:HP} {nx:Nat}
theorem Bring.nil:Bring M2 μ g w [] h nx h nx:=⟨rfl,λ i=>by rw[ay9 (by omega)],λ p hp=>by simp at hp⟩
variable {L L':List (Nat×Box)}
theorem Bring.trans{h1 h2:HP}{c nx2:Nat}(a:Bring M2 μ g w L h nx h1 c)(b:Bring M2 μ g w L' h1 c h2 nx2):Bring M2 μ g w (L++L') h nx h2 nx2:=by
 refine⟨by rw[b.num,a.num];simp;omega,λ i=> ?_,λ p hp=>(ax1.1 hp).elim (a.rows p) (b.rows p)⟩;have e1:=a.num;have e2:=b.num;rw[b.get,a.get];by_cases h1:c<=i/\i<nx2
 .grind
 .grind
def Placed(μ b:Pl)(L:List (Nat×Box))(nx:Nat):Prop:=∀(j:Nat) (p:Nat×Box),L[j]?=some p->b (nx+j)=μ p.1
variable {b:Pl}
theorem Placed.left(h:Placed μ b (L++L') nx):Placed μ b L nx:=λ j p hj=>
 h j p (by grind)
theorem Placed.right(h:Placed μ b (L++L') nx):Placed μ b L' (nx+L.length):=λ j p hj=>by
 have:=h (L.length+j) p (by grind);grind
theorem b4F{o:Option (Nat×Box)}(hc:OutC M2 μ g w o c u):
  ∃L,L.map (·.1)=a2y o/\Bring M2 μ g w L h nx (a0J (h,nx) c).2.1 (a0J (h,nx) c).2.2/\∀d,Placed μ d L nx->RepV M2 d (a0J (h,nx) c).1 u/\(a0r c=true->a0r (a0J (h,nx) c).1=true):=by
 cases hc with
 |data h1 h3=>rw[h3];exact⟨[],rfl,.nil,λ d _=>⟨.rep h1,λ h=>h⟩⟩
 |dp hA=>exact⟨[],rfl,.nil,λ d _=>⟨.dptr (λ _=>undef) hA (λ j c hc=>by simp at hc) (λ j c hc=>by simp at hc) (λ c hc=>by simp at hc),λ h=>h⟩⟩
 |own h1 h2 h3=>
  rename_i id b cap ty sz xs f;refine⟨[(id,.row ty sz xs f)],rfl,⟨rfl,λ i=> ?_,λ p hp=>by grind⟩,λ d k=>⟨?_,λ _=>rfl⟩⟩
  .show a0b ((nx,some (.row ty sz xs f))::h) i=_;simp only[a0b];by_cases e:i=nx
   .grind[a0J]
   .rw[ay9 e,ay9 (by grind[a0J])]
  .have hp:=k 0 _ rfl;simp only[ap1]at hp;rw[h2]at hp;have:=RepV.row (M:=M2) (μ:=d) (sz:=sz) (off:=0) (n:=xs.length) hp (by omega);grind[a0J]
theorem a6r:∀{l:List V} {us:List Value} {os:List (Option (Nat×Box))} {h:HP} {nx:Nat},os.length=l.length->l.length=us.length->(∀c∈l,a0r c=true)->
  (∀(j:Nat) (o:Option (Nat×Box)) (c:V) (u:Value),os[j]?=some o->l[j]?=some c->us[j]?=some u->OutC M2 μ g w o c u)->
  ∃L,L.map (·.1)=os.flatMap a2y/\Bring M2 μ g w L h nx (a0f (h,nx) l).2.1 (a0f (h,nx) l).2.2/\∀b,Placed μ b L nx->CellsRep M2 b (a0f (h,nx) l).1 us
 |[],us,os,h,nx,h1,h2,_,_=>by
  have:us=[]:=aw6 h2.symm;subst this;have:os=[]:=aw6 h1;subst this;exact⟨[],rfl,.nil,λ b _=>⟨rfl,λ c hc=>by simp[a0f]at hc,λ j c u hc=>by grind⟩⟩
 |c::l,us,os,h,nx,h1,h2,h0,h3=>by
  match us,os,h1,h2,h3 with
  |[],_,_,h2,_=>grind
  |_::_,[],h1,_,_=>grind
  |u::us,o::os,h1,h2,h3=>
   obtain⟨d,a1,a2,a3⟩:=b4F (h:=h) (nx:=nx) (h3 0 o c u rfl rfl rfl);obtain⟨e,b1,b2,b3⟩:=a6r (h:=(a0J (h,nx) c).2.1) (nx:=(a0J (h,nx) c).2.2) (os:=os) (by grind) (by simpa using h2) (λ c hc=>h0 c (az9 _ hc))
    (λ j o c u k1 k2 k3=>h3 (j+1) o c u (by grind) (by grind) (by grind))
   refine⟨d++e,by grind,a2.trans b2,λ b hp=> ?_⟩;obtain⟨c1,c2⟩:=a3 b hp.left;have hc:=b3 b (by rw[a2.num];exact hp.right);refine⟨by simp[a0f,hc.1],λ x hx=> ?_,λ j x y hx hy=> ?_⟩
   .rcases ay4.1 hx with rfl|hx
    .exact c2 (h0 c (ay1 ..))
    .exact hc.2.1 x hx
   .cases j with
    |zero=>grind[a0f]
    |succ j=>exact hc.2.2 j x y (by grind[a0f]) (by grind)
end
end
end Go.PV
