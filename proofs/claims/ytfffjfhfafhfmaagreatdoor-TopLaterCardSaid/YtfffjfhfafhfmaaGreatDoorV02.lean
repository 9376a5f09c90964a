/- A part of the proofs of the statements TopLater and TopShadowed: for every input the laws return true. -/
import Derived.Test.YtfffjfhfafhfmaaGreatDoorV00
import Derived.Test.YtfffjfhfafhfmaaGreatDoorV01
import Derived.Orders
import Derived.Test.YtfffjfhfafhfmaaGreatDoorProg
import Derived.Shelf.Small.Strs
import Derived.Shelf.Strings.Search3
import Derived.Shelf.Strings.Cut
import Derived.Shelf.Strings.Split
import Derived.Shelf.Strings.Replace
import Derived.Shelf.Strings.OnBuilder
import Derived.Shelf.Strings.IndexAnyAll
import Derived.Shelf.Strings.Trim
import Derived.Shelf.Strings.FieldsFuncAny
import Derived.KernelRfl
import Derived.WalkSmall
import Derived.Lib.SplitLaws
import Derived.WalkKit
import Derived.WalkSpells
import Derived.WalkLawsBesides
import Derived.Lib.Hide
import Derived.Lib.FieldsP
set_option linter.all false
namespace Go.PV
section
open Go.RowKit
section
variable {P:Program} {base:Nat} {C:List Nat} {D w:World} {M H M2:Mem} {μ F B:Pl} {g:G} {a:Act} {call:Calls}
def ArgLe(s b:List Nat×List Nat):Prop:=s.1⊆b.1/\s.2<+:b.2/\(s.2.Nodup->b.2.Nodup)
theorem ArgLe.refl(s:List Nat×List Nat):ArgLe s s:=⟨a1a _,Av8 _,λ h=>h⟩
theorem ArgLe.trans{a b c:List Nat×List Nat}(h:ArgLe a b)(k:ArgLe b c):ArgLe a c:=⟨aw3 h.1 k.1,Ay9 h.2.1 k.2.1,λ x=>k.2.2 (h.2.2 x)⟩
theorem a6f{g:G}:∀(d:Nat) (s:List Nat×List Nat) (v c:V) (e:List Nat×List Nat),a1y d g s v=some (c,e)->ArgLe s e
 |0,_,_,_,_,h=>by simp[a1y]at h
 |d+1,(ms,ps),v,c,e,h=>by
  have hm:∀{l r:List V} {i j:List Nat×List Nat},a0G (a1y d g) i l=some (r,j)->ArgLe i j:=
   λ h=>(a1C (le:=ArgLe) ArgLe.refl ArgLe.trans (a6f d) h).1
  have dat:(match a0C ED g ms v with
    |some (v,ms)=>some (v,ms,ps)
    |none=>none)=some (c,e)->ArgLe (ms,ps) e:=by
   intro h;split at h
   .next m k he=>
    simp only[az0,az8]at h;obtain⟨_,rfl⟩:=h;exact⟨a3N ED _ _ _ _ he,Av8 _,λ h=>h⟩
   .cases h
  simp only[a1y]at h;split at h
  .next id off=>
   split at h
   .cases h
   .split at h
    .simp only[az0,az8]at h;obtain⟨_,rfl⟩:=h;exact ArgLe.refl _
    .next hn=>
     simp only[az0,az8]at h;obtain⟨_,rfl⟩:=h;refine⟨a1a _,List.prefix_append _ _,λ hd=> ?_⟩;have:id∉ps:=by simpa[List.idxOf?_eq_none_iff]using hn
     exact Av4.2 ⟨hd,by simp,λ a ha b hb=>by simp at hb;subst hb;rintro rfl;exact this ha⟩
  .next f x y=>
   split at h
   .cases h
   .next l i h1=>
    split at h
    .cases h
    .next l2 j h2=>
     simp only[az0,az8]at h;obtain⟨_,rfl⟩:=h;exact(hm h1).trans (hm h2)
  .exact dat h
def c4i(μ B:Pl)(ps:List Nat):Prop:=∀(j id:Nat),ps[j]?=some id->B j=μ id
variable {id:Nat}
theorem b2g{l l':List Nat}{j:Nat}(h:l<+:l')(hj:l[j]?=some id):l'[j]?=some id:=by
 obtain⟨t,rfl⟩:=h;grind
variable {u:Value}
theorem c8I{off:Nat}(h:RepV M μ (.ptr id off) u):∃b cap,μ id=some (b,cap)/\u= .pointer (some ⟨b,off,none⟩):=by
 cases h with
 |rep h=>cases h
 |ptr h=>exact⟨_,_,h,rfl⟩
theorem b8l(hI:Inv base C D M μ g w){msF psF:List Nat}(hP:c4i μ B psF):∀(d:Nat) (s i:List Nat×List Nat) (v c:V) (u:Value),a1y d g s v=some (c,i)->i.1⊆msF->i.2<+:psF->
  RepV M μ v u->RepV (ext M μ g w msF) B c u
 |0,_,_,_,_,_,h,_,_,_=>by simp[a1y]at h
 |d+1,(ms,ps),i,v,c,u,h,hF,hQ,hr=>by
  have e:∀{l r:List V} {o k:List Nat×List Nat} {us:List Value},a0G (a1y d g) o l=some (r,k)->k.1⊆msF->k.2<+:psF->ListRep M μ l us->ListRep (ext M μ g w msF) B r us:=by
   intro l r o k us hm h1 h2 hl;obtain⟨_,k2,k3⟩:=a1C (le:=ArgLe) ArgLe.refl ArgLe.trans (a6f d) hm;refine⟨by rw[k2];exact hl.1,λ j x y hx hy=> ?_⟩;have m:j<l.length:=by rw[<-k2];exact(ay0.1 hx).1
   obtain⟨t1,t2,t,_,q⟩:=k3 j l[j] x (az5 m) hx;exact b8l hI hP d t1 t2 l[j] x y t (aw3 q.1 h1) (Ay9 q.2.1 h2) (hl.2 j l[j] y (az5 m) hy)
  have dat:(match a0C ED g ms v with
    |some (v,ms)=>some (v,ms,ps)
    |none=>none)=some (c,i)->RepV (ext M μ g w msF) B c u:=by
   intro h;split at h
   .next A z he=>
    simp only[az0,az8]at h;obtain⟨rfl,rfl⟩:=h;exact .rep (b4n hI ED _ _ msF v _ u he hF hr)
   .cases h
  simp only[a1y]at h;split at h
  .next id off=>
   split at h
   .cases h
   .next h0=>
    have h0:off=0:=by simpa using h0
    subst h0;obtain⟨b,cap,hp,rfl⟩:=c8I hr;split at h
    .next j hj=>
     simp only[az0,az8]at h;obtain⟨rfl,rfl⟩:=h;have p:ps[j]?=some id:=by
      obtain⟨h1,h2,_⟩:=At9.1 hj;rw[az5 h1,h2]
     exact .ptr (by rw[hP j id (b2g hQ p)];exact hp)
    .simp only[az0,az8]at h;obtain⟨rfl,rfl⟩:=h;exact .ptr (by rw[hP ps.length id (b2g hQ (by simp))];exact hp)
  .next f x y=>
   split at h
   .cases h
   .next l o h1=>
    split at h
    .cases h
    .next l2 k h2=>
     simp only[az0,az8]at h;obtain⟨rfl,rfl⟩:=h;obtain⟨X,Y,rfl,hX,hY⟩:=b2J hr;have n:=(a1C (le:=ArgLe) ArgLe.refl ArgLe.trans (a6f d) h2).1;have r1:=e h1 (aw3 n.1 hF) (Ay9 n.2.1 hQ) hX;have r2:=e h2 hF hQ hY;exact .fn (by simpa using r1.1) (by simpa using r2.1) (λ j c u a b=>r1.2 j c u a (by simpa using b)) (λ j c u a b=>r2.2 j c u a (by simpa using b))
  .exact dat h
variable {msF:List Nat} {s:List Nat×List Nat} {l:List V} {us:List Value}
theorem d1c(hI:Inv base C D M μ g w){psF:List Nat}(hP:c4i μ B psF){c:List Nat×List Nat}{r:List V}(h:a0G (a1y 4 g) s l=some (r,c))(hF:c.1⊆msF)(hQ:c.2<+:psF)
  (hl:ListRep M μ l us):ListRep (ext M μ g w msF) B r us:=by
 obtain⟨_,k2,k3⟩:=a1C (le:=ArgLe) ArgLe.refl ArgLe.trans (a6f 4) h;refine⟨by rw[k2];exact hl.1,λ j x y hx hy=> ?_⟩;have b:j<l.length:=by rw[<-k2];exact(ay0.1 hx).1
 obtain⟨t1,t2,e,_,d⟩:=k3 j l[j] x (az5 b) hx;exact b8l hI hP 4 t1 t2 l[j] x y e (aw3 d.1 hF) (Ay9 d.2.1 hQ) (hl.2 j l[j] y (az5 b) hy)
def a7h(M2:Mem)(μ:Pl)(g:G)(w:World)(id:Nat)(l:List V)(os:List (Option (Nat×Box))):Prop:=
 ∃b cap T d,μ id=some (b,cap)/\(∃cs,g id=some (.var cs))/\w.heap[b]?=some (.cells d T (0,0))/\os.length=l.length/\l.length=d.toList.length/\(∀c∈l,a0r c=true)/\
  (∀(j:Nat) (o:Option (Nat×Box)) (c:V) (u:Value),os[j]?=some o->l[j]?=some c->d.toList[j]?=some u->OutC M2 μ g w o c u)/\
  (∀(j:Nat) (u:Value),l[j]?=some (.dptr [])->d.toList[j]?=some u->u= .pointer (some ⟨b,0,none⟩))/\(bk l=true->T=bT)
theorem b7p(h:bk l=true):∃c,l=[.lit (.pointer none),c]:=by
 unfold bk at h;split at h
 .next c d=>
  unfold a4Z at h;split at h
  .exact⟨d,rfl⟩
  .cases h
 .cases h
variable {v:V}
theorem c4w{s:HP×Nat}(h:(a0J s v).1= .lit (.pointer none)):v= .lit (.pointer none):=by
 unfold a0J at h;split at h
 .cases h
 .exact h
variable {i:Nat}
theorem c3b(h:a0H i v= .lit (.pointer none)):v= .lit (.pointer none):=by
 unfold a0H at h;split at h
 .cases h
 .exact h
theorem c0d(h:a0S i v= .lit (.pointer none)):v= .lit (.pointer none):=by
 unfold a0S at h;split at h
 .split at h
  .cases h
  .cases h
 .exact h
theorem d3G{h:HP}{nx:Nat}{b:List V}(hb:bk ((a0f (h,nx) b).1.map (a0H i))=true):bk b=true:=by
 obtain⟨c,hc⟩:=b7p hb
 match b,hc with
 |[x,y],hc=>simp only[a0f,av2,Az2]at hc;have:=c4w (c3b hc.1);subst this;rfl
 |[],hc=>simp[a0f]at hc
 |[x],hc=>simp[a0f]at hc
 |x::y::z::l,hc=>simp[a0f]at hc
variable {E:List Nat×List Nat}
theorem c1j{g:G}(h:a0h g s v=some (.dptr [],E)):v= .dptr []:=by
 have no:∀{d:Nat} {ms ms':List Nat} {v:V},a0C d g ms v=some (.dptr [],ms')->False:=by
  intro d ms ms' v h;cases d with
  |zero=>simp[a0C]at h
  |succ d=>cases v<;>simp only[a0C]at h<;>(try cases h)<;>(repeat' split at h)<;>(try cases h)
 have datE:∀{v:V},(match a0C ED g s.1 v with
   |some (v,ms)=>some (v,ms,s.2)
   |none=>none)=some (.dptr [],E)->False:=by
  intro v h;split at h
  .next he=>
   simp only[az0,az8]at h;obtain⟨rfl,_⟩:=h;exact no he
  .cases h
 unfold a0h at h;split at h
 .split at h
  .split at h
   .split at h
    .simp at h
    .cases h
   .exact(datE h).elim
  .cases h
 .rfl
 .exact(datE h).elim
theorem c1u{g:G}(h:a0h g s v=some (.lit (.pointer none),E)):v= .lit (.pointer none):=by
 have no:∀{d:Nat} {ms ms':List Nat} {v:V},a0C d g ms v=some (.lit (.pointer none),ms')->v= .lit (.pointer none):=by
  intro d ms ms' v h;cases d with
  |zero=>simp[a0C]at h
  |succ d=>cases v<;>simp only[a0C]at h<;>(try cases h)<;>(repeat' split at h)<;>(try cases h)<;>rfl
 have datE:∀{v:V},(match a0C ED g s.1 v with
   |some (v,ms)=>some (v,ms,s.2)
   |none=>none)=some (.lit (.pointer none),E)->v= .lit (.pointer none):=by
  intro v h;split at h
  .next he=>
   simp only[az0,az8]at h;obtain⟨rfl,_⟩:=h;exact no he
  .cases h
 unfold a0h at h;split at h
 .split at h
  .split at h
   .split at h
    .simp at h
    .cases h
   .have:=datE h;cases this
  .cases h
 .simp at h
 .exact datE h
theorem d4G{g:G}{b:List Nat×List Nat}{cs:List V}(h:a0G (a0h g) s (cs.map (a0S id))=some (l,b))(hb:bk l=true):bk cs=true:=by
 obtain⟨_,k2,k3⟩:=a1C (le:=λ _ _:List Nat×List Nat=>True) (λ _=>av5) (λ _ _=>av5) (λ _ _ _ _ _=>av5) h;obtain⟨c,rfl⟩:=b7p hb;rw[ap3]at k2
 match cs,k2 with
 |[x,y],_=>obtain⟨t1,t2,d,_,_⟩:=k3 0 (a0S id x) _ rfl rfl;have:=c0d (c1u d);subst this;rfl
theorem c1A(h:a6J v=false)(e:a0S id v= .dptr []):v= .ptr id 0:=by
 unfold a0S at e;split at e
 .grind
 grind[a6J]
theorem b7D(h:RepV M μ v u):RepV M μ (a0S id v) u:=by
 unfold a0S;split
 .split
  .cases h with
   |rep h=>cases h
   |ptr h=>exact .dptr (λ _=>undef) rfl (λ j c hc=>by simp at hc) (λ j c hc=>by simp at hc) (λ c hc=>by simp at hc)
  .exact h
 .exact h
theorem c0J(h:a0r v=true):a0r (a0S id v)=true:=by
 unfold a0S;split
 .split<;>rfl
 .exact h
theorem c4Y(hI:Inv base C D M μ g w){i:List Nat×List Nat}(h:a1x g s id=some (l,i))(hF:i.1⊆msF):
  ∃os,a7h (ext M μ g w msF) μ g w id l os/\s.1⊆i.1/\i.2=(os.flatMap a2y).reverse++s.2/\(s.2.Nodup->i.2.Nodup):=by
 unfold a1x at h;split at h
 .next cs hg=>
  obtain⟨b,cap,hp⟩:=hI.pl hg;obtain⟨⟨T,k,hb,hc,m⟩,_⟩:=hI.at_ hg hp;split at h
  .cases h
  next d=>
  have d:∀c∈cs,a6J c=false:=λ c hc=>by
   cases hd:a6J c with
   |false=>rfl
   |true=>exact absurd (ar4.2 ⟨c,hc,hd⟩) d
  have n:CellsRep M μ (cs.map (a0S id)) k.toList:=⟨by rw[ap3];exact hc.1,λ c h=>by
   obtain⟨y,hy,rfl⟩:=ax5.1 h;exact c0J (hc.2.1 y hy),λ j c u h1 h2=>by
   rw[au3,az2]at h1;obtain⟨y,hy,rfl⟩:=h1;exact b7D (hc.2.2 j y u hy h2)⟩
  obtain⟨os,e1,e2,e0,e3,e4,e5,e6⟩:=a6M hI h hF n;refine⟨os,⟨b,cap,T,k,hp,⟨cs,hg⟩,hb,e1,e2,e0,e3,λ j u hj hu=> ?_,λ hl=>m (d4G h hl)⟩,e4,e5,e6⟩;obtain⟨_,k2,k3⟩:=a1C (le:=λ _ _:List Nat×List Nat=>True) (λ _=>av5) (λ _ _=>av5) (λ _ _ _ _ _=>av5) h;have e:j<cs.length:=by rw[<-ap3 (f:=a0S id),<-k2];exact(ay0.1 hj).1
  obtain⟨t1,t2,o,_,_⟩:=k3 j (a0S id cs[j]) _ (by rw[au3,az5 e];rfl) hj;have hs:=c1A (d _ (au2 e)) (c1j o);have hr:=hc.2.2 j cs[j] u (az5 e) hu;rw[hs]at hr;cases hr with
  |rep h=>cases h
  |ptr h=>
   rw[hp]at h;injection h with h;injection h with h1 h2;subst h1
   rfl
 .cases h
theorem a4N(hI:Inv base C D M μ g w){msF:List Nat}:∀{ps:List Nat} {bs:List (List V)} {s b:List Nat×List Nat},a0G (a1x g) s ps=some (bs,b)->b.1⊆msF->
  ∃oss:List (List (Option (Nat×Box))),oss.length=ps.length/\bs.length=ps.length/\(∀(j id:Nat) (l:List V) (os:List (Option (Nat×Box))),ps[j]?=some id->bs[j]?=some l->oss[j]?=some os->a7h (ext M μ g w msF) μ g w id l os)/\
   s.1⊆b.1/\b.2=(oss.flatten.flatMap a2y).reverse++s.2/\(s.2.Nodup->b.2.Nodup)
 |[],bs,s,b,h,_=>by
  simp only[a0G,az0,az8]at h;simp_all
 |id::ps,bs,s,b,h,hF=>by
  simp only[a0G]at h;split at h
  .cases h
  .next l k h1=>
   split at h
   .cases h
   .next c m h2=>
    simp only[az0,az8]at h;obtain⟨rfl,rfl⟩:=h;obtain⟨oss,e1,e2,e3,e4,e5,e6⟩:=a4N hI h2 hF;obtain⟨os,n,d,o,e⟩:=c4Y hI h1 (aw3 e4 hF);refine⟨os::oss,by simp[e1],by simp[e2],λ j f l' i k1 k2 k3=> ?_,aw3 d e4,?_,λ hn=>e6 (e hn)⟩;all_goals grind
theorem c2J{s:HP×Nat}{c:V}(h:(a0J s c).1= .dptr []):c= .dptr []:=by
 unfold a0J at h;grind
theorem a8a:∀{l:List V} {s:HP×Nat} {j:Nat},(a0f s l).1[j]?=some (.dptr [])->l[j]?=some (.dptr [])
 |[],_,_,h=>by simp[a0f]at h
 |c::l,s,0,h=>by
  grind[a0f,c2J]
 |c::l,s,j+1,h=>by
  simp only[a0f,ao1]at h;simpa using a8a h
theorem b9P{M2:Mem}{d:Pl}{k b cap:Nat}(hc:CellsRep M2 d l us)(hk:d k=some (b,cap))(hs:∀(j:Nat)(u:Value),l[j]?=some (.dptr [])->us[j]?=some u->u= .pointer (some ⟨b,0,none⟩)):CellsRep M2 d (l.map (a0H k)) us:=by
 refine⟨by rw[ap3];exact hc.1,λ c h=> ?_,λ j c u h1 h2=> ?_⟩
 .obtain⟨y,hy,rfl⟩:=ax5.1 h;unfold a0H;split
  .rfl
  .exact hc.2.1 y hy
 .rw[au3,az2]at h1;obtain⟨y,hy,rfl⟩:=h1;unfold a0H;split
  .rw[hs j u hy h2];exact .ptr hk
  .exact hc.2.2 j y u hy h2
theorem b2z:∀{bs:List (List V)} {ps:List Nat} {oss:List (List (Option (Nat×Box)))} {i:Nat} {h:HP} {nx:Nat},i+bs.length<=nx->oss.length=ps.length->bs.length=ps.length->
  (∀(j id:Nat) (l:List V) (os:List (Option (Nat×Box))),ps[j]?=some id->bs[j]?=some l->oss[j]?=some os->a7h M2 μ g w id l os)->
  ∃(L:List (Nat×Box)) (ls:List (List V)),L.map (·.1)=oss.flatten.flatMap a2y/\ls.length=bs.length/\(a0w i (h,nx) bs).2=nx+L.length/\(∀p∈L,b2D M2 μ g w p.1 p.2)/\
   (∀k,a0b (a0w i (h,nx) bs).1 k=if nx<=k/\k<nx+L.length then(L[k-nx]?).map (·.2)else if i<=k/\k<i+bs.length then(ls[k-i]?).map .var else a0b h k)/\
   ∀μ',Placed μ μ' L nx->(∀(j id:Nat),ps[j]?=some id->μ' (i+j)=μ id)->∀(j id:Nat) (l:List V),ps[j]?=some id->ls[j]?=some l->∃b cap,μ id=some (b,cap)/\(∃cs,g id=some (.var cs))/\BoxAt M2 μ' w b cap (.var l)
 |[],ps,oss,i,h,nx,_,h1,h2,_=>by
  have:ps=[]:=aw6 h2.symm;subst this;have:oss=[]:=aw6 h1;subst this;refine⟨[],[],rfl,rfl,rfl,λ p hp=>by simp at hp,λ k=> ?_,λ μ' _ _ j id l hj=>by simp at hj⟩;show a0b h k=_;grind
 |b::bs,ps,oss,i,h,nx,h0,h1,h2,h3=>by
  match ps,oss,h1,h2,h3 with
  |[],_,_,h2,_=>grind
  |_::_,[],h1,_,_=>grind
  |id::ps,os::oss,h1,h2,h3=>
   obtain⟨bb,cap,T,cur,v1,v2,v3,v4,v5,v0,v6,v7,v8⟩:=h3 0 id b os rfl rfl rfl;obtain⟨L1,a1,a2,a3⟩:=a6r (h:=h) (nx:=nx) v4 v5 v0 v6;have hnx:=a2.num;obtain⟨L2,ls,b1,b2,b3,b4,b5,b6⟩:=b2z (bs:=bs) (ps:=ps) (oss:=oss) (i:=i+1) (h:=(i,some (.var ((a0f (h,nx) b).1.map (a0H i))))::(a0f (h,nx) b).2.1) (nx:=(a0f (h,nx) b).2.2)
    (by grind) (by grind) (by grind) (λ j id l os k1 k2 k3=>h3 (j+1) id l os (by grind) (by grind) (by grind))
   have he:a0w i (h,nx) (b::bs)=a0w (i+1) ((i,some (.var ((a0f (h,nx) b).1.map (a0H i))))::(a0f (h,nx) b).2.1,(a0f (h,nx) b).2.2) bs:=rfl;refine⟨L1++L2,((a0f (h,nx) b).1.map (a0H i))::ls,by grind,by simp[b2],by grind,λ p hp=>(ax1.1 hp).elim (a2.rows p) (b4 p),λ k=> ?_,λ μ' hp hpi j id' l hj hl=> ?_⟩
   .rw[he,b5 k];simp only[ar0,an0]at h0|-;by_cases k1:(a0f (h,nx) b).2.2<=k/\k<(a0f (h,nx) b).2.2+L2.length
    .grind
    .rw[ay9 k1];by_cases k2:i+1<=k/\k<i+1+bs.length
     .grind
     .rw[ay9 k2];simp only[a0b];by_cases k3:k=i
      .grind
      .rw[ay9 k3,a2.get k];grind
   .cases j with
    |zero=>simp at hj hl;subst hj;subst hl;exact⟨bb,cap,v1,v2,T,cur,v3,b9P (a3 μ' hp.left) (by rw[<-v1];exact hpi 0 id rfl) λ j u hj hu=>v7 j u (a8a hj) hu,λ hl=>v8 (d3G hl)⟩
    |succ j=>exact b6 μ' (by rw[hnx];exact hp.right) (λ j id hj=>by have:=hpi (j+1) id (by grind);rwa [show i+1+j=i+(j+1)by omega]) j id' l (by grind) (by grind)
end
end
section
open Go.RowKit
variable {l:List Nat}
theorem b0R:l.reverse.Nodup↔l.Nodup:=by
 grind
theorem b1b(h:l.Nodup){i j:Nat}(hi:i<l.length)(hj:j<l.length)(e:l[i]=l[j]):i=j:=by
 grind[List.pairwise_iff_getElem]
def a3E:V->Nat
 | .agg _=>1
 | .tup _=>2
 |_=>0
variable {g:G} {c v:V}
theorem c5o{d:Nat}{ms b:List Nat}(h:a0C d g ms v=some (c,b)):a3E c=a3E v:=by
 cases d with
 |zero=>simp[a0C]at h
 |succ d=>
  cases v with
  |lit u=>simp only[a0C,az0,az8]at h;obtain⟨rfl,_⟩:=h;rfl
  |nils=>simp only[a0C,az0,az8]at h;grind
  |sl o xs=>simp only[a0C,az0,az8]at h;obtain⟨rfl,_⟩:=h;rfl
  |slf xs=>simp only[a0C,az0,az8]at h;obtain⟨rfl,_⟩:=h;rfl
  |agg cs=>
   simp only[a0C]at h;split at h
   .simp only[az0,az8]at h;obtain⟨rfl,_⟩:=h;rfl
   .cases h
  |tup cs=>
   simp only[a0C]at h;split at h
   .simp only[az0,az8]at h;obtain⟨rfl,_⟩:=h;rfl
   .cases h
  |row id sz off n=>
   simp only[a0C]at h;split at h
   .split at h
    .split at h
     .simp only[az0,az8]at h;obtain⟨rfl,_⟩:=h;rfl
     .cases h
    .cases h
   .cases h
  |_=>simp[a0C]at h
theorem b5X{s b:List Nat×List Nat}(h:a0h g s v=some (c,b)):a3E c=a3E v:=by
 have d:(match a0C ED g s.1 v with
   |some (v,ms)=>some (v,ms,s.2)
   |none=>none)=some (c,b)->a3E c=a3E v:=by
  intro h;split at h
  .grind[c5o]
  .cases h
 unfold a0h at h;split at h
 .split at h
  .split at h
   .split at h
    .simp only[az0,az8]at h;obtain⟨rfl,_⟩:=h;rfl
    .cases h
   .grind
  .cases h
 all_goals grind
variable {s:HP×Nat}
theorem a4X(h:a3E v≠1):a2B s v=a0J s v:=by
 cases v<;>first|rfl|exact absurd rfl h
theorem a6a(h:a3E v≠2):a1R s v=a2B s v:=by
 cases v<;>first|rfl|exact absurd rfl h
section
variable {P:Program} {base:Nat} {C:List Nat} {D w:World} {M F M2:Mem} {μ E B:Pl} {g:G} {a:Act} {call:Calls}
def Imp(M2:Mem)(μ:Pl)(g:G)(w:World)(os:List (Option (Nat×Box)))(imp:HP×Nat->V×HP×Nat)(u:Value):Prop:=
 ∀(h:HP) (nx:Nat),∃L,L.map (·.1)=os.flatMap a2y/\Bring M2 μ g w L h nx (imp (h,nx)).2.1 (imp (h,nx)).2.2/\∀b,Placed μ b L nx->RepV M2 b (imp (h,nx)).1 u
def a9q(os:List (Option (Nat×Box)))(s b:List Nat×List Nat):Prop:=s.1⊆b.1/\b.2=(os.flatMap a2y).reverse++s.2/\(s.2.Nodup->b.2.Nodup)
variable {msF:List Nat} {b s:List Nat×List Nat} {c v:V} {u:Value}
theorem c7Q(hI:Inv base C D M μ g w)(h:a0h g s v=some (c,b))(hF:b.1⊆msF)(hr:RepV M μ v u):
  ∃os,Imp (ext M μ g w msF) μ g w os (λ s=>a0J s c) u/\a9q os s b:=by
 obtain⟨o,h1,_,h2,h3,h4⟩:=b1T hI h hF hr;refine⟨[o],λ hh nx=> ?_,h2,by rw[h3];cases o<;>simp[a2y],λ hn=> ?_⟩
 .obtain⟨L,a1,a2,a3⟩:=b4F (h:=hh) (nx:=nx) h1;exact⟨L,by grind,a2,λ d hp=>(a3 d hp).1⟩
 .rw[h3];cases o with
  |none=>grind[a2y]
  |some p=>grind[a2y]
theorem b8z(hI:Inv base C D M μ g w)(h:a0O g s v=some (c,b))(hF:b.1⊆msF)(hr:RepV M μ v u):
  a3E c=a3E v/\∃os,Imp (ext M μ g w msF) μ g w os (λ s=>a2B s c) u/\a9q os s b:=by
 by_cases hv:∃cs,v= .agg cs
 .obtain⟨cs,rfl⟩:=hv;simp only[a0O]at h;split at h
  .next l t hl=>
   simp only[az0,az8]at h;obtain⟨rfl,rfl⟩:=h;obtain⟨us,rfl,hc⟩:=b3l hr;obtain⟨os,e1,e2,e0,e3,e4,e5,e6⟩:=a6M hI hl hF hc;refine⟨rfl,os,λ hh nx=> ?_,e4,e5,e6⟩;obtain⟨L,a1,a2,a3⟩:=a6r (h:=hh) (nx:=nx) e1 e2 e0 e3;refine⟨L,a1,a2,λ d hp=> ?_⟩;have:=(a3 d hp).agg;simp_all[a2B]
  .cases h
 .have hk:a3E v≠1:=λ e=>hv (by cases v<;>first|exact⟨_,rfl⟩|cases e);have i:a0h g s v=some (c,b):=by cases v<;>first|exact h|grind
  have f:=b5X i;obtain⟨os,a1,a2⟩:=c7Q hI i hF hr;refine⟨f,os,λ hh nx=> ?_,a2⟩;have:=a1 hh nx;simpa only[a4X (v:=c) (by grind)]using this
theorem b5M(hI:Inv base C D M μ g w){msF:List Nat}:∀{vs cs:List V} {us:List Value} {s e:List Nat×List Nat},a0G (a0O g) s vs=some (cs,e)->e.1⊆msF->ListRep M μ vs us->
  ∃os,a9q os s e/\∀(h:HP) (nx:Nat),∃L,L.map (·.1)=os.flatMap a2y/\Bring (ext M μ g w msF) μ g w L h nx (a1Z (h,nx) cs).2.1 (a1Z (h,nx) cs).2.2/\∀d,Placed μ d L nx->ListRep (ext M μ g w msF) d (a1Z (h,nx) cs).1 us
 |[],cs,us,s,e,h,_,hl=>by
  simp only[a0G,az0,az8]at h;obtain⟨rfl,rfl⟩:=h;have:us=[]:=aw6 hl.1.symm;subst this;exact⟨[],⟨a1a _,rfl,λ h=>h⟩,λ h nx=>⟨[],rfl,.nil,λ d _=>⟨rfl,λ j c u hc=>by grind⟩⟩⟩
 |v::vs,cs,us,s,e,h,hF,hl=>by
  simp only[a0G]at h;split at h
  .cases h
  .next c r h1=>
   split at h
   .cases h
   .next l t h2=>
    simp only[az0,az8]at h;obtain⟨rfl,rfl⟩:=h
    match us,hl with
    |[],hl=>exact absurd hl.1 (by simp)
    |u::us,hl=>
     obtain⟨f,⟨f1,f2,f3⟩,b⟩:=b5M hI h2 hF (us:=us) ⟨by simpa using hl.1,λ j c u h1 h2=>hl.2 (j+1) c u (by grind) (by grind)⟩;obtain⟨_,i,a,⟨g1,g2,g3⟩⟩:=b8z hI h1 (aw3 f1 hF) (hl.2 0 v u rfl rfl);refine⟨i++f,⟨aw3 g1 f1,by grind,λ hn=>f3 (g3 hn)⟩,λ hh nx=> ?_⟩;obtain⟨m,z,k,n⟩:=a hh nx;obtain⟨o,A,p,q⟩:=b (a2B (hh,nx) c).2.1 (a2B (hh,nx) c).2.2;refine⟨m++o,by grind,k.trans p,λ d hp=> ?_⟩;have r1:=n d hp.left;have r2:=q d (by rw[k.num];exact hp.right);refine⟨by simp[a1Z,r2.1],λ j x y hx hy=> ?_⟩;cases j with
     |zero=>simp[a1Z]at hx hy;subst hx;subst hy;exact r1
     |succ j=>exact r2.2 j x y (by grind[a1Z]) (by grind)
theorem c9e{vs:List V}(h:RepV M μ (.tup vs) u):∃us:Array Value,u= .tuple us/\ListRep M μ vs us.toList:=by
 cases h with
 |tup h1 h2=>exact⟨_,rfl,by simpa using h1,λ j c u a b=>h2 j c u a (by grind)⟩
 |rep h=>cases h with|tup h1 h2=>exact⟨_,rfl,by grind,λ j c u a b=> .rep (h2 j c u a (by grind))⟩
theorem c4I(hI:Inv base C D M μ g w){d:List Nat×List Nat}(h:a2q g s v=some (c,d))(hF:d.1⊆msF)(hr:RepV M μ v u):
  ∃os,Imp (ext M μ g w msF) μ g w os (λ s=>a1R s c) u/\a9q os s d:=by
 by_cases hv:∃vs,v= .tup vs
 .obtain⟨vs,rfl⟩:=hv;simp only[a2q]at h;split at h
  .next l t hl=>
   simp only[az0,az8]at h;obtain⟨rfl,rfl⟩:=h;obtain⟨us,rfl,hc⟩:=c9e hr;obtain⟨os,f,b⟩:=b5M hI hl hF hc;refine⟨os,λ hh nx=> ?_,f⟩;obtain⟨L,a1,a2,a3⟩:=b hh nx;refine⟨L,a1,a2,λ i hp=> ?_⟩;have:=(a3 i hp).tup;simp_all[a1R]
  .cases h
 .have hk:a3E v≠2:=λ e=>hv (by cases v<;>first|exact⟨_,rfl⟩|cases e);have j:a0O g s v=some (c,d):=by cases v<;>first|exact h|grind
  obtain⟨k,os,a1,a2⟩:=b8z hI j hF hr;refine⟨os,λ hh nx=> ?_,a2⟩;have:=a1 hh nx;simpa only[a6a (v:=c) (by grind)]using this
theorem b3C(hI:Inv base C D M μ g w){id b cap:Nat}{x:Box}{o:Nat}(hg:g id=some x)(hp:μ id=some (b,cap))(h:ext M μ g w msF b o=some u):
  o<x.held\/∃ty sz xs f,x= .row ty sz xs f/\id∈msF/\o<xs.length*sz:=by
 unfold ext at h;cases hM:M b o with
 |some y=>exact .inl (hI.sep id x b cap o y hg hp hM)
 |none=>
  rw[hM]at h;simp only at h;split at h
  .next e=>
   obtain⟨c,ty,sz,xs,f,d,h1,h2,h3,h4⟩:=e;have:c=id:=hI.inj c id b d cap ⟨_,h2⟩ ⟨_,hg⟩ h3 hp;subst this;rw[h2]at hg;injection hg with hg
   exact .inr ⟨ty,sz,xs,f,hg.symm,h1,h4⟩
  .cases h
theorem c1m(hI:Inv base C D M μ g w){ps:List Nat}{bs:List (List V)}{ks:List Nat}{ms0:List Nat}(hps:ps.Nodup)(hv:a0G (a1x g) (ms0,[]) ps=some (bs,msF,ks))(hfree:a1u g msF ks=true):
  bs.length=ps.length/\∃(B:Pl) (ptc:List Nat),(∀j id,ps[j]?=some id->B j=μ id)/\(∀i,(a0w 0 ([],bs.length) bs).2<=i->B i=none)/\
   Inv w.heap.size ptc w (ext M μ g w msF) B (a0b (a0w 0 ([],bs.length) bs).1) w/\∀b∈ptc,∃id cap x,g id=some x/\μ id=some (b,cap)/\(id∈ps\/id∈ks):=by
 obtain⟨oss,e1,e2,e3,e4,e5,e6⟩:=a4N hI hv (a1a _);obtain⟨L,ls,b1,b2,b3,b4,b5,b6⟩:=b2z (M2:=ext M μ g w msF) (μ:=μ) (g:=g) (w:=w) (i:=0) (h:=[]) (nx:=bs.length) (bs:=bs) (ps:=ps) (oss:=oss) (by omega) e1 e2 e3;have hks:ks=(L.map (·.1)).reverse:=by rw[b1];simpa using e5
 have hkn:(L.map (·.1)).Nodup:=by
  have:=e6 (by simp);simp only at this;rw[hks]at this;exact b0R.1 this
 refine⟨e2,?_⟩;let B:Pl:=λ i=>if i<bs.length then(ps[i]?).bind μ else(L[i-bs.length]?).bind λ p=>μ p.1
 have hpl:Placed μ B L bs.length:=λ j p hj=>by
  show(if bs.length+j<bs.length then _ else _)=_;rw[ay9 (by omega),show bs.length+j-bs.length=j by omega,hj];rfl
 have hpt:∀j id,ps[j]?=some id->B j=μ id:=λ j id hj=>by
  have:j<bs.length:=by rw[e2];exact(ay0.1 hj).1
  show(if j<bs.length then _ else _)=_;rw[ax3 this,hj];rfl
 have hbox:∀k x,a0b (a0w 0 ([],bs.length) bs).1 k=some x->∃old y b cap,B k=μ old/\μ old=some (b,cap)/\g old=some y/\BoxAt (ext M μ g w msF) B w b cap x/\
   ((k<bs.length/\ps[k]?=some old/\∃l,x= .var l)\/(bs.length<=k/\(L[k-bs.length]?).map (·.1)=some old/\∃ty sz xs xs' f,y= .row ty sz xs f/\x= .row ty sz xs' f/\xs'.length=xs.length)):=by
  intro k x hk;rw[b5 k]at hk;by_cases k1:bs.length<=k/\k<bs.length+L.length
  .rw[ax3 k1]at hk;simp only[az2]at hk;obtain⟨p,hp,rfl⟩:=hk;obtain⟨b,cap,ty,sz,xs,xs',f,r1,r2,r3,r4,r5⟩:=b4 p (ax4 hp);refine⟨p.1,_,b,cap,?_,r1,r2,r5 B,.inr ⟨k1.1,by rw[hp];rfl,ty,sz,xs,xs',f,rfl,r3,r4⟩⟩;have:=hpl (k-bs.length) p hp
   rwa [show bs.length+(k-bs.length)=k by omega]at this
  .rw[ay9 k1]at hk;by_cases k2:0<=k/\k<0+bs.length
   .rw[ax3 k2]at hk;simp only[az2]at hk;obtain⟨l,hl,rfl⟩:=hk;have hlt:k<ps.length:=by omega
    obtain⟨b,cap,r1,⟨cs,r2⟩,r3⟩:=b6 B hpl (λ j id hj=>by rw[as4];exact hpt j id hj) k ps[k] l (az5 hlt) (by simpa using hl);exact⟨ps[k],_,b,cap,hpt k _ (az5 hlt),r1,r2,r3,.inl ⟨by omega,az5 hlt,l,rfl⟩⟩
   .rw[ay9 k2]at hk;simp[a0b]at hk
 let blocks:List Nat:=(ps++ks).filterMap λ id=>(μ id).map (·.1);have hbk:∀b∈blocks,∃id cap x,g id=some x/\μ id=some (b,cap)/\(id∈ps\/id∈ks):=by
  intro b hb;obtain⟨id,hid,hp⟩:=Az5.1 hb;simp only[az2]at hp;obtain⟨⟨b',cap⟩,hp,rfl⟩:=hp;rcases ax1.1 hid with h|h
  .obtain⟨j,hj⟩:=List.getElem?_of_mem h;have hlt:j<ps.length:=(ay0.1 hj).1;obtain⟨bb,cc,TT,cur,z1,⟨cs,z2⟩,_⟩:=e3 j id (bs[j]'(by omega)) (oss[j]'(by omega)) hj (az5 (by omega)) (az5 (by omega));exact⟨id,cap,_,z2,hp,.inl h⟩
  .have h':=h;rw[hks,Av9]at h';obtain⟨p,hpL,rfl⟩:=ax5.1 h';obtain⟨b,cap',ty,sz,xs,xs',f,r1,r2,r3,r4,r5⟩:=b4 p hpL;exact⟨p.1,cap,_,r2,hp,.inr h⟩
 refine⟨B,blocks,hpt,λ i hi=> ?_,⟨c2M hI,?_,?_,?_,rfl,rfl,rfl,ay3 _,λ b _ _=>rfl,hI.glb λ b hb=>by obtain⟨i,c,x,h1,h2,_⟩:=hbk b hb;exact⟨i,c,x,h1,h2⟩⟩,?_⟩
 .rw[b3]at hi;show(if i<bs.length then _ else _)=_;rw[ay9 (by omega),an7 (by omega)];rfl
 .intro k x hk;obtain⟨old,y,b,cap,r1,r2,r3,r4,r5⟩:=hbox k x hk;refine⟨b,cap,by rw[r1,r2],r4,.inr ?_⟩;refine Az5.2 ⟨old,?_,by rw[r2];rfl⟩;rcases r5 with⟨_,r5,_⟩|⟨_,r5,_⟩
  .exact av4 _ (ax4 r5)
  .refine aw2 _ ?_;rw[hks,Av9];refine ax4 (i:=k-bs.length) ?_;simpa using r5
 .rintro i j b c c' ⟨x,hx⟩ ⟨y,hy⟩ hi hj;obtain⟨o1,y1,b1',cap1,r1,r2,r3,_,r5⟩:=hbox i x hx;obtain⟨o2,y2,b2',cap2,s1,s2,s3,_,s5⟩:=hbox j y hy;have h1:μ o1=some (b,c):=by rw[<-r1];exact hi
  have h2:μ o2=some (b,c'):=by rw[<-s1];exact hj
  have ho:o1=o2:=hI.inj o1 o2 b c c' ⟨_,r3⟩ ⟨_,s3⟩ h1 h2;subst ho;rw[r3]at s3;injection s3 with s3
  subst s3;rcases r5 with⟨l1,p1,v1⟩|⟨l1,p1,ty1,sz1,xs1,xs1',f1,q1,q2,q3⟩
  .rcases s5 with⟨l2,p2,v2⟩|⟨l2,p2,ty2,sz2,xs2,xs2',f2,t1,t2,t3⟩
   .have i1:i<ps.length:=by omega
    have j1:j<ps.length:=by omega
    rw[az5 i1]at p1;rw[az5 j1]at p2;injection p1 with p1;injection p2 with p2
    exact b1b hps i1 j1 (p1.trans p2.symm)
   .subst t1;obtain⟨bb,cc,TT,cur,z1,⟨cs,z2⟩,_⟩:=e3 i o1 (bs[i]) (oss[i]'(by omega)) p1 (az5 l1) (az5 (by omega));rw[r3]at z2;cases z2
  .rcases s5 with⟨l2,p2,v2⟩|⟨l2,p2,ty2,sz2,xs2,xs2',f2,t1,t2,t3⟩
   .subst q1;obtain⟨bb,cc,TT,cur,z1,⟨cs,z2⟩,_⟩:=e3 j o1 (bs[j]) (oss[j]'(by omega)) p2 (az5 l2) (az5 (by omega));rw[r3]at z2;cases z2
   .have e:i-bs.length=j-bs.length:=by
     have i1:i-bs.length<(L.map (·.1)).length:=by
      rcases as5 (i-bs.length) L.length with h|h
      .simpa using h
      .rw[an7 h]at p1;cases p1
     have j1:j-bs.length<(L.map (·.1)).length:=by
      rcases as5 (j-bs.length) L.length with h|h
      .simpa using h
      .rw[an7 h]at p2;cases p2
     have a1:(L.map (·.1))[i-bs.length]=o1:=by
      have:(L.map (·.1))[i-bs.length]?=some o1:=by simpa using p1
      rw[az5 i1]at this;injection this
     have a2:(L.map (·.1))[j-bs.length]=o1:=by
      have:(L.map (·.1))[j-bs.length]?=some o1:=by simpa using p2
      rw[az5 j1]at this;injection this
     exact b1b hkn i1 j1 (a1.trans a2.symm)
    omega
 .intro k x b cap o u hx hm hM;obtain⟨old,y,b',cap',r1,r2,r3,_,r5⟩:=hbox k x hx;have hold:μ old=some (b,cap):=by rw[<-r1];exact hm
  have hs:=b3C hI r3 hold hM;rcases r5 with⟨_,p1,l,rfl⟩|⟨_,p1,ty,sz,xs,xs',f,rfl,rfl,q3⟩
  .have hlt:k<ps.length:=(ay0.1 p1).1;obtain⟨bb,cc,TT,cur,z1,⟨cs,z2⟩,_⟩:=e3 k old (bs[k]'(by omega)) (oss[k]'(by omega)) p1 (az5 (by omega)) (az5 (by omega));rw[r3]at z2;injection z2 with z2
   subst z2;rcases hs with hs|⟨_,_,_,_,hs,_⟩
   .exact absurd hs (as0 _)
   .cases hs
  .rcases hs with hs|⟨ty2,sz2,xs2,f2,hs,hid,hs2⟩
   .cases f with
    |false=>exact absurd hs (as0 _)
    |true=>show o<xs'.length*sz;rw[q3];exact hs
   .injection hs with h1 h2 h3 h4
    subst h1;subst h2;subst h3;subst h4;have hin:old∈ks:=by
     rw[hks,Av9];refine ax4 (i:=k-bs.length) ?_;simpa using p1
    have:=ay5.1 hfree old hin;rw[r3]at this;have hc:msF.contains old=true:=by simpa using hid
    rw[hc]at this;simp only[aq4,As1]at this;subst this;show o<xs'.length*sz;rw[q3];exact hs2
 .exact hbk
end
end
section
open Go.RowKit
variable {H h:HP} {nx:Nat} {c:V}
theorem b0O:a0J (h++H,nx) c=((a0J (h,nx) c).1,(a0J (h,nx) c).2.1++H,(a0J (h,nx) c).2.2):=by
 unfold a0J;split<;>rfl
theorem a5R{H:HP}:∀{l:List V} {h:HP} {nx:Nat},a0f (h++H,nx) l=((a0f (h,nx) l).1,(a0f (h,nx) l).2.1++H,(a0f (h,nx) l).2.2)
 |[],h,nx=>rfl
 |c::l,h,nx=>by
  simp only[a0f,b0O];rw[a5R]
theorem b0B:a2B (h++H,nx) c=((a2B (h,nx) c).1,(a2B (h,nx) c).2.1++H,(a2B (h,nx) c).2.2):=by
 by_cases h1:a3E c=1
 .cases c<;>first|(simp only[a2B,a5R];done)|cases h1
 grind[a4X,b0O]
theorem a8T{H:HP}:∀{l:List V} {h:HP} {nx:Nat},a1Z (h++H,nx) l=((a1Z (h,nx) l).1,(a1Z (h,nx) l).2.1++H,(a1Z (h,nx) l).2.2)
 |[],h,nx=>rfl
 |c::l,h,nx=>by
  simp only[a1Z,b0B];rw[a8T]
theorem c0D:a1R (h++H,nx) c=((a1R (h,nx) c).1,(a1R (h,nx) c).2.1++H,(a1R (h,nx) c).2.2):=by
 by_cases h1:a3E c=2
 .cases c<;>first|(simp only[a1R,a8T];done)|cases h1
 grind[a6a,b0B]
theorem b0Z{H:HP}:∀{ps:List Nat} {bs:List (List V)} {h c:HP} {nx nx':Nat},a2s (h,nx) ps bs=some (c,nx')->a2s (h++H,nx) ps bs=some (c++H,nx')
 |[],[],h,c,nx,nx',e=>by
  simp only[a2s,az0,az8]at e|-;grind
 |[],_::_,_,_,_,_,e=>by simp[a2s]at e
 |_::_,[],_,_,_,_,e=>by simp[a2s]at e
 |id::ps,b::bs,h,c,nx,nx',e=>by
  simp only[a2s,a5R]at e|-;rw[<-ap4];exact b0Z e
section
variable {P:Program} {base:Nat} {I:List Nat} {J w:World} {M O M2:Mem} {μ N K:Pl} {g:G} {a:Act} {call:Calls}
theorem a5B{μn:Pl}:∀{ps:List Nat} {bs:List (List V)} {oss:List (List (Option (Nat×Box)))} {ids:List Nat} {h:HP} {nx:Nat},(∀id∈ps,id<nx)->ps.Nodup->oss.length=ps.length->bs.length=ps.length->ids.length=ps.length->
  (∀(j id:Nat) (l:List V) (os:List (Option (Nat×Box))),ids[j]?=some id->bs[j]?=some l->oss[j]?=some os->a7h M2 μn g w id l os)->
  ∃(L:List (Nat×Box)) (ls:List (List V)) (h2:HP),a2s (h,nx) ps bs=some (h2,nx+L.length)/\L.map (·.1)=oss.flatten.flatMap a2y/\ls.length=ps.length/\(∀p∈L,b2D M2 μn g w p.1 p.2)/\
   (∀(k:Nat),nx<=k/\k<nx+L.length->a0b h2 k=(L[k-nx]?).map (·.2))/\(∀(j k:Nat),ps[j]?=some k->a0b h2 k=(ls[j]?).map .var)/\(∀(k:Nat),k∉ps->¬(nx<=k/\k<nx+L.length)->a0b h2 k=a0b h k)/\
   ∀c,Placed μn c L nx->(∀(j p id:Nat),ps[j]?=some p->ids[j]?=some id->c p=μn id)->∀(j id:Nat) (l:List V),ids[j]?=some id->ls[j]?=some l->∃b cap,μn id=some (b,cap)/\(∃cs,g id=some (.var cs))/\BoxAt M2 c w b cap (.var l)
 |[],bs,oss,ids,h,nx,_,_,h1,h2,h3,_=>by
  have:bs=[]:=aw6 h2;subst this;have:oss=[]:=aw6 h1;subst this;have:ids=[]:=aw6 h3;subst this;exact⟨[],[],h,rfl,rfl,rfl,λ p hp=>by simp at hp,λ k hk=>by grind,λ j k hj=>by simp at hj,λ k _ _=>rfl,λ c _ _ j id l hj=>by simp at hj⟩
 |p::ps,bs,oss,ids,h,nx,f,hn,h1,h2,h3,h4=>by
  match bs,oss,ids,h1,h2,h3,h4 with
  |[],_,_,_,h2,_,_=>grind
  |_::_,[],_,h1,_,_,_=>grind
  |_::_,_::_,[],_,_,h3,_=>grind
  |b::bs,os::oss,id::ids,h1,h2,h3,h4=>
   obtain⟨bb,cap,T,m,v1,v,x,v4,y,v0,v6,z,A⟩:=h4 0 id b os rfl rfl rfl;obtain⟨B,a1,a2,a3⟩:=a6r (h:=h) (nx:=nx) v4 y v0 v6;have n:=a2.num;obtain⟨C,o⟩:=Aw0.1 hn;have D:=f p (ay1 ..);obtain⟨E,ls,F,b1,b2,b3,b4,b5,b6,b7,b8⟩:=a5B (bs:=bs) (ps:=ps) (oss:=oss) (ids:=ids) (h:=(p,some (.var ((a0f (h,nx) b).1.map (a0H p))))::(a0f (h,nx) b).2.1) (nx:=(a0f (h,nx) b).2.2)
    (λ i hi=>by grind) o (by grind) (by grind) (by grind)
    (λ j id l os k1 k2 k3=>h4 (j+1) id l os (by grind) (by grind) (by grind))
   have r:∀k,nx<=k->k∉ps:=λ k hk hm=>by grind
   refine⟨B++E,((a0f (h,nx) b).1.map (a0H p))::ls,F,?_,by grind,by simp[b3],λ q hq=>(ax1.1 hq).elim (a2.rows q) (b4 q),λ k hk=> ?_,λ j k hj=> ?_,λ k d s=> ?_,λ c hp e j t l hj hl=> ?_⟩
   .grind[a2s]
   .simp only[ar0]at hk;by_cases k1:(a0f (h,nx) b).2.2<=k
    .grind
    .rw[b7 k (r k hk.1) (by omega)];simp only[a0b];rw[ay9 (by omega),a2.get k,ax3 ⟨hk.1,by omega⟩,aw1 (by omega)]
   .cases j with
    |zero=>grind[a0b]
    |succ j=>grind
   .simp only[ar0]at s;simp only[ay4,ap6]at d;rw[b7 k d.2 (by omega)];simp only[a0b];rw[ay9 d.1,a2.get k,ay9 (by omega)]
   .cases j with
    |zero=>simp at hj hl;subst hj;subst hl;exact⟨bb,cap,v1,v,T,m,x,b9P (a3 c hp.left) (by rw[<-v1];exact e 0 p id rfl rfl) λ j u hj hu=>z j u (a8a hj) hu,λ hl=>A (d3G hl)⟩
    |succ j=>exact b8 c (by rw[n];exact hp.right) (λ j p id h1 h2=>e (j+1) p id (by grind) (by grind)) j t l (by grind) (by grind)
def d6f(base:Nat)(c:List Nat)(J:World)(M:Mem)(μ:Pl)(m:Nat)(v:V)(bs:List (List V))(u:Value)(w:World):Prop:=
 ∃(d:Mem) (b:Pl) (g1:G) (msF:List Nat) (ov:List (Option (Nat×Box))) (oss:List (List (Option (Nat×Box)))),M.le d/\NewMem base c M d/\μ.le b/\Inv base c J d b g1 w/\
  Imp (ext d b g1 w msF) b g1 w ov (λ s=>a1R s v) u/\oss.length=m/\bs.length=m/\
  (∀(j:Nat) (l:List V) (os:List (Option (Nat×Box))),j<m->bs[j]?=some l->oss[j]?=some os->a7h (ext d b g1 w msF) b g1 w j l os)/\
  ((ov++oss.flatten).flatMap a2y).Nodup/\a1u g1 msF ((ov++oss.flatten).flatMap a2y)=true
def c6H(P:Program)(call:a7F):Prop:=∀{k:Nat} {asq:List V} {bs:List (List V)} {v:V} {b:List (List V)},call k asq bs=some (v,b)->b6L P k=true/\
 ∀{w:World} {M:Mem} {μ:Pl} {us:Array Value} {c:List Nat},Inv w.heap.size c w M μ (a0b (a0w 0 ([],bs.length) bs).1) w->(∀i,(a0w 0 ([],bs.length) bs).2<=i->μ i=none)->ListRep M μ asq us.toList->
  Go.Calls P k us w (Ret λ u d=>d6f w.heap.size c w M μ bs.length v b u d)
variable {ks msF:List Nat}
theorem c6Q{id ty sz:Nat}{xs:List V}{f:Bool}(h:a1u g msF ks=true)(hk:id∈ks)(hm:id∈msF)(hg:g id=some (.row ty sz xs f)):f=true:=by
 have:=ay5.1 h id hk;grind
theorem b7q(hI:Inv base I J M μ g w):NewMem base I M (ext M μ g w msF):=by
 intro b o u h;unfold ext at h;cases hM:M b o with
 |some x=>grind
 |none=>
  rw[hM]at h;simp only at h;split at h
  .next c=>
   obtain⟨id,ty,sz,xs,f,cap,h1,h2,h3,h4⟩:=c;exact .inr (hI.at_ h2 h3).2
  .cases h
theorem b5F{H:HP}{ms:List Nat}(k:Nat):a0b (ks.map (λ id=>(id,none))++a3y (a0b H) ms++H) k=if k∈ks then none else match a0b H k with
  |some (.row ty sz xs f)=>if k∈ms then some (.row ty sz xs true)else some (.row ty sz xs f)
  |o=>o:=by
 have hm:∀(ms:List Nat),a0b (a3y (a0b H) ms++H) k=match a0b H k with
   |some (.row ty sz xs f)=>if k∈ms then some (.row ty sz xs true)else some (.row ty sz xs f)
   |o=>o:=by
  intro ms;induction ms with
  |nil=>show a0b H k=_;grind
  |cons id ms ih=>
   simp only[a3y];cases hg:a0b H id with
   |none=>grind
   |some x=>
    cases x with
    |row ty sz xs f=>simp only[ap4,a0b];by_cases e:k=id;all_goals grind
    |_=>grind
 rw[Ay5];induction ks with
 |nil=>grind
 |cons id ks ih=>simp only[av2,ap4,a0b];grind
end
end
section
open Go.RowKit
section
variable {P:Program} {base:Nat} {m:List Nat} {n w:World} {M:Mem} {d:Pl} {H:HP} {nx k:Nat} {args:List V} {s:Array Value} {call:a7F} {r:Out}
theorem d0r(hc:c6H P call)(hI:Inv base m n M d (a0b H) w)(hn:∀i,nx<=i->i<nx+r.cnt->d i=none)(ha:ListRep M d args s.toList)(h:a1q call (a0b H) nx k args=some r):
  b6L P k=true/\Go.Calls P k s w (Ret λ u w'=>∃M' μ',M.le M'/\NewMem base m M M'/\d.le μ'/\RepV M' μ' r.v u/\Inv base m n M' μ' (a0b (r.upd++H)) w'/\∀i,d i=none->¬(nx<=i/\i<nx+r.cnt)->μ' i=none):=by
 unfold a1q at h;split at h
 .cases h
 .next asq ms ps hargs=>
  split at h
  .cases h
  .next bs ms' ks hvars=>
   split at h
   .cases h
   .next hfree0=>
    have hfreeP:a1u (a0b H) ms' ks=true/\∀id∈ps,id<nx:=by
     simpa using hfree0
    have hfree:=hfreeP.1;split at h
    .cases h
    .next v bs' hcall=>
     split at h
     .cases h
     .next t hback=>
      obtain⟨h2,nx2⟩:=t;injection h with h
      obtain⟨_,_,k3⟩:=a1C (le:=ArgLe) ArgLe.refl ArgLe.trans (a6f 4) hargs;have hps:ps.Nodup:=(a1C (le:=ArgLe) ArgLe.refl ArgLe.trans (a6f 4) hargs).1.2.2 (by simp);obtain⟨oss0,f1,f2,f3,f4,_,_⟩:=a4N hI hvars (a1a _);obtain⟨hlen,μc,ptc,hpt,hnewc,hIc,hptc⟩:=c1m hI hps hvars hfree;have hargs':=d1c hI (msF:=ms') (psF:=ps) hpt hargs f4 (Av8 _) ha;obtain⟨hok,hcal⟩:=hc hcall;refine⟨hok,(hcal hIc hnewc hargs').mono λ e w' he=> ?_⟩;cases e with
      |panicked c=>exact he.elim
      |outgrown=>exact he.elim
      |returned u=>
       obtain⟨M1,μ1,g1,msF1,ov,oss,hle1,hnew1,hμ1,hI1,himp,hol,hbl,hvar,hnd,hfr⟩:=he;show∃M' μ',_;have hptr:∀(j id:Nat),ps[j]?=some id->∃b cap,d id=some (b,cap)/\∃cs,a0b H id=some (.var cs):=λ j id hj=>by
        have hlt:=(ay0.1 hj).1;obtain⟨b,cap,T,cur,z1,z2,_⟩:=f3 j id (bs[j]'(by omega)) (oss0[j]'(by omega)) hj (az5 (by omega)) (az5 (by omega));exact⟨b,cap,z1,z2⟩
       have hlt:=hfreeP.2;obtain⟨L1,ls,h2',b1,b2,b3,b4,b5,b6,b7,b8⟩:=a5B (M2:=ext M1 μ1 g1 w' msF1) (μn:=μ1) (g:=g1) (w:=w') (ps:=ps) (bs:=bs') (oss:=oss) (ids:=List.range ps.length)
        (h:=ks.map (λ id=>(id,none))++a3y (a0b H) ms'++H) (nx:=nx) hlt hps (by omega) (by omega) (by simp) (λ j id l os k1 k2 k3=>by
         have hj:j<ps.length:=by have:=(ay0.1 k1).1;simpa using this
         have:id=j:=by rw[ao6 hj]at k1;injection k1 with k1;exact k1.symm
         subst this;exact hvar id l os (by omega) k2 k3)
       have hb2:=b0Z (H:=H) hback;rw[b1]at hb2;simp only[az0,az8]at hb2;obtain⟨hh2,hnx2⟩:=hb2;subst hh2;obtain⟨L2,c1,c2,c3⟩:=himp (h2++H) nx2;simp only[c0D]at c2 c3;subst h;simp only;have hnx3:=c2.num;replace hn:∀i,nx<=i->i<nx+((a1R (h2,nx2) v).2.2-nx)->d i=none:=hn;have hcnt:nx+((a1R (h2,nx2) v).2.2-nx)=(a1R (h2,nx2) v).2.2:=by omega
       let L:=L1++L2;let μ2:Pl:=λ i=>if nx<=i/\i<nx+L.length then(L[i-nx]?).bind λ p=>μ1 p.1 else d i
       have hold:∀i,¬(nx<=i/\i<nx+L.length)->μ2 i=d i:=λ i hi=>ay9 hi;have hLl:L.length=L1.length+L2.length:=ar0;have hpl:Placed μ1 μ2 L nx:=λ j p hj=>by
        have:=(ay0.1 hj).1;show(if nx<=nx+j/\nx+j<nx+L.length then _ else _)=_;rw[ax3 (by omega),show nx+j-nx=j by omega,hj];rfl
       have hpl1:Placed μ1 μ2 L1 nx:=hpl.left;have hpl2:Placed μ1 μ2 L2 nx2:=by rw[<-hnx2];exact hpl.right
       have hμ2:d.le μ2:=λ i p hp=>by
        have:¬(nx<=i/\i<nx+L.length):=λ h=>by
         rw[hn i h.1 (by omega)]at hp;cases hp
        rw[hold i this];exact hp
       have hLn:(L.map (·.1)).Nodup:=by
        show((L1++L2).map (·.1)).Nodup;rw[Aw1,b2,c1];rw[Az9]at hnd;have:=Av4.1 hnd;exact Av4.2 ⟨this.2.1,this.1,λ a ha b hb e=>this.2.2 b hb a ha e.symm⟩
       have hLmem:∀p∈L,p.1∈(ov++oss.flatten).flatMap a2y:=λ p hp=>by
        have:p.1∈L.map (·.1):=Aw7 hp;have e:L.map (·.1)=oss.flatten.flatMap a2y++ov.flatMap a2y:=by show(L1++L2).map (·.1)=_;rw[Aw1,b2,c1]
        rw[e,ax1]at this;rw[Az9,ax1];exact this.symm
       have hLrow:∀p∈L,b2D (ext M1 μ1 g1 w' msF1) μ1 g1 w' p.1 p.2:=λ p hp=>(ax1.1 hp).elim (b4 p) (c2.rows p);have hMle:M.le (ext M1 μ1 g1 w' msF1):=Mem.le_trans a8H (Mem.le_trans hle1 a8H);have hloc:∀b,b∈ptc->base<=b\/b∈m:=λ b hb=>by
        obtain⟨id,cap,x,z1,z2,_⟩:=hptc b hb;exact(hI.at_ z1 z2).2
       have hloc2:∀b,(w.heap.size<=b\/b∈ptc)->base<=b\/b∈m:=λ b hb=>hb.elim (λ h=> .inl (av9 hI.size h)) (hloc b);have hget3:∀i,a0b ((a1R (h2,nx2) v).2.1++H) i=if nx2<=i/\i<(a1R (h2,nx2) v).2.2 then(L2[i-nx2]?).map (·.2)else a0b (h2++H) i:=c2.get
       have hself:∀(j p id:Nat),ps[j]?=some p->(List.range ps.length)[j]?=some id->μ2 p=μ1 id:=λ j p id hj hid=>by
        have hjl:j<ps.length:=(ay0.1 hj).1;rw[ao6 hjl]at hid;injection hid with hid
        subst hid;obtain⟨b',cap',y1,_⟩:=hptr j p hj;rw[hold p (λ h=>absurd (hlt p (ax4 hj)) (by omega)),y1];exact(hμ1 j _ (by rw[hpt j p hj];exact y1)).symm
       have hbox:∀i x,a0b ((a1R (h2,nx2) v).2.1++H) i=some x->
         (∃(j b cap:Nat) (cs:List V),¬(nx<=i/\i<nx+L.length)/\ps[j]?=some i/\j<ps.length/\d i=some (b,cap)/\μ1 j=some (b,cap)/\g1 j=some (.var cs)/\(∃l,x= .var l)/\BoxAt (ext M1 μ1 g1 w' msF1) μ2 w' b cap x)\/
         (∃p,nx<=i/\L[i-nx]?=some p/\p.2=x/\p∈L)\/
         (∃y b cap,¬(nx<=i/\i<nx+L.length)/\i∉ps/\i∉ks/\a0b H i=some y/\d i=some (b,cap)/\y.held<=x.held/\BoxAt M d w b cap x):=by
        intro i x hx;rw[hget3 i]at hx;by_cases i1:nx2<=i/\i<(a1R (h2,nx2) v).2.2
        .rw[ax3 i1]at hx;simp only[az2]at hx;obtain⟨p,hp,rfl⟩:=hx;refine .inr (.inl ⟨p,by omega,?_,rfl,aw2 _ (ax4 hp)⟩);show(L1++L2)[i-nx]?=_;rw[av3 (by omega),show i-nx-L1.length=i-nx2 by omega];exact hp
        .rw[ay9 i1]at hx;by_cases i2:nx<=i/\i<nx+L1.length
         .rw[b5 i i2]at hx;simp only[az2]at hx;obtain⟨p,hp,rfl⟩:=hx;refine .inr (.inl ⟨p,i2.1,?_,rfl,av4 _ (ax4 hp)⟩);show(L1++L2)[i-nx]?=_;rw[aw1 (by omega)];exact hp
         .by_cases i3:i∈ps
          .obtain⟨j,hj⟩:=List.getElem?_of_mem i3;rw[b6 j i hj]at hx;simp only[az2]at hx;obtain⟨l,hl,rfl⟩:=hx;have hjl:j<ps.length:=(ay0.1 hj).1;obtain⟨b,cap,z1,⟨cs,z2⟩,z3⟩:=b8 μ2 hpl1 hself j j l (ao6 hjl) hl;obtain⟨b',cap',y1,_⟩:=hptr j i hj;have e:μ1 j=some (b',cap'):=hμ1 j _ (by rw[hpt j i hj];exact y1);rw[z1]at e;injection e with e;injection e with e1 e2;subst e1;subst e2;exact .inl ⟨j,b,cap,cs,(λ h=>absurd (hlt i i3) (by omega)),hj,hjl,y1,z1,z2,⟨l,rfl⟩,z3⟩
          .rw[b7 i i3 i2,b5F]at hx;split at hx
           .cases hx
           .next hik=>
            have hy:∃y,a0b H i=some y/\y.held<=x.held/\∀{b cap:Nat},BoxAt M d w b cap y->BoxAt M d w b cap x:=by
             cases hg:a0b H i with
             |none=>rw[hg]at hx;cases hx
             |some y=>
              rw[hg]at hx;cases y with
              |row ty sz xs f=>
               simp only at hx;split at hx
               .cases hx;exact⟨_,rfl,by cases f<;>simp[Box.held],λ hb=>hb⟩
               .cases hx;exact⟨_,rfl,ay3 _,λ hb=>hb⟩
              |var cs=>cases hx;exact⟨_,rfl,ay3 _,λ hb=>hb⟩
              |map es=>cases hx;exact⟨_,rfl,ay3 _,λ hb=>hb⟩
            obtain⟨y,hy1,hy2,hy3⟩:=hy;obtain⟨b,cap,hp⟩:=hI.pl hy1;have hinx:¬(nx<=i/\i<nx+L.length):=λ h=>by
             rw[hn i h.1 (by omega)]at hp;cases hp
            exact .inr (.inr ⟨y,b,cap,hinx,i3,hik,hy1,hp,hy2,hy3 (hI.at_ hy1 hp).1⟩)
       have hstay:∀{i b cap:Nat} {y:Box},a0b H i=some y->d i=some (b,cap)->i∉ps->i∉ks->b<w.heap.size/\b∉ptc:=λ {i b cap y} hy hp i1 i2=>by
        refine⟨(hI.at_ hy hp).1.lt,λ hb=> ?_⟩;obtain⟨id,cap',x,z1,z2,z3⟩:=hptc b hb;have:id=i:=hI.inj id i b cap' cap ⟨_,z1⟩ ⟨_,hy⟩ z2 hp;subst this;exact z3.elim i1 i2
       have hnewb:∀{b o:Nat} {u:Value},ext M1 μ1 g1 w' msF1 b o=some u->b<w.heap.size->b∉ptc->ext M d (a0b H) w ms' b o=some u:=λ {b o u} hu h1 h2=>by
        rcases b7q hI1 b o u hu with hu|hu|hu
        .rcases hnew1 b o u hu with hu|hu|hu
         .exact hu
         .omega
         .exact absurd hu h2
        .omega
        .exact absurd hu h2
       refine⟨ext M1 μ1 g1 w' msF1,μ2,hMle,λ b o u hu=> ?_,hμ2,c3 μ2 hpl2,⟨c2M hI1,λ i x hx=> ?_,?_,λ i x b cap o u hx hm hM=> ?_,hI1.os.trans hI.os,hI1.tape.trans hI.tape,hI1.output.trans hI.output,av9 hI.size hI1.size,λ b hb hbp=> ?_,hI.gl⟩,λ i hi hj=> ?_⟩
       .rcases b7q hI1 b o u hu with hu|hu
        .rcases hnew1 b o u hu with hu|hu
         .rcases b7q hI b o u hu with hu|hu
          .exact .inl hu
          .exact .inr hu
         .exact .inr (hloc2 b hu)
        .exact .inr (hloc2 b hu)
       .rcases hbox i x hx with⟨j,b,cap,cs,i1,_,_,i2,i3,i4,_,i5⟩|⟨p,i1,i2,rfl,i4⟩|⟨y,b,cap,i1,i2,i3,i4,i5,_,i7⟩
        .exact⟨b,cap,by rw[hold i i1];exact i2,i5,hloc2 b (hI1.at_ i4 i3).2⟩
        .obtain⟨b,cap,ty,sz,xs,xs',f,r1,r2,r3,r4,r5⟩:=hLrow p i4;have:=hpl (i-nx) p i2;rw[show nx+(i-nx)=i by omega,r1]at this;exact⟨b,cap,this,r5 μ2,hloc2 b (hI1.at_ r2 r1).2⟩
        .obtain⟨s1,s2⟩:=hstay i4 i5 i2 i3;exact⟨b,cap,by rw[hold i i1];exact i5,(i7.block (hI1.frame b s1 s2)).mono hMle hμ2,(hI.at_ i4 i5).2⟩
       .rintro i j b c c' ⟨x,hx⟩ ⟨y,hy⟩ hi hj;rcases hbox i x hx with⟨ji,b1',cap1,cs1,i1,i0,il,i2,i3,i4,_,_⟩|⟨p,i1,i2,rfl,i4⟩|⟨y1,b1',cap1,i1,i2,i3,i4,i5,_,_⟩
        .rw[hold i i1]at hi;rcases hbox j y hy with⟨jj,b2',cap2,cs2,j1,j0,jl,j2,j3,j4,_,_⟩|⟨q,j1,j2,rfl,j4⟩|⟨y2,b2',cap2,j1,j2,j3,j4,j5,_,_⟩
         .rw[hold j j1]at hj;obtain⟨_,_,_,cs,z⟩:=hptr ji i i0;obtain⟨_,_,_,cs',z'⟩:=hptr jj j j0;exact hI.inj i j b c c' ⟨_,z⟩ ⟨_,z'⟩ hi hj
         .obtain⟨bb,cap,ty,sz,xs,xs',f,r1,r2,r3,r4,r5⟩:=hLrow q j4;have hq:=hpl (j-nx) q j2;rw[show nx+(j-nx)=j by omega,hj]at hq;rw[hi]at i2;injection i2 with i2;injection i2 with e1 e2;subst e1;subst e2;have:=hI1.inj ji q.1 b c c' ⟨_,i4⟩ ⟨_,r2⟩ i3 hq.symm;subst this;rw[i4]at r2;cases r2
         .rw[hold j j1]at hj;obtain⟨_,_,_,cs,z⟩:=hptr ji i i0;exact hI.inj i j b c c' ⟨_,z⟩ ⟨_,j4⟩ hi hj
        .obtain⟨bb,cap,ty,sz,xs,xs',f,r1,r2,r3,r4,r5⟩:=hLrow p i4;have hp:=hpl (i-nx) p i2;rw[show nx+(i-nx)=i by omega,hi]at hp;rcases hbox j y hy with⟨jj,b2',cap2,cs2,j1,j0,jl,j2,j3,j4,_,_⟩|⟨q,j1,j2,rfl,j4⟩|⟨y2,b2',cap2,j1,j2,j3,j4,j5,_,_⟩
         .rw[hold j j1,j2]at hj;injection hj with hj;injection hj with e1 e2;subst e1;subst e2
          have:=hI1.inj jj p.1 b2' cap2 c ⟨_,j4⟩ ⟨_,r2⟩ j3 hp.symm;subst this;rw[j4]at r2;cases r2
         .obtain⟨bb',cap',ty',sz',ys,ys',f',s1,s2,s3,s4,s5⟩:=hLrow q j4;have hq:=hpl (j-nx) q j2;rw[show nx+(j-nx)=j by omega,hj]at hq;have e:p.1=q.1:=hI1.inj p.1 q.1 b c c' ⟨_,r2⟩ ⟨_,s2⟩ hp.symm hq.symm;have h1:(L.map (·.1))[i-nx]?=some p.1:=by rw[au3,i2];rfl
          have h2:(L.map (·.1))[j-nx]?=some q.1:=by rw[au3,j2];rfl
          obtain⟨l1,g1'⟩:=ay0.1 h1;obtain⟨l2,g2'⟩:=ay0.1 h2;have:=b1b hLn l1 l2 (by rw[g1',g2',e]);omega
         .rw[hold j j1]at hj;obtain⟨t1,t2⟩:=hstay j4 hj j2 j3;rcases(hI1.at_ r2 hp.symm).2 with h|h
          .omega
          .exact absurd h t2
        .rw[hold i i1]at hi;obtain⟨t1,t2⟩:=hstay i4 hi i2 i3;rcases hbox j y hy with⟨jj,b2',cap2,cs2,j1,j0,jl,j2,j3,j4,_,_⟩|⟨q,j1,j2,rfl,j4⟩|⟨y2,b2',cap2,j1,j2,j3,j4,j5,_,_⟩
         .rw[hold j j1]at hj;obtain⟨_,_,_,cs',z'⟩:=hptr jj j j0;exact hI.inj i j b c c' ⟨_,i4⟩ ⟨_,z'⟩ hi hj
         .obtain⟨bb',cap',ty',sz',ys,ys',f',s1,s2,s3,s4,s5⟩:=hLrow q j4;have hq:=hpl (j-nx) q j2;rw[show nx+(j-nx)=j by omega,hj]at hq;rcases(hI1.at_ s2 hq.symm).2 with h|h
          .omega
          .exact absurd h t2
         .rw[hold j j1]at hj;exact hI.inj i j b c c' ⟨_,i4⟩ ⟨_,j4⟩ hi hj
       .rcases hbox i x hx with⟨j,b',cap',cs,i1,_,_,i2,i3,i4,⟨l,rfl⟩,_⟩|⟨p,i1,i2,rfl,i4⟩|⟨y,b',cap',i1,i2,i3,i4,i5,i6,_⟩
        .rw[hold i i1,i2]at hm;injection hm with hm;injection hm with e1 e2;subst e1;subst e2
         rcases b3C hI1 i4 i3 hM with hs|⟨_,_,_,_,hs,_⟩
         .exact absurd hs (as0 _)
         .cases hs
        .obtain⟨bb,cap',ty,sz,xs,xs',f,r1,r2,r3,r4,r5⟩:=hLrow p i4;have hp:=hpl (i-nx) p i2;rw[show nx+(i-nx)=i by omega,hm]at hp;rw[r3];rcases b3C hI1 r2 hp.symm hM with hs|⟨ty2,sz2,xs2,f2,hs,hid,hs2⟩
         .cases f with
          |false=>exact absurd hs (as0 _)
          |true=>show o<xs'.length*sz;rw[r4];exact hs
         .injection hs with h1 h2 h3 h4
          subst h1;subst h2;subst h3;subst h4;have:=c6Q hfr (hLmem p i4) hid r2;subst this;show o<xs'.length*sz;rw[r4];exact hs2
        .rw[hold i i1,i5]at hm;injection hm with hm;injection hm with e1 e2;subst e1;subst e2
         obtain⟨s1,s2⟩:=hstay i4 i5 i2 i3;have hM':=hnewb hM s1 s2;rcases b3C hI i4 i5 hM' with hs|⟨ty2,sz2,xs2,f2,rfl,hid,hs2⟩
         .exact aw9 hs i6
         .
          have hx3:x= .row ty2 sz2 xs2 true:=by
           replace hx:a0b ((a1R (h2,nx2) v).2.1++H) i=some x:=hx;rw[hget3 i,ay9 (by omega),b7 i i2 (by omega),b5F,ay9 i3,i4]at hx;simp only[hid,aw4]at hx;injection hx with hx
           exact hx.symm
          subst hx3;exact hs2
       .rw[hI1.frame b (aw9 hb hI.size) (λ hbc=> ?_)]
        .exact hI.frame b hb hbp
        .rcases hloc b hbc with h|h
         .omega
         .exact hbp h
       .rw[hold i (λ h=>hj (by
         show _/\i<nx+((a1R (h2,nx2) v).2.2-nx);omega))]
        exact hi
end
end
section
open Go.RowKit
def a2R(P:Program)(k:Nat)(asq:List V)(bs:List (List V))(v:V)(b:List (List V)):Prop:=b6L P k=true/\
 ∀{w:World} {M:Mem} {μ:Pl} {us:Array Value} {a:List Nat},Inv w.heap.size a w M μ (a0b (a0w 0 ([],bs.length) bs).1) w->(∀i,(a0w 0 ([],bs.length) bs).2<=i->μ i=none)->ListRep M μ asq us.toList->
  Go.Calls P k us w (Ret λ u c=>d6f w.heap.size a w M μ bs.length v b u c)
variable {P:Program}
theorem b6j{call:Calls}{n k:Nat}{args:List V}{h:HP}{nx:Nat}{q:V×St}(c0L:∀(k:Nat)(fn:Func),P.funcs[k]?=some fn->fn.name≠ "runtime.NumGoroutine")
  (hb:a1j P call n k args h nx=some q):b6L P k=true:=by
 grind[a1j,az3,b6L]
theorem c5d{prim:Nat->Option Fp}{inl:Nat->Bool}
  (c0L:∀(k:Nat) (fn:Func),P.funcs[k]?=some fn->fn.name≠ "runtime.NumGoroutine") (p:∀call,CallsOk P call->b5A P call)
  (g:∀k f asq bs v b,prim k=some f->f asq bs=some (v,b)->a2R P k asq bs v b):∀n,c6H P (a0d P prim inl n).cbv/\CallsOk P (a0d P prim inl n):=by
 intro n;induction n with
 |zero=>
  have h1:c6H P (a0d P prim inl 0).cbv:=λ h=>by simp[a0d]at h
  refine⟨h1,⟨λ hI hn ha h=>d0r h1 hI hn ha h,λ hk hI hn ha h=> ?_⟩⟩;grind[a0d]
 |succ n ih=>
  obtain⟨_,hc⟩:=ih;have hd:b5A P (a0d P prim inl n):= @p _ hc;have h1:c6H P (a0d P prim inl (n+1)).cbv:=by
   intro k asq bs v b h;simp only[a0d]at h;split at h
   .next f hf=>exact g k f asq bs v b hf h
   .simp only[Az0,az3]at h;obtain⟨⟨v1,s⟩,hb,⟨F,t⟩,a,⟨l,ms,ks⟩,i,h⟩:=h;split at h
    .cases h
    .next d=>
     have q:a1u (a0b s.h) ms ks=true:=by simpa using d
     injection h with h;injection h with e1 e2;subst e1;subst e2
     refine⟨b6j c0L hb,λ {w M μ us G} hI hn ha=>(b8v hc hd hI hn ha hb).mono λ e A he=> ?_⟩;cases e with
     |panicked c=>exact he.elim
     |outgrown=>exact he.elim
     |returned u=>
      obtain⟨B,m,H,I,J,C,o,Q⟩:=he;obtain⟨oss,e1,e2,e3,e4,e5,e6⟩:=a4N o i (a1a _);have r:∃ov,Imp (ext B m (a0b s.h) A ms) m (a0b s.h) A ov (λ s=>a1R s F) u/\t.2=(ov.flatMap a2y).reverse/\t.2.Nodup:=by
       unfold a5t at a;split at a
       .obtain⟨ov,g1,g2,g3,g4⟩:=c4I (msF:=ms) o a e4 C;grind
       .unfold c6k at a;split at a
        .next v0 K x y=>
         split at a
         .next z=>
          simp only[az0,az8]at a;obtain⟨rfl,rfl⟩:=a;obtain⟨ov,g1,g2,g3,g4⟩:=c4I (msF:=ms) o y e4 C;have D:ov.flatMap a2y=[]:=by
           have L:x.length=s.nx:=z;have:=an8 List.length g3;simp only[ar0,List.length_reverse,aq8]at this;exact ay7.1 (by omega)
          grind
         .cases a
        .cases a
      obtain⟨ov,g1,g3,g4⟩:=r;have N:ks=((ov++oss.flatten).flatMap a2y).reverse:=by
       have:=e5;simp only at this;rw[this,g3];simp
      have E:bs.length=(List.range bs.length).length:=by simp
      refine⟨B,m,a0b s.h,ms,ov,oss,H,I,J,o,g1,by grind,by grind,λ j l os hj h1 h2=>e3 j j l os (ao6 hj) h1 h2,?_,?_⟩
      .grind[b0R]
      grind[a1u]
  refine⟨h1,⟨λ hI hn ha h=>d0r h1 hI hn ha h,λ {base O R w M μ h nx k args us fn v S nx'} hk hI hn ha h=> ?_⟩⟩;simp only[a0d]at hk;grind[az2,b6j,b8v]
end
section
theorem a6v{A B:Type}{f f':A->Option B}:∀{l:List A},(∀a∈l,f a=f' a)->a0D f l=a0D f' l
 |[],_=>rfl
 |a::l,h=>by
  simp only[a0D];rw[h a (ay1 ..),a6v λ b hb=>h b (az9 _ hb)]
theorem a2N{S A B:Type}{f f':S->A->Option (B×S)}:∀{l:List A} {s:S},(∀a∈l,∀s,f s a=f' s a)->a0G f s l=a0G f' s l
 |[],_,_=>rfl
 |a::l,s,h=>by
  simp only[a0G];rw[h a (ay1 ..)];cases f' s a with
  |none=>rfl
  |some p=>obtain⟨b,c⟩:=p;simp only;rw[a2N λ b hb=>h b (az9 _ hb)]
def Agree(g g':G)(l:List Nat):Prop:=∀id∈l,g id=g' id
variable {g g':G} {l l':List Nat}
theorem Agree.left(h:Agree g g' (l++l')):Agree g g' l:=λ id hi=>h id (av4 _ hi)
theorem Agree.right(h:Agree g g' (l++l')):Agree g g' l':=λ id hi=>h id (aw2 _ hi)
theorem Agree.flat{A:Type}{f:A->List Nat}{l:List A}(h:Agree g g' (l.flatMap f)){a:A}(ha:a∈l):Agree g g' (f a):=λ id hi=>h id (ax9.2 ⟨a,ha,hi⟩)
section
variable {g g':G}
theorem a3T:∀(d:Nat) (ms:List Nat) (v:V),Agree g g' (a1O d g v)->a0C d g ms v=a0C d g' ms v/\a1O d g v=a1O d g' v
 |0,_,_,_=>⟨rfl,rfl⟩
 |d+1,ms,v,h=>by
  have hl:∀(l:List V),Agree g g' (l.flatMap (a1O d g))->(∀ms,a0G (a0C d g) ms l=a0G (a0C d g') ms l)/\l.flatMap (a1O d g)=l.flatMap (a1O d g'):=λ l h=>
   ⟨λ ms=>a2N λ a ha s=>(a3T d s a (h.flat ha)).1,by
    have:∀a∈l,a1O d g a=a1O d g' a:=λ a ha=>(a3T d [] a (h.flat ha)).2;clear h;induction l with
    |nil=>rfl
    |cons a l ih=>grind⟩
  cases v with
  |agg cs=>simp only[a1O]at h;obtain⟨h1,h2⟩:=hl cs h;simp_all[a0C,a1O]
  |tup cs=>simp only[a1O]at h;obtain⟨h1,h2⟩:=hl cs h;simp_all[a0C,a1O]
  |row id sz off n=>
   simp only[a1O]at h;have h0:=h id (ay1 ..);have b:Agree g g' (match g id with
    |some (.row _ _ xs _)=>((xs.drop off).take n).flatMap (a1O d g)
    |_=>[]):=λ i hi=>h i (az9 _ hi)
   simp only[a0C,a1O,<-h0];grind
  |_=>exact⟨rfl,rfl⟩
theorem b3T{A:Type}{f f':A->List Nat}:∀{l:List A},(∀a∈l,f a=f' a)->l.flatMap f=l.flatMap f'
 |[],_=>rfl
 |a::l,h=>by simp only[List.flatMap_cons];rw[h a (ay1 ..),b3T λ b hb=>h b (az9 _ hb)]
theorem a3X:∀(d:Nat) (s:List Nat×List Nat) (v:V),Agree g g' (a2D d g v)->a1y d g s v=a1y d g' s v/\a2D d g v=a2D d g' v
 |0,_,_,_=>⟨rfl,rfl⟩
 |d+1,(ms,ps),v,h=>by
  have dat:Agree g g' (a1O ED g v)->((match a0C ED g ms v with
    |some (v,ms)=>some (v,ms,ps)
    |none=>none)=(match a0C ED g' ms v with
    |some (v,ms)=>some (v,ms,ps)
    |none=>none))/\a1O ED g v=a1O ED g' v:=λ h=>by
   grind[a3T]
  cases v with
  |ptr id off=>
   simp only[a2D]at h;have h0:=h id (ay1 ..);refine⟨rfl,?_⟩;simp only[a2D,<-h0];have e:Agree g g' (match g id with
    |some (.var cs)=>cs.flatMap (a1O (ED+1) g)
    |_=>[]):=λ i hi=>h i (az9 _ hi)
   cases hg:g id with
   |none=>rfl
   |some x=>
    cases x with
    |var cs=>rw[hg]at e;simp only;rw[b3T λ a ha=>(a3T (ED+1) [] a (e.flat ha)).2]
    |_=>rfl
  |fn f a b=>simp only[a2D]at h;have h1:a0G (a1y d g) (ms,ps) a=a0G (a1y d g') (ms,ps) a:=a2N λ x hx s=>(a3X d s x (h.left.flat hx)).1;have h2:∀s,a0G (a1y d g) s b=a0G (a1y d g') s b:=λ s=>a2N λ x hx s=>(a3X d s x (h.right.flat hx)).1;have e1:a.flatMap (a2D d g)=a.flatMap (a2D d g'):=b3T λ x hx=>(a3X d ([],[]) x (h.left.flat hx)).2;have e2:b.flatMap (a2D d g)=b.flatMap (a2D d g'):=b3T λ x hx=>(a3X d ([],[]) x (h.right.flat hx)).2;simp_all[a1y,a2D]
  |lit u=>exact dat (by grind[a2D])
  |nils=>exact dat (by grind[a2D])
  |slf xs=>exact dat (by grind[a2D])
  |sl o xs=>exact dat (by grind[a2D])
  |agg cs=>exact dat (by grind[a2D])
  |tup cs=>exact dat (by grind[a2D])
  |row a b c d=>exact dat (by grind[a2D])
  |eptr a b c d=>exact dat (by grind[a2D])
  |dptr cs=>exact dat (by grind[a2D])
  |map id=>exact dat (by grind[a2D])
  |und=>exact dat (by grind[a2D])
variable {p:V}
theorem b3b(h:Agree g g' (a2z p)):a0E g p=a0E g' p:=by
 cases p with
 |ptr id off=>have:=h id (by simp[a2z]);simp[a0E,this]
 |eptr id sz i off=>have:=h id (by simp[a2z]);simp[a0E,this]
 |_=>rfl
theorem b0m(h:Agree g g' (a2z p)):a4Q g p=a4Q g' p:=by
 cases p with
 |row id sz off n=>have:=h id (by simp[a2z]);simp[a4Q,this]
 |_=>rfl
theorem b7X(h:Agree g g' (a2z p)):a4j g p=a4j g' p:=by
 cases p with
 |lit u=>cases u<;>rfl
 |row id sz off n=>exact b0m h
 |_=>rfl
theorem b4a{vs:List V}(h:Agree g g' (a2z p)):storeAt g p vs=storeAt g' p vs:=by
 cases p with
 |ptr id off=>have:=h id (by simp[a2z]);simp[storeAt,this]
 |eptr id sz i off=>have:=h id (by simp[a2z]);simp[storeAt,this]
 |_=>rfl
theorem b2Y{P:Program}{nx t u:Nat}{a x:V}(h1:Agree g g' (a2z a))(h2:Agree g g' (a2z x)):a0M P g nx t u a x=a0M P g' nx t u a x:=by
 unfold a0M;rw[b7X h2];cases a with
 |row id z off n=>have:=h1 id (by simp[a2z]);simp only[this]
 |_=>rfl
end
end
section
variable {g g':G}
theorem b1h:∀(d:Nat) (v:V),a1O d g v⊆a1O (d+1) g v
 |0,v=>λ _ h=>by simp[a1O]at h
 |d+1,v=>by
  have hl:∀(l:List V),l.flatMap (a1O d g)⊆l.flatMap (a1O (d+1) g):=λ l x hx=>by
   obtain⟨a,ha,hx⟩:=ax9.1 hx;exact ax9.2 ⟨a,ha,b1h d a hx⟩
  cases v with
  |agg cs=>exact hl cs
  |tup cs=>exact hl cs
  |row id sz off n=>
   simp only[a1O];intro x hx;rcases ay4.1 hx with rfl|hx
   .exact ay1 ..
   .refine az9 _ ?_;split at hx
    .next ty z xs f hg=>
     exact hl _ hx
    .cases hx
  |_=>exact λ _ h=>h
theorem b2M:∀(d:Nat) (ms:List Nat) (v j:V) (e:List Nat),a0C d g ms v=some (j,e)->∀x∈e,x∈ms\/x∈a1O d g v
 |0,_,_,_,_,h=>by simp[a0C]at h
 |d+1,ms,v,j,e,h=>by
  have hm:∀{l r:List V} {s i:List Nat},a0G (a0C d g) s l=some (r,i)->∀x∈i,x∈s\/x∈l.flatMap (a1O d g):=by
   intro l;induction l with
   |nil=>intro r s i h x hx;simp only[a0G,az0,az8]at h;exact .inl (h.2▸hx)
   |cons a l ih=>
    intro r s i h x hx;simp only[a0G]at h;split at h
    .cases h
    .next b k h1=>
     split at h
     .cases h
     .next bs p h2=>
      simp only[az0,az8]at h;obtain⟨_,rfl⟩:=h;rcases ih h2 x hx with h|h
      .rcases b2M d _ _ _ _ h1 x h with h|h
       .grind
       .grind
      .obtain⟨c,hc,h⟩:=ax9.1 h;exact .inr (ax9.2 ⟨c,az9 _ hc,h⟩)
  intro x hx;cases v with
  |lit u=>simp only[a0C,az0,az8]at h;exact .inl (h.2▸hx)
  |nils=>grind[a0C]
  |sl o xs=>grind[a0C]
  |slf xs=>grind[a0C]
  |agg cs=>
   simp only[a0C]at h;split at h
   .next l m hl=>simp only[az0,az8]at h;exact hm hl x (h.2▸hx)
   .cases h
  |tup cs=>
   simp only[a0C]at h;split at h
   .next l m hl=>simp only[az0,az8]at h;exact hm hl x (h.2▸hx)
   .cases h
  |row id sz off n=>
   simp only[a0C]at h;split at h
   .next ty z xs f hg=>
    split at h
    .split at h
     .next l m hl=>
      simp only[az0,az8]at h;obtain⟨_,rfl⟩:=h;simp only[a1O,hg];rcases hm hl x hx with h|h
      .rcases ay4.1 h with rfl|h
       .grind
       .grind
      .grind
     .cases h
    .cases h
   .cases h
  |_=>simp[a0C]at h
theorem b8Y{d:Nat}:∀{l r:List V} {s e:List Nat},a0G (a0C d g) s l=some (r,e)->∀x∈e,x∈s\/x∈l.flatMap (a1O d g)
 |[],r,s,e,h,x,hx=>by simp only[a0G,az0,az8]at h;exact .inl (h.2▸hx)
 |a::l,r,s,e,h,x,hx=>by
  simp only[a0G]at h;split at h
  .cases h
  .next b f h1=>
   split at h
   .cases h
   .next bs i h2=>
    simp only[az0,az8]at h;obtain⟨_,rfl⟩:=h;rcases b8Y h2 x hx with h|h
    .rcases b2M d _ _ _ _ h1 x h with h|h
     .exact .inl h
     .exact .inr (ax9.2 ⟨a,ay1 ..,h⟩)
    .obtain⟨c,hc,h⟩:=ax9.1 h;exact .inr (ax9.2 ⟨c,az9 _ hc,h⟩)
variable {s:List Nat×List Nat} {v:V}
theorem a7E(h:Agree g g' (a1O (ED+1) g v)):a0h g s v=a0h g' s v/\
  ∀c b,a0h g s v=some (c,b)->(∀x∈b.1,x∈s.1\/x∈a1O (ED+1) g v)/\∀x∈b.2,x∈s.2\/x∈a1O (ED+1) g v:=by
 have h8:Agree g g' (a1O ED g v):=λ i hi=>h i (b1h ED v hi);have dat:(match a0C ED g s.1 v with
   |some (v,ms)=>some (v,ms,s.2)
   |none=>none)=(match a0C ED g' s.1 v with
   |some (v,ms)=>some (v,ms,s.2)
   |none=>none):=by grind[a3T]
 have d:∀c b,(match a0C ED g s.1 v with
   |some (v,ms)=>some (v,ms,s.2)
   |none=>none)=some (c,b)->(∀x∈b.1,x∈s.1\/x∈a1O (ED+1) g v)/\∀x∈b.2,x∈s.2\/x∈a1O (ED+1) g v:=by
  intro c b h;split at h
  .next he=>
   simp only[az0,az8]at h;obtain⟨_,rfl⟩:=h;exact⟨λ x hx=>(b2M ED _ _ _ _ he x hx).imp (λ h=>h) (λ h=>b1h ED v h),λ x hx=> .inl hx⟩
  .cases h
 cases v with
 |row id sz off n=>
  have h0:=h id (by simp[a1O]);simp only[a0h,<-h0];cases hg:g id with
  |none=>exact⟨rfl,λ c b h=>by cases h⟩
  |some x=>
   cases x with
   |row ty z xs f=>
    simp only;split
    .next hc=>
     obtain⟨rfl,rfl,rfl,_⟩:=hc;have hx:Agree g g' (xs.flatMap (a1O ED g)):=λ i hi=>h i (by
      simp only[a1O,hg];refine az9 _ ?_;simpa[a1O]using hi)
     have e:a0G (a0C ED g) s.1 xs=a0G (a0C ED g') s.1 xs:=a2N λ a ha s=>(a3T ED s a (hx.flat ha)).1;rw[<-e];refine⟨rfl,λ c b h=> ?_⟩;split at h
     .next l m hl=>
      simp only[az0,az8]at h;obtain⟨_,rfl⟩:=h;refine⟨λ x hx=>(b8Y hl x hx).imp (λ h=>h) λ h=> ?_,λ x hx=> ?_⟩
      .simp only[a1O,hg];refine az9 _ ?_;simpa[a1O]using h
      .rcases ay4.1 hx with rfl|hx;all_goals grind[a1O]
     .cases h
    .exact⟨dat,d⟩
   |_=>grind
 |dptr cs=>
  cases cs with
  |nil=>exact⟨rfl,λ c b h=>by
    simp only[a0h,az0,az8]at h;obtain⟨_,rfl⟩:=h;exact⟨λ x hx=> .inl hx,λ x hx=> .inl hx⟩⟩
  |cons _ _=>exact⟨dat,d⟩
 |_=>exact⟨dat,d⟩
variable {id:Nat}
theorem b7g:∀i∈a1O (ED+1) g (a0S id v),i∈a1O (ED+1) g v:=by
 intro i hi;unfold a0S at hi;split at hi
 .split at hi
  .simp[a1O]at hi
  .exact hi
 .exact hi
theorem a5F{cs:List V}:∀i∈(cs.map (a0S id)).flatMap (a1O (ED+1) g),i∈cs.flatMap (a1O (ED+1) g):=by
 intro i hi;obtain⟨x,hx,hi⟩:=ax9.1 hi;obtain⟨y,hy,rfl⟩:=ax5.1 hx;exact ax9.2 ⟨y,hy,b7g i hi⟩
theorem a8F(h0:g id=g' id)(h:∀cs,g id=some (.var cs)->Agree g g' (cs.flatMap (a1O (ED+1) g))):a1x g s id=a1x g' s id/\
  ∀c d,a1x g s id=some (c,d)->∃cs,g id=some (.var cs)/\(∀x∈d.1,x∈s.1\/x∈cs.flatMap (a1O (ED+1) g))/\∀x∈d.2,x∈s.2\/x∈cs.flatMap (a1O (ED+1) g):=by
 unfold a1x;rw[<-h0];cases hg:g id with
 |none=>exact⟨rfl,λ c d h=>by cases h⟩
 |some x=>
  cases x with
  |var cs=>
   have f:=h cs hg;have hc:Agree g g' ((cs.map (a0S id)).flatMap (a1O (ED+1) g)):=λ i hi=>f i (a5F i hi);simp only;split
   .exact⟨rfl,λ c d h=>by cases h⟩
   refine⟨a2N λ a ha s=>(a7E (hc.flat ha)).1,λ c d h=>⟨cs,rfl,?_⟩⟩;clear hg h0;have key:∀(cs:List V) {c:List V} {s d:List Nat×List Nat},Agree g g' (cs.flatMap (a1O (ED+1) g))->a0G (a0h g) s cs=some (c,d)->(∀x∈d.1,x∈s.1\/x∈cs.flatMap (a1O (ED+1) g))/\∀x∈d.2,x∈s.2\/x∈cs.flatMap (a1O (ED+1) g):=by
    intro cs;induction cs with
    |nil=>intro c s d _ h;simp only[a0G,az0,az8]at h;obtain⟨_,rfl⟩:=h;exact⟨λ x hx=> .inl hx,λ x hx=> .inl hx⟩
    |cons a cs ih=>
     intro c s d ha h;simp only[a0G]at h;split at h
     .cases h
     .next b q h1=>
      split at h
      .cases h
      .next bs r h2=>
       simp only[az0,az8]at h;obtain⟨_,rfl⟩:=h;have j:Agree g g' (a1O (ED+1) g a):=ha.flat (ay1 ..);obtain⟨k,l⟩:=(a7E j).2 _ _ h1;obtain⟨m,n⟩:=ih (λ i hi=>ha i (by
        obtain⟨x,hx,hi⟩:=ax9.1 hi;exact ax9.2 ⟨x,az9 _ hx,hi⟩)) h2
       have up:∀x,x∈a1O (ED+1) g a->x∈(a::cs).flatMap (a1O (ED+1) g):=λ x hx=>ax9.2 ⟨a,ay1 ..,hx⟩;have e:∀x,x∈cs.flatMap (a1O (ED+1) g)->x∈(a::cs).flatMap (a1O (ED+1) g):=λ x hx=>by
        obtain⟨y,hy,hx⟩:=ax9.1 hx;exact ax9.2 ⟨y,az9 _ hy,hx⟩
       exact⟨λ x hx=>(m x hx).elim (λ h=>(k x h).imp (λ h=>h) (up x)) (λ h=> .inr (e x h)),λ x hx=>(n x hx).elim (λ h=>(l x h).imp (λ h=>h) (up x)) (λ h=> .inr (e x h))⟩
   obtain⟨o,p⟩:=key _ hc h;exact⟨λ x hx=>(o x hx).imp (λ h=>h) (a5F x),λ x hx=>(p x hx).imp (λ h=>h) (a5F x)⟩
  |_=>grind
theorem b8V:∀(d:Nat) (s j:List Nat×List Nat) (v c:V),a1y d g s v=some (c,j)->(∀x∈j.1,x∈s.1\/x∈a2D d g v)/\
  ∀x∈j.2,x∈s.2\/(x∈a2D d g v/\∀cs,g x=some (.var cs)->cs.flatMap (a1O (ED+1) g)⊆a2D d g v)
 |0,_,_,_,_,h=>by simp[a1y]at h
 |d+1,(ms,ps),j,v,c,h=>by
  have hm:∀(l:List V) {r:List V} {s j:List Nat×List Nat},a0G (a1y d g) s l=some (r,j)->(∀x∈j.1,x∈s.1\/x∈l.flatMap (a2D d g))/\
    ∀x∈j.2,x∈s.2\/(x∈l.flatMap (a2D d g)/\∀cs,g x=some (.var cs)->cs.flatMap (a1O (ED+1) g)⊆l.flatMap (a2D d g)):=by
   intro l;induction l with
   |nil=>intro r s j h;simp only[a0G,az0,az8]at h;obtain⟨_,rfl⟩:=h;exact⟨λ x hx=> .inl hx,λ x hx=> .inl hx⟩
   |cons a l ih=>
    intro r s j h;simp only[a0G]at h;split at h
    .cases h
    .next b u h1=>
     split at h
     .cases h
     .next bs w h2=>
      simp only[az0,az8]at h;obtain⟨_,rfl⟩:=h;obtain⟨n,o⟩:=b8V d _ _ _ _ h1;obtain⟨p,q⟩:=ih h2;have up:a2D d g a⊆(a::l).flatMap (a2D d g):=λ x hx=>ax9.2 ⟨a,ay1 ..,hx⟩;have m:l.flatMap (a2D d g)⊆(a::l).flatMap (a2D d g):=λ x hx=>by
       obtain⟨y,hy,hx⟩:=ax9.1 hx;exact ax9.2 ⟨y,az9 _ hy,hx⟩
      refine⟨λ x hx=>(p x hx).elim (λ h=>(n x h).imp (λ h=>h) (λ h=>up h)) (λ h=> .inr (m h)),λ x hx=> ?_⟩;rcases q x hx with h|⟨h,k⟩
      .rcases o x h with h|⟨h,k⟩
       .exact .inl h
       .exact .inr ⟨up h,λ cs i=>aw3 (k cs i) up⟩
      .exact .inr ⟨m h,λ cs i=>aw3 (k cs i) m⟩
  have t:a2D (d+1) g v=a1O ED g v->(match a0C ED g ms v with
    |some (v,ms)=>some (v,ms,ps)
    |none=>none)=some (c,j)->(∀x∈j.1,x∈ms\/x∈a2D (d+1) g v)/\∀x∈j.2,x∈ps\/(x∈a2D (d+1) g v/\∀cs,g x=some (.var cs)->cs.flatMap (a1O (ED+1) g)⊆a2D (d+1) g v):=by
   intro e h;rw[e];split at h
   .next he=>
    simp only[az0,az8]at h;obtain⟨_,rfl⟩:=h;exact⟨λ x hx=>b2M ED _ _ _ _ he x hx,λ x hx=> .inl hx⟩
   .cases h
  cases v with
  |ptr id off=>
   simp only[a1y]at h;split at h
   .cases h
   .split at h
    .simp only[az0,az8]at h;obtain⟨_,rfl⟩:=h;exact⟨λ x hx=> .inl hx,λ x hx=> .inl hx⟩
    .simp only[az0,az8]at h;obtain⟨_,rfl⟩:=h;refine⟨λ x hx=> .inl hx,λ x hx=> ?_⟩;rcases ax1.1 hx with h|h
     .exact .inl h
     .have:x=id:=by simpa using h
      subst this;refine .inr ⟨by simp[a2D],λ cs i=> ?_⟩;simp only[a2D,i];exact λ y hy=>az9 _ hy
  |fn f a b=>
   simp only[a1y]at h;split at h
   .cases h
   .next l1 u h1=>
    split at h
    .cases h
    .next l2 w h2=>
     simp only[az0,az8]at h;obtain⟨_,rfl⟩:=h;obtain⟨n,o⟩:=hm a h1;obtain⟨p,q⟩:=hm b h2;simp only[a2D];refine⟨λ x hx=>(p x hx).elim (λ h=>(n x h).imp (λ h=>h) (λ h=>av4 _ h)) (λ h=> .inr (aw2 _ h)),λ x hx=> ?_⟩;rcases q x hx with h|⟨h,k⟩
     .rcases o x h with h|⟨h,k⟩
      .exact .inl h
      .exact .inr ⟨av4 _ h,λ cs i=>aw3 (k cs i) (List.subset_append_left _ _)⟩
     .exact .inr ⟨aw2 _ h,λ cs i=>aw3 (k cs i) (List.subset_append_right _ _)⟩
  |_=>exact t rfl h
end
section
variable {g g':G}
theorem b6t{d:Nat}:∀{l r:List V} {s c:List Nat×List Nat},a0G (a1y d g) s l=some (r,c)->(∀x∈c.1,x∈s.1\/x∈l.flatMap (a2D d g))/\
  ∀x∈c.2,x∈s.2\/(x∈l.flatMap (a2D d g)/\∀cs,g x=some (.var cs)->cs.flatMap (a1O (ED+1) g)⊆l.flatMap (a2D d g))
 |[],r,s,c,h=>by
  simp only[a0G,az0,az8]at h;grind
 |a::l,r,s,c,h=>by
  simp only[a0G]at h;split at h
  .cases h
  .next b n h1=>
   split at h
   .cases h
   .next bs o h2=>
    simp only[az0,az8]at h;obtain⟨_,rfl⟩:=h;obtain⟨f,i⟩:=b8V d _ _ _ _ h1;obtain⟨j,m⟩:=b6t h2;have up:a2D d g a⊆(a::l).flatMap (a2D d g):=λ x hx=>ax9.2 ⟨a,ay1 ..,hx⟩;have e:l.flatMap (a2D d g)⊆(a::l).flatMap (a2D d g):=λ x hx=>by
     grind
    refine⟨λ x hx=>(j x hx).elim (λ h=>(f x h).imp (λ h=>h) (λ h=>up h)) (λ h=> .inr (e h)),λ x hx=> ?_⟩;rcases m x hx with h|⟨h,k⟩
    .rcases i x h with h|⟨h,k⟩
     .grind
     .grind
    .grind
variable {A ps:List Nat}
theorem c2n{o:List Nat×List Nat->Nat->Option (List V×List Nat×List Nat)}:∀{s:List Nat×List Nat},(∀x∈ps,∀s c a,o s x=some (c,a)->(∀y∈a.1,y∈s.1\/y∈A)/\∀y∈a.2,y∈s.2\/y∈A)->
  ∀r a,a0G o s ps=some (r,a)->(∀x∈a.1,x∈s.1\/x∈A)/\∀x∈a.2,x∈s.2\/x∈A:=by
 induction ps with
 |nil=>intro s _ r a h;simp only[a0G,az0,az8]at h;grind
 |cons id ps ih=>
  intro s h r a hr;have d:=λ x hx=>h x (az9 id hx);have h0:=h id (ay1 ..) s;cases hv:o s id with
  |none=>grind[a0G]
  |some p=>
   obtain⟨b,e⟩:=p;have i2:=ih (s:=e) d;simp only[a0G,hv]at hr;cases h3:a0G o e ps with
   |none=>grind
   |some q=>obtain⟨bs,l⟩:=q;rw[h3]at hr;simp only[az0,az8]at hr;obtain⟨_,rfl⟩:=hr;obtain⟨f,i⟩:=h0 _ _ hv;obtain⟨j,k⟩:=i2 _ _ h3;exact⟨λ x hx=>(j x hx).elim (f x) .inr,λ x hx=>(k x hx).elim (i x) .inr⟩
variable {s:List Nat×List Nat}
theorem c2I(hA:Agree g g' A){x:Nat}(hx:x∈A)(hc:∀cs,g x=some (.var cs)->cs.flatMap (a1O (ED+1) g)⊆A){c:List V}{b:List Nat×List Nat}(h:a1x g s x=some (c,b)):(∀y∈b.1,y∈s.1\/y∈A)/\∀y∈b.2,y∈s.2\/y∈A:=by
 obtain⟨cs,a,d,e⟩:=(a8F (s:=s) (hA x hx) (λ cs a=>λ i hi=>hA i (hc cs a hi))).2 c b h;have hs:=hc cs a;revert d e hs;generalize cs.flatMap (a1O (ED+1) g)=L;intro d e hs;exact⟨λ y hy=>(d y hy).imp id (λ h=>hs h),λ y hy=>(e y hy).imp id (λ h=>hs h)⟩
theorem c0A(hA:Agree g g' A)(h:∀x∈ps,x∈A/\∀cs,g x=some (.var cs)->cs.flatMap (a1O (ED+1) g)⊆A):a0G (a1x g) s ps=a0G (a1x g') s ps/\
  ∀r a,a0G (a1x g) s ps=some (r,a)->(∀x∈a.1,x∈s.1\/x∈A)/\∀x∈a.2,x∈s.2\/x∈A:=
 ⟨a2N λ x hx s=>(a8F (s:=s) (hA x (h x hx).1) (λ cs b=>λ i hi=>hA i ((h x hx).2 cs b hi))).1,
  c2n λ x hx s c a e=>c2I hA (h x hx).1 (h x hx).2 e⟩
def Keys(h:HP)(nx:Nat)(h2:HP)(nx2:Nat)(A:List Nat):Prop:=nx<=nx2/\∀p∈h2,p∈h\/(nx<=p.1/\p.1<nx2)\/p.1∈A
variable {h:HP} {nx:Nat}
theorem Keys.refl:Keys h nx h nx A:=⟨ay3 _,λ p hp=> .inl hp⟩
theorem Keys.trans{h1 h2:HP}{c nx2:Nat}(a:Keys h nx h1 c A)(b:Keys h1 c h2 nx2 A):Keys h nx h2 nx2 A:=by
 refine⟨av9 a.1 b.1,λ p hp=> ?_⟩;have h1:=a.1;have h2:=b.1;rcases b.2 p hp with h|h|h
 .rcases a.2 p h with h|h|h
  .grind
  .grind
  .grind
 .grind
 .grind
variable {c:V}
theorem a9O:Keys h nx (a0J (h,nx) c).2.1 (a0J (h,nx) c).2.2 A:=by
 unfold a0J;split
 .refine⟨by simp,λ p hp=> ?_⟩;rcases ay4.1 hp with rfl|hp
  .exact .inr (.inl (by simp))
  .grind
 .exact Keys.refl
theorem a5u{A:List Nat}:∀{l:List V} {h:HP} {nx:Nat},Keys h nx (a0f (h,nx) l).2.1 (a0f (h,nx) l).2.2 A
 |[],_,_=>Keys.refl
 |c::l,h,nx=>(a9O (c:=c)).trans (a5u (l:=l))
theorem b0K:Keys h nx (a2B (h,nx) c).2.1 (a2B (h,nx) c).2.2 A:=by
 by_cases h1:a3E c=1
 .cases c<;>first|exact a5u|cases h1
 .rw[a4X h1];exact a9O
theorem a8D{A:List Nat}:∀{l:List V} {h:HP} {nx:Nat},Keys h nx (a1Z (h,nx) l).2.1 (a1Z (h,nx) l).2.2 A
 |[],_,_=>Keys.refl
 |c::l,h,nx=>(b0K (c:=c)).trans (a8D (l:=l))
theorem c0U:Keys h nx (a1R (h,nx) c).2.1 (a1R (h,nx) c).2.2 A:=by
 by_cases h1:a3E c=2
 .cases c<;>first|exact a8D|cases h1
 .rw[a6a h1];exact b0K
theorem a9W{A:List Nat}:∀{ps:List Nat} {bs:List (List V)} {h h2:HP} {nx nx2:Nat},(∀x∈ps,x∈A)->a2s (h,nx) ps bs=some (h2,nx2)->Keys h nx h2 nx2 A
 |[],[],h,h2,nx,nx2,_,e=>by
  simp only[a2s,az0,az8]at e;grind[Keys.refl]
 |[],_::_,_,_,_,_,_,e=>by simp[a2s]at e
 |_::_,[],_,_,_,_,_,e=>by simp[a2s]at e
 |id::ps,b::bs,h,h2,nx,nx2,hA,e=>by
  simp only[a2s]at e;have k:=a9W (λ x hx=>hA x (az9 _ hx)) e;refine Keys.trans (a5u (l:=b)) ⟨k.1,λ p hp=> ?_⟩;rcases k.2 p hp with h|h
  .rcases ay4.1 h with rfl|h
   .grind
   .grind
  .grind
variable {ms:List Nat}
theorem c0Q:∀p∈a3y g ms,p.1∈ms:=by
 induction ms with
 |nil=>intro p hp;cases hp
 |cons id ms ih=>
  intro p hp;simp only[a3y]at hp;split at hp
  .rcases ay4.1 hp with rfl|hp
   .grind
   .grind
  .grind
theorem b8f(h:Agree g g' ms):a3y g ms=a3y g' ms:=by
 induction ms with
 |nil=>rfl
 |cons id ms ih=>simp only[a3y];rw[h id (ay1 ..),ih λ x hx=>h x (az9 _ hx)]
theorem b5T{ks:List Nat}(h:Agree g g' ks):a1u g ms ks=a1u g' ms ks:=by
 unfold a1u;induction ks with
 |nil=>rfl
 |cons id ks ih=>simp only[Az3];rw[h id (ay1 ..),ih λ x hx=>h x (az9 _ hx)]
theorem b0z{call:a7F}{k:Nat}{args:List V}(h:Agree g g' (args.flatMap (a2D 4 g))):a1q call g nx k args=a1q call g' nx k args/\
  ∀r,a1q call g nx k args=some r->∀p∈r.upd,p.1∈args.flatMap (a2D 4 g)\/(nx<=p.1/\p.1<nx+r.cnt):=by
 unfold a1q;have e1:a0G (a1y 4 g) ([],[]) args=a0G (a1y 4 g') ([],[]) args:=a2N λ a ha s=>(a3X 4 s a (h.flat ha)).1;rw[<-e1];cases hm:a0G (a1y 4 g) ([],[]) args with
 |none=>grind
 |some t=>
  obtain⟨asq,ms,ps⟩:=t;simp only;obtain⟨i,j⟩:=b6t hm;have b:∀x∈ps,x∈args.flatMap (a2D 4 g)/\∀cs,g x=some (.var cs)->cs.flatMap (a1O (ED+1) g)⊆args.flatMap (a2D 4 g):=λ x hx=>(j x hx).resolve_left (by simp);obtain⟨e2,e3⟩:=c0A (s:=(ms,[])) h b;rw[<-e2];cases hv:a0G (a1x g) (ms,[]) ps with
  |none=>grind
  |some t=>
   obtain⟨bs,d,ks⟩:=t;simp only;obtain⟨l,m⟩:=e3 _ _ hv;have f:∀x∈d,x∈args.flatMap (a2D 4 g):=λ x hx=>(l x hx).elim (λ h=>(i x h).resolve_left (by simp)) (λ h=>h);have e:∀x∈ks,x∈args.flatMap (a2D 4 g):=λ x hx=>(m x hx).resolve_left (by simp);rw[<-b5T (g:=g) (g':=g') (ms:=d) λ x hx=>h x (e x hx),<-b8f (g:=g) (g':=g') λ x hx=>h x (f x hx)];refine⟨rfl,λ r hr=> ?_⟩;split at hr
   .cases hr
   .split at hr
    .cases hr
    .next v n hc=>
     split at hr
     .cases hr
     .next t hb=>
      obtain⟨h2,nx2⟩:=t;injection hr with hr
      subst hr;have k1:=a9W (A:=args.flatMap (a2D 4 g)) (λ x hx=>(b x hx).1) hb;have k2:=c0U (h:=h2) (nx:=nx2) (c:=v) (A:=args.flatMap (a2D 4 g));have k:=k1.trans k2;intro p hp;have o:=k.1;rcases k.2 p hp with h|h|h
      .rcases ax1.1 h with h|h
       .obtain⟨id,hid,rfl⟩:=ax5.1 h;exact .inl (e id hid)
       grind[c0Q]
      .refine .inr ⟨h.1,?_⟩;show p.1<nx+((a1R (h2,nx2) v).2.2-nx);omega
      .grind
end
section
variable {P:Program} {get w:Nat->V}
variable {xs:Array Operand}
theorem b0x(h:∀x∈xs,ev get x=ev w x):evs get xs=evs w xs:=a6v λ a ha=>h a (Array.mem_def.2 ha)
theorem a9Q{x:Option Operand}(h:∀y∈x.toArray,ev get y=ev w y):evo get x=evo w x:=by
 cases x with
 |none=>rfl
 |some x=>simp only[evo,h x (by simp)]
variable {call:Calls} {nx:Nat}
theorem d1J{g:G}(o:Oper)(h:∀x∈o.op.operands,ev get x=ev w x):opE P call get g nx o=opE P call w g nx o:=by
 obtain⟨d,op,type,pos,after,guard⟩:=o;have one:∀{x:Operand},x∈op.operands->ev get x=ev w x:=λ hx=>h _ hx;unfold opE;cases op;case call c=>
  grind[b0x,Op.operands,Call.operands]
 case build t ps=>
  have hp:∀pl,a0D (a3b get pl) ps.toList=a0D (a3b w pl) ps.toList:=λ pl=>a6v λ p hp=>by
   simp only[a3b];rw[one (x:=p.2) (by simp only[Op.operands,List.mem_toArray];grind)]
  simp only[hp]
 case buildSlice t n ps=>
  have hp:a0D (a3a get) ps.toList=a0D (a3a w) ps.toList:=a6v λ p hp=>by
   simp only[a3a];rw[one (x:=p.2) (by simp only[Op.operands,List.mem_toArray];grind)]
  simp only[hp]
 case makeFunc fn first cap=>
  have h1:evs get first=evs w first:=b0x λ x hx=>one (by simp[Op.operands,hx])
  have h2:evs get cap=evs w cap:=b0x λ x hx=>one (by simp[Op.operands,hx]);cases fn<;>grind
 case makeMap t r=>cases r<;>rfl
 case slice t x lo hi mx=>
  have h0:ev get x=ev w x:=one (by simp[Op.operands]);have h1:evo get lo=evo w lo:=a9Q λ y hy=>one (by grind[Op.operands]);have h2:evo get hi=evo w hi:=a9Q λ y hy=>one (by grind[Op.operands]);have h3:evo get mx=evo w mx:=a9Q λ y hy=>one (by grind[Op.operands]);simp only[h0,h1,h2,h3]
 case pick c a b=>
  have h0:ev get c=ev w c:=one (by simp[Op.operands]);have h1:ev get a=ev w a:=one (by simp[Op.operands]);have h2:ev get b=ev w b:=one (by simp[Op.operands]);have h3:∀t:Bool,ev get (if t then a else b)=ev w (if t then a else b):=λ t=>by grind
  simp only[h0,h3]
 case mapUpdate t m k x=>
  have h0:ev get m=ev w m:=one (by simp[Op.operands]);have h1:ev get k=ev w k:=one (by simp[Op.operands]);have h2:ev get x=ev w x:=one (by simp[Op.operands]);simp only[h0,h1,h2]
 case insert t m k x=>
  have h0:ev get m=ev w m:=one (by simp[Op.operands]);have h1:ev get k=ev w k:=one (by simp[Op.operands]);have h2:ev get x=ev w x:=one (by simp[Op.operands]);simp only[h0,h1,h2]
 all_goals first
  |rfl
  |grind[Op.operands]
  |grind[Op.operands]
  |grind[Op.operands]
  |(rename_i x y z
    have h0:ev get x=ev w x:=one (by simp[Op.operands]);have h1:ev get y=ev w y:=one (by simp[Op.operands]);simp only[h0,h1];done)
  |skip
theorem c6A(h:∀t,Operand.tmp t∈xs->get t=w t):∀x∈xs,ev get x=ev w x:=λ x hx=>by
 cases x with
 |tmp t=>simp only[ev,h t hx]
 |_=>rfl
theorem a7P{x:Operand}{v:V}(h:ev get x=some v):a5V get x=a2z v:=by simp only[a5V,h]
theorem a3h{A B:Type}{f:A->Option B}:∀{l:List A} {r:List B},a0D f l=some r->r.length=l.length/\(∀b∈r,∃a∈l,f a=some b)/\∀(i:Nat) (a:A),l[i]?=some a->∃b,r[i]?=some b/\f a=some b
 |[],r,h=>by
  simp only[a0D,az0]at h;grind
 |a::l,r,h=>by
  simp only[a0D]at h;split at h
  .cases h
  .next b h1=>
   split at h
   .cases h
   .next bs h2=>
    injection h with h
    subst h;obtain⟨p,q,s⟩:=a3h h2;refine⟨by simp[p],λ c hc=> ?_,λ i x hx=> ?_⟩
    .rcases ay4.1 hc with rfl|hc
     .grind
     .grind
    .cases i with
     |zero=>grind
     |succ i=>grind
variable {g g':G}
theorem d2H(o:Oper)(h:Agree g g' (a3q get o++a2w get g o)):opE P call get g nx o=opE P call get g' nx o:=by
 obtain⟨l,op,type,pos,after,guard⟩:=o;have hr:=h.left;have hw:=h.right;clear h;unfold opE;cases op;case load t a=>
  simp only;cases ha:ev get a with
  |none=>rfl
  |some p=>grind[a3q,a7P,b3b]
 case store t a x=>
  simp only;cases ha:ev get a with
  |none=>rfl
  |some p=>simp only[a2w,a7P ha]at hw;simp only[Az0,az1,b4a hw]
 case convert s d x=>
  simp only;cases ha:ev get x with
  |none=>rfl
  |some p=>simp only[a3q,a7P ha]at hr;simp only[Az0,az1,b0m hr]
 case insert t m k x=>
  simp only;cases ha:ev get m with
  |none=>rfl
  |some p=>
   simp only[a2w,a7P ha]at hw;simp only[Az0,az1];cases p with
   |map id=>have e:=hw id (by simp[a2z]);grind
   |_=>grind
 case mapUpdate t m k x=>
  simp only;cases ha:ev get m with
  |none=>rfl
  |some p=>
   simp only[a2w,a7P ha]at hw;simp only[Az0,az1];cases p with
   |map id=>have e:=hw id (by simp[a2z]);grind
   |_=>grind
 case lookup t m k b=>
  simp only;cases ha:ev get m with
  |none=>rfl
  |some p=>
   simp only[a3q,a7P ha]at hr;simp only[Az0,az1];cases p with
   |map id=>have e:=hr id (by simp[a2z]);grind
   |_=>grind
 case call c=>
  obtain⟨callee,args,i⟩:=c;simp only;cases ha:evs get args with
  |none=>rfl
  |some asq=>
   simp only[Az0,az1];obtain⟨l1,l2,l3⟩:=a3h ha;cases callee with
   |builtin b=>
    cases b;case append=>
     simp only;split
     .next a x t u _=>
      have e0:∀y,args[0]?=some y->ev get y=some a:=λ y hy=>by
       obtain⟨b,hb,e⟩:=l3 0 y (by grind);grind
      have e1:∀y,args[1]?=some y->ev get y=some x:=λ y hy=>by
       obtain⟨b,hb,e⟩:=l3 1 y (by grind);grind
      have j:args.size=2:=by simpa using l1.symm
      obtain⟨n,h0⟩:∃y,args[0]?=some y:=⟨args[0],by simp[j]⟩;obtain⟨q,h1⟩:∃y,args[1]?=some y:=⟨args[1],by simp[j]⟩;simp only[a2w,h0,a7P (e0 n h0)]at hw;simp only[a3q,h1,a7P (e1 q h1)]at hr;exact b2Y hw hr
     .rfl
    all_goals rfl
   |invoke r m=>rfl
   |value f=>
    simp only;cases hf:ev get f with
    |none=>rfl
    |some v=>
     simp only[az1];cases v with
     |fn k a b=>
      simp only;split
      .rfl
      .refine(b0z ?_).1;simp only[a2w,hf,d5h]at hw;intro id hid;refine hw id ?_;simp only[Az9,ax1]at hid|-;rcases hid with(hid|hid)|hid
       .grind
       .obtain⟨v,hv,hid⟩:=ax9.1 hid;obtain⟨y,hy,e⟩:=l2 v hv;exact .inr (ax9.2 ⟨y,hy,by grind⟩)
       .grind
     |_=>rfl
 case makeFunc fn first cap=>cases fn<;>rfl
 case makeMap t r=>cases r<;>rfl
 all_goals rfl
end
section
def Turns(L:List Nat)(nx:Nat)(x:Option Out):Prop:=∀r,x=some r->∀p∈r.upd,p.1∈L\/(nx<=p.1/\p.1<nx+r.cnt)
variable {L:List Nat} {nx:Nat}
theorem Turns.none:Turns L nx none:=nofun
theorem Turns.bind{A:Type}{x:Option A}{f:A->Option Out}(h:∀a,x=some a->Turns L nx (f a)):Turns L nx (x.bind f):=by
 cases x with
 |none=>exact Turns.none
 |some a=>exact h a rfl
variable {k:Nat} {v:V}
theorem Turns.nil:Turns L nx (some {v:=v,upd:=[],cnt:=k}):=λ r h p hp=>by
 cases h;cases hp
theorem a4C:Turns L nx (pure {v:=v,upd:=[],cnt:=k}):=Turns.nil
variable {b:Option Box}
theorem Turns.new:Turns L nx (some {v:=v,upd:=[(nx,b)],cnt:=1}):=λ r h p hp=>by
 cases h;have:p=(nx,b):=by simpa using hp
 subst this;exact .inr ⟨ay3 _,au5 _⟩
theorem a6y:Turns L nx (pure {v:=v,upd:=[(nx,b)],cnt:=1}):=Turns.new
theorem Turns.one{id:Nat}(h:id∈L):Turns L nx (pure {v:=v,upd:=[(id,b)],cnt:=k}):=λ r a p hp=>by
 injection a with a;subst a
 have:p=(id,b):=by simpa using hp
 subst this;exact .inl h
theorem b5b{g:G}{p:V}{vs:List V}{u:HP}(h:storeAt g p vs=some u):∀q∈u,q.1∈a2z p:=by
 unfold storeAt at h;split at h
 .split at h
  .split at h
   .split at h
    .cases h
    cases h;intro q hq;have:q.1=_:=an8 Prod.fst (az7.1 hq);simp[a2z,this]
   .cases h
  .cases h
 .split at h
  .simp only[Az0]at h;obtain⟨x,_,h⟩:=az3.1 h;split at h
   .obtain⟨a,_,h⟩:=az3.1 h;cases h;intro q hq;have:q.1=_:=an8 Prod.fst (az7.1 hq);simp[a2z,this]
   .cases h
  .cases h
 .cases h
theorem b4j{P:Program}{g:G}{t u:Nat}{a x:V}:Turns (a2z a) nx (a0M P g nx t u a x):=by
 unfold a0M;simp only[Az0];refine Turns.bind λ e _=>Turns.bind λ i _=>Turns.bind λ z _=>Turns.bind λ d _=>Turns.bind λ b _=> ?_;split
 .exact Turns.none
 .split
  .split
   .exact a4C
   .split
    .exact Turns.none
    .exact a6y
  .split
   .exact a4C
   .split
    .exact Turns.none
    .exact a6y
  .split
   .split
    .exact Turns.none
    .intro r h p hp;cases h;rcases ay4.1 hp with rfl|hp
     .exact .inr ⟨ay3 _,au5 _⟩
     .have:p=_:=az7.1 hp;subst this;exact .inl (by simp[a2z])
   .exact Turns.none
  .exact Turns.none
variable {P:Program} {get:Nat->V} {g:G}
theorem c4z{call:Calls}(o:Oper):Turns (a2w get g o) nx (opE P call get g nx o):=by
 obtain⟨dst,op,type,pos,after,guard⟩:=o;unfold opE;simp only[Az0];cases op;case store t a x=>
  simp only;refine Turns.bind λ p hp=>Turns.bind λ v _=>Turns.bind λ n _=> ?_;split
  .exact Turns.none
  .refine Turns.bind λ u hu=> ?_;intro r h q hq;cases h;exact .inl (by simp only[a2w,a7P hp];grind[b5b])
 case insert t m k x=>
  simp only;refine Turns.bind λ p hp=> ?_;split
  .next id _ _ _=>
   split
   .refine Turns.bind λ key _=>Turns.bind λ ku _=>Turns.bind λ v _=> ?_;split
    .exact Turns.none
    .refine Turns.bind λ fk _=> ?_;split
     .split
      .exact Turns.one (by simp[a2w,a7P hp,a2z])
      .exact Turns.none
     .exact Turns.one (by simp[a2w,a7P hp,a2z])
   .exact Turns.none
  .exact Turns.none
 case mapUpdate t m k x=>
  simp only;refine Turns.bind λ p hp=> ?_;split
  .next id _ _ _=>
   split
   .refine Turns.bind λ key _=>Turns.bind λ ku _=>Turns.bind λ v _=> ?_;split
    .exact Turns.none
    .refine Turns.bind λ fk _=> ?_;split
     .split
      .exact Turns.one (by simp[a2w,a7P hp,a2z])
      .exact Turns.none
     .exact Turns.one (by simp[a2w,a7P hp,a2z])
   .exact Turns.none
  .exact Turns.none
 case call c=>
  obtain⟨callee,args,argTypes⟩:=c;simp only;refine Turns.bind λ asq ha=> ?_;obtain⟨l1,l2,l3⟩:=a3h ha;cases callee with
  |builtin b=>
   cases b;case append=>
    simp only;split
    .next a x t u _=>
     have hsz:args.size=2:=by simpa using l1.symm
     obtain⟨y0,h0⟩:∃y,args[0]?=some y:=⟨args[0],by simp[hsz]⟩;have e0:ev get y0=some a:=by
      obtain⟨b,hb,e⟩:=l3 0 y0 (by rw[<-ap9]at h0;exact h0);simp only[as6,az0]at hb;subst hb;exact e
     simp_all[a2w,a7P,b4j]
    .exact Turns.none
   all_goals
    simp only;repeat' first|exact Turns.none|exact a4C|(refine Turns.bind λ _ _=> ?_)|split
  |invoke r m=>exact Turns.none
  |value f=>
   simp only;refine Turns.bind λ v hf=> ?_;cases v with
   |fn k a b=>
    simp only;split
    .exact Turns.none
    .intro r hr p hp;rcases(b0z (g:=g) (g':=g) (λ id _=>rfl)).2 r hr p hp with h|h
     .refine .inl ?_;simp only[a2w,hf,d5h];simp only[Az9,ax1]at h|-;rcases h with(h|h)|h
      .grind
      .obtain⟨v,hv,hid⟩:=ax9.1 h;obtain⟨y,hy,e⟩:=l2 v hv;exact .inr (ax9.2 ⟨y,hy,by grind⟩)
      .grind
     .grind
   |_=>exact Turns.none
 case makeFunc fn first cap=>
  cases fn<;>first|exact Turns.none|skip
  grind[Turns.bind,a4C]
 case makeMap t r=>cases r<;>grind[a6y,Turns.none]
 all_goals first
  |exact Turns.none
  |(simp only
    repeat' first|exact Turns.none|exact a4C|exact a6y|(refine Turns.bind λ _ _=> ?_)|split)
end
section
def a5p(a:Array Nat)(o:Oper):Array Nat:=a.push (o.after.foldl (λ s e=>if Region.binds .any e then s|||2^e.on|||a.getD e.on 0 else s) 0)
def SpecB(L:List Oper)(a:Array Nat):Prop:=a.size=L.length/\∀(j:Nat) (o:Oper) (i:Nat),L[j]?=some o->(a.getD j 0).testBit i=true->
 ∃e∈o.after,Region.binds .any e=true/\(i=e.on\/(e.on<j/\(a.getD e.on 0).testBit i=true))
theorem d4N{a:Array Nat}{i:Nat}:∀(l:List Edge) (s:Nat),(l.foldl (λ s e=>if Region.binds .any e then s|||2^e.on|||a.getD e.on 0 else s) s).testBit i=true->
  s.testBit i=true\/∃e∈l,Region.binds .any e=true/\(i=e.on\/(a.getD e.on 0).testBit i=true)
 |[],s,h=> .inl h
 |e::l,s,h=>by
  rw[Au2]at h;rcases d4N l _ h with h|⟨b,he,h⟩;all_goals grind
variable {a:Array Nat}
theorem b3d{j i:Nat}(h:(a.getD j 0).testBit i=true):j<a.size:=by
 grind
theorem SpecB.step{L:List Oper}{o:Oper}(h:SpecB L a):SpecB (L++[o]) (a5p a o):=by
 obtain⟨h1,h2⟩:=h;have old:∀k,k<a.size->(a5p a o).getD k 0=a.getD k 0:=λ k hk=>by
  simp_all[a5p,As5]
 refine⟨by simp[a5p,h1],λ j c i hj hb=> ?_⟩;rcases as5 j L.length with hl|hl
 .grind
 .have b:j=L.length:=by
   have:=(ay0.1 hj).1;simp at this;omega
  subst b;have:o=c:=by simpa using hj
  subst this;have hv:(a5p a o).getD L.length 0=o.after.foldl (λ s e=>if Region.binds .any e then s|||2^e.on|||a.getD e.on 0 else s) 0:=by
   unfold a5p;rw[<-h1,ax6,At8];rfl
  rw[hv,<-Az6]at hb;rcases d4N _ _ hb with h|⟨e,he,d,h⟩;all_goals grind
theorem b2H:∀(l L:List Oper) (a:Array Nat),SpecB L a->SpecB (L++l) (l.foldl a5p a)
 |[],L,a,h=>by grind
 |o::l,L,a,h=>by
  have:=b2H l (L++[o]) (a5p a o) h.step;simpa using this
theorem a9L(ops:Array Oper):SpecB ops.toList (Region.before ops):=by
 have h0:SpecB [] #[]:=⟨rfl,λ j o i h=>by simp at h⟩;have:=b2H ops.toList [] #[] h0;have e:Region.before ops=ops.toList.foldl a5p #[]:=by
  unfold Region.before;rw[<-Az6];rfl
 grind
def Cl(ops:Array Oper)(D:Nat->Bool):Prop:=∀(j:Nat) (o:Oper),ops[j]?=some o->D j=true->∀e∈o.after,Region.binds .any e=true->D e.on=true
theorem Cl.before{ops:Array Oper}{D:Nat->Bool}(h:Cl ops D):∀(j i:Nat),D j=true->((Region.before ops).getD j 0).testBit i=true->D i=true:=by
 intro j;induction j using Nat.strongRecOn with
 |ind j ih=>
  intro i hj hb;have hs:=a9L ops;have a:=b3d hb;have hl:j<ops.toList.length:=by rw[<-hs.1];exact a
  have ho:ops.toList[j]?=some ops.toList[j]:=az5 hl;obtain⟨e,he,b,c⟩:=hs.2 j _ i ho hb;have hd:=h j _ (by grind) hj e he b;grind
end
section
open Go.RowKit
section
def Ones(x:Option Out):Prop:=∀r,x=some r->r.cnt=1
theorem Ones.none:Ones none:=nofun
theorem Ones.bind{A:Type}{x:Option A}{f:A->Option Out}(h:∀a,x=some a->Ones (f a)):Ones (x.bind f):=by
 cases x with
 |none=>exact Ones.none
 |some a=>grind
theorem Ones.one{v:V}{u:HP}:Ones (some {v:=v,upd:=u,cnt:=1}):=λ r h=>by grind
theorem Ones.one'{v:V}{u:HP}:Ones (pure {v:=v,upd:=u,cnt:=1}):=Ones.one
variable {P:Program} {base:Nat} {B:List Nat} {C w:World} {M E:Mem} {μ D:Pl} {g g':G} {get:Nat->V} {a:Act} {nx:Nat} {call:Calls} {o:Oper} {r:Out}
theorem b4Q{t u:Nat}{a x:V}:Ones (a0M P g nx t u a x):=by
 unfold a0M;simp only[Az0];repeat' first|exact Ones.none|exact Ones.one'|(refine Ones.bind λ _ _=> ?_)|split
def a9k:Op->Bool
 | .alloc _| .box _ _| .buildSlice _ _ _| .makeMap _ none| .makeSlice _ _ _=>true
 | .call {callee:= .builtin .append,.. }=>true
 |_=>false
theorem b9a(hm:a9k o.op=true):Ones (opE P call get g nx o):=by
 obtain⟨dst,op,type,pos,after,guard⟩:=o;unfold opE;simp only[Az0];cases op;case alloc t=>
  grind[Ones.none,Ones.one',Ones.bind]
 case box t x=>
  grind[Ones.none,Ones.one',Ones.bind]
 case buildSlice t n ps=>
  grind[Ones.one',Ones.bind]
 case makeMap t x=>
  cases x with
  |none=>exact Ones.one'
  |some x=>simp[a9k]at hm
 case makeSlice t l c=>
  simp only;repeat' first|exact Ones.none|exact Ones.one'|(refine Ones.bind λ _ _=> ?_)|split
 case call c=>
  obtain⟨callee,args,ts⟩:=c;cases callee with
  |builtin b=>
   cases b;case append=>
    grind[Ones.bind,b4Q,Ones.none]
   all_goals simp[a9k]at hm
  |_=>simp[a9k]at hm
 all_goals simp[a9k]at hm
theorem d2i(hm:0<r.cnt->μ nx=none)(hI:Inv base B C M μ g w)(hS:Slots M μ get a)(hv:∀c f,o.op= .call c->c.callee≠ .value f)(h:opE P call get g nx o=some r):
  OpOk P base B C M μ g w a nx o r:=by
 have one:a9k o.op=true->μ nx=none:=λ e=>hm (by rw[b9a e r h];decide);cases ho:o.op with
 |move x=>grind[b3S]
 |assign x=>exact b3S (.inr ho) hI hS h
 |pick c x y=>grind[c1W]
 |alloc t=>exact b8s ho (one (by rw[ho];rfl)) hI h
 |box t x=>exact c9q ho (one (by rw[ho];rfl)) hI hS h
 |build t parts=>grind[b9C]
 |buildSlice t n parts=>exact a7J ho (one (by rw[ho];rfl)) hI hS h
 |load t x=>grind[c5v]
 |store t x y=>grind[b9V]
 |nilCheck x=>grind[a9R]
 |fieldAddr t x f=>grind[a9a]
 |field t x f=>grind[b9A]
 |indexAddr t x i=>grind[a8z]
 |index t x i=>grind[b9x]
 |slice t x l u m=>grind[b9R]
 |binOp op t x y u=>grind[c9G]
 |unOp op t x=>grind[d3K]
 |convert s d x=>grind[b2k]
 |makeFunc f xs j=>
  cases f with
  |func f=>grind[b0u]
  |_=>simp[opE,ho]at h
 |makeMap t x=>
  cases x with
  |none=>exact b1S ho (one (by rw[ho];rfl)) hI h
  |some x=>simp[opE,ho]at h
 |insert t m k x=>exact a4u (.inr ho) hI hS h
 |mapUpdate t m k x=>grind[a4u]
 |lookup t m k ok=>grind[b5f]
 |makeSlice t l c=>exact a8K ho (one (by rw[ho];rfl)) hI hS h
 |extract x i=>grind[b2b]
 |call c=>
  obtain⟨callee,args,p⟩:=c;cases callee with
  |value f=>grind
  |invoke x n=>simp[opE,ho]at h
  |builtin b=>
   cases b with
   |append=>exact b5H ho (one (by rw[ho];rfl)) hI hS h
   |len=>grind[a3U]
   |min=>grind[a3U]
   |max=>grind[a3U]
   |_=>simp[opE,ho]at h
 |_=>simp[opE,ho]at h
theorem c6M{H:HP}(hc:CallsOk P call)(hI:Inv base B C M μ (a0b H) w)(hS:Slots M μ get a)(hn:∀i,nx<=i->i<nx+r.cnt->μ i=none)
  (b:opE P call get (a0b H) nx o=some r) (next:Act->World->Prop) (Q:Exit->Act->World->Prop)
  (j:∀u q p d,M.le p->NewMem base B M p->μ.le d->RepV p d r.v u->Inv base B C p d (a0b (r.upd++H)) q->(∀i,μ i=none->¬(nx<=i/\i<nx+r.cnt)->d i=none)->next (a.put o.dst u) q):
  o.wp P a w next Q:=by
 by_cases hv:∀c f,o.op= .call c->c.callee≠ .value f
 .obtain⟨u,q,p,d,k1,k2,k3,k4,k5,k6⟩:=d2i (λ h0=>hn _ (ay3 _) (by omega)) hI hS hv b;subst k1;have t:=j u q _ d (Mem.le_refl _) NewMem.refl k2 k4 (by grind[a5e]) (λ i hi hw=>k6 i hi (by omega));unfold Oper.wp;grind[Oper.upon_value,Oper.upon_skip]
 .simp only[Classical.not_forall]at hv;obtain⟨c,f,ho,h⟩:=hv;obtain⟨callee,asq,z⟩:=c;have h:=Classical.not_not.1 h;simp only at h;subst h;simp only[opE,ho,Az0,az3]at b;obtain⟨l,hl,A,hf,b⟩:=b;split at b
  .next k x y=>
   split at b
   .cases b
   .obtain⟨X,Y,hu,hX,hY⟩:=b2J (a0A hS hf);have m:=b7u hS hl;obtain⟨s,n⟩:=hc.cbv (us:=X++asq.map a.eval++Y) hI hn (by simp only[Aw8];exact(hX.append m).append hY) b;unfold Oper.wp;rw[b0i ho hu s,Oper.upon_enter];refine n.mono λ e q he=> ?_;cases e with
    |returned v=>obtain⟨p,d,k1,k0,k2,k3,k4,k5⟩:=he;grind
    |panicked c=>exact he.elim
    |outgrown=>exact he.elim
  .cases b
end
end
end Go.PV
namespace Go.SN
section
open Go.PV
def b7W:TD->Bool
 | .bool| .int _ _ _| .str _| .lit _| .fns _=>true
 | .sl r _ _=> !r
 | .agg l=>l.all λ d=>match d with
   | .bool| .int _ _ _| .str _| .lit _| .fns _=>true
   | .sl r _ _=> !r
   |_=>false
 | .val r _=> !r
 | .rel l=>l.all λ d=>match d with
   | .bool| .int _ _ _| .str _| .lit _| .fns _=>true
   | .sl r _ _=> !r
   |_=>false
 |_=>false
def b0Y:Nat->AS->AV->Option (List Nat)
 |0,_,_=>none
 |n+1,a,v=>match v with
  | .bool _| .int _ _| .str _| .has _| .lit _| .nils| .fns _=>some []
  | .dat r _ d=>if r then(if(a3x 8 d).isSome then some [0]else none)else some []
  | .row nm sz off e=>match a4U a nm with
    |some (.row _ _ _ d _)=>if b7W d then some [nm+1]else if(a3x 8 d).isSome then some [nm+1,0]else none
    |_=>none
  | .agg l| .tup l=>(a0D (b0Y n a) l).map List.flatten
  |_=>none
def d2f(a:AS):AV->Option (List Nat)
 | .ptr _ _=>some []
 |v=>b0Y 6 a v
def b3L:Nat->AS->AV->Option (List Nat)
 |0,_,_=>none
 |n+1,a,v=>match v with
  | .ptr nm _=>match a4U a nm with
    |some (.var l)=>(a0D (d2f a) l).map λ x=>(nm+1)::x.flatten
    |_=>none
  | .fn _ x y=>match a0D (b3L n a) x,a0D (b3L n a) y with
    |some x,some y=>some (x.flatten++y.flatten)
    |_,_=>none
  |v=>b0Y 6 a v
def b4c(a:AS):AV->Option (List Nat)
 | .ptr nm _| .eptr nm _ _ _| .row nm _ _ _=>if(a4U a nm).isSome then some [nm+1]else none
 | .cptr _=>some [0]
 | .dat r _ _=>if r then some [0]else some []
 | .nils| .str _| .has _| .int _ _| .bool _| .lit _| .slf _ _=>some []
 |_=>none
def c8i(a:AS)(o:Oper):Option (List Nat×List Nat):=
 match o.op with
 | .load _ x=>((evA a x).bind (b4c a)).map λ l=>(l,[])
 | .convert _ _ x=>((evA a x).bind (b4c a)).map λ l=>(l,[])
 | .store _ x _=>((evA a x).bind (b4c a)).map λ l=>([],l)
 | .lookup .. | .insert .. | .mapUpdate .. =>none
 | .call {callee:= .builtin .append,args,.. }=>match c2c a args.toList with
   |some [x,y]=>match b4c a x,b4c a y with
    |some w,some r=>some (r,w)
    |_,_=>none
   |_=>none
 | .call {callee:= .value f,args,.. }=>match evA a f,c2c a args.toList with
   |some (.fn _ x y),some l=>(a0D (b3L 4 a) (x++l++y)).map λ l=>([],l.flatten)
   |some (.fns _),some l=>(a0D (b3L 4 a) l).map λ l=>([],l.flatten)
   |_,_=>none
 |_=>some ([],[])
section
variable {P:Program} {a:AS} {Γ:Gm} {s:St}
def Cov(Γ:Gm)(l:List Nat)(id:Nat):Prop:=(∃nm,nm<Γ.m/\Γ.ν nm=id/\nm+1∈l/\Γ.N id)\/(¬Γ.N id/\(∃ty sz xs f,Γ.g id=some (.row ty sz xs f))/\0∈l)
variable {l:List Nat}
theorem Cov.mono{l':List Nat}{id:Nat}(h:Cov Γ l id)(k:∀x∈l,x∈l'):Cov Γ l' id:=by
 rcases h with⟨nm,h1,h2,h3,h4⟩|⟨h1,h2,h3⟩
 .exact .inl ⟨nm,h1,h2,k _ h3,h4⟩
 .exact .inr ⟨h1,h2,k _ h3⟩
theorem b2V{g:G}{N:Nat->Prop}:∀(K:Nat) {d:TD} {x:V},b7W d=true->InD g N d x->a1O K g x=[]
 |0,_,_,_,_=>rfl
 |K+1,d,x,hp,hx=>by
  have b:∀{d:TD} {x:V},(match d with
   | .bool| .int _ _ _| .str _| .lit _| .fns _=>true
   | .sl r _ _=> !r
   |_=>false)=true->InD g N d x->∀K,a1O K g x=[]:=by
   intro d x hp hx K;cases K with
   |zero=>rfl
   |succ K=>cases hx<;>first|rfl|(simp at hp)
  have agg:∀{l:List TD} {cs:List V},(l.all λ d=>match d with
   | .bool| .int _ _ _| .str _| .lit _| .fns _=>true
   | .sl r _ _=> !r
   |_=>false)=true->l.length=cs.length->(∀(j:Nat) (d:TD) (c:V),l[j]?=some d->cs[j]?=some c->InD g N d c)->cs.flatMap (a1O K g)=[]:=by
   intro l cs h1 h2 h3;rw[List.flatMap_eq_nil_iff];intro c hc;obtain⟨j,hj⟩:=List.getElem?_of_mem hc;have e:j<l.length:=by rw[h2];exact(ay0.1 hj).1
   exact b (ay5.1 h1 l[j] (au2 e)) (h3 j l[j] c (az5 e) hj) K
  cases hx with
  |any=>simp[b7W]at hp
  |bool=>rfl
  |int=>rfl
  |str=>rfl
  |lit=>rfl
  |nils=>rfl
  |sl=>rfl
  |row=>simp[b7W]at hp
  |agg h1 h2=>simp only[b7W]at hp;simp only[a1O];exact agg hp h1 h2
  |fns=>rfl
  |rel h1 _=>
   simp only[b7W]at hp;cases h1 with
   |agg h1 h2=>simp only[a1O];exact agg hp h1 h2
  | @val _ _ r hi _ h1=>
    simp only[b7W,ax2]at hp;subst hp;cases h1 with
    |agg h1 h2=>simp only[a1O];exact agg rfl h1 h2
theorem a9v{g:G}{N:Nat->Prop}:∀(k K:Nat) {d m:TD} {x:V},a3x k d=some m->InD g N d x->∀id∈a1O K g x,¬N id/\∃ty sz xs f,g id=some (.row ty sz xs f)
 |0,_,_,_,_,h,_,_,_=>by cases h
 |k+1,0,_,_,_,_,_,_,hid=>by cases hid
 |k+1,K+1,d,m,x,hd,hx,id,hid=>by
  have agg:∀{l l':List TD} {cs:List V},a0D (a3x k) l=some l'->l.length=cs.length->(∀(j:Nat) (d:TD) (c:V),l[j]?=some d->cs[j]?=some c->InD g N d c)->∀id∈cs.flatMap (a1O K g),¬N id/\∃ty sz xs f,g id=some (.row ty sz xs f):=by
   intro l l' cs hl h1 h2 id hid;obtain⟨l1,l2⟩:=a2g hl;obtain⟨c,hc,hid⟩:=ax9.1 hid;obtain⟨j,hj⟩:=List.getElem?_of_mem hc;have b:j<l.length:=by rw[h1];exact(ay0.1 hj).1
   have i:j<l'.length:=by omega
   exact a9v k K (l2 j l[j] l'[j] (az5 b) (az5 i)) (h2 j l[j] c (az5 b) hj) id hid
  cases hx with
  |any=>simp[a3x]at hd
  |bool=>cases hid
  |int=>cases hid
  |str=>cases hid
  |lit=>cases hid
  |nils=>cases hid
  |sl=>cases hid
  |fns=>cases hid
  | @row _ _ hi d0 o ty sz off n xs f h1 h2 h3 h4 h5 h6=>
    simp only[a3x,aw4,az2]at hd;obtain⟨d1,hd,_⟩:=hd;simp only[a1O,h1]at hid;rcases ay4.1 hid with rfl|hid
    .exact⟨h2,ty,sz,xs,f,h1⟩
    .obtain⟨c,hc,hid⟩:=ax9.1 hid;exact a9v k K hd (h6 c hc) id hid
  |agg h1 h2=>simp only[a3x,az2]at hd;obtain⟨l',hl,_⟩:=hd;simp only[a1O]at hid;exact agg hl h1 h2 id hid
  | @val _ _ r hi _ h1=>
    simp only[a3x]at hd;split at hd
    .cases hd
    next hr=>
    simp only[ay8,ap6,at1]at hr;rw[hr.1]at h1;have:a1O (K+1) g x=[]:=b2V (K+1) (d:= .val false hi) rfl (.val h1);rw[this]at hid;cases hid
  | @rel _ _ l _ h1 h2=>
    unfold a3x at hd;split at hd;all_goals first
     |(next e=>cases e;done)
     |(next e=>
       injection e with e
       subst e;have:a1O (K+1) g x=[]:=b2V (K+1) (d:= .rel _) rfl (.rel h1 h2);rw[this]at hid;cases hid)
     |cases hd
theorem c3D(h:Ok a Γ s){nm:Nat}{b:ABox}(hb:a4U a nm=some b):nm<Γ.m/\Γ.N (Γ.ν nm):=by
 have:=h.named (a0N hb);exact⟨by rw[h.m];exact this.2.2,this.2.1⟩
theorem a4T{f:AV->Option (List Nat)}{F:V->List Nat}{l:List AV}{cs:List V}{r:List (List Nat)}(hf:∀x∈l,∀c L,In Γ x c->f x=some L->∀id∈F c,Cov Γ L id)(hl:InL Γ l cs)(hr:a0D f l=some r):∀id∈cs.flatMap F,Cov Γ r.flatten id:=by
 intro id hid;obtain⟨c,hc,hid⟩:=ax9.1 hid;obtain⟨j,hj⟩:=List.getElem?_of_mem hc;obtain⟨l1,l2⟩:=a2g hr;have b:j<l.length:=by rw[hl.1];exact(ay0.1 hj).1
 have d:j<r.length:=by omega
 refine(hf l[j] (au2 b) c r[j] (hl.2 j l[j] c (az5 b) hj) (l2 j l[j] r[j] (az5 b) (az5 d)) id hid).mono λ x hx=> ?_;grind[List.mem_flatten]
theorem a9x(h:Ok a Γ s):∀(n K:Nat) {av:AV} {v:V} {l:List Nat},In Γ av v->b0Y n a av=some l->∀id∈a1O K Γ.g v,Cov Γ l id
 |0,_,_,_,_,_,hr,_,_=>by cases hr
 |n+1,0,_,_,_,_,_,_,hid=>by cases hid
 |n+1,K+1,av,v,l,hv,hr,id,hid=>by
  cases hv with
  |bool=>cases hid
  |int=>cases hid
  |str=>cases hid
  |has=>cases hid
  |lit=>cases hid
  |nils=>cases hid
  |fns=>cases hid
  | @dat r e d hi v m h1 h2 h3 h4=>
    simp only[b0Y]at hr;cases r with
    |false=>cases h2<;>cases hid
    |true=>
     simp only[aw4]at hr;split at hr
     .next g=>
      injection hr with hr
      subst hr;obtain⟨w,i⟩:=at0.1 g;have j:a3x (8+1) (.sl true hi d)=some (.sl false hi w):=by
       show(a3x 8 d).map (TD.sl false hi)=_;rw[i];rfl
      obtain⟨p,q⟩:=a9v 9 (K+1) j h2 id hid;exact .inr ⟨p,q,az7.2 rfl⟩
     .cases hr
  | @row nm sz off e o m h0 h1 h2 h3 h4=>
    simp only[b0Y]at hr;split at hr
    .next ty z k d f hb=>
     obtain⟨y,A⟩:=c3D h hb;obtain⟨_,b,t,u⟩:=h.box _ (a0N hb);cases u with
     | @row _ _ _ _ _ f' xs k1 k2 k3 k4=>
       simp only[a1O,t]at hid;split at hr
       .next hp=>
        injection hr with hr
        subst hr;rcases ay4.1 hid with rfl|hid
        .exact .inl ⟨nm,y,rfl,az7.2 rfl,A⟩
        .obtain⟨c,hc,hid⟩:=ax9.1 hid;rw[b2V K hp (k3 c (at9 (au4 hc)))]at hid;cases hid
       .split at hr
        .next g=>
         injection hr with hr
         subst hr;obtain⟨w,i⟩:=at0.1 g;rcases ay4.1 hid with rfl|hid
         .exact .inl ⟨nm,y,rfl,ay1 ..,A⟩
         .obtain⟨c,hc,hid⟩:=ax9.1 hid;obtain⟨p,q⟩:=a9v 8 K i (k3 c (at9 (au4 hc))) id hid;exact .inr ⟨p,q,az9 _ (az7.2 rfl)⟩
        .cases hr
    .cases hr
  |agg h1 h2=>simp only[b0Y,az2]at hr;obtain⟨r,hr,rfl⟩:=hr;simp only[a1O]at hid;exact a4T (λ x _ c L hc hL=>a9x h n K hc hL) ⟨h1,h2⟩ hr id hid
  |tup h1 h2=>simp only[b0Y,az2]at hr;obtain⟨r,hr,rfl⟩:=hr;simp only[a1O]at hid;exact a4T (λ x _ c L hc hL=>a9x h n K hc hL) ⟨h1,h2⟩ hr id hid
  |_=>simp[b0Y]at hr
variable {av:AV} {v:V}
theorem c8W(h:Ok a Γ s)(hv:In Γ av v)(hr:d2f a av=some l):∀id∈a1O (ED+1) Γ.g v,Cov Γ l id:=by
 unfold d2f at hr;split at hr
 .intro id hid;cases hv;simp[a1O]at hid
 grind[a9x]
theorem a9p(h:Ok a Γ s):∀(n K:Nat) {av:AV} {v:V} {l:List Nat},In Γ av v->b3L n a av=some l->∀id∈a2D K Γ.g v,Cov Γ l id
 |0,_,_,_,_,_,hr,_,_=>by cases hr
 |n+1,0,_,_,_,_,_,_,hid=>by cases hid
 |n+1,K+1,av,v,l,hv,hr,id,hid=>by
  have data:b0Y 6 a av=some l->a2D (K+1) Γ.g v=a1O ED Γ.g v->Cov Γ l id:=λ h1 h2=>by
   grind[a9x]
  cases hv with
  | @ptr nm off h0=>
    simp only[b3L]at hr;split at hr
    .next l0 hb=>
     simp only[az2]at hr;obtain⟨r,hr,rfl⟩:=hr;obtain⟨i,j⟩:=c3D h hb;obtain⟨_,b,d,e⟩:=h.box _ (a0N hb);cases e with
     | @var _ cs k1=>
       simp only[a2D,d]at hid;rcases ay4.1 hid with rfl|hid
       .exact .inl ⟨nm,i,rfl,ay1 ..,j⟩
       .exact(a4T (λ x _ c L hc hL=>c8W h hc hL) k1 hr id hid).mono λ x hx=>az9 _ hx
    .cases hr
  |fn h1 h2 h3 h4=>
   simp only[b3L]at hr;split at hr
   .next k m f g=>
    injection hr with hr
    subst hr;simp only[a2D]at hid;rcases ax1.1 hid with hid|hid
    .exact(a4T (λ x _ c L hc hL=>a9p h n K hc hL) ⟨h1,h3⟩ f id hid).mono λ x hx=>av4 _ hx
    .exact(a4T (λ x _ c L hc hL=>a9p h n K hc hL) ⟨h2,h4⟩ g id hid).mono λ x hx=>aw2 _ hx
   .cases hr
  |bool=>exact data hr rfl
  |int=>exact data hr rfl
  |str=>exact data hr rfl
  |has=>exact data hr rfl
  |lit=>exact data hr rfl
  |nils=>exact data hr rfl
  |fns=>grind[a2D]
  |dat h1 h2 h3 h4=>cases h2<;>exact data hr rfl
  |row h0 h1 h2 h3 h4=>exact data hr rfl
  |agg h1 h2=>exact data hr rfl
  |tup h1 h2=>exact data hr rfl
  |_=>grind[b3L,b0Y]
theorem b4o(h:Ok a Γ s)(hv:In Γ av v)(hr:b4c a av=some l):∀id∈a2z v,Cov Γ l id:=by
 intro id hid;have c:∀{nm:Nat},(if(a4U a nm).isSome then some [nm+1]else none)=some l->Cov Γ l (Γ.ν nm):=by
  intro nm hr;split at hr
  .next hs=>
   injection hr with hr
   subst hr;obtain⟨b,hb⟩:=at0.1 hs;obtain⟨f,g⟩:=c3D h hb;exact .inl ⟨nm,f,rfl,az7.2 rfl,g⟩
  .cases hr
 cases hv with
 |ptr h0=>rw[az7.1 hid];exact c hr
 |eptr h0 h1 h2=>rw[az7.1 hid];exact c hr
 |row h0=>rw[az7.1 hid];exact c hr
 |cptr=>cases hid
 |cptrR h1 h2 h3 h4 h5=>
  injection hr with hr
  subst hr;rw[az7.1 hid];exact .inr ⟨h2,⟨_,_,_,_,h1⟩,az7.2 rfl⟩
 | @dat r e d hi v m h1 h2 h3 h4=>
   cases h2 with
   |nils=>cases hid
   |sl=>cases hid
   |row k1 k2 k3 k4 k5 k6=>simp only[b4c,aw4,az0]at hr;subst hr;rw[az7.1 hid];exact .inr ⟨k2,⟨_,_,_,_,k1⟩,az7.2 rfl⟩
 |bool=>cases hid
 |int=>cases hid
 |str=>cases hid
 |has=>cases hid
 |lit=>cases hid
 |nils=>cases hid
 |slf=>cases hid
 |_=>simp[b4c]at hr
theorem b3t{get:Nat->V}{x:Operand}(h:ev get x=some v):a5V get x=a2z v:=by grind[a5V]
theorem c7V(h:Ok a Γ s){o:Oper}{r w:List Nat}(hf:c8i a o=some (r,w)):(∀id∈a3q s.get o,Cov Γ r id)/\∀id∈a2w s.get (a0b s.h) o,Cov Γ w id:=by
 have j:∀{l:List Nat},l=[]->∀id∈l,Cov Γ w id:=λ e id hid=>by rw[e]at hid;cases hid
 have d:∀{l:List Nat},l=[]->∀id∈l,Cov Γ r id:=λ e id hid=>by rw[e]at hid;cases hid
 have at_:∀{x:Operand} {l:List Nat},(evA a x).bind (b4c a)=some l->∀id∈a5V s.get x,Cov Γ l id:=by
  intro x l hx id hid;rw[az3]at hx;obtain⟨av,h1,h2⟩:=hx;obtain⟨v,v1,A⟩:=a1n h h1;rw[b3t v1]at hid;exact b4o h A h2 id hid
 have args:∀{xs:Array Operand} {L:List AV} {vs:List V} {r:List (List Nat)},evs s.get xs=some vs->InL Γ L vs->a0D (b3L 4 a) L=some r->∀id∈xs.toList.flatMap (λ x=>match ev s.get x with|some v=>a2D 4 (a0b s.h) v|none=>[]),Cov Γ r.flatten id:=by
  intro xs L vs r h1 h2 h3 id hid;obtain⟨x,hx,hid⟩:=ax9.1 hid;obtain⟨l1,l2,l3⟩:=a3h h1;obtain⟨i,hi⟩:=List.getElem?_of_mem hx;obtain⟨v,v1,A⟩:=l3 i x hi;rw[A]at hid;rw[<-h.g]at hid;exact a4T (F:=a2D 4 Γ.g) (λ x _ c L hc hL=>a9p h 4 4 hc hL) h2 h3 id (ax9.2 ⟨v,ax4 v1,hid⟩)
 unfold c8i at hf;split at hf
 .next t x ho=>
  simp only[az2,az8]at hf;obtain⟨l,hl,rfl,rfl⟩:=hf;exact⟨by simp only[a3q,ho];exact at_ hl,j (by simp only[a2w,ho])⟩
 .next t1 t2 x ho=>
  simp only[az2,az8]at hf;obtain⟨l,hl,rfl,rfl⟩:=hf;exact⟨by simp only[a3q,ho];exact at_ hl,j (by simp only[a2w,ho])⟩
 .next t x y ho=>
  simp only[az2,az8]at hf;obtain⟨l,hl,rfl,rfl⟩:=hf;exact⟨d (by simp only[a3q,ho]),by simp only[a2w,ho];exact at_ hl⟩
 .cases hf
 .cases hf
 .cases hf
 .next xs D ho=>
  split at hf
  .next x y m=>
   split at hf
   .next K M hw hr=>
    injection hf with hf;injection hf with e1 e2;subst e1;subst e2
    obtain⟨vs,e1,e2⟩:=a4R h m;obtain⟨l1,l2,l3⟩:=a3h e1;have g:∀(i:Nat) (x:Operand) (av:AV),xs[i]?=some x->[x,x].length=2->True:=λ _ _ _ _ _=>av5;cases vs with
    |nil=>cases e2.1
    |cons p vs=>cases vs with
     |nil=>have:=e2.1;simp at this
     |cons q vs=>
      have p0:=e2.2 0 _ p rfl rfl;have E:=e2.2 1 _ q rfl rfl;refine⟨λ id hid=> ?_,λ id hid=> ?_⟩
      .simp only[a3q,ho]at hid;split at hid
       .next z hz=>
        obtain⟨b,b1,b2⟩:=l3 1 z (by rw[<-ap9]at hz;exact hz);simp only[ao1,as6,az0]at b1;subst b1;rw[b3t b2]at hid;exact b4o h E hr id hid
       .cases hid
      .simp only[a2w,ho]at hid;split at hid
       .next z hz=>
        obtain⟨b,b1,b2⟩:=l3 0 z (by rw[<-ap9]at hz;exact hz);simp only[as6,az0]at b1;subst b1;rw[b3t b2]at hid;exact b4o h p0 hw id hid
       .cases hid
   .cases hf
  .cases hf
 .next f xs D ho=>
  split at hf
  .next k x y l n m=>
   simp only[az2,az8]at hf;obtain⟨r0,u,rfl,rfl⟩:=hf;obtain⟨vs,e1,e2⟩:=a4R h m;obtain⟨fv,f1,f2⟩:=a1n h n;refine⟨d (by simp only[a3q,ho]),λ id hid=> ?_⟩;simp only[a2w,ho,f1]at hid;cases f2 with
   | @fn _ _ _ asq bs G H I J=>
     have B:InL Γ (x++l++y) (asq++vs++bs):=((show InL Γ _ _ from⟨G,I⟩).append e2).append ⟨H,J⟩;have C:=a4T (F:=a2D 4 Γ.g) (λ x _ c L hc hL=>a9p h 4 4 hc hL) B u;rcases ax1.1 hid with hid|hid
     .simp only[d5h]at hid;rw[<-h.g]at hid;refine C id ?_;simp only[Az9,ax1];rcases ax1.1 hid with hid|hid
      .exact .inl (.inl hid)
      .exact .inr hid
     .obtain⟨z,hz,hid⟩:=ax9.1 hid;obtain⟨l1,l2,l3⟩:=a3h e1;obtain⟨i,hi⟩:=List.getElem?_of_mem hz;obtain⟨v,v1,A⟩:=l3 i z hi;rw[A,<-h.g]at hid;refine C id (ax9.2 ⟨v,?_,hid⟩);exact av4 _ (aw2 _ (ax4 v1))
  .next ks l n m=>
   simp only[az2,az8]at hf;obtain⟨r0,u,rfl,rfl⟩:=hf;obtain⟨vs,e1,e2⟩:=a4R h m;obtain⟨fv,f1,f2⟩:=a1n h n;refine⟨d (by simp only[a3q,ho]),λ id hid=> ?_⟩;simp only[a2w,ho,f1]at hid;cases f2 with
   |fns hk=>simp only[d5h,List.flatMap_nil,ap8,ao8]at hid;exact args e1 e2 u id hid
  .cases hf
 .next h1 h2 h3 h4 h5 h6 h7 h8=>
  injection hf with hf;injection hf with e1 e2;subst e1;subst e2
  refine⟨d ?_,j ?_⟩
  .unfold a3q;split
   .next ho=>exact absurd ho (h1 _ _)
   .next ho=>exact absurd ho (h2 _ _ _)
   .next ho=>exact absurd ho (h4 _ _ _ _)
   .next ho=>exact absurd ho (h7 _ _)
   .rfl
  .unfold a2w;split
   .next ho=>exact absurd ho (h3 _ _ _)
   .next ho=>exact absurd ho (h5 _ _ _ _)
   .next ho=>exact absurd ho (h6 _ _ _ _)
   .next ho=>exact absurd ho (h7 _ _)
   .next ho=>exact absurd ho (h8 _ _ _)
   .rfl
end
end
end Go.SN
namespace Go.PV
section
open Go.RowKit
def a9H{z:Type}(v0:z)(y:Nat->Bool)(new:Nat->z)(D:Nat->Bool):Nat->z
 |0=>v0
 |k+1=>if D k&&y k then new k else a9H v0 y new D k
section
variable {z:Type} {v0:z} {y:Nat->Bool} {new:Nat->z} {D A:Nat->Bool}
theorem a4K:∀{k:Nat},(∀j,j<k->y j=true->D j=A j)->a9H v0 y new D k=a9H v0 y new A k
 |0,_=>rfl
 |k+1,h=>by
  have ih:=a4K (k:=k) λ j hj=>h j (Av3 hj);simp only[a9H,ih];grind
theorem b0W{i:Nat}:∀{n:Nat},i<=n->(∀j,i<=j->j<n->D j=true->y j=false)->a9H v0 y new D n=a9H v0 y new D i
 |0,hi,_=>by grind
 |n+1,hi,h=>by
  rcases as5 n i with b|a
  .grind
  .have ih:=b0W a λ j h1 h2=>h j h1 (Av3 h2);simp_all[a9H]
theorem c6N{i n:Nat}(hi:i<=n)(h1:∀j,i<=j->j<n->D j=true->y j=false)(h2:∀j,j<i->D j=false->y j=false):
  a9H v0 y new D n=a9H v0 y new (λ _=>true) i:=by
 rw[b0W hi h1];grind[a4K]
theorem c8g{i n:Nat}(hi:i<n)(hD:D i=false)(h1:y i=true->∀j,i<j->j<n->D j=true->y j=false):
  a9H v0 y new (λ j=>j==i||D j) n=if y i then new i else a9H v0 y new D n:=by
 by_cases hw:y i=true
 .rw[ax3 hw,b0W (i:=i+1) hi];all_goals grind[a9H]
 .rw[ay9 hw];refine a4K λ j _ a=> ?_;have:j≠i:=λ e=>hw (e▸a);simp[this]
end
structure Run (P:Program) (call:Calls) (ops:Array Oper) (S:Nat->St) (R:Nat->Out) (F:Nat->List Nat×List Nat):Prop where
 next:∀k o,ops[k]?=some o->S (k+1)=a2H {S k with h:=(R k).upd++(S k).h,nx:=(S k).nx+(R k).cnt} o.dst (R k).v
 yes:∀k o,ops[k]?=some o->a0V ops o (S k).get=true->opE P call (S k).get (a0b (S k).h) (S k).nx o=some (R k)/\
  F k=a5A ops o (a3q (S k).get o) (a2w (S k).get (a0b (S k).h) o++List.range' (S k).nx (R k).cnt)
 no:∀k o,ops[k]?=some o->a0V ops o (S k).get=false->R k={v:= .und}/\F k=a5A ops o [] []
theorem a4F{s:St}{d:Option Tmp}{v:V}:(a2H s d v).h=s.h/\(a2H s d v).nx=s.nx/\(a2H s d v).sz=s.sz:=by
 cases d with
 |none=>exact⟨rfl,rfl,rfl⟩
 |some d=>simp only[a2H,St.put];grind
theorem b8C{P:Program}{call:Calls}{ops:Array Oper}:∀(l:List Oper) (m:Nat) (s e:St) (fs:List (List Nat×List Nat)),a4g P call ops l s=some (fs,e)->(∀k,l[k]?=ops[m+k]?)->
  fs.length=l.length/\∃(S:Nat->St) (R:Nat->Out),S m=s/\S (m+l.length)=e/\∀k o,m<=k->ops[k]?=some o->
   S (k+1)=a2H {S k with h:=(R k).upd++(S k).h,nx:=(S k).nx+(R k).cnt} o.dst (R k).v/\
   (a0V ops o (S k).get=true->opE P call (S k).get (a0b (S k).h) (S k).nx o=some (R k)/\
    fs[k-m]?=some (a5A ops o (a3q (S k).get o) (a2w (S k).get (a0b (S k).h) o++List.range' (S k).nx (R k).cnt)))/\
   (a0V ops o (S k).get=false->R k={v:= .und}/\fs[k-m]?=some (a5A ops o [] []))
 |[],m,s,e,fs,h,hl=>by
  simp only[a4g,az0,az8]at h;obtain⟨rfl,rfl⟩:=h;refine⟨rfl,λ _=>s,λ _=>{v:= .und},rfl,rfl,λ k o hk ho=> ?_⟩;have:=hl (k-m);grind
 |o::l,m,s,e,fs,h,hl=>by
  have ho:ops[m]?=some o:=by have:=hl 0;simpa using this.symm
  have i:∀k,l[k]?=ops[m+1+k]?:=λ k=>by
   have:=hl (k+1);grind
  simp only[a4g]at h;cases hs:a0v P call ops o s with
  |none=>grind
  |some j=>
   simp only[hs]at h;cases hf:a4g P call ops l j with
   |none=>grind
   |some q=>
    obtain⟨b,p⟩:=q;simp only[hf]at h;obtain⟨c,S,R,u,n,hS⟩:=b8C l (m+1) j p b hf i;have first:∃r f,fs=f::b/\p=e/\j=a2H {s with h:=r.upd++s.h,nx:=s.nx+r.cnt} o.dst r.v/\
      (a0V ops o s.get=true->opE P call s.get (a0b s.h) s.nx o=some r/\f=a5A ops o (a3q s.get o) (a2w s.get (a0b s.h) o++List.range' s.nx r.cnt))/\
      (a0V ops o s.get=false->r={v:= .und}/\f=a5A ops o [] []):=by
     unfold a0v at hs;by_cases hw:a0V ops o s.get=true
     .rw[ax3 hw]at hs h;split at h
      .next hi=>
       simp only[az0,az8]at h;obtain⟨rfl,rfl⟩:=h;simp only[az2]at hs;obtain⟨⟨v,x⟩,hs,rfl⟩:=hs;unfold a1h at hs;simp only[hi,az2,az8]at hs;obtain⟨r,hr,rfl,rfl⟩:=hs;refine⟨r,_,rfl,rfl,rfl,λ _=>⟨hr,?_⟩,λ h0=>by grind⟩;have:(a2H {s with h:=r.upd++s.h,nx:=s.nx+r.cnt} o.dst r.v).nx-s.nx=r.cnt:=by
        rw[a4F.2.1];simp
       rw[this]
      .cases h
     .rw[ay9 hw]at hs h;simp only[az0,az8]at h;obtain⟨rfl,rfl⟩:=h;simp_all
    obtain⟨r,f,rfl,rfl,w,hy,hn⟩:=first
    refine⟨by simp[c],λ k=>if k=m then s else S k,λ k=>if k=m then r else R k,by simp,?_,?_⟩
    .have:m+(o::l).length≠m:=by simp
     simp only[ay9 this];rw[<-n];congr 1;simp;omega
    .intro k t hk a;by_cases d:k=m
     .subst d;have:o=t:=by rw[ho]at a;injection a
      simp_all
     .have h1:¬k+1=m:=by omega
      simp only[ay9 d,ay9 h1];have g:k-m=(k-(m+1))+1:=by omega
      rw[g,ao1];exact hS k t (by omega) a
theorem c8P{P:Program}{call:Calls}{ops:Array Oper}{s e:St}{fs:List (List Nat×List Nat)}(h:a4g P call ops ops.toList s=some (fs,e)):
  fs.length=ops.size/\∃S R,S 0=s/\S ops.size=e/\Run P call ops S R (λ k=>fs.getD k ([],[])):=by
 obtain⟨h1,S,R,h2,h3,h4⟩:=b8C ops.toList 0 s e fs h (λ k=>by simp);refine⟨by grind,S,R,h2,by grind,⟨λ k o ho=>(h4 k o (aw7 _) ho).1,λ k o ho hw=> ?_,λ k o ho hw=> ?_⟩⟩;all_goals simp_all
end
section
open Go.RowKit
def c2l(h:HP)(R:Nat->Out)(D:Nat->Bool):Nat->HP
 |0=>h
 |k+1=>if D k then(R k).upd++c2l h R D k else c2l h R D k
def wrB(R:Nat->Out)(l k:Nat):Bool:=(R k).upd.any λ p=>p.1==l
def newB(R:Nat->Out)(l k:Nat):Option Box:=((R k).upd.find? λ p=>p.1==l).bind (·.2)
theorem a3l{h:HP}{R:Nat->Out}{D:Nat->Bool}{l:Nat}:∀{k:Nat},a0b (c2l h R D k) l=a9H (a0b h l) (wrB R l) (newB R l) D k
 |0=>rfl
 |k+1=>by
  have ih:=a3l (h:=h) (R:=R) (D:=D) (l:=l) (k:=k);simp only[c2l,a9H];cases hd:D k with
  |false=>grind
  |true=>simp only[aw4,a5e,As0];grind[upd,wrB,newB]
def wrS(ops:Array Oper)(sz t k:Nat):Bool:=((ops[k]?).bind (·.dst))==some t&&decide (t<sz)
def b8o(ops:Array Oper)(s:St)(R:Nat->Out)(D:Nat->Bool)(k:Nat)(t:Nat):V:=a9H (s.get t) (wrS ops s.sz t) (λ k=>(R k).v) D k
section
variable {P:Program} {call:Calls} {ops:Array Oper} {S:Nat->St} {R:Nat->Out} {F:Nat->List Nat×List Nat} {D:Nat->Bool}
theorem Run.at_(h:Run P call ops S R F)(hs:(S 0).sz<=256):∀{k:Nat},k<=ops.size->(S k).sz=(S 0).sz/\(S k).h=c2l (S 0).h R (λ _=>true) k/\∀t,(S k).get t=b8o ops (S 0) R (λ _=>true) k t
 |0,_=>⟨rfl,rfl,λ _=>rfl⟩
 |k+1,hk=>by
  obtain⟨h1,h2,h3⟩:=h.at_ hs (k:=k) (by omega);have ho:ops[k]?=some ops[k]:=aw0 (by omega);have hn:=h.next k _ ho;refine⟨by rw[hn,a4F.2.2];exact h1,by rw[hn,a4F.1];simp[c2l,h2],λ t=> ?_⟩;rw[hn];have e0:∀t,St.get {S k with h:=(R k).upd++(S k).h,nx:=(S k).nx+(R k).cnt} t=(S k).get t:=λ t=>rfl;simp only[b8o,a9H,As0];have hb:(ops[k]?).bind (·.dst)=ops[k].dst:=by rw[ho];rfl
  cases hd:ops[k].dst with
  |none=>
   have:wrS ops (S 0).sz t k=false:=by unfold wrS;rw[hb,hd];rfl
   rw[this];simp only[a2H,e0];exact h3 t
  |some d=>
   simp only[a2H];rw[St.get_put (by simp only;rw[h1];exact hs),e0];by_cases hc:t=d/\d<(S k).sz
   .obtain⟨rfl,hc⟩:=hc;have:wrS ops (S 0).sz t k=true:=by unfold wrS;rw[hb,hd];simp[<-h1,hc]
    rw[this,ax3 ⟨rfl,hc⟩];rfl
   .have:wrS ops (S 0).sz t k=false:=by
     unfold wrS;rw[hb,hd,<-h1];simp only[Aw3,Ax6];by_cases e:d=t
     .subst e;exact .inr λ h=>hc ⟨rfl,h⟩
     .exact .inl (by simp[e])
    rw[this,ay9 hc];exact h3 t
theorem Run.nx_step(h:Run P call ops S R F){k:Nat}(hk:k<ops.size):(S (k+1)).nx=(S k).nx+(R k).cnt:=by
 rw[h.next k _ (aw0 hk),a4F.2.1]
theorem Run.nx_mono(h:Run P call ops S R F){i:Nat}:∀{j:Nat},i<=j->j<=ops.size->(S i).nx<=(S j).nx
 |0,hi,_=>by grind
 |j+1,hi,hj=>by
  rcases as5 j i with b|a
  .grind
  .have:=h.nx_mono a (by omega);rw[h.nx_step (by omega)];omega
theorem Run.wrB_foot(h:Run P call ops S R F){l k:Nat}(hk:k<ops.size)(hw:wrB R l k=true):2*l∈(F k).2:=by
 have ho:ops[k]?=some ops[k]:=aw0 hk;cases a:a0V ops ops[k] (S k).get with
 |false=>rw[wrB,(h.no k _ ho a).1]at hw;cases hw
 |true=>
  obtain⟨h1,h2⟩:=h.yes k _ ho a;unfold wrB at hw;obtain⟨p,hp,e⟩:=ar4.1 hw;have e:p.1=l:=by simpa using e
  subst e;rw[h2];simp only[a5A,ax1,ax5];refine .inl ⟨p.1,?_,rfl⟩;rcases c4z ops[k] (R k) h1 p hp with h|h
  .exact .inl h
  .refine .inr ?_;rw[an2];exact h
theorem Run.wrS_foot(h:Run P call ops S R F){t sz k:Nat}(hk:k<ops.size)(hw:wrS ops sz t k=true):2*t+1∈(F k).2:=by
 have ho:ops[k]?=some ops[k]:=aw0 hk;unfold wrS at hw;rw[ho]at hw;simp only[az1,az6,aw5]at hw;have key:∀r w,2*t+1∈(a5A ops ops[k] r w).2:=λ r w=>by
  simp only[a5A,ax1,ax5,Option.mem_toList];grind
 cases a:a0V ops ops[k] (S k).get with
 |false=>rw[(h.no k _ ho a).2];exact key _ _
 |true=>rw[(h.yes k _ ho a).2];exact key _ _
theorem Run.slot_foot(h:Run P call ops S R F){t k:Nat}(hk:k<ops.size)(ht:t∈a5n ops ops[k]):2*t+1∈(F k).1:=by
 have ho:ops[k]?=some ops[k]:=aw0 hk;have key:∀r w,2*t+1∈(a5A ops ops[k] r w).1:=λ r w=>by
  simp only[a5A,ax1,ax5];grind
 cases a:a0V ops ops[k] (S k).get with
 |false=>rw[(h.no k _ ho a).2];exact key _ _
 |true=>rw[(h.yes k _ ho a).2];exact key _ _
theorem a4V{a b:List Nat×List Nat}(h:a7k a b=false):(∀x∈a.2,x∉b.1/\x∉b.2)/\∀x∈b.2,x∉a.1:=by
 simp_all[a7k]
def d2U(ops:Array Oper)(F:Nat->List Nat×List Nat):Prop:=∀i j,i<j->j<ops.size->((Region.before ops).getD j 0).testBit i=true\/a7k (F i) (F j)=false
theorem b1p{fs:List (List Nat×List Nat)}(hl:fs.length=ops.size)(h:a6F ops fs=true):a8E ops=true/\d2U ops (λ k=>fs.getD k ([],[])):=by
 unfold a6F at h;simp only[az6,ay5,ay8,ax2]at h;refine⟨h.1,λ i j a hj=> ?_⟩;have b:j<fs.length:=by omega
 have h1:=h.2 (fs[j],j) (by grind);have h2:=h1 (fs[i]'(by omega),i) (by
  grind)
 grind
structure Turn (ops:Array Oper) (F:Nat->List Nat×List Nat) (D:Nat->Bool) (i:Nat):Prop where
 lt:i<ops.size
 not:D i=false
 after:∀j,i<j->j<ops.size->D j=true->a7k (F i) (F j)=false
 before:∀j,j<i->D j=false->a7k (F j) (F i)=false
theorem Turn.of(c:d2U ops F)(d:Cl ops D){i:Nat}(hi:i<ops.size)(hD:D i=false)(he:∀e∈ops[i].after,Region.binds .any e=true->D e.on=true):Turn ops F D i/\Cl ops (λ j=>j==i||D j):=by
 have b:Cl ops (λ j=>j==i||D j):=λ j o ho hj e hm hb=>by
  by_cases a:j=i
  .subst a;have:o=ops[j]:=by rw[aw0 hi]at ho;injection ho with ho;exact ho.symm
   subst this;simp[he e hm hb]
  .have f:D j=true:=by simpa[a]using hj
   simp[d j o ho f e hm hb]
 refine⟨⟨hi,hD,λ j g hj hd=> ?_,λ j a hd=> ?_⟩,b⟩
 .refine(c i j g hj).resolve_left λ hb=> ?_;rw[d.before j i hd hb]at hD;cases hD
 .refine(c j i a hi).resolve_left λ hb=> ?_;have:=b.before i j (by simp) hb;have h:j≠i:=by omega
  simp[h,hd]at this
theorem Turn.see{i:Nat}(ht:Turn ops F D i){c:Type}{v0:c}{a:Nat->Bool}{new:Nat->c}{x:Nat}(hw:∀k,k<ops.size->a k=true->x∈(F k).2)(hx:x∈(F i).1\/x∈(F i).2):
  a9H v0 a new D ops.size=a9H v0 a new (λ _=>true) i:=by
 refine c6N (aq5 ht.lt) (λ j h1 h2 hd=> ?_) (λ j hj hd=> ?_)
 .cases b:a j with
  |false=>rfl
  |true=>
   have d:j≠i:=λ e=>by rw[e,ht.not]at hd;cases hd
   obtain⟨p,q⟩:=a4V (ht.after j (by omega) h2 hd);grind
 .cases b:a j with
  |false=>rfl
  |true=>obtain⟨p,q⟩:=a4V (ht.before j hj hd);have f:=p x (hw j (by have:=ht.lt;omega) b);grind
theorem Turn.set{i:Nat}(ht:Turn ops F D i){d:Type}{v0:d}{a:Nat->Bool}{new:Nat->d}{x:Nat}(hw:∀k,k<ops.size->a k=true->x∈(F k).2):
  a9H v0 a new (λ j=>j==i||D j) ops.size=if a i then new i else a9H v0 a new D ops.size:=by
 refine c8g ht.lt ht.not λ b j h1 h2 hd=> ?_;cases c:a j with
 |false=>rfl
 |true=>exact absurd (hw j h2 c) ((a4V (ht.after j h1 h2 hd)).1 x (hw i ht.lt b)).2
end
end
end Go.PV
namespace Go.SN
section
open Go.PV
theorem b4k{a:Array Nat}{i:Nat}:∀(l:List Edge) (s:Nat),(s.testBit i=true\/∃e∈l,Region.binds .any e=true/\(i=e.on\/(a.getD e.on 0).testBit i=true))->
  (l.foldl (λ s e=>if Region.binds .any e then s|||2^e.on|||a.getD e.on 0 else s) s).testBit i=true
 |[],s,h=>by
  grind
 |e::l,s,h=>by
  rw[Au2];refine b4k l _ ?_;grind
def SpecC(L:List Oper)(a:Array Nat):Prop:=a.size=L.length/\∀(j:Nat) (o:Oper) (e:Edge),L[j]?=some o->e∈o.after->Region.binds .any e=true->e.on<j->
 (a.getD j 0).testBit e.on=true/\∀i,(a.getD e.on 0).testBit i=true->(a.getD j 0).testBit i=true
theorem SpecC.step{L:List Oper}{a:Array Nat}{o:Oper}(h:SpecC L a):SpecC (L++[o]) (a5p a o):=by
 obtain⟨h1,h2⟩:=h;have old:∀k,k<a.size->(a5p a o).getD k 0=a.getD k 0:=λ k hk=>by
  simp_all[a5p,As5]
 refine⟨by simp[a5p,h1],λ j d e hj he hb f=> ?_⟩;rcases as5 j L.length with hl|hl
 .grind
 .have c:j=L.length:=by
   have:=(ay0.1 hj).1;simp at this;omega
  subst c;have:o=d:=by simpa using hj
  subst this;have hv:(a5p a o).getD L.length 0=o.after.foldl (λ s e=>if Region.binds .any e then s|||2^e.on|||a.getD e.on 0 else s) 0:=by
   unfold a5p;rw[<-h1,ax6,At8];rfl
  rw[hv,<-Az6,old e.on (by omega)];have b:e∈o.after.toList:=by simpa using he
  exact⟨b4k _ 0 (.inr ⟨e,b,hb,.inl rfl⟩),λ i hi=>b4k _ 0 (.inr ⟨e,b,hb,.inr hi⟩)⟩
theorem a9X:∀(l L:List Oper) (a:Array Nat),SpecC L a->SpecC (L++l) (l.foldl a5p a)
 |[],L,a,h=>by grind
 |o::l,L,a,h=>by
  have:=a9X l (L++[o]) (a5p a o) h.step;simpa using this
theorem b5G(ops:Array Oper):SpecC ops.toList (Region.before ops):=by
 have h0:SpecC [] #[]:=⟨rfl,λ j o e h=>by simp at h⟩;have:=a9X ops.toList [] #[] h0;have e:Region.before ops=ops.toList.foldl a5p #[]:=by
  unfold Region.before;rw[<-Az6];rfl
 grind
theorem b6G{ops:Array Oper}(he:a8E ops=true):∀(j k i:Nat),((Region.before ops).getD j 0).testBit k=true->((Region.before ops).getD k 0).testBit i=true->((Region.before ops).getD j 0).testBit i=true:=by
 intro j;induction j using Nat.strongRecOn with
 |ind j ih=>
  intro k i hk hi;have hs:=a9L ops;have hc:=b5G ops;have b:=b3d hk;have hl:j<ops.toList.length:=by rw[<-hs.1];exact b
  have ho:ops.toList[j]?=some ops.toList[j]:=az5 hl;obtain⟨e,c,a,f⟩:=hs.2 j _ k ho hk;have d:e.on<j:=by
   unfold a8E at he;rw[ay5]at he;have h1:=he (ops.toList[j],j) (by grind);rw[ay5]at h1;have h2:=h1 e (by grind);rw[a]at h2;simpa using h2
  obtain⟨c1,c2⟩:=hc.2 j _ e ho c a d;grind
def Zero(x:Option Out):Prop:=∀r,x=some r->r.cnt=0
theorem Zero.none:Zero none:=nofun
theorem Zero.bind{A:Type}{x:Option A}{f:A->Option Out}(h:∀a,x=some a->Zero (f a)):Zero (x.bind f):=by
 cases x with
 |none=>exact Zero.none
 |some a=>grind
theorem Zero.one{v:V}{u:HP}:Zero (pure {v:=v,upd:=u}):=λ r h=>by grind
theorem Zero.one'{v:V}{u:HP}:Zero (some {v:=v,upd:=u}):=λ r h=>by grind
def b5c:Op->Bool
 | .call {callee:= .value _,.. }=>true
 |_=>false
theorem c8H{P:Program}{call:PV.Calls}{get:Nat->V}{g:G}{nx:Nat}{o:Oper}(hm:a9k o.op=false)(hc:b5c o.op=false):Zero (opE P call get g nx o):=by
 obtain⟨dst,op,type,pos,after,guard⟩:=o;unfold opE;simp only[Az0];cases op;case call c=>
  obtain⟨callee,args,ts⟩:=c;grind[a9k,Zero.none,Zero.one',Zero.bind,b5c]
 case makeMap t x=>cases x<;>grind[a9k,Zero.none]
 case makeFunc f x y=>
  cases f<;>first|exact Zero.none|skip
  grind[Zero.bind,Zero.one]
 all_goals first
  |grind[a9k]
  |exact Zero.none
  |(simp only
    repeat' first|exact Zero.none|exact Zero.one|exact Zero.one'|(refine Zero.bind λ _ _=> ?_)|split)
end
section
open Go.PV
def d0D(Γ:Gm)(l:List Nat)(id:Nat):Prop:=(∃nm,nm<Γ.m/\Γ.ν nm=id/\2*(nm+1)∈l/\Γ.N id)\/(¬Γ.N id/\(∃ty sz xs f,Γ.g id=some (.row ty sz xs f))/\0∈l)
structure StepF (Γ Γ1:Gm) (fC fA:List Nat×List Nat):Prop where
 le:Γ.le Γ1
 νlt:∀i,i<Γ.m->Γ.ν i<Γ.nx
 νinj:∀i j,i<Γ.m->j<Γ.m->Γ.ν i=Γ.ν j->i=j
 name:∀id,Γ.N id->∃nm,nm<Γ.m/\Γ.ν nm=id
 here:∀id,Γ.nx<=id->Γ.g id=none
 R:∀x∈fC.1,(∃t,x=2*t+1/\x∈fA.1)\/∃id,x=2*id/\d0D Γ fA.1 id
 W:∀x∈fC.2,(∃t,x=2*t+1/\x∈fA.2)\/∃id,x=2*id/\(d0D Γ fA.2 id\/(Γ.nx<=id/\id<Γ1.nx))
 new:∀nm,Γ.m<=nm->nm<Γ1.m->2*(nm+1)∈fA.2
 new0:∀id,Γ.nx<=id->id<Γ1.nx->Γ1.N id\/0∈fA.2
 van:∀nm,nm<Γ.m->Γ.N (Γ.ν nm)->Γ1.N (Γ.ν nm)\/(2*(nm+1)∈fA.2/\0∈fA.2)
section
variable {n:Nat} {G:Nat->Gm} {C A:Nat->List Nat×List Nat} {bit:Nat->Nat->Prop}
def d7w(a b:List Nat×List Nat):Prop:=∃x,(x∈a.2/\(x∈b.1\/x∈b.2))\/(x∈b.2/\x∈a.1)
theorem a8h(h:∀k,k<n->StepF (G k) (G (k+1)) (C k) (A k)):∀{i j:Nat},i<=j->j<=n->(G i).le (G j)
 |i,0,hi,_=>by simp_all[Gm.le.refl]
 |i,j+1,hi,hj=>by
  rcases as5 j i with hl|hl
  .grind[Gm.le.refl]
  .exact(a8h h hl (by omega)).trans (h j (by omega)).le
theorem d8N{id:Nat}:∀{j i:Nat},i<=j->(G i).N id->¬(G j).N id->∃k,i<=k/\k<j/\(G k).N id/\¬(G (k+1)).N id
 |0,i,hi,h1,h2=>by grind
 |j+1,i,hi,h1,h2=>by
  rcases as5 j i with hl|hl
  .grind
  .by_cases hj:(G j).N id
   .grind
   .obtain⟨k,k1,k2,k3⟩:=d8N hl h1 hj;grind
theorem c7t(h:∀k,k<n->StepF (G k) (G (k+1)) (C k) (A k))(hb:∀i j,i<j->j<n->d7w (A i) (A j)->bit j i)(ht:∀j k i,bit j k->bit k i->bit j i){i j:Nat}(a:i<j)(hj:j<n)(hC:d7w (C i) (C j)):bit j i:=by
 have hi:i<n:=by omega
 have r:=h i hi;have E:=h j hj;have l:=a8h h (aq5 a) (aq5 hj);have y:=a8h h (show i+1<=j by omega) (aq5 hj);have z:∀{id nm k:Nat},i+1<=k->k<=j->(G i).nx<=id->id<(G (i+1)).nx->nm<(G k).m->(G k).ν nm=id->2*(nm+1)∈(A i).2:=by
  intro id nm k hk B h1 h2 h3 h4;have o:=a8h h (show i<=k by omega) (by omega);have D:=a8h h hk (by omega);refine r.new nm ?_ ?_
  .refine Av7 λ p=> ?_;have:=r.νlt nm p;rw[o.ν nm p]at h4;omega
  .refine Ax7 λ u=> ?_;have:=D.new nm u h3;omega
 have gone:∀{id nm k:Nat} {lj:List Nat},i<=k->k<j->(G k).N id->¬(G (k+1)).N id->nm<(G k).m->(G k).ν nm=id->(lj=(A j).1\/lj=(A j).2)->0∈lj->(k=i\/((2*(nm+1)∈(A i).1\/2*(nm+1)∈(A i).2)))->bit j i:=by
  intro id nm k lj hk B n1 n2 hm F b h0 c;subst F;rcases(h k (by omega)).van nm hm n1 with h3|⟨h3,h4⟩
  .exact absurd h3 n2
  .have v:bit j k:=hb k j B hj ⟨0,.inl ⟨h4,by rcases b with rfl|rfl<;>simp[h0]⟩⟩;rcases c with rfl|c
   .exact v
   .rcases as5 i k with p|L
    .refine ht j k i v (hb i k p (by omega) ⟨2*(nm+1),?_⟩);rcases c with c|c
     .exact .inr ⟨h3,c⟩
     .exact .inl ⟨c,.inr h3⟩
    .have:k=i:=by omega
     subst this;exact v
 have c6j:∀{id:Nat} {li lj:List Nat},((li=(A i).2/\(lj=(A j).1\/lj=(A j).2))\/(li=(A i).1/\lj=(A j).2))->d0D (G i) li id->d0D (G j) lj id->bit j i:=by
  intro id li lj hl ci cj;have s:∀x,x∈li->x∈lj->bit j i:=by
   intro x h1 h2;refine hb i j a hj ⟨x,?_⟩;rcases hl with⟨rfl,rfl|rfl⟩|⟨rfl,rfl⟩
   .exact .inl ⟨h1,.inl h2⟩
   .exact .inl ⟨h1,.inr h2⟩
   .exact .inr ⟨h2,h1⟩
  have b:lj=(A j).1\/lj=(A j).2:=by rcases hl with⟨_,h⟩|⟨_,h⟩;exact h;exact .inr h
  have H:∀x,x∈li->x∈(A i).1\/x∈(A i).2:=by
   intro x hx;rcases hl with⟨rfl,_⟩|⟨rfl,_⟩
   .exact .inr hx
   .exact .inl hx
  rcases ci with⟨nm,c1,c2,c3,c4⟩|⟨c1,⟨ty,sz,xs,f,c2⟩,c3⟩<;>rcases cj with⟨w,d1,d2,d3,d4⟩|⟨d1,d2,d3⟩
  .have e:(G j).ν nm=(G j).ν w:=by rw[l.ν nm c1,c2,d2]
   have:=E.νinj nm w (aw9 c1 l.m) d1 e;subst this;exact s _ c3 d3
  .obtain⟨k,k1,k2,k3,k4⟩:=d8N (aq5 a) c4 d1;have o:=a8h h k1 (by omega);exact gone k1 k2 k3 k4 (aw9 c1 o.m) (by rw[o.ν nm c1];exact c2) b d3 (.inr (H _ c3))
  .exact absurd d4 (l.keeps id ty sz xs f c2 c1).1
  .exact s 0 c3 d3
 have d:∀{id:Nat} {lj:List Nat},(lj=(A j).1\/lj=(A j).2)->(G i).nx<=id->id<(G (i+1)).nx->d0D (G j) lj id->bit j i:=by
  intro id lj b h1 h2 cj;rcases cj with⟨w,d1,d2,d3,d4⟩|⟨d1,d2,d3⟩
  .have:=z (k:=j) (by omega) (ay3 _) h1 h2 d1 d2;exact hb i j a hj ⟨_,.inl ⟨this,by rcases b with rfl|rfl<;>simp[d3]⟩⟩
  .rcases r.new0 id h1 h2 with h0|h0
   .obtain⟨k,k1,k2,k3,k4⟩:=d8N (show i+1<=j by omega) h0 d1;obtain⟨nm,m1,m2⟩:=(h k (by omega)).name id k3;have:=z (k:=k) k1 (by omega) h1 h2 m1 m2;exact gone (by omega) k2 k3 k4 m1 m2 b d3 (.inr (.inr this))
   .exact hb i j a hj ⟨0,.inl ⟨h0,by rcases b with rfl|rfl<;>simp[d3]⟩⟩
 have old:∀{id:Nat} {li:List Nat},d0D (G i) li id->id<(G i).nx:=by
  intro id li ci;rcases ci with⟨nm,c1,c2,_⟩|⟨_,⟨ty,sz,xs,f,c2⟩,_⟩
  .rw[<-c2];exact r.νlt nm c1
  .refine Ax7 λ u=> ?_;rw[r.here id u]at c2;cases c2
 have J:=l.nx;have I:=y.nx;obtain⟨x,hx⟩:=hC;rcases hx with⟨hw,hr|hr⟩|⟨hw,hr⟩
 .rcases r.W x hw with⟨t,e1,h1⟩|⟨id,e1,h1⟩<;>rcases E.R x hr with⟨K,e2,h2⟩|⟨g,e2,h2⟩
  .exact hb i j a hj ⟨x,.inl ⟨h1,.inl h2⟩⟩
  .omega
  .omega
  .have:id=g:=by omega
   subst this;rcases h1 with h1|⟨h1,q⟩
   .exact c6j (.inl ⟨rfl,.inl rfl⟩) h1 h2
   .exact d (.inl rfl) h1 q h2
 .rcases r.W x hw with⟨t,e1,h1⟩|⟨id,e1,h1⟩<;>rcases E.W x hr with⟨K,e2,h2⟩|⟨g,e2,h2⟩
  .exact hb i j a hj ⟨x,.inl ⟨h1,.inr h2⟩⟩
  .omega
  .omega
  .have:id=g:=by omega
   subst this;rcases h1 with h1|⟨h1,q⟩<;>rcases h2 with h2|⟨h2,M⟩
   .exact c6j (.inl ⟨rfl,.inr rfl⟩) h1 h2
   .have:=old h1;omega
   .exact d (.inr rfl) h1 q h2
   .omega
 .rcases E.W x hw with⟨t,e1,h1⟩|⟨id,e1,h1⟩<;>rcases r.R x hr with⟨K,e2,h2⟩|⟨g,e2,h2⟩
  .exact hb i j a hj ⟨x,.inr ⟨h1,h2⟩⟩
  .omega
  .omega
  .have:id=g:=by omega
   subst this;rcases h1 with h1|⟨h1,q⟩
   .exact c6j (.inr ⟨rfl,rfl⟩) h2 h1
   .have:=old h2;omega
end
end
section
open Go.PV
def d4e(a T:AS):List Nat:=(List.range' a.m (T.m-a.m)).map (· +1)
def c6p(a T:AS):List Nat:=match(a.bx.filter λ p=>(a4U T p.1).isNone).map (λ p=>p.1+1)with
 |[]=>[]
 |l=>0::l
def b5R(a T:AS)(o:Oper):List Nat:=if b5c o.op then [0]else if a9k o.op then(if decide (T.m=a.m+1)&&(a4U T a.m).isSome then []else [0])else []
def c9M(ops:Array Oper)(a:AS)(o:Oper)(p:Bool×AS):Option (List Nat×List Nat):=
 if p.1 then(c8i a o).map λ q=>a5A ops o q.1 (q.2++(d4e a p.2++(c6p a p.2++b5R a p.2 o)))
 else if(c6p a p.2).isEmpty&&decide (p.2.m=a.m)then some (a5A ops o [] [])else none
section
variable (P:Program) (ctx:Nat->List SumA) (inl:Nat->Bool)
def c2w(ops:Array Oper):List Oper->AS->Option (List (List (List Nat×List Nat)×AS))
 |[],a=>some [([],a)]
 |o::r,a=>match c7j P ctx inl ops o a with
  |none=>none
  |some l=>a1f (λ p=>match c9M ops a o p with
   |none=>none
   |some f=>(c2w ops r p.2).map λ l=>l.map λ q=>(f::q.1,q.2)) l
def drS(ops:Array Oper)(a:AS):Option (List AS):=match c2w P ctx inl ops ops.toList a with
 |none=>none
 |some l=>if l.all (λ q=>a6F ops q.1)then some (l.map (·.2))else none
end
section
variable {P:Program} {prim:Nat->Option Fp} {inl:Nat->Bool} {ctx:Nat->List SumA}
variable {a T:AS} {Γ S:Gm} {s U:St}
variable {l:List Nat}
theorem b6P{x:Nat}(h:x∈l)(r:List Nat):2*x∈l.map (2* ·)++r:=av4 _ (ax5.2 ⟨x,h,rfl⟩)
theorem Cov.two{r:List Nat}{id:Nat}(h:Cov Γ l id):d0D Γ (l.map (2* ·)++r) id:=by
 rcases h with⟨nm,h1,h2,h3,h4⟩|⟨h1,h2,h3⟩
 .exact .inl ⟨nm,h1,h2,b6P h3 r,h4⟩
 .exact .inr ⟨h1,h2,b6P h3 r⟩
theorem c9P(h:Ok a Γ s)(f:Ok T S U)(hl:Γ.le S){nm:Nat}(hm:nm<Γ.m)(hN:Γ.N (Γ.ν nm)):S.N (Γ.ν nm)\/(nm+1∈c6p a T/\0∈c6p a T):=by
 obtain⟨p,hp,e⟩:=(h.N _).1 hN;have c:=h.νinj p.1 nm (h.box p hp).1 hm e;cases hg:a4U T nm with
 |some b=>left;refine(f.N _).2 ⟨(nm,b),a0N hg,?_⟩;exact hl.ν nm hm
 |none=>
  right;have d:nm+1∈(a.bx.filter λ p=>(a4U T p.1).isNone).map (λ p=>p.1+1):=by
   refine ax5.2 ⟨p,as2.2 ⟨hp,?_⟩,by rw[c]⟩;rw[c,hg];rfl
  unfold c6p;split
  .grind
  .grind
theorem a8G(h:Ok a Γ s):(∀i,i<Γ.m->Γ.ν i<Γ.nx)/\(∀id,Γ.N id->∃nm,nm<Γ.m/\Γ.ν nm=id)/\∀id,Γ.nx<=id->Γ.g id=none:=by
 refine⟨λ i hi=>by rw[h.nxe];exact h.νlt i hi,λ id hid=> ?_,λ id hid=>by rw[h.g];exact h.nx id (by rw[<-h.nxe];exact hid)⟩;obtain⟨p,hp,e⟩:=(h.N id).1 hid;exact⟨p.1,(h.box p hp).1,e⟩
variable {ops:Array Oper} {o:Oper}
theorem c5S(h:Ok a Γ s)(e:Ok T S U)(hl:Γ.le S){call:PV.Calls}{r:Out}(f:opE P call s.get (a0b s.h) s.nx o=some r)(l:U=a2H {s with h:=r.upd++s.h,nx:=s.nx+r.cnt} o.dst r.v){R W:List Nat}(hf:c8i a o=some (R,W)):
  StepF Γ S (a5A ops o (a3q s.get o) (a2w s.get (a0b s.h) o++List.range' s.nx (U.nx-s.nx))) (a5A ops o R (W++(d4e a T++(c6p a T++b5R a T o)))):=by
 obtain⟨c1,c2,c3⟩:=a8G h;obtain⟨f1,f2⟩:=c7V h hf;have g:U.nx=s.nx+r.cnt:=by grind[PV.a4F]
 have up:∀{x:Nat},x∈W++(d4e a T++(c6p a T++b5R a T o))->2*x∈(a5A ops o R (W++(d4e a T++(c6p a T++b5R a T o)))).2:=λ hx=>b6P hx _;refine⟨hl,c1,h.νinj,c2,c3,λ x hx=> ?_,λ x hx=> ?_,λ nm h1 h2=>up ?_,λ id h1 h2=> ?_,λ nm hm hN=> ?_⟩
 .simp only[a5A,ax1,ax5]at hx;rcases hx with⟨id,hid,rfl⟩|⟨t,ht,rfl⟩
  .exact .inr ⟨id,rfl,(f1 id hid).two⟩
  .exact .inl ⟨t,rfl,by simp only[a5A,ax1,ax5];grind⟩
 .simp only[a5A,ax1,ax5]at hx;rcases hx with⟨id,hid|hid,rfl⟩|⟨t,ht,rfl⟩
  .exact .inr ⟨id,rfl,.inl ((f2 id hid).mono (λ x hx=>av4 _ hx)|>.two)⟩
  .rw[an2]at hid;exact .inr ⟨id,rfl,.inr ⟨by rw[h.nxe];exact hid.1,by rw[e.nxe];omega⟩⟩
  .exact .inl ⟨t,rfl,by simp only[a5A,ax1,ax5];grind⟩
 .refine aw2 _ (av4 _ (ax5.2 ⟨nm,an2.2 ⟨by rw[<-h.m];exact h1,?_⟩,rfl⟩));have:=h.m;have:=e.m;omega
 .rw[h.nxe]at h1;rw[e.nxe,g]at h2;have k:0∈b5R a T o->0∈(a5A ops o R (W++(d4e a T++(c6p a T++b5R a T o)))).2:=λ hz=>up (x:=0) (aw2 _ (aw2 _ (aw2 _ hz)));by_cases c:b5c o.op=true
  .right;refine k ?_;unfold b5R;rw[ax3 c];exact az7.2 rfl
  .have c:b5c o.op=false:=by simpa using c
   by_cases i:a9k o.op=true
   .have m:=b9a i r f;by_cases d:(decide (T.m=a.m+1)&&(a4U T a.m).isSome)=true
    .left;rw[az6,ay2]at d;obtain⟨n1,n2⟩:=d;obtain⟨b,hb⟩:=at0.1 n2;have j:=a0N hb;have n:Γ.nx<=S.ν a.m:=hl.new a.m (by rw[h.m];exact ay3 _) (by rw[e.m,n1];grind);have p:=e.νlt a.m (by rw[e.m,n1];grind);rw[h.nxe]at n;have:S.ν a.m=id:=by omega
     exact(e.N _).2 ⟨_,j,this⟩
    .right;refine k ?_;unfold b5R;rw[c,i,ay9 (by decide),ax3 rfl,ay9 d];exact az7.2 rfl
   .have:=c8H (by grind) c r f;omega
 .rcases c9P h e hl hm hN with h1|⟨h1,h2⟩
  .grind
  .exact .inr ⟨up (aw2 _ (aw2 _ (av4 _ h1))),up (x:=0) (aw2 _ (aw2 _ (av4 _ h2)))⟩
theorem c7M(h:Ok a Γ s)(c:Ok T S U)(hl:Γ.le S)(d:U.nx=s.nx)(hv:(c6p a T).isEmpty=true)(hm:T.m=a.m):StepF Γ S (a5A ops o [] []) (a5A ops o [] []):=by
 obtain⟨c1,c2,c3⟩:=a8G h;refine⟨hl,c1,h.νinj,c2,c3,λ x hx=> ?_,λ x hx=> ?_,λ nm h1 h2=> ?_,λ id h1 h2=> ?_,λ nm e hN=> ?_⟩
 .refine .inl ?_;have b:=hx;simp only[a5A,ar8,ao8,ax5]at hx;obtain⟨t,_,rfl⟩:=hx;exact⟨t,rfl,b⟩
 .refine .inl ?_;have b:=hx;simp only[a5A,ar8,ao8,ax5]at hx;obtain⟨t,_,rfl⟩:=hx;exact⟨t,rfl,b⟩
 .rw[h.m]at h1;rw[c.m,hm]at h2;omega
 .rw[h.nxe]at h1;rw[c.nxe,d]at h2;omega
 .rcases c9P h c hl e hN with h1|⟨h1,_⟩
  .grind
  .grind
theorem b8E(hc:a9d P prim inl ctx){ops:Array Oper}:∀{l:List Oper} {a:AS} {Γ:Gm} {s:St} {r:List (List (List Nat×List Nat)×AS)},Ok a Γ s->c2w P ctx inl ops l a=some r->
  ∃N fs U,a4g P (Lv P prim inl N) ops l s=some (fs,U)/\∃q∈r,∃S,Γ.le S/\Ok q.2 S U/\fs.length=l.length/\q.1.length=l.length/\
   ∃G:Nat->Gm,G 0=Γ/\∀k,k<l.length->StepF (G k) (G (k+1)) (fs.getD k ([],[])) (q.1.getD k ([],[]))
 |[],a,Γ,s,r,h,hr=>by
  simp only[c2w,az0]at hr;subst hr;exact⟨0,[],s,rfl,_,az7.2 rfl,Γ,Gm.le.refl Γ,h,rfl,rfl,λ _=>Γ,rfl,λ k hk=>by simp at hk⟩
 |o::l,a,Γ,s,r,h,hr=>by
  simp only[c2w]at hr;split at hr
  .cases hr
  next sl x=>
  obtain⟨N,u,n1,j,p,I,H,y,l1,o1⟩:=b8M hc h x (ops:=ops) (prim:=prim);obtain⟨z,w,J⟩:=a2x hr p I;split at w
  .cases w
  next f hf=>
  simp only[az2]at w;obtain⟨O,A,rfl⟩:=w;obtain⟨M,fs,B,m1,q,K,C,l2,o2,m,n,G,g0,gs⟩:=b8E hc (l:=l) o1 A;have d:a0v P (Lv P prim inl (max N M)) ops o s=some u:=a7N (ar5 N M) n1;have t:a4g P (Lv P prim inl (max N M)) ops l u=some (fs,B):=b0c (a0L (ar6 N M)) m1;have first:∃fc,a4g P (Lv P prim inl (max N M)) ops (o::l) s=some (fc::fs,B)/\StepF Γ y fc f:=by
   unfold c9M at hf;cases hw:a0V ops o s.get with
   |true=>
    rw[H,hw]at hf;simp only[aw4,az2]at hf;obtain⟨⟨R,W⟩,D,rfl⟩:=hf;have e:a1F (Lv P prim inl (max N M)) s.get o=some none:=b2w (a0L (ar5 N M)) (j hw);have g:∃r,opE P (Lv P prim inl (max N M)) s.get (a0b s.h) s.nx o=some r/\u=a2H {s with h:=r.upd++s.h,nx:=s.nx+r.cnt} o.dst r.v:=by
     have b:=d;unfold a0v at b;rw[ax3 hw]at b;simp only[az2]at b;obtain⟨⟨v,Q⟩,i,rfl⟩:=b;unfold a1h at i;simp only[e,az2,az8]at i;obtain⟨r,hr,rfl,rfl⟩:=i;exact⟨r,hr,rfl⟩
    obtain⟨r,r1,r2⟩:=g;refine⟨_,?_,c5S h o1 l1 r1 r2 D⟩;simp only[a4g,d,t,hw,aw4,e]
   |false=>
    rw[H,hw]at hf;simp only[ay6,av8]at hf;split at hf
    .next c=>
     rw[az6,ay2]at c;injection hf with hf
     subst hf;have E:u.nx=s.nx:=by
      have b:=d;unfold a0v at b;rw[ay9 (by grind)]at b;injection b with b
      grind[PV.a4F]
     refine⟨_,?_,c7M h o1 l1 E c.1 c.2⟩;simp only[a4g,d,t,hw,ay6,av8]
    .cases hf
  obtain⟨fc,F,L⟩:=first
  refine⟨max N M,fc::fs,B,F,(f::q.1,q.2),J _ (ax5.2 ⟨q,K,rfl⟩),C,l1.trans l2,o2,by simp[m],by simp[n],λ k=>match k with|0=>Γ|k+1=>G k,rfl,λ k hk=> ?_⟩;cases k with
  |zero=>grind
  |succ k=>grind
theorem d4D(hc:a9d P prim inl ctx):d6j P prim inl (drS P ctx inl):=by
 intro ops a Γ s l h hr;unfold drS at hr;split at hr
 .cases hr
 next r c=>
 split at hr
 .next o=>
  injection hr with hr
  subst hr;obtain⟨N,fs,U,n1,q,H,S,l1,o1,p,t,G,g0,gs⟩:=b8E hc h c;have z:=ay5.1 o q H;have u:q.1.length=ops.size:=by simpa using t
  have d:fs.length=ops.size:=by simpa using p
  obtain⟨he,hA⟩:=b1p u z;refine⟨N,fs,U,n1,?_,q.2,ax5.2 ⟨q,H,rfl⟩,S,l1,o1⟩;unfold a6F;simp only[az6,ay5,ay8,ax2];refine⟨he,λ x hx y hy=> ?_⟩;obtain⟨fj,j⟩:=x;obtain⟨fi,i⟩:=y;have hj:=List.getElem?_of_mem hx;obtain⟨I,e⟩:=hj;rw[List.getElem?_zipIdx]at e;simp only[as4,az2,az8]at e;obtain⟨B,v,rfl,rfl⟩:=e;obtain⟨J,hi'⟩:=List.getElem?_of_mem hy;rw[List.getElem?_zipIdx]at hi';simp only[as4,az2,az8]at hi';obtain⟨D,b,rfl,rfl⟩:=hi';rw[av1]at b;split at b
  .next E=>
   have F:I<ops.size:=by rw[<-d];exact(ay0.1 v).1
   have eC:∀{k f},fs[k]?=some f->fs.getD k ([],[])=f:=λ h=>by grind
   cases g:a7k D B with
   |false=>grind
   |true=>
    left;refine c7t (n:=ops.size) (G:=G) (C:=λ k=>fs.getD k ([],[])) (A:=λ k=>q.1.getD k ([],[])) (bit:=λ j i=>((Region.before ops).getD j 0).testBit i=true) (λ k hk=>gs k (by grind)) (λ i j h1 h2 m=> ?_) (λ j k i h1 h2=>b6G he j k i h1 h2) E F ?_
    .refine(hA i j h1 h2).resolve_right λ hm=> ?_;obtain⟨m1,m2⟩:=a4V hm;obtain⟨x,hx⟩:=m;rcases hx with⟨w,r|r⟩|⟨w,r⟩
     .grind
     .grind
     .grind
    .show d7w (fs.getD J ([],[])) (fs.getD I ([],[]));rw[eC b,eC v];unfold a7k at g;simp only[ay8,ar4,au1]at g;rcases g with⟨x,h1,h2⟩|⟨x,h1,h2⟩
     .exact⟨x,.inl ⟨h1,h2⟩⟩
     .exact⟨x,.inr ⟨h1,h2⟩⟩
  .cases b
 .cases hr
end
end
section
open Go.PV
structure Row where
 k:Nat
 c:SumA
 ann:List (Nat×List Ann)
 deriving Inhabited
def lkA(l:List (Nat×List Ann))(b:Nat):List Ann:=(l.lookup b).getD []
def b6W:Nat->List Row->Nat->List SumA
 |0,_,_=>[]
 |_,[],_=>[]
 |n+1,r::l,k=>if r.k==k then r.c::b6W n l k else b6W n l k
def lkI(l:List (Nat×List (Nat×List Ann)))(k:Nat)(b:Nat):List Ann:=lkA ((l.lookup k).getD []) b
def b7y(P:Program)(pr:List Nat)(inl:Nat->Bool)(ai:List (Nat×List (Nat×List Ann)))(rows:List Row)(i:Nat):Bool:=
 match rows[i]? with
 |none=>true
 |some r=> !pr.contains r.k&&b4D P (b6W i rows) inl (irL P (b6W i rows) inl (drS P (b6W i rows) inl) (lkI ai) 3) (drS P (b6W i rows) inl) (lkA r.ann) r.k r.c
section
variable {P:Program} {prim:Nat->Option Fp} {inl:Nat->Bool} {pr:List Nat} {ai:List (Nat×List (Nat×List Ann))} {rows:List Row}
theorem b2T:∀{n:Nat} {l:List Row} {k:Nat} {c:SumA},c∈b6W n l k->∃j r,j<n/\l[j]?=some r/\r.k=k/\r.c=c
 |0,_,_,_,h=>by simp[b6W]at h
 |_+1,[],_,_,h=>by simp[b6W]at h
 |n+1,r::l,k,c,h=>by
  simp only[b6W]at h;split at h
  .next e=>
   rcases ay4.1 h with rfl|h
   .exact⟨0,r,by omega,rfl,by simpa using e,rfl⟩
   .obtain⟨j,a,h1,h2,h3⟩:=b2T h;exact⟨j+1,a,by omega,by simpa using h2,h3⟩
  .obtain⟨j,a,h1,h2,h3⟩:=b2T h;exact⟨j+1,a,by omega,by simpa using h2,h3⟩
def RowsOk(P:Program)(prim:Nat->Option Fp)(inl:Nat->Bool)(rows:List Row)(n:Nat):Prop:=
 ∀i r,i<n->rows[i]?=some r->a1p (λ N=>(Lv P prim inl N).cbv) r.k r.c
theorem RowsOk.ctx{n:Nat}(h:RowsOk P prim inl rows n):a9d P prim inl (b6W n rows):=by
 intro k c hc;obtain⟨j,r,h1,h2,rfl,rfl⟩:=b2T hc;exact h j r h1 h2
theorem RowsOk.more(hp:∀k,pr.contains k=false->prim k=none){lo:Nat}(h:RowsOk P prim inl rows lo):∀(n:Nat),((List.range n).all λ d=>b7y P pr inl ai rows (lo+d))=true->RowsOk P prim inl rows (lo+n):=by
 intro n;induction n with
 |zero=>intro _;exact h
 |succ n ih=>
  intro hc;have a:∀d,d<n+1->b7y P pr inl ai rows (lo+d)=true:=λ d hd=>ay5.1 hc d (aq2.2 hd);have h0:=ih (ay5.2 λ d hd=>a d (by have:=aq2.1 hd;omega));intro i r hi hr;by_cases e:i<lo+n
  .exact h0 i r e hr
  have e:i=lo+n:=by omega
  subst e;have h1:=a n (by omega);unfold b7y at h1;rw[hr]at h1;simp only[az6,ax2]at h1;have hd:=d4D (inl:=inl) h0.ctx;exact c4x h0.ctx (d5V h0.ctx hd 3) hd (hp _ h1.1) h1.2
theorem RowsOk.one{n:Nat}(h:RowsOk P prim inl rows n)(h1:∀r,rows[n]?=some r->a1p (λ N=>(Lv P prim inl N).cbv) r.k r.c):RowsOk P prim inl rows (n+1):=by
 intro i r hi hr;by_cases e:i<n
 .exact h i r e hr
 .have e:i=n:=by omega
  subst e;exact h1 r hr
end
end
section
open Go.PV
noncomputable section
namespace D
variable(α:AB)(s K T ε ζ η θ:AV)(ι κ:Ann)(μ:Bool)(ν ξ ο π:Bool×Nat×List Nat×Int)(ρ L V υ φ χ:Ce)(b e Γ F Y Ξ Υ Φ Ψ Ω Α Β:Int)(Z:IntKind)(N:LE)(Η Ι:LinF)(Κ:List (Bool×Nat×List Nat×Int))(A:List (List Ce))(Ν:List (Nat×List Ann))(Q:List (Nat×List Pt))(E:List (Nat×Pt))(z:List (Sy×Int))(x ϊ:List AV)(ϋ:List Ann)(q:List Ce)(u:List LE)(G:List LinF)(O:List Nat)(ϑ:List Pa)(n:List PostA)(ϓ:List Pt)(f:List Sy)(m:List TD)(a d k y Ϛ ϛ Ϝ:Nat)(ϝ:Nat×List Ann)(Ϟ:Nat×List Pt)(ϟ:Nat×Pt)(S ϡ:Pa)(W zB:PostA)(zC zD zE:Pt)(H zG:Sy)(w zI zJ:Sy×Int)(h v B M R X zQ zR:TD)(zS:Value)
def nt:Sy:=⟨a,-9223372036854775808,b⟩
def aX:=nt 9223372036854775807 a
def nu:TD:=.int Z (-9223372036854775808) b
def nv:=nu 9223372036854775807 Z
def ad:Sy:=⟨a,0,b⟩
def mm:AV:=.str ⟨b,z⟩
def jf:AV:=.int Z ⟨b,z⟩
def cI:=ad 17592186044416 a
def hK:Ce:=.av (jf b Z z)
def im:Ce:=.av (mm b z)
def aT:=ad 1048576 a
def al:=nv .i64
def jg:=hK b .i64 z
def mn:Ce:=.av (.bool α)
def aC:TD:=.str 16384
def mT:Bool×Nat×List Nat×Int:=(false,a,O,b)
def fH:TD:=.str 65536
def ea:Sy×Int:=(ad b a,e)
def fJ:AV:=.dat false N h
def bz:=ea b 1 a
def nw:TD:=.str 4611686018427387904
def p:TD:=.str 1048576
def dN:List (Sy×Int):=[bz b a]
def da:LE:=⟨b,dN e a⟩
def dw:=mT b [] a
def bM:Row:=⟨a,⟨d,f,x,A,u,n⟩,Ν⟩
def nx:TD:=.int Z b 18446744073709551615
def e9:TD:=.sl false b h
def mU:PostA:=⟨a,f,.pa S,A,u⟩
def mV:=im b (dN e a)
def db:LinF:=⟨0,Κ⟩
def cJ:PostA:=⟨a,f,.tup ϑ,A,u⟩
def ar:TD:=.str 134217728
def mW:=dN 18446744073709551615 a
def mX:AB:=.c false
def i:Pt:=.td al
def cK:=mU A u f a (.ce ρ)
def l:Ce:=.av .nils
def cv:=jg 0 z
def g5:=fJ N (.agg m)
def k2:=mm b (dN e a)
def dx:=ad 1099511627776 a
def j:=cv []
def mY:Sy×Int:=(aX a,b)
def mo:=db [ν,ξ]
def mq:=mo (dw b a) ν
def hL:=mq (dw e d) b a
def mZ:TD:=.int .i64 b e
def t:AV:=.bool .unk
def lJ:=mY 1 a
def ip:=jf b .i64 z
def cw:=ad 18446744073709551615 a
def I:=aT 0
def ny:=k2 b 1099511627776 a
def hM:List (Sy×Int):=[lJ a]
def aD:=cv (hM a)
def r:=mn mX
def J:=cI 0
def o:=mn .unk
def gm:=bM A Ν x [] n f a d
def az:=mV 0 b a
def hN:LE:=⟨0,z⟩
def k3:=im 0 z
def g:=k3 []
def fL:=da b 2147483648 a
def fa:=hL b (-1) a d
def nz:=ip b (hM a)
def bj:=az 65536 a
def bU:=gm [] Ν x n f a d
def nA:Ann:=⟨E,Q,G,fa b a d⟩
def m0:AB:=.c true
def bW:=ad 2147483648 a
def mr:Pt:=.own a d 4294967296 h
def C:Pt:=.td nw
def nB:TD:=.val μ 1048576
def jh:Ce:=.av (g5 N m)
def g6:=cK ρ [] u f a
def aa:Pt:=.boolc false
def ji:=mT b [d] a
def nC:List Pa:=[S,.ce ρ]
def m1:=cJ A u (nC ρ S) f a
def eG:=m1 ρ A u f a (.agg q)
def ca:=nB false
def lK:=hK b .u64 z
def jY:=e9 b (.agg m)
def cx:=g6 ρ [] f a
def ms:=mo (ji b a d) ν
def lL:Bool×Nat×List Nat×Int:=(true,a,O,b)
def gn:=da 0 b a
def nD:=nx b .u64
def ai:=mn m0
def br:=ji (-1) a d
def m2:=mm 0 z
def g7:=bU [] x n f a d
def m3:=m1 L A u f a (.ce ρ)
def jj:Ce:=.av (fJ N h)
def aJ:=ad 65536 a
def nE:=m2 [w]
def ae:TD:=.str 16378
def mu:=nE (H,b)
def nF:=mu b (cI a)
def m4:=mo (lL b O a) ν
def g8:Sy×Int:=(⟨a,b,e⟩,Γ)
def jZ:Ce:=.own a d N (.agg m)
def aK:=ea b (-1) a
def bl:=nD 0
def bX:=cx ρ [] a
def nG:TD:=.int .u8 b e
def lM:=e9 b aC
def gp:=ad 16384 a
def nH:=k2 b 65536 a
def jk:=mU A u f a (.agg q)
def mv:=lL (-1) O a
def lN:Sy×Int:=(aT a,b)
def a0:=nz 0 a
def nI:=m4 (br d k) b O a
def m5:=k3 [w]
def nJ:=m5 (lN b a)
def m6:=k2 b 16384 a
def cy:=dw (-1) a
def P:=aX 1
def a6:=cv (dN b a)
def bs:=ad 4096 a
def cz:AV:=.agg [s,K,T,ε]
def gq:=az 12573 a
def k4:AV:=.ptr a 0
def bE:=jh (gn b a) m
def j0:List TD:=[mZ b e,h,v,B]
def mw:=j0 b e h (lM Γ) v
def m7:=mw b e Γ aC h
def mx:=m7 b e Γ (e9 F h)
def dy:=g5 (gn b a) m
def nK:=lK b (mW a)
def bY:=az 253 a
def ab:=fa 1 a d
def eb:=eG ρ [] q u f a
def bb:=k4 0
def nL:=mq (mv O d) b a
def m8:=nG b 255
def c0:=m8 0
def k5:=g8 b e 1 a
def dO:=ad 1073741824 a
def eH:=m7 b e Γ (jY F m)
def c1:=nA 1 Q E G a d
def dz:=c1 [] E G a d
def dA:=fJ (gn b a) h
def nM:=mu b J
def ah:=nM 1
def nN:=ms (mv O k) b a d
def bm:=hN [w,zI]
def dP:=nF 1 a
def hO:List (Sy×Int):=[k5 b e a]
def a7:=cv (hO b e a)
def m9:=jh (hN z) m
def aL:=da (-1) b a
def aG:List Sy:=[ad b a]
def ac:=a0 1
def aU:=az 4096 a
def af:=cI 2
def dc:=az 1099511627776 a
def k6:=mY (-1) a
def aE:=k6 1
def ag:=cI 1
def nO:AV:=.lit (.pointer none)
def fb:LE:=⟨-1,z⟩
def lO:=jj (hN z) h
def fM:=bX r a
def g9:TD:=.str 12573
def aO:=aD 2
def j1:=aK 1099511627776 a
def nP:=ms (br k y) b a d
def fc:=m3 ρ L [] u f a
def gr:=eb ρ q [] f a
def nQ:=fJ (fL b a) h
def fd:=g7 [s] n f a d
def dd:=fd (.agg x) n f a d
def bF:=ad 253 a
def jl:=jY 1048576 m
def fe:=jZ (gn b k) m a d
def nR:=k2 b 1073741824 a
def a9:=aD 5
def aj:=aD 1
def cL:List Sy:=[⟨a,b,e⟩]
def nS:List TD:=[h,v,B,M,R,.bool,X,zQ,zR]
def nT:=nS h v B M R .bool X zQ
def nU:=nT fH h v B M R X
def nV:=nU al h v B M R
def nW:=nV fH h v B M
def nX:=nW fH h v B
def nY:=nX fH h v
def nZ:=nY al h
def bN:=nZ al
def bt:=jj (gn b a) h
def cM:=dw 1 a
def n0:=cz (ip b z) s K T
def na:=ea 65536 b a
def gs:=bX ai a
def nb:=m5 (H,b)
def n1:=nb b I
def U:=n1 1
def hP:=n0 (m6 e a) s K b z
def n2:=nL b [] a d
def gu:TD:=.str 253
def aA:=nJ 1 a
def iq:=mq (br d k) b a
def aM:Pa:=.ce j
def eI:=ny 0 a
def an:=ad b 2
def k7:=lN 1 a
def k8:TD:=.rel (mx b e Γ F h)
def eJ:Ann:=⟨E,Q,G,⟨b,Κ⟩⟩
def n3:=e9 b .any
def bZ:=jg b []
def dB:=fc ρ L [] f a
def n4:=jf b .u64 z
def n5:=n4 b (mW a)
def ha:=jk [] q u f a
def ao:=aX 0
def n6:=bU [ϝ] x n f a d
def ir:=n6 x n f a d (k,ϋ)
def gv:=dz E [Η,Ι] a d
def hb:=gv (ab a d) Η E k y
def n7:=hb (db Κ) E a d k y
def cN:=cx ρ (aG b d) a
def bh:=fM 1
def n8:=gr ρ q (cL b e d) a
def my:=bm (H,b) w
def au:=gp 1
def bi:=mr a d (.agg m)
def lP:=hN (hM a)
def bn:=n8 (a7 Γ F k) b e q a d
def gw:=az 16384 a
def lQ:=ir x ϋ n f a d 0
def lR:=aL 18446744073709551615 a
def aw:=cI 4
def k9:=hP (dA Γ d h) s b e z a
def b0:=nH 0 a
def b1:=aT 2
def ax:=dP 1
def n9:=nI 1 O a d k
def j2:=n9 [d] a k y
def a1:=aT 1
def oa:=jf b Z (dN e a)
def ay:=cw 1
def lS:=cz (a0 a) s K T
def fO:=bY 4
def fP:=gq 3
def mz:=gm A [] x n f a d
def ob:=lK b []
def ak:=ob 0
def eK:Ann:=⟨E,Q,G,db Κ⟩
def oc:=g5 (fL b a) m
def j3:=n3 0
def od:=m4 (cy d) b O a
def is:=aK 2147483648 a
def j4:=my 1 H w
def b2:=gs 1
def aB:=aX 2
def eL:List (Bool×Nat×List Nat×Int):=[cM a]
def cb:=n7 (eL k) E a d y Ϛ
def cA:LE:=⟨b,[w]⟩
def oe:=eH b e Γ F (mx Y Ξ Υ Φ h)
def og:TD:=.int .u64 b e
def dC:=ad 12573 a
def aF:=dx 0
def nc:Pt:=.td (.str b)
def hQ:=k9 (dy F m k) b e Γ z a d h
def gx:List (Sy×Int):=[k7 a]
def hR:=lO (gx a) h
def jm:=nK 0 a
def bc:=jm 1
def aH:=aX 5
def ff:=lL b [] a
def oh:List Pa:=[.agg q,S,ϡ]
def fQ:=cJ A u (oh q S ϡ) f a
def eM:=fQ A q u f a S (.ce ρ)
def la:=fd s n f a 1
def aq:=n2 1 a d
def oi:=lM 1048576
def nd:=bz 1099511627776 a
def dD:=k2 0 b a
def fg:=ha q [] f a
def aP:=lP 1
def aQ:=aD 3
def aR:=aX 3
def aS:=aD 6
def aV:=ad 64 a
def oj:=oa b e .u8 a
def nf:=oj b 255 a
def aW:=cI 3
def fR:=g6 ρ u (aG b d) a
def aY:=eI 0
def it:=j4 I w
def aZ:=an 8
def a2:=dP 4
def a3:=aD 8
def gy:=hN []
def iu:TD:=.str 17592186044416
def om:=nN 1 O a d k
def ng:=om [y] a d k
def fS:=bm w (bz b a)
def bd:=hb (aq k y) E a d Ϛ ϛ
def fh:=az 1073741824 a
def eN:=ad 134217728 a
def bG:=it aE
def ba:=dP 2
def mA:=la s n (aG b d) a
def fi:Nat×Pt:=(a,.nils)
def nh:=e9 1048576 h
def hc:=a6 1099511627776 a
def on:=gn 1099511627776 a
def cq:=lQ x [ι] n f a d
def oo:List TD:=[h,v,.bool]
def oq:=oo p h
def c2:=oq p
def bu:=jl c2
def fU:Pt:=.boolc true
def jn:LE:=⟨b,[w,zI]⟩
def eO:=jn b w (aK e a)
def cB:=db (eL a)
def cO:=cA 4096 w
def os:=j2 a 0 d k
def a4:=os a d 0
def ot:=fe b m 44 a d
def ou:=ot b bN a d
def gz:=g7 [s,K] n f a d
def ec:=gz (.agg x) s n f a d
def ov:TD:=.rel (j0 b e h v B)
def bo:=dx 1
def ed:Pa:=.ce (a7 b e a)
def ow:=hQ b F Y Ξ (hO e Γ a) m d k y h
def bp:=aD 7
def cP:Pt:=.td bl
def cc:=aD 12
def dE:=mu 1 H
def bH:=dE I
def cQ:=bz 65536 a
def ox:=dN 86400 a
def cR:=ad 255 a
def cr:=ad b 3
def a8:=cr 8
def fX:TD:=.str 16377
def fY:=mz [q] x n f a d
def oy:=cK ρ A [] f a
def oz:=ms (cy k) b a d
def eP:Sy:=⟨a,b,1048576⟩
def bA:=aT 3
def bO:=eO b Γ d (bz e a)
def cd:=j4 J w
def jo:=nQ 0 a h
def ni:=dB ρ (a7 b e d) f a
def oA:=mA (nf e k) b n a d
def oB:=od b [] a d
def eQ:=nP 1 a d k y
def bI:=aX 7
def cC:=bj 10
def b3:=cN (az e k) b a d
def bv:List Sy:=[J]
def nj:Sy:=⟨a,5,b⟩
def fZ:=ad 86400 a
def hS:Ce:=.own a d N c0
def f0:Pt:=.td .bool
def cf:=lS s K (a0 d) a
def bP:=aX 6
def oC:=m9 [w] m
def dF:Ce:=.av nO
def b4:=dP 3
def b5:=bj 2
def dQ:=oe b e Γ F Y Ξ Υ Φ ca
def oD:=oC m (H,b)
def oE:=oD b m I
def oF:=oE 1 m
def hd:=fb [w,zI]
def c3:=aD 13
def hT:=ni ρ Γ F (cL b e d) a k
def cg:=a0 0
def ch:=aA 2
def hU:=gw 1
def cj:=bj 4
def ck:=aX 8
def dR:Pt:=.td oi
def oG:TD:=.lit (.pointer none)
def oH:=lK b (ox a)
def fj:=jo a p
def gA:=fg q [] a
def he:=az 134217728 a
def hf:=dD 134217728 a
def de:=bj 11
def fk:=bE 64 m a
def c4:List AV:=[bb]
def eR:=hd w (aK b a)
def cs:=bW 0
def ct:=aA 1
def oI:=bz 4294967280 a
def bQ:=eH b e Γ F (dQ Y Ξ Υ Φ Ψ Ω Α Β)
def c5:=n5 0 a
def bJ:=c5 1
def oJ:=eK (eL a) Q E G
def iv:TD:=.str 1048575
def cD:=dx 2
def cE:=fR (az e k) b u a d
def j5:AV:=.has (gn b a)
def iw:=dD 4096 a
def oK:=ip b (dN e a)
def oL:=oA 255 b n a d k
def eS:=ff 1 a
def oM:=oF [h,v,B,M,R,X,zQ]
def oN:=oM ar h v B M R X
def oO:=oN al h v B M R
def oP:=oO ar h v B M
def oQ:=oP ar h v B
def oR:=oQ al h v
def oS:=oR bl h
def c6:=oS bl
def hg:TD:=.str 8193
def gB:=ou b 9 a
def c7:=eQ a 0 d k
def f1:=nc 4096
def cS:=dx 3
def cT:=eI 1
def be:=eb j q u f a
def cU:=aT 8
def cl:=cq (cb E k y Ϛ ϛ Ϝ) x n f a d
def oT:=fk (j0 b e h v B) a
def mB:List Ce:=[.self,ρ]
def oU:=k8 b e 10 Γ h
def f2:=oU b e 10 h
def lT:=aK 65536 a
def oV:=dD 4294967280 a
def mC:=mr a 1 h
def c8:=fi 5
def c9:=bW 3
def lU:=k5 b 1048576 a
def lb:=dA 9223372036854775807 a h
def cV:=a6 255 a
def oW:=c1 Q [ϟ] G a d
def bB:=iq 1 a d k
def df:=fS e d (aK b a)
def ee:=aD 10
def fl:=bE b bN a
def ix:=an 1048575
def bf:List Sy:=[ad b a,H]
def hh:AV:=.bool mX
def oX:=g8 b 1048576 e a
def dg:=cy 4
def dh:=aX 4
def di:=eI 3
def oY:=oW Q G d k (a,zC)
def cF:=oY Q G a d k i
def dj:=bj 9
def dk:=bj 7
def iy:=lN (-1) a
def bq:=fY c4 q n f a d
def oZ:=la s n bv a
def mD:=oZ ah n a
def o0:=ng a 0 d k
def b6:=o0 a d 0
def dT:=cA b (k6 a)
def o1:AV:=.lit .nilIface
def dm:=oy ρ [q] f a
def aN:=oB 1 a d
def b7:=oc 0 m a
def eT:=mB l
def eU:=an 64
def hV:=nb 1 H
def nk:=nj 7 a
def bw:=nk 0
def eV:=cy 34
def dG:=fM 2
def lV:=e9 b p
def o2:=lV 256
def dH:=bj 3
def dI:=bj 0
def fm:Pa:=.ce (bZ b)
def f3:Pt:=.td aC
def f4:Pt:=.td o2
def ef:=cd (aK b a)
def fo:=cJ A [] ϑ f a
def jq:=bM A [] x u n f a d
def f5:=dy 64 m a
def jr:LE:=⟨b,hM a⟩
def cG:=db [ν,ξ,ο,π]
def lW:=cG ν ξ ο (br a d)
def dU:=eI 2
def dV:=gp 4
def dW:=cI 5
def dY:=aT 6
def dZ:=aT 4
def o3:=mB (hS N a d)
def iz:=bm w (aK b a)
def dJ:=dD 253 a
def cm:=bt b a aC
def b8:=gr j q f a
def cn:=az b 2
def iA:=cn 1048575
def eW:=m9 (gx a) m
def js:TD:=.str 28641
def eg:=lJ 1
def eh:=dO 0
def ei:=bW 2
def gC:List Pt:=[zC,zD,.nils,zE]
def lc:=gC zC zD .nils
def hW:=a7 b 1048576 a
def f6:=dE a1
def iB:=fb (gx a)
def ld:=bz 52776558133279 a
def o4:=ow b e Γ F Y Ξ m a d k y aC
def f7:=aX 10
def j6:AV:=.agg [s,K,T]
def hi:=nc 256
def lf:=lL b [d] a
def o5:=ng a 1 d k
def lX:=o5 a d 1
def hj:=f2 b e (f2 Γ F h)
def ej:=g6 ρ [N] f a
def eX:=bY 2
def eY:=bF 2
def eZ:=aD 0
def jt:=jo a ca
def e0:=fM 4
def fp:=g5 (hN z) m
def hk:Pa:=.ce g
def iC:=m6 0 a
def ek:=iC 4
def e1:=jh (da b e a) m
def o6:=lS s (fj d) K a
def e2:=o6 s (jt k) a d
def gD:=gz s (.lit zS) n f a d
def a5:List LE:=[aL b a]
def gE:=m2 []
def o7:List TD:=[h,v,B,M,R,.bool,X]
def o8:=o7 h v B M R .bool
def nl:=o8 h al v B M
def nm:=nl h v fH B
def o9:=nm fH h v
def pb:=o9 fH h
def bR:=pb fH
def gF:=aX 12
def gG:=aJ 10
def hl:=dD 12573 a
def fq:=bs 4
def el:=lf 1 a d
def em:=lW ν ξ (el a d) k y
def fr:=gs 4
def fs:=aT 7
def ft:=aX 9
def fu:=b0 4
def fv:=aJ 4
def fw:=bF 4
def fx:=dC 3
def fy:=iy 2
def en:=hb (ab k y) E a d Ϛ ϛ
def iD:=aL 253 a
def pc:=j2 a 1 d k
def fz:=pc a d 1
def hX:LinF:=⟨b,[ν]⟩
def fC:=hX (cy a) b
def j7:=cL b 2147483647 a
def j8:=dy 1073741824 m a
def pd:=hR a c0
def pe:=mC a c0
def dn:=pe 5
def mE:=dB ρ j f a
def lY:=eJ b Κ [] E G
def cW:=oJ [] E G a
def fD:=j6 s K (f5 m a)
def lg:=og 0 b
def cu:=lg 0
def f8:=eS 4
def f9:=eI 4
def ga:=dx 4
def gb:=gp 6
def gd:=aT 5
def d0:=c7 a d 1
def gf:Ann:=⟨E,Q,G,d0 a d⟩
def gg:=aA 8
def gH:=nR 0 a
def nn:=fJ gy h
def pf:=ov b e h j3 v
def mF:=pf b e h j3
def mG:=mF b e aC
def bK:List AV:=[ah]
def lZ:AV:=.agg [s,K,T,ε,ζ,η,θ]
def eo:=lZ s (a0 a) K T ε ζ η
def l0:AV:=.fn a x []
def cH:=az b 1
def e3:=ad b 7
def l1:=na 6 a
def gI:=nd 0
def gJ:=b0 0
def gK:=aJ 0
def pg:=lO z c0
def gL:=gs 2
def gM:=cw 2
def hY:=hV J
def gN:=cy 3
def gO:=eS 3
def hZ:=nn aC
def gP:=e3 8
def gQ:=dP 5
def dq:=gr ρ q [] a
def np:Pt:=.td (nh h)
def gR:=aV 7
def gS:=aD 9
def gT:=a0 6
def nq:=cI 15
def h0:=aX 11
def gU:=k7 2
def hm:=cv (gx a)
def ju:=eR 1048575 a w
def ph:=oT b e a g9 h v
def pi:=ph b e a gu h
def pj:=pi b e a al
def lh:=aG 4294967280 a
def jv:TD:=.str 64
def e4:=ad b 8
def iE:TD:=.str 0
def pl:=it (oX b e a)
def li:=bz 2147483648 a
def lj:=gz s K n f a 2
def ep:=hR a p
def bg:=lQ x [ι,κ] n f a d
def gV:=mC 9 h
def hn:=mD [W,zB] a
def d1:=hn a (bn b e Γ F q d k y) W
def h1:Ce:=.av (j5 b a)
def bS:=oz 1 a d k
def l2:=k5 b 17592186044416 a
def l3:=ed b 17592186044416 a
def l4:Sy:=⟨a,b,17592186044416⟩
def er:=mv [] a
def mH:=mZ 0 b
def lk:TD:=.str 49471
def j9:=eM r A q u f a S
def bL:=la s n [H] a
def ho:=cR 1
def ll:=on 0
def hp:=j1 1
def hq:=gp 0
def hr:=gH 0
def hs:=cy 5
def ht:=e4 8
def gW:=fg q (aG b d) a
def hu:=mH 0
def hv:=bZ 8
def hw:=a0 5
def hy:=b0 3
def hz:=b0 2
def hA:=aJ 3
def hB:=aJ 2
def hC:=b0 9
def hD:=aJ 9
def lm:=a7 b 2147483647 a
def iF:=bZ (-1)
def bC:=dd x [W] f a d
def iG:=nn ca
def iH:=hV af
def iI:=gV aC
def iJ:=np c0
def iK:=nh p
def iL:=aX 13
def iM:=hV nq
def iN:=aD 11
def iO:=aX 14
def iP:=jm 11
def jw:=hd aE w
def bx:=cq ι x [W] f a d
def pn:=oL b n a 0 d
def po:=pn 0 n a d
def ln:=po n a 0
def lo:=dB ρ L [] a
def pp:=mx b e Γ F ca
def l5:=g8 b 17592186044416 e a
def cX:=ad b 1
def mI:=hN [w]
def hE:=mI (is a)
def iQ:=ad 7 a
def fE:=iQ 0
def l6:TD:=.str 1048574
def gX:=jZ (fL b k) m a d
def e5:=oH 0 a
def h2:=oI 0
def h3:=eS 5
def lp:=an 12573
def h4:=cI 6
def gY:=mr 153 a h
def bD:=m3 ρ L [q] u f a
def h5:=a0 4
def h6:=aT 9
def h7:=fi 2
def h8:=bY 5
def h9:=mI (aK b a)
def pq:List Ce:=[ρ,L,V,υ,φ,χ,gB b a]
def pr:=pq c6 ρ L V υ φ b a
def ps:=pr bc ρ L V υ b a
def pt:=ps aO ρ L V b a
def pu:=pt fP ρ L b a
def pv:=pu fO ρ b a
def ka:=pv a9 b a
def kb:List (List Ce):=[ka b a]
def es:=j9 (kb b d) q u f a S
def ia:=bW 4
def ib:=aA 7
def et:=dm ρ q [] a
def dr:=g7 [s,K,T] n f a d
def pw:=cF [Ϟ] G a d k
def px:=mH 110
def mJ:=aK 4096 a
def jx:=aU 12
def jy:=bs 12
def jz:=aJ 11
def jA:=aD 14
def l7:=cr 1048575
def py:=pj 1 b a
def d2:=py 4 a
def jB:=e5 12
def jC:=fZ 12
def pz:=ln [W,zB] a
def nr:=pz a W bh
def cY:=nr a b2
def pA:=fz 3 a
def ds:=pA 3
def e6:=fo A ϑ [] a
def iR:=oV 0
def eu:=oK 0 b a
def iS:=iC 0
def iT:=fi 4
def fG:=my (-1) H w
def iU:=bs 3
def pB:=o4 0 b e Γ F Y m a d k y
def pC:=pB 5 b e Γ F m a d k y
def pE:=pC 7 b e Γ m a d k y
def pF:=pE 0 b e m a d k y
def pG:=pF 8 b m a d k y
def jD:=pG 8 m a d k y
def pH:=jD m 0 a d k
def pI:=pH m 1 a d
def pJ:=pI m 2 a
def ew:=pJ m 3
def iW:=nk 5
def iX:=dP 6
def kc:=pw G a k y (d,ϓ)
def pK:=lc i zC
def gh:=pK C
def iY:=bj 5
def iZ:=aU 9
def i1:=bs 9
def i2:=cI 7
def l8:=a6 1073741824 a
def i3:=bY 9
def i4:=gq 8
def i5:=gq 4
def dK:=na 3 a
def mK:TD:=.str 1073741824
def gZ:=dr (ew m) s K n f a d
def lq:=eu 1000000 a
def kd:Pt:=.td px
def i6:=jw (lU b a)
def ke:Ce:=.av o1
def kf:Pt:=.td oG
def pL:=b6 0 a
def dM:=pL 0
def mL:=mA s 9223372036854775807 n a d
def b9:=lj s K n [H,zG] a
def dt:List Sy:=[b1]
def mM:=lV 2147483648
def mN:=ji b a 0
def mO:=lV 4294967296
def kg:=dE b1
def g1:=l0 [] a
def pM:=pg [w]
def gi:=lo ρ r a
def kh:=hV ag
def mP:=bz 70368744177696 a
def mQ:=fY [s,K] q n f a d
def cp:=mQ bb s q n f a d
def i7:=gA [ρ,L,V,υ] a
def ki:=i7 ρ hU L V a
def hF:=ki (a7 b e d) ρ L a
def pN:=a4 3 a
def d3:=pN 3
def kj:=a6 b 5
def i9:=kj 6
def pO:=lX 3 a
def d4:=pO 3
def pP:=mG 0 b
def d5:=pP 7
def mR:=az 35184372088833 a
def l9:Pt:=.pre a d 4294967296 h
def kk:=b0 11
def kl:=b0 10
def ic:=mN 1 a
def ja:=ic 7
def km:=aX 15
def kn:=lT 10
def ko:=aT 13
def kp:=aD 17
def kq:=aX 17
def ns:=jr (-200) a
def pQ:=a4 0 a
def d6:=pQ 0
def kr:=lV 64
def ks:=aT 12
def jE:=j1 2
def pR:=jq A x u n f a 2
def jF:=bW 1
def jG:=lR 1
def jH:=bF 1
def jI:=aD 4
def jJ:=bs 2
def jK:=bZ 7
def mb:=kj 20001
def jL:=aA 6
def jM:=aU 7
def jN:=bs 7
def jO:=bW 5
def lr:=ed b 1048576 a
def jP:=dP 7
def jQ:=iD 2
def mc:TD:=.str 4096
def jR:=b0 6
def jS:=aJ 6
def jT:=bj 6
def jU:=k7 3
def ls:=bZ 200
def du:=hN [w,zI,zJ]
def ie:=ej ρ (hd w zI) f a
def ex:=aL b 2
def dv:=mE ρ [H] a
def gj:=az b 4
def md:=gj 1048318
def pS:=dN b 0
def ey:=pS 7
def ez:=ad b 6
def eA:=b7 m 0
def jb:=a6 110 a
def lu:=dD 262144 a
def eB:=fl 6 a
def pT:=lX 0 a
def eC:=pT 0
def d7:=hT g b e Γ F a d k
def pU:=pM (H,b)
def pV:=pU b I
def pW:=pV 1
def d8:List Ce:=[pW]
def gk:=ej ρ N [] a
def d9:=bB a 3 d
def g2:=dA b a aC
def g3:=pl b (-1) a
def jV:=ec (.agg ϊ) x n f a d
def gl:=ha q u [] a
def hG:=eG ρ (kb b d) q u f a
def hH:=ad b 13
def lv:Pa:=.ce r
def lw:Pa:=.ce ai
def jW:=nf 0 a
def jc:=jW 1
def ig:=pR A x u n [H,zG] a
def eD:=ig A x u n a H P
def ih:List Ce:=[pd a]
def hI:=dm ρ (ih d) f a
def e7:=ab 0 a
def g4:=ad b 4
def me:=g4 1000000
def mf:AV:=.bool m0
def pX:=pp b 7 e Γ
def pY:=pX b 0 e
def mg:=pY b 0
def e8:=mg 5
def jd:=jj (da b e a) h
def cZ:=kc G ϓ a 3 d k
def mh:TD:=.str 100
def mj:=cH 4090
def je:=iz e d (bz b a)
def kt:=dc 2
def eE:=bf b 0 H
def pZ:=o3 N 5 a
def ml:=pZ N 1
def ku:=ml ll
def jX:=ml (gn b a)
def kv:=it (iy a)
def eF:List Sy:=[I]
def ij:=fc ρ L u (aG b d) a
def kw:=jm 2
def kx:=bs 5
def ky:=bF 3
def lx:LinF:=⟨b,[ν,ξ]⟩
def ik:=lx (dw e a) ν b
def kz:=bZ 4
def kA:=bZ 6
def ly:=cB 26
def hJ:=lY b [ν] E G
def il:=hJ (cy a) b E G
def kB:=aA 4
def kC:=b0 5
def kD:=iw 4
def kE:=iw 3
def kF:=aJ 5
def mS:=cn 1048574
def lz:=aU 10
def kG:=bY 6
def lA:=bs 10
def kH:=bF 6
def lB:=aU 11
def lC:=bs 11
def kJ:=mH 4
def kK:=gH 1
def kL:=dO 1
def kM:=cO (lT a)
def kN:=a0 8
def kO:=aJ 7
def lD:=aT 10
def lE:=aX 19
def kP:=mJ 7
def kQ:=l1 6
def kR:=l1 5
def kS:=l1 4
def kT:=l1 2
def lF:=aX 16
def kV:=gs 3
def kW:=fM 3
def kX:=fj 3
def kY:=k6 2
def lG:=gV p
def kZ:=hN (gx a)
def k0:=iB 3
def k1:=ns 6
def lH:=d2 10
def lI:=aV 10
end D
open D
def r0:Row:=lj iR f6 [cJ [] [du h2 (iy 1) jE] [.ce kt,.ce (k3 [h2,iy 1,jE]),lw] [cD] 3,e6 [] [.ce (az 4294967280 0),hk,lv] 2] (eE 4294967280 a1) 27
def r1:Row:=bL aY [bX (dc 0) 1] 29 aF
def r2:Row:=mL (eu 9223372036854775807 0) [b3 20 20 2 1 1] 48 0
def r3:Row:=mL (eu 9223372036854775807 0) [b3 20 20 2 1 1] 93 0
def r4:Row:=bL (c5 0) [b3 20 20 2 1 1] 94 (cw 0)
def r5:Row:=bL aY [bX (dc 0) 1] 100 aF
def r6:Row:=lj iR f6 [bX iF 2,ej (hc 2) (du h2 (iy 1) jE) [cD] 3] (eE 4294967280 a1) 132
def r7:Row:=b9 (dA 64 0 ae) (dD 2 1) [b3 1048318 1048318 3 2 2] 145 (aV 0) (cX 2)
def r8:Row:=b9 (fJ (mI (I,1)) p) f6 [b3 2199023255552 2199023255552 3 2 2] 145 I a1
def r9:Row:=bL (c5 0) [b3 20 20 2 1 1] 170 (cw 0)
def r10:Row:=lj iR f6 [bX iF 2,ej (hc 2) (du h2 (iy 1) jE) [cD] 3] (eE 4294967280 a1) 226
def r11:Row:=b9 aY jc [bX iF 2,ie (hc 2) [cD] 3 gI jE] 247 aF ho
def r12:Row:=bq [dF,l] [et g [dF,l] 0] [] 259 0
def r13:Row:=bq eT [et g eT 0] [] 259 0
def r14:Row:=bq [dF,hS ll 5 1] [et (dc 0) [dF,bt 1099511627776 0 c0] 1] [aF] 259 1
def r15:Row:=bq ku [et (dc 0) (mB (bt 1099511627776 0 c0)) 1] [aF] 259 1
def r16:Row:=bq [dF,l] [et g [dF,l] 0] [] 259 0
def r17:Row:=gD iR [bX iF 1,ie (hc 1) [bo] 2 h2 hp] (lh 0) 266 1 (.string ⟨#[58,47]⟩)
def r18:Row:=gD iR [bX iF 1,ie (hc 1) [bo] 2 h2 hp] (lh 0) 266 1 (.string ⟨#[13,10]⟩)
def r19:Row:=gD iR [bX iF 1,ie (hc 1) [bo] 2 h2 hp] (lh 0) 266 1 (.string ⟨#[63,35]⟩)
def r20:Row:=gD iR [bX iF 1,ie (hc 1) [bo] 2 h2 hp] (lh 0) 266 1 (.string ⟨#[123,125]⟩)
def r21:Row:=gD iR [bX iF 1,ie (hc 1) [bo] 2 h2 hp] (lh 0) 266 1 (.string ⟨#[58,47]⟩)
def r22:Row:=jq [] [gJ,dD 1 1,dD 3 2] (a5 1 1) [cE 196608 196608 [iz 196608 3 (dK 0)] 4 3 3] [gK,cX 1,an 3] 286 3
def r23:Row:=jq [] [iS,iC 1,iC 2] (a5 16384 1) [b3 268435456 268435456 4 3 3] [hq,au,gp 2] 286 3
def r24:Row:=jq [] [bH,f6,kg] [iB 1] [cx (dc 3) [cS] 4] [I,a1,b1] 286 3
def r25:Row:=b9 (j5 16384 0) (j5 1 1) [fR (cm 16385 2) 16385 [da (-2) 16385 2,bO 1 16384 16385 0 2] 3 2] 288 hq (cX 1)
def r26:Row:=ig [] [iS,f6] [iB 1] [fR (cm 16385 2) 16385 [ex 16385,bO 1 16384 16385 0 2] 3 2] 288 hq a1
def r27:Row:=ig [] [bH,f6] [iB 1] [fR (bt 1048577 2 p) 1048577 [ex 1048577,eO 1 1048577 2 (I,1)] 3 2] 288 I a1
def r28:Row:=bq [dF,l] [e6 [eT] [] 0] [] 345 0
def r29:Row:=bq eT [e6 [eT] [] 0] [] 345 0
def r30:Row:=bq [dF,hS ll 5 1] [e6 [ku] [] 1] [aF] 345 1
def r31:Row:=bq ku [e6 [ku] [] 1] [aF] 345 1
def r32:Row:=bq [dF,l] [e6 [eT] [] 0] [] 345 0
def r33:Row:=gz bH (g1 349) [ej (ep 1) (kv 1) [a1] 2] eF 348 1
def r34:Row:=gD aY [ej (dc 1) (bm gI hp) [bo] 2] [aF] 397 1 (.string ⟨#[48]⟩)
def r35:Row:=gD aY [ej (dc 1) (bm gI hp) [bo] 2] [aF] 397 1 (.string ⟨#[43,45]⟩)
def r36:Row:=gD aY [ej (dc 1) (bm gI hp) [bo] 2] [aF] 397 1 (.string ⟨#[48]⟩)
def r37:Row:=gD aY [ej (dc 1) (bm gI hp) [bo] 2] [aF] 398 1 (.string ⟨#[48]⟩)
def r38:Row:=b9 aY ac [cJ [] [bm gI (g8 1 1099511627776 (-1) 3),jw (k5 1 1099511627776 3),aP,jn 4 eg (g8 1 1099511627776 (-1) 3)] [.ce (a6 1114111 2),ed 1 1099511627776 3,aM] [an 1114111,⟨3,1,1099511627776⟩] 4,fo [] [aM,aM,ed 1 40 2] (cL 1 40 2) 3] 409 aF P
def r39:Row:=bL cg [ij (cH 4) j 4 (a5 4 1) 2 1,d7 1 40 1 40 2 1 1] 411 ao
def r56:Row:=gz (j5 16384 0) (jf 47 .u8 []) [fR (cm 16385 1) 16385 [da (-2) 16385 1,bO 1 16384 16385 0 1] 2 1] [hq] 202 1
def d9e:Row:=bL bH [cx (ep 1) [a1] 2] 381 I
def d8R:Row:=mL (lb 0 c0) [fc (cH 193) (bE 30 [gu,al,hg,ar,kJ,cu,cu] 2) [ex 30,aL 193 1] (bf 193 1 (an 30)) 3] 9 0
def r261:Row:=d1 3 80 3 80 [j,g,g,j] 62 2 1 1 (be [bZ 1,cH 4349,eX,j] [eO 248 4349 1 (J,6),eO 254 4349 1 (J,3),je 4349 253 1 2,eR 253 2 (J,1),eO 258 4349 1 (J,1),cO (J,-1),cA (-5) (J,1),jQ,aL 4349 1] (bf 4349 1 eY) 3)
def r270:Row:=d1 1 80 1 80 [j,g,g,j] 63 2 1 1 (be [bZ 2,cH 959,eX,j] [eO 197 959 1 (J,3),je 959 253 1 2,eR 253 2 (J,1),cO (J,-1),cA (-7) (J,1),jQ,aL 959 1] (bf 959 1 eY) 3)
def r293:Row:=d1 1 71 1 71 [j,g,g,j] 64 2 1 1 (be [bZ 3,h1 12573 1,eX,aQ] [je 12573 253 1 2,ef 253 2,eO 8477 12573 1 (J,1),fb [(J,1)],cO (J,-1),jQ,aL 12573 1] [dC 1,eY,aR] 4)
def r392:Row:=bL bH [d7 130 144 130 144 2 1 1,ij (cH 63) j 63 [eO 17 63 1 (I,6),eO 20 63 1 (I,3),eO 22 63 1 (I,1),fb [(I,1)],aL 63 1] 2 1] 361 I
def d9c:Row:=cl [(4,i),(8,i)] [eA [al,p,p,al],cz ac ba b4 h5] [cx (lm (-1) 5) (j7 (-1) 5) 6] [cs,P,af,aW,dh] 91 5 7 8 8 7 8
def d9o:Row:=gz (eA [al,p,p,al]) (cz ac ba b4 h5) [gs 5,fM 5] [cs,P,af,aW,dh] 44 5
def d9d:Row:=jV [t,c5 0] [t,bJ] [ha [o,kw] [je 18446744073709551615 18446744073709551615 1 2,je 18446744073709551615 18446744073709551615 0 2] [gM] 3] [cw 0,ay] 45 2
def d9q:Row:=cl [(4,aa),(9,i)] [f5 (j0 1 4 g9 gu al) 0,cz ac (hl 2) (dJ 3) h5] [gs 5,fM 5] [aV 0,P,lp,ky,dh] 21 5 8 9 9 8 9
def r442:Row:=d1 1 110 1 110 [j,g,g,j] 65 2 1 1 (be [kz,aU 1,eX,aQ] [je 4096 253 1 2,da (-4) 4096 1,cO (J,-1),cA (-4) (J,1),jQ] [bs 1,eY,aR] 4)
def r447:Row:=b9 bH ac [eM (a7 4 130 2) [] [j,g,j] [] (cL 4 130 2) 3 aM,fQ [] [bZ 1,g,cv [(I,1)]] [bG,bG,bG,aP] [] 2 (.ce (cv [(I,1)])) aM,fQ [] [bZ 3,iA,a6 1048575 3] [bG,i6 2 4,g3 2 4,fS 1048575 3 aE,ju 3 (I,1),ju 2 (I,1),aP] [ix,l7,eP 2 4] 5 (lr 2 4) aM,fQ [] [kz,ch,a6 1048575 3] [bG,i6 1 4,g3 1 4,fS 1048575 3 aE,ju 3 (I,1),it fy,aP,iB 2] [b1,l7,eP 1 4] 5 (lr 1 4) aM,fQ [] [bZ 5,cn 5,a6 1048575 3] [bG,i6 4 4,g3 4 4,fS 1048575 3 aE,ju 3 (I,1),it (aK 5 2),aP,ex 5] [an 5,l7,eP 4 4] 5 (lr 4 4) aM,fQ [] [bZ 2,cn 4,a6 1048575 3] [bG,i6 1 4,g3 1 4,fS 1048575 3 aE,ju 3 (I,1),aP,ex 4] [an 4,l7,eP 1 4] 5 (lr 1 4) aM] 162 I P
def d8W:Row:=bL aY [eM aS [] [aj,ch,ep 3,hR 4 ca] [] [P,b1,bA,dZ,aH,bP] 7 (.ce a9)] 82 aF
def r461:Row:=g7 [] [gs 0] [] 8 0
def d8J:Row:=bL aY [bn 1 110 1 110 [j,g,g,j] 2 1 1,be [a7 1 4 1,gq 2,bY 3,jI] [ex 12573,iD 3] [⟨1,1,4⟩,lp,ky,dh] 5] 10 aF
def d8U:Row:=dr (fp [(I,1)] [ar,al,ar,ar,al,bl,bl]) bJ (cf (hl 3) (dJ 4) 2 5) [bn 1 110 1 110 [j,g,g,j,l,j,r,ak,l] 7 6 6,eb bp [j,g,g,j,l,j,r,ak,fl 24 6] (a5 24 6) (bf 24 6 bI) 8,be [aS,ib,gg,gS,lH,a6 3 11,o,jB,fl 24 13] (a5 24 13) [bP,fs,cU,ft,lI,ad 3 11,jC,hH 24] 14] [I,ay,aB,fx,fw,aH] 20 6
def d9r:Row:=dr (fp [(I,1)] [ar,al,ar,ar,al,bl,bl]) bJ kg [fg [a7 1 110 3,a6 4 4,gq 5,kG,bp,j,g,g,j,o,ak,l] [⟨3,1,110⟩,g4 4,dC 5,kH,bI] 8,ha [aQ,a7 1 4 4,gq 5,kG,bp,a6 4 8,gq 9,bY 10,iN,o,jB,fl 48 13] [aL 48 13,iD 6,aL 12573 5] [aR,⟨4,1,4⟩,dC 5,kH,bI,e4 4,dC 9,bF 10,h0,jC,hH 48] 14] [I,ay,b1] 15 3
def rows:List Row:=[r0,r1,r2,r3,r4,r5,r6,r7,r8,r9,r10,r11,r12,r13,r14,r15,r16,r17,r18,r19,r20,r21,r22,r23,r24,r25,r26,r27,r28,r29,r30,r31,r32,r33,r34,r35,r36,r37,r38,r39,eD [d8] [bb,ac] [fb (hM 1)] [cK (cV 2) [ih 3] [kv 3,eR 255 2 eg] [an 255,bA] 4] 60 I,ig [d8] [bb,dA 64 1 jv] (a5 64 1) [hI (cn 64) [eU,bA] 4 3] 116 I (aV 1),ig [d8] [bb,fj 1] [fL (-1) 1] [hI ch [b1,bA] 4 3] 116 I jF,bq d8 [hI (cH 64) [aV 1,b1] 3 2] eF 131 1,bq d8 [cK (cH 193) [ih 2] (a5 193 1) (bf 193 1 b1) 3] eF 59 1,cq (bd [(4,aa),(5,i)] 1 5 5 5 1 5) [jW 0,ax] [gL,dG] [cR 0,ag] 184 2,bx (bd [(4,i),(5,i)] 0 5 5 5 0 5) [ah,ax] [J,ag] 99 2 (ej (cv [(af,1)]) (cd (af,-1)) [af] 3),b9 aY cT [gL,dG] 185 aF bo,cY 299,cY 300,cY 188,cY 367,ln [cN (hK 0 .u8 (dN 255 1)) 255 2 1] 368,eD [] [ah,ac] [aP,cd aE] [ij (hK 0 .u8 (dN 255 2)) ai 255 [jn (-3) (J,1) aE] 3 2,gi (hK 0 .u8 []) 2] 296 J,ln [cE 3 3 [da (-3) 3 1] 2 1 1] 297,bg (dz [(4,C),(5,i),fi 6,(7,i)] [ab 7 6] 0 6) (en [(4,C),(5,i),(6,dn),(7,i)] 7 6 0 6 0 6) [ah,ax] [d7 1 5 1 5 3 2 2,fc (gw 2) j [ef 16384 2] [gp 2] 3] [J,ag] 186 2,r56,bg (dz [c8,(6,i),(7,i)] [e7 7,aq 7 7,aN 6 6,aq 6 6] 0 7) (dz [(5,gV (.str 16383)),(6,i),(7,i)] [e7 7,ab 7 6,ab 6 5] 0 7) [iS,jc] [fR (cm 16385 2) 16385 [bO 1 16384 16385 0 2,ex 16385] 3 2] [hq,ho] 202 2,bg (dz [c8,(6,i),(7,i)] [e7 7,aq 7 7,aN 6 6,aq 6 6] 0 7) (dz [(5,gV (.str 1073741823)),(6,i),(7,i)] [e7 7,ab 7 6,ab 6 5] 0 7) [hr,jc] [fR (bt 1073741825 2 mK) 1073741825 (a5 1073741825 2) 3 2] [eh,ho] 202 2,bM [] [(2,[bd [(6,cP),(7,i),(9,cP),(10,i)] 0 10 10 10 0 10]),(0,[bd [(6,cP),(7,i),(8,i)] 0 8 8 8 0 8])] [ah,bJ,c5 2] [jG,lR 2] [hT ak 1 4 1 4 4 3 3,dv (jm 3) 4 (cw 3)] [J,ay,gM] 371 3,ig [] [ah,bJ] [jG] [hT ak 1 6 1 6 3 2 2,dv kw 3 gM] 302 J ay,cl [(2,aa),(12,i)] [hr] [bh,b2] [eh] 191 1 11 12 12 11 12,cq (bd [(2,aa),(3,i)] 0 3 3 3 0 3) bK [bh,b2] bv 369 1,cq (bd [(2,aa),(3,i)] 0 3 3 3 0 3) bK [bh,b2] bv 370 1,cl [(2,aa),(10,i)] [hr] [bh,b2] [eh] 298 1 9 10 10 9 10,hn 187 (d7 3 50 3 50 2 1 1) (fc hY j [fb [(J,1)],cA 253 (J,-1)] [] 1),d1 3 80 3 80 [g,g] 101 2 1 1 (b8 [cH 4089,eX] (bf 4089 1 eY) 3),bC [ah,ax] [J,ag] 102 2 (bX (im 6 [(J,1),(ag,1)]) 2),bg (gv (cB 5) (cG h3 hs f8 dg) [(2,C),(3,i),(5,i),iT] 0 5) (en [(2,C),(3,i),(5,i),(4,dn)] 5 4 0 5 0 5) [iS] [lo g (bZ 2) 1,dv hU 2 au] [hq] 189 1,bg (gv (cB 5) (cG h3 hs f8 dg) [(2,C),(3,i),(5,i),iT] 0 5) (en [(2,C),(3,i),(5,i),(4,dn)] 5 4 0 5 0 5) bK [d7 2 5 2 5 2 1 1,dv hU 2 au] bv 189 1,cY 301,bU [(0,[cb [(2,aa),(16,i)] 15 16 16 15 16]),(2,[bd [(2,aa),(5,i)] 4 5 5 5 4 5])] bK [bh,gk ai (cA 64 (J,-1)) 1] bv 190 1,ir bK [cb [(3,i),(5,i)] 4 5 5 4 5] [bn 1 80 1 80 [g,g] 2 1 1,b8 [cH 64,eX] [aV 1,eY] 3] bv 103 1 1,bx (hb (fa 3 6 5) [(5,C),(6,i)] 0 6 0 6) [ah,ax] [J,ag] 192 2 (cE 52776558133248 52776558133248 [my 3 J (aK 52776558133248 2)] 3 2 2),bC [ah,ax] [J,ag] 104 2 (cE 70368744177672 70368744177672 [⟨8,[(J,3),(ag,3),aK 70368744177672 2]⟩] 3 2 2),cq (bd [(2,aa),(3,i)] 0 3 3 3 0 3) bK [bh,b2] bv 372 1,b9 ah ax [gk ai (cd (ag,-1)) 2,dG] 200 J ag,d1 5 6 5 6 [g,g,g,g,g,r,r,r,r] 303 2 1 1 (be [cH 16383,cn 16382,gw 3,gj 16383,az 16383 5,o,o,o,o] [ef 16383 5,ef 16383 4,ef 16382 2] [cX 16383,an 16382,gp 3,g4 16383,ad 16383 5] 6),hn 373 (lo j (bZ 51) 1) (dv aj 2 P),d1 3 51 3 51 [g,j] 304 2 1 1 (be [bY 1,aO] [ef 253 1,iD 1] [jH,aB] 3),bx (lY 1 (eL 3) [(2,C),(3,i)] [aN 3 3,⟨1,eL 3⟩]) bK bv 374 1 (cE 17592186044415 17592186044415 [ef 17592186044415 1] 2 1 1),bx (cW [(3,C),(4,C)] [cG gO f8 gN dg] 3) bK bv 305 1 (ej kh (cd (ag,-1)) [ag] 2),bC [ah,ac,ba,b4,a2,t,t] [J,P,af,aW,aw] 307 5 (gA [hY,aj] 5),bL cg [b3 21 21 2 1 1] 92 ao,bC [ah,ac] [J,P] 306 2 (cE 17592186044438 17592186044438 [fG J (bz 17592186044438 2),eO 22 17592186044438 2 (J,1)] 3 2 2),bC [ah,ac,ba,b4,a2,mf,hh] [J,P,af,aW,aw] 219 5 (bX (im 1 [(af,1),(aW,1)]) 5),bC [ah,ac,ba,b4,a2,t,t] [J,P,af,aW,aw] 219 5 (cE 35184372088833 35184372088833 [⟨1,[(af,1),(aW,1),aK 35184372088833 5]⟩,fG af (bz 35184372088833 5)] 6 5 5),bC [ah,ac,ba,b4,a2,mf,hh] [J,P,af,aW,aw] 194 5 (fR (h1 52776558133279 5) 52776558133279 [fG aW (ld 5),fG J (ld 5)] 6 5),bC [ah,ac,ba,b4,a2,t,t] [J,P,af,aW,aw] 194 5 (fR (h1 70368744177696 5) 70368744177696 [⟨32,[(J,1),(af,1),(aW,1),(aw,1),aK 70368744177696 5]⟩,fG af (mP 5)] 6 5),d1 1 71 1 71 [g,j,g,g,g,r,r] 193 2 1 1 (be [bY 1,aO,aU 3,aU 4,aU 5,o,o] [ef 253 1,iD 1] [jH,aB,iU,fq,kx] 6),d1 1 71 1 71 [j,g,g,j] 105 2 1 1 (b8 [bZ 3,h1 12573 1,eX,aQ] [dC 1,eY,aR] 4),cq (bd [(2,aa),(3,i)] 0 3 3 3 0 3) bK [bh,gk ai (fb [(J,1)]) 1] bv 201 1,cY 203,bx (hb (fa 3 4 3) [(3,C),(4,i)] 0 4 0 4) [iS] [hq] 204 1 (b3 49152 49152 2 1 1),bx (hb (fa 3 4 3) [(3,C),(4,i)] 0 4 0 4) bK bv 204 1 (b3 52776558133248 52776558133248 2 1 1),bU [(3,[hb (fa 49153 63 10) [(3,i),(10,C),(63,i)] 62 63 62 63]),(5,[bd [(3,i),(13,i)] 12 13 13 13 12 13]),(1,[cb [(3,i),(48,i)] 47 48 48 47 48])] bK [bn 1 100 1 100 [g,g] 2 1 1,be [cH 4091,cn 201084923] [cO (J,-1)] (bf 4091 1 (an 201084923)) 3] bv 109 1,bC [ah,ax] [J,ag] 197 2 (bX (im 5 [(J,1),(ag,1)]) 2),dd [aY,cT] [fo [] [.ce l,.agg [g,j],ed 1 100 2] (cL 1 100 2) 3,fo [] [.ce (cm 4089 2),.agg [g,j],ed 3 51 3] [an 4089,⟨3,3,51⟩] 4,cJ [] [da (-3) 1099511627776 0,ex 4089] [.ce (cm 4089 2),.agg [bY 3,jI],aM] [an 4089,ky,dh] 5] [aF,bo] 205 2,cq (hb (fa 49153 26 7) [(3,i),(7,C),(26,i)] 25 26 25 26) [.agg [aY,cT]] [bn 1 110 1 110 [g,j,g,g,g,r,r] 3 2 2,be [eX,aQ,h1 4096 4,g,g,r,r] [da (-3) 1099511627776 0] [eY,aR,fq] 5] [aF,bo] 110 2,dd [aY,ac,dU,di,f9,t,t] [fM 5,gs 5] [aF,P,cD,cS,ga] 321 5,bU [(0,[dz [(3,i),(5,C),(58,i)] [ab 57 58,cB 58,ik hs 49153 49153 58] 57 58]),(2,[bd [(3,i),(8,i)] 7 8 8 8 7 8])] [lZ (dJ 0) ac (j5 4096 2) gE gE hh hh] [bn 5 110 5 110 [g,g] 4 3 3,b8 [az 3 3,gj 4088] [cr 3,g4 4088] 5] [bF 0,P,jJ] 308 3,dd [aY,cT] [bn 1 110 1 110 [g,g] 3 2 2,b8 [cn 3,az 4088 3] [an 3,cr 4088] 4] [aF,bo] 195 2,dd [aY,cT] [bn 1 100 1 100 [g,j] 3 2 2,b8 [eX,aQ] [eY,aR] 4] [aF,bo] 196 2,d1 1 110 1 110 [j,g,g,j] 106 2 1 1 (b8 [kz,aU 1,eX,aQ] [bs 1,eY,aR] 4),d1 1 110 1 110 [j,g,g,j] 53 2 1 1 (be [a7 1 4 1,gq 2,bY 3,jI] [cO (J,-1)] [⟨1,1,4⟩,lp,ky,dh] 5),cp (hl 1) d8 [hI l dt 3 2,hI (bE 2 [.str 12579,e9 1 (.str 1),e9 1 jv] 2) [an 2,bA] 4 3] [I,dC 1] 199 2,cp ax d8 [hI l dt 3 2,hI (bE 2 [.str 17592186044422,e9 1 (.str 1),e9 1 jv] 2) [an 2,bA] 4 3] [I,ag] 199 2,g7 [] [i7 jK g l l 0] [] 310 0,bL iS [i7 (bZ 5) (gw 0) l l 1] 216 hq,mD [i7 (bZ 5) hY l l 1] 216,gZ ek (hP hZ iG 0 0 (hO 5 7 5) 6) [hF (jd 1 8 2 aC) (e1 1 8 e8 3) 5 7 7 0] [bw,au,aZ,a8,dV,iW,gb] e8 213 7,gZ ek (jD e8 5 6 7 8) [hF (jd 1 8 2 aC) (e1 1 8 (dQ 5 7 8 8 5 7 0 0) 3) 5 7 9 0] [bw,au,aZ,a8,dV,iW,gb,gP,ht] (dQ 5 7 8 8 5 7 0 0) 213 9,gZ ek (jD (dQ 5 7 8 8 5 7 0 0) 5 6 7 8) [hF (jd 1 8 2 aC) (e1 1 8 (bQ 5 7 8 8 5 7 8 8 5 7 0 0) 3) 5 7 9 0] [bw,au,aZ,a8,dV,iW,gb,gP,ht] (bQ 5 7 8 8 5 7 8 8 5 7 0 0) 213 9,gZ ek (jD (bQ 5 7 8 8 5 7 8 8 5 7 0 0) 5 6 7 8) [hF (jd 1 8 2 aC) (e1 1 8 (eH 5 7 8 8 (bQ 5 7 8 8 5 7 8 8 5 7 0 0)) 3) 5 7 9 0] [bw,au,aZ,a8,dV,iW,gb,gP,ht] (eH 5 7 8 8 (bQ 5 7 8 8 5 7 8 8 5 7 0 0)) 213 9,dr (e2 ax 0 2 3) a2 (e2 iX 5 7 8) [i7 eZ kh (jj (fL 1 2) iu) (jh (fL 1 3) [al,iu,mM,e9 2147483648 ca]) 9] [ao,ag,ei,c9,aw,aH,h4,bW 7,bW 8] 213 9,gZ ek (hP hZ iG 0 0 (hO 5 7 5) 6) [hF (jd 1 8 2 aC) (e1 1 8 e8 3) 5 7 7 0] [bw,au,aZ,a8,dV,iW,gb] e8 309 7,gZ ek (jD e8 5 6 7 8) [hF (jd 1 8 2 aC) (e1 1 8 (dQ 5 7 8 8 5 7 0 0) 3) 5 7 9 0] [bw,au,aZ,a8,dV,iW,gb,gP,ht] (dQ 5 7 8 8 5 7 0 0) 309 9,gZ ek (jD (dQ 5 7 8 8 5 7 0 0) 5 6 7 8) [hF (jd 1 8 2 aC) (e1 1 8 (bQ 5 7 8 8 5 7 8 8 5 7 0 0) 3) 5 7 9 0] [bw,au,aZ,a8,dV,iW,gb,gP,ht] (bQ 5 7 8 8 5 7 8 8 5 7 0 0) 309 9,gZ ek (jD (bQ 5 7 8 8 5 7 8 8 5 7 0 0) 5 6 7 8) [hF (jd 1 8 2 aC) (e1 1 8 (eH 5 7 8 8 (bQ 5 7 8 8 5 7 8 8 5 7 0 0)) 3) 5 7 9 0] [bw,au,aZ,a8,dV,iW,gb,gP,ht] (eH 5 7 8 8 (bQ 5 7 8 8 5 7 8 8 5 7 0 0)) 309 9,dr (e2 ax 0 2 3) a2 (e2 iX 5 7 8) [i7 eZ kh (jj (fL 1 2) iu) (jh (fL 1 3) [al,iu,mM,e9 2147483648 ca]) 9] [ao,ag,ei,c9,aw,aH,h4,bW 7,bW 8] 309 9,bg (cZ [d9 9 1,d3,b6 3 3,aN 9 9] gh 9 8 9) (cZ [d9 9 3,ds,d3,b6 3 3,bS 3 3 9,ab 8 9] (gC i C (gY 4 (mG 5 5))) 9 8 9) [g2 8 0] [i7 kA g l (bt 8 0 (mG 5 5)) 1] (aG 8 0) 214 1,bg (cZ [d9 9 1,d3,b6 3 3,aN 9 9] gh 9 8 9) (cZ [d9 9 3,ds,d3,b6 3 3,bS 3 3 9,ab 8 9] (gC i C (gY 4 (mF 5 5 p))) 9 8 9) [fj 0] [i7 kA g l (jj (fL 0 0) (mF 5 5 p)) 1] [cs] 214 1,bU [(2,[kc [fz 4 4,a4 4 4,b6 4 4,cB 70,em (eS 70) (cy 70) 4 3 4 3] gh 70 4 69 70,kc [eQ 4 3 4 1,bB 70 4 3,a4 4 4,b6 4 4,ab 69 70] (gC i C (gY 4 (.rel (mw 7 7 3 iE (jY 3 (dQ 5 7 8 8 5 7 0 0)))))) 70 4 69 70]),(0,[cW [(36,i)] [cB 36] 36])] [.agg [iS,g2 8 1,hZ,g5 gy [aC,aC,aC],dy 8 [aC,lM 8,lM 8] 2]] [gW 3 [jK,g,cm 3 3,bE 3 (eH 5 7 8 8 (bQ 5 7 8 8 5 7 8 8 5 7 0 0)) 3] 4 3] [hq,cX 8,aZ] 198 3,gZ ek (iC 5) [ha [a7 5 7 0,hU,cm 9 6,bE 9 e8 7] [bO 1 8 9 3 7,bO 1 8 9 2 6] (bf 9 6 (e3 9)) 8] [bw,au,aZ,a8,dV,gp 5] e8 212 6,dr (e2 ax 0 2 3) a2 gQ [fg [eZ,kh,bt 2147483649 6 iu,bE 2147483649 [al,iu,mM,e9 2147483648 ca] 7] (bf 2147483649 6 (e3 2147483649)) 8] [ao,ag,ei,c9,aw,dW] 212 6,gZ ek (g5 gy c2) [hF (cm 8 2) (bE 8 e8 3) 5 7 5 0] [bw,au,aZ,a8,dV] e8 215 5,gZ ek (g5 gy c2) [hF (cm 8 2) (bE 8 (dQ 5 7 8 8 5 7 0 0) 3) 5 7 5 0] [bw,au,aZ,a8,dV] (dQ 5 7 8 8 5 7 0 0) 215 5,bg (eJ 8 [eV] [(4,gh)] [(34,i)] [fz 4 4,a4 4 4,b6 4 4,aN 34 34,aq 34 34]) (eJ 8 [eV] [(4,gC i C (bi (mw 7 7 4 iE (jY 4 e8)) 153 4))] [(34,i)] [eQ 4 3 4 1,bB 34 4 3,b6 4 4,hX (br 4 0) 7,ab 33 34]) [cz iS (g2 8 1) (g5 gy c2) (dy 8 [aC,aC,aC,aC,jY 0 c2,jY 0 c2] 2)] [fg [jK,g,cm 3 3,bE 3 (bQ 5 7 8 8 5 7 8 8 5 7 0 0) 4] [cr 3,g4 3] 5] [hq,cX 8,aZ] 118 3,bx (cW [(4,i),(6,i),(26,i)] [ly,ab 6 25,aN 6 6] 6) [hP hZ iG 0 0 (hO 5 7 0) 1,lq 2] [bw,au,an 1000000] 312 3 (cN (a6 1 3) 1 4 3),bx (il 20001 [(4,i),(6,i),(26,i)] [ly,aq 6 6,fC 20000 6] 6) [ew e8,lq 4] [bw,au,aZ,a8,me] 312 5 (cN mb 20001 6 5),bx (il 20001 [(4,i),(6,i),(26,i)] [ly,aq 6 6,fC 20000 6] 6) [ew (dQ 5 7 8 8 5 7 0 0),lq 4] [bw,au,aZ,a8,me] 312 5 (cN mb 20001 6 5),bx (il 20001 [(4,i),(6,i),(26,i)] [ly,aq 6 6,fC 20000 6] 6) [ew (bQ 5 7 8 8 5 7 8 8 5 7 0 0),lq 4] [bw,au,aZ,a8,me] 312 5 (cN mb 20001 6 5),bx (il 20001 [(4,i),(6,i),(26,i)] [ly,aq 6 6,fC 20000 6] 6) [ew (eH 5 7 8 8 (bQ 5 7 8 8 5 7 8 8 5 7 0 0)),lq 4] [bw,au,aZ,a8,me] 312 5 (cN mb 20001 6 5),bx (bd [(3,i)] 0 3 3 3 0 3) bK bv 422 1 (cx (cv [(ag,1)]) [ag] 2),eD [] [ah,ac] [aP] [cx iH [af] 3] 405 J,mD [cN (a6 35184372088832 1) 35184372088832 2 1] 403,bx (bd [(4,i),(5,i)] 0 5 5 5 0 5) bK bv 404 1 (cx aj [P] 2),bM [] [(0,[hJ dg 7 [(3,i),(4,i)] [e7 4,aq 4 4]])] bK [fb [(J,1)],cA 7 (J,-1)] [cx aj [P] 2] bv 429 1,bL cg [g6 ai [lP 0,dT 1114111 0] [] 1,bh] 432 ao,bL cg [ij (cH 4) j 4 [lP 0,dT 1114111 0] 2 1,lo g kz 1] 430 ao,bM [] [(0,[il 5 [(4,i),(5,i),(6,i),(7,i)] [aq 7 7,fC 5 7] 7])] [ah,ac] [aP] [fo [] [aM,aM,ed 4 7 2] (cL 4 7 2) 3,cJ [] [jw (l2 1 3),cd (l5 1 (-1) 3)] [.ce (a6 1114111 2),l3 1 3,aM] [an 1114111,l4 1 3] 4] [J,P] 423 2,bx (dz [(2,i),(4,i),(3,i)] [ab 4 3,cB 3,e7 4] 0 4) bK bv 406 1 (cx (a7 (-1) 17592186044416 1) (cL (-1) 17592186044416 1) 2),hn 376 b2 bh,mA (g2 1 0) 1 [bX (cm 1 0) 1] 315 0,bg ⟨[c8,(3,dR),(4,dR)],[],[db [er 3,er 4,er 5,cM 3,cM 4,cM 5],cG gO (ff 6 4) gN (dw (-6) 4),cG (ff 3 3) f8 (dw (-3) 3) dg],hL 1 1 3 4⟩ ⟨[(5,iI),(3,dR),(4,dR)],[],[db [gO,f8,h3,gN,dg,hs],db [er 3,er 4,er 5,cM 3,cM 4,cM 5]],hL 1 1 3 4⟩ [g2 2 0] [bX (cm 2 0) 1] (aG 2 0) 315 1,bg ⟨[c8,(3,dR),(4,dR)],[],[db [er 3,er 4,er 5,cM 3,cM 4,cM 5],cG gO (ff 6 4) gN (dw (-6) 4),cG (ff 3 3) f8 (dw (-3) 3) dg],hL 1 1 3 4⟩ ⟨[(5,iI),(3,dR),(4,dR)],[],[db [gO,f8,h3,gN,dg,hs],db [er 3,er 4,er 5,cM 3,cM 4,cM 5]],hL 1 1 3 4⟩ [g2 3 0] [fR (cm 3 1) 3 [df 3 3 0 1] 2 1] (aG 3 0) 315 1,bg ⟨[c8,(3,dR),(4,dR)],[],[db [er 3,er 4,er 5,cM 3,cM 4,cM 5],cG gO (ff 6 4) gN (dw (-6) 4),cG (ff 3 3) f8 (dw (-3) 3) dg],hL 1 1 3 4⟩ ⟨[(5,iI),(3,dR),(4,dR)],[],[db [gO,f8,h3,gN,dg,hs]],hL 1 1 3 4⟩ [g2 5 0] [cN (cm 5 1) 5 2 1] (aG 5 0) 315 1,bg ⟨[c8,(3,dR),(4,dR)],[],[cG gO (ff 6 4) gN (dw (-6) 4),cG (ff 3 3) f8 (dw (-3) 3) dg],hL 1 1 3 4⟩ ⟨[(5,iI),(3,dR),(4,dR)],[],[db [gO,f8,h3,gN,dg,hs]],hL 1 1 3 4⟩ [g2 9 0] [cN (cm 10 1) 10 2 1] (aG 9 0) 315 1,cl [(2,aa),(10,i)] [g2 9 0] [bh,b2] (aG 9 0) 377 1 9 10 10 9 10,ir [hP hZ iG 0 0 (hO 5 7 0) 1] [cW [(2,aa),(107,i)] [cB 107] 107] [gL,dG] [bw,au] 313 2 1,ir [ew e8] [cb [(2,aa),(107,i)] 106 107 107 106 107] [fr,e0] [bw,au,aZ,a8] 313 4 1,ir [ew (dQ 5 7 8 8 5 7 0 0)] [cb [(2,aa),(107,i)] 106 107 107 106 107] [fr,e0] [bw,au,aZ,a8] 313 4 1,ir [ew (bQ 5 7 8 8 5 7 8 8 5 7 0 0)] [cb [(2,aa),(107,i)] 106 107 107 106 107] [fr,e0] [bw,au,aZ,a8] 313 4 1,ir [ew (eH 5 7 8 8 (bQ 5 7 8 8 5 7 8 8 5 7 0 0))] [cb [(2,aa),(107,i)] 106 107 107 106 107] [fr,e0] [bw,au,aZ,a8] 313 4 1,fd (ew (eH 5 7 8 8 (bQ 5 7 8 8 5 7 8 8 5 7 0 0))) [fr,e0] [bw,au,aZ,a8] 208 4,bU [(2,[cW [(2,aa),(28,i)] [cB 28] 28]),(0,[cW [(3,i),(14,i)] [cB 14,aN 3 3,aq 3 3] 3])] [hP hZ iG 0 0 (hO 5 7 0) 1] [dG] [bw,au] 209 2,bU [(2,[cb [(2,aa),(28,i)] 27 28 28 27 28]),(0,[cb [(3,i),(14,i)] 13 14 14 13 14])] [ew e8] [fr,e0] [bw,au,aZ,a8] 209 4,bU [(2,[cb [(2,aa),(28,i)] 27 28 28 27 28]),(0,[cb [(3,i),(14,i)] 13 14 14 13 14])] [ew (dQ 5 7 8 8 5 7 0 0)] [fr,e0] [bw,au,aZ,a8] 209 4,bU [(2,[cb [(2,aa),(28,i)] 27 28 28 27 28]),(0,[cb [(3,i),(14,i)] 13 14 14 13 14])] [ew (bQ 5 7 8 8 5 7 8 8 5 7 0 0)] [fr,e0] [bw,au,aZ,a8] 209 4,bU [(2,[cb [(2,aa),(28,i)] 27 28 28 27 28]),(0,[cb [(3,i),(14,i)] 13 14 14 13 14])] [ew (eH 5 7 8 8 (bQ 5 7 8 8 5 7 8 8 5 7 0 0))] [fr,e0] [bw,au,aZ,a8] 209 4,bx (cW [(5,aa),(14,i)] [cB 14] 14) [hP hZ iG 0 0 ey 1,iC 2] [fE,au,gp 2] 316 3 (dq r [j,g,l,l] 3),cq (gv (bB 14 4 0) (ab 13 14) [(5,aa),(14,i)] 13 14) [hQ 0 0 8 8 ey (mg 0) 1 2 3 aC,ek] [dq r [j,g,l,l] 5,gr ai [kj 7,gw 6,lO [] aC,lO [] ca] (bf 7 5 gb) 7] [fE,au,aZ,a8,dV] 316 5,cq (gv (bB 14 4 0) (ab 13 14) [(5,aa),(14,i)] 13 14) [hQ 0 0 8 8 ey (dQ 0 7 8 8 0 7 0 0) 1 2 3 aC,ek] [dq r [j,g,l,l] 5,gr ai [kj 7,gw 6,cm 8 7,bE 8 (mg 0) 8] [iQ 5,gb,gP,ht] 9] [fE,au,aZ,a8,dV] 316 5,cq (gv (bB 14 4 0) (ab 13 14) [(5,aa),(14,i)] 13 14) [hQ 0 0 8 8 ey (bQ 0 7 8 8 0 7 8 8 0 7 0 0) 1 2 3 aC,ek] [dq r [j,g,l,l] 5,gr ai [kj 7,gw 6,cm 8 7,bE 8 (dQ 0 7 8 8 0 7 0 0) 8] [iQ 5,gb,gP,ht] 9] [fE,au,aZ,a8,dV] 316 5,cq (gv (bB 14 4 0) (ab 13 14) [(5,aa),(14,i)] 13 14) [hQ 0 0 8 8 ey (eH 0 7 8 8 (bQ 0 7 8 8 0 7 8 8 0 7 0 0)) 1 2 3 aC,ek] [dq r [j,g,l,l] 5,gr ai [kj 7,gw 6,cm 8 7,bE 8 (bQ 0 7 8 8 0 7 8 8 0 7 0 0) 8] [iQ 5,gb,gP,ht] 9] [fE,au,aZ,a8,dV] 316 5,cq (gv (bB 14 4 0) (ab 13 14) [(5,aa),(14,i)] 13 14) [e2 ax 0 2 3,a2] [dq r [j,g,l,l] 5,gr ai [a9,jL,ep 7,hR 8 ca] [aH,dY,fs,cU] 9] [ao,ag,ei,c9,aw] 316 5,bU [(2,[cW [(38,i)] [cB 38] 38]),(0,[cW [(21,i)] [cB 21] 21])] [hP hZ iG 0 0 ey 1] [ki (a6 7 0) l l 2] (eE 7 au) 211 2,bU [(2,[cZ [ds,d4,c7 3 1 0,d3,aN 38 38,aq 38 38] gh 38 37 38,cZ [eQ 3 2 3 3,d9 38 2,d9 37 2,ds,d4,c7 3 1 0,c7 1 3 0,bS 3 3 38] [i,C,iI,gY 4 d5] 38 37 38]),(0,[cZ [ds,d4,d3,b6 3 3,aN 21 21,aq 21 21] gh 21 20 21,cZ [d9 21 3,ds,d4,d3,b6 3 3,bS 3 3 21,ab 19 21] (gC i C (gY 4 d5)) 21 20 21])] [hQ 0 0 8 8 ey (mg 0) 1 2 3 aC] [ki kA l (bt 8 3 d5) 4,gW 10 [a6 7 0,hU,cm 10 4,bt 10 4 d5] 5 4] [fE,au,aZ,a8] 211 4,bU [(2,[cZ [ds,d4,c7 3 1 0,d3,aN 38 38,aq 38 38] gh 38 37 38,cZ [eQ 3 2 3 3,d9 38 2,d9 37 2,ds,d4,c7 3 1 0,c7 1 3 0,bS 3 3 38] [i,C,iI,gY 4 (f2 0 7 d5)] 38 37 38]),(0,[cZ [ds,d4,d3,b6 3 3,aN 21 21,aq 21 21] gh 21 20 21,cZ [d9 21 3,ds,d4,d3,b6 3 3,bS 3 3 21,ab 19 21] (gC i C (gY 4 (f2 0 7 d5))) 21 20 21])] [hQ 0 0 8 8 ey (dQ 0 7 8 8 0 7 0 0) 1 2 3 aC] [ki kA l (bt 8 3 (f2 0 7 d5)) 4,gW 10 [a6 7 0,hU,cm 10 4,bt 10 4 (f2 0 7 d5)] 5 4] [fE,au,aZ,a8] 211 4,bU [(2,[cZ [ds,d4,c7 3 1 0,d3,aN 38 38,aq 38 38] gh 38 37 38,cZ [eQ 3 2 3 3,d9 38 2,d9 37 2,ds,d4,c7 3 1 0,c7 1 3 0,bS 3 3 38] [i,C,iI,gY 4 (hj 0 7 0 7 d5)] 38 37 38]),(0,[cZ [ds,d4,d3,b6 3 3,aN 21 21,aq 21 21] gh 21 20 21,cZ [d9 21 3,ds,d4,d3,b6 3 3,bS 3 3 21,ab 19 21] (gC i C (gY 4 (hj 0 7 0 7 d5))) 21 20 21])] [hQ 0 0 8 8 ey (bQ 0 7 8 8 0 7 8 8 0 7 0 0) 1 2 3 aC] [ki kA l (bt 8 3 (hj 0 7 0 7 d5)) 4,gW 10 [a6 7 0,hU,cm 10 4,bt 10 4 (hj 0 7 0 7 d5)] 5 4] [fE,au,aZ,a8] 211 4,bU [(2,[cZ [ds,d4,c7 3 1 0,d3,aN 38 38,aq 38 38] gh 38 37 38,cZ [eQ 3 2 3 3,d9 38 2,d9 37 2,ds,d4,c7 3 1 0,c7 1 3 0,bS 3 3 38] [i,C,iI,gY 4 (hj 0 7 0 7 (f2 0 7 d5))] 38 37 38]),(0,[cZ [ds,d4,d3,b6 3 3,aN 21 21,aq 21 21] gh 21 20 21,cZ [d9 21 3,ds,d4,d3,b6 3 3,bS 3 3 21,ab 19 21] (gC i C (gY 4 (hj 0 7 0 7 (f2 0 7 d5)))) 21 20 21])] [hQ 0 0 8 8 ey (eH 0 7 8 8 (bQ 0 7 8 8 0 7 8 8 0 7 0 0)) 1 2 3 aC] [ki kA l (bt 8 3 (hj 0 7 0 7 (f2 0 7 d5))) 4,gW 10 [a6 7 0,hU,cm 10 4,bt 10 4 (hj 0 7 0 7 (f2 0 7 d5))] 5 4] [fE,au,aZ,a8] 211 4,cq (dz [(4,dn),(5,i)] [e7 5,aq 5 5,ik dg 6 6 5] 0 5) bK [d7 5 7 5 7 2 1 1,ij (cH 6291463) j 6291463 [eO 7 6291463 1 (J,6)] 2 1] bv 314 1,bM [] [(1,[cW [c8,(34,i)] [ab 34 5] 5])] [hP hZ iG 0 0 ey 1] [cA 112 (ea 7 (-16) 0)] [b3 98311 98311 3 2 2] (eE 7 au) 210 2,bM [] [(1,[hJ eV 45 [c8,(34,i)] [hX eV 44,ab 34 5],hJ eV 45 [(5,dn),(34,i)] [ab 33 34,fa 196624 34 5]])] [k9 (dA 10 3 (k8 0 7 0 0 ca)) 0 0 10 ey 1 2 aC] [⟨112,[ea 7 (-16) 0,bz 10 2,aK 10 3]⟩] [b3 1966242 1966242 5 4 4] [fE,au,an 10,cr 10] 210 4,bM [] [(1,[hJ eV 45 [c8,(34,i)] [hX eV 44,ab 34 5],hJ eV 45 [(5,dn),(34,i)] [ab 33 34,fa 2064555 34 5]])] [k9 (dA 10 3 (f2 0 7 (k8 0 7 0 0 ca))) 0 0 10 ey 1 2 aC] [⟨112,[ea 7 (-16) 0,bz 10 2,aK 10 3]⟩] [b3 20645552 20645552 5 4 4] [fE,au,an 10,cr 10] 210 4,bM [] [(1,[hJ eV 45 [c8,(34,i)] [hX eV 44,ab 34 5],hJ eV 45 [(5,dn),(34,i)] [ab 33 34,fa 20743865 34 5]])] [k9 (dA 10 3 (hj 0 7 0 7 (k8 0 7 0 0 ca))) 0 0 10 ey 1 2 aC] [⟨112,[ea 7 (-16) 0,bz 10 2,aK 10 3]⟩] [b3 207438652 207438652 5 4 4] [fE,au,an 10,cr 10] 210 4,bM [] [(1,[hJ eV 45 [c8,(34,i)] [hX eV 44,ab 34 5],hJ eV 45 [(5,dn),(34,i)] [ab 33 34,fa 207536965 34 5]])] [k9 (dA 10 3 (hj 0 7 0 7 (f2 0 7 (k8 0 7 0 0 ca)))) 0 0 10 ey 1 2 aC] [⟨112,[ea 7 (-16) 0,bz 10 2,aK 10 3]⟩] [b3 2075369652 2075369652 5 4 4] [fE,au,an 10,cr 10] 210 4,fd (ew (eH 5 7 8 8 (bQ 5 7 8 8 5 7 8 8 5 7 0 0))) [d7 8 142 8 142 5 4 4,dv kB 5 dZ] [bw,au,aZ,a8] 117 4,gm [d8] [(1,[cF [(11,lc C .nils),(0,[iJ])] [a4 11 11,b6 11 11,cB 52,em (eS 52) (cy 52) 11 3 11 3,em (el 0 0) (br 0 0) 11 3 11 3] 52 51 52,cF [(11,gC C .nils (bi [.str 4,iE,g9,iE,j3,j3] 160 6)),(0,[iJ])] [a4 11 11,ab 51 52,aq 52 52,lx (cM 52) (br 11 3) 1,em (el 0 0) (br 0 0) 11 1 11 1] 52 51 52,cF [(11,lc C (gV g9)),(0,[iJ])] [bB 52 11 1,a4 11 11,ab 51 52,em (el 0 0) (br 0 0) 11 3 11 3] 52 51 52,cF [(11,gC C (gV g9) (bi [.str 4,iE,g9,iE,j3,j3] 160 6)),(0,[iJ])] [bB 52 11 3,a4 11 11,ab 50 52,lx (cM 52) (br 11 1) 1] 52 51 52])] [bb,cz ac (hl 2) (dJ 3) h5,dA 4 5 g9] [bD jL (az 64 7) (ih 8) [] [dY,gR,cU] 9] [I,P,lp,ky,dh,ad 4 5] 107 6,bq d8 [hI (bE 2 [.str 13,jv] 1) (bf 2 1 b1) 3 2] eF 108 1,bx (il 2 [(4,C),(21,i)] [ab 20 21,aq 4 4,ik dg 16488 16488 21] 21) [j6 (eu 9 0) (eu 999 1) (dy 2 [mh,aC] 2)] [ad 9 0,cX 999,an 2] 46 3 (cE 49466 49466 (a5 49466 3) 4 3 3),bx (il 2 [(4,C),(21,i)] [ab 20 21,aq 4 4,ik dg 65640 65640 21] 21) [j6 (eu 9 0) (eu 999 1) (dy 2 [mh,fH] 2)] [ad 9 0,cX 999,an 2] 46 3 (cE 196922 196922 (a5 196922 3) 4 3 3),bx (dz [(4,C),(21,i)] [ab 4 21,ab 19 21,aq 4 4,ik dg 16488 16488 21] 20 21) [j6 (eu 9 0) (eu 999 1) (dy 16 [mh,aC] 2)] [ad 9 0,cX 999,an 16] 46 3 (cE 280298 280298 [df 16 280298 2 3] 4 3 3),bx (dz [(4,C),(21,i)] [ab 19 21,aq 4 4,ik dg 32760 32760 21] 20 21) [fD cg ac [ae,ae] 2] [ao,P,eU] 46 3 (b3 2129402 2129402 4 3 3),bx (cW [(5,C),(0,C)] [aN 0 0,aN 5 5] 5) [gE,ip 50 []] [] 47 0 (b3 5 5 1 0 0),bx (cW [(5,C),(0,C)] [cG (ff 73 0) (dw (-73) 0) h3 hs] 0) [bH,ip 50 []] eF 47 1 (b3 76546053 76546053 2 1 1),bx (cW [(5,C),(0,C)] [cG (ff 25 0) (dw (-25) 0) h3 hs] 0) [ah,ac] [J,P] 47 2 (b3 439804651110405 439804651110405 3 2 2),g7 [eu 999 0,gE,gE,dy 1 [.str 8,aC] 1,t] [cE 49471 49471 (a5 49471 2) 3 2 2] (eE 999 (cX 1)) 17 2,g7 [eu 999 0,gE,gE,dy 1 [.str 8,fH] 1,t] [cE 196927 196927 [eO 196921 196927 2 (ea 1 6 1),ex 196927] 3 2 2] (eE 999 (cX 1)) 17 2,g7 [eu 999 0,dD 100 1,kg,dy 12 [mh,aC] 3,t] [cE 76826351 76826351 [⟨76826345,[ea 100 6 1,lN 6 2,ea 12 6 3,aK 76826351 4]⟩,df 12 76826351 3 4,aL 76826351 4] 5 4 4] [ad 999 0,cX 100,b1,cr 12] 17 4,ec kC [dJ 0,ac,iw 2,kE,kD,t,t] [gW 8193 [bY 0,aj,az 8193 6,iY,j,ak,ak] 7 6] [bF 0,P,jJ,iU,fq,kF] 121 6,ec (hf 5) [dJ 0,ac,iw 2,kE,kD,t,t] [gW 8193 [bY 0,aj,az 8193 6,he 5,j,ak,ak] 7 6] [bF 0,P,jJ,iU,fq,eN 5] 121 6,ec gQ [ah,ac,ba,b4,a2,t,t] [gW 35184372088833 [hY,aj,mR 6,hV dW,j,ak,ak] 7 6] [J,P,af,aW,aw,dW] 121 6,cp (eo (dJ 1) kE kD (iw 5) t t 2) d8 [jk [ih 9] [bY 1,aO,az 8193 6,az 49471 7,a6 4 8,ak,ak] [] [ez 8193,e3 49471,e4 4,h6] 10] [I,jH,aB,iU,fq,kx] 111 6,cp (eo ax b4 a2 gQ t t 2) d8 [jk [ih 9] [kh,aO,mR 6,az 49471 7,a6 4 8,ak,ak] [] [ez 35184372088833,e3 49471,e4 4,h6] 10] [I,ag,aB,aW,aw,dW] 111 6,gm [d8] [(0,[c1 [(4,[hi,i,f1,f1,f1,f0,f0]),(0,[iJ])] [fi 7,(8,i)] [aq 8 8] 2 7,c1 [(4,[hi,kd,hi,hi,hi,aa,aa]),(0,[iJ])] [(7,l9 63 7 (.agg [jv,hu,hg,lk,hu,cu,cu])),(8,i)] [bS 7 0 7,ab 8 7,ab 2 7] 2 7])] [bb,eo (dJ 1) kE kD (iw 5) t t 2,eu 6 6] [hI (fe 7 [jv,hu,hg,lk,hu,cu,cu] 63 7 7) (bf 7 7 cU) 9 8] [I,jH,aB,iU,fq,kx,ez 6] 206 7,fY [bb,eo (dJ 1) kE kD (iw 5) t t 2,hf 6] d8 [cK (fe 7 [gu,al,hg,ar,hu,cu,cu] 63 7 7) [ih 8] (a5 7 7) (bf 7 7 cU) 9] [I,jH,aB,iU,fq,kx,eN 6] 112 7,fY [bb,eo ax b4 a2 gQ t t 2,iX] d8 [hI (fe 7 [iu,al,.str 35184372088833,iu,hu,cu,cu] 63 7 7) (bf 7 7 cU) 9 8] [I,ag,aB,aW,aw,dW,h4] 112 7,fd (cf ax ba 0 3) [e0,gk ai (cO (ag,-1)) 4] [ao,ag,af,aR] 311 4,gz (cf ax ba 0 3) a2 [dq hv [g,j,g,g,g,r,r] 5,be [iH,aQ,hV aw,g,g,r,r] [cO (ag,-1)] [] 5] [ao,ag,af,aR,aw] 207 5,fd (cf ax ba 0 3) [eb (a6 8 8) [aU 4,a9,az 22 6,jM,g,o,r] [j4 af (mJ 4)] [fq,aH,ez 22,jN,ht] 9] [ao,ag,af,aR] 113 4,fd (cf ax ba 0 3) [eb (a6 8 7) [hV aw,a9,az 27 6,g,g,r,r] [j4 af (aw,-1)] [aw,aH,ez 27,gP] 8] [ao,ag,af,aR] 114 4,fd (cf ax ba 0 3) [eb (a6 8 7) [hV aw,a9,az 1 6,g,g,r,r] [j4 af (aw,-1)] [aw,aH,ez 1,gP] 8] [ao,ag,af,aR] 115 4,bC [dJ 0,ac,iw 2,kE,kD,t,t] [bF 0,P,jJ,iU,fq] 119 5 (fg [bY 0,aj,az 8193 5,az 49471 6,j,ak,ak] (bf 8193 5 (ez 49471)) 7),bC [ah,ac,ba,b4,a2,t,t] [J,P,af,aW,aw] 119 5 (fg [hY,aj,mR 5,az 49471 6,j,ak,ak] (bf 35184372088833 5 (ez 49471)) 7),bg (bd [c8,(11,i)] 10 11 11 11 10 11) (en [(5,bi [p,p,p,p,bu,bu] 160 6),(11,i)] 10 11 11 5 10 11) [cz ah (fj 1) (b7 c2 2) (b7 [p,p,p,p,bu,bu] 3),a2] [cx (jh (fL 0 5) [p,p,p,p,bu,bu]) [jO] 6] [J,jF,ei,c9,aw] 217 5,bg (dz [iT,(5,i),(6,i),h7,(3,aa)] [e7 6,aq 6 6,aN 5 5,aq 5 5] 0 6) (dz [(4,gV (.str 1073741819)),(5,i),(6,i),h7,(3,aa)] [e7 6,ab 6 5,ab 5 4] 0 6) [hr] [gi l 1,dB (bt 1 1 mK) r (aG 1 1) 2,ij (bt 1073741825 1 mK) ai 1073741825 [bO 1 1073741824 1073741825 0 1] 2 1] [eh] 317 1,cq (il 4097 [(8,C),(4,C),(5,i),(23,i)] [ab 22 23,aq 23 23,ik (cy 8) 1073745920 1073745920 23] 23) [ah,ax] [d7 5 230 5 230 3 2 2,dv (aU 2) 3 jJ] [J,ag] 218 2,cq (gv (bB 15 4 1) (ab 14 15) [(5,i),(15,i)] 14 15) [cz ah (fj 1) (b7 c2 2) (b7 [p,p,p,p,bu,bu] 3),a2] [bn 230 271 230 271 [g,j,g,g,g,r,r] 6 5 5,b8 [h8,aS,jM,aU 8,iZ,o,o] [bF 5,bP,jN,bs 8,i1] 10] [J,jF,ei,c9,aw] 120 5,bg (bd [c8,(11,i)] 10 11 11 11 10 11) (en [(5,gV ae),(11,i)] 10 11 11 5 10 11) [fD cg ac [ae,ae] 2,di] [cN (bt 64 4 ae) 64 5 4] [ao,P,eU,cS] 318 4,bg (bd [c8,(11,i)] 10 11 11 11 10 11) (en [(5,gV ae),(11,i)] 10 11 11 5 10 11) [fD cg ac [ae,ae] 2,di] [cN (bt 64 4 ae) 64 5 4] [ao,P,eU,cS] 318 4,cq (hb (fa 16380 15 7) [(7,C),(15,i)] 14 15 14 15) [fD cg ac [ae,ae] 2,di] [gi g 4,dB (gj 1048320) ai (aG 1048320 4) 5] [ao,P,eU,cS] 220 4,cq (hb (fa 16380 15 7) [(7,C),(15,i)] 14 15 14 15) [fD cg ac [ae,ae] 2,di] [gi g 4,dB (gj 1048320) ai (aG 1048320 4) 5] [ao,P,eU,cS] 220 4,cY 378,bM [] [(0,[bd [(1,i)] 0 1 1 1 0 1])] [ah,ac] [aP,cd aE] [g6 (cv [(af,1)]) [bm aE (af,1),cd (af,-1)] [af] 3] [J,P] 319 2,cY 379,cY 424,bM [] [(0,[bd [(7,i)] 0 7 7 7 0 7])] [ah,ac] [aP,cd aE] [e6 [] [hk,aM,lv] 2,cJ [] [jw (l2 1 3),cd (l5 1 (-1) 3),cd (af,-1)] [.ce iH,l3 1 3,lw] [af,l4 1 3] 4] [J,P] 407 2,bM [] [(0,[dz [(4,C),(5,i),(6,aa),(8,i),(7,C)] [ab 8 7,e7 8,aq 8 8] 0 8])] [ah,ac] [aP] [e6 [] [hk,aM,lv] 2,cJ [] [jw (l2 2 3),cd (l5 2 (-1) 3),eR 17592186044415 2 (J,1)] [.ce (cn 17592186044415),l3 2 3,lw] [an 17592186044415,l4 2 3] 4] [J,P] 425 2,eD [] [ah,ac] [aP,cd aE] [e6 [] [hk,aM,lv] 2,cJ [] [jw (l2 1 3),cd (l5 1 (-1) 3),cd (af,-1)] [.ce iH,l3 1 3,lw] [af,l4 1 3] 4] 408 J,eD [] [aY,ac] [aP,bm gI aE] [j9 [] [g,g] [] [] 2 aM,eM ai [] [kt,dc 3] [jw (k5 1 1099511627776 4),bm gI (g8 1 1099511627776 (-1) 4),bm gI (j1 3),bm gI jE] [cD,cS,⟨4,1,1099511627776⟩] 5 (ed 1 1099511627776 4)] 380 aF,d9e,bM [] [(2,[c1 [(8,[C,.nils,.nils])] [(5,i),(6,aa),(9,aa),(1,i)] [a4 8 8,aN 1 1,aq 1 1] 0 1,c1 [(8,[C,np p,bi [p,p] 61 2])] [(5,i),(6,aa),(9,fU),(1,i)] [bB 1 8 2,a4 8 8,e7 1,aq 1 1] 0 1,c1 [(8,[C,.nils,bi [p,p] 61 2])] [(5,i),(6,aa),(9,aa),(1,i)] [bB 1 8 2,a4 8 8,e7 1,aq 1 1] 0 1]),(0,[bd [(5,i),(6,aa),(7,i)] 0 7 7 7 0 7])] [bH,ac] [aP,hd (I,1) aE] [j9 [] [g,l,l] [] [] 2 aM,eM ai [] [mS,ep 3,eW [p,p] 4] [i6 2 5,g3 2 5] [an 1048574,bA,dZ,eP 2 5] 6 (lr 2 5)] [I,P] 320 2,bg (bd [(5,i),h7,(3,i),iT] 0 5 5 5 0 5) (en [(5,i),h7,(3,i),(4,bi [l6,iK,jl [p,p]] 235 3)] 5 4 0 5 0 5) [bH] [fc l (a7 6 161 1) [fb [(I,1)]] (cL 6 161 1) 2,dv (eW [l6,iK,jl [p,p]] 1) 2 a1] eF 221 1,bU [(0,[cb [(4,C),(5,aa),(12,i)] 11 12 12 11 12]),(2,[cb [(4,C),(5,aa),(19,i)] 18 19 19 18 19])] [eA [p,iK,jl [p,p]],cT] [dB ch ai dt 3,gi g 2] [cs,bo] 222 2,bx (lY 1 (eL 5) [(4,C),(5,i)] [aN 5 5,⟨1,eL 5⟩]) [.agg [ah,ax,ba,b4,a2,t,t,t,t],.agg [gQ,iX,jP,dP 8,dP 9,t,t,t,t]] [J,ag,af,aW,aw,dW,h4,i2,cI 8,cI 9] 382 10 (cE 35184372088832 35184372088832 [⟨1,[(J,1),(ag,1),(af,1),(aW,1),(aw,1),(dW,1),(h4,1),(i2,1),(cI 8,1),(cI 9,1),aK 35184372088832 10]⟩] 11 10 10),jV [aY,cT,dU,di,f9,t,t,t,t] [eI 5,eI 6,eI 7,eI 8,eI 9,t,t,t,t] [fg [dc 10,dc 11,az 10995116277761 12,dc 13,dc 9,o,o,o,o] [dx 10,dx 11,ad 10995116277761 12,dx 13] 14] [aF,bo,cD,cS,ga,dx 5,dx 6,dx 7,dx 8,dx 9] 322 10,bC [ah,ax,ba,b4,a2,t,t,t,t] [J,ag,af,aW,aw] 323 5 (cE 87960930222085 87960930222085 [⟨5,[(J,1),(ag,1),(af,1),(aW,1),(aw,1),aK 87960930222085 5]⟩] 6 5 5),ec (eI 5) [aY,ac,dU,di,f9,t,t] [bn 1 253 1 253 [g,j,g,g,g,r,r] 7 6 6,b8 [kG,bp,aU 8,iZ,lz,o,o] [kH,bI,bs 8,i1,lA] 11] [aF,P,cD,cS,ga,dx 5] 223 6,ec (fD hw gT [ae,ae] 7) [aY,ac,dU,di,f9,t,t] [dq (bZ 261) [g,j,g,g,g,r,r] 8,b8 [bY 8,gS,lz,lB,jx,o,o] [bF 8,ft,lA,lC,jy] 13] [aF,P,cD,cS,ga,aH,bP,gR] 122 8,ec (fD hw gT [ae,ae] 7) [aY,ac,dU,di,f9,t,t] [dq (bZ 261) [g,j,g,g,g,r,r] 8,b8 [bY 8,gS,lz,lB,jx,o,o] [bF 8,ft,lA,lC,jy] 13] [aF,P,cD,cS,ga,aH,bP,gR] 122 8,fY [bb,cz ac (hl 2) (dJ 3) h5,dA 4 5 g9] d8 [cK (fe 15 [gu,al,hg,ar,kJ,cu,cu] 63 7 6) [ih 7] (a5 15 6) (bf 15 6 fs) 8] [I,P,lp,ky,dh,ad 4 5] 54 6,bq d8 [bD (cH 193) (bE 30 [gu,al,hg,ar,kJ,cu,cu] 2) (ih 3) [ex 30,aL 193 1] [cX 193,an 30,bA] 4] eF 25 1,d8R,bL (jo 0 c0) [fc (cH 193) (bE 30 [gu,al,hg,ar,kJ,cu,cu] 2) [ex 30,aL 193 1] (bf 193 1 (an 30)) 3] 9 cs,b9 aY cT [gL,dG] 150 aF bo,hn 242 (fo [] [hk,hk,ed 5 60 1] (cL 5 60 1) 2) (cJ [] [eR 4090 2 (J,1),eR 4090 1 (J,1),cO (J,-1),cA (-5) (J,1)] [.ce mj,.ce (cn 4090),aM] (bf 4090 1 (an 4090)) 3),cY 284,cY 383,ln [cN (hK 0 .u8 (dN 255 1)) 255 2 1] 386,eD [] [ah,ac] [aP] [ij (hK 0 .u8 (dN 255 2)) ai 255 [jn (-3) (J,1) aE] 3 2,gi (hK 0 .u8 []) 2] 334 J,cY 354,cY 336,b9 (jW 0) cT [dG,gL] 337 (cR 0) bo,cY 246,cp (jW 0) [l] [cJ [[hS (gn 3 1) 5 1]] [da (-3) 3 1] [] (aG 3 1) 2] (aG 255 0) 255 1,cp jc [hS (gn 4294967296 0) 5 1] [e6 [[hS (da 3 4294967296 0) 5 1]] [] 2] (eE 4294967296 ho) 255 2,bg (c1 [(6,[.nils])] [(4,C),(5,i),(7,i)] [aN 7 7,aq 7 7] 0 7) (c1 [(6,[dn])] [(4,C),(5,i),(7,i)] [bB 7 6 0,e7 7] 0 7) [aY,cT] [fc g (a7 1 5 2) (a5 1099511627776 0) (cL 1 5 2) 3,fc (gw 2) j [iz 16384 2 gI,cA 16384 (j1 0)] [gp 2] 3] [aF,bo] 243 2,cl [(4,aa),(8,i)] [ah,g1 284] [bh,b2] bv 385 1 7 8 8 7 8,hn 329 bh b2,ln [cN (lK 0 (dN 265 1)) 265 2 1] 362,bM [] [(2,[bd [(8,cP),(9,i),(11,cP),(30,i)] 29 30 30 30 29 30]),(0,[cb [(8,cP),(9,i),(18,i)] 17 18 18 17 18])] [ah,bJ,c5 2,g1 284] [jG,lR 2] [hT ak 1 4 1 4 4 3 3,dv (jm 3) 4 (cw 3)] [J,ay,gM] 283 3,bM [] [(2,[bd [(8,cP),(9,i),(11,cP),(30,i)] 29 30 30 30 29 30]),(0,[cb [(8,cP),(9,i),(18,i)] 17 18 18 17 18])] [ah,bJ,c5 2,g1 383] [jG,lR 2] [hT ak 1 4 1 4 4 3 3,dv (jm 3) 4 (cw 3)] [J,ay,gM] 283 3,ig [] [ah,bJ] [jG] [hT ak 1 4 1 4 3 2 2,dv kw 3 gM] 169 J ay,ig [] [ah,bJ] [jG] [hT ak 1 6 1 6 3 2 2,dv kw 3 gM] 324 J ay,cq (il 256 [(2,aa),(15,i)] [fC 255 15,cB 15] 15) [bH] [bh,b2] eF 250 1,cl [(2,aa),(26,i)] bK [bh,b2] bv 387 1 25 26 26 25 26,cq (cW [(2,aa),(0,C)] [aN 0 0] 0) [hr] [bh,b2] [eh] 335 1,hn 244 (d7 3 50 3 50 2 1 1) (fc hY j [fb [(J,1)],cA 253 (J,-1)] [] 1),d1 3 80 3 80 [g,g] 133 2 1 1 (be [mj,eX] [eR 253 2 (J,1),eR 4090 1 (J,1),cO (J,-1),cA (-5) (J,1),jQ,aL 4090 1] (bf 4090 1 eY) 3),bC [ah,ax] [J,ag] 134 2 (bX (im 6 [(J,1),(ag,1)]) 2),r261,gD bH [bh,b2] eF 245 1 (.string ⟨#[63,35]⟩),gD bH [bh,b2] eF 245 1 (.string ⟨#[123,125]⟩),bg (gv (cB 5) (cG h3 hs f8 dg) [(2,C),(3,i),(5,i),iT] 0 5) (en [(2,C),(3,i),(5,i),(4,dn)] 5 4 0 5 0 5) bK [d7 2 5 2 5 2 1 1,fc hU j [ef 16384 1] [au] 2] bv 248 1,cY 338,cl [(2,aa),(3,f0),(7,i)] bK [bh,gk ai (cA 64 (J,-1)) 1] bv 249 1 6 7 7 6 7,cl [(3,i),(41,i)] bK [bn 1 80 1 80 [g,g] 2 1 1,be [cH 64,eX] [eR 253 2 (J,1),cO (J,-1),cA (-7) (J,1),jQ] [aV 1,eY] 3] bv 135 1 40 41 41 40 41,bg (kc [aN 10 10,aq 10 10] [.nils] 10 5 9 10) (kc [iq 3 10 5 0,e7 10] [dn] 10 5 9 10) [hr,kK] [cE 3221225472 3221225472 [iz 3221225472 2 (ea 1073741824 3 0)] 3 2 2] [eh,kL] 142 2,bC [hr,kK] [eh,kL] 136 2 (cE 4294967304 4294967304 [⟨8,[ea 1073741824 3 0,ea 1073741824 3 1,aK 4294967304 2]⟩,df 1073741824 4294967304 1 2] 3 2 2),r270,cl [(2,aa),(6,i)] bK [bh,b2] bv 267 1 5 6 6 5 6,b9 ah ax [gk ai (cd (ag,-1)) 2,dG] 363 J ag,b9 ah ax [fc (k3 [(J,1),(ag,-1)]) ai [cd (ag,-1)] [] 2,gi hY 2] 285 J ag,b9 ah ax [fc (k3 [(J,1),(ag,-1)]) ai [cd (ag,-1)] [] 2,gi hY 2] 171 J ag,d1 5 6 5 6 [g,g,g,g,g,r,r,r,r] 151 2 1 1 (be [cH 16383,cn 16382,gw 3,gj 16383,az 16383 5,o,o,o,o] [ef 16383 5,ef 16383 4,ef 16384 3,ef 16382 2] [cX 16383,an 16382,gp 3,g4 16383,ad 16383 5] 6),b9 bH f6 [dG,gL] 251 I a1,hn 339 (lo j (bZ 51) 1) (dv aj 2 P),bL hr [bn 3 51 3 51 [g,j] 2 1 1,be [bY 1,aO] [je 1073741824 253 0 1,iD 1] [jH,aB] 3] 252 eh,b9 ah ax [gk ai (cd (ag,-1)) 2,dG] 340 J ag,b9 ah ax [ej iH (cd (af,-1)) [af] 3] 388 J ag,b9 ah ax [ej iH (cd (af,-1)) [af] 3] 341 J ag,bx (lY 1 (eL 5) [(4,i),(5,i)] [aN 5 5,⟨1,eL 5⟩]) [ah,jc] [J,ho] 389 2 (ie (a7 (-1) 17592186044415 2) (cL (-1) 17592186044415 2) 3 (J,1) (g8 (-1) 17592186044415 (-1) 2)),b9 ah jc [ie (a7 (-1) 17592186044415 2) (cL (-1) 17592186044415 2) 3 (J,1) (g8 (-1) 17592186044415 (-1) 2)] 342 J ho,bx (cW [(0,C),(3,l9 5 1 c0)] [bS 3 0 3,cG (eS 0) gO (cy 0) gN] 0) [dD 1000000 0] (aG 1000000 0) 253 1 (cE 1000000 1000000 [je 1000000 1000000 0 1] 2 1 1),bx (cW [(0,C),(3,l9 5 1 c0)] [bS 3 0 3,cG (eS 0) gO (cy 0) gN] 0) [dD 1000000 0] (aG 1000000 0) 253 1 (b3 1000000 1000000 2 1 1),bC [ah,ac,ba,b4,a2,t,t] [J,P,af,aW,aw] 50 5 (gA [hY,aj] 5),bC [ah,ac] [J,P] 49 2 (cE 17592186044438 17592186044438 [fG J (bz 17592186044438 2),eO 22 17592186044438 2 (J,1)] 3 2 2),bC [ah,ac,ba,b4,a2,mf,hh] [J,P,af,aW,aw] 16 5 (bX (im 1 [(af,1),(aW,1)]) 5),bC [ah,ac,ba,b4,a2,t,t] [J,P,af,aW,aw] 16 5 (cE 35184372088833 35184372088833 [⟨1,[(af,1),(aW,1),aK 35184372088833 5]⟩,fG af (bz 35184372088833 5)] 6 5 5),bC [ah,ac,ba,b4,a2,mf,hh] [J,P,af,aW,aw] 18 5 (fR (h1 52776558133279 5) 52776558133279 [⟨31,[(J,1),(af,1),(aW,1),(aw,1),aK 52776558133279 5]⟩,fG aW (ld 5),fG af (ld 5),fG J (ld 5),aL 52776558133279 5] 6 5),bC [ah,ac,ba,b4,a2,t,t] [J,P,af,aW,aw] 18 5 (fR (h1 70368744177696 5) 70368744177696 [⟨32,[(J,1),(af,1),(aW,1),(aw,1),aK 70368744177696 5]⟩,fG af (mP 5),fG J (mP 5),aL 70368744177696 5] 6 5),d1 1 71 1 71 [g,j,g,g,g,r,r] 137 2 1 1 (be [bY 1,aO,aU 3,aU 4,aU 5,o,o] [ef 4096 3,ef 253 1,cO (J,-1),iD 1] [jH,aB,iU,fq,kx] 6),r293,cl [(2,aa),(6,i)] bK [bh,gk ai (fb [(J,1)]) 1] bv 172 1 5 6 6 5 6,bL aY [ni (cH 49152) 1 5 (bf 49152 1 ⟨2,1,5⟩) 3 2,ij (cH 49152) j 49152 [iz 49152 1 (ea 1099511627776 3 0)] 2 1] 173 aF,b9 ah ax [gL,dG] 287 J ag,b9 ah ax [gL,dG] 174 J ag,d1 1 100 1 100 [g,g] 95 2 1 1 (be [mj,cn 12270] [cO (J,-1),cA (-4) (J,1)] (bf 4090 1 (an 12270)) 3),bC [ah,ax] [J,ag] 140 2 (bX (im 5 [(J,1),(ag,1)]) 2),dd [aY,cT] [bn 1 100 1 100 [g,j] 3 2 2,be [eX,aQ] [jn 4091 (j1 0) hp,iz 253 2 (nd 1),jQ] [eY,aR] 4] [aF,bo] 139 2,cp (iC 1) [jb 0] [cK (h1 49153 2) [[jb 3]] (a5 49153 2) [an 49153,cr 110] 4] (eE 110 au) 290 2,cp hr [dF,l] [bD j ke eT [h9 1073741824 0] [] 1,bD (l8 0) ke (jX 1073741824 0) [] [] 1] [eh] 257 1,cp hr eT [bD j ke eT [] [] 1,bD (l8 0) ke (jX 1073741824 0) [] [] 1] [eh] 257 1,cp kK [dF,hS (gn 4294967296 0) 5 1] [bD (l8 1) ke (ml (fS 1073741824 1 (bz 4294967296 0))) [] [] 2] (eE 4294967296 kL) 257 2,cp kK (jX 4294967296 0) [bD (l8 1) ke (ml (fS 1073741824 1 (bz 4294967296 0))) [] [] 2] (eE 4294967296 kL) 257 2,gm [[jb 0]] [(0,[cF [(5,[kf,.nils]),(1,[kd])] [aN 10 10,cB 10] 10 9 10,cF [(5,[.self,dn]),(1,[kd])] [ab 9 10,iq 49153 10 5 1] 10 9 10])] [g2 16385 1,l0 c4 290] [dm (cn 805371905) [jb 3] [an 805371905,cr 110] 4] (eE 110 (cX 16385)) 289 2,dd [aY,cT] [bn 1 110 1 110 [g,j,g,g,g,r,r] 3 2 2,be [eX,aQ,h1 4096 4,g,g,r,r] (a5 1099511627776 1) [eY,aR,fq] 5] [aF,bo] 175 2,dd [aY,ac,dU,di,f9,t,t] [fM 5,g6 ai [cO (j1 0),cO jE] [] 5] [aF,P,cD,cS,ga] 76 5,gm [[jb 0]] [(0,[kc [dM,hX (br 0 0) 110,ab 9 10,aq 10 10] [i] 10 0 9 10])] [bb,iC 1] [cK (cn 147457) [[jb 3]] (a5 147457 2) [an 147457,cr 110] 4] (eE 110 au) 343 2,dd [gJ,ac,hz,hy,fu,t,t] [gA [g,j,g,g,g,r,r,j,ai,hv,g,j,g,g,g,r,r,j,j,l,g,l,l] 5,ha [dI,aj,b5,dH,g,o,r,j,r,j,g,j,g,g,g,r,r,j,j,l,g,l,bE 1 (nm mc mc iE) 5] [kM 2,kM 0] (aG 1 5) 6] [gK,P,hB,hA,fv] 34 5,dd [aY,ac,dU,di,f9,t,t] [gA [g,j,g,g,g,r,r,j,ai,hv,g,j,g,g,g,r,r,j,j,l,g,l,l] 5,gW 1 [dc 0,aj,kt,dc 3,g,o,r,j,r,j,g,j,g,g,g,r,r,j,j,l,g,l,bE 1 (nl mc mc (.str 1099511627776) iE) 5] 6 5] [aF,P,cD,cS,ga] 34 5,bL (eA bR) [gk l (hE 0) 1,bX (gX 0 bR 42 7 0) 1] 154 cs,bL (eA bN) [gk l (hE 0) 1,bX (gX 0 bN 44 9 0) 1] 155 cs,bL (eA [p,p]) [bX l 1,bX (gX 0 [p,p] 61 2 0) 1] 156 cs,dd [gJ,ac,hz,hy,fu,t,t,eu 6 5,hh,gT,b0 7,kN,hC,kl,kk,t,t,a0 12,a0 13,g5 gy [ae,ae],gE,dy 7 bN 14,dy 7 bR 15] [gl [dI,aj,b5,dH,cj,o,o,i9,r,aS,dk,a3,dj,cC,de,o,o,cc,c3,l,g,l,l] [h9 7 15,h9 7 14] 16,gl [dI,aj,b5,dH,cj,o,o,i9,r,aS,dk,a3,dj,cC,de,o,o,cc,c3,jZ gy [p,p] 61 2,g,l,l] [h9 7 15,h9 7 14] 16,gl [dI,aj,b5,dH,cj,o,o,i9,r,aS,dk,a3,dj,cC,de,o,o,cc,c3,l,g,gB 7 14,l] [h9 7 15] 16,gl [dI,aj,b5,dH,cj,o,o,i9,r,aS,dk,a3,dj,cC,de,o,o,cc,c3,jZ gy [p,p] 61 2,g,gB 7 14,l] [h9 7 15] 16,gl [dI,aj,b5,dH,cj,o,o,i9,r,aS,dk,a3,dj,cC,de,o,o,cc,c3,l,g,l,fe 7 bR 42 7 15] [h9 7 14] 16,gl [dI,aj,b5,dH,cj,o,o,i9,r,aS,dk,a3,dj,cC,de,o,o,cc,c3,jZ gy [p,p] 61 2,g,l,fe 7 bR 42 7 15] [h9 7 14] 16,gA [dI,aj,b5,dH,cj,o,o,i9,r,aS,dk,a3,dj,cC,de,o,o,cc,c3,l,g,gB 7 14,fe 7 bR 42 7 15] 16,gA [dI,aj,b5,dH,cj,o,o,i9,r,aS,dk,a3,dj,cC,de,o,o,cc,c3,jZ gy [p,p] 61 2,g,gB 7 14,fe 7 bR 42 7 15] 16] [gK,P,hB,hA,fv,ad 6 5,bP,kO,ck,hD,gG,jz,gF,iL,iQ 14,iQ 15] 77 16,dd [gJ,ac,hz,hy,fu,t,t,hw,t,gT,b0 7,kN,hC,kl,kk,t,t,a0 12,a0 13,f5 [ae,ae] 14,dP 15,b7 bN 16,b7 bR 17] [gl [dI,aj,b5,dH,cj,o,o,a9,o,aS,dk,a3,dj,cC,de,o,o,cc,c3,l,iM,l,l] [hE 17,hE 16] 18,gl [dI,aj,b5,dH,cj,o,o,a9,o,aS,dk,a3,dj,cC,de,o,o,cc,c3,fe 64 [p,p] 61 2 14,iM,l,l] [hE 17,hE 16] 18,gl [dI,aj,b5,dH,cj,o,o,a9,o,aS,dk,a3,dj,cC,de,o,o,cc,c3,l,iM,gX 0 bN 44 9 16,l] [hE 17] 18,gl [dI,aj,b5,dH,cj,o,o,a9,o,aS,dk,a3,dj,cC,de,o,o,cc,c3,fe 64 [p,p] 61 2 14,iM,gX 0 bN 44 9 16,l] [hE 17] 18,gl [dI,aj,b5,dH,cj,o,o,a9,o,aS,dk,a3,dj,cC,de,o,o,cc,c3,l,iM,l,gX 0 bR 42 7 17] [hE 16] 18,gl [dI,aj,b5,dH,cj,o,o,a9,o,aS,dk,a3,dj,cC,de,o,o,cc,c3,fe 64 [p,p] 61 2 14,iM,l,gX 0 bR 42 7 17] [hE 16] 18,gA [dI,aj,b5,dH,cj,o,o,a9,o,aS,dk,a3,dj,cC,de,o,o,cc,c3,l,iM,gX 0 bN 44 9 16,gX 0 bR 42 7 17] 18,gA [dI,aj,b5,dH,cj,o,o,a9,o,aS,dk,a3,dj,cC,de,o,o,cc,c3,fe 64 [p,p] 61 2 14,iM,gX 0 bN 44 9 16,gX 0 bR 42 7 17] 18] [gK,P,hB,hA,fv,aH,bP,kO,ck,hD,gG,jz,gF,iL,aV 14,nq,bW 16,bW 17] 77 18,bC [hf 0,ac,hf 2,hf 3,h5,c5 5,c5 6] [eN 0,P,an 134217728,eN 3,dh,cw 5,cw 6] 123 7 (gA [he 0,aj] 7),gz (cz ah ac ba (c5 3)) (eo (hf 4) (hf 6) (hf 7) kN (c5 9) (c5 10) 5) [gs 11,fM 11] [J,P,af,cw 3,eN 4,aH,eN 6,eN 7,ck,cw 9,cw 10] 225 11,cl [(4,i),(8,i)] [eA [ar,al,ar,ar,al,bl,bl],l0 [cz (dD 4294967296 1) (a0 2) (dD 4294967296 3) (c5 4)] 225] [ie (lm (-1) 5) (j7 (-1) 5) 6 (li 0) (g8 (-1) 2147483647 (-1) 5)] [cs,cX 4294967296,aB,cr 4294967296,cw 4] 224 5 7 8 8 7 8,dr (j8 [ar,al,ar,ar,al,bl,bl] 0) (eo kK (gH 3) (gH 4) (gH 5) t t 2) (c5 6) [d7 8 243 8 243 8 7 7,ij (he 7) j 134217728 (a5 1073741824 0) 8 7] [eh,kL,aB,dO 3,dO 4,dO 5,cw 6] 124 7,bq [U,o] [cK (cH 1048574) [[mS,ai]] [eR 1048574 2 (I,1),eR 1048574 1 (I,1)] (bf 1048574 1 (an 1048574)) 3,et U [g,r] 1] eF 228 1,cl [(2,aa),(7,i)] bK [bh,b2] bv 230 1 6 7 7 6 7,hn 227 (dq r [j,j,l] 1) (eb ai [cV 1,aO,l] [cA (-13) (J,1)] [ho,aB] 3),cY 271,cl [(2,aa),(6,i)] bK [bh,gk ai (fb [(J,1)]) 1] bv 229 1 5 6 6 5 6,cY 325,bU [(2,[cW [(0,C)] [aN 0 0] 0]),(0,[cW [(0,C)] [aN 0 0] 0])] bK [ej kh (cd (ag,-1)) [ag] 2] bv 231 1,ir bK [eJ 1 [ic 6] [(7,[i,i,.nils]),(6,[C,aa])] [(3,i),(4,i)] [db [ja],em (el 7 0) (br 7 0) 7 2 7 2],eJ 1 [ic 6] [(7,[i,i,.nils]),(6,[C,fU])] [(3,i),(4,i)] [lX 7 7,a4 7 7,b6 7 7,em (el 7 1) (br 7 1) 7 2 7 2,em (el 6 0) (br 6 0) 7 2 7 2],eJ 1 [ic 6] [(7,[i,i,bi [fX,.str 16376] 61 2]),(6,[C,fU])] [(3,i),(4,i)] [a4 7 7,b6 7 7,em (el 6 0) (br 6 0) 7 2 7 2],eJ 1 [ic 6] [(7,[i,i,bi [ae,fX] 61 2]),(6,[C,aa])] [(3,i),(4,i)] [hX (br 7 2) 64,a4 7 7,db [ja]]] [eM (a7 142 191 1) [] [j,j,l] [] (cL 142 191 1) 2 aM,fQ [] [cV 1,aO,fk [ae,fX] 3] [cd (g8 17 16384 (-1) 4)] [ho,aB,aV 3,⟨4,17,16384⟩] 5 (ed 17 16384 4) aM] bv 125 1 1,bL cg [b2,bh] 78 ao,bg (bd [c8,(11,i)] 10 11 11 11 10 11) (en [(5,gV ae),(11,i)] 10 11 11 5 10 11) [fD cg ac [ae,ae] 2,di] [cN (bt 64 4 ae) 64 5 4] [ao,P,eU,cS] 144 4,bg (bd [c8,(11,i)] 10 11 11 11 10 11) (en [(5,gV ae),(11,i)] 10 11 11 5 10 11) [fD cg ac [ae,ae] 2,di] [cN (bt 64 4 ae) 64 5 4] [ao,P,eU,cS] 144 4,ec di [cg,ac,f5 [ae,ae] 2] [dB md r (aG 1048318 4) 5,dB md ai (aG 1048318 4) 5] [ao,P,eU,cS] 72 4,ec di [cg,ac,f5 [ae,ae] 2] [dB md r (aG 1048318 4) 5,dB md ai (aG 1048318 4) 5] [ao,P,eU,cS] 72 4,bq [he 0,bc] [cK j [[mV (-2) 134217728 0,bc]] [da (-2) 134217728 0] [] 2,dm (a7 190 191 2) [he 0,bc] (cL 190 191 2) 3] [eN 0,ay] 327 2,bq [he 0,bc] [bD (he 2) (a7 190 191 3) [he 4,bc] [] [an 134217728,⟨3,190,191⟩,eN 4] 5,bD (cn 134217726) j [az 134217726 3,bc] [eR 134217726 3 (bz 134217728 0)] [an 134217726,cr 134217726] 4] [eN 0,ay] 328 2,ig [] [ah,bJ] [jG] [hT ak 1 4 1 4 3 2 2,dv kw 3 gM] 384 J ay,gm [[he 0,bc]] [(0,[⟨[(3,i)],[],[bS 0 0 3,aq 3 3],bS 0 0 3⟩])] c4 [dm (a7 190 191 2) [he 3,bc] [⟨2,190,191⟩,eN 3] 4,cK j [[cn 134217726,jm 3]] [eR 134217726 2 (bz 134217728 0)] [an 134217726,cw 3] 4] [eN 0,ay] 326 2,bq [dF,l] [et j [dF,l] 0] [] 258 0,bq eT [et j eT 0] [] 258 0,bq [dF,hS ll 5 1] [et (hc 0) [dF,hS ll 5 1] 1] [aF] 258 1,bq ku [et (hc 0) ku 1] [aF] 258 1,bU [(3,[eK [ja] [(7,[C,cP])] [(4,C),(5,i)] [a4 7 7]]),(0,[eK [ja] [(7,[C,cP]),(6,[kf,.nils])] [(4,C),(5,i)] [a4 7 7],eK [ja] [(7,[C,cP]),(6,[.self,dn])] [(4,C),(5,i)] [lW (el 6 1) (el 7 0) (br 6 1) 7 0,bB 1 6 1]])] [hf 0,ip 0 (gx 1)] [d7 142 191 142 191 3 2 2,mE ch dt 3] [eN 0,a1] 232 2,bU [(3,[eK [ja] [(7,[C,cP])] [(4,C),(5,i)] [a4 7 7]]),(0,[eK [ja] [(7,[C,cP]),(6,[kf,.nils])] [(4,C),(5,i)] [a4 7 7],eK [ja] [(7,[C,cP]),(6,[.self,dn])] [(4,C),(5,i)] [lW (el 6 1) (el 7 0) (br 6 1) 7 0,bB 1 6 1]])] [bH,ac] [d7 142 191 142 191 3 2 2,mE mS (aG 1048574 2) 3] [I,P] 232 2,cl [(2,cP),(3,aa),(22,i)] [bH] [gi ak 1,dB bc ai [ay] 2] eF 233 1 21 22 22 21 22,dr (fD cg ac [ae,ae] 2) (hf 3) (ip 1048576 []) [dv kB 5 dZ,d7 142 191 142 191 5 4 4] [ao,P,eU,eN 3] 126 4,dr (fD cg ac [ae,ae] 2) (dE bA) h5 [d7 4 191 4 191 6 5 5,dv (aA 5) 6 gd] [ao,P,eU,bA,dh] 126 5,dr (j8 [ar,al,ar,ar,al,bl,bl] 0) bJ (eo (gH 2) (gH 4) (gH 5) (gH 6) t t 3) [eM (a7 8 243 15) [] [jM,a3,iZ,fh 10,fh 11,o,o,cV 12,c3,l,g,l] [] [jN,ck,i1,dO 10,dO 11,cR 12,iL,iO,⟨15,8,243⟩] 16 (.ce jA),fQ [] [fh 2,aQ,fh 4,fh 5,fh 6,o,o,cV 7,a3,fk [ae,fX] 9,aA 10,l] (a5 1073741824 0) [cR 7,ck,aV 9,lD,h0] 12 (.ce iN) aM,eM (a7 142 191 11) [] [fh 2,aQ,fh 4,fh 5,fh 6,o,o,cV 7,a3,fk [ae,fX] 9,g,l] [] [cR 7,ck,aV 9,f7,⟨11,142,191⟩] 12 (.ce ee)] [eh,ay,dO 2,aR,dO 4,dO 5,dO 6] 56 7,jV [gJ,b0 1,lu 2,hy,fu,t,t,t,t] [kC,jR,lu 7,b0 8,hC,t,t,t,t] [b3 524288 524288 11 10 10] [gK,aJ 1,an 262144,hA,fv,kF,jS,e3 262144,aJ 8,hD] 268 10,jV [ah,ax,ba,b4,a2,t,t,t,t] [gQ,iX,jP,dP 8,dP 9,t,t,t,t] [b3 35184372088832 35184372088832 11 10 10] [J,ag,af,aW,aw,dW,h4,i2,cI 8,cI 9] 268 10,jV [gJ,b0 1,lu 2,hy,fu,t,t,t,t] [kC,jR,lu 7,b0 8,hC,t,t,t,t] [fg [cC,de,az 524288 12,bj 13,dj,o,o,o,o] [gG,jz,ad 524288 12,aJ 13] 14] [gK,aJ 1,an 262144,hA,fv,kF,jS,e3 262144,aJ 8,hD] 152 10,fY [t,dA 2 0 p,bb] [dF,l] [e6 [eT] [] 1,fo [jX 2097152 1] [] (aG 2097152 1) 2,e6 [[dF,l]] [] 1] (aG 2 0) 269 1,fY [t,dA 2 0 p,bb] eT [e6 [eT] [] 1,fo [jX 2097152 1] [] (aG 2097152 1) 2] (aG 2 0) 269 1,fY [t,dA 2 1 p,bb] (jX 1073741824 0) [cJ [jX 1075838976 2] [⟨2097150,[bz 1073741824 0,bz 2 1,aK 1075838976 2]⟩] [] (aG 1075838976 2) 3] [eh,cX 2] 269 2,bC [gJ,b0 1,lu 2,hy,fu,t,t,t,t] [gK,aJ 1,an 262144,hA,fv] 153 5 (b3 10485759 10485759 6 5 5),bC [bH,f6,kg,dE bA,dE dZ,t,t,t,t] [I,a1,b1,bA,dZ] 153 5 (b3 10485759 10485759 6 5 5),ec (eI 5) [aY,ac,dU,di,f9,t,t] [bn 1 253 1 253 [g,j,g,g,g,r,r] 7 6 6,b8 [kG,bp,aU 8,iZ,lz,o,o] [kH,bI,bs 8,i1,lA] 11] [aF,P,cD,cS,ga,dx 5] 75 6,cl [(4,i),(8,i)] [eA bR,eo ax b4 a2 gQ t t 2] [cx (lm (-1) 6) (j7 (-1) 6) 7] [cs,ag,aB,aW,aw,dW] 270 6 7 8 8 7 8,gz (eA bR) (eo ax b4 a2 gQ t t 2) [gs 6,fM 6] [cs,ag,aB,aW,aw,dW] 157 6,g7 [lZ aY ac dU di f9 t t,fD hw gT [ae,ae] 7,b7 bR 8,a0 9] [bn 250 253 250 253 [g,j,g,g,g,r,r] 11 10 10,be [bY 10,iN,jx,aU 13,g,o,r] [dT 4 9] [bF 10,h0,jy,bs 13] 14] [aF,P,cD,cS,ga,aH,bP,gR,bW 8,ft] 79 10,g7 [lZ aY ac dU di f9 t t,fD hw gT [ae,ae] 7,b7 bR 8,a0 9] [bn 250 253 250 253 [g,j,g,g,g,r,r] 11 10 10,b8 [bY 10,iN,jx,aU 13,g,o,r] [bF 10,h0,jy,bs 13] 14] [aF,P,cD,cS,ga,aH,bP,gR,bW 8,ft] 79 10,dr (j8 [ar,al,ar,ar,al,bl,bl] 0) bJ (.agg [hz,a0 3,fu,kC,jR,t,t,eu 6 7,hh,kN,hC,a0 10,kk,b0 12,b0 13,t,t,a0 14,a0 15,g5 gy [ae,ae],gE,dy 7 bN 16,dy 7 bR 17]) [ha [bY 18,aD 19,aU 20,aU 21,g,o,r,jg 1 (dN 6 7),r,a3,g,j,g,g,g,r,r,j,j,l,g,e1 1 7 bN 16,e1 1 7 bR 17] [aL 1073741824 0,cA 4 (aK 6 7)] [bF 18,lE,bs 20,bs 21] 22,ha [b5,aQ,cj,iY,jT,o,o,a6 6 7,ai,aD 18,aU 19,aD 20,aU 21,bj 22,bj 23,o,o,cV 24,aD 25,l,aA 26,e1 1 7 bN 16,bE 7 bR 17] [bm (cQ 6) (lT 23),bm (cQ 5) (lT 22),iz 4096 21 (cQ 4),iz 4096 19 (cQ 2)] [aX 18,bs 19,aX 20,bs 21,aJ 22,aJ 23,cR 24,aX 25,aT 26] 27,ha [b5,aQ,cj,iY,jT,o,o,a6 6 7,ai,a3,b5,aQ,cj,iY,jT,o,o,cV 18,aD 19,fk [ae,fX] 20,aA 21,e1 1 7 bN 16,bE 7 bR 17] (a5 1073741824 0) [cR 18,lE,aV 20,aT 21] 22] [eh,ay,hB,aR,fv,kF,jS,e3 6,ck,hD,f7,jz,aJ 12,aJ 13,iO,km,iQ 16,iQ 17] 35 18,dr (j8 [ar,al,ar,ar,al,bl,bl] 0) bJ (.agg [hz,a0 3,fu,kC,jR,t,t,a0 7,t,kN,hC,a0 10,kk,b0 12,b0 13,t,t,a0 14,a0 15,f5 [ae,ae] 16,gH 17,j8 bN 18,j8 bR 19]) [fg [bj 20,aD 21,bj 22,bj 23,bj 24,o,o,aD 25,o,a3,bj 26,aD 27,bj 28,bj 29,bj 30,o,o,aD 31,aD 32,l,fh 33,fl 1073741825 34,bE 1073741825 bR 35] [aJ 20,aX 21,aJ 22,aJ 23,aJ 24,aX 25,aJ 26,aX 27,aJ 28,aJ 29,aJ 30,aX 31,aX 32,dO 33,ad 1073741825 34,ad 1073741825 35] 36,fg [b5,aQ,cj,iY,jT,o,o,bp,ai,aD 20,aU 21,aD 22,aU 23,bj 24,bj 25,o,o,cV 26,aD 27,l,aA 28,e1 1 1073741824 bN 18,bE 1073741824 bR 19] [aX 20,bs 21,aX 22,bs 23,aJ 24,aJ 25,cR 26,aX 27,aT 28] 29,fg [b5,aQ,cj,iY,jT,o,o,bp,ai,a3,b5,aQ,cj,iY,jT,o,o,cV 20,aD 21,fk [ae,fX] 22,aA 23,e1 1 1073741824 bN 18,bE 1073741824 bR 19] [cR 20,aX 21,aV 22,aT 23] 24,gA [b5,aQ,cj,iY,jT,o,o,bp,o,a3,dj,ee,de,bj 12,bj 13,o,o,jA,aD 15,fk [p,p] 16,fh 17,fl 1073741824 18,bE 1073741824 bR 19] 20] [eh,ay,hB,aR,fv,kF,jS,bI,ck,hD,f7,jz,aJ 12,aJ 13,iO,km,aV 16,dO 17,dO 18,dO 19] 35 20,dr (fp [(I,1)] [ar,al,ar,ar,al,bl,bl]) bJ (eo hz fu kC jR t t 3) [dq hv [g,j,g,g,g,r,r,j,j,l,g,l] 7,eb (aD 15) [jM,a3,iZ,cC,g,o,o,cV 11,cc,l,aA 13,eB 14] [⟨1,[(I,6),kT,kS,kR,kQ,aK 6 14]⟩,⟨4090,[(I,6),kT,kS,kR,kQ,kn]⟩,⟨4090,[(I,6),kT,kS,kR,kQ,mJ 9]⟩,⟨247,[(I,6),kT,kS,kR,kQ,kP]⟩,⟨4093,[(I,3),dK 2,dK 4,dK 5,dK 6,kn]⟩,⟨250,[(I,3),dK 2,dK 4,dK 5,dK 6,kP]⟩,⟨4095,[(I,1),cQ 2,cQ 4,cQ 5,cQ 6,kn]⟩,⟨252,[(I,1),cQ 2,cQ 4,cQ 5,cQ 6,kP]⟩,kM 2,kM 4,aL 6 14] [jN,ck,i1,gG,cR 11,gF,ko,ad 6 14,km] 16,be [jM,a3,iZ,cC,g,o,o,cV 11,cc,fk [ae,fX] 13,aA 14,eB 15] [⟨4090,[(I,6),kT,kS,kR,kQ,kn]⟩,⟨247,[(I,6),kT,kS,kR,kQ,kP]⟩,⟨4093,[(I,3),dK 2,dK 4,dK 5,dK 6,kn]⟩,⟨250,[(I,3),dK 2,dK 4,dK 5,dK 6,kP]⟩,⟨4095,[(I,1),cQ 2,cQ 4,cQ 5,cQ 6,kn]⟩,⟨252,[(I,1),cQ 2,cQ 4,cQ 5,cQ 6,kP]⟩,kM 2,kM 4,fb [(I,1)],aL 6 15] [jN,ck,i1,gG,cR 11,gF,aV 13,aT 14,ad 6 15] 16] [I,ay,hB,aR,fv,kF,jS] 12 7,cp (eo jR (b0 8) hC kl t t 7) [c6,bc,aO,fP,fO,a9,l] [eG hv [[c6,bc,aO,fP,fO,a9,l]] [g,j,g,g,g,r,r,j,j,l,g,l] [] [] 11,hG (aD 19) 6 [lB,cc,aU 13,bj 14,g,o,o,cV 15,aD 16,l,aA 17,eB 18] (a5 6 18) [lC,gF,bs 13,aJ 14,cR 15,lF,aT 17,ad 6 18,lE] 20 18,hG j 6 [lB,cc,aU 13,bj 14,g,o,o,cV 15,aD 16,fk [ae,fX] 17,aA 18,eB 19] (a5 6 19) [lC,gF,bs 13,aJ 14,cR 15,lF,aV 17,aT 18,ad 6 19] 20 19] [I,ay,aB,fx,fw,aH,jS,bI,aJ 8,hD,gG] 67 11,cp (eo (b0 7) hC kl kk t t 8) (ka 60 6) [hG hv 60 [g,j,g,g,g,r,r,j,j,l,g,l] [] [] 12 6,hG (aD 20) 66 [jx,c3,aU 14,bj 15,g,o,o,cV 16,kp,l,aA 18,eB 19] [bO 6 60 66 6 21,df 60 66 6 21,aL 66 21] [jy,iL,bs 14,aJ 15,cR 16,kq,aT 18,ad 6 19,aX 20,ad 66 21] 22 21,hG j 66 [jx,c3,aU 14,bj 15,g,o,o,cV 16,kp,fk [ae,fX] 18,aA 19,eB 20] [bO 6 60 66 6 21,df 60 66 6 21,df 6 66 20 21,aL 6 20] [jy,iL,bs 14,aJ 15,cR 16,kq,aV 18,aT 19,ad 6 20,ad 66 21] 22 21] [I,ay,aB,fx,fw,aH,ez 60,kO,ck,hD,gG,jz] 67 12,bL cg [g6 j [ns 0,dT 200 0] [] 1,cx (a7 260 261 1) (cL 260 261 1) 2] 36 ao,bq [U,aj] [et ai [U,aj] 2,cK r [[U,aj]] [hd (I,1) aE] [] 2] [I,P] 147 2,bM [[U,aj]] [(0,[gf [(0,[C,i])] [] [d0 0 0,eC,d6,dM] 0 0])] [bb,g1 271] [aP,bG] [cK ch [[U,cv [eg,gU]]] [du (I,1) aE fy] dt 3] [I,P] 261 2,eD [[U,aj]] c4 [aP,bG] [bD ch ai [U,cv [eg,gU]] [du (I,1) aE fy,iB 2] dt 3,bD g r [U,aj] [] [] 2] 159 I,cY 262,jq [[U,aj]] [bb,jW 2] [aP,bG] [et r [U,aj] 3,cK ai [[U,jg 1 (hM 1)]] [hd (I,1) aE] [] 3] [I,P,an 255] 148 3,nr 347 (gk ai (da (-9) 255 0) 1),bM [[U,aj]] [(0,[⟨[(2,C),(3,aa),iT],[(0,[C,i])],[fz 0 0,eC,d6,dM],bS 0 0 4⟩,⟨[(2,C),(3,aa),(4,mC 5 (m8 9))],[(0,[C,i])],[d0 0 0,eC,d6,dM,bS 0 1 4],bS 0 0 4⟩])] c4 [aP,bG] [bD g r [U,hm 2] [bm aE gU,it fy] dt 3,bD iA ai [U,hW 2 3] [g3 2 3,i6 2 3] [ix,eP 2 3] 4] [I,P] 272 2,eD [[U,aj]] c4 [aP,bG] [bD ch o [U,hm 3] [kv 3,bm aE jU] [b1,bA] 4] 160 I,cl [(2,aa),(8,i)] [j6 ah ax (b7 [p,p] 2)] [kW,kV] [J,ag,ei] 273 3 7 8 8 7 8,cl [(4,aa),(9,i)] [j6 ah ax (b7 [p,p] 2),kX] [e0,fr] [J,ag,ei,c9] 161 4 8 9 9 8 9,dd [ah,ax,b7 [p,p] 2] [kW,kV] [J,ag,ei] 81 3,bM [[U,aj]] [(0,[gf [(0,[C,i])] [] [d0 0 0,eC,d6,dM] 0 0])] [bb,g1 354] [aP,bG] [cK ch [[U,cv [eg,gU]]] [du (I,1) aE fy] dt 3] [I,P] 274 2,bM [[U,aj]] [(0,[gf [(0,[C,i])] [] [d0 0 0,eC,d6,dM] 0 0])] [bb,g1 284] [aP,bG] [cK ch [[U,cv [eg,gU]]] [du (I,1) aE fy] dt 3] [I,P] 274 2,cY 275,bq [U,aj] [bD (cn 4) j [U,cv [eg,bz 4 2]] [ex 4,du (I,1) aE (aK 4 2)] (aG 4 2) 3,bD g jK [U,aj] [] [] 2] [I,P] 393 2,eD [[U,aj]] c4 [aP,bG] [bD j r [U,aj] [] [] 2,bD aO ai [U,jg 6 (hM 1)] [jn (-6) (I,1) aE] [aB] 3] 410 I,eD [[U,aj]] c4 [aP,bG] [dm (hK 0 .u8 (dN 255 2)) [U,aj] (aG 255 2) 3] 412 I,eD [[U,aj]] c4 [aP,hd (I,1) aE] [bD g (a7 7 130 2) [U,hW 1 3] [] [⟨2,7,130⟩,eP 1 3] 4,bD (cn 4) j [U,hW 2 3] [du aE (aK 4 2) (lU 2 3),g3 2 3,ex 4] [an 4,eP 2 3] 4] 394 I,bM [[U,aj]] [(0,[gf [(4,[kf,.nils]),(0,[C,i])] [(2,C),(3,i)] [fz 0 0,eC,d6,dM] 0 0,gf [(4,[.self,dn]),(0,[C,i])] [(2,C),(3,i)] [d0 0 0,eC,d6,dM,eQ 0 1 4 1] 0 0])] c4 [aP,hd (I,1) aE] [bD iA j [U,hW 2 3] [g3 2 3,i6 2 3,ju 2 (I,1)] [ix,eP 2 3] 4,bD g (a7 7 130 2) [U,hW 1 3] [] [⟨2,7,130⟩,eP 1 3] 4] [I,P] 355 2,jq [[U,aj]] [bb,dU] [aP,bG] [et r [U,aj] 3,cK ai [[U,jg 1 (hM 1)]] [hd (I,1) aE] [] 3] [I,P,cD] 395 3,jq [[U,aj]] [bb,a0 2] [aP,bG,lP 2,bm eg kY] [cJ [[U,hm 3]] [bm kY jU,kv 3] [] [bA] 4] [I,P,aB] 396 3,eD [[U,aj]] c4 [aP,bG] [bD g r [U,hm 2] [] dt 3,bD ch ai [U,cv [eg,gU]] [iB 2,du (I,1) aE fy] dt 3] 356 I,eD [[U,aj]] c4 [aP,bG] [cJ [[U,cv [(I,1)]]] [fG I eg] [fm 1,hk,aM] [] 2,cJ [[U,hW 2 3]] [i6 2 3,g3 2 3,ju 2 (I,1)] [fm 3,.ce iA,aM] [ix,eP 2 3] 4,fo [[U,hW 1 3]] [fm 3,hk,ed 7 130 2] [⟨2,7,130⟩,eP 1 3] 4,fo [[U,hm 2]] [aM,hk,fm 130] dt 3,cJ [[U,cv [eg,gU]]] [iB 2,du (I,1) aE fy] [fm 4,.ce ch,aM] dt 3,cJ [[U,cv [eg,bz 5 2]]] [du (I,1) aE (aK 5 2),ex 5,jn (-4) eg (bz 5 2)] [fm 5,.ce (cn 5),aM] (aG 5 2) 3,cJ [[U,jg 1 (hM 1)]] [hd (I,1) aE,ex 4] [fm 2,.ce (cn 4),aM] (aG 4 2) 3] 276 I,dd [cg,ax,a0 2] [kV,kW] [ao,ag,aB] 358 3,bL aY [cx aj [P] 2] 399 aF,r392,cq (bd [(5,aa),(11,i)] 10 11 11 11 10 11) [e2 ax 0 2 3,a2] [gr ai [a9,jL,ep 7,hR 8 ca] [aH,dY,fs,cU] 9,dq r [j,g,l,l] 5] [ao,ag,ei,c9,aw] 180 5,cp ac [eZ] [fo [[aO]] [] [aB] 3] [ao,P] 281 2,cp (cz ac ba kX (jt 4)) [eZ] [cK (hV dW) [[aS]] [j4 af (dW,-1)] [dW,bP] 7] [ao,P,af,c9,ia] 166 5,fY [bb,cz ac ba kX (jt 4),gQ] [eZ] [dm jL [bp] [dY,bI] 8] [ao,P,af,c9,ia,dW] 164 6,fd (e2 ax 0 2 3) [cx (a6 2147483648 4) [ia] 5] [ao,ag,ei,c9] 282 4,fY [bb,cz ac ba kX (jt 4),gQ,gT,a0 7] [eZ] [jk [[a3]] [j,g,l,l] [] [ck] 9,jk [[j]] [aS,gg,ep 9,hR 10 ca] [] [cU,h6,lD] 11] [ao,P,af,c9,ia,dW,bP,bI] 165 8,gm [[eZ]] [(0,[c1 [(0,[i])] [fi 9,(21,i)] [aq 21 21] 20 9,c1 [(0,[i])] [(9,bi c2 351 3),(21,i)] [ab 21 9,bS 10 3 9] 20 9])] [bb,cz ac ba kX (jt 4),gQ,t] [dm (eW c2 6) [bp] [dY,bI] 8] [ao,P,af,c9,ia,dW] 167 6,cp (cz ac ba kX (jt 4)) [eZ] [jk [[iN]] [aA 5,jL,ib,gg,eW c2 9,eW c2 10] [] [gd,dY,fs,cU,h6,lD,h0] 12] [ao,P,af,c9,ia] 168 5,bU [(2,[cF [(5,[C,lG,.td bu,.nils]),(4,[i])] [fz 5 5,a4 5 5,aN 40 40,aq 40 40] 40 39 40,cF [(5,[C,.nils,.td bu,.nils]),(4,[i])] [bB 40 5 1,a4 5 5,bS 5 3 40] 40 39 40,cF [(5,[C,.nils,.td bu,bi [p,p,p,p,bu,bu] 160 6]),(4,[i])] [bB 40 5 3,a4 5 5,ab 39 40] 40 39 40,cF [(5,[C,lG,.td bu,bi [p,p,p,p,bu,bu] 160 6]),(4,[i])] [bB 40 5 3,fz 5 5,a4 5 5,ab 38 40] 40 39 40]),(0,[cF [(5,lc C .nils),(4,[i])] [a4 5 5,bS 5 3 21,aq 21 21] 21 20 21,cF [(5,lc C lG),(4,[i])] [bB 21 5 1,bB 20 5 1,a4 5 5,bS 5 1 21] 21 20 21])] [e2 ax 0 2 3] [dq (bZ 160) [g,l,l,l] 4,gr jI [g,l,l,l] [dh] 5,b8 [kB,ep 5,eW c2 6,eW [p,p,p,p,bu,bu] 7] [dZ,gd,dY,fs] 8] [ao,ag,ei,c9] 83 4,bg (bd [c8,(11,i)] 10 11 11 11 10 11) (en [(5,bi [p,p,p,p,.sl true 1048576 (.agg c2),.sl true 1048576 (.agg c2)] 160 6),(11,i)] 10 11 11 5 10 11) [cz ah (fj 1) (b7 c2 2) (b7 [p,p,p,p,bu,bu] 3),a2] [ej (jh (fL 0 5) [p,p,p,p,bu,bu]) (bm (li 3) (is 5)) [jO] 6] [J,jF,ei,c9,aw] 85 5,d9c,d9o,hn 89 (dB bc ai [ay] 2) (gi ak 1),bg (bd [(2,cP),(3,aa),(4,cP),(5,aa),(12,i)] 11 12 12 12 11 12) (bd [(2,cP),(3,aa),(4,cP),(5,fU),(12,i)] 11 12 12 12 11 12) [eA [p,p]] [dB bc r [ay] 2,dB bc ai [ay] 2] [cs] 88 1,b9 (c5 0) bJ [cx kw [gM] 3] 90 (cw 0) ay,bL bH [bh,b2] 344 I,bM [[U,aj]] [(0,[gf [(0,[C,i])] [(2,C),(3,aa)] [d0 0 0,eC,d6,dM] 0 0])] c4 [aP,bG] [bD g r [U,hm 2] [bm aE gU,it fy] dt 3,bD iA ai [U,hW 1 3] [du aE (aK 1048575 2) (lU 1 3),g3 1 3] [ix,eP 1 3] 4] [I,P] 263 2,la (jf 0 .i32 (hO (-2147483648) 2147483647 0)) [b2,bh] (j7 (-2147483648) 0) 349,cl [h7,(7,i)] [eA [p,p]] [cx (ep 1) [a1] 2] [cs] 265 1 6 7 7 6 7,bU [(0,[cb [(4,C),(5,aa),(12,i)] 11 12 12 11 12]),(2,[cb [(4,C),(5,aa),(19,i)] 18 19 19 18 19])] [eA [p,iK,jl [p,p]],cT] [dB ch ai dt 3,gi g 2] [cs,bo] 74 2,cl [(4,aa),(13,i)] [eA [al,p,p,al],b7 [al,p,p,al] 1] [dG,g6 ai [bm (li 0) (is 1),fS 2147483648 1 (is 0)] [] 2] [cs,jF] 14 2 12 13 13 12 13,dd [ah,ax,b7 [p,p] 2] [kW,kV] [J,ag,ei] 291 3,cp (a0 3) [U,ct,aO] [fo [[U,ct,jI]] [] [dh] 5] [I,a1,aB,aR] 292 4,gm [[U,ct,aO]] [(0,[c1 [(0,[C,C,i])] [c8,(10,i)] [fz 0 0,eC,d6,dM,aN 10 10,aq 10 10] 9 5,c1 [(0,[C,C,i])] [(5,lG),(10,i)] [fz 0 0,eC,d6,dM,ab 5 10,ab 10 5,ab 8 5] 9 5])] [bb,jt 3] [dm (jj (fL 0 3) p) [U,ct,jI] [dh] 5] [I,a1,aB,c9] 178 4,fY [bb,e2 a2 3 5 6,jP] [U,ct,aO] [dm gg [U,ct,gS] [cU,ft] 10] [I,a1,aB,aR,aw,jO,bW 6,i2] 177 8,cp (e2 a2 3 5 6) [U,ct,aO] [dm (bt 64 7 ca) [U,ct,a3] [gR,ck] 9] [I,a1,aB,aR,aw,jO,bW 6] 293 7,fY [bb,e2 a2 3 5 6,jP] [U,ct,aO] [dm (bt 64 8 ca) [U,ct,gS] [aV 8,ft] 10] [I,a1,aB,aR,aw,jO,bW 6,i2] 179 8,cp (lS (dE dZ) (fJ (kZ 5) p) (fJ (kZ 6) ca) 3) [U,ct,aO] [dm (bt 64 7 p) [U,ct,a3] [gR,ck] 9] [I,a1,aB,aR,dZ,gd,dY] 181 7,d1 1 100 1 100 [g,g,g,g,g,r,r] 366 2 1 1 (b8 [mj,cn 12270,az 4092 3,gj 4091,az 4091 5,o,o] [cX 4090,an 12270,cr 4092,g4 4091,ad 4091 5] 6),ec dU [aY,cT] [bn 1 100 1 100 [g,g,g,g,g,r,r] 4 3 3,b8 [az 4090 3,gj 12270,az 4092 5,az 4091 6,az 4091 7,o,o] [cr 4090,g4 12270,ad 4092 5,ez 4091,e3 4091] 8] [aF,bo,cD] 294 3,bC [ah,ax,ba,b4,a2,t,t] [J,ag,af,aW,aw] 295 5 (cE 87960930222087 87960930222087 [⟨7,[(J,1),(ag,1),(af,1),(aW,1),(aw,1),aK 87960930222087 5]⟩] 6 5 5),cp (e2 a2 3 5 6) [U,ct,aO] [dm (az 28641 7) [U,ct,a3] (bf 28641 7 ck) 9] [I,a1,aB,aR,aw,jO,bW 6] 182 7,cp (e2 a2 3 5 6) [U,ct,aO] [jk [[U,ct,ee]] [az 28641 7,bt 64 8 p,bt 64 9 p] [] [e3 28641,aV 8,aV 9,f7] 11] [I,a1,aB,aR,aw,jO,bW 6] 183 7,bU [(2,[cF [(5,[f3,f4,f4,bi [js,p,p] 281 3,.nils]),(4,[f1,f3,i])] [bB 77 5 4,em (eS 77) (cy 77) 5 4 5 4] 77 76 77,cF [(5,[f3,f4,f4,.nils,.nils]),(4,[f1,f3,i])] [bB 77 5 4,em (eS 77) (cy 77) 5 4 5 4] 77 76 77,cF [(5,[f3,f4,f4,.nils,bi [js,kr,kr] 283 3]),(4,[f1,f3,i])] [ab 76 77,bB 77 5 4] 77 76 77,cF [(5,[f3,f4,f4,bi [js,p,p] 281 3,bi [js,kr,kr] 283 3]),(4,[f1,f3,i])] [ab 76 77,bB 77 5 4] 77 76 77]),(0,[cF [(5,[f3,f4,f4,.nils,.nils]),(4,[f1,f3,i])] [bB 54 5 3,em (eS 54) (cy 54) 5 3 5 3] 54 53 54,cF [(5,[f3,f4,f4,bi [js,p,p] 281 3,.nils]),(4,[f1,f3,i])] [ab 53 54,aq 54 54,lx (cM 54) (br 5 3) 1] 54 53 54])] [lS f6 (fJ (kZ 2) p) (fJ (kZ 3) ca) 0] [dq (bZ 160) [g,l,l,l,l] 4,eb jI [g,l,l,l,l] [jr (-7) 0,dT 7 0] [dh] 5,be [gw 4,bt 256 5 p,bt 256 6 p,bE 4294967296 [js,p,p] 7,fk [js,kr,kr] 8] [jr (-7) 0,dT 7 0] [dV,ad 256 5,ez 256,e3 4294967296,aV 8] 9] [ao,a1,b1,bA] 97 4,d9d,cl [(4,aa),(13,i)] [eA bN,b7 bN 1] [dG,g6 ai [bm (li 0) (is 1),fS 2147483648 1 (is 0)] [] 2] [cs,jF] 51 2 12 13 13 12 13,jV [cg,ac,ba,b4,h5,hw,iX,jP,kN,t,c5 9,b7 bN 10] [a0 11,a0 12,dP 13,dP 14,a0 15,a0 16,dP 17,dP 18,a0 19,t,c5 20,b7 bN 21] [fM 22,g6 ai [bm (lJ 0) (k6 11),bm (li 10) (is 21),fS 2147483648 21 (is 10),bm (k6 0) (lJ 11)] [] 22] [ao,P,af,aW,dh,aH,h4,i2,ck,cw 9,bW 10,h0,gF,cI 13,cI 14,km,lF,cI 17,cI 18,lE,cw 20,bW 21] 19 22,d9q,cl [(4,aa),(9,i)] [eA [al,p,p,al],cz ac ba b4 h5] [gs 5,fM 5] [cs,P,af,aW,dh] 21 5 8 9 9 8 9,b9 bH f6 [e6 [] [.ce U,hk,lv] 2,fo [] [.ce ch,.ce (aA 3),lw] [b1,bA] 4] 61 I a1,bL cg [cx aj [P] 2] 240 ao,la (jf 0 .i32 (hO (-2147483648) 2147483647 0)) [b2,bh] (j7 (-2147483648) 0) 392,bL cg [b2,bh] 351 ao,bx (cW [(0,C)] [aN 0 0] 0) [ah,jc] [J,ho] 413 2 (cx iH [af] 3),bx (cW [(0,C)] [aN 0 0] 0) [ah,jc] [J,ho] 416 2 (cx iH [af] 3),cY 431,gm [[jb 0]] [(0,[cF [(5,[kf,.nils]),(1,[kd])] [aN 10 10,cB 10] 10 9 10,cF [(5,[.self,dn]),(1,[kd])] [ab 9 10,iq 147457 10 5 1] 10 9 10])] [g2 16385 1,l0 c4 343] [dm (cn 2416082945) [jb 3] [an 2416082945,cr 110] 4] (eE 110 (cX 16385)) 289 2,dd [dJ 0,ac,j5 4096 2,gE,gE,hh,hh] [bn 1 110 1 110 [g,g] 4 3 3,b8 [az 3 3,gj 4088] [cr 3,g4 4088] 5] [bF 0,P,jJ] 254 3,dd [aY,cT] [bn 1 110 1 110 [g,g] 3 2 2,b8 [cn 3,az 4088 3] [an 3,cr 4088] 4] [aF,bo] 138 2,r442,bM [[U,aj]] [(0,[gf [(0,[C,i])] [] [d0 0 0,eC,d6,dM] 0 0])] [bb,g1 262] [aP,bG] [cK ch [[U,cv [eg,gU]]] [du (I,1) aE fy] dt 3] [I,P] 261 2,eD [[U,aj]] c4 [aP,bG] [cJ [[U,hm 2]] [bm aE gU,it fy] [] dt 3] 146 I,lQ [bH] [eK [] [(6,[C,C,.nils]),(12,[C,i])] [(3,i),(7,aa),(8,aa)] [],eK [] [(6,[C,C,.nils]),(12,[C,i])] [(3,i),(7,aa),(8,fU)] [],eJ 2 [ic 12,br 6 2] [(6,[C,C,.nils]),(12,[C,i])] [(3,i),(7,fU),(8,fU)] [fz 12 12,lX 12 12,b6 12 12,fz 6 6,a4 6 6,b6 6 6,em (el 12 0) (br 12 0) 6 2 6 2],eK [] [(6,[C,C,bi [p,p] 61 2]),(12,[C,i])] [(3,i),(7,aa),(8,f0)] [],eJ 2 [ic 12,br 6 2] [(6,[C,C,bi [l6,p] 61 2]),(12,[C,i])] [(3,i),(7,f0),(8,f0)] [d0 12 12,eQ 12 1 6 2,eQ 12 1 6 1,lW (el 6 0) (el 12 0) (br 6 0) 12 0,a4 6 6,b6 6 6]] [dq ls [g,g,l] 1,b8 [ct,ch,eW [l6,p] 3] [a1,b1,bA] 4] eF 80 1,bM [[U,aj]] [(0,[gf [(0,[C,i])] [] [d0 0 0,eC,d6,dM] 0 0])] [bb,g1 275] [aP,bG] [cK ch [[U,cv [eg,gU]]] [du (I,1) aE fy] dt 3] [I,P] 274 2,r447,d8W,dd [gJ,ac,hz,hy,fu,t,t,hw,gT,f5 [ae,ae] 7,eI 8,b7 bN 9] [gr ee [g,l,l,l] [f7] 11,b8 [aA 10,ep 11,eW c2 12,eW [p,p,p,p,bu,bu] 13] [lD,aT 11,ks,ko] 14] [gK,P,hB,hA,fv,aH,bP,gR,dx 8,bW 9] 37 10,cl [(4,i),(8,i)] [fj 0,g1 344] [cx (lm (-1) 1) (j7 (-1) 1) 2] [cs] 84 1 7 8 8 7 8,gz (fj 0) (g1 344) [b2,bh] [cs] 40 1,bg (gf [(5,[C,i])] [h7,(3,aa),iT] [d0 5 5,db [ji 1 5 1],a4 5 5] 5 5) (gf [(5,[C,i])] [h7,(3,aa),(4,bi [p,p] 61 2)] [d0 5 5,a4 5 5,bS 5 1 4] 5 5) [bH] [gi l 1,dB (eW [p,p] 1) ai [a1] 2] eF 87 1,bC [cg,ac,f5 [ae,ae] 2] [ao,P,eU] 42 3 (gW 86400 [o,e5 3] 4 3),bC [cg,ac,f5 [ae,ae] 2] [ao,P,eU] 42 3 (gW 86400 [o,e5 3] 4 3),bL bH [bh,b2] 256 I,lQ [bH,f6] [eJ 1 (eL 8) [(7,[kf,.nils])] [(8,C),(9,fU),(4,C),(5,i)] [aN 8 8],eJ 1 (eL 8) [(7,[.self,.nils])] [(8,C),(9,fU),(4,C),(5,i)] [em (ff 4096 8) (dw (-4096) 8) 7 1 7 1],eJ 1 (eL 8) [(7,[.self,dn])] [(8,C),(9,fU),(4,C),(5,i)] [em (ff 4096 8) (dw (-4096) 8) 7 1 7 1],eK [] [(7,[.self,dn])] [(8,C),(9,aa),(4,C),(5,i)] [hX (br 7 1) 4096],eK [] [(7,[.self,.nils])] [(8,C),(9,aa),(4,C),(5,i)] []] [d7 5 230 5 230 3 2 2,dv (aU 2) 3 jJ] [I,a1] 143 2,cq (gv (bB 15 4 1) (ab 14 15) [(5,i),(15,i)] 14 15) [cz bH (fJ (kZ 1) p) (fp (gx 2) c2) (fp (gx 3) [p,p,p,p,bu,bu]),cf (dE gd) (dE dY) 4 7] [bn 230 271 230 271 [g,j,g,g,g,r,r] 9 8 8,be [bY 8,gS,lz,lB,jx,o,o] [k0] [bF 8,ft,lA,lC,jy] 13] [I,a1,b1,bA,dh,gd,dY,bI] 69 8,eD [[U,aj]] c4 [aP,bG] [eG ai [[U,hW 1 4]] [ch,aA 3] [du aE fy (lU 1 4),g3 1 4] [b1,bA,eP 1 4] 5,eG r [[U,hm 4]] [iA,aA 3] [du aE (aK 1048575 2) (k7 4),kv 4] [ix,bA,dZ] 5] 264 I,bM [[U,aj]] [(0,[eJ 1 [ic 0,br 6 2] [(6,[C,.nils,.nils]),(0,[C,i])] [(5,fU)] [fz 0 0,eC,d6,dM,eQ 0 1 6 0,a4 6 6,b6 6 6],eK [] [(6,[C,.nils,.nils]),(0,[C,i])] [(5,aa)] [fz 0 0,eC,d6,dM,eQ 6 2 6 0],eJ 1 [ic 0,br 6 2] [(6,[C,.nils,bi [iv,p] 61 2]),(0,[C,i])] [(5,fU)] [d0 0 0,eC,d6,dM,eQ 0 1 6 2,a4 6 6],eK [] [(6,[C,.nils,bi [iv,p] 61 2]),(0,[C,i])] [(5,aa)] [d0 0 0,d6,dM,eQ 0 1 6 2,a4 6 6]])] c4 [aP,bG] [eG ai [[U,hm 5]] [iA,ep 3,eW [iv,p] 4] [du aE (aK 1048575 2) (k7 5),kv 5] [ix,bA,dZ,gd] 6,eG r [[U,hm 5]] [iA,ep 3,eW [iv,p] 4] [] [ix,bA,dZ,gd] 6] [I,P] 149 2,bg (gf [(5,[C,i])] [h7,(3,i),iT] [d0 5 5,db [ji 1 5 1],a4 5 5] 5 5) (gf [(5,[C,i])] [h7,(3,i),(4,bi [iv,iK,jl [iv,p]] 235 3)] [d0 5 5,a4 5 5,bS 5 1 4] 5 5) [bH] [hT l 6 161 6 161 2 1 1,dv (eW [iv,iK,jl [iv,p]] 1) 2 a1] eF 73 1,r461,d8J,fd (cf cT dU 0 3) [e0,fr] [ao,bo,cD,aR] 30 4,gz (cf cT dU 0 3) f9 [dq hv [g,j,g,g,g,r,r] 5,b8 [kt,aQ,dc 4,g,g,r,r] [] 5] [ao,bo,cD,aR,ga] 141 5,fd (cf kK (gH 2) 0 3) [bn 5 8 5 8 [g,j,g,g,g,r,r] 5 4 4,b8 [fh 2,aQ,gj 22,aU 5,g,ai,r] (bf 22 4 kx) 6] [ao,kL,dO 2,aR] 66 4,b9 aY cT [dG,gL] 39 aF bo,mQ f9 bb [eZ,ct,ch,aQ] [et r [eZ,ct,ch,aQ] 5,et ai [eZ,ct,ch,aQ] 5] [ao,a1,b1,aR,ga] 38 5,gm [[eZ,ct,ch,aQ]] [(0,[cb [(4,i),(8,i)] 7 8 8 7 8])] [fj 4,.fn 38 [] c4] [dm (lm (-1) 5) [aS,ib,gg,gS] [⟨5,-1,2147483647⟩,bP,fs,cU,ft] 10] [ao,a1,b1,aR,ia] 84 5,mQ (fj 4) (.fn 38 [] c4) [eZ,ct,ch,aQ] [dm ai [a9,jL,ib,a3] [aH,dY,fs,ck] 9,dm r [a9,jL,ib,a3] [aH,dY,fs,ck] 9] [ao,a1,b1,aR,ia] 40 5,bU [(0,[en [fi 7,(16,i)] 15 16 16 7 15 16,dz [(7,bi (j0 1 4 g9 gu al) 29 4),(16,i)] [ab 15 16,aq 16 16,ab 1 7] 15 16]),(2,[dz [(7,bi (j0 1 4 g9 gu al) 29 4),(22,i)] [ab 21 22,cB 22,ab 1 7] 21 22,bd [fi 7,(22,i)] 21 22 22 22 21 22])] [cf ax ba 0 3,ip 64 [],dA 64 4 mO] [cN (d2 5) 64 6 5] [ao,ag,af,aR,aV 4] 86 5,bg (dz [c8,(11,i)] [ab 11 5] 10 5) (en [(5,lG),(11,i)] 11 5 10 5 10 5) [cz bH (fJ (kZ 1) p) (fp (gx 2) c2) (fp (gx 3) [p,p,p,p,bu,bu]),cf (dE gd) (dE dY) 4 7] [cN (d2 8) 64 9 8] [I,a1,b1,bA,dh,gd,dY,bI] 41 8,fd (cf cT dU 0 3) [dq hv [g,j,g,g,g,r,r] 4,b8 [kt,aQ,gj 27,g,g,r,r] (aG 27 4) 5] [ao,bo,cD,aR] 68 4,fd (cf cT dU 0 3) [dq hv [g,j,g,g,g,r,r] 4,b8 [kt,aQ,gj 1,g,g,r,r] (aG 1 4) 5] [ao,bo,cD,aR] 71 4,ec (cf iX jP 5 8) [bH,dA 4294967296 1 p,dA 4294967296 2 p,dy 4294967296 [p,p,p] 3,dy 4294967296 [p,mO,mO] 4] [cN (d2 9) 64 10 9] [I,cX 4294967296,an 4294967296,cr 4294967296,g4 4294967296,aH,h4,i2,ck] 98 9,ec (cf iX jP 5 8) [ah,fj 1,fj 2,b7 [p,p,p] 3,b7 [p,iK,iK] 4] [cN (d2 9) 64 10 9] [J,jF,ei,c9,ia,aH,h4,i2,ck] 98 9,ec (cf (hl 11) (dJ 12) 10 13) [gJ,ac,hz,hy,fu,t,t,hw,gT,f5 [ae,ae] 7,eI 8,b7 bN 9] [bn 160 270 160 270 [j,g,g,j,l,j,r,ak,l] 15 14 14,eb jA [j,g,g,j,l,j,r,ak,l] [k1,dT 200 6] [iO] 15,be [jA,aA 15,aA 16,kp,d2 18,j,o,e5 19,l] [k1,dT 200 6] [iO,aT 15,aT 16,kq,aV 18,fZ 19] 20] [gK,P,hB,hA,fv,aH,bP,gR,dx 8,bW 9,f7,dC 11,bF 12,iL] 13 14,ec (cf (dE (aT 11)) (dE ks) 10 13) [gJ,ac,hz,hy,fu,t,t,hw,gT,f5 [ae,ae] 7,dE cU,fp (gx 9) bN] [bn 160 270 160 270 [j,g,g,j,l,j,r,ak,l] 15 14 14,eb jA [j,g,g,j,l,j,r,ak,l] [k1,dT 200 6] [iO] 15,be [jA,aA 15,aA 16,kp,d2 18,j,o,e5 19,l] [k1,dT 200 6] [iO,aT 15,aT 16,kq,aV 18,fZ 19] 20] [gK,P,hB,hA,fv,aH,bP,gR,cU,h6,f7,aT 11,ks,iL] 13 14,bq [c6,bc,aO,fP,fO,a9,l] [j9 [[c6,bc,aO,fP,fO,a9,l]] [j,g,g,j,l,j,r,ak,l] [] (cL 5 8 6) 7 (ed 5 8 6),es 6 [j,g,g,j,l,j,r,ak,l] (a5 6 7) [bP,e3 6] 8 7 (.ce aS),eM ai (kb 6 6) [j,g,g,j,l,j,r,ak,l] (a5 6 6) (aG 6 6) 7 (fm 261),es 6 [aS,ib,gg,gS,lH,j,o,e5 11,l] (a5 6 12) [bP,fs,cU,ft,lI,fZ 11,ad 6 12] 13 12 aM] [I,ay,aB,fx,fw,aH] 31 6,bq (ka 40 6) [es 46 [j,g,g,j,l,j,r,ak,l] [bO 6 40 46 6 8,df 40 46 6 8] [nj 270 7,e4 46] 9 8 (ed 5 270 7),es 46 [j,g,g,j,l,j,r,ak,l] [bO 6 40 46 6 8,df 40 46 6 8] [bI,e4 46] 9 8 (.ce bp),eM ai (kb 46 7) [j,g,g,j,l,j,r,ak,l] [bO 6 40 46 6 7,df 40 46 6 7] (aG 46 7) 8 (fm 261),es 46 [bp,gg,aA 9,ee,d2 11,j,o,jB,l] [bO 6 40 46 6 13,df 40 46 6 13] [bI,cU,h6,f7,aV 11,jC,hH 46] 14 13 aM] [I,ay,aB,fx,fw,aH,ez 40] 31 7,cp (eo jR (b0 8) hC kl t t 7) [c6,bc,aO,fP,fO,a9,l] [eG hv [[c6,bc,aO,fP,fO,a9,l]] [j,g,g,j,l,j,r,ak,l] [] [] 11,hG iN 6 [j,g,g,j,l,j,r,ak,l] [] [h0,ad 6 12] 13 12,hG j 6 [iN,aA 12,aA 13,jA,d2 15,j,o,e5 16,l] [] [h0,ks,ko,iO,aV 15,fZ 16,ad 6 17] 18 17] [I,ay,aB,fx,fw,aH,jS,bI,aJ 8,hD,gG] 70 11,cp (eo (b0 7) hC kl kk t t 8) (ka 60 6) [hG (a7 8 270 12) 66 [j,g,g,j,l,j,r,ak,l] [bO 6 60 66 6 13,df 60 66 6 13] [⟨12,8,270⟩,hH 66] 14 13,hG cc 66 [j,g,g,j,l,j,r,ak,l] [bO 6 60 66 6 13,df 60 66 6 13] [gF,hH 66] 14 13,hG j 66 [cc,aA 13,aA 14,aD 15,d2 16,j,o,e5 17,l] [bO 6 60 66 6 18,df 60 66 6 18] [gF,ko,aT 14,km,aV 16,fZ 17,ad 66 18] 19 18] [I,ay,aB,fx,fw,aH,ez 60,kO,ck,hD,gG,jz] 70 12,bq [c6,bc,aO,fP,fO,a9,l] [j9 [[c6,bc,aO,fP,fO,a9,l]] [j,g,g,j,l,j,r,ak,l] [] [] 6 (fm 8),es 12 [j,g,g,j,l,j,r,ak,l] (a5 12 7) [bP,e3 12] 8 7 (.ce aS),es 12 [aS,ib,gg,gS,lH,j,o,e5 11,l] (a5 12 12) [bP,fs,cU,ft,lI,fZ 11,ad 12 12] 13 12 aM,eM ai (kb 6 6) [j,g,g,j,l,j,r,ak,l] (a5 6 6) (aG 6 6) 7 (fm 261)] [I,ay,aB,fx,fw,aH] 32 6,bq (ka 40 6) [es 52 [j,g,g,j,l,j,r,ak,l] [bO 12 40 52 6 8,df 40 52 6 8] [⟨7,8,271⟩,e4 52] 9 8 (ed 8 271 7),es 52 [j,g,g,j,l,j,r,ak,l] [bO 12 40 52 6 8,aL 52 8] [bI,e4 52] 9 8 (.ce bp),es 52 [bp,gg,aA 9,ee,d2 11,j,o,jB,l] [bO 12 40 52 6 13,aL 52 13] [bI,cU,h6,f7,aV 11,jC,hH 52] 14 13 aM,eM ai (kb 46 7) [j,g,g,j,l,j,r,ak,l] [bO 6 40 46 6 7,aL 46 7] (aG 46 7) 8 (fm 261)] [I,ay,aB,fx,fw,aH,ez 40] 32 7,bq [c6,bc,aO,fP,fO,a9,l] [j9 [[c6,bc,aO,fP,fO,a9,l]] [j,g,g,j,l,j,r,ak,l] [] [] 6 (fm 8),es 12 [j,g,g,j,l,j,r,ak,l] (a5 12 7) [bP,e3 12] 8 7 (.ce aS),es 12 [aS,ib,gg,gS,lH,j,o,e5 11,l] (a5 12 12) [bP,fs,cU,ft,lI,fZ 11,ad 12 12] 13 12 aM] [I,ay,aB,fx,fw,aH] 33 6,bq (ka 40 6) [es 52 [j,g,g,j,l,j,r,ak,l] [bO 12 40 52 6 8,df 40 52 6 8] [⟨7,8,270⟩,e4 52] 9 8 (ed 8 270 7),es 52 [j,g,g,j,l,j,r,ak,l] [bO 12 40 52 6 8,aL 52 8] [bI,e4 52] 9 8 (.ce bp),es 52 [bp,gg,aA 9,ee,d2 11,j,o,jB,l] [bO 12 40 52 6 13,aL 52 13] [bI,cU,h6,f7,aV 11,jC,hH 52] 14 13 aM] [I,ay,aB,fx,fw,aH,ez 40] 33 7,dr (fp [(I,1)] [ar,al,ar,ar,al,bl,bl]) bJ (cf (hl 3) (dJ 4) 2 5) [bn 5 8 5 8 [j,g,g,j,l,j,r,ak,l] 7 6 6,eb bp [j,g,g,j,l,j,r,ak,fl 24 6] (a5 24 6) (bf 24 6 bI) 8,be [aS,ib,gg,gS,lH,a7 1 3 11,o,jB,fl 24 13] (a5 24 13) [bP,fs,cU,ft,lI,⟨11,1,3⟩,jC,hH 24] 14] [I,ay,aB,fx,fw,aH] 11 6,lj (lb 0 c0) bJ [dG,gL] (eE 9223372036854775807 ay) 3,b9 (jo 0 c0) bJ [dG,gL] 3 cs ay,jV [gJ,ac,hz,hy,fu,t,t,hw,gT,f5 [ae,ae] 7,dD 68719476736 8,b7 bN 9] [dD 68719476736 10,dD 68719476736 11] [bn 160 280 160 280 [j,g,l,l] 13 12 12,eb cc [j,g,l,l] [k1,dT 200 6] [gF] 13,be [jK,aA 12,ep 13,hR 14 ca] [k1,dT 200 6] [ks,ko,aT 14] 15] [gK,P,hB,hA,fv,aH,bP,gR,e4 68719476736,bW 9,ad 68719476736 10,ad 68719476736 11] 176 12,dr (fp [(I,1)] [ar,al,ar,ar,al,bl,bl]) bJ (.agg [kg,dE bA]) [eM (a7 1 110 4) [] [j,g,l,l] [] (cL 1 110 4) 5 (.agg [g,j,g,g,g,r,r,j,j,l,g,l]),eM a9 [] [j,g,l,l] [k0,aL 6 4] (bf 6 4 aH) 6 (.agg [g,j,g,g,g,r,r,j,j,l,g,eB 4]),fQ [] [j,g,l,l] [k0,aL 6 10] [fq,aH,bs 6,kO,cR 8,h6,ad 6 10] 11 (.agg [aU 4,a9,aU 6,dk,g,o,o,cV 8,ls,l,aA 9,eB 10]) aM,fQ [] [jK,kB,ep 5,hR 6 ca] [k0,aL 6 13] [dZ,gd,dY,jN,ck,i1,gG,cR 11,ks,hH 6] 14 (.agg [jM,a3,iZ,cC,g,o,o,cV 11,ls,l,aA 12,eB 13]) aM,fQ [] [j,g,l,l] [k0,aL 6 11] [fq,aH,bs 6,kO,cR 8,aV 9,lD,ad 6 11] 12 (.agg [aU 4,a9,aU 6,dk,g,o,o,cV 8,ls,fk [ae,fX] 9,aA 10,eB 11]) aM,fQ [] [jK,kB,ep 5,hR 6 ca] [k0,aL 6 14] [dZ,gd,dY,jN,ck,i1,gG,cR 11,aV 12,ko,ad 6 14] 15 (.agg [jM,a3,iZ,cC,g,o,o,cV 11,ls,fk [ae,fX] 12,aA 13,eB 14]) aM] [I,ay,b1,bA] 96 4,dr (fp [(I,1)] [ar,al,ar,ar,al,bl,bl]) bJ (cf (hl 3) (dJ 4) 2 5) [bn 1 110 1 110 [j,g,g,j,l,j,r,ak,l] 7 6 6,eb bp [j,g,g,j,l,j,r,ak,eB 6] [fS 12573 3 kY,jr (-4) 2,dT 4 2,cO (aK 12573 3),da (-4) 12573 3,aL 6 6] (bf 6 6 bI) 8,be [kz,fP,fO,a9,d2 6,j,o,e5 7,eB 8] [fS 12573 3 kY,da (-4) 12573 3,jr (-4) 2,dT 4 2,da (-4) 12573 3,aL 6 8,cO (aK 12573 3)] [aV 6,fZ 7,e4 6] 9] [I,ay,aB,fx,fw,aH] 52 6,dr (fp [(I,1)] [ar,al,ar,ar,al,bl,bl]) bJ (cf (dE bA) (dE dZ) 2 5) [bn 1 110 1 110 [j,g,g,j,l,j,r,ak,l] 7 6 6,eb bp [j,g,g,j,l,j,r,ak,eB 6] [bm kY jU,jr (-4) 2,dT 4 2,cO (iy 3),cA (-4) jU,aL 6 6] (bf 6 6 bI) 8,be [kz,aA 3,kB,a9,d2 6,j,o,e5 7,eB 8] [bm kY jU,cA (-4) jU,jr (-4) 2,dT 4 2,cA (-4) jU,aL 6 8,cO (iy 3)] [aV 6,fZ 7,e4 6] 9] [I,ay,aB,bA,dZ,aH] 52 6,d8U,mz [[c6],[bc],[aO,aQ,i5,h8,aS,bp,i4,i3,ee,o,iP,l]] [cf (hl 13) (dJ 14) 12 15,bb,k4 1,k4 2] [eG (a7 1 110 16) [[c6],[bc],[aO,aQ,i5,h8,aS,bp,i4,i3,ee,o,iP,l]] [j,g,g,j,l,j,r,ak,l] [] (cL 1 110 16) 17,eG kp [[c6],[bc],[aO,aQ,i5,h8,aS,bp,i4,i3,ee,o,iP,gB 24 16]] [j,g,g,j,l,j,r,ak,fl 24 16] (a5 24 16) (bf 24 16 kq) 18,eG j [[c6],[bc],[aO,aQ,i5,h8,aS,bp,i4,i3,ee,o,iP,gB 24 23]] [aD 16,aA 17,aA 18,aD 19,d2 20,a6 3 21,o,e5 22,fl 24 23] (a5 24 23) [lF,aT 17,aT 18,lE,aV 20,ad 3 21,fZ 22,ad 24 23] 24] [I,ay,aB,aR,dC 4,bF 5,bP,bI,dC 8,bF 9,f7,cw 11,gF,dC 13,bF 14,km] 43 16,mz [[c6],[bc],[aO,aQ,i5,h8,aS,bp,i4,i3,ee,o,iP,gB 60 12]] [cf (hl 14) (dJ 15) 13 16,bb,k4 1,k4 2] [eG (a7 1 110 17) [[c6],[bc],[aO,aQ,i5,h8,aS,bp,i4,i3,ee,o,iP,gB 60 12]] [j,g,g,j,l,j,r,ak,l] [] (cL 1 110 17) 18,eG (aD 18) [[c6],[bc],[aO,aQ,i5,h8,aS,bp,i4,i3,ee,o,iP,gB 84 19]] [j,g,g,j,l,j,r,ak,fl 24 17] [bO 24 60 84 12 19,df 60 84 12 19] [ad 24 17,aX 18,ad 84 19] 20,eG j [[c6],[bc],[aO,aQ,i5,h8,aS,bp,i4,i3,ee,o,iP,gB 84 25]] [kp,aA 18,aA 19,aD 20,d2 21,a6 3 22,o,e5 23,fl 24 24] [bO 24 60 84 12 25,df 60 84 12 25] [kq,aT 18,aT 19,aX 20,aV 21,ad 3 22,fZ 23,ad 24 24,ad 84 25] 26] [I,ay,aB,aR,dC 4,bF 5,bP,bI,dC 8,bF 9,f7,cw 11,ad 60 12,iL,dC 14,bF 15,lF] 43 17,d9r,dr (fp [(I,1)] [ar,al,ar,ar,al,bl,bl]) bJ kg [fg [a7 1 110 3,a6 4 4,gq 5,kG,bp,j,g,g,j,o,ak,l] [⟨3,1,110⟩,g4 4,dC 5,kH,bI] 8,ha [aQ,a7 1 4 4,gq 5,kG,bp,a6 4 8,gq 9,bY 10,iN,o,jB,fl 48 13] [aL 48 13,iD 6,aL 12573 5] [aR,⟨4,1,4⟩,dC 5,kH,bI,e4 4,dC 9,bF 10,h0,jC,hH 48] 14] [I,ay,b1] 15 3,bg (c1 [(11,[C,i,C,C,C,f0,f0])] [fi 12,(13,i)] [j2 11 4 11 4,j2 11 3 11 3,cG (lf 6 11 2) (eS 12) (ji (-6) 11 2) (cy 12),cG (lf 6 11 0) (eS 12) (mN (-6) 11) (cy 12),aN 13 13,aq 13 13] 10 12) (c1 [(11,[C,i,C,C,C,aa,aa])] [(12,bi [fH,al,.str 131073,lk,hu,cu,cu] 63 7),(13,i)] [c7 11 11 4,c7 11 11 3,c7 11 11 2,ab 13 12,ab 10 12,iq 11 13 11 0] 10 12) [lb 0 c0,bJ,jW 2] [kW,kV] [ad 9223372036854775807 0,ay,an 255] 4 3,bg (c1 [(11,[C,i,C,C,C,f0,f0])] [fi 12,(13,i)] [j2 11 4 11 4,j2 11 3 11 3,cG (lf 6 11 2) (eS 12) (ji (-6) 11 2) (cy 12),cG (lf 6 11 0) (eS 12) (mN (-6) 11) (cy 12),aN 13 13,aq 13 13] 10 12) (c1 [(11,[C,i,C,C,C,aa,aa])] [(12,bi [fH,al,.str 131073,lk,hu,cu,cu] 63 7),(13,i)] [c7 11 11 4,c7 11 11 3,c7 11 11 2,ab 13 12,ab 10 12,iq 11 13 11 0] 10 12) [jo 0 c0,bJ,jW 2] [kW,kV] [cs,ay,an 255] 4 3,bg (bd [fi 13,(35,i)] 34 35 35 35 34 35) (en [(13,bi [gu,al,hg,ar,kJ,lg 1125899906842624,lg 1099511627775] 63 7),(35,i)] 34 35 35 13 34 35) [lb 0 c0,bJ,c5 2,lb 3 c0] [e0,fr] [ad 9223372036854775807 0,ay,gM,cr 9223372036854775807] 5 4,bg (bd [fi 13,(35,i)] 34 35 35 35 34 35) (en [(13,bi [gu,al,hg,ar,kJ,lg 1125899906842624,lg 1099511627775] 63 7),(35,i)] 34 35 35 13 34 35) [jo 0 c0,bJ,c5 2,jo 3 c0] [e0,fr] [cs,ay,gM,c9] 5 4]
def aI:List (Nat×List (Nat×List Ann)):=[(206,[(0,[c1 [(4,[hi,i,f1,f1,f1,f0,f0]),(0,[iJ])] [fi 7,(8,i)] [ab 7 8,ab 2 8,aN 8 8,aq 8 8,fC 302 8,fC 5 8,fC 2 8,fC 1 8,fC 20 8,⟨1,eL 8⟩,cB 8,ab 8 7,ab 2 7,aN 7 7,aq 7 7] 2 7,c1 [(4,[hi,kd,hi,hi,hi,aa,aa]),(0,[iJ])] [(7,l9 63 7 (.agg [jv,hu,hg,lk,hu,cu,cu])),(8,i)] [bS 7 0 7,ab 7 8,ab 2 8,aq 8 8,fC 302 8,fC 20 8,⟨1,eL 8⟩,cB 8,ab 8 7,ab 2 7,aq 7 7,lx (cM 8) (cy 7) 1,iq 42 8 4 2,ik (br 4 2) 42 42 8,iq 64 8 4 0,ik (br 4 0) 64 64 8] 2 7])])]
end
end
section
open Go.PV
open Go.Proofs
def inlS(k:Nat):Bool:=[26,158,28,206,163,277,278,279,280,357,359,360].contains k
def prL:List Nat:=[27,29,48,93,94,100,132,145,170,226,247,259,266,286,288,345,348,397,398,409,411]
noncomputable def rk(lo n:Nat):Bool:=(List.range n).all λ d=>b7y Tryz.prog prL inlS aI rows (lo+d)
end
section
open Go.PV Go.Proofs
noncomputable section
namespace Dk
variable(α:AB)(β:Bool)(γ δ ε ζ η θ ι κ μ ν ξ ο:Ce)(π ρ σ:Int)(τ:IntKind)(υ:LE)(φ:List (List Ce))(χ:List (Nat×List Ann))(ψ:List (Sy×Int))(ω:List AV)(Γ:List Ce)(Δ:List LE)(Θ:List Pa)(Ξ:List PostA)(Υ:List Sy)(Φ:List TD)(Ψ Ω Α:Nat)(Β Ε:Sy×Int)(Ζ Η Ι Κ Μ Ν Ο Ρ:TD)
def bt:Sy:=⟨Ψ,-9223372036854775808,π⟩
def d:=bt 9223372036854775807 Ψ
def bu:TD:=.int τ (-9223372036854775808) π
def bv:=bu 9223372036854775807 τ
def bm:AV:=.int τ ⟨π,ψ⟩
def bh:AV:=.str ⟨π,ψ⟩
def A:TD:=.str 65536
def bn:Ce:=.av (bm π τ ψ)
def c:Sy:=⟨Ψ,0,π⟩
def ah:=bn π .i64 ψ
def bo:Ce:=.av (bh π ψ)
def B:=bv .i64
def bi:Ce:=.av (.bool α)
def au:AV:=.lit (.chan (some 2))
def av:AV:=.lit (.chan (some 1))
def bp:Sy×Int:=(c π Ψ,ρ)
def ba:=bp π 1 Ψ
def e:Ce:=.av .nils
def aw:List (Sy×Int):=[ba π Ψ]
def bw:=bo π (aw ρ Ψ)
def ad:LE:=⟨π,aw ρ Ψ⟩
def a0:=ah 0 ψ
def g:=a0 []
def bq:AB:=.c false
def ax:PostA:=⟨Ψ,Υ,.tup Θ,φ,Δ⟩
def a1:Sy×Int:=(d Ψ,π)
def bx:=a1 1 Ψ
def bz:AV:=.dat β υ (.agg Φ)
def bb:List (Sy×Int):=[bx Ψ]
def h:=a0 (bb Ψ)
def aP:=bw 0 π Ψ
def b:=bi .unk
def bj:=aP 12573 Ψ
def f:=c 1048576 Ψ
def bA:Ce:=.own Ψ Ω υ (.agg Φ)
def bB:=bo π []
def a:=bB 0
def t:=bi bq
def p:Ce:=.av au
def q:Ce:=.av av
def j:=aP 1048576 Ψ
def bc:=bz false υ Φ
def bC:Ce:=.av (bc υ Φ)
def an:=bn π .u64 ψ
def bd:=aP 253 Ψ
def i:=c 65536 Ψ
def a2:=bC (ad π ρ Ψ) Φ
def Q:=bh π (aw ρ Ψ)
def r:=h 0
def C:=h 3
def J:=bd 2
def K:=bj 1
def bD:=bA (ad π ρ Α) Φ Ψ Ω
def bE:List TD:=[Ζ,Η,Ι,Κ,Μ,.bool,Ν,Ο,Ρ]
def bF:=bE Ζ Η Ι Κ Μ .bool Ν Ο
def bG:=bF A Ζ Η Ι Κ Μ Ν
def bH:=bG B Ζ Η Ι Κ Μ
def bI:=bH A Ζ Η Ι Κ
def bJ:=bI A Ζ Η Ι
def bK:=bJ A Ζ Η
def bL:=bK B Ζ
def aQ:=bL B
def bM:=Q π 65536 Ψ
def L:AV:=.bool .unk
def bN:=aw 18446744073709551615 Ψ
def bO:Pa:=.agg [γ,δ,ε,ζ,η,θ,ι,κ,μ]
def a3:=bO γ δ ε ζ η θ ι (an π ψ) κ
def s:=aP 65536 Ψ
def ay:=bp π (-1) Ψ
def m:=aP 4096 Ψ
def n:=c 4096 Ψ
def u:Pa:=.ce g
def S:TD:=.str 12573
def E:=ba 65536 Ψ
def aK:=c 12573 Ψ
def R:Pa:=.ce (h Ψ)
def F:=ad (-1) π Ψ
def bP:=bD π ρ Φ 44 Ψ Ω
def bQ:=bP π ρ aQ Ψ Ω
def H:Pa:=.ce t
def br:=bm π .i64 ψ
def bR:Row:=⟨Ψ,⟨Ω,Υ,ω,φ,Δ,Ξ⟩,χ⟩
def ai:=aP 1073741824 Ψ
def T:TD:=.str 253
def bS:=br π (bb Ψ)
def bs:LE:=⟨π,[Β,Ε]⟩
def aj:TD:=.str 16378
def aR:=a0 (aw π Ψ)
def be:=bs π Β (ay ρ Ψ)
def aL:=a3 γ δ ε ζ η g θ ι π ψ
def bf:=a2 0 π Φ Ψ
def U:TD:=.int .i64 π ρ
def az:=c 253 Ψ
def ao:=aL γ δ ε ζ η θ e π ψ
def I:=be π σ Ω (ba ρ Ψ)
def aA:TD:=.str 16377
def bT:=bQ π ρ 9 Ψ
def aM:=bT 0 π Ψ
def ap:=aw 86400 Ψ
def aq:=c 86400 Ψ
def V:Pa:=.ce (a0 ψ)
def M:=d 3
def N:=d 0
def bk:=bs π Β (ba ρ Ψ)
def v:=c 64 Ψ
def w:=bf 64 Φ Ψ
def x:=bf π aQ Ψ
def a4:AV:=.ptr Ψ 0
def bl:=aR 255 Ψ
def O:=c 255 Ψ
def aS:=c 1073741824 Ψ
def l:=bM 0 Ψ
def aT:=ax [Γ] Δ Θ Υ Ψ
def bU:=ao g γ δ ε ζ η π ψ
def bV:=bU a γ δ ε ζ π ψ
def bW:=bV a γ δ ε π ψ
def bX:=bW g γ δ π ψ
def bY:=bX e γ π ψ
def bZ:=bY t π ψ
def b0:=bZ π []
def o:=b0 0
def W:=h 1
def X:=d 5
def Y:=az 2
def Z:=aK 1
def aa:=h 4
def y:=ax [] Δ Θ Υ Ψ
def ae:=a4 0
def b1:Pa:=.ce (ah π ψ)
def ab:=bk π σ Ω (ay ρ Ψ)
def af:=h 8
def ag:=h 5
def ak:=d 6
def al:=d 4
def z:=bS 0 Ψ
def aB:LE:=⟨4096,ψ⟩
def am:Sy:=⟨Ψ,π,110⟩
def D:=c 6 Ψ
def ar:=h 6
def b2:AB:=.c true
def aU:List Ce:=[γ,δ,ε,ζ,η,θ,aM π Ψ]
def b3:=aT (aU γ δ ε ζ η θ π Ω) Δ Θ Υ Ψ
def b4:=b3 q γ δ ε ζ η π Δ Θ Υ Ψ Ω
def b5:=b4 p γ δ ε ζ π Δ Θ Υ Ψ Ω
def b6:=b5 r γ δ ε π Δ Θ Υ Ψ Ω
def b7:=b6 K γ δ π Δ Θ Υ Ψ Ω
def b8:=b7 J γ π Δ Θ Υ Ψ Ω
def k:=b8 C π Δ Θ Υ Ψ Ω
def b9:=bR φ χ ω [] Ξ Υ Ψ Ω
def G:=b9 φ [] ω Ξ Υ Ψ Ω
def aN:=d 10
def aC:=i 8
def aD:=j 6
def aE:=f 6
def aF:=bN 9
def aG:=bd 7
def aH:=bj 6
def aI:=bd 3
def aJ:=bj 2
def aV:Pa:=.agg [γ,δ,ε,ζ,η,θ,ι,κ,μ,ν,ξ,ο]
def a5:=F 1048576 Ψ
def bg:=Q π 1073741824 Ψ
def aW:=bi b2
def aX:=ay 65536 Ψ
def aO:=d 8
def P:=F 6 Ψ
def ac:=aV γ δ ε ζ η θ ι (bl Ψ) κ μ ν ξ
def a6:=b1 π []
def a7:=h 10
def aY:=a6 8
def a8:=ap 10
def a9:=aq 10
def aZ:=R 5
def rowsK:List Row:=[G [] [av,au,.agg [bg 0 0,z 1,bg 0 2,bg 0 3,bg 0 4,L,L]] [y [] [ac (m 5) ar (m 7) (ai 8) (ai 9) b b (h 11) e a e 10,R 12,V [(⟨13,8,243⟩,1)]] [n 5,ak,n 7,aS 8,aS 9,O 10,d 11,d 12,⟨13,8,243⟩] 14,y [] [ac (ai 0) W (ai 2) (ai 3) (ai 4) b b ar (w [aj,aA] 7) (j 8) e 5,R 9,u] [O 5,ak,v 7,f 8,d 9] 10,y [] [ac (ai 0) W (ai 2) (ai 3) (ai 4) b b ar (w [aj,aA] 7) a e 5,R 8,V [(⟨9,142,191⟩,1)]] [O 5,ak,v 7,aO,⟨9,142,191⟩] 10] [aS 0,d 1,aS 2,aS 3,aS 4] 56 5,G [] [av,au,.agg [l 0,z 1,l 2,l 3,l 4,L,L,br 0 (aw 6 5),.bool bq,z 6,l 7,z 8,l 9,l 10,l 11,L,L,z 12,z 13,bc ⟨0,[]⟩ [aj,aj],bh 0 [],bc (ad 0 7 14) aQ,bc (ad 0 7 15) [A,B,A,A,A,.bool,.bool]]] [⟨20,[az 16,d 17,n 18,n 19],.pa (.agg [bd 16,h 17,m 18,m 19,a,b,t,ah 1 (aw 6 5),t,ar,a,g,a,a,a,t,t,g,g,e,a,a2 1 7 aQ 14,a2 1 7 [A,B,A,A,A,.bool,.bool] 15]),[],[⟨4,[ay 6 5]⟩]⟩,⟨25,[d 16,n 17,d 18,n 19,i 20,i 21,O 22,d 23,f 24],.pa (.agg [s 0,W,s 2,s 3,s 4,b,b,aR 6 5,aW,h 16,m 17,h 18,m 19,s 20,s 21,b,b,bl 22,h 23,e,j 24,a2 1 7 aQ 14,bf 7 [A,B,A,A,A,.bool,.bool] 15]),[],[be 0 65536 21 (E 4),be 0 65536 20 (E 3),be 0 4096 17 (E 0)]⟩,⟨20,[O 16,d 17,v 18,f 19],.pa (.agg [s 0,W,s 2,s 3,s 4,b,b,aR 6 5,aW,ar,s 0,W,s 2,s 3,s 4,b,b,bl 16,h 17,w [aj,aA] 18,j 19,a2 1 7 aQ 14,bf 7 [A,B,A,A,A,.bool,.bool] 15]),[],[]⟩] [i 0,d 1,i 2,i 3,i 4,D 5,ak,i 7,aO,i 9,i 10,i 11,d 12,d 13,c 7 14,c 7 15] 35 16,G [] [av,au,.agg [l 0,z 1,l 2,l 3,l 4,L,L]] [y [] [aV a g a a a t t g g e a e,aY] [] 5,y [aB [E 0,E 2,E 3,E 4,aX 8],⟨253,[E 0,E 2,E 3,E 4,ay 4096 5]⟩,aB [aX 0],aB [aX 2],P 12] [ac (m 5) ar (m 7) (s 8) a b b a7 e (j 11) (x 6 12) 9,R 13] [n 5,ak,n 7,aC,O 9,aN,f 11,D 12,d 13] 14,y [aB [E 0,E 2,E 3,E 4,aX 8],⟨253,[E 0,E 2,E 3,E 4,ay 4096 5]⟩,aB [aX 0],aB [aX 2],P 13] [ac (m 5) ar (m 7) (s 8) a b b a7 (w [aj,aA] 11) (j 12) (x 6 13) 9,u] [n 5,ak,n 7,aC,O 9,aN,v 11,f 12,D 13] 14] [i 0,d 1,i 2,i 3,i 4] 12 5,G [[q,p,r,K,J,C,e]] [ae,.agg [l 4,z 5,l 6,l 7,l 8,L,L]] [aT [q,p,r,K,J,C,e] [] [aV a g a a a t t g g e a e,aY] [] 9,k 6 [P 16] [ac (m 9) a7 (m 11) (s 12) a b b (h 14) e (j 15) (x 6 16) 13,R 17] [n 9,aN,n 11,i 12,O 13,d 14,f 15,D 16,d 17] 18 16,k 6 [P 17] [ac (m 9) a7 (m 11) (s 12) a b b (h 14) (w [aj,aA] 15) (j 16) (x 6 17) 13,u] [n 9,aN,n 11,i 12,O 13,d 14,v 15,f 16,D 17] 18 17] [N,Z,Y,M,i 4,X,i 6,i 7,aC] 67 9,G [aU q p r K J C 60 4] [ae,.agg [l 5,z 6,l 7,l 8,l 9,L,L]] [k 60 [] [aV a g a a a t t g g e a e,aY] [] 10 4,k 66 [I 6 60 66 4 19,ab 0 60 66 4 19,F 66 19] [ac (m 10) (h 11) (m 12) (s 13) a b b (h 15) e (j 16) (x 6 17) 14,R 18] [n 10,d 11,n 12,i 13,O 14,d 15,f 16,D 17,d 18,c 66 19] 20 19,k 66 [I 6 60 66 4 19,ab 0 60 66 4 19,F 66 19] [ac (m 10) (h 11) (m 12) (s 13) a b b (h 15) (w [aj,aA] 16) (j 17) (x 6 18) 14,u] [n 10,d 11,n 12,i 13,O 14,d 15,v 16,f 17,D 18,c 66 19] 20 19] [N,Z,Y,M,c 60 4,i 5,ak,i 7,aC,i 9] 67 10,G [[q,p,r,K,J,C,e]] [ae] [aT [q,p,r,K,J,C,e] [] [o,V [(⟨4,5,8⟩,1)],H] [⟨4,5,8⟩] 5,k 6 [P 5] [o,R 4,H] [al,D 5] 6 5,k 6 [P 4] [o,a6 261,.ce aW] [D 4] 5 4,k 6 [P 10] [ao aa (j 5) aD (h 7) (w [U 1 4,S,T,B] 8) b 0 (ap 9),u,H] [al,f 5,aE,d 7,v 8,aq 9,D 10] 11 10] [N,Z,Y,M] 31 4,G [aU q p r K J C 40 4] [ae] [k 46 [I 6 40 46 4 6,ab 0 40 46 4 6] [o,V [(⟨5,5,270⟩,1)],H] [⟨5,5,270⟩,c 46 6] 7 6,k 46 [I 6 40 46 4 6,ab 0 40 46 4 6] [o,aZ,H] [X,c 46 6] 7 6,k 46 [I 6 40 46 4 5,ab 0 40 46 4 5] [o,a6 261,.ce aW] [c 46 5] 6 5,k 46 [I 6 40 46 4 11,ab 0 40 46 4 11] [ao ag aD (j 7) af (w [U 1 4,S,T,B] 9) b 0 a8,u,H] [X,aE,f 7,aO,v 9,a9,c 46 11] 12 11] [N,Z,Y,M,c 40 4] 31 5,G [[q,p,r,K,J,C,e]] [ae,.agg [l 4,z 5,l 6,l 7,l 8,L,L]] [aT [q,p,r,K,J,C,e] [] [o,aY] [] 9,k 6 [] [o,R 9] [d 9,D 10] 11 10,k 6 [] [ao (h 9) (j 10) (j 11) (h 12) (w [U 1 4,S,T,B] 13) b 0 (ap 14),u] [d 9,f 10,f 11,d 12,v 13,aq 14,D 15] 16 15] [N,Z,Y,M,i 4,X,i 6,i 7,aC] 70 9,G [aU q p r K J C 60 4] [ae,.agg [l 5,z 6,l 7,l 8,l 9,L,L]] [k 66 [I 6 60 66 4 11,ab 0 60 66 4 11] [o,V [(⟨10,8,270⟩,1)]] [⟨10,8,270⟩,c 66 11] 12 11,k 66 [I 6 60 66 4 11,ab 0 60 66 4 11] [o,R 10] [aN,c 66 11] 12 11,k 66 [I 6 60 66 4 16,ab 0 60 66 4 16] [ao a7 (j 11) (j 12) (h 13) (w [U 1 4,S,T,B] 14) b 0 (ap 15),u] [aN,f 11,f 12,d 13,v 14,aq 15,c 66 16] 17 16] [N,Z,Y,M,c 60 4,i 5,ak,i 7,aC,i 9] 70 10,G [[q,p,r,K,J,C,e]] [ae] [aT [q,p,r,K,J,C,e] [] [o,aY,H] [] 4,k 12 [F 12 5] [o,R 4,H] [al,c 12 5] 6 5,k 12 [F 12 10] [ao aa (j 5) aD (h 7) (w [U 1 4,S,T,B] 8) b 0 (ap 9),u,H] [al,f 5,aE,d 7,v 8,aq 9,c 12 10] 11 10,k 6 [P 4] [o,a6 261,.ce aW] [D 4] 5 4] [N,Z,Y,M] 32 4,G [aU q p r K J C 40 4] [ae] [k 52 [I 12 40 52 4 6,ab 0 40 52 4 6] [o,V [(⟨5,8,271⟩,1)],H] [⟨5,8,271⟩,c 52 6] 7 6,k 52 [I 12 40 52 4 6,F 52 6] [o,aZ,H] [X,c 52 6] 7 6,k 52 [I 12 40 52 4 11,F 52 11] [ao ag aD (j 7) af (w [U 1 4,S,T,B] 9) b 0 a8,u,H] [X,aE,f 7,aO,v 9,a9,c 52 11] 12 11,k 46 [I 6 40 46 4 5,F 46 5] [o,a6 261,.ce aW] [c 46 5] 6 5] [N,Z,Y,M,c 40 4] 32 5,G [[q,p,r,K,J,C,e]] [ae] [aT [q,p,r,K,J,C,e] [] [o,aY,H] [] 4,k 12 [F 12 5] [o,R 4,H] [al,c 12 5] 6 5,k 12 [F 12 10] [ao aa (j 5) aD (h 7) (w [U 1 4,S,T,B] 8) b 0 (ap 9),u,H] [al,f 5,aE,d 7,v 8,aq 9,c 12 10] 11 10] [N,Z,Y,M] 33 4,G [aU q p r K J C 40 4] [ae] [k 52 [I 12 40 52 4 6,ab 0 40 52 4 6] [o,V [(⟨5,8,270⟩,1)],H] [⟨5,8,270⟩,c 52 6] 7 6,k 52 [I 12 40 52 4 6,F 52 6] [o,aZ,H] [X,c 52 6] 7 6,k 52 [I 12 40 52 4 11,F 52 11] [ao ag aD (j 7) af (w [U 1 4,S,T,B] 9) b 0 a8,u,H] [X,aE,f 7,aO,v 9,a9,c 52 11] 12 11] [N,Z,Y,M,c 40 4] 33 5,G [] [av,au,.agg [z 0,Q 0 12573 1,Q 0 253 2,z 3]] [y [] [o,V [(⟨4,5,8⟩,1)]] [⟨4,5,8⟩] 5,y [F 24 4] [aL g a a g e t (x 24 4) 0 [],aZ] [c 24 4,X] 6,y [F 24 11] [a3 aa (j 5) aD (h 7) (w [U 1 4,S,T,B] 8) (a0 [(⟨9,1,3⟩,1)]) b (x 24 11) 0 a8,u] [al,f 5,aE,d 7,v 8,⟨9,1,3⟩,a9,c 24 11] 12] [N,Z,Y,M] 11 4,G [] [av,au,.agg [Q 0 1048576 0,Q 0 1048576 1]] [y [] [.agg [g,a,e,e],aV a g a a a t t g g e a e,V [(am 1 2,1)]] [am 1 2] 3,y [a5 1,P 2] [.agg [g,a,e,e],aV a g a a a t t g g e a (x 6 2),.ce C] [D 2,M] 4,y [a5 1,P 8] [.agg [g,a,e,e],ac (m 2) C (m 4) (s 5) a b b (ah 200 []) e (j 7) (x 6 8) 6,u] [n 2,M,n 4,i 5,O 6,f 7,D 8] 9,y [a5 1,P 11] [.agg [ah 7 [],j 2,.av (.dat false (ad 0 1048576 3) (.str 1048576)),.av (.dat false (ad 0 1048576 4) (.val false 1048576))],ac (m 5) ar (m 7) (s 8) a b b (ah 200 []) e (j 10) (x 6 11) 9,u] [f 2,f 3,f 4,n 5,ak,n 7,aC,O 9,f 10,D 11] 12,y [a5 1,P 9] [.agg [g,a,e,e],ac (m 2) C (m 4) (s 5) a b b (ah 200 []) (w [aj,aA] 7) (j 8) (x 6 9) 6,u] [n 2,M,n 4,i 5,O 6,v 7,f 8,D 9] 10,y [a5 1,P 12] [.agg [ah 7 [],j 2,.av (.dat false (ad 0 1048576 3) (.str 1048576)),.av (.dat false (ad 0 1048576 4) (.val false 1048576))],ac (m 5) ar (m 7) (s 8) a b b (ah 200 []) (w [aj,aA] 10) (j 11) (x 6 12) 9,u] [f 2,f 3,f 4,n 5,ak,n 7,aC,O 9,v 10,f 11,D 12] 13] [f 0,f 1] 96 2,G [] [av,au,.agg [z 0,Q 0 12573 1,Q 0 253 2,z 3]] [y [] [o,V [(am 1 4,1)]] [am 1 4] 5,y [bk 0 12573 1 (a1 (-1) 0),⟨-4,bb 0⟩,⟨4,[a1 (-1) 0]⟩,aB [ay 12573 1],ad (-4) 12573 1,P 4] [aL g a a g e t (x 6 4) 0 [],aZ] [D 4,X] 6,y [bk 0 12573 1 (a1 (-1) 0),ad (-4) 12573 1,⟨-4,bb 0⟩,⟨4,[a1 (-1) 0]⟩,ad (-4) 12573 1,P 6,aB [ay 12573 1]] [aL (ah 4 []) K J C (w [U 1 4,S,T,B] 4) b (x 6 6) 0 (ap 5),u] [v 4,aq 5,D 6] 7] [N,Z,Y,M] 52 4,G [] [av,au,.agg [z 0,Q 0 12573 1,Q 0 253 2,z 3]] [y [] [o,V [(am 1 4,1)]] [am 1 4] 5,y [F 24 4] [aL g a a g e t (x 24 4) 0 [],aZ] [c 24 4,X] 6,y [F 24 11] [a3 aa (j 5) aD (h 7) (w [U 1 4,S,T,B] 8) (aR 3 9) b (x 24 11) 0 a8,u] [al,f 5,aE,d 7,v 8,c 3 9,a9,c 24 11] 12] [N,Z,Y,M] 20 4,G [[q],[p],[r,W,aJ,aI,aa,ag,aH,aG,af,b,an 0 aF,e]] [.agg [z 10,Q 0 12573 11,Q 0 253 12,z 13],ae,a4 1,a4 2] [ax [[q],[p],[r,W,aJ,aI,aa,ag,aH,aG,af,b,an 0 aF,e]] [] [o,V [(am 1 14,1)]] [am 1 14] 15,ax [[q],[p],[r,W,aJ,aI,aa,ag,aH,aG,af,b,an 0 aF,aM 24 14]] [F 24 14] [aL g a a g e t (x 24 14) 0 [],R 15] [c 24 14,d 15] 16,ax [[q],[p],[r,W,aJ,aI,aa,ag,aH,aG,af,b,an 0 aF,aM 24 21]] [F 24 21] [a3 (h 14) (j 15) (j 16) (h 17) (w [U 1 4,S,T,B] 18) (aR 3 19) b (x 24 21) 0 (ap 20),u] [d 14,f 15,f 16,d 17,v 18,c 3 19,aq 20,c 24 21] 22] [N,d 1,aK 2,az 3,al,X,aK 6,az 7,aO,c 18446744073709551615 9,aN,aK 11,az 12,d 13] 43 14,G [[q],[p],[r,W,aJ,aI,aa,ag,aH,aG,af,b,an 0 aF,aM 60 10]] [.agg [z 11,Q 0 12573 12,Q 0 253 13,z 14],ae,a4 1,a4 2] [ax [[q],[p],[r,W,aJ,aI,aa,ag,aH,aG,af,b,an 0 aF,aM 60 10]] [] [o,V [(am 1 15,1)]] [am 1 15] 16,ax [[q],[p],[r,W,aJ,aI,aa,ag,aH,aG,af,b,an 0 aF,aM 84 17]] [I 24 60 84 10 17,ab 0 60 84 10 17] [aL g a a g e t (x 24 15) 0 [],R 16] [c 24 15,d 16,c 84 17] 18,ax [[q],[p],[r,W,aJ,aI,aa,ag,aH,aG,af,b,an 0 aF,aM 84 23]] [I 24 60 84 10 23,ab 0 60 84 10 23] [a3 (h 15) (j 16) (j 17) (h 18) (w [U 1 4,S,T,B] 19) (aR 3 20) b (x 24 22) 0 (ap 21),u] [d 15,f 16,f 17,d 18,v 19,c 3 20,aq 21,c 24 22,c 84 23] 24] [N,d 1,aK 2,az 3,al,X,aK 6,az 7,aO,c 18446744073709551615 9,c 60 10,d 11,aK 12,az 13,d 14] 43 15]
end Dk
def ma:Int:=9223372036854775807
def mi:Int:=-9223372036854775808
def t0:Row:=⟨124,⟨5,[⟨0,0,1073741824⟩,⟨1,mi,ma⟩,⟨2,0,1073741824⟩,⟨3,0,1073741824⟩,⟨4,0,1073741824⟩],[(.lit (.chan (some 1))),(.agg [(.str ⟨0,[(⟨0,0,1073741824⟩,1)]⟩),(.int .i64 ⟨0,[(⟨1,mi,ma⟩,1)]⟩),(.str ⟨0,[(⟨2,0,1073741824⟩,1)]⟩),(.str ⟨0,[(⟨3,0,1073741824⟩,1)]⟩),(.str ⟨0,[(⟨4,0,1073741824⟩,1)]⟩),(.bool .unk),(.bool .unk)]),(.lit (.chan (some 2)))],[],[],[⟨6,[⟨5,8,243⟩],(.tup [(.ce (.av (.str ⟨0,[]⟩))),(.ce (.av (.int .i64 ⟨0,[(⟨5,8,243⟩,1)]⟩)))]),[],[]⟩,⟨6,[⟨5,0,134217728⟩],(.tup [(.ce (.av (.str ⟨0,[(⟨5,0,134217728⟩,1)]⟩))),(.ce (.av (.int .i64 ⟨0,[]⟩)))]),[],[]⟩]⟩,[]⟩
def t20:Row:=⟨15,⟨1,[⟨0,0,1048576⟩],[(.lit (.chan (some 1))),(.lit (.chan (some 2))),(.str ⟨0,[(⟨0,0,1048576⟩,1)]⟩)],[],[],[⟨6,[⟨1,1,110⟩,⟨2,0,4⟩,⟨3,0,12573⟩,⟨4,0,253⟩,⟨5,mi,ma⟩],(.pa (.agg [(.av (.int .i64 ⟨0,[(⟨1,1,110⟩,1)]⟩)),(.av (.int .i64 ⟨0,[(⟨2,0,4⟩,1)]⟩)),(.av (.str ⟨0,[(⟨3,0,12573⟩,1)]⟩)),(.av (.str ⟨0,[(⟨4,0,253⟩,1)]⟩)),(.av (.int .i64 ⟨0,[(⟨5,mi,ma⟩,1)]⟩)),(.av (.int .i64 ⟨0,[]⟩)),(.av (.str ⟨0,[]⟩)),(.av (.str ⟨0,[]⟩)),(.av (.int .i64 ⟨0,[]⟩)),(.av (.bool .unk)),(.av (.int .u64 ⟨0,[]⟩)),(.av .nils)])),[],[]⟩,⟨12,[⟨1,mi,ma⟩,⟨2,1,4⟩,⟨3,0,12573⟩,⟨4,0,253⟩,⟨5,mi,ma⟩,⟨6,0,4⟩,⟨7,0,12573⟩,⟨8,0,253⟩,⟨9,mi,ma⟩,⟨10,0,86400⟩,⟨11,0,48⟩],(.pa (.agg [(.av (.int .i64 ⟨0,[(⟨1,mi,ma⟩,1)]⟩)),(.av (.int .i64 ⟨0,[(⟨2,1,4⟩,1)]⟩)),(.av (.str ⟨0,[(⟨3,0,12573⟩,1)]⟩)),(.av (.str ⟨0,[(⟨4,0,253⟩,1)]⟩)),(.av (.int .i64 ⟨0,[(⟨5,mi,ma⟩,1)]⟩)),(.av (.int .i64 ⟨0,[(⟨6,0,4⟩,1)]⟩)),(.av (.str ⟨0,[(⟨7,0,12573⟩,1)]⟩)),(.av (.str ⟨0,[(⟨8,0,253⟩,1)]⟩)),(.av (.int .i64 ⟨0,[(⟨9,mi,ma⟩,1)]⟩)),(.av (.bool .unk)),(.av (.int .u64 ⟨0,[(⟨10,0,86400⟩,1)]⟩)),(.av (.dat false ⟨0,[(⟨11,0,48⟩,1)]⟩ (.agg [(.str 65536),(.int .i64 mi ma),(.str 65536),(.str 65536),(.str 65536),.bool,.bool,(.int .i64 mi ma),(.int .i64 mi ma)])))])),[],[⟨(-1),[(⟨11,0,48⟩,1)]⟩,⟨(-1),[(⟨4,0,253⟩,1)]⟩,⟨(-1),[(⟨3,0,12573⟩,1)]⟩]⟩]⟩,[]⟩
def rowsT:List Row:=rows++(t0::(Dk.rowsK++[t20]))
def rkT (lo n:Nat):Bool:=(List.range n).all λ d=>b7y Tryz.prog (124::prL) inlS aI rowsT (lo+d)
end
end
end Go.SN
namespace Go.PV
section
open Go.RowKit
variable {P:Program} {base:Nat} {f n:List Nat} {p w d:World} {M m:Mem} {μ q:Pl} {g:G}
theorem Inv.below(hI:Inv base n p M μ g w)(hb:Below w.heap.size w d):Inv base n p M μ g d:=
 hI.grow (row:=none) ⟨hb.os,hb.tape,hb.output,hb.size,λ k hk _=>hb.block k hk⟩ (Pl.le_refl _) (λ b hb=>by cases hb) (λ id x hx=> .inl ⟨hx,λ _ _ _=>by simp⟩)
variable {v:V} {u:Value}
theorem b9w(hv:∀s,a1R s v=(v,s))(hr:∀a,RepV M a v u):Imp M μ g w [] (λ s=>a1R s v) u:=by
 intro h nx;refine⟨[],rfl,?_,λ a _=> ?_⟩;all_goals grind[Bring.nil]
theorem a5Q(hv:∀s,a1R s v=(v,s))(hI:Inv base f p m μ g d)(hM:M.le m)(hn:NewMem base f M m)(hr:Rep m v u):d6f base f p M μ 0 v [] u d:=
 ⟨m,μ,g,[],[],[],hM,hn,Pl.le_refl _,hI,b9w hv λ _=> .rep (hr.mono a8H),rfl,rfl,λ j l os hj=>by omega,by simp,rfl⟩
theorem b8d:∀{us0 us:List Value},ListRep M μ (us0.map .lit) us->us=us0
 |[],us,h=>ay7.1 (by simpa using h.1.symm)
 |x::l,[],h=>by simpa using h.1
 |x::l,u::us,h=>by
  have h1:=h.2 0 (.lit x) u rfl rfl;have h2:u=x:=by
   cases h1 with
   |rep h=>cases h;rfl
  rw[h2,b8d (us0:=l) (us:=us) ⟨by simpa using h.1,λ j c u hc hu=>h.2 (j+1) c u (by grind) (by grind)⟩]
variable {us0:List Value} {k:Nat}
theorem a2b(a:b6L P k=true)(hv:∀s,a1R s v=(v,s))(hr:Rep (λ _ _=>none) v u)
  (hc:∀w:World,GlW w->Go.Calls P k us0.toArray w λ e d=>e= .returned u/\Below w.heap.size w d):a2R P k (us0.map .lit) [] v []:=by
 refine⟨a,λ {w M μ us f} hI hn ha=> ?_⟩;have e:=b8d ha;have e:us=us0.toArray:=by rw[<-e]
 subst e;refine(hc w hI.glw).mono λ e d he=> ?_;obtain⟨rfl,hb⟩:=he;exact a5Q hv (hI.below hb) (Mem.le_refl _) NewMem.refl (hr.mono λ _ _ _ h=>by cases h)
variable {xs:List Value}
theorem b8t{us0:Array Value}{vs:List V}(hok:b6L P k=true)(hx:∀x∈xs,sc x=true)(hvs:∀(M:Mem)(μ:Pl)(us:Array Value),ListRep M μ vs us.toList->us=us0)
  (hc:∀w:World,GlW w->Go.Calls P k us0 w λ e d=>∃A c,e= .returned (.slice (some ⟨A,0,none⟩) xs.length c)/\xs.length<=c/\w.heap.size<=A/\(∀(i:Nat) x,xs[i]?=some x->d.cell? ⟨A,i,none⟩=some x)/\Below w.heap.size w d):
  a2R P k vs [] (.sl none (xs.map .lit)) []:=by
 refine⟨hok,λ {w M μ us f} hI hn ha=> ?_⟩;have e:=hvs M μ us ha;subst e;refine(hc w hI.glw).mono λ e d he=> ?_;obtain⟨A,c,rfl,hc,hA,hcell,hb⟩:=he;have hI1:=hI.below hb;have hM0:∀o,M A o=none:=λ o=>by
  cases hm:M A o with
  |none=>rfl
  |some u=>exact absurd (b7U (hI.mem _ _ _ hm)) (aq9.2 hA)
 let m:Mem:=λ b o=>if b=A then xs[o]? else M b o
 have hle:M.le m:=λ b o u h=>by
  grind
 have hnew:∀b o u,m b o=some u->M b o=some u\/b=A:=λ b o u h=>by
  grind
 have hnb:∀id x b cap,a0b (a0w 0 ([],([]:List (List V)).length) []).1 id=some x->μ id=some (b,cap)->b≠A:=λ id x b cap hx hm e=>by
  have:=(hI.at_ hx hm).1.lt;omega
 have hI2:Inv w.heap.size f w m μ (a0b (a0w 0 ([],([]:List (List V)).length) []).1) d:=by
  refine⟨λ b o u h=> ?_,λ id x hx=> ?_,hI1.inj,λ id x b cap o u hx hm h=> ?_,hI1.os,hI1.tape,hI1.output,hI1.size,hI1.frame,hI1.gl⟩
  .replace h:(if b=A then xs[o]? else M b o)=some u:=h;split at h
   .grind
   .exact hI1.mem b o u h
  .obtain⟨b,cap,h1,h2,h3⟩:=hI1.box id x hx;exact⟨b,cap,h1,h2.mono hle (Pl.le_refl _),h3⟩
  .rcases hnew b o u h with h|h
   .exact hI1.sep id x b cap o u hx hm h
   grind
 refine a5Q (λ s=>rfl) hI2 hle (λ b o u h=>(hnew b o u h).imp_right λ e=> .inl (by grind)) ?_;have hone:∀x∈xs,V.cells (.lit x)=[.lit x]/\V.fit (.lit x)=true:=λ x hx'=>by
  have:=hx x hx';cases x<;>first|exact⟨rfl,rfl⟩|(simp[sc]at this)
 have hlen:xs.length=(xs.map V.lit).length:=by simp
 rw[hlen];refine Rep.sl (sz:=1) (λ i j=>(xs[i]?).getD undef) (by grind) rfl (λ x hx'=> ?_) (λ i x j c' hi hj=> ?_) (λ i x j c' hi hj=> ?_)
 .grind
 .grind
 .rw[au3]at hi;obtain⟨y,hy,rfl⟩:=az2.1 hi;have hm:=ax4 hy;rw[(hone y hm).1]at hj;have:j=0:=by
   cases j with
   |zero=>rfl
   |succ j=>simp at hj
  subst this;simp at hj;subst hj;rw[hy];exact .lit (hx y hm)
theorem d1y(a:b6L P k=true)(hx:∀x∈xs,sc x=true)
  (hc:∀w:World,GlW w->Go.Calls P k us0.toArray w λ e d=>∃A c,e= .returned (.slice (some ⟨A,0,none⟩) xs.length c)/\xs.length<=c/\w.heap.size<=A/\(∀(i:Nat) x,xs[i]?=some x->d.cell? ⟨A,i,none⟩=some x)/\Below w.heap.size w d):
  a2R P k (us0.map .lit) [] (.sl none (xs.map .lit)) []:=b8t a hx (λ M μ us ha=>by grind[b8d]) hc
end
end Go.PV
namespace Go.Proofs
section
open Go.Shelf
def shR:Go.Shelf.Ren:=⟨fun|99=>340|100=>174|101=>341|103=>171|119=>392|120=>431|137=>247|138=>400|143=>226|144=>251|145=>27|146=>288|149=>342|150=>245|151=>427|152=>350|153=>266|154=>364|155=>286|156=>145|161=>397|162=>398|165=>260|166=>257|169=>259|170=>258|195=>419|197=>401|206=>363|207=>287|208=>388|210=>285|217=>238|218=>420|219=>132|220=>61|221=>365|222=>389|224=>240|225=>239|226=>351|227=>352|228=>353|229=>348|231=>413|232=>416|233=>414|234=>417|235=>415|236=>418|240=>345|241=>346|260=>421|266=>332|267=>241|268=>402|271=>428|276=>390|277=>391|314=>333|362=>448|n=>n,fun|0=>0|1=>1|2=>2|3=>3|4=>4|5=>5|7=>7|8=>8|9=>9|10=>10|11=>11|12=>12|13=>13|14=>14|15=>15|16=>16|17=>17|18=>18|20=>20|21=>21|22=>106|23=>226|24=>135|25=>269|26=>114|27=>183|28=>291|31=>68|37=>22|40=>391|41=>233|46=>315|51=>383|53=>23|55=>314|59=>79|60=>80|61=>354|63=>441|64=>392|65=>406|66=>353|67=>229|68=>415|69=>84|70=>322|71=>323|72=>324|73=>330|74=>325|75=>326|76=>327|77=>328|80=>308|81=>329|83=>115|102=>370|103=>424|104=>107|105=>425|106=>426|111=>144|113=>407|114=>126|115=>393|116=>394|117=>395|118=>396|119=>442|120=>390|122=>436|123=>437|124=>423|127=>389|131=>432|137=>443|138=>444|139=>445|146=>384|150=>427|151=>385|152=>420|153=>421|154=>422|164=>417|165=>418|166=>419|214=>410|238=>446|239=>447|240=>448|241=>449|242=>450|245=>453|248=>456|n=>n,fun|1=>0|3=>2|4=>3|n=>n⟩
theorem d7N:Lays.n143 Tryz.prog shR:=by constructor<;>first|(intro _;kernel_rfl)|kernel_rfl
theorem d7Z:Lays.n219 Tryz.prog shR:=by constructor<;>first|(intro _;kernel_rfl)|kernel_rfl
theorem d5H:Lays.n137 Tryz.prog shR:=by constructor<;>first|(intro _;kernel_rfl)|kernel_rfl
theorem d7g:Lays.n145 Tryz.prog shR:=by constructor<;>first|(intro _;kernel_rfl)|kernel_rfl
theorem d8I:Lays.n146 Tryz.prog shR:=by constructor<;>first|(intro _;kernel_rfl)|kernel_rfl
theorem d8n:Lays.n155 Tryz.prog shR:=by constructor<;>first|(intro _;kernel_rfl)|kernel_rfl
theorem d2Z:Lays.n156 Tryz.prog shR:=by constructor<;>first|(intro _;kernel_rfl)|kernel_rfl
theorem d1V:Lays.n153 Tryz.prog shR:=by constructor<;>first|(intro _;kernel_rfl)|kernel_rfl
theorem d8a:Lays.n161 Tryz.prog shR:=by constructor<;>first|(intro _;kernel_rfl)|kernel_rfl
theorem d8P:Lays.n162 Tryz.prog shR:=by constructor<;>first|(intro _;kernel_rfl)|kernel_rfl
theorem d8L:Lays.n229 Tryz.prog shR:=by constructor<;>first|(intro _;kernel_rfl)|kernel_rfl
theorem d5R:Lays.n240 Tryz.prog shR:=by constructor<;>first|(intro _;kernel_rfl)|kernel_rfl
theorem d2M:Lays.n169 Tryz.prog shR:=by constructor<;>first|(intro _;kernel_rfl)|kernel_rfl
theorem d2E:Builder.X72 Tryz.prog shR:=by constructor<;>first|(intro _;kernel_rfl)|kernel_rfl
theorem shX:Builder.Extra Tryz.prog shR:=by constructor<;>first|exact d2E|(intro _;kernel_rfl)|kernel_rfl|decide
end
end Go.Proofs
namespace Go.PV
section
open Go.RowKit Go.Proofs
abbrev a5o:=List V->List (List V)->Option (V×List (List V))
def vS(l:List UInt8):V:= .lit (.string ⟨l.toArray⟩)
def vI(i:Int):V:= .lit (.int .i64 i)
def shS:Nat:=4294967281
def shM:Nat:=140737488355328
def a7p:a5o:=λ a bs=>match a,bs with
 |[.lit (.string s),.lit (.string t)],[]=>if s.size<shS then some (vI (Lib.index s.data.toList t.data.toList),[])else none
 |_,_=>none
def a4H:a5o:=λ a bs=>match a,bs with
 |[.lit (.string s),.lit (.int .u8 c)],[]=>some (vI (Lib.indexByte s.data.toList c.toNat.toUInt8),[])
 |_,_=>none
def c6t:a5o:=λ a bs=>match a,bs with
 |[.lit (.string s),.lit (.string t)],[]=>if s.size<shS then
   some (.tup [vS (Lib.cut s.data.toList t.data.toList).1,vS (Lib.cut s.data.toList t.data.toList).2.1,.lit (.bool (Lib.cut s.data.toList t.data.toList).2.2)],[])else none
 |_,_=>none
def a2l:a5o:=λ a bs=>match a,bs with
 |[.lit (.string s),.lit (.string o),.lit (.string n)],[]=>if s.size<shS/\1<=o.size/\s.size+Lib.countB s o*n.size<=shM then
   some (vS (Lib.replaceAll s.data.toList o.data.toList n.data.toList),[])else none
 |_,_=>none
def a8V:a5o:=λ a bs=>match a,bs with
 |[.lit (.string s),.lit (.string t)],[]=>if s.size<shS/\1<=t.size then
   some (.sl none (((Lib.splitB t 0 (Lib.countB s t) s).map Value.string).map .lit),[])else none
 |_,_=>none
def a4E:a5o:=λ a bs=>match a,bs with
 |[.lit (.string s),.lit (.string ⟨⟨[c]⟩⟩)],[]=>if c.toNat<128/\s.size<=9223372036854775807 then some (vS (Lib.trimRightB s.data.toList c),[])else none
 |_,_=>none
variable {w:World}
theorem GlW.max(h:GlW w):∃m,w.cell? ⟨0,0,none⟩=some (.int .i64 m):=by
 obtain⟨⟨m,t,fr,h⟩,_⟩:=h;grind[World.cell?]
theorem a1J{M:Mem}{v:Value}(h:sc v=true):Rep M (.lit v) v:= .lit h
theorem a6c{a:World}(h:a=w):Below w.heap.size w a:=by grind[Below.refl]
variable {bs:List (List V)} {v:V}
theorem b5k{k:Nat}(b:b6L Tryz.prog k=true)
  (hc:∀(s sub:ByteArray) (m:Int) (w:World),s.size<4294967281->w.cell? ⟨0,0,none⟩=some (.int .i64 m)->
   Go.Calls Tryz.prog k #[.string s,.string sub] w λ e c=>e= .returned (.int .i64 (Lib.index s.data.toList sub.data.toList))/\c=w)
  {d:List V} {a:List (List V)} (h:a7p d bs=some (v,a)):a2R Tryz.prog k d bs v a:=by
 unfold a7p at h;split at h
 .next s t=>
  split at h
  .next hs=>
   simp only[az0,az8]at h;obtain⟨rfl,rfl⟩:=h;refine a2b (us0:=[.string s,.string t]) b (λ _=>rfl) (a1J rfl) λ w hw=> ?_;obtain⟨m,hm⟩:=hw.max;exact(hc s t m w hs hm).mono λ e c ⟨h1,h2⟩=>⟨h1,a6c h2⟩
  .cases h
 .cases h
variable {f:List (List V)} {g:List V}
theorem d7B(h:a7p g bs=some (v,f)):a2R Tryz.prog 226 g bs v f:=
 b5k (by decide+kernel) (λ s t m w hs hm=>Any.strings_Index d7N s t m w hs hm) h
theorem d7W(h:a7p g bs=some (v,f)):a2R Tryz.prog 132 g bs v f:=
 b5k (by decide+kernel) (λ s t m w hs hm=>Any.stringslite_Index d7Z s t m w hs hm) h
theorem d7s(h:a4H g bs=some (v,f)):a2R Tryz.prog 247 g bs v f:=by
 unfold a4H at h;split at h
 .next s c=>
  simp only[az0,az8]at h;obtain⟨rfl,rfl⟩:=h;refine a2b (us0:=[.string s,.int .u8 c]) (by decide+kernel) (λ _=>rfl) (a1J rfl) λ w hw=> ?_;exact(Any.strings_IndexByte d5H s c w).mono λ e w' ⟨h1,h2⟩=>⟨h1,a6c h2⟩
 .cases h
theorem d9D(h:c6t g bs=some (v,f)):a2R Tryz.prog 27 g bs v f:=by
 unfold c6t at h;split at h
 .next s t=>
  split at h
  .next hs=>
   simp only[az0,az8]at h;obtain⟨rfl,rfl⟩:=h;refine a2b (us0:=[.string s,.string t]) (u:= .tuple #[.string ⟨(Lib.cut s.data.toList t.data.toList).1.toArray⟩,.string ⟨(Lib.cut s.data.toList t.data.toList).2.1.toArray⟩,.bool (Lib.cut s.data.toList t.data.toList).2.2])
    (by decide+kernel) (λ _=>rfl) (.tup rfl λ j c u hc hu=> ?_) λ w hw=> ?_
   .match j,hc,hu with
    |0,hc,hu=>cases hc;cases hu;exact a1J rfl
    |1,hc,hu=>cases hc;cases hu;exact a1J rfl
    |2,hc,hu=>cases hc;cases hu;exact a1J rfl
    |j+3,hc,hu=>simp at hc
   .obtain⟨m,hm⟩:=hw.max;exact(Any.strings_Cut d7g s t m w hs hm).mono λ e w' ⟨h1,n,h2⟩=>⟨h1,by grind[below_drewN,Below.refl]⟩
  .cases h
 .cases h
theorem d8j(h:a2l g bs=some (v,f)):a2R Tryz.prog 286 g bs v f:=by
 unfold a2l at h;split at h
 .next s o n=>
  split at h
  .next hs=>
   simp only[az0,az8]at h;obtain⟨rfl,rfl⟩:=h;refine a2b (us0:=[.string s,.string o,.string n]) (by decide+kernel) (λ _=>rfl) (a1J rfl) λ w hw=> ?_;obtain⟨m,hm⟩:=hw.max;exact Any.strings_ReplaceAll d8n shX s o n m w hs.1 hm hs.2.1 hs.2.2
  .cases h
 .cases h
theorem d7S(h:a4E g bs=some (v,f)):a2R Tryz.prog 398 g bs v f:=by
 unfold a4E at h;split at h
 .next s c=>
  split at h
  .next hs=>
   simp only[az0,az8]at h;obtain⟨rfl,rfl⟩:=h;refine a2b (us0:=[.string s,.string ⟨⟨[c]⟩⟩]) (by decide+kernel) (λ _=>rfl) (a1J rfl) λ w hw=> ?_;exact(Any.strings_TrimRight_one d8P s c hs.1 w hs.2).mono λ e w' ⟨h1,h2⟩=>⟨h1,a6c h2⟩
  .cases h
 .cases h
theorem d6R(h:a8V g bs=some (v,f)):a2R Tryz.prog 288 g bs v f:=by
 unfold a8V at h;split at h
 .next s t=>
  split at h
  .next hs=>
   simp only[az0,az8]at h;obtain⟨rfl,rfl⟩:=h;refine d1y (us0:=[.string s,.string t]) (by decide+kernel) (λ x hx=> ?_) λ w hw=> ?_
   .obtain⟨y,_,rfl⟩:=ax5.1 hx;rfl
   .obtain⟨m,hm⟩:=hw.max;refine(Any.strings_Split d8I (by kernel_rfl) s t m w hs.1 hm hs.2).mono λ e w' ⟨h1,h2⟩=> ?_;have hl:((Lib.splitB t 0 (Lib.countB s t) s).map Value.string).length=Lib.countB s t+1:=by
     rw[ap3];exact Lib.splitB_all t hs.2 0 _ s rfl
    refine⟨w.heap.size,Lib.countB s t+1,by rw[h1,hl],by grind,ay3 _,λ i x hx=> ?_,by rw[h2];exact(Below.refl _ w).alloc (ay3 _) _⟩;simp_all
  .cases h
 .cases h
end
section
open Go.RowKit Go.Proofs
def b1q:List V->Option (List ByteArray)
 |[]=>some []
 | .lit (.string s)::r=>(b1q r).map (s:: ·)
 |_::_=>none
def c0G:a5o:=λ a bs=>match a,bs with
 |[.nils,.lit (.string _)],[]=>some (vS [],[])
 |[.sl _ xs,.lit (.string t)],[]=>match b1q xs with
  |some l=>if l.length<=shM/\(Lib.join (l.map (·.data.toList)) t.data.toList).length<=shM then some (vS (Lib.join (l.map (·.data.toList)) t.data.toList),[])else none
  |none=>none
 |_,_=>none
theorem b6J:∀{xs:List V} {l:List ByteArray},b1q xs=some l->xs=l.map λ s=> .lit (.string s)
 |[],l,h=>by grind[b1q]
 |x::r,l,h=>by
  unfold b1q at h;split at h
  .grind
  .next s a e=>
   cases e;obtain⟨l',h1,rfl⟩:=az2.1 h;rw[b6J h1];rfl
  .cases h
variable {M:Mem} {μ:Pl} {u:Value}
theorem RepV.lit_eq{v:Value}(h:RepV M μ (.lit v) u):u=v:=by
 cases h with
 |rep h=>cases h;rfl
variable {us:Array Value} {a:V}
theorem two{b:V}(h:ListRep M μ [a,b] us.toList):∃u v,us= #[u,v]/\RepV M μ a u/\RepV M μ b v:=by
 obtain⟨l⟩:=us
 match l,h with
 |[u,v],h=>exact⟨u,v,rfl,h.2 0 a u rfl rfl,h.2 1 b v rfl rfl⟩
 |[],h=>cases h.1
 |[_],h=>cases h.1
 |_::_::_::_,h=>have:=h.1;simp at this
theorem one'(h:ListRep M μ [a] us.toList):∃u,us= #[u]/\RepV M μ a u:=by
 obtain⟨l⟩:=us
 match l,h with
 |[u],h=>exact⟨u,rfl,h.2 0 a u rfl rfl⟩
 |[],h=>cases h.1
 |_::_::_,h=>have:=h.1;simp at this
theorem c8r{o:Option (Nat×Nat×Bool)}{l:List ByteArray}(h:Rep M (.sl o (l.map λ s=> .lit (.string s))) u):
  ∃b off cap,u= .slice (some ⟨b,off,none⟩) l.length cap/\l.length<=cap/\∀(j:Nat) x,l[j]?=some x->M b (off+j)=some (.string x):=by
 generalize hx:(l.map λ s=>V.lit (.string s))=xs at h;cases h with
 | @sl _ _ A sz cap us h1 h2 h3 h4 h5=>
   subst hx;obtain⟨b,off,c⟩:=A;simp only at h2;subst h2;refine⟨b,off,cap,by simp,by simpa using h1,λ j x hj=> ?_⟩;have a:(l.map λ s=>V.lit (.string s))[j]?=some (.lit (.string x)):=by simp[hj]
   have hz:=(h3 _ (ax4 a)).1;have hz:sz=1:=by simpa[V.cells]using hz.symm
   subst hz;have e1:=h4 j _ 0 (.lit (.string x)) a rfl;have e2:=h5 j _ 0 (.lit (.string x)) a rfl;generalize us j 0=q at e1 e2;cases e2;simpa using e1
theorem d7J{xa:List V}{bs bs':List (List V)}{v:V}(h:c0G xa bs=some (v,bs')):a2R Tryz.prog 145 xa bs v bs':=by
 unfold c0G at h;split at h
 .next t=>
  simp only[az0,az8]at h;obtain⟨rfl,rfl⟩:=h;refine⟨by decide+kernel,λ {w M μ us ptc} hI hn ha=> ?_⟩;obtain⟨u1,u2,rfl,r1,r2⟩:=two ha;have:=r2.lit_eq;subst this;have:u1= .slice none 0 0:=by
   cases r1 with
   |rep h=>cases h;rfl
  subst this;refine(Any.strings_Join_none d2Z shX none 0 t w).mono λ e w' he=> ?_;obtain⟨rfl,rfl⟩:=he;exact a5Q (λ _=>rfl) hI (Mem.le_refl _) NewMem.refl (a1J rfl)
 .next o xs t=>
  split at h
  .next l hl=>
   split at h
   .next hb=>
    simp only[az0,az8]at h;obtain⟨rfl,rfl⟩:=h;have hx:=b6J hl;subst hx;refine⟨by decide+kernel,λ {w M μ us ptc} hI hn ha=> ?_⟩;obtain⟨u1,u2,rfl,r1,r2⟩:=two ha;have:=r2.lit_eq;subst this;have r1:Rep M (.sl o (l.map λ s=> .lit (.string s))) u1:=by
     cases r1 with
     |rep h=>exact h
    obtain⟨b,off,cap,rfl,hcap,hcell⟩:=c8r r1;have hcell':∀(j:Nat) x,l[j]?=some x->w.cell? ⟨b,off+j,none⟩=some (.string x):=λ j x hj=>hI.mem _ _ _ (hcell j x hj);cases l with
    |nil=>refine(Any.strings_Join_none d2Z shX (some ⟨b,off,none⟩) cap t w).mono λ e w' he=> ?_;obtain⟨rfl,rfl⟩:=he;exact a5Q (λ _=>rfl) hI (Mem.le_refl _) NewMem.refl (a1J rfl)
    |cons x r=>refine(Any.strings_Join d2Z shX b off cap (x::r) t w hcell' (b7U (hcell' 0 x rfl)) hb.1 hcap hb.2).mono λ e w' he=> ?_;obtain⟨rfl,hbel⟩:=he;exact a5Q (λ _=>rfl) (hI.below hbel) (Mem.le_refl _) NewMem.refl (a1J rfl)
   .cases h
  .cases h
 .cases h
end
section
open Go.RowKit Go.Proofs Go.Shelf
def a5k(x:Nat):Bool:=x==32||x==9
def a8i:a5o:=λ a bs=>match a,bs with
 |[.lit (.string s),.fn 349 [] []],[]=>if s.size<=4294967296 then some (.sl none (((Lib.goFieldsP a5k s).map Value.string).map .lit),[])else none
 |_,_=>none
theorem c5c{a b:Bool}(h:a=b):Ending.returned (.bool a)= .returned (.bool b):=by rw[h]
theorem d2q(x:Nat)(hx:x<=1114111)(w:World):Go.Calls Tryz.prog 349 #[.int .i32 (x:Int)] w λ e w'=>e= .returned (.bool (a5k x))/\w=w':=by
 have hb:a5k x=(((x:Int)==32)||((x:Int)==9)):=by
  rw[ao7];simp[a5k];omega
 have HB:=Lib.hid hb;clear hb
 go_enter Tryz.func349,Tryz.ntmps349
 go_wp2
 all_goals
  go_ret
  exact⟨c5c (by rw[HB.out];try simp[*]),rfl⟩
theorem c0Z(w:World):PredAtRunes Tryz.prog 349 #[] a5k w:=λ W x hx _=>
 (d2q x hx W).mono λ _ _ ⟨he,hw⟩=>⟨he,0,hw.symm⟩
theorem b4E(args:Array Value)(w:World):(callFunc 349 args).run Tryz.prog w= .ok (.enter 349 args) w:=
 enters_of Tryz.func349 (by kernel_rfl) rfl args w
theorem d7p{xa:List V}{bs bs':List (List V)}{v:V}(h:a8i xa bs=some (v,bs')):a2R Tryz.prog 348 xa bs v bs':=by
 unfold a8i at h;split at h
 .next s=>
  split at h
  .next hs=>
   simp only[az0,az8]at h;obtain⟨rfl,rfl⟩:=h;refine b8t (us0:= #[.string s,.func (.func 349) #[] #[]]) (by decide+kernel) (λ x hx=> ?_) (λ M μ us ha=> ?_) λ w hw=> ?_
   .obtain⟨y,_,rfl⟩:=ax5.1 hx;rfl
   .obtain⟨u1,u2,rfl,r1,r2⟩:=two ha;have:=r1.lit_eq;subst this;have:u2= .func (.func 349) #[] #[]:=by
     cases r2 with
     |rep h=>cases h with
      |fn h1 h2 _ _=>grind
     |fn h1 h2 _ _=>grind
    rw[this]
   .refine(Any.strings_FieldsFunc_runes d8L 349 #[] b4E a5k s w hs (c0Z w) (by kernel_rfl) (by kernel_rfl)).mono λ e w' he=> ?_;obtain⟨A,h1,hA,hown,hb⟩:=he;refine⟨A,(Lib.goFieldsP a5k s).length,by grind,by grind,hA,λ i x hx=> ?_,hb⟩;have:=(World.ownsRowF_of hown).cells (g:=A) rfl i x hx;grind[a2X]
  .cases h
 .cases h
end
section
open Go.RowKit Go.Proofs Go.Shelf
variable {P:Program} {base:Nat} {n q:List Nat} {t w p:World} {M r:Mem} {μ A:Pl} {g:G}
variable {b:Nat}
theorem Inv.put'(hI:Inv base q t M μ g w){id cap:Nat}{x h:Box}(hg:g id=some x)(hm:μ id=some (b,cap))(h0:x.held=0)(k:w.grownBy p (some b))
  (hx:BoxAt M μ p b cap h):Inv base q t M μ (upd [(id,some h)] g) p:=by
 obtain⟨_,hb⟩:=hI.at_ hg hm;have a:∀o u,M b o≠some u:=λ o u hM=>by have:=hI.sep id x b cap o u hg hm hM;omega
 refine hI.grow k (Pl.le_refl μ) (λ b' d=> ?_) ?_
 .injection d with d;subst d
  exact⟨hb,λ o u hM=>absurd hM (a o u)⟩
 .intro j y hy;by_cases e:id=j
  .subst e;have:y=h:=by simpa[upd]using hy.symm
   subst this;refine .inr ⟨b,cap,hm,hx,hb,λ o u hM=>absurd hM (a o u),λ i c z hi hz hc=> ?_⟩;have l:g i=some z:=by simpa[upd,hi,as7 hi]using hz
   exact hi (hI.inj i id b c cap ⟨z,l⟩ ⟨x,hg⟩ hc hm)
  .have f:g j=some y:=by simpa[upd,e]using hy
   exact .inl ⟨f,λ b' c hc m=>e (by injection m with m;subst m;exact hI.inj id j b' cap c ⟨x,hg⟩ ⟨y,f⟩ hm hc)⟩
variable {ms:List Nat} {v:V} {u:Value}
theorem b3D{m:Nat}{l:List (List V)}{ks:List Nat}(hv:∀s,a1R s v=(v,s))(hI:Inv base n t r μ g p)(hM:M.le r)(hn:NewMem base n M r)(hr:Rep r v u)
  (b:a0G (a1x g) ([],[]) (List.range m)=some (l,ms,ks)) (a:a1u g ms ks=true):d6f base n t M μ m v l u p:=by
 obtain⟨oss,e1,e2,e3,e4,e5,e6⟩:=a4N hI b (a1a _);have c:ks=(oss.flatten.flatMap a2y).reverse:=by simpa using e5
 refine⟨r,μ,g,ms,[],oss,hM,hn,Pl.le_refl _,hI,b9w hv λ _=> .rep (hr.mono a8H),by rw[e1];simp,by rw[e2];simp,λ j l os hj h1 h2=>e3 j j l os (ao6 hj) h1 h2,?_,?_⟩
 .have:=e6 (by simp);simp only at this;rw[c]at this;simpa using b0R.1 this
 .rw[c]at a;unfold a1u at a|-;rw[List.all_reverse]at a;simpa using a
def d0g:V->Bool
 | .lit (.int .u8 _)=>true
 |_=>false
theorem b2X:∃d,ED=d+1:=⟨159,by unfold ED;rfl⟩
theorem d2B{g:G}{x:V}(h:d0g x=true):a0C ED g ms x=some (x,ms):=by
 obtain⟨d,hd⟩:=b2X;rw[hd];unfold d0g at h;split at h
 .rfl
 .cases h
theorem b9u{g:G}{ms:List Nat}:∀{l:List V},l.all d0g=true->a0G (a0C ED g) ms l=some (l,ms)
 |[],_=>rfl
 |x::l,h=>by
  simp only[Az3,az6]at h;simp only[a0G,d2B h.1,b9u h.2]
theorem b5B{g:G}:a0C ED g ms .nils=some (.nils,ms):=by
 obtain⟨d,hd⟩:=b2X;rw[hd];rfl
def b3x:a5o:=λ a bs=>match a,bs with
 |[.ptr 0 0],[[c,.nils]]=>if a4Z c||a6J c then some (.tup [],[[.dptr [],.nils]])else none
 |[.ptr 0 0],[[c,.sl (some (ty,1,f)) l]]=>if(a4Z c||a6J c)&&l.all d0g then some (.tup [],[[.dptr [],.sl (some (ty,1,f)) l]])else none
 |_,_=>none
theorem b5n{w:World}{x y:Value}{T:Nat}{fr:Nat×Nat}(h:w.heap[b]?=some (.cells #[x,y] T fr))(v:Value):(w.setCell ⟨b,0,none⟩ v).heap[b]?=some (.cells #[v,y] T fr):=by
 grind[World.setCell]
theorem b4W{c b':V}{w:World}(hI:Inv w.heap.size n w M μ g w)(hg:g 0=some (.var [c,b']))(hc:c= .lit (.pointer none)\/c= .ptr 0 0)(hu:RepV M μ (.ptr 0 0) u):
  Go.Calls Tryz.prog 345 #[u] w λ e p=>e= .returned (.tuple #[])/\Inv w.heap.size n w M μ (upd [(0,some (.var [.ptr 0 0,b']))] g) p:=by
 obtain⟨b,cap,h1⟩:=hI.pl hg;obtain⟨⟨T,f,hb,a,i⟩,_⟩:=hI.at_ hg h1;have hu:u= .pointer (some ⟨b,0,none⟩):=by
  cases hu with
  |rep h=>cases h
  |ptr h=>grind
 subst hu;obtain⟨l⟩:=f
 match l,a with
 |[x,y],a=>
  have hx:=a.2.2 0 c x rfl rfl;have hy:=a.2.2 1 b' y rfl rfl;have d:w.cell? ⟨b,0,none⟩=some x:=by rw[a3z hb];rfl
  rcases hc with rfl|rfl
  .have:=hx.lit_eq;subst this;have hT:T=324:=i rfl;subst hT;refine(Any.Builder_copyCheck_fresh d5R d2E b w d (by simp[World.shape?,hb];rfl) (by simp[World.frozen?,hb])).mono λ e p he=> ?_;obtain⟨rfl,rfl⟩:=he;refine⟨rfl,hI.put' hg h1 rfl ⟨rfl,rfl,rfl,by simp_all,λ k hk m=>Below.heap_setCell w _ _ k λ e=>m (by rw[e])⟩ ?_⟩;refine⟨324,#[.pointer (some ⟨b,0,none⟩),y],b5n hb _,⟨rfl,λ z hz=> ?_,λ j z u hz hu=> ?_⟩,λ h=>by cases h⟩
   .rcases ay4.1 hz with rfl|hz
    .rfl
    .exact a.2.1 z (az9 _ hz)
   grind
  .have hx:x= .pointer (some ⟨b,0,none⟩):=by
    cases hx with
    |rep h=>cases h
    |ptr h=>grind
   subst hx;refine(Any.Builder_copyCheck_used d5R d2E b w d).mono λ e p he=> ?_;obtain⟨rfl,rfl⟩:=he;refine⟨rfl,hI.congr λ j=> ?_⟩;grind[upd]
 |[],a=>cases a.1
 |[_],a=>cases a.1
 |_::_::_::_,a=>have:=a.1;simp at this
theorem d8m{xa:List V}{bs bs':List (List V)}(h:b3x xa bs=some (v,bs')):a2R Tryz.prog 345 xa bs v bs':=by
 have hc':∀{c:V},(a4Z c||a6J c)=true->a0H 0 (a0J (([]:HP),1) c).1= .lit (.pointer none)\/a0H 0 (a0J (([]:HP),1) c).1= .ptr 0 0:=λ {c} h=>by
  unfold a4Z a6J at h;split at h
  .exact .inl rfl
  .split at h
   .exact .inr rfl
   .cases h
 have hc2:∀{c:V},(a4Z c||a6J c)=true->a0J (([]:HP),1) c=(c,[],1):=λ {c} h=>by
  unfold a4Z a6J at h;split at h
  .rfl
  .split at h
   .rfl
   .cases h
 unfold b3x at h;split at h
 .next c=>
  split at h
  .next hc=>
   simp only[az0,az8]at h;obtain⟨rfl,rfl⟩:=h;refine⟨by decide+kernel,λ {w M μ us n} hI hn ha=> ?_⟩;obtain⟨u,rfl,r1⟩:=one' ha;have hg:a0b (a0w 0 ([],[[c,V.nils]].length) [[c,V.nils]]).1 0=some (.var [a0H 0 c,.nils]):=by
    simp[a0w,a0f,hc2 hc,a0b];rfl
   have hc'':=hc' hc;rw[hc2 hc]at hc'';refine(b4W hI hg hc'' r1).mono λ e p he=> ?_;obtain⟨rfl,hI'⟩:=he;refine b3D (ms:=[]) (ks:=[]) (λ _=>rfl) hI' (Mem.le_refl _) NewMem.refl (.tup rfl λ j c u hc=>by simp at hc) ?_ rfl;show a0G _ _ [0]=_;simp[a0G,a1x,upd,a6J,a0S,a0h,b5B]
  .cases h
 .next c ty f l=>
  split at h
  .next hc=>
   simp only[az6]at hc;simp only[az0,az8]at h;obtain⟨rfl,rfl⟩:=h;refine⟨by decide+kernel,λ {w M μ us n} hI hn ha=> ?_⟩;obtain⟨u,rfl,r1⟩:=one' ha;have hbx:a0w 0 ([],1) [[c,V.sl (some (ty,1,f)) l]]=([(0,some (.var [a0H 0 c,.row 1 1 0 l.length])),(1,some (.row ty 1 l f))],2):=by
    simp only[a0w,a0f,hc2 hc.1];rfl
   have hg:a0b (a0w 0 ([],[[c,V.sl (some (ty,1,f)) l]].length) [[c,V.sl (some (ty,1,f)) l]]).1 0=some (.var [a0H 0 c,.row 1 1 0 l.length]):=by
    show a0b (a0w 0 ([],1) _).1 0=_;rw[hbx];rfl
   have hg1:a0b (a0w 0 ([],1) [[c,V.sl (some (ty,1,f)) l]]).1 1=some (.row ty 1 l f):=by
    rw[hbx];simp[a0b]
   have hc'':=hc' hc.1;rw[hc2 hc.1]at hc'';refine(b4W hI hg hc'' r1).mono λ e p he=> ?_;obtain⟨rfl,hI'⟩:=he;refine b3D (ms:=[]) (ks:=[1]) (λ _=>rfl) hI' (Mem.le_refl _) NewMem.refl (.tup rfl λ j c u hc=>by simp at hc) ?_ rfl;show a0G _ _ [0]=_;simp[a0G,a1x,upd,a6J,a0S,a0h,hg1,b9u hc.2]
  .cases h
 .cases h
end
end Go.PV
