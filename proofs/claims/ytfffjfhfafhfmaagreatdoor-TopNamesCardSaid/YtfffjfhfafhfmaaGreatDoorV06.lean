import Derived.Test.YtfffjfhfafhfmaaGreatDoorV00
import Derived.Test.YtfffjfhfafhfmaaGreatDoorV02
import Derived.Test.YtfffjfhfafhfmaaGreatDoorProg
import Derived.Test.YtfffjfhfafhfmaaGreatDoorV01
import Derived.Test.YtfffjfhfafhfmaaGreatDoorV03
set_option linter.all false
namespace Go.SN
section
open Go.PV
def a4n:Code->Bool
 | .seq a b| .cond _ a b=>a4n a&&a4n b
 | .block _ x| .scope x=>a4n x
 | .loop _=>false
 |_=>true
def a2K:Code->Bool
 | .seq a b| .cond _ a b=>(a4n a&&a2K b)||(a2K a&&a4n b)
 | .block _ x| .scope x=>a2K x
 |_=>true
def d0f(i:Nat)(c:AS->b4r)(b:List Nat)(d:List Ann)(a0 a:AS):b4r:=
 match a0D (d6Q a0 a b) d with
 |none=>none
 |some hs=>if hs.all (λ q=>a3I a0 a b q.2 q.1.facts q.1.rank)&&hs.any (λ q=>(c5Z a q.2 a0).isSome)then a1f (b8q c a hs) ((hs.drop i).take 1)else none
def c9F(i:Nat)(c:Nat->AS->b4r)(mb:Nat)(d:List Nat)(b:List Ann)(a:AS):b4r:=
 if b.isEmpty then a9V (c mb) 70 a else if decide (mb<=b9T mb a b)&&decide (b9T mb a b<=a.m)then d0f i (c (b9T mb a b)) d b a (d3n (b9T mb a b) a)else none
section
variable (P:Program) (ctx:Nat->List SumA) (inl:Nat->Bool) (ir:Ir) (dr:Array Oper->AS->Option (List AS)) (O:Nat->List Ann)
def a1V(i:Nat):Nat->Nat->Code->AS->b4r
 |_,_,.skip,a|_,_,.label _,a=>some [(.normal,a)]
 |_,_,.region _ ops false,a=>(a7Z P ctx inl ir ops ops.toList a).map λ l=>l.map λ a=>(.normal,b4V ops a)
 |_,_,.region _ ops true,a=>(dr ops a).map λ l=>l.map λ a=>(.normal,b4V ops a)
 |b,mb,.seq x y,a=>match a1V i b mb x {a with lv:=a3D y a.lv}with
  |none=>none
  |some l=>a1f (λ q=>match q.1 with
   | .normal=>fA {q.2 with lv:=a.lv,nb:=a.nb} (a1V i b mb y)
   |x=>some [(x,q.2)]) l
 |b,mb,.cond c x y,a=>match evA a c with
  |some (.bool q)=>
   match(match assume a q true with|some a=>a1V i b mb x a|none=>some []),(match assume a q false with|some a=>a1V i b mb y a|none=>some [])with
   |some l,some r=>some (l++r)
   |_,_=>none
  |_=>none
 |_,mb,.block id x,a=>(a1V i id mb x a).map λ l=>l.map (b0k id)
 |b,mb,.loop x,a=>c9F i (λ mb=>a2d P ctx inl ir dr O b mb x) mb (c1F x) (O b) (a7o {a with lv:=a3D x a.lv})
 |b,mb,.scope x,a=>a1V i b mb x a
 |_,_,.exit id,a=>some [(.exit id,a)]
 |_,_,.ret,a=>some [(.ret,a)]
 |_,_,_,_=>none
def c4p(k:Nat)(c:SumA)(i:Nat):Bool:=
 match P.funcs[k]? with
 |none=>false
 |some fn=>match fn.body with
  |none=>false
  |some a=>if max c.args.length fn.ntmps>256 then false else
   match a1V P ctx inl ir dr O i 999 c.boxes.length a {b9M c (max c.args.length fn.ntmps)with lv:=c8S fn,nb:=c.n}with
   |none=>false
   |some b=>b.all (d0E P k fn c)
end
section
variable {P:Program} {ctx:Nat->List SumA} {inl:Nat->Bool} {ir:Ir} {dr:Array Oper->AS->Option (List AS)} {O:Nat->List Ann}
theorem a9u(i:Nat):∀{c:Code},a4n c=true->∀(b mb:Nat) (a:AS),a1V P ctx inl ir dr O i b mb c a=a2d P ctx inl ir dr O b mb c a:=by
 intro c;induction c with
 |seq x y f e=>intro h b mb a;simp only[a4n,az6]at h;have hy:a1V P ctx inl ir dr O i b mb y=a2d P ctx inl ir dr O b mb y:=Ax9 λ a=>e h.2 b mb a;grind[a1V,a2d]
 |cond c x y f e=>intro h b mb a;simp only[a4n,az6]at h;grind[a1V,a2d]
 |block id x ih=>grind[a4n,a1V,a2d]
 |scope x ih=>grind[a4n,a1V,a2d]
 |loop x ih=>intro h;cases h
 |region id ops d=>intro _ b mb a;cases d<;>simp only[a1V,a2d]
 |_=>grind[a1V,a2d]
theorem b8w{A B:Type}{f:A->Option (List B)}:∀{l:List A},(∀q∈l,∃y,f q=some y)->∃r,a1f f l=some r/\∀z∈r,∃q∈l,∃y,f q=some y/\z∈y
 |[],_=>⟨[],rfl,λ z h=>by cases h⟩
 |a::l,h=>by
  obtain⟨y,hy⟩:=h a (ay1 ..);obtain⟨r,hr,hm⟩:=b8w (l:=l) λ q hq=>h q (az9 _ hq);refine⟨y++r,by grind[a1f],λ z hz=> ?_⟩;grind
theorem b0q{A B:Type}{f:A->Option (List B)}:∀{hs:List A} {n:Nat},hs.length<=n->(∀i,i<n->∃l,a1f f ((hs.drop i).take 1)=some l)->∃l,a1f f hs=some l/\∀q∈l,∃i,i<n/\∃li,a1f f ((hs.drop i).take 1)=some li/\q∈li
 |[],n,_,_=>⟨[],rfl,λ q h=>by cases h⟩
 |h::r,0,hl,_=>by simp at hl
 |h::r,n+1,hl,hp=>by
  obtain⟨l0,h0⟩:=hp 0 (by omega);have a:=h0;simp only[Ax3,Aw6,List.take_zero,a1f]at h0;cases hf:f h with
  |none=>grind
  |some x=>
   rw[hf]at h0;simp only[ap8,az0]at h0;subst h0;obtain⟨l,h1,h2⟩:=b0q (hs:=r) (n:=n) (by grind) λ i hi=>by
    have:=hp (i+1) (by omega);simpa using this
   refine⟨x++l,by grind[a1f],λ q hq=> ?_⟩;grind
theorem c8f{A B:Type}{f:A->Option B}{l:List A}{r:List B}(h:a0D f l=some r):r.length=l.length:=(a2p h).1
theorem c8M{n:Nat}(hn:0<n)(s:∀b,(O b).length<=n):∀{c:Code},a2K c=true->∀(b mb:Nat) (a:AS),(∀i,i<n->∃l,a1V P ctx inl ir dr O i b mb c a=some l)->
  ∃l,a2d P ctx inl ir dr O b mb c a=some l/\∀q∈l,∃i,i<n/\∃li,a1V P ctx inl ir dr O i b mb c a=some li/\q∈li:=by
 have m:∀{c:Code},a4n c=true->∀(b mb:Nat) (a:AS),(∀i,i<n->∃l,a1V P ctx inl ir dr O i b mb c a=some l)->
   ∃l,a2d P ctx inl ir dr O b mb c a=some l/\∀q∈l,∃i,i<n/\∃li,a1V P ctx inl ir dr O i b mb c a=some li/\q∈li:=λ {c} hc b mb a h=>by
  grind[a9u]
 intro c;induction c with
 |seq x y g e=>
  intro ho b mb a h;simp only[a2K,ay8,az6]at ho;have step:∀i,i<n->∃lx li,a1V P ctx inl ir dr O i b mb x {a with lv:=a3D y a.lv}=some lx/\a1f (λ q=>match q.1 with
    | .normal=>fA {q.2 with lv:=a.lv,nb:=a.nb} (a1V P ctx inl ir dr O i b mb y)
    |x=>some [(x,q.2)]) lx=some li/\a1V P ctx inl ir dr O i b mb (.seq x y) a=some li:=λ i hi=>by
   grind[a1V]
  have key:∀lx,a2d P ctx inl ir dr O b mb x {a with lv:=a3D y a.lv}=some lx->(∀q∈lx,∃z,(match q.1 with
    | .normal=>fA {q.2 with lv:=a.lv,nb:=a.nb} (a2d P ctx inl ir dr O b mb y)
    |x=>some [(x,q.2)])=some z/\∀w∈z,∃i,i<n/\∃li,a1V P ctx inl ir dr O i b mb (.seq x y) a=some li/\w∈li)->
    ∃l,a2d P ctx inl ir dr O b mb (.seq x y) a=some l/\∀q∈l,∃i,i<n/\∃li,a1V P ctx inl ir dr O i b mb (.seq x y) a=some li/\q∈li:=λ lx hx hq=>by
   obtain⟨r,hr,hm⟩:=b8w (f:=λ q:Ex×AS=>(match q.1 with
    | .normal=>fA {q.2 with lv:=a.lv,nb:=a.nb} (a2d P ctx inl ir dr O b mb y)
    |x=>some [(x,q.2)])) (l:=lx) λ q k=>by
     grind
   refine⟨r,by simp only[a2d,hx];exact hr,λ w hw=> ?_⟩;obtain⟨q,k,z,hz,v⟩:=hm w hw;obtain⟨N,h1,h2⟩:=hq q k;rw[hz]at h1;cases h1;exact h2 w v
  rcases ho with⟨hx,hy⟩|⟨hx,hy⟩
  .obtain⟨lx,l0,e1,e2,e3⟩:=step 0 hn;have ex:a2d P ctx inl ir dr O b mb x {a with lv:=a3D y a.lv}=some lx:=by rw[<-a9u 0 hx];exact e1
   refine key lx ex λ q hq=> ?_;have all:∀i,i<n->∃li,a1V P ctx inl ir dr O i b mb (.seq x y) a=some li/\∃z,(match q.1 with
     | .normal=>fA {q.2 with lv:=a.lv,nb:=a.nb} (a1V P ctx inl ir dr O i b mb y)
     |x=>some [(x,q.2)])=some z/\∀w∈z,w∈li:=λ i hi=>by
    obtain⟨A,li,f1,f2,f3⟩:=step i hi;rw[a9u i hx,ex]at f1;cases f1;obtain⟨z,g1,g2⟩:=a2x f2 q hq;grind
   obtain⟨B,C⟩:=q;cases B with
   |normal=>
    simp only[d5v]at all|-;obtain⟨ly,h1,h2⟩:=e hy b mb {C with lv:=a.lv,nb:=a.nb} λ i hi=>by
     grind
    refine⟨ly,h1,λ w hw=> ?_⟩;obtain⟨i,hi,D,g1,g2⟩:=h2 w hw;grind
   |exit j=>grind
   |ret=>grind
  .obtain⟨lx,ex,hm⟩:=g hx b mb {a with lv:=a3D y a.lv} λ i hi=>by
    grind
   refine key lx ex λ q hq=> ?_;obtain⟨i,hi,E,g1,g2⟩:=hm q hq;obtain⟨A,li,f1,f2,f3⟩:=step i hi;rw[g1]at f1;cases f1;obtain⟨z,k1,k2⟩:=a2x f2 q g2;have F:a1V P ctx inl ir dr O i b mb y=a2d P ctx inl ir dr O b mb y:=Ax9 λ a=>a9u i hy b mb a;grind
 |cond c x y g e=>
  intro ho b mb a h;simp only[a2K,ay8,az6]at ho;have step:∀i,i<n->∃q lx ly,evA a c=some (.bool q)/\(match assume a q true with|some a=>a1V P ctx inl ir dr O i b mb x a|none=>some [])=some lx/\(match assume a q false with|some a=>a1V P ctx inl ir dr O i b mb y a|none=>some [])=some ly/\a1V P ctx inl ir dr O i b mb (.cond c x y) a=some (lx++ly):=λ i hi=>by
   obtain⟨li,h1⟩:=h i hi;have h2:=h1;simp only[a1V]at h2;split at h2
   .next q hq=>
    split at h2;all_goals grind
   .cases h2
  obtain⟨q,G,H,hq,e1,e2,e3⟩:=step 0 hn;have o:∀{z:Code} {t:Bool},a2K z=true->(a2K z=true->∀(b mb:Nat) (a:AS),(∀i,i<n->∃l,a1V P ctx inl ir dr O i b mb z a=some l)->
    ∃l,a2d P ctx inl ir dr O b mb z a=some l/\∀q∈l,∃i,i<n/\∃li,a1V P ctx inl ir dr O i b mb z a=some li/\q∈li)->
    (∀i,i<n->∃l,(match assume a q t with|some a=>a1V P ctx inl ir dr O i b mb z a|none=>some [])=some l)->
    ∃l,(match assume a q t with|some a=>a2d P ctx inl ir dr O b mb z a|none=>some [])=some l/\∀w∈l,∃i,i<n/\∃li,(match assume a q t with|some a=>a1V P ctx inl ir dr O i b mb z a|none=>some [])=some li/\w∈li:=by
   intro z t hz ih hp;cases hA:assume a q t with
   |none=>grind
   |some I=>simp only[hA]at hp;exact ih hz b mb I hp
  have one:∀{z:Code},a4n z=true->a2K z=true:=by
   intro z;induction z with
   |seq x y g e=>intro h;simp only[a4n,az6]at h;simp only[a2K,h.1,e h.2,an5,Bool.true_or]
   |cond c x y g e=>intro h;simp only[a4n,az6]at h;simp only[a2K,h.1,e h.2,an5,Bool.true_or]
   |block id x ih=>intro h;exact ih h
   |scope x ih=>intro h;exact ih h
   |_=>intro _;rfl
  have u:a2K x=true/\a2K y=true:=by
   rcases ho with⟨a1,a2⟩|⟨a1,a2⟩
   .grind
   .exact⟨a1,one a2⟩
  obtain⟨lx,J,K⟩:=o (t:=true) u.1 g λ i hi=>by
   obtain⟨p,lx,ly,k1,k2,k3,k4⟩:=step i hi;grind
  obtain⟨ly,L,M⟩:=o (t:=false) u.2 e λ i hi=>by
   obtain⟨p,lx,ly,k1,k2,k3,k4⟩:=step i hi;grind
  refine⟨lx++ly,?_,λ w hw=> ?_⟩
  .simp only[a2d,hq];cases hA:assume a q true<;>cases hB:assume a q false<;>simp only[hA,hB]at J L|-<;>simp_all
  rcases ax1.1 hw with hw|hw
  .obtain⟨i,hi,li,g1,g2⟩:=K w hw;obtain⟨p,lx,ly,k1,k2,k3,k4⟩:=step i hi;grind
  .obtain⟨i,hi,li,g1,g2⟩:=M w hw;obtain⟨p,lx,ly,k1,k2,k3,k4⟩:=step i hi;grind
 |block id x ih=>
  intro ho b mb a h;have hs:∀i,i<n->∃l,a1V P ctx inl ir dr O i id mb x a=some l:=λ i hi=>by
   grind[a1V,az2]
  obtain⟨l,h1,h2⟩:=ih ho id mb a hs;refine⟨l.map (b0k id),by grind[a2d],λ q hq=> ?_⟩;obtain⟨p,k,rfl⟩:=ax5.1 hq;obtain⟨i,hi,li,g1,g2⟩:=h2 p k;exact⟨i,hi,li.map (b0k id),by grind[a1V],ax5.2 ⟨p,g2,rfl⟩⟩
 |scope x ih=>intro ho b mb a h;simp only[a1V]at h;simp only[a1V,a2d];exact ih ho b mb a h
 |loop x ih=>
  intro ho b mb a h;simp only[a1V]at h;simp only[a1V,a2d];unfold c9F at h|-;unfold c8t;split
  .next he=>
   obtain⟨l,hl⟩:=h 0 hn;rw[ax3 he]at hl;exact⟨l,hl,λ q hq=>⟨0,hn,l,hl,hq⟩⟩
  .next he=>
   simp only[he,av8,ay6]at h;split
   .next hm=>
    simp only[hm,aw4]at h;unfold d0f at h|-;unfold c6v;cases hh:a0D (d6Q (a7o {a with lv:=a3D x a.lv}) (d3n (b9T mb (a7o {a with lv:=a3D x a.lv}) (O b)) (a7o {a with lv:=a3D x a.lv})) (c1F x)) (O b)with
    |none=>grind
    |some hs=>
     simp only[hh]at h|-;split
     .next hc=>
      simp only[hc,aw4]at h|-;exact b0q (by rw[c8f hh];exact s b) h
     grind
   grind
 |region id ops d=>intro _ b mb a h;exact m rfl b mb a h
 |_=>intro _ b mb a h;exact m rfl b mb a h
theorem b4X{n:Nat}(hn:0<n)(d:∀b,(O b).length<=n){k:Nat}{c:SumA}(ho:∀fn a,P.funcs[k]?=some fn->fn.body=some a->a2K a=true)(h:∀i,i<n->c4p P ctx inl ir dr O k c i=true):b4D P ctx inl ir dr O k c=true:=by
 unfold c4p at h;unfold b4D;cases hf:P.funcs[k]? with
 |none=>grind
 |some fn=>
  simp only[hf]at h|-;cases hb:fn.body with
  |none=>grind
  |some a=>
   simp only[hb]at h|-;split
   .grind
   .next hg=>
    simp only[hg,av8]at h;obtain⟨l,h1,h2⟩:=c8M (P:=P) (ctx:=ctx) (inl:=inl) (ir:=ir) (dr:=dr) hn d (ho fn a hf hb) 999 c.boxes.length {b9M c (max c.args.length fn.ntmps)with lv:=c8S fn,nb:=c.n} λ i hi=>by
     grind
    grind
end
def rowPart(P:Program)(pr:List Nat)(inl:Nat->Bool)(ai:List (Nat×List (Nat×List Ann)))(rows:List Row)(i p:Nat):Bool:=
 match rows[i]? with
 |none=>true
 |some r=> !pr.contains r.k&&c4p P (b6W i rows) inl (irL P (b6W i rows) inl (drS P (b6W i rows) inl) (lkI ai) 3) (drS P (b6W i rows) inl) (lkA r.ann) r.k r.c p
def c9k(P:Program)(rows:List Row)(i n:Nat):Bool:=
 match rows[i]? with
 |none=>true
 |some r=>(match P.funcs[r.k]? with
  |none=>true
  |some fn=>match fn.body with
   |none=>true
   |some b=>a2K b)&&r.ann.all λ q=>decide (q.2.length<=n)
theorem b7L{P:Program}{pr:List Nat}{inl:Nat->Bool}{ai:List (Nat×List (Nat×List Ann))}{rows:List Row}{i n:Nat}(hn:0<n)(h1:c9k P rows i n=true)(h:∀p,p<n->rowPart P pr inl ai rows i p=true):b7y P pr inl ai rows i=true:=by
 unfold c9k at h1;unfold rowPart at h;unfold b7y;cases hr:rows[i]? with
 |none=>rfl
 |some r=>
  simp only[hr,az6,ax2]at h h1|-;refine⟨(h 0 hn).1,b4X hn (λ b=> ?_) (λ fn a hf hb=> ?_) λ p hp=>(h p hp).2⟩
  .unfold lkA;cases hl:r.ann.lookup b with
   |none=>grind
   |some l=>grind[List.lookup_eq_some_iff]
  grind
end
end Go.SN
namespace Go.PV
section
open Go Go.Proofs
noncomputable abbrev P0:=Tryz.prog
abbrev iV(n:Int):V:= .lit (.int .i64 n)
abbrev sV(b:ByteArray):V:= .lit (.string b)
abbrev bV(b:Bool):V:= .lit (.bool b)
section
variable {P:Program} {t:Nat} {d:TypeDesc} {x y:Operand} {a b:Int} {k:IntKind}
theorem a6Z(op:BinOp)(hd:P.underlying t=some d)(h:op≠ .shl)(c:op≠ .shr):a3w P op t x y (.lit (.int k a)) (.lit (.int k b))=a0t P (Go.binOp op t (.int k a) (.int k b)):=by
 unfold a3w;rw[hd];have:a2U d (.lit (.int k a)) (.lit (.int k b))=false:=by cases d<;>rfl
 simp only[Az0,az1,this,a0W,a1b,ay6,av8];cases op<;>first|rfl|(exact absurd rfl h)|(exact absurd rfl c)
theorem a0l(hd:P.underlying t=some d):a3w P .eql t x y (.lit (.int k a)) (.lit (.int k b))=some (bV (a==b)):=by
 rw[a6Z _ hd (by decide) (by decide)];simp[Go.binOp,Op.intCmp,a0t,a1w,a0Z,sc];rfl
theorem a7Y(hd:P.underlying t=some d):a3w P .neq t x y (.lit (.int k a)) (.lit (.int k b))=some (bV (a !=b)):=by
 rw[a6Z _ hd (by decide) (by decide)];simp[Go.binOp,Op.intCmp,a0t,a1w,a0Z,sc];rfl
theorem a2f(hd:P.underlying t=some d):a3w P .lss t x y (.lit (.int k a)) (.lit (.int k b))=some (bV (decide (a<b))):=by
 rw[a6Z _ hd (by decide) (by decide)];simp[Go.binOp,Op.intCmp,a0t,a1w,a0Z,sc];rfl
theorem a0z(hd:P.underlying t=some d):a3w P .gtr t x y (.lit (.int k a)) (.lit (.int k b))=some (bV (decide (a>b))):=by
 rw[a6Z _ hd (by decide) (by decide)];simp[Go.binOp,Op.intCmp,a0t,a1w,a0Z,sc];rfl
theorem a7V(hd:P.underlying t=some d):a3w P .geq t x y (.lit (.int k a)) (.lit (.int k b))=some (bV (decide (a>=b))):=by
 rw[a6Z _ hd (by decide) (by decide)];simp[Go.binOp,Op.intCmp,a0t,a1w,a0Z,sc];rfl
theorem a2V(hd:P.underlying t=some d):a3w P .add t x y (.lit (.int k a)) (.lit (.int k b))=some (.lit (.int k (k.wrap (a+b)))):=by
 rw[a6Z _ hd (by decide) (by decide)];simp[Go.binOp,Op.intArith,a0t,a1w,a0Z,sc];rfl
theorem c5s(hd:P.underlying t=some d):a3w P .sub t x y (.lit (.int k a)) (.lit (.int k b))=some (.lit (.int k (k.wrap (a-b)))):=by
 rw[a6Z _ hd (by decide) (by decide)];simp[Go.binOp,Op.intArith,a0t,a1w,a0Z,sc];rfl
theorem a0y{u v:ByteArray}(hd:P.underlying t=some d):a3w P .eql t x y (sV u) (sV v)=some (bV (u.toList==v.toList)):=by
 unfold a3w;rw[hd];have:a2U d (sV u) (sV v)=false:=by cases d<;>rfl
 simp only[Az0,az1,this,a0W,a1b,ay6,av8];rfl
theorem a1s{v:Bool}:a0t P (Op.unary .not (.bool v))=some (bV (!v)):=by rfl
end
def d3Y(ops:Array Oper)(n:Nat):List (Nat×Nat):=(List.range n).flatMap λ j=>(List.range j).filterMap λ i=>if((Region.before ops).getD j 0).testBit i then none else some (i,j)
theorem a7D{ops:Array Oper}{fs:List (List Nat×List Nat)}{n:Nat}{us:List (Nat×Nat)}(h0:a8E ops=true)(hn:fs.length=n)(hu:d3Y ops n=us)(h:∀q∈us,a7k (fs.getD q.1 ([],[])) (fs.getD q.2 ([],[]))=false):a6F ops fs=true:=by
 unfold a6F;simp only[h0,As0,ay5];rintro⟨fj,j⟩ hj ⟨fi,i⟩ hi;obtain⟨j1,j2⟩:=List.mem_zipIdx' hj;obtain⟨i1,i2⟩:=List.mem_zipIdx' hi;simp only[ay8,ax2];have c:i<j:=by rw[au7]at i1;omega
 by_cases hb:((Region.before ops).getD j 0).testBit i=true
 .grind
 .right;have hm:(i,j)∈us:=by
   rw[<-hu];unfold d3Y;rw[ax9];refine⟨j,aq2.2 (by omega),?_⟩;rw[Az5];exact⟨i,aq2.2 c,by grind⟩
  have:=h _ hm;have ej:fs.getD j ([],[])=fj:=by
   rw[aq0,az5 j1,<-j2];rfl
  have ei:fs.getD i ([],[])=fi:=by
   have e:i<fs.length:=by omega
   rw[List.getElem_take]at i2;rw[aq0,az5 e,i2];rfl
  simp only at this;rw[ej,ei]at this;exact this
theorem dbl(k p:Nat):(k=2*p)=(k % 2=0/\k/2=p):=by grind
set_option maxRecDepth 10000
theorem a1E:a1M P0 250=some 1:=by rfl
theorem a8n:a1M P0 399=some 5:=by rfl
theorem a0P:b4T P0 250=some false:=by rfl
theorem a1v:a2G P0 250=some 399:=by rfl
theorem tgp{t:T}{i j:Nat}{v:V}(hi:i<256)(hj:j<256):T.get 8 (T.put 8 t i v) j=if j=i then v else T.get 8 t j:=T.get_put 8 t i j v hi hj
theorem tgl{j:Nat}:T.get 8 .leaf j= .und:=by rfl
def a1e:Code->Code
 | .seq _ b=>b
 |c=>c
def a2I:Code->Code
 | .seq a _=>a
 |c=>c
noncomputable def a0n(k:Nat):Code:=((Tryz.prog.funcs[k]?).bind (·.body)).getD .skip
theorem a2E:a1M P0 153=some 4:=by rfl
theorem sz3:a1M P0 3=some 1:=by rfl
theorem sz9:a1M P0 9=some 1:=by rfl
theorem a2k:a1M P0 254=some 3:=by rfl
theorem ag3:b4T P0 3=some false:=by rfl
theorem ag9:b4T P0 9=some false:=by rfl
theorem a2j:b4T P0 254=some true:=by rfl
theorem a3Q:b4T P0 153=some true:=by rfl
theorem a5z(a b:V)(l:List V):bk (a::b::l)=(a4Z a&&l.isEmpty):=by
 cases l with
 |nil=>simp[bk]
 |cons=>simp[bk]
theorem anb(A B:Prop):((A/\B)/\(A->¬B))=False:=eq_false λ h=>h.2 h.1.1 h.1.2
end
end Go.PV
namespace Go.PV.JS
section
open Go Go.PV Go.Proofs
def SB:Nat:=1048576
def KeysOk(N:Nat)(g:G)(v:V)(ids:List Nat):Prop:=
 (v= .nils/\ids=[])\/∃id xs,v= .row id 1 0 xs.length/\g id=some (.row 9 1 xs false)/\xs.length<=N/\(∀x∈xs,∃s:ByteArray,x=sV s/\s.size<=SB)/\ids=[id]
def DocsOk(D:V->List Nat->Prop):List V->List Nat->Prop
 |[],ids=>ids=[]
 |x::xs,ids=>∃a b,D x a/\DocsOk D xs b/\ids=a++b
def ItemsOk(N:Nat)(D:V->List Nat->Prop)(g:G)(v:V)(ids:List Nat):Prop:=
 (v= .nils/\ids=[])\/∃id xs r,v= .row id 4 0 xs.length/\g id=some (.row 153 4 xs false)/\xs.length<=N/\DocsOk D xs r/\ids=id::r
def kOk(k:Int):Prop:= -9223372036854775808<=k/\k<=9223372036854775807
def DocOk(N:Nat)(g:G):Nat->V->List Nat->Prop
 |0,_,_=>False
 |d+1,v,ids=>∃k t ks is a b,v= .agg [iV k,sV t,ks,is]/\kOk k/\t.size<=SB/\KeysOk N g ks a/\ItemsOk N (DocOk N g d) g is b/\ids=a++b
def BmE(es:List (V×V)):Prop:=∀q∈es,(∃s,q.1=sV s)/\q.2=bV true
def LvOk(N:Nat)(g:G)(d:Nat)(lv:V)(ids:List Nat):Prop:=
 ∃k t ks is m es a b,lv= .agg [iV k,sV t,ks,is,.map m]/\kOk k/\t.size<=SB/\KeysOk N g ks a/\ItemsOk N (DocOk N g d) g is b/\g m=some (.map es)/\BmE es/\ids=m::(a++b)
def LvsOk(N:Nat)(g:G):List V->List Nat->Prop
 |[],ids=>ids=[]
 |lv::c,ids=>∃a b,LvOk N g (64-c.length) lv a/\LvsOk N g c b/\ids=a++b/\c.length<64
def StOk(N:Nat)(g:G)(b:V)(lvls:List V)(ids:List Nat):Prop:=
 (b= .nils/\lvls=[]/\ids=[])\/∃a c r,b= .row a 5 0 lvls.length/\g a=some (.row 399 5 (lvls.reverse++c) false)/\LvsOk N g lvls r/\ids=a::r
def Uni(l:List Nat):Prop:=∀i,l.count i<=1
def JOk(N:Nat)(g:G)(nx lo p:Nat)(w:Int)(lvls:List V)(own:List Nat):Prop:=
 ∃b nd o0 o1 o2 o3 sids a,g p=some (.var [b,iV w,iV nd,o0,o1,o2,o3])/\DocOk N g 65 (.agg [o0,o1,o2,o3]) a/\StOk N g b lvls sids/\
  own=sids++a/\Uni (p::own)/\(∀i∈p::own,lo<=i/\i<nx)/\0<=nd/\nd<=20000/\lvls.length<=64
section
variable {N M d:Nat} {g g':G} {v:V} {ids:List Nat}
theorem KeysOk.frame(h:KeysOk N g v ids)(hN:N<=M)(hg:∀i∈ids,g' i=g i):KeysOk M g' v ids:=by
 rcases h with h|⟨id,xs,h1,h2,h3,h4,h5⟩
 .exact .inl h
 .exact .inr ⟨id,xs,h1,by grind,by omega,h4,h5⟩
theorem DocsOk.frame{D e:V->List Nat->Prop}:∀{xs:List V} {ids:List Nat},DocsOk D xs ids->(∀x a,D x a->(∀i∈a,i∈ids)->e x a)->DocsOk e xs ids
 |[],_,h,_=>h
 |x::xs,ids,⟨a,b,h1,h2,h3⟩,k=>⟨a,b,k x a h1 (λ i hi=>by grind),h2.frame (λ x c hx hc=>k x c hx λ i hi=>by grind),h3⟩
theorem ItemsOk.frame{D b:V->List Nat->Prop}(h:ItemsOk N D g v ids)(hN:N<=M)(hg:∀i∈ids,g' i=g i)(k:∀x a,D x a->(∀i∈a,i∈ids)->b x a):ItemsOk M b g' v ids:=by
 rcases h with h|⟨id,xs,r,h1,h2,h3,h4,h5⟩
 .exact .inl h
 .exact .inr ⟨id,xs,r,h1,by grind,by omega,h4.frame λ x a hx ha=>k x a hx λ i hi=>by grind,h5⟩
theorem DocOk.frame:∀{d:Nat} {v:V} {ids:List Nat},DocOk N g d v ids->N<=M->(∀i∈ids,g' i=g i)->DocOk M g' d v ids
 |0,_,_,h,_,_=>h.elim
 |d+1,v,ids,⟨k,t,ks,is,a,b,h1,h2,h3,h4,h5,h6⟩,hN,hg=>
  ⟨k,t,ks,is,a,b,h1,h2,h3,h4.frame hN λ i hi=>hg i (by grind),h5.frame hN (λ i hi=>hg i (by grind)) λ x c hx hc=>hx.frame hN λ i hi=>hg i (by grind),h6⟩
theorem LvOk.frame(h:LvOk N g d v ids)(hN:N<=M)(hg:∀i∈ids,g' i=g i):LvOk M g' d v ids:=by
 obtain⟨k,t,ks,is,m,es,a,b,h1,h2,h3,h4,h5,h6,h7,h8⟩:=h;exact⟨k,t,ks,is,m,es,a,b,h1,h2,h3,h4.frame hN λ i hi=>hg i (by grind),h5.frame hN (λ i hi=>hg i (by grind)) λ x c hx hc=>hx.frame hN λ i hi=>hg i (by grind),by grind,h7,h8⟩
theorem LvsOk.frame:∀{l:List V} {ids:List Nat},LvsOk N g l ids->N<=M->(∀i∈ids,g' i=g i)->LvsOk M g' l ids
 |[],_,h,_,_=>h
 |lv::c,ids,⟨a,b,h1,h2,h3,h4⟩,hN,hg=>⟨a,b,h1.frame hN λ i hi=>hg i (by grind),h2.frame hN λ i hi=>hg i (by grind),h3,h4⟩
theorem StOk.frame{l:List V}(h:StOk N g v l ids)(hN:N<=M)(hg:∀i∈ids,g' i=g i):StOk M g' v l ids:=by
 rcases h with h|⟨b,a,r,h1,h2,h3,h4⟩
 .exact .inl h
 .exact .inr ⟨b,a,r,h1,by grind,h3.frame hN λ i hi=>hg i (by grind),h4⟩
theorem JOk.frame{nx nx' lo p:Nat}{w:Int}{l:List V}{own:List Nat}(h:JOk N g nx lo p w l own)(hN:N<=M)(hx:nx<=nx')(hg:∀i,i<nx->g' i=g i):JOk M g' nx' lo p w l own:=by
 obtain⟨b,nd,o0,o1,o2,o3,sids,a,h1,h2,h3,h4,h5,h6,h7,h8,h9⟩:=h;have hi:∀i∈p::own,g' i=g i:=λ i hi=>hg i (h6 i hi).2;subst h4;exact⟨b,nd,o0,o1,o2,o3,sids,a,by grind,h2.frame hN λ i h=>hi i (by simp[h]),h3.frame hN λ i h=>hi i (by simp[h]),rfl,h5,λ i h=>by grind,h7,h8,h9⟩
noncomputable def a1l(call:Calls)(n:Nat)(k:Nat)(args:List V)(h:HP)(nx:Nat):Option (V×HP×Nat):=(a1j P0 call n k args h nx).map λ r=>(r.1,r.2.h,r.2.nx)
variable {call:Calls} {c:Code} {x:Ex} {fn:Func} {h:HP} {args:List V} {k n nx nx':Nat}
theorem a1t{r:Nat}{b:HP}{v:V}(hf:P0.funcs[k]?=some fn)(hb:fn.body=some c)(hr:fn.results.toList=[.tmp r])(e:r<256)(hs:max args.length fn.ntmps<=256)(hx:∀i,x≠ .exit i)
  (he:∃a,a0e P0 call n c {env:=a0u args 0 .leaf,h:=h,nx:=nx,sz:=max args.length fn.ntmps}=some (x,{env:=a,h:=b,nx:=nx',sz:=max args.length fn.ntmps})/\T.get 8 a r=v):
  a1l call n k args h nx=some (v,b,nx'):=by
 obtain⟨a,h1,h2⟩:=he;unfold a1l a1j;simp only[hf,hb,Az0,az1,aq9.2 hs,av8,h1];have:a0m P0 fn {env:=a,h:=b,nx:=nx',sz:=max args.length fn.ntmps}=some v:=by
  simp[a0m,hr,a0D,St.get,e,h2]
 grind
theorem a9m{a:HP}(hf:P0.funcs[k]?=some fn)(hb:fn.body=some c)(hr:fn.results.toList=[])(hs:max args.length fn.ntmps<=256)(hx:∀i,x≠ .exit i)
  (he:∃b,a0e P0 call n c {env:=a0u args 0 .leaf,h:=h,nx:=nx,sz:=max args.length fn.ntmps}=some (x,{env:=b,h:=a,nx:=nx',sz:=max args.length fn.ntmps})):
  a1l call n k args h nx=some (.tup [],a,nx'):=by
 obtain⟨b,h1⟩:=he;unfold a1l a1j;simp only[hf,hb,Az0,az1,aq9.2 hs,av8,h1];have:a0m P0 fn {env:=b,h:=a,nx:=nx',sz:=max args.length fn.ntmps}=some (.tup []):=by
  simp[a0m,hr,a0D]
 grind
variable {a:List V} {e t u:Nat} {P:Program} {i:TypeInfo} {z:Value}
theorem b7i{g:G}{id:Nat}{d:TypeDesc}{x:V}{xs:List V}(he:a2G P t=some e)(hi:P.info? e=some i)(hz:i.zero=some z)(hd:P.underlying u=some d)(hs:a4j g x=some a)
  (hc:(a.any (λ y=>y.cells.length≠i.size)||z.cells.size≠i.size||i.size=0||i.bytes>1000|| !a2P d)=false) (hg:g id=some (.row e i.size xs false)) (hn:n<=xs.length) (hl:n+a.length<=a2Z):
  a0M P g nx t u (.row id i.size 0 n) x=some {v:= .row nx i.size 0 (n+a.length),upd:=[(nx,some (.row e i.size (xs.take n++a) false)),(id,none)],cnt:=1}:=by
 unfold a0M;simp only[he,hi,hz,hd,hs,Az0,az1,hc,ay6,av8,hg];grind
theorem b3i{g:G}{d:TypeDesc}{x:V}(he:a2G P t=some e)(hi:P.info? e=some i)(hz:i.zero=some z)(hd:P.underlying u=some d)(hs:a4j g x=some a)
  (hc:(a.any (λ y=>y.cells.length≠i.size)||z.cells.size≠i.size||i.size=0||i.bytes>1000|| !a2P d)=false) (h0:a≠[]) (hl:a.length<=a2Z):
  a0M P g nx t u .nils x=some {v:= .row nx i.size 0 a.length,upd:=[(nx,some (.row e i.size a false))],cnt:=1}:=by
 unfold a0M;simp only[he,hi,hz,hd,hs,Az0,az1,hc,ay6,av8];grind
end
end
section
open Go Go.PV Go.Proofs
set_option maxRecDepth 10000
attribute [local simp] a5z anb a4Z bT a1j a0e a0I a0v a0V a1h a1F opE ev evs a0D a2H a0u a0m St.get St.put tgp tgl a1w a0Z sc a0W a1b a0r a4g a0E a3B a1K a6x lenOf a2u Tryz.underlying252 am9 am5 Tryz.underlying254 am6 a0b
theorem a2h{n:Int}(h1: -9223372036854775808<=n)(h2:n<=9223372036854775807):IntKind.i64.wrap n=n:=by
 simp[IntKind.wrap,IntKind.bits,IntKind.signed];grind
theorem a8R(call:Calls)(n nx p sid k:Nat)(hk:k<=1000000)(h:HP)(r:List V)(hp:a0b h p=some (.var (.row sid 5 0 (k+1)::r))):a1l call n 357 [.ptr p 0] h nx=some (.eptr sid 5 k 0,h,nx):=by
 have e1:IntKind.i64.wrap (k:Int)=k:=a2h (by omega) (by omega);simp[a1l,P0,Tryz.func357,Tryz.f357,hp,a1E,a0P,a1v,a8n,c5s am5,e1];rw[ax3 (a7D (n:=12) (us:=[(0,4),(1,4),(2,4),(3,4),(0,5),(1,5),(2,5),(3,5),(0,6),(1,6),(2,6),(3,6),(0,7),(1,7),(2,7),(3,7),(0,8),(1,8),(2,8),(3,8),(0,9),(1,9),(2,9),(3,9)]) (by decide+kernel) rfl (by decide+kernel) ?_)]
 .simp
 .simp[a7k,a5A,a5n,a3q,a2w,a5V,a2z,Op.operands,Call.operands,dbl]
def a2Y(k:Int)(t:ByteArray):Bool:=k==3||k==4||k==5||(k==2&&(t.toList==[91]||t.toList==[123]))
theorem c9I:(ByteArray.mk #[91]).toList=[91]:=by decide+kernel
theorem b5w:(ByteArray.mk #[123]).toList=[123]:=by decide+kernel
theorem c9d(call:Calls)(n nx:Nat)(h:HP)(k a:Int)(t:ByteArray):∃s,a1j P0 call n 358 [.agg [iV k,sV t,iV a]] h nx=some (bV (a2Y k t),s):=by
 by_cases h3:k=3
 .subst h3;simp[P0,Tryz.func358,Tryz.f358,V.fit,V.cells,sz3,ag3,a0l am5,a2Y]
 by_cases h4:k=4
 .subst h4;simp[P0,Tryz.func358,Tryz.f358,V.fit,V.cells,sz3,ag3,a0l am5,a2Y]
 by_cases h5:k=5
 .subst h5;simp[P0,Tryz.func358,Tryz.f358,V.fit,V.cells,sz3,ag3,a0l am5,a2Y]
 by_cases h2:k=2
 .subst h2;by_cases b:t.toList=[91]
  .simp[P0,Tryz.func358,Tryz.f358,V.fit,V.cells,sz3,ag3,sz9,ag9,a0l am5,a0y am6,a2Y,c9I,b]
  .simp[P0,Tryz.func358,Tryz.f358,V.fit,V.cells,sz3,ag3,sz9,ag9,a0l am5,a0y am6,a2Y,c9I,b5w,b]
 .have e3:(k==3)=false:=by simpa using h3
  have e4:(k==4)=false:=by simpa using h4
  have e5:(k==5)=false:=by simpa using h5
  have e2:(k==2)=false:=by simpa using h2
  simp[P0,Tryz.func358,Tryz.f358,V.fit,V.cells,sz3,ag3,a0l am5,a2Y,e2,e3,e4,e5]
end
section
open Go Go.PV Go.Proofs
set_option maxRecDepth 10000
attribute [local simp] a1j a0e a0I a0v a0V a1h a1F opE ev evs a0D a2H a0u a0m St.get St.put tgp tgl a1w a0Z sc a0W a1b a0r a4g a0E a3B a1K a6x lenOf a2u Tryz.underlying252 am9 am5 Tryz.underlying254 am6 Tryz.underlying399 Tryz.underlying153 a0b V.fit a5z anb a4Z bT V.cells
def isL:V->Bool
 | .lit _| .nils=>true
 |_=>false
def pln:V->Bool
 | .agg cs=>cs.all isL
 |v=>isL v
def d8l:V->Bool
 | .tup cs=>cs.all pln
 |v=>pln v
variable {g:G} {v:V}
theorem c7Y{ms:List Nat}{d:Nat}(h:isL v=true):a0C (d+1) g ms v=some (v,ms):=by
 cases v<;>first|rfl|cases h
theorem a2i{S A:Type}{f:S->A->Option (A×S)}{s:S}:∀{l:List A},(∀a∈l,f s a=some (a,s))->a0G f s l=some (l,s)
 |[],_=>rfl
 |a::l,h=>by
  rw[a0G,h a (ay1 ..)];simp only;rw[a2i λ b hb=>h b (az9 _ hb)]
theorem c5h{s:List Nat×List Nat}(h:pln v=true):a1y 4 g s v=some (v,s):=by
 have e:a0C ED g s.1 v=some (v,s.1):=by
  rw[a5E];cases v with
  |agg cs=>rw[a0C];rw[a2i λ a ha=>c7Y (ay5.1 h a ha)]
  |_=>first|rfl|cases h
 cases v<;>first|(cases h;done)|skip
 all_goals grind[a1y]
variable {s:HP×Nat}
theorem b2r(h:isL v=true):a0J s v=(v,s):=by
 cases v<;>first|rfl|cases h
theorem b1r{s:HP×Nat}:∀{l:List V},l.all isL=true->a0f s l=(l,s)
 |[],_=>rfl
 |v::l,h=>by
  simp only[Az3,az6]at h;rw[a0f,b2r h.1];simp only;rw[b1r h.2]
theorem b2t(h:pln v=true):a2B s v=(v,s):=by
 cases v<;>first|(rw[a2B,b1r h])|exact b2r (by simpa[pln]using h)
theorem b1j{s:HP×Nat}:∀{l:List V},l.all pln=true->a1Z s l=(l,s)
 |[],_=>rfl
 |v::l,h=>by
  simp only[Az3,az6]at h;rw[a1Z,b2t h.1];simp only;rw[b1j h.2]
theorem c1D(h:d8l v=true):a1R s v=(v,s):=by
 cases v<;>first|(rw[a1R,b1j h])|exact b2t (by simpa[d8l]using h)
variable {nx:Nat}
theorem a0T{f:a7F}{k:Nat}{args:List V}(h:args.all pln=true)(hf:f k args []=some (v,[]))(hv:d8l v=true):a1q f g nx k args=some {v:=v}:=by
 unfold a1q;rw[a2i λ a ha=>c5h (ay5.1 h a ha)];simp_all[a0G,a1u,a3y,a2s,c1D]
def a2a(w k:Int)(t:ByteArray)(cl:List UInt8):Bool:=
 if w=0 then a2Y k t else if w=1 then a2Y k t||(k==2&&t.toList==cl)else if w=2 then k==3 else if w=3 then k==3||(k==2&&t.toList==cl)
 else if w=4 then k==2&&t.toList==[58]else if w=5 then(k==2&&t.toList==[44])||(k==2&&t.toList==cl)else k==1
theorem tl0:(ByteArray.mk #[]).toList=[]:=by decide+kernel
theorem d9Q:(ByteArray.mk #[93]).toList=[93]:=by decide+kernel
theorem d8p:(ByteArray.mk #[125]).toList=[125]:=by decide+kernel
theorem c6s:(ByteArray.mk #[58]).toList=[58]:=by decide+kernel
theorem c6m:(ByteArray.mk #[44]).toList=[44]:=by decide+kernel
noncomputable def a1c:Code:=a1e (a1e (a1e (a0n 277)))
noncomputable def b5O:Code:=a2I (a0n 277)
noncomputable def b5I:Code:=a2I (a1e (a0n 277))
noncomputable def b6u:Code:=a2I (a1e (a1e (a0n 277)))
theorem d8d:Tryz.f277.body=some (.seq b5O (.seq b5I (.seq b6u a1c))):=by rfl
variable {t:ByteArray} {call:Calls} {h:HP} {a k w:Int} {o:List V} {n p:Nat}
set_option maxHeartbeats 8000000 in
theorem a7u{tk:Nat}{clb:ByteArray}{cl:List UInt8}{stk:V}{e:T}(hp:a0b h p=some (.var (stk::iV w::o)))(htk:a0b h tk=some (.var [iV k,sV t,iV a]))
  (g0:T.get 8 e 0= .ptr p 0) (g3:T.get 8 e 3= .ptr tk 0) (g5:T.get 8 e 5=sV clb) (hcl:clb.toList=cl)
  (ho:call.inl 358=none) (hc:call.cbv 358 [.agg [iV k,sV t,iV a]] []=some (bV (a2Y k t),[])):
  ∃e',a0e P0 call n a1c {env:=e,h:=h,nx:=nx,sz:=83}=some (.ret,{env:=e',h:=h,nx:=nx,sz:=83})/\T.get 8 e' 4=bV (a2a w k t cl):=by
 have hd:∀(g:G) (nx:Nat),a1q call.cbv g nx 358 [.agg [iV k,sV t,iV a]]=some {v:=bV (a2Y k t)}:=λ g nx=>a0T (by rfl) hc (by rfl);by_cases w0:w=0
 .subst w0;by_cases h2:k=2
  .subst h2;by_cases he:t.toList=cl
   .simp[P0,a1c,a0n,a1e,Tryz.f277,hp,htk,g0,g3,g5,sz3,ag3,sz9,ag9,a0l am5,a0y am6,ho,hd,a2k,a2j,a2a,hcl,he]
   .simp[P0,a1c,a0n,a1e,Tryz.f277,hp,htk,g0,g3,g5,sz3,ag3,sz9,ag9,a0l am5,a0y am6,ho,hd,a2k,a2j,a2a,hcl]
  .have hb2:(k==2)=false:=by simpa using h2
   simp[P0,a1c,a0n,a1e,Tryz.f277,hp,htk,g0,g3,sz3,ag3,a0l am5,ho,hd,a2k,a2j,a2a,hb2]
 by_cases w1:w=1
 .subst w1;by_cases h2:k=2
  .subst h2;by_cases he:t.toList=cl
   .by_cases ho2:a2Y 2 t=true
    .simp[P0,a1c,a0n,a1e,Tryz.f277,hp,htk,g0,g3,g5,sz3,ag3,sz9,ag9,a0l am5,a0y am6,ho,hd,a2k,a2j,a2a,hcl,he,ho2]
    .simp[P0,a1c,a0n,a1e,Tryz.f277,hp,htk,g0,g3,g5,sz3,ag3,sz9,ag9,a0l am5,a0y am6,ho,hd,a2k,a2j,a2a,hcl,he,ho2]
   .by_cases ho2:a2Y 2 t=true
    .simp[P0,a1c,a0n,a1e,Tryz.f277,hp,htk,g0,g3,g5,sz3,ag3,sz9,ag9,a0l am5,a0y am6,ho,hd,a2k,a2j,a2a,hcl,ho2]
    .simp[P0,a1c,a0n,a1e,Tryz.f277,hp,htk,g0,g3,g5,sz3,ag3,sz9,ag9,a0l am5,a0y am6,ho,hd,a2k,a2j,a2a,hcl,ho2]
  .have hb2:(k==2)=false:=by simpa using h2
   by_cases ho2:a2Y k t=true
   .simp[P0,a1c,a0n,a1e,Tryz.f277,hp,htk,g0,g3,sz3,ag3,a0l am5,ho,hd,a2k,a2j,a2a,hb2,ho2]
   .simp[P0,a1c,a0n,a1e,Tryz.f277,hp,htk,g0,g3,sz3,ag3,a0l am5,ho,hd,a2k,a2j,a2a,hb2,ho2]
 by_cases w2:w=2
 .subst w2;by_cases h2:k=2
  .subst h2;by_cases he:t.toList=cl
   .simp[P0,a1c,a0n,a1e,Tryz.f277,hp,htk,g0,g3,g5,sz3,ag3,sz9,ag9,a0l am5,a0y am6,a2a,hcl,he]
   .simp[P0,a1c,a0n,a1e,Tryz.f277,hp,htk,g0,g3,g5,sz3,ag3,sz9,ag9,a0l am5,a0y am6,a2a,hcl]
  .have hb2:(k==2)=false:=by simpa using h2
   simp[P0,a1c,a0n,a1e,Tryz.f277,hp,htk,g0,g3,sz3,ag3,a0l am5,a2a,hb2]
 by_cases w3:w=3
 .subst w3;by_cases h2:k=2
  .subst h2;by_cases he:t.toList=cl
   .simp[P0,a1c,a0n,a1e,Tryz.f277,hp,htk,g0,g3,g5,sz3,ag3,sz9,ag9,a0l am5,a0y am6,a2a,hcl,he]
   .simp[P0,a1c,a0n,a1e,Tryz.f277,hp,htk,g0,g3,g5,sz3,ag3,sz9,ag9,a0l am5,a0y am6,a2a,hcl]
  .have hb2:(k==2)=false:=by simpa using h2
   by_cases h3:k=3
   .subst h3;simp[P0,a1c,a0n,a1e,Tryz.f277,hp,htk,g0,g3,sz3,ag3,a0l am5,a2a,h2]
   .have hb3:(k==3)=false:=by simpa using h3
    simp[P0,a1c,a0n,a1e,Tryz.f277,hp,htk,g0,g3,sz3,ag3,a0l am5,a2a,hb2,hb3]
 by_cases w4:w=4
 .subst w4;by_cases h2:k=2
  .subst h2;by_cases he:t.toList=cl
   .by_cases hq:cl=[58]
    .subst hq;simp[P0,a1c,a0n,a1e,Tryz.f277,hp,htk,g0,g3,g5,sz3,ag3,sz9,ag9,a0l am5,a0y am6,a2a,hcl,he,c6s]
    .simp[P0,a1c,a0n,a1e,Tryz.f277,hp,htk,g0,g3,g5,sz3,ag3,sz9,ag9,a0l am5,a0y am6,a2a,hcl,he,c6s]
   .by_cases hq:t.toList=[58]
    .rw[hq]at he;simp[P0,a1c,a0n,a1e,Tryz.f277,hp,htk,g0,g3,g5,sz3,ag3,sz9,ag9,a0l am5,a0y am6,a2a,hcl,hq,c6s]
    .simp[P0,a1c,a0n,a1e,Tryz.f277,hp,htk,g0,g3,g5,sz3,ag3,sz9,ag9,a0l am5,a0y am6,a2a,hcl,c6s]
  .have hb2:(k==2)=false:=by simpa using h2
   simp[P0,a1c,a0n,a1e,Tryz.f277,hp,htk,g0,g3,sz3,ag3,a0l am5,a2a,hb2]
 by_cases w5:w=5
 .subst w5;by_cases h2:k=2
  .subst h2;by_cases he:t.toList=cl
   .by_cases hq:cl=[44]
    .subst hq;simp[P0,a1c,a0n,a1e,Tryz.f277,hp,htk,g0,g3,g5,sz3,ag3,sz9,ag9,a0l am5,a0y am6,a2a,hcl,he,c6m]
    .simp[P0,a1c,a0n,a1e,Tryz.f277,hp,htk,g0,g3,g5,sz3,ag3,sz9,ag9,a0l am5,a0y am6,a2a,hcl,he,hq,c6m]
   .by_cases hq:t.toList=[44]
    .rw[hq]at he;simp[P0,a1c,a0n,a1e,Tryz.f277,hp,htk,g0,g3,g5,sz3,ag3,sz9,ag9,a0l am5,a0y am6,a2a,hcl,hq,c6m]
    .simp[P0,a1c,a0n,a1e,Tryz.f277,hp,htk,g0,g3,g5,sz3,ag3,sz9,ag9,a0l am5,a0y am6,a2a,hcl,he,hq,c6m]
  .have hb2:(k==2)=false:=by simpa using h2
   simp[P0,a1c,a0n,a1e,Tryz.f277,hp,htk,g0,g3,sz3,ag3,a0l am5,a2a,hb2]
 have wb0:(w==0)=false:=by simpa using w0
 have wb1:(w==1)=false:=by simpa using w1
 have wb2:(w==2)=false:=by simpa using w2
 have wb3:(w==3)=false:=by simpa using w3
 have wb4:(w==4)=false:=by simpa using w4
 have wb5:(w==5)=false:=by simpa using w5
 by_cases h2:k=2
 .subst h2;by_cases he:t.toList=cl
  .simp[P0,a1c,a0n,a1e,Tryz.f277,hp,htk,g0,g3,g5,sz3,ag3,sz9,ag9,a0l am5,a0y am6,a2a,hcl,he,w0,wb0,w1,wb1,w2,wb2,w3,wb3,w4,wb4,w5,wb5]
  .simp[P0,a1c,a0n,a1e,Tryz.f277,hp,htk,g0,g3,g5,sz3,ag3,sz9,ag9,a0l am5,a0y am6,a2a,hcl,w0,wb0,w1,wb1,w2,wb2,w3,wb3,w4,wb4,w5,wb5]
 .have hb2:(k==2)=false:=by simpa using h2
  simp[P0,a1c,a0n,a1e,Tryz.f277,hp,htk,g0,g3,sz3,ag3,a0l am5,a2a,hb2,w0,wb0,w1,wb1,w2,wb2,w3,wb3,w4,wb4,w5,wb5]
variable {nd:Int}
theorem d7f(hp:a0b h p=some (.var (.nils::iV w::iV nd::o)))(hlt:p<nx)
  (ho:call.inl 358=none) (hc:call.cbv 358 [.agg [iV k,sV t,iV a]] []=some (bV (a2Y k t),[])):
  a1l call n 277 [.ptr p 0,.agg [iV k,sV t,iV a]] h nx=some (bV (a2a w k t []),(nx,some (.var [iV k,sV t,iV a]))::h,nx+1):=by
 have hne:¬p=nx:=by omega
 refine a1t am7 d8d rfl (by decide) (by simp_all) (x:= .ret) (by grind) ?_;simp[P0,b5O,b5I,b6u,a0n,a2I,a1e,Tryz.f277,hp,hne,a1E,a0P,a1v,a0z am5];exact a7u (p:=p) (tk:=nx) (a:=a) (clb:=⟨#[]⟩) (by simp[a0b,hne,hp];exact⟨rfl,rfl⟩) (by simp[a0b]) (by simp[tgp]) (by simp[tgp]) (by simp[tgp]) tl0 ho hc
variable {c:Nat}
theorem d5G(hp:a0b h p=some (.var (.row c 5 0 0::iV w::iV nd::o)))(hlt:p<nx)
  (ho:call.inl 358=none) (hc:call.cbv 358 [.agg [iV k,sV t,iV a]] []=some (bV (a2Y k t),[])):
  a1l call n 277 [.ptr p 0,.agg [iV k,sV t,iV a]] h nx=some (bV (a2a w k t []),(nx,some (.var [iV k,sV t,iV a]))::h,nx+1):=by
 have hne:¬p=nx:=by omega
 refine a1t am7 d8d rfl (by decide) (by simp_all) (x:= .ret) (by grind) ?_;simp[P0,b5O,b5I,b6u,a0n,a2I,a1e,Tryz.f277,hp,hne,a1E,a0P,a1v,a0z am5];exact a7u (p:=p) (tk:=nx) (a:=a) (clb:=⟨#[]⟩) (by simp[a0b,hne,hp];exact⟨rfl,rfl⟩) (by simp[a0b]) (by simp[tgp]) (by simp[tgp]) (by simp[tgp]) tl0 ho hc
theorem d8b{c1:Calls}{m q:Nat}{kk:Int}{xs ys:List V}(hp:a0b h p=some (.var (.row c 5 0 (q+1)::iV w::iV nd::o)))(hlt:p<nx)
  (hs:a0b h c=some (.row 399 5 xs false)) (hlt2:c<nx) (hx:xs[q]?=some (.agg (iV kk::ys))) (hq:q<=1000000) (hi:call.inl 357=some (a1l c1 m 357))
  (ho:call.inl 358=none) (hc:call.cbv 358 [.agg [iV k,sV t,iV a]] []=some (bV (a2Y k t),[])):
  a1l call n 277 [.ptr p 0,.agg [iV k,sV t,iV a]] h nx=some (bV (a2a w k t (if kk=7 then [125]else [93])),(nx,some (.var [iV k,sV t,iV a]))::h,nx+1):=by
 have hne:¬p=nx:=by omega
 have hne2:¬c=nx:=by omega
 have hel:=a8R c1 m (nx+1) p c q hq ((nx,some (.var [iV k,sV t,iV a]))::h) (iV w::iV nd::o) (by simp_all);have hq0:(0:Int)<(q:Int)+1:=by omega
 refine a1t am7 d8d rfl (by decide) (by simp_all) (x:= .ret) (by grind) ?_;by_cases h7:kk=7
 .subst h7;simp[P0,b5O,b5I,b6u,a0n,a2I,a1e,Tryz.f277,hp,hne,hne2,hs,hx,hi,hel,hq0,a1E,a0P,a1v,a2E,ag3,sz3,a0z am5,a0l am5];exact a7u (p:=p) (tk:=nx) (a:=a) (clb:=⟨#[125]⟩) (by simp[a0b,hne,hp];exact⟨rfl,rfl⟩) (by simp[a0b]) (by simp[tgp]) (by simp[tgp]) (by simp[tgp]) d8p ho hc
 .have h7b:(kk==7)=false:=by simpa using h7
  simp[P0,b5O,b5I,b6u,a0n,a2I,a1e,Tryz.f277,hp,hne,hne2,hs,hx,hi,hel,hq0,a1E,a0P,a1v,a2E,ag3,sz3,a0z am5,a0l am5,h7,h7b];exact a7u (p:=p) (tk:=nx) (a:=a) (clb:=⟨#[93]⟩) (by simp[a0b,hne,hp];exact⟨rfl,rfl⟩) (by simp[a0b]) (by simp[tgp]) (by simp[tgp]) (by simp[tgp]) d9Q ho hc
end
section
open Go Go.PV Go.Proofs
set_option maxRecDepth 10000
attribute [local simp] a1j a0e a0I a0v a0V a1h a1F opE ev evs a0D a2H a0u a0m St.get St.put tgp tgl a1w a0Z sc a0W a1b a4g a0E a3B a1K a6x lenOf a2u Tryz.underlying252 am9 am5 Tryz.underlying254 am6 Tryz.underlying399 Tryz.underlying153 a0b V.fit a5z anb a4Z bT V.cells storeAt setCells a3a a3b fill
@[local simp] theorem ckl {v:Value}:a0r (.lit v)=true:=rfl
@[local simp] theorem ckn:a0r .nils=true:=rfl
variable {a b:Nat}
@[local simp] theorem ckr {c d:Nat}:a0r (.row a b c d)=true:=rfl
@[local simp] theorem ckm :a0r (.map a)=true:=rfl
theorem c8Y:a2G P0 151=some 153:=by rfl
theorem d5a:b4T P0 151=some false:=by rfl
theorem a5q:a1M P0 151=some 1:=by rfl
noncomputable def zV:V:= .agg [iV 0,sV ⟨#[]⟩,.nils,.nils]
theorem d3v:a4h P0 153=some zV:=by rfl
theorem d6v:Tryz.f360.body=some (a0n 360):=by rfl
variable {t:ByteArray} {call:Calls} {h:HP} {k nd w:Int} {n nx p:Nat} {is ks o0 o1 o2 o3:V}
theorem d8u(hp:a0b h p=some (.var [.nils,iV w,iV nd,o0,o1,o2,o3]))(e:p<nx)(a:a0r ks=true)(b:a0r is=true):
  ∃c,a1l call n 360 [.ptr p 0,.agg [iV k,sV t,ks,is]] h nx=some (.tup [],c,nx+1)/\a0b c p=some (.var [.nils,iV 6,iV nd,iV k,sV t,ks,is])/\∀i,i<nx->i≠p->a0b c i=a0b h i:=by
 have d:¬p=nx:=by omega
 refine⟨(p,some (.var [.nils,iV 6,iV nd,iV k,sV t,ks,is]))::(p,some (.var [.nils,iV w,iV nd,iV k,sV t,ks,is]))::(nx,some (.var [iV k,sV t,ks,is]))::h,a9m Tryz.func360 d6v rfl (by simp_all) (x:= .ret) (by grind) ?_,by simp,λ i h1 h2=> ?_⟩
 .simp[P0,a0n,Tryz.func360,Tryz.f360,hp,d,a1E,a0P,a2E,a3Q,sz3,a1v,a0l am5,a,b]
 .have:¬i=nx:=by omega
  simp[this,h2]
theorem d4A(hp:a0b h p=some (.var [.row a 5 0 0,iV w,iV nd,o0,o1,o2,o3]))(f:p<nx)(b:a0r ks=true)(c:a0r is=true):
  ∃d,a1l call n 360 [.ptr p 0,.agg [iV k,sV t,ks,is]] h nx=some (.tup [],d,nx+1)/\a0b d p=some (.var [.row a 5 0 0,iV 6,iV nd,iV k,sV t,ks,is])/\∀i,i<nx->i≠p->a0b d i=a0b h i:=by
 have e:¬p=nx:=by omega
 refine⟨(p,some (.var [.row a 5 0 0,iV 6,iV nd,iV k,sV t,ks,is]))::(p,some (.var [.row a 5 0 0,iV w,iV nd,iV k,sV t,ks,is]))::(nx,some (.var [iV k,sV t,ks,is]))::h,a9m Tryz.func360 d6v rfl (by simp_all) (x:= .ret) (by grind) ?_,by simp,λ i h1 h2=> ?_⟩
 .simp[P0,a0n,Tryz.func360,Tryz.f360,hp,e,a1E,a0P,a2E,a3Q,sz3,a1v,a0l am5,b,c]
 .have:¬i=nx:=by omega
  simp[this,h2]
theorem c3f:∃i,P0.info? 153=some i/\i.size=4/\i.zero=some (.agg #[.int .i64 0,.string ⟨#[]⟩,.slice none 0 0,.slice none 0 0])/\¬i.bytes>1000:=⟨_,rfl,rfl,rfl,by decide⟩
variable {v:V}
theorem d4I{i:TypeInfo}(hv:v.cells.length=4)(h2:i.size=4)(h4:¬i.bytes>1000):([v].any (λ y=>y.cells.length≠i.size)||(Value.agg #[.int .i64 0,.string ⟨#[]⟩,.slice none 0 0,.slice none 0 0]).cells.size≠i.size||i.size=0||i.bytes>1000|| !a2P (.slice 153))=false:=by
 have e:(Value.agg #[.int .i64 0,.string ⟨#[]⟩,.slice none 0 0,.slice none 0 0]).cells.size=4:=rfl;grind[a2P]
variable {g:G}
theorem d1u(hb:g a=some (.row 153 4 [v] false))(hv:v.cells.length=4):
  a0M P0 g nx 151 151 .nils (.row a 4 0 1)=some {v:= .row nx 4 0 1,upd:=[(nx,some (.row 153 4 [v] false))],cnt:=1}:=by
 obtain⟨i,h1,h2,h3,h4⟩:=c3f;have hs:a4j g (.row a 4 0 1)=some [v]:=by simp[a4j,a4Q,hb]
 have:=b3i (nx:=nx) c8Y h1 h3 Tryz.underlying151 hs (d4I hv h2 h4) (by simp) (by simp[a2Z]);rw[this];simp[h2]
theorem d2y{c:List V}(hb:g b=some (.row 153 4 [v] false))(hv:v.cells.length=4)(hg:g a=some (.row 153 4 c false))(hl:c.length<3000000):
  a0M P0 g nx 151 151 (.row a 4 0 c.length) (.row b 4 0 1)=some {v:= .row nx 4 0 (c.length+1),upd:=[(nx,some (.row 153 4 (c++[v]) false)),(a,none)],cnt:=1}:=by
 obtain⟨i,h1,h2,h3,h4⟩:=c3f;have hs:a4j g (.row b 4 0 1)=some [v]:=by simp[a4j,a4Q,hb]
 have:=b7i (nx:=nx) (id:=a) (n:=c.length) (xs:=c) c8Y h1 h3 Tryz.underlying151 hs (d4I hv h2 h4) (by grind) (ay3 _) (by grind[a2Z]);grind
variable {r:ByteArray} {c1:Calls} {kk:Int} {xs:List V} {m o q j:Nat} {l:V}
theorem d3U(hp:a0b h p=some (.var [.row j 5 0 (q+1),iV w,iV nd,o0,o1,o2,o3]))(hlt:p<nx)(hks:a0r ks=true)(his:a0r is=true)
  (hs:a0b h j=some (.row 399 5 xs false)) (hlt2:j<nx) (hsp:p≠j) (hx:xs[q]?=some (.agg [iV kk,sV r,l,.nils,.map o])) (hkk:a0r l=true) (hq:q<=1000000) (hi:call.inl 357=some (a1l c1 m 357)):
  ∃h',a1l call n 360 [.ptr p 0,.agg [iV k,sV t,ks,is]] h nx=some (.tup [],h',nx+3)/\a0b h' p=some (.var [.row j 5 0 (q+1),iV 5,iV nd,o0,o1,o2,o3])/\
   a0b h' j=some (.row 399 5 (xs.set q (.agg [iV kk,sV r,l,.row (nx+2) 4 0 (1),.map o])) false)/\a0b h' (nx+2)=some (.row 153 4 [.agg [iV k,sV t,ks,is]] false)/\
   ∀i,i<nx->i≠p->i≠j->a0b h' i=a0b h i:=by
 have hne:¬p=nx:=by omega
 have hne2:¬j=nx:=by omega
 have hne3:¬j=nx+1:=by omega
 have hne4:¬j=nx+2:=by omega
 have hne5:¬p=nx+1:=by omega
 have hne6:¬p=nx+2:=by omega
 have hne7:¬nx+2=j:=by omega
 have hel:=a8R c1 m (nx+1) p j q hq ((nx,some (.var [iV k,sV t,ks,is]))::h) [iV w,iV nd,o0,o1,o2,o3] (by simp_all);have hq0:¬(q:Int)+1=0:=by omega
 have ha:a0M P0 (λ x=>if x=nx+1 then some (.row 153 4 [.agg [.lit (.int .i64 0),.lit (.string ⟨#[]⟩),.nils,.nils]] false)else if x=nx then some (.var [iV k,sV t,ks,is])else a0b h x) (nx+2) 151 151 .nils (.row (nx+1) 4 0 1)=_:=d1u (by simp;rfl) rfl;refine⟨(p,some (.var [.row j 5 0 (q+1),iV 5,iV nd,o0,o1,o2,o3]))::(j,some (.row 399 5 (xs.set q (.agg [iV kk,sV r,l,.row (nx+2) 4 0 (1),.map o])) false))::(nx+2,some (.row 153 4 [.agg [iV k,sV t,ks,is]] false))::(nx+2,some (.row 153 4 [zV] false))::(nx+1,some (.row 153 4 [zV] false))::(nx,some (.var [iV k,sV t,ks,is]))::h,a9m Tryz.func360 d6v rfl (by simp_all) (x:= .normal) (by grind) ?_,by simp,by simp[as7 hsp],by simp_all[as7],λ i h1 h2 h3=> ?_⟩
 .simp[P0,a0n,Tryz.func360,Tryz.f360,hp,hne,hne2,hne3,hne4,hs,hx,hi,hel,hq0,a1E,a0P,a2E,a3Q,sz3,a1v,a0l am5,hks,his,c8Y,d5a,a5q,d3v,zV,a1H,ha,at7]
  rw[ax3 (a7D (n:=15) (us:=[(0,5),(1,5),(2,5),(3,5),(4,5),(5,6),(0,7),(1,7),(2,7),(3,7),(4,7),(5,7),(6,7),(9,11),(10,11),(9,12),(10,12),(9,13),(10,13),(9,14),(10,14)]) (by decide+kernel) rfl (by decide+kernel) ?_)]
  .simp_all
  .simp[a7k,a5A,a5n,a3q,a2w,a5V,a2z,Op.operands,Call.operands,dbl]
   repeat' apply And.intro
   all_goals grind
 .have e1:¬i=nx:=by omega
  have e2:¬i=nx+1:=by omega
  have e3:¬i=nx+2:=by omega
  simp_all
theorem d5e{iid:Nat}{ys:List V}(hp:a0b h p=some (.var [.row j 5 0 (q+1),iV w,iV nd,o0,o1,o2,o3]))(hlt:p<nx)(hks:a0r ks=true)(his:a0r is=true)
  (hs:a0b h j=some (.row 399 5 xs false)) (hlt2:j<nx) (hsp:p≠j) (hx:xs[q]?=some (.agg [iV kk,sV r,l,(.row iid 4 0 ys.length),.map o])) (hkk:a0r l=true) (hq:q<=1000000) (hi:call.inl 357=some (a1l c1 m 357)) (hii:a0b h iid=some (.row 153 4 ys false)) (hi1:iid<nx) (hi2:iid≠p) (hi3:iid≠j) (hl:ys.length<3000000):
  ∃h',a1l call n 360 [.ptr p 0,.agg [iV k,sV t,ks,is]] h nx=some (.tup [],h',nx+3)/\a0b h' p=some (.var [.row j 5 0 (q+1),iV 5,iV nd,o0,o1,o2,o3])/\
   a0b h' j=some (.row 399 5 (xs.set q (.agg [iV kk,sV r,l,.row (nx+2) 4 0 (ys.length+1),.map o])) false)/\a0b h' (nx+2)=some (.row 153 4 (ys++[.agg [iV k,sV t,ks,is]]) false)/\
   ∀i,i<nx->i≠p->i≠j->i≠iid->a0b h' i=a0b h i:=by
 have hne:¬p=nx:=by omega
 have hne2:¬j=nx:=by omega
 have hne3:¬j=nx+1:=by omega
 have hne4:¬j=nx+2:=by omega
 have hne5:¬p=nx+1:=by omega
 have hne6:¬p=nx+2:=by omega
 have hne7:¬nx+2=j:=by omega
 have hne8:¬iid=nx:=by omega
 have hne9:¬iid=nx+1:=by omega
 have hne10:¬iid=nx+2:=by omega
 have hne11:¬j=iid:=λ e=>hi3 e.symm;have hne12:¬p=iid:=λ e=>hi2 e.symm;have hel:=a8R c1 m (nx+1) p j q hq ((nx,some (.var [iV k,sV t,ks,is]))::h) [iV w,iV nd,o0,o1,o2,o3] (by simp_all);have hq0:¬(q:Int)+1=0:=by omega
 have ha:a0M P0 (λ x=>if x=nx+1 then some (.row 153 4 [.agg [.lit (.int .i64 0),.lit (.string ⟨#[]⟩),.nils,.nils]] false)else if x=nx then some (.var [iV k,sV t,ks,is])else a0b h x) (nx+2) 151 151 (.row iid 4 0 ys.length) (.row (nx+1) 4 0 1)=_:=d2y (by simp;rfl) rfl (by grind) hl;refine⟨(p,some (.var [.row j 5 0 (q+1),iV 5,iV nd,o0,o1,o2,o3]))::(j,some (.row 399 5 (xs.set q (.agg [iV kk,sV r,l,.row (nx+2) 4 0 (ys.length+1),.map o])) false))::(nx+2,some (.row 153 4 (ys++[.agg [iV k,sV t,ks,is]]) false))::(nx+2,some (.row 153 4 (ys++[zV]) false))::(iid,none)::(nx+1,some (.row 153 4 [zV] false))::(nx,some (.var [iV k,sV t,ks,is]))::h,a9m Tryz.func360 d6v rfl (by simp_all) (x:= .normal) (by grind) ?_,by simp,by simp[as7 hsp],by simp_all[as7],λ i h1 h2 h3 h4=> ?_⟩
 .simp[P0,a0n,Tryz.func360,Tryz.f360,hp,hne,hne2,hne3,hne4,hne11,hs,hx,hi,hel,hq0,a1E,a0P,a2E,a3Q,sz3,a1v,a0l am5,hks,his,c8Y,d5a,a5q,d3v,zV,a1H,ha,at7]
  rw[ax3 (a7D (n:=15) (us:=[(0,5),(1,5),(2,5),(3,5),(4,5),(5,6),(0,7),(1,7),(2,7),(3,7),(4,7),(5,7),(6,7),(9,11),(10,11),(9,12),(10,12),(9,13),(10,13),(9,14),(10,14)]) (by decide+kernel) rfl (by decide+kernel) ?_)]
  .simp_all
  .simp[a7k,a5A,a5n,a3q,a2w,a5V,a2z,Op.operands,Call.operands,dbl]
   repeat' apply And.intro
   all_goals grind
 .have e1:¬i=nx:=by omega
  have e2:¬i=nx+1:=by omega
  have e3:¬i=nx+2:=by omega
  simp_all
end
section
open Go Go.PV Go.Proofs
set_option maxRecDepth 10000
attribute [local simp] a1j a0e a0I a0v a0V a1h a1F opE ev evs a0D a2H a0u a0m St.get St.put tgp tgl a1w a0Z sc a0W a1b a4g a0E a3B a1K a6x lenOf a2u Tryz.underlying252 am9 am5 Tryz.underlying254 am6 Tryz.underlying399 Tryz.underlying153 Tryz.underlying397 a0b V.fit a5z anb a4Z bT V.cells storeAt setCells a3a a3b fill ckl ckn ckr ckm
theorem d5q:Tryz.f359.body=some (a0n 359):=by rfl
theorem b4s:a1M P0 68=some 1:=by rfl
theorem b4w:a1M P0 397=some 1:=by rfl
theorem c4m:a4h P0 399=some (.agg [iV 0,sV ⟨#[]⟩,.nils,.nils,.lit (.map none)]):=by rfl
theorem a2C:a4h P0 153=some (.agg [iV 0,sV ⟨#[]⟩,.nils,.nils]):=by rfl
theorem c5r:∃i,P0.info? 399=some i/\i.size=5/\i.zero=some (.agg #[.int .i64 0,.string ⟨#[]⟩,.slice none 0 0,.slice none 0 0,.map none])/\¬i.bytes>1000:=⟨_,rfl,rfl,rfl,by decide⟩
variable {v:V}
theorem c9X{i:TypeInfo}(hv:v.cells.length=5)(h2:i.size=5)(h4:¬i.bytes>1000):([v].any (λ y=>y.cells.length≠i.size)||(Value.agg #[.int .i64 0,.string ⟨#[]⟩,.slice none 0 0,.slice none 0 0,.map none]).cells.size≠i.size||i.size=0||i.bytes>1000|| !a2P (.slice 399))=false:=by
 have e:(Value.agg #[.int .i64 0,.string ⟨#[]⟩,.slice none 0 0,.slice none 0 0,.map none]).cells.size=5:=rfl;grind[a2P]
variable {g:G} {a nx:Nat}
theorem d3F(hb:g a=some (.row 399 5 [v] false))(hv:v.cells.length=5):
  a0M P0 g nx 250 250 .nils (.row a 5 0 1)=some {v:= .row nx 5 0 1,upd:=[(nx,some (.row 399 5 [v] false))],cnt:=1}:=by
 obtain⟨i,h1,h2,h3,h4⟩:=c5r;have hs:a4j g (.row a 5 0 1)=some [v]:=by simp[a4j,a4Q,hb]
 have:=b3i (nx:=nx) a1v h1 h3 am9 hs (c9X hv h2 h4) (by simp) (by simp[a2Z]);rw[this];simp[h2]
variable {q:Nat}
theorem d4H{b:Nat}{c:List V}(hb:g b=some (.row 399 5 [v] false))(hv:v.cells.length=5)(hg:g a=some (.row 399 5 c false))(hq:q<=c.length)(hl:q<1000000):
  a0M P0 g nx 250 250 (.row a 5 0 q) (.row b 5 0 1)=some {v:= .row nx 5 0 (q+1),upd:=[(nx,some (.row 399 5 (c.take q++[v]) false)),(a,none)],cnt:=1}:=by
 obtain⟨i,h1,h2,h3,h4⟩:=c5r;have hs:a4j g (.row b 5 0 1)=some [v]:=by simp[a4j,a4Q,hb]
 have:=b7i (nx:=nx) (id:=a) (n:=q) (xs:=c) a1v h1 h3 am9 hs (c9X hv h2 h4) (by grind) hq (by grind[a2Z]);grind
variable {call:Calls} {h:HP} {kd nd w wt:Int} {n p:Nat} {o0 o1 o2 o3:V}
theorem c1b(hp:a0b h p=some (.var [.nils,iV w,iV nd,o0,o1,o2,o3]))(c:p<nx)(d:0<=nd)(e:nd<=20001)(hm:20000<=nd):
  ∃b,a1l call n 359 [.ptr p 0,iV kd,iV wt] h nx=some (iV 142,b,nx)/\∀i,i<nx->i≠p->a0b b i=a0b h i:=by
 have a:¬p=nx:=by omega
 have e1:IntKind.i64.wrap (nd+1)=nd+1:=a2h (by omega) (by omega);have e2:(20000:Int)<nd+1:=by omega
 refine⟨(p,some (.var [.nils,iV w,iV (nd+1),o0,o1,o2,o3]))::h,a1t Tryz.func359 d5q rfl (by decide) (by simp_all) (x:= .ret) (by grind) ?_,λ i _ h2=>by simp[h2]⟩;simp[P0,a0n,Tryz.func359,Tryz.f359,hp,a1E,a0P,sz3,ag3,a1v,a7V am5,a0z am5,a2V am5,e1,e2]
theorem d7M(hp:a0b h p=some (.var [.nils,iV w,iV nd,o0,o1,o2,o3]))(e:p<nx)(f:0<=nd)(g:nd<=20001)(hm:nd<20000):
  ∃b,a1l call n 359 [.ptr p 0,iV kd,iV wt] h nx=some (iV 0,b,nx+3)/\a0b b p=some (.var [.row (nx+2) 5 0 (0+1),iV wt,iV (nd+1),o0,o1,o2,o3])/\
   a0b b (nx+2)=some (.row 399 5 ([.agg [iV kd,sV ⟨#[]⟩,.nils,.nils,.map nx]]) false)/\a0b b nx=some (.map [])/\∀i,i<nx->i≠p->a0b b i=a0b h i:=by
 have c:¬p=nx:=by omega
 have d:¬p=nx+1:=by omega
 have a:¬p=nx+2:=by omega
 have e1:IntKind.i64.wrap (nd+1)=nd+1:=a2h (by omega) (by omega);have e2:¬(20000:Int)<nd+1:=by omega
 have ha:a0M P0 (λ x=>if x=nx+1 then some (.row 399 5 [.agg [.lit (.int .i64 kd),.lit (.string ⟨#[]⟩),.nils,.nils,.map nx]] false)else if x=nx then some (.map [])else if x=p then some (.var [.nils,iV w,.lit (.int .i64 (nd+1)),o0,o1,o2,o3])else a0b h x) (nx+2) 250 250 (.nils) (.row (nx+1) 5 0 1)=_:=d3F (by simp;rfl) rfl;refine⟨(p,some (.var [.row (nx+2) 5 0 (0+1),iV wt,iV (nd+1),o0,o1,o2,o3]))::(p,some (.var [.row (nx+2) 5 0 (0+1),iV w,iV (nd+1),o0,o1,o2,o3]))::(nx+2,some (.row 399 5 ([.agg [iV kd,sV ⟨#[]⟩,.nils,.nils,.map nx]]) false))::(nx+1,some (.row 399 5 [.agg [iV kd,sV ⟨#[]⟩,.nils,.nils,.map nx]] false))::(nx,some (.map []))::(p,some (.var [.nils,iV w,iV (nd+1),o0,o1,o2,o3]))::h,a1t Tryz.func359 d5q rfl (by decide) (by simp_all) (x:= .ret) (by grind) ?_,by simp,by simp[as7 a],by simp[as7 c],λ i h1 h2=> ?_⟩
 .simp[P0,a0n,Tryz.func359,Tryz.f359,hp,c,a1E,a0P,a2E,sz3,ag3,a1v,a8n,b4w,sz9,b4s,a5q,c4m,a2C,a7V am5,a0z am5,a2V am5,a1H,at7,e1,e2,d,a,ha]
 .have e1:¬i=nx:=by omega
  have e2:¬i=nx+1:=by omega
  have e3:¬i=nx+2:=by omega
  simp[e1,e2,e3,h2]
variable {xs:List V}
theorem b1V(hp:a0b h p=some (.var [.row a 5 0 q,iV w,iV nd,o0,o1,o2,o3]))(e:p<nx)(f:0<=nd)(g:nd<=20001)(hq:64<=q):
  ∃d,a1l call n 359 [.ptr p 0,iV kd,iV wt] h nx=some (iV 141,d,nx)/\∀i,i<nx->i≠p->a0b d i=a0b h i:=by
 have b:¬p=nx:=by omega
 have c:(64:Int)<=q:=by omega
 refine⟨h,a1t Tryz.func359 d5q rfl (by decide) (by simp_all) (x:= .ret) (by grind) ?_,λ i _ _=>rfl⟩;simp[P0,a0n,Tryz.func359,Tryz.f359,hp,a1E,a0P,a1v,a7V am5,c]
theorem c1r(hp:a0b h p=some (.var [.row a 5 0 q,iV w,iV nd,o0,o1,o2,o3]))(e:p<nx)(f:0<=nd)(g:nd<=20001)(hq:q<64)(hm:20000<=nd):
  ∃d,a1l call n 359 [.ptr p 0,iV kd,iV wt] h nx=some (iV 142,d,nx)/\∀i,i<nx->i≠p->a0b d i=a0b h i:=by
 have b:¬p=nx:=by omega
 have c:¬(64:Int)<=q:=by omega
 have e1:IntKind.i64.wrap (nd+1)=nd+1:=a2h (by omega) (by omega);have e2:(20000:Int)<nd+1:=by omega
 refine⟨(p,some (.var [.row a 5 0 q,iV w,iV (nd+1),o0,o1,o2,o3]))::h,a1t Tryz.func359 d5q rfl (by decide) (by simp_all) (x:= .ret) (by grind) ?_,λ i _ h2=>by simp[h2]⟩;simp[P0,a0n,Tryz.func359,Tryz.f359,hp,a1E,a0P,sz3,ag3,a1v,a7V am5,a0z am5,a2V am5,c,e1,e2]
theorem d6W(hp:a0b h p=some (.var [.row a 5 0 q,iV w,iV nd,o0,o1,o2,o3]))(r:p<nx)(s:0<=nd)(t:nd<=20001)(hq:q<64)(hs:a0b h a=some (.row 399 5 xs false))(k:q<=xs.length)(o:a<nx)(c:p≠a)(hm:nd<20000):
  ∃d,a1l call n 359 [.ptr p 0,iV kd,iV wt] h nx=some (iV 0,d,nx+3)/\a0b d p=some (.var [.row (nx+2) 5 0 (q+1),iV wt,iV (nd+1),o0,o1,o2,o3])/\
   a0b d (nx+2)=some (.row 399 5 (xs.take q++[.agg [iV kd,sV ⟨#[]⟩,.nils,.nils,.map nx]]) false)/\a0b d nx=some (.map [])/\∀i,i<nx->i≠p->i≠a->a0b d i=a0b h i:=by
 have l:¬p=nx:=by omega
 have e:¬p=nx+1:=by omega
 have b:¬p=nx+2:=by omega
 have f:¬a=nx:=by omega
 have g:¬a=nx+1:=by omega
 have j:¬a=nx+2:=by omega
 have m:¬(64:Int)<=q:=by omega
 have e1:IntKind.i64.wrap (nd+1)=nd+1:=a2h (by omega) (by omega);have e2:¬(20000:Int)<nd+1:=by omega
 have ha:a0M P0 (λ x=>if x=nx+1 then some (.row 399 5 [.agg [.lit (.int .i64 kd),.lit (.string ⟨#[]⟩),.nils,.nils,.map nx]] false)else if x=nx then some (.map [])else if x=p then some (.var [.row a 5 0 q,iV w,.lit (.int .i64 (nd+1)),o0,o1,o2,o3])else a0b h x) (nx+2) 250 250 (.row a 5 0 q) (.row (nx+1) 5 0 1)=_:=d4H (by simp;rfl) rfl (by grind) k (by omega);refine⟨(p,some (.var [.row (nx+2) 5 0 (q+1),iV wt,iV (nd+1),o0,o1,o2,o3]))::(p,some (.var [.row (nx+2) 5 0 (q+1),iV w,iV (nd+1),o0,o1,o2,o3]))::(nx+2,some (.row 399 5 (xs.take q++[.agg [iV kd,sV ⟨#[]⟩,.nils,.nils,.map nx]]) false))::(a,none)::(nx+1,some (.row 399 5 [.agg [iV kd,sV ⟨#[]⟩,.nils,.nils,.map nx]] false))::(nx,some (.map []))::(p,some (.var [.row a 5 0 q,iV w,iV (nd+1),o0,o1,o2,o3]))::h,a1t Tryz.func359 d5q rfl (by decide) (by simp_all) (x:= .ret) (by grind) ?_,by simp,by simp[as7 b],by simp_all[as7],λ i h1 h2 h3=> ?_⟩
 .simp[P0,a0n,Tryz.func359,Tryz.f359,hp,l,a1E,a0P,a2E,sz3,ag3,a1v,a8n,b4w,sz9,b4s,a5q,c4m,a2C,a7V am5,a0z am5,a2V am5,a1H,at7,m,e1,e2,e,b,ha,c]
 .have e1:¬i=nx:=by omega
  have e2:¬i=nx+1:=by omega
  have e3:¬i=nx+2:=by omega
  simp_all
end
section
open Go Go.PV Go.Proofs
set_option maxRecDepth 10000
theorem b1k:∀{es:List (V×V)},(∀q∈es,∃s,q.1=sV s)->∃ms:List MapEntry,a0D b3G es=some ms/\ms.length=es.length/\∀m∈ms,∃s,m.key= .string s
 |[],_=>⟨[],rfl,rfl,nofun⟩
 |q::es,h=>by
  obtain⟨ms,h1,h2,h3⟩:=b1k (es:=es) λ q hq=>h q (az9 _ hq);obtain⟨t,ht⟩:=h q (ay1 ..);refine⟨{key:= .string t,val:= .bool false,born:=0}::ms,?_,by simp[h2],λ m hm=> ?_⟩
  .grind[a0D,b3G,a0W,a1b]
  grind
theorem a9K{s:ByteArray}:∀{ms:List MapEntry} {i:Nat},(∀m∈ms,∃s,m.key= .string s)->∃r,Instr.findNow .string (.string s) ms i=some r/\∀j v,r=some (j,v)->j<i+ms.length
 |[],i,_=>⟨none,rfl,nofun⟩
 |m::ms,i,h=>by
  obtain⟨t,ht⟩:=h m (ay1 ..);obtain⟨r,h1,h2⟩:=a9K (s:=s) (ms:=ms) (i:=i+1) λ m hm=>h m (az9 _ hm);grind[Instr.findNow,Instr.sameNow]
variable {es:List (V×V)}
theorem a6Y(h:∀q∈es,∃s,q.1=sV s)(s:ByteArray):∃r,(∀b,findKey P0 b 9 (.string s) es=some r)/\(∀i,r=some i->i<es.length):=by
 obtain⟨ms,h1,h2,h3⟩:=b1k h;have hc:∀b,a0c P0 (Instr.checkKey b 10000 9 (.string s))=some ():=by
  intro b;rw[Instr.checkKey,SN.a0a,SN.a0g am6];rfl
 obtain⟨r,k1,k2⟩:=a9K (s:=s) (i:=0) h3;refine⟨r.map (·.1),λ b=> ?_,λ i hi=> ?_⟩
 .unfold findKey;rw[h1,hc b];simp only;have:a0c P0 (Instr.findKey 9 (.string s) ms)=some r:=by
   rw[Instr.findKey,SN.a0a,SN.a0g am6];simp only[az1,k1];rfl
  rw[this];rfl
 .cases r with
  |none=>cases hi
  |some q=>grind
attribute [local simp] a1j a0e a0I a0v a0V a1h a1F opE ev evs a0D a2H a0u a0m St.get St.put tgp tgl a1w a0Z sc a0W a1b a4g a0E a3B a1K a6x lenOf a2u Tryz.underlying252 am9 am5 Tryz.underlying254 am6 Tryz.underlying399 Tryz.underlying153 Tryz.underlying397 a0b V.fit a5z anb a4Z bT V.cells storeAt setCells a3a a3b fill ckl ckn ckr ckm
theorem d8H:Tryz.f279.body=some (a0n 279):=by rfl
theorem c7q:a2G P0 68=some 9:=by rfl
theorem d9g:b4T P0 68=some false:=by rfl
theorem d1l:b4T P0 397=some false:=by rfl
theorem zf4:a4h P0 4=some (bV false):=by rfl
theorem zf9:a4h P0 9=some (sV ⟨#[]⟩):=by rfl
theorem d4E:∃i,P0.info? 9=some i/\i.size=1/\i.zero=some (.string ⟨#[]⟩)/\¬i.bytes>1000:=⟨_,rfl,rfl,rfl,by decide⟩
variable {s:ByteArray}
theorem c9w{i:TypeInfo}(h2:i.size=1)(h4:¬i.bytes>1000):([sV s].any (λ y=>y.cells.length≠i.size)||(Value.string ⟨#[]⟩).cells.size≠i.size||i.size=0||i.bytes>1000|| !a2P (.slice 9))=false:=by
 have e:(Value.string ⟨#[]⟩).cells.size=1:=rfl;have e2:(sV s).cells.length=1:=rfl;grind[a2P]
variable {g:G} {a nx:Nat}
theorem b7O(hb:g a=some (.row 9 1 [sV s] false)):
  a0M P0 g nx 68 68 .nils (.row a 1 0 1)=some {v:= .row nx 1 0 1,upd:=[(nx,some (.row 9 1 [sV s] false))],cnt:=1}:=by
 obtain⟨i,h1,h2,h3,h4⟩:=d4E;have hs:a4j g (.row a 1 0 1)=some [sV s]:=by simp[a4j,a4Q,hb]
 have:=b3i (nx:=nx) c7q h1 h3 Tryz.underlying68 hs (c9w h2 h4) (by simp) (by simp[a2Z]);rw[this];simp[h2]
theorem b3c{b:Nat}{c:List V}(hb:g b=some (.row 9 1 [sV s] false))(hg:g a=some (.row 9 1 c false))(hl:c.length<10000000):
  a0M P0 g nx 68 68 (.row a 1 0 c.length) (.row b 1 0 1)=some {v:= .row nx 1 0 (c.length+1),upd:=[(nx,some (.row 9 1 (c++[sV s]) false)),(a,none)],cnt:=1}:=by
 obtain⟨i,h1,h2,h3,h4⟩:=d4E;have hs:a4j g (.row b 1 0 1)=some [sV s]:=by simp[a4j,a4Q,hb]
 have:=b7i (nx:=nx) (id:=a) (n:=c.length) (xs:=c) c7q h1 h3 Tryz.underlying68 hs (c9w h2 h4) (by grind) (ay3 _) (by grind[a2Z]);grind
variable {c1 call:Calls} {h:HP} {kk nd w:Int} {xs:List V} {c m n p q:Nat} {d o0 o1 o2 o3:V}
theorem d1w{i:Nat}{g:ByteArray}{e:V}(hp:a0b h p=some (.var [.row a 5 0 (q+1),iV w,iV nd,o0,o1,o2,o3]))
  (hs:a0b h a=some (.row 399 5 xs false)) (hx:xs[q]?=some (.agg [iV kk,sV g,d,e,.map c])) (hq:q<=1000000) (hi:call.inl 357=some (a1l c1 m 357))
  (hm:a0b h c=some (.map es)) (hf:∀b,findKey P0 b 9 (.string s) es=some (some i)) {k0:V} (he:es[i]?=some (k0,bV true)):
  a1l call n 279 [.ptr p 0,sV s] h nx=some (iV 143,h,nx):=by
 have f:=a8R c1 m nx p a q hq h [iV w,iV nd,o0,o1,o2,o3] hp;refine a1t Tryz.func279 d8H rfl (by decide) (by simp_all) (x:= .ret) (by grind) ?_;simp[P0,a0n,Tryz.func279,Tryz.f279,hs,hx,hi,f,hm,hf,he,b4w,d1l]
theorem e0m{l:ByteArray}(hp:a0b h p=some (.var [.row a 5 0 (q+1),iV w,iV nd,o0,o1,o2,o3]))(B:p<nx)
  (hs:a0b h a=some (.row 399 5 xs false)) (z:a<nx) (e:p≠a) (hx:xs[q]?=some (.agg [iV kk,sV l,.nils,d,.map c])) (hq:q<=1000000) (hi:call.inl 357=some (a1l c1 m 357))
  (hm:a0b h c=some (.map es)) (C:c<nx) (o:c≠p) (r:c≠a) (hf:∀b,findKey P0 b 9 (.string s) es=some none):
  ∃f,a1l call n 279 [.ptr p 0,sV s] h nx=some (iV 0,f,nx+2)/\a0b f p=some (.var [.row a 5 0 (q+1),iV 4,iV nd,o0,o1,o2,o3])/\
   a0b f a=some (.row 399 5 (xs.set q (.agg [iV kk,sV l,.row (nx+1) 1 0 (1),d,.map c])) false)/\a0b f (nx+1)=some (.row 9 1 ([sV s]) false)/\a0b f c=some (.map (es++[(sV s,bV true)]))/\
   ∀i,i<nx->i≠p->i≠a->i≠c->a0b f i=a0b h i:=by
 have t:¬p=nx:=by omega
 have g:¬a=nx:=by omega
 have j:¬a=nx+1:=by omega
 have k:¬p=nx+1:=by omega
 have A:¬nx+1=a:=by omega
 have u:¬c=nx:=by omega
 have v:¬c=nx+1:=by omega
 have y:=a8R c1 m nx p a q hq h [iV w,iV nd,o0,o1,o2,o3] hp;have ha:a0M P0 (λ x=>if x=nx then some (.row 9 1 [.lit (.string s)] false)else if x=c then some (.map (es++[(.lit (.string s),.lit (.bool true))]))else a0b h x) (nx+1) 68 68 (.nils) (.row nx 1 0 1)=_:=b7O (s:=s) (by simp);refine⟨(p,some (.var [.row a 5 0 (q+1),iV 4,iV nd,o0,o1,o2,o3]))::(a,some (.row 399 5 (xs.set q (.agg [iV kk,sV l,.row (nx+1) 1 0 (1),d,.map c])) false))::(nx+1,some (.row 9 1 ([sV s]) false))::(nx,some (.row 9 1 [sV s] false))::(c,some (.map (es++[(sV s,bV true)])))::h,a1t Tryz.func279 d8H rfl (by decide) (by simp_all) (x:= .ret) (by grind) ?_,by simp,by simp[as7 e],by simp_all[as7],by simp_all,λ i h1 h2 h3 h4=> ?_⟩
 .simp[P0,a0n,Tryz.func279,Tryz.f279,hp,hs,hx,hi,y,hm,hf,zf4,a2E,b4w,d1l,b4s,d9g,c7q,sz9,zf9,sz3,a1H,ha,at7,t,g,j,k,as7 o,as7 r,e]
 .have e1:¬i=nx:=by omega
  have e2:¬i=nx+1:=by omega
  simp_all
theorem d9V{d:Nat}{r:ByteArray}{f:V}{e:List V}(hp:a0b h p=some (.var [.row a 5 0 (q+1),iV w,iV nd,o0,o1,o2,o3]))(I:p<nx)
  (hs:a0b h a=some (.row 399 5 xs false)) (G:a<nx) (g:p≠a) (hx:xs[q]?=some (.agg [iV kk,sV r,.row d 1 0 e.length,f,.map c])) (hq:q<=1000000) (hi:call.inl 357=some (a1l c1 m 357))
  (hm:a0b h c=some (.map es)) (J:c<nx) (t:c≠p) (u:c≠a) (hf:∀b,findKey P0 b 9 (.string s) es=some none) (hk:a0b h d=some (.row 9 1 e false)) (K:d<nx) (v:d≠p) (y:d≠a) (z:d≠c) (hl:e.length<10000000):
  ∃j,a1l call n 279 [.ptr p 0,sV s] h nx=some (iV 0,j,nx+2)/\a0b j p=some (.var [.row a 5 0 (q+1),iV 4,iV nd,o0,o1,o2,o3])/\
   a0b j a=some (.row 399 5 (xs.set q (.agg [iV kk,sV r,.row (nx+1) 1 0 (e.length+1),f,.map c])) false)/\a0b j (nx+1)=some (.row 9 1 (e++[sV s]) false)/\a0b j c=some (.map (es++[(sV s,bV true)]))/\
   ∀i,i<nx->i≠p->i≠a->i≠c->i≠d->a0b j i=a0b h i:=by
 have A:¬p=nx:=by omega
 have k:¬a=nx:=by omega
 have l:¬a=nx+1:=by omega
 have o:¬p=nx+1:=by omega
 have H:¬nx+1=a:=by omega
 have B:¬c=nx:=by omega
 have C:¬c=nx+1:=by omega
 have D:¬d=nx:=by omega
 have E:¬d=nx+1:=by omega
 have F:=a8R c1 m nx p a q hq h [iV w,iV nd,o0,o1,o2,o3] hp;have ha:a0M P0 (λ x=>if x=nx then some (.row 9 1 [.lit (.string s)] false)else if x=c then some (.map (es++[(.lit (.string s),.lit (.bool true))]))else a0b h x) (nx+1) 68 68 (.row d 1 0 e.length) (.row nx 1 0 1)=_:=b3c (s:=s) (by simp) (by grind) hl;refine⟨(p,some (.var [.row a 5 0 (q+1),iV 4,iV nd,o0,o1,o2,o3]))::(a,some (.row 399 5 (xs.set q (.agg [iV kk,sV r,.row (nx+1) 1 0 (e.length+1),f,.map c])) false))::(nx+1,some (.row 9 1 (e++[sV s]) false))::(d,none)::(nx,some (.row 9 1 [sV s] false))::(c,some (.map (es++[(sV s,bV true)])))::h,a1t Tryz.func279 d8H rfl (by decide) (by simp_all) (x:= .ret) (by grind) ?_,by simp,by simp[as7 g],by simp_all[as7],by simp_all[as7],λ i h1 h2 h3 h4 h5=> ?_⟩
 .simp[P0,a0n,Tryz.func279,Tryz.f279,hp,hs,hx,hi,F,hm,hf,zf4,a2E,b4w,d1l,b4s,d9g,c7q,sz9,zf9,sz3,a1H,ha,at7,A,k,l,o,as7 t,as7 u,g,as7 v,as7 y]
 .have e1:¬i=nx:=by omega
  have e2:¬i=nx+1:=by omega
  simp_all
end
section
open Go Go.PV Go.Proofs
set_option maxRecDepth 10000
attribute [local simp] a1j a0e a0I a0v a0V a1h a1F opE ev evs evo a0D a2H a0u a0m St.get St.put tgp tgl a1w a0Z sc a0W a1b a4g a0E a3B a1K a6x lenOf a2u am5 am6 Tryz.underlying29 al1 Tryz.underlying82 Tryz.underlying81 a0b V.fit a5z a4Z bT V.cells storeAt setCells a3a a3b fill ckl ckn ckr ckm
@[local simp] theorem ckf {a:Nat}:a0r (.fn a [] [])=true:=rfl
abbrev b4B:ByteArray:=⟨#[97,99,99,116]⟩
abbrev c1B:ByteArray:=⟨#[109,97,105,108,116,111]⟩
abbrev d6I:ByteArray:=⟨#[104,116,116,112,115]⟩
abbrev d8Y:ByteArray:=⟨#[100,105,100]⟩
abbrev a4A:List (V×V):=[(sV b4B,.fn 62 [] []),(sV c1B,.fn 63 [] []),(sV d6I,.fn 64 [] []),(sV d8Y,.fn 65 [] [])]
theorem fa0:findKey P0 false 9 (.string b4B) []=some none:=by decide+kernel
theorem fa1:findKey P0 false 9 (.string c1B) [(sV b4B,.fn 62 [] [])]=some none:=by decide+kernel
theorem fa2:findKey P0 false 9 (.string d6I) [(sV b4B,.fn 62 [] []),(sV c1B,.fn 63 [] [])]=some none:=by decide+kernel
theorem fa3:findKey P0 false 9 (.string d8Y) [(sV b4B,.fn 62 [] []),(sV c1B,.fn 63 [] []),(sV d6I,.fn 64 [] [])]=some none:=by decide+kernel
theorem b28:Tryz.f28.body=some (a0n 28):=by rfl
theorem c8J(call:Calls)(n nx:Nat)(h:HP):∃a,a1l call n 28 [] h nx=some (.map nx,a,nx+1)/\a0b a nx=some (.map a4A)/\∀i,i≠nx->a0b a i=a0b h i:=by
 refine⟨(nx,some (.map a4A))::(nx,some (.map [(sV b4B,.fn 62 [] []),(sV c1B,.fn 63 [] []),(sV d6I,.fn 64 [] [])]))::(nx,some (.map [(sV b4B,.fn 62 [] []),(sV c1B,.fn 63 [] [])]))::(nx,some (.map [(sV b4B,.fn 62 [] [])]))::(nx,some (.map []))::h,a1t Tryz.func28 b28 rfl (by decide) (by simp_all) (x:= .ret) (by grind) ?_,by simp,λ i hi=>by simp[hi]⟩;simp[P0,a0n,Tryz.func28,Tryz.f28,fa0,fa1,fa2,fa3]
end
section
open Go Go.PV Go.Proofs
set_option maxRecDepth 10000
attribute [local simp] a1j a0e a0I a0v a0V a1h a1F opE ev evs a0D a2H a0u a0m St.get St.put tgp tgl a1w a0Z sc a0W a1b a4g a0E a3B a1K a6x lenOf a2u Tryz.underlying252 am9 am5 Tryz.underlying254 am6 Tryz.underlying399 Tryz.underlying153 Tryz.underlying397 Tryz.underlying404 a0b V.fit a5z anb a4Z bT V.cells storeAt setCells a3a a3b fill ckl ckn ckr ckm
noncomputable def a7U:Code:=a1e (a1e (a1e (a0n 280)))
noncomputable def a9Z:Code:=a2I (a0n 280)
noncomputable def a9M:Code:=a2I (a1e (a0n 280))
noncomputable def b0X:Code:=a2I (a1e (a1e (a0n 280)))
theorem d9i:Tryz.f280.body=some (.seq a9Z (.seq a9M (.seq b0X a7U))):=by rfl
variable {call:Calls} {h:HP} {nd w:Int} {n nx p:Nat} {e:T} {o0 o1 o2 o3:V}
theorem c1y{a:V}(hp:a0b h p=some (.var [a,iV w,iV nd,o0,o1,o2,o3]))(g0:T.get 8 e 0= .ptr p 0)(c:0<=nd)(d:nd<=20001)(hm:20000<=nd):
  ∃b,a0e P0 call n a7U {env:=e,h:=h,nx:=nx,sz:=50}=some (.ret,{env:=b,h:=(p,some (.var [a,iV w,iV (nd+1),o0,o1,o2,o3]))::h,nx:=nx,sz:=50})/\T.get 8 b 4=iV 142:=by
 have e1:IntKind.i64.wrap (nd+1)=nd+1:=a2h (by omega) (by omega);have e2:(20000:Int)<nd+1:=by omega
 simp[P0,a7U,a0n,a1e,Tryz.func280,Tryz.f280,hp,g0,sz3,ag3,a2V am5,a0z am5,e1,e2]
variable {t:ByteArray} {k:Int}
theorem c1c{c1:Calls}{m b nx2:Nat}{h2:HP}{a:V}(hp:a0b h p=some (.var [a,iV w,iV nd,o0,o1,o2,o3]))(g0:T.get 8 e 0= .ptr p 0)(g5:T.get 8 e 5= .ptr b 0)
  (hv:a0b h b=some (.var [iV k,sV t,.nils,.nils])) (c:b≠p) (hi:call.inl 360=some (a1l c1 m 360)) (f:0<=nd) (hm:nd<20000)
  (hd:a1l c1 m 360 [.ptr p 0,.agg [iV k,sV t,.nils,.nils]] ((p,some (.var [a,iV w,iV (nd+1),o0,o1,o2,o3]))::h) nx=some (.tup [],h2,nx2)):
  ∃d,a0e P0 call n a7U {env:=e,h:=h,nx:=nx,sz:=50}=some (.ret,{env:=d,h:=h2,nx:=nx2,sz:=50})/\T.get 8 d 4=iV 0:=by
 have e1:IntKind.i64.wrap (nd+1)=nd+1:=a2h (by omega) (by omega);have e2:¬(20000:Int)<nd+1:=by omega
 simp[P0,a7U,a0n,a1e,Tryz.func280,Tryz.f280,hp,g0,g5,hv,c,hi,hd,sz3,ag3,a2E,a3Q,a2V am5,a0z am5,e1,e2]
theorem d7l{P:Program}{a b c d:Code}{s e:St}{r:Option (Ex×St)}(h:a0e P call n (.seq a (.seq b c)) s=some (.normal,e))(k:a0e P call n d e=r):a0e P call n (.seq a (.seq b (.seq c d))) s=r:=by
 grind[a0e]
def a4t(call:Calls)(n nx p:Nat)(h:HP)(k a:Int)(t:ByteArray)(d:Int)(e:ByteArray):Prop:=
 ∃b,a0e P0 call n (.seq a9Z (.seq a9M b0X)) {env:=a0u [.ptr p 0,.agg [iV k,sV t,iV a]] 0 .leaf,h:=h,nx:=nx,sz:=50}=some (.normal,b)/\b.sz=50/\nx<=b.nx/\(∀i,i<nx->a0b b.h i=a0b h i)/\T.get 8 b.env 0= .ptr p 0/\
  ∃c,T.get 8 b.env 5= .ptr c 0/\a0b b.h c=some (.var [iV d,sV e,.nils,.nils])/\nx<=c/\c<b.nx
variable {a:Int}
theorem b7t(h4:k≠4)(h5:k≠5):a4t call n nx p h k a t 5 t:=by
 have e4:(k==4)=false:=by simpa using h4
 have e5:(k==5)=false:=by simpa using h5
 unfold a4t;simp[P0,a9Z,a9M,b0X,a0n,a2I,a1e,Tryz.func280,Tryz.f280,sz3,ag3,sz9,ag9,a2E,b4s,a5q,a2C,a0l am5,e4,e5];grind
variable {b:ByteArray}
theorem c3V(hi:call.inl 361=none)(hc:call.cbv 361 [sV t] []=some (.tup [sV b,iV 0],[])):a4t call n nx p h 4 a t 4 b:=by
 have hd:∀(g:G) (nx:Nat),a1q call.cbv g nx 361 [sV t]=some {v:= .tup [sV b,iV 0]}:=λ g nx=>a0T (by rfl) hc (by rfl);unfold a4t;simp[P0,a9Z,a9M,b0X,a0n,a2I,a1e,Tryz.func280,Tryz.f280,sz3,ag3,sz9,ag9,a2E,b4s,a5q,a2C,a0l am5,a7Y al1,hi,hd];grind
theorem c0B{e:Int}(hi:call.inl 361=none)(he:e≠0)(hc:call.cbv 361 [sV t] []=some (.tup [sV b,iV e],[])):
  ∃h2 nx2,a1l call n 280 [.ptr p 0,.agg [iV 4,sV t,iV a]] h nx=some (iV 144,h2,nx2)/\nx<=nx2/\∀i,i<nx->a0b h2 i=a0b h i:=by
 have hd:∀(g:G) (nx:Nat),a1q call.cbv g nx 361 [sV t]=some {v:= .tup [sV b,iV e]}:=λ g nx=>a0T (by rfl) hc (by rfl);have hb:(e !=0)=true:=by simpa using he
 refine⟨(nx+1,some (.var [iV 5,sV t,.nils,.nils]))::(nx+1,some (.var [iV 0,sV ⟨#[]⟩,.nils,.nils]))::(nx,some (.var [iV 4,sV t,iV a]))::h,nx+2,a1t Tryz.func280 d9i rfl (by decide) (by simp_all) (x:= .ret) (by grind) ?_,by omega,λ i hi=> ?_⟩
 .simp[P0,a9Z,a9M,b0X,a0n,a2I,a1e,Tryz.func280,Tryz.f280,sz3,ag3,sz9,ag9,a2E,b4s,a5q,a2C,a0l am5,a7Y al1,hi,hd,hb]
 .simp only[a0b];grind
theorem fk0:findKey P0 false 9 (.string ⟨#[110,117,108,108]⟩) []=some none:=by decide+kernel
theorem fk1:findKey P0 false 9 (.string ⟨#[102,97,108,115,101]⟩) [(sV ⟨#[110,117,108,108]⟩,iV 1)]=some none:=by decide+kernel
theorem fk2:findKey P0 false 9 (.string ⟨#[116,114,117,101]⟩) [(sV ⟨#[110,117,108,108]⟩,iV 1),(sV ⟨#[102,97,108,115,101]⟩,iV 2)]=some none:=by decide+kernel
theorem zf3:a4h P0 3=some (iV 0):=by rfl
theorem c0M:∃j,0<=j/\j<=3/\a4t call n nx p h 5 a t j ⟨#[]⟩:=by
 obtain⟨r,k1,k2⟩:=a6Y (es:=[(sV ⟨#[110,117,108,108]⟩,iV 1),(sV ⟨#[102,97,108,115,101]⟩,iV 2),(sV ⟨#[116,114,117,101]⟩,iV 3)]) (by grind) t;have go:∀j,(match r with|some i=>([(sV ⟨#[110,117,108,108]⟩,iV 1),(sV ⟨#[102,97,108,115,101]⟩,iV 2),(sV ⟨#[116,114,117,101]⟩,iV 3)][i]?).map (λ p=>p.2)|none=>some (iV 0))=some (iV j)->a4t call n nx p h 5 a t j ⟨#[]⟩:=by
  intro j hj;unfold a4t;cases r with
  |none=>simp only[az0,V.lit.injEq,At3,ao5]at hj;subst hj;simp[P0,a9Z,a9M,b0X,a0n,a2I,a1e,Tryz.func280,Tryz.f280,sz3,ag3,sz9,ag9,a2E,b4s,a5q,a2C,a0l am5,fk0,fk1,fk2,k1,zf3];grind
  |some i=>simp only[az2]at hj;obtain⟨q,b,c⟩:=hj;simp[P0,a9Z,a9M,b0X,a0n,a2I,a1e,Tryz.func280,Tryz.f280,sz3,ag3,sz9,ag9,a2E,b4s,a5q,a2C,a0l am5,fk0,fk1,fk2,k1,zf3,b,c];grind
 grind
end
section
open Go Go.PV Go.Proofs
set_option maxRecDepth 10000
attribute [local simp] a1j a0e a0I a0v a0V a1h a1F opE ev evs evo a0D a2H a0u a0m St.get St.put tgp tgl a1w a0Z sc a0W a1b a4g a0E a3B a1K a6x lenOf a2u Tryz.underlying252 am9 am5 Tryz.underlying254 am6 Tryz.underlying399 Tryz.underlying153 Tryz.underlying397 Tryz.underlying404 a0b V.fit a5z anb a4Z bT V.cells storeAt setCells a3a a3b fill ckl ckn ckr ckm
theorem d3g:Tryz.f278.body=some (a0n 278):=by rfl
variable {c:ByteArray} {c1 call:Calls} {h h2:HP} {m n nx nx2 p:Nat} {e:V}
theorem c2o(hc:c.toList=[91])(hi:call.inl 359=some (a1l c1 m 359))(ho:a1l c1 m 359 [.ptr p 0,iV 6,iV 1] h nx=some (e,h2,nx2)):
  a1l call n 278 [.ptr p 0,sV c] h nx=some (e,h2,nx2):=by
 refine a1t al3 d3g rfl (by decide) (by simp_all) (x:= .ret) (by grind) ?_;simp[P0,a0n,Tryz.f278,a0y am6,hc,hi,ho]
theorem c5x(hc:c.toList=[123])(hi:call.inl 359=some (a1l c1 m 359))(ho:a1l c1 m 359 [.ptr p 0,iV 7,iV 3] h nx=some (e,h2,nx2)):
  a1l call n 278 [.ptr p 0,sV c] h nx=some (e,h2,nx2):=by
 refine a1t al3 d3g rfl (by decide) (by simp_all) (x:= .ret) (by grind) ?_;simp[P0,a0n,Tryz.f278,a0y am6,hc,hi,ho]
variable {w:Int} {o:List V}
theorem b7x{a:V}(hp:a0b h p=some (.var (a::iV w::o)))(hc:c.toList=[58]):
  a1l call n 278 [.ptr p 0,sV c] h nx=some (iV 0,(p,some (.var (a::iV 0::o)))::h,nx):=by
 refine a1t al3 d3g rfl (by decide) (by simp_all) (x:= .ret) (by grind) ?_;simp[P0,a0n,Tryz.f278,sz3,a0y am6,hc,hp]
variable {kk:Int} {xs:List V} {a q:Nat}
theorem b7S{j:List V}(hp:a0b h p=some (.var (.row a 5 0 (q+1)::iV w::o)))(hc:c.toList=[44])(hs:a0b h a=some (.row 399 5 xs false))(b:p≠a)
  (hx:xs[q]?=some (.agg (iV kk::j))) (hq:q<=1000000) (hi:call.inl 357=some (a1l c1 m 357)):
  ∃e f,(e=0\/e=2)/\a1l call n 278 [.ptr p 0,sV c] h nx=some (iV 0,f,nx)/\a0b f p=some (.var (.row a 5 0 (q+1)::iV e::o))/\∀i,i≠p->a0b f i=a0b h i:=by
 have d:=a8R c1 m nx p a q hq ((p,some (.var (.row a 5 0 (q+1)::iV 0::o)))::h) (iV 0::o) (by simp[a0b]);by_cases h7:kk=7
 .subst h7;refine⟨2,(p,some (.var (.row a 5 0 (q+1)::iV 2::o)))::(p,some (.var (.row a 5 0 (q+1)::iV 0::o)))::h,.inr rfl,a1t al3 d3g rfl (by decide) (by simp_all) (x:= .ret) (by grind) ?_,by simp,λ i hi=>by simp[hi]⟩;simp[P0,a0n,Tryz.f278,sz3,ag3,a2E,a0l am5,a0y am6,hc,hp,hs,as7 b,hx,hi,d]
 .have g:(kk==7)=false:=by simpa using h7
  refine⟨0,(p,some (.var (.row a 5 0 (q+1)::iV 0::o)))::h,.inl rfl,a1t al3 d3g rfl (by decide) (by simp_all) (x:= .ret) (by grind) ?_,by simp,λ i hi=>by simp[hi]⟩;simp[P0,a0n,Tryz.f278,sz3,ag3,a2E,a0l am5,a0y am6,hc,hp,hs,as7 b,hx,hi,d,g]
theorem c8x:a3d P0 250 (.row a 5 0 (q+1)) none (some (.lit (.int .i64 (q:Int)))) none=some (.row a 5 0 q):=by
 simp_all[a3d,a1v,a8n]
theorem b7z{c2:Calls}{m2 sid:Nat}{nd:Int}{tt:ByteArray}{ks is mv o0 o1 o2 o3:V}(hp:a0b h p=some (.var [.row sid 5 0 (q+1),iV w,iV nd,o0,o1,o2,o3]))(hlt:p<nx)(h1:c.toList≠[91])(h2':c.toList≠[123])(h3:c.toList≠[58])(h4:c.toList≠[44])
  (hs:a0b h sid=some (.row 399 5 xs false)) (hlt2:sid<nx) (hx:xs[q]?=some (.agg [iV kk,sV tt,ks,is,mv])) (hks:a0r ks=true) (his:a0r is=true) (hq:q<=1000000) (hi:call.inl 357=some (a1l c1 m 357)) (hi2:call.inl 360=some (a1l c2 m2 360))
  (hd:a1l c2 m2 360 [.ptr p 0,.agg [iV kk,sV tt,ks,is]] ((p,some (.var [.row sid 5 0 q,iV w,iV nd,o0,o1,o2,o3]))::(nx,some (.var [iV kk,sV tt,ks,is]))::(nx,some (.var [iV 0,sV ⟨#[]⟩,.nils,.nils]))::h) (nx+1)=some (.tup [],h2,nx2)):
  a1l call n 278 [.ptr p 0,sV c] h nx=some (iV 0,h2,nx2):=by
 have hne:¬p=nx:=by omega
 have hne0:¬nx=p:=by omega
 have hel:=a8R c1 m nx p sid q hq h [iV w,iV nd,o0,o1,o2,o3] hp;have e1:IntKind.i64.wrap (q:Int)=q:=a2h (by omega) (by omega);refine a1t al3 d3g rfl (by decide) (by simp_all) (x:= .ret) (by grind) ?_;simp[P0,a0n,Tryz.f278,a2E,a3Q,a2C,a1E,a0P,a1v,a0y am6,c5s am5,hp,hs,hx,hi,hi2,hel,h1,h2',h3,h4,hne,hks,his,c8x,e1];rw[ax3 (a7D (n:=15) (us:=[(0,1),(0,2),(0,3),(0,4),(0,5),(1,5),(2,5),(3,5),(4,5),(0,6),(1,6),(2,6),(3,6),(4,6),(0,7),(1,7),(2,7),(3,7),(4,7),(0,8),(1,8),(2,8),(3,8),(4,8),(0,9),(1,9),(2,9),(3,9),(4,9),(0,10),(1,10),(2,10),(3,10),(4,10),(0,11)]) (by decide+kernel) rfl (by decide+kernel) ?_)]
 .simp_all
 .simp[a7k,a5A,a5n,a3q,a2w,a5V,a2z,Op.operands,Call.operands,dbl]
end
section
open Go Go.PV Go.Proofs
set_option maxRecDepth 10000
attribute [local simp] a1j a0e a0I a0v a0V a1h a1F opE ev evs evo a0D a2H a0u a0m St.get St.put tgp tgl a1w a0Z sc a0W a1b a4g a0E a3B a1K a6x lenOf a2u Tryz.underlying252 am9 am5 Tryz.underlying254 am6 Tryz.underlying399 Tryz.underlying153 a0b V.fit a5z anb a4Z bT V.cells storeAt setCells a3a a3b fill ckl ckn ckr ckm
theorem d3o:Tryz.f163.body=some (a0n 163):=by rfl
abbrev H1(nx:Nat)(k a:Int)(t:ByteArray)(h:HP):HP:=(nx+1,some (.var [iV k,sV t,iV a]))::(nx,some (.var [iV k,sV t,iV a]))::h
theorem a8b{P:Program}{v:Bool}:a0t P (Op.unary .not (.bool v))=some (bV (!v)):=by rfl
variable {t:ByteArray} {c1 call:Calls} {h h2:HP} {a k w:Int} {o:List V} {m n nx nx2 p:Nat} {c e:V}
theorem b9Q(hp:a0b h p=some (.var (c::iV w::o)))(f:p<nx)(hi:call.inl 277=some (a1l c1 m 277))(hf:a1l c1 m 277 [.ptr p 0,.agg [iV k,sV t,iV a]] ((nx,some (.var [iV k,sV t,iV a]))::h) (nx+1)=some (bV false,H1 nx k a t h,nx+2)):
  a1l call n 163 [.ptr p 0,.agg [iV k,sV t,iV a]] h nx=some (iV 140,H1 nx k a t h,nx+2):=by
 have d:¬p=nx:=by omega
 have b:¬p=nx+1:=by omega
 refine a1t al4 d3o rfl (by decide) (by simp_all) (x:= .ret) (by grind) ?_;simp[P0,a0n,Tryz.f163,a2k,a2j,a8b,hi,hf]
theorem c0g(hp:a0b h p=some (.var (c::iV w::o)))(f:p<nx)(hi:call.inl 277=some (a1l c1 m 277))(hf:a1l c1 m 277 [.ptr p 0,.agg [iV k,sV t,iV a]] ((nx,some (.var [iV k,sV t,iV a]))::h) (nx+1)=some (bV true,H1 nx k a t h,nx+2))(hk:k=2)(hj:call.inl 278=some (a1l c1 m 278))(hr:a1l c1 m 278 [.ptr p 0,sV t] (H1 nx k a t h) (nx+2)=some (e,h2,nx2)):
  a1l call n 163 [.ptr p 0,.agg [iV k,sV t,iV a]] h nx=some (e,h2,nx2):=by
 have d:¬p=nx:=by omega
 have b:¬p=nx+1:=by omega
 subst hk;refine a1t al4 d3o rfl (by decide) (by simp_all) (x:= .ret) (by grind) ?_;simp[P0,a0n,Tryz.f163,sz3,ag3,sz9,ag9,a2k,a2j,a0l am5,a8b,hi,hf,hj,hr]
theorem c4E(hp:a0b h p=some (.var (c::iV w::o)))(f:p<nx)(hi:call.inl 277=some (a1l c1 m 277))(hf:a1l c1 m 277 [.ptr p 0,.agg [iV k,sV t,iV a]] ((nx,some (.var [iV k,sV t,iV a]))::h) (nx+1)=some (bV true,H1 nx k a t h,nx+2))(hk:k≠2)(hw:w=2)(hj:call.inl 279=some (a1l c1 m 279))(hr:a1l c1 m 279 [.ptr p 0,sV t] (H1 nx k a t h) (nx+2)=some (e,h2,nx2)):
  a1l call n 163 [.ptr p 0,.agg [iV k,sV t,iV a]] h nx=some (e,h2,nx2):=by
 have d:¬p=nx:=by omega
 have b:¬p=nx+1:=by omega
 have k2:(k==2)=false:=by simpa using hk
 subst hw;refine a1t al4 d3o rfl (by decide) (by simp_all) (x:= .ret) (by grind) ?_;simp[P0,a0n,Tryz.f163,sz3,ag3,sz9,ag9,a2k,a2j,a0l am5,a8b,hp,d,b,hi,hf,hj,hr,k2]
theorem c2C(hp:a0b h p=some (.var (c::iV w::o)))(f:p<nx)(hi:call.inl 277=some (a1l c1 m 277))(hf:a1l c1 m 277 [.ptr p 0,.agg [iV k,sV t,iV a]] ((nx,some (.var [iV k,sV t,iV a]))::h) (nx+1)=some (bV true,H1 nx k a t h,nx+2))(hk:k≠2)(hw:w=3)(hj:call.inl 279=some (a1l c1 m 279))(hr:a1l c1 m 279 [.ptr p 0,sV t] (H1 nx k a t h) (nx+2)=some (e,h2,nx2)):
  a1l call n 163 [.ptr p 0,.agg [iV k,sV t,iV a]] h nx=some (e,h2,nx2):=by
 have d:¬p=nx:=by omega
 have b:¬p=nx+1:=by omega
 have k2:(k==2)=false:=by simpa using hk
 subst hw;refine a1t al4 d3o rfl (by decide) (by simp_all) (x:= .ret) (by grind) ?_;simp[P0,a0n,Tryz.f163,sz3,ag3,sz9,ag9,a2k,a2j,a0l am5,a8b,hp,d,b,hi,hf,hj,hr,k2]
theorem b9v{f:V}(hp:a0b h p=some (.var (f::iV w::o)))(i:p<nx)(hi:call.inl 277=some (a1l c1 m 277))(hf:a1l c1 m 277 [.ptr p 0,.agg [iV k,sV t,iV a]] ((nx,some (.var [iV k,sV t,iV a]))::h) (nx+1)=some (bV true,H1 nx k a t h,nx+2))(hk:k=1)(b:w≠2)(c:w≠3):
  a1l call n 163 [.ptr p 0,.agg [iV k,sV t,iV a]] h nx=some (iV 0,H1 nx k a t h,nx+2):=by
 have g:¬p=nx:=by omega
 have d:¬p=nx+1:=by omega
 subst hk;have j:(w==2)=false:=by simpa using b
 have l:(w==3)=false:=by simpa using c
 refine a1t al4 d3o rfl (by decide) (by simp_all) (x:= .ret) (by grind) ?_;simp[P0,a0n,Tryz.f163,sz3,ag3,a2k,a2j,a0l am5,a8b,hp,g,d,hi,hf,j,l]
theorem c0w{g:V}(hp:a0b h p=some (.var (g::iV w::o)))(j:p<nx)(hi:call.inl 277=some (a1l c1 m 277))(hf:a1l c1 m 277 [.ptr p 0,.agg [iV k,sV t,iV a]] ((nx,some (.var [iV k,sV t,iV a]))::h) (nx+1)=some (bV true,H1 nx k a t h,nx+2))(hk:k≠2)(b:k≠1)(c:w≠2)(d:w≠3)(hj:call.inl 280=some (a1l c1 m 280))(hr:a1l c1 m 280 [.ptr p 0,.agg [iV k,sV t,iV a]] (H1 nx k a t h) (nx+2)=some (e,h2,nx2)):
  a1l call n 163 [.ptr p 0,.agg [iV k,sV t,iV a]] h nx=some (e,h2,nx2):=by
 have i:¬p=nx:=by omega
 have f:¬p=nx+1:=by omega
 have k2:(k==2)=false:=by simpa using hk
 have k1:(k==1)=false:=by simpa using b
 have l:(w==2)=false:=by simpa using c
 have q:(w==3)=false:=by simpa using d
 refine a1t al4 d3o rfl (by decide) (by simp_all) (x:= .ret) (by grind) ?_;simp[P0,a0n,Tryz.f163,sz3,ag3,a2k,a2j,a0l am5,a8b,hp,i,f,hi,hf,hj,hr,k2,k1,l,q]
end
section
open Go Go.PV Go.Proofs
def Res(N nx lo p:Nat)(h c:HP)(nx':Nat)(own a:List Nat)(d:Int)(b:List V):Prop:=
 nx<=nx'/\JOk N (a0b c) nx' lo p d b a/\(∀i,i<nx->i≠p->i∉own->a0b c i=a0b h i)/\∀i∈a,i∈own\/nx<=i
theorem DocsOk.snoc{D:V->List Nat->Prop}{v:V}{a:List Nat}(hv:D v a):∀{xs:List V} {r:List Nat},DocsOk D xs r->DocsOk D (xs++[v]) (r++a)
 |[],r,h=>by
  have:r=[]:=h;subst this;exact⟨a,[],hv,rfl,by simp⟩
 |x::xs,r,⟨b,c,h1,h2,h3⟩=>⟨b,c++a,h1,DocsOk.snoc hv h2,by grind⟩
variable {g:G} {ids:List Nat} {N:Nat} {v:V}
theorem KeysOk.cell(h:KeysOk N g v ids):a0r v=true:=by
 rcases h with⟨rfl,_⟩|⟨id,xs,rfl,_⟩<;>rfl
theorem ItemsOk.cell{D:V->List Nat->Prop}(h:ItemsOk N D g v ids):a0r v=true:=by
 rcases h with⟨rfl,_⟩|⟨id,xs,r,rfl,_⟩<;>rfl
variable {l:List Nat} {p:Nat}
theorem Uni.ne{i:Nat}(h:Uni (p::l))(hi:i∈l):i≠p:=by
 have h1:=h i;grind
theorem c1V{call c1:Calls}{n m nx lo:Nat}{h:HP}{w nd k:Int}{t:ByteArray}{E o0 o1 o2 o3 ks is:V}{sids vids:List Nat}{lvls:List V}(hi:call.inl 357=some (a1l c1 m 357))
  (hp:a0b h p=some (.var [E,iV w,iV nd,o0,o1,o2,o3])) (hs:StOk N (a0b h) E lvls sids) (ho:DocOk N (a0b h) 65 (.agg [o0,o1,o2,o3]) l) (hv:DocOk N (a0b h) (65-lvls.length) (.agg [iV k,sV t,ks,is]) vids)
  (hu:Uni (p::(sids++l++vids))) (hb:∀i∈p::(sids++l++vids),lo<=i/\i<nx) (p7:lo<=nx) (P:0<=nd) (Q:nd<=20000) (hl:lvls.length<=64) (hN:N<=2000000):
  ∃j nx' A g u,a1l call n 360 [.ptr p 0,.agg [iV k,sV t,ks,is]] h nx=some (.tup [],j,nx')/\(A=6\/A=5/\g≠[])/\g.length=lvls.length/\Res (N+1) nx lo p h j nx' (sids++l++vids) u A g:=by
 have M:a0r ks=true/\a0r is=true:=by
  cases he:65-lvls.length with
  |zero=>grind
  |succ d=>
   rw[he]at hv;obtain⟨k',t',p8,p9,a,b,e,_,_,h4,h5,_⟩:=hv;injection e with e
   simp only[Az2,ao0]at e;obtain⟨_,_,rfl,rfl⟩:=e;exact⟨h4.cell,h5.cell⟩
 obtain⟨F,G⟩:=M;have H:p<nx:=(hb p (by simp)).2;have R:∀(j:HP),(∀i,i<nx->i≠p->a0b j i=a0b h i)->∀i∈sids++l++vids,a0b j i=a0b h i:=λ j hh i hi=>hh i (hb i (az9 _ hi)).2 (hu.ne hi);cases lvls with
 |nil=>
  have B:∀j,a1l call n 360 [.ptr p 0,.agg [iV k,sV t,ks,is]] h nx=some (.tup [],j,nx+1)->a0b j p=some (.var [E,iV 6,iV nd,iV k,sV t,ks,is])->(∀i,i<nx->i≠p->a0b j i=a0b h i)->
    ∃j nx' A g u,a1l call n 360 [.ptr p 0,.agg [iV k,sV t,ks,is]] h nx=some (.tup [],j,nx')/\(A=6\/A=5/\g≠[])/\g.length=([]:List V).length/\Res (N+1) nx lo p h j nx' (sids++l++vids) u A g:=by
   intro j h1 h2 h3;have hh:=R j h3;refine⟨j,nx+1,6,[],sids++vids,h1,.inl rfl,rfl,by omega,⟨E,nd,iV k,sV t,ks,is,sids,vids,h2,hv.frame (by omega) λ i hi=>hh i (by simp[hi]),hs.frame (by omega) λ i hi=>hh i (by simp[hi]),rfl,?_,?_,P,Q,hl⟩,λ i h4 h5 _=>h3 i h4 h5,λ i hi=> .inl ?_⟩
   .intro i;have:=hu i;grind
   .intro i hi;have:=hb i (by grind);omega
   .grind
  rcases hs with⟨rfl,_,_⟩|⟨o,f,r,rfl,_⟩
  .obtain⟨j,h1,h2,h3⟩:=d8u (call:=call) (n:=n) (k:=k) (t:=t) hp H F G;exact B j h1 h2 h3
  .obtain⟨j,h1,h2,h3⟩:=d4A (call:=call) (n:=n) (k:=k) (t:=t) hp H F G;exact B j h1 h2 h3
 |cons top f=>
  rcases hs with⟨_,he,_⟩|⟨o,C,r,rfl,J,Z,rfl⟩
  .cases he
  obtain⟨ta,S,T,O,rfl,p1⟩:=Z;obtain⟨kk,I,s,y,q,es,ka,ia,rfl,q1,q2,q3,q4,q5,q6,rfl⟩:=T;have hx:((V.agg [iV kk,sV I,s,y,.map q]::f).reverse++C)[f.length]?=some (.agg [iV kk,sV I,s,y,.map q]):=by simp
  have U:∀v,((V.agg [iV kk,sV I,s,y,.map q]::f).reverse++C).set f.length v=(v::f).reverse++C:=by intro v;simp
  have W:p≠o:=λ e=>hu.ne (i:=o) (by simp) e.symm;have X:o<nx:=(hb o (by simp)).2;have p2:DocOk N (a0b h) (64-f.length) (.agg [iV k,sV t,ks,is]) vids:=by
   have:65-(V.agg [iV kk,sV I,s,y,.map q]::f).length=64-f.length:=by simp
   rw[<-this];exact hv
  have B:∀(j:HP) (K:List V) (L gone:List Nat),a1l call n 360 [.ptr p 0,.agg [iV k,sV t,ks,is]] h nx=some (.tup [],j,nx+3)->a0b j p=some (.var [.row o 5 0 (f.length+1),iV 5,iV nd,o0,o1,o2,o3])->
    a0b j o=some (.row 399 5 (((V.agg [iV kk,sV I,s,y,.map q]::f).reverse++C).set f.length (.agg [iV kk,sV I,s,.row (nx+2) 4 0 (K.length+1),.map q])) false)->a0b j (nx+2)=some (.row 153 4 (K++[.agg [iV k,sV t,ks,is]]) false)->
    (∀i,i<nx->i≠p->i≠o->i∉gone->a0b j i=a0b h i)->ia=gone++L->DocsOk (DocOk N (a0b h) (64-f.length)) K L->K.length<=N->
    ∃j nx' A g u,a1l call n 360 [.ptr p 0,.agg [iV k,sV t,ks,is]] h nx=some (.tup [],j,nx')/\(A=6\/A=5/\g≠[])/\g.length=(V.agg [iV kk,sV I,s,y,.map q]::f).length/\
     Res (N+1) nx lo p h j nx' ((o::((q::(ka++ia))++S))++l++vids) u A g:=by
   intro j K L gone h1 h2 h3 h4 h5 p3 p4 q0;subst p3;rw[U]at h3;have hh:∀i∈q::(ka++L++S++l++vids),a0b j i=a0b h i:=by
    intro i hi;have hc:=hu i;have D:=ar7.2 hi;refine h5 i (hb i ?_).2 ?_ ?_ ?_
    .simp at hi|-;grind
    .intro e;subst e;simp only[at6,at4,aq6,aw4]at hc D;grind
    .intro e;subst e;simp only[at6,at4,aq6,aw4]at hc D;grind
    .intro e;have:=ar7.2 e;simp only[at6,at4]at hc D;grind
   refine⟨j,nx+3,5,.agg [iV kk,sV I,s,.row (nx+2) 4 0 (K.length+1),.map q]::f,(o::((q::(ka++((nx+2)::(L++vids))))++S))++l,h1,.inr ⟨rfl,by simp⟩,by simp,by omega,
    ⟨.row o 5 0 (f.length+1),nd,o0,o1,o2,o3,_,l,h2,ho.frame (by omega) λ i hi=>hh i (by simp[hi]),.inr ⟨o,C,_,rfl,h3,⟨_,S,⟨kk,I,s,_,q,es,ka,_,rfl,q1,q2,q3.frame (by omega) λ i hi=>hh i (by simp[hi]),.inr ⟨nx+2,_,_,by simp,h4,by simp;omega,(p4.frame λ x a hx ha=>hx.frame (by omega) λ i hi=>hh i (by have:=ha i hi;simp[this])).snoc (p2.frame (by omega) λ i hi=>hh i (by simp[hi])),rfl⟩,by grind,q6,rfl⟩,O.frame (by omega) λ i hi=>hh i (by simp[hi]),rfl,p1⟩,rfl⟩,rfl,?_,?_,P,Q,by grind⟩,?_,?_⟩
   .intro i;have hc:=hu i;have h0:0<(p::((o::((q::(ka++(gone++L)))++S))++l++vids)).count i->i<nx:=λ hp=>(hb i (ar7.1 hp)).2;simp only[at6,at4,aw5]at hc h0|-;grind
   .intro i hi;simp only[ay4,ax1]at hi;have p5:=hb i;simp only[ay4,ax1]at p5;grind
   .intro i h6 h7 h8;refine h5 i h6 h7 ?_ ?_
    .grind
    .intro e;simp[e]at h8
   .intro i hi;simp only[ay4,ax1]at hi|-;grind
  rcases q4 with⟨rfl,rfl⟩|⟨z,K,L,rfl,q7,q8,q9,rfl⟩
  .obtain⟨j,h1,h2,h3,h4,h5⟩:=d3U (call:=call) (n:=n) (k:=k) (t:=t) hp H F G J X W hx q3.cell (by omega) hi;exact B j [] [] [] h1 h2 h3 h4 (λ i a b c _=>h5 i a b c) rfl rfl (by simp)
  .have hid:z<nx:=(hb z (by simp)).2;have p6:z≠p:=hu.ne (by simp);have Y:z≠o:=by
    intro e;subst e;have:=hu z;simp only[at6,at4,aq6,aw4]at this;grind
   obtain⟨j,h1,h2,h3,h4,h5⟩:=d5e (call:=call) (n:=n) (k:=k) (t:=t) hp H F G J X W hx q3.cell (by omega) hi q7 hid p6 Y (by omega);exact B j K L [z] h1 h2 h3 h4 (λ i a b c d=>h5 i a b c (by grind)) rfl q9 q8
end
section
open Go Go.PV Go.Proofs
def WOk(w:Int)(lvls:List V):Prop:=w=2\/w=3\/w=5->lvls≠[]
def Out(r:Option (V×HP×Nat))(N nx lo p:Nat)(h:HP)(own:List Nat):Prop:=
 ∃e c nx',r=some (iV e,c,nx')/\(0<=e/\e<=1000)/\nx<=nx'/\(∀i,i<nx->i≠p->i∉own->a0b c i=a0b h i)/\(e=0->∃d a b,WOk d a/\Res N nx lo p h c nx' own b d a)
variable {h:HP} {own:List Nat} {N lo nx p:Nat}
theorem Out.shift{r:Option (V×HP×Nat)}{d:Nat}{h1:HP}(k:Out r N d lo p h1 own)(hx:nx<=d)(hg:∀i,i<nx->a0b h1 i=a0b h i):Out r N nx lo p h own:=by
 obtain⟨e,f,nx',h2,hr,h3,h4,h5⟩:=k;refine⟨e,f,nx',h2,hr,by omega,λ i a b c=>by grind,λ he=> ?_⟩;obtain⟨g,l',j,k1,k2,k3,k4,k5⟩:=h5 he;exact⟨g,l',j,k1,by omega,k3,λ i a b c=>by grind,λ i hi=>(k5 i hi).imp id (by omega)⟩
variable {call:Calls} {w:Int} {lvls:List V} {n:Nat}
theorem c4L{kd wt:Int}(hj:JOk N (a0b h) nx lo p w lvls own)(z:lo<=nx)(t:kOk kd):
  Out (a1l call n 359 [.ptr p 0,iV kd,iV wt] h nx) (N+1) nx lo p h own:=by
 obtain⟨A,nd,o0,o1,o2,o3,sids,d,hp,ho,hs,rfl,hu,hb,g,B,hl⟩:=hj;have j:p<nx:=(hb p (by simp)).2;by_cases hm:20000<=nd
 .rcases hs with⟨rfl,_,_⟩|⟨k,l,r,rfl,o,m,rfl⟩
  .obtain⟨f,h1,h2⟩:=c1b (call:=call) (n:=n) (kd:=kd) (wt:=wt) hp j g (by omega) hm;exact⟨142,f,nx,h1,by omega,ay3 _,λ i a b _=>h2 i a b,λ e=>by cases e⟩
  .by_cases hq:64<=lvls.length
   .obtain⟨f,h1,h2⟩:=b1V (call:=call) (n:=n) (kd:=kd) (wt:=wt) hp j g (by omega) hq;exact⟨141,f,nx,h1,by omega,ay3 _,λ i a b _=>h2 i a b,λ e=>by cases e⟩
   .obtain⟨f,h1,h2⟩:=c1r (call:=call) (n:=n) (kd:=kd) (wt:=wt) hp j g (by omega) (by omega) hm;exact⟨142,f,nx,h1,by omega,ay3 _,λ i a b _=>h2 i a b,λ e=>by cases e⟩
 have s:∀(f:HP) (l:List V) (r:List Nat),LvsOk N (a0b h) lvls r->(∀i∈r,i∈sids)->Uni r->lvls.length<64->a1l call n 359 [.ptr p 0,iV kd,iV wt] h nx=some (iV 0,f,nx+3)->a0b f p=some (.var [.row (nx+2) 5 0 (lvls.length+1),iV wt,iV (nd+1),o0,o1,o2,o3])->
   a0b f (nx+2)=some (.row 399 5 (lvls.reverse++[.agg [iV kd,sV ⟨#[]⟩,.nils,.nils,.map nx]]) false)->a0b f nx=some (.map [])->(∀i,i<nx->i≠p->(i∈r++d\/i∉sids++d)->a0b f i=a0b h i)->
   Out (a1l call n 359 [.ptr p 0,iV kd,iV wt] h nx) (N+1) nx lo p h (sids++d):=by
  intro f l r m hr u v h1 h2 h3 h4 h5;have hh:∀i∈r++d,a0b f i=a0b h i:=λ i hi=>by
   have hm:i∈sids++d:=by simp at hi|-;exact hi.imp (hr i) id
   exact h5 i (hb i (az9 _ hm)).2 (hu.ne hm) (.inl hi)
  refine⟨0,f,nx+3,h1,by omega,by omega,λ i a b c=>h5 i a b (.inr c),λ _=>⟨wt,.agg [iV kd,sV ⟨#[]⟩,.nils,.nils,.map nx]::lvls,((nx+2)::(nx::([]++[])++r))++d,λ _=>by simp,by omega,
   ⟨.row (nx+2) 5 0 (lvls.length+1),nd+1,o0,o1,o2,o3,_,d,h2,ho.frame (by omega) λ i hi=>hh i (by simp[hi]),.inr ⟨nx+2,[],_,rfl,by grind,⟨_,r,⟨kd,_,.nils,.nils,nx,[],[],[],rfl,t,(aw7 SB:(0:Nat)<=SB),.inl ⟨rfl,rfl⟩,.inl ⟨rfl,rfl⟩,h4,(λ q hq=>by cases hq),rfl⟩,m.frame (by omega) λ i hi=>hh i (by simp[hi]),rfl,v⟩,rfl⟩,rfl,?_,?_,by omega,by omega,by simp;omega⟩,λ i a b c=>h5 i a b (.inr c),?_⟩⟩
  .intro i;have hc:=hu i;have C:=u i;have h0:0<(p::(sids++d)).count i->i<nx:=λ hp=>(hb i (ar7.1 hp)).2;have h1:0<r.count i->0<sids.count i:=λ hp=>ar7.2 (hr i (ar7.1 hp));simp only[at6,at4,List.count_nil,aw5]at hc h0|-;grind
  .grind
  .grind
 rcases hs with⟨rfl,rfl,rfl⟩|⟨k,l,r,rfl,o,m,rfl⟩
 .obtain⟨f,h1,h2,h3,h4,h5⟩:=d7M (call:=call) (n:=n) (kd:=kd) (wt:=wt) hp j g (by omega) (by omega);exact s f [] [] rfl (nofun) (λ i=>by simp) (by simp) h1 h2 h3 h4 λ i a b _=>h5 i a b
 .by_cases hq:64<=lvls.length
  .obtain⟨f,h1,h2⟩:=b1V (call:=call) (n:=n) (kd:=kd) (wt:=wt) hp j g (by omega) hq;exact⟨141,f,nx,h1,by omega,ay3 _,λ i a b _=>h2 i a b,λ e=>by cases e⟩
  .have x:p≠k:=λ e=>hu.ne (i:=k) (by simp) e.symm;have y:k<nx:=(hb k (by simp)).2;obtain⟨f,h1,h2,h3,h4,h5⟩:=d6W (call:=call) (n:=n) (kd:=kd) (wt:=wt) hp j g (by omega) (by omega) o (by simp) y x (by omega);refine s f l r m (λ i hi=>by simp[hi]) (λ i=> ?_) (by omega) h1 h2 (by grind) h4 λ i a b c=>h5 i a b ?_
   .have:=hu i;grind
   .intro e;subst e;rcases c with c|c
    .have:=hu i;grind
    .simp at c
theorem d0i{c1:Calls}{m:Nat}{s:ByteArray}(hj:JOk N (a0b h) nx lo p w lvls own)(p8:lvls≠[])(p9:lo<=nx)(hi:call.inl 357=some (a1l c1 m 357))(hs:s.size<=SB)(hN:N<=2000000):
  Out (a1l call n 279 [.ptr p 0,sV s] h nx) (N+1) nx lo p h own:=by
 obtain⟨q0,nd,o0,o1,o2,o3,sids,k,hp,ho,Q,rfl,hu,hb,R,S,hl⟩:=hj;have F:p<nx:=(hb p (by simp)).2;rcases Q with⟨_,he,_⟩|⟨j,u,r,rfl,y,T,rfl⟩
 .grind
 cases lvls with
 |nil=>grind
 |cons top g=>
  obtain⟨ta,E,G,C,rfl,U⟩:=T;obtain⟨kk,D,z,o,f,es,ka,ia,rfl,q1,q2,q3,q4,W,X,rfl⟩:=G;have hx:((V.agg [iV kk,sV D,z,o,.map f]::g).reverse++u)[g.length]?=some (.agg [iV kk,sV D,z,o,.map f]):=by simp
  have H:∀v,((V.agg [iV kk,sV D,z,o,.map f]::g).reverse++u).set g.length v=(v::g).reverse++u:=by intro v;simp
  have I:p≠j:=λ e=>hu.ne (i:=j) (by simp) e.symm;have J:j<nx:=(hb j (by simp)).2;have K:f<nx:=(hb f (by simp)).2;have L:f≠p:=hu.ne (by simp);have M:f≠j:=by
   intro e;subst e;have:=hu f;simp only[at6,at4,aq6,aw4]at this;grind
  obtain⟨fr,f1,f2⟩:=a6Y (es:=es) (λ q hq=>(X q hq).1) s;cases fr with
  |some i=>
   have Y:=f2 i rfl;obtain⟨⟨k0,s1⟩,s2⟩:=X es[i] (au2 Y);have Z:es[i]?=some (es[i].1,bV true):=by grind
   exact⟨143,h,nx,d1w (call:=call) (n:=n) hp y hx (by omega) hi W f1 Z,by omega,ay3 _,λ i _ _ _=>rfl,λ e=>by cases e⟩
  |none=>
   have O:∀(t:HP) (A:List V) (gone:List Nat),a1l call n 279 [.ptr p 0,sV s] h nx=some (iV 0,t,nx+2)->a0b t p=some (.var [.row j 5 0 (g.length+1),iV 4,iV nd,o0,o1,o2,o3])->
     a0b t j=some (.row 399 5 (((V.agg [iV kk,sV D,z,o,.map f]::g).reverse++u).set g.length (.agg [iV kk,sV D,.row (nx+1) 1 0 (A.length+1),o,.map f])) false)->a0b t (nx+1)=some (.row 9 1 (A++[sV s]) false)->a0b t f=some (.map (es++[(sV s,bV true)]))->
     (∀i,i<nx->i≠p->i≠j->i≠f->i∉gone->a0b t i=a0b h i)->ka=gone->(∀x∈A,∃s:ByteArray,x=sV s/\s.size<=SB)->A.length<=N->
     Out (a1l call n 279 [.ptr p 0,sV s] h nx) (N+1) nx lo p h ((j::((f::(ka++ia))++E))++k):=by
    intro t A gone h1 h2 h3 h4 p1 h5 p2 p3 s3;subst p2;rw[H]at h3;have hh:∀i∈ia++E++k,a0b t i=a0b h i:=by
     intro i hi;have hc:=hu i;have B:=ar7.2 hi;refine h5 i (hb i ?_).2 ?_ ?_ ?_ ?_
     .simp_all
     .intro e;simp_all[at6]
     .intro e;simp_all
     .intro e;subst e;simp only[at6,at4,aq6,aw4]at hc B;grind
     .intro e;have:=ar7.2 e;simp only[at6,at4]at hc B;grind
    have P:∀i,i<nx->i≠p->i∉(j::((f::(ka++ia))++E))++k->a0b t i=a0b h i:=by
     intro i h6 h7 h8;simp only[ay4,ax1]at h8;exact h5 i h6 h7 (by grind) (by grind) (by grind)
    refine⟨0,t,nx+2,h1,by omega,by omega,P,λ _=>⟨4,.agg [iV kk,sV D,.row (nx+1) 1 0 (A.length+1),o,.map f]::g,(j::((f::([nx+1]++ia))++E))++k,λ e=>by simp,by omega,
     ⟨.row j 5 0 (g.length+1),nd,o0,o1,o2,o3,_,k,h2,ho.frame (by omega) λ i hi=>hh i (by simp[hi]),.inr ⟨j,u,_,rfl,h3,⟨_,E,⟨kk,D,_,o,f,_,[nx+1],ia,rfl,q1,q2,.inr ⟨nx+1,_,by simp,h4,by simp;omega,?_,rfl⟩,q4.frame (by omega) (λ i hi=>hh i (by simp[hi])) (λ x a hx ha=>hx.frame (by omega) λ i hi=>hh i (by grind)),p1,?_,rfl⟩,C.frame (by omega) λ i hi=>hh i (by simp[hi]),rfl,U⟩,rfl⟩,rfl,?_,?_,R,S,by grind⟩,P,?_⟩⟩
    .intro x hx;simp only[ax1,az7]at hx;rcases hx with hx|rfl
     .exact p3 x hx
     grind
    .intro q hq;simp only[ax1,az7]at hq;rcases hq with hq|rfl
     .exact X q hq
     grind
    .intro i;have hc:=hu i;have h0:0<(p::((j::((f::(ka++ia))++E))++k)).count i->i<nx:=λ hp=>(hb i (ar7.1 hp)).2;simp only[at6,at4,List.count_nil,aw5]at hc h0|-;grind
    .intro i hi;simp only[ay4,ax1]at hi;have p4:=hb i;simp only[ay4,ax1]at p4;grind
    .intro i hi;simp only[ay4,ax1]at hi|-;grind
   rcases q3 with⟨rfl,rfl⟩|⟨l,A,rfl,q7,q8,q9,rfl⟩
   .obtain⟨t,h1,h2,h3,h4,h5,h6⟩:=e0m (call:=call) (n:=n) (s:=s) hp F y J I hx (by omega) hi W K L M f1;exact O t [] [] h1 h2 h3 h4 h5 (λ i a b c d _=>h6 i a b c d) rfl (nofun) (by simp)
   .have hid:l<nx:=(hb l (by simp)).2;have p5:l≠p:=hu.ne (by simp);have p6:l≠j:=by
     intro e;subst e;have:=hu l;simp only[at6,at4,aq6,aw4]at this;grind
    have p7:l≠f:=by
     intro e;subst e;have:=hu l;simp only[at6,at4,aq6,aw4]at this;grind
    obtain⟨t,h1,h2,h3,h4,h5,h6⟩:=d9V (call:=call) (n:=n) (s:=s) hp F y J I hx (by omega) hi W K L M f1 q7 hid p5 p6 p7 (by omega);exact O t A [l] h1 h2 h3 h4 h5 (λ i a b c d e=>h6 i a b c d (by grind)) rfl q9 q8
end
section
open Go Go.PV Go.Proofs
variable {w:Int}
theorem b8B{l:List V}(h:w=6\/w=5/\l≠[]):WOk w l:=by
 intro _;grind
variable {h:HP} {p:Nat}
theorem a4D{x:Option Box}:a0b ((p,x)::h) p=x:=by simp[a0b]
theorem b6Y{i b c:Nat}{ka ia d a:List Nat}(h:i∈(b::d)++a++(ka++ia)):i∈(b::((c::(ka++ia))++d))++a:=by
 grind
variable {c1 c2 call:Calls} {own:List Nat} {lvls:List V} {N lo m1 m2 n nx:Nat}
theorem c6C{c3:Calls}{m3:Nat}{c:ByteArray}(hj:JOk N (a0b h) nx lo p w lvls own)(M:lvls≠[])(O:lo<=nx)(h1:c.toList≠[91])(h2:c.toList≠[123])(h3:c.toList≠[58])(h4:c.toList≠[44])
  (hi:call.inl 357=some (a1l c1 m1 357)) (B:call.inl 360=some (a1l c2 m2 360)) (C:c2.inl 357=some (a1l c3 m3 357)) (hN:N<=2000000):
  Out (a1l call n 278 [.ptr p 0,sV c] h nx) (N+1) nx lo p h own:=by
 obtain⟨P,nd,o0,o1,o2,o3,sids,m,hp,ho,D,rfl,hu,hb,E,F,hl⟩:=hj;have G:p<nx:=(hb p (by simp)).2;rcases D with⟨_,he,_⟩|⟨f,s,r,rfl,u,H,rfl⟩
 .grind
 cases lvls with
 |nil=>grind
 |cons top d=>
  obtain⟨W,A,v,q,rfl,Q⟩:=H;obtain⟨kk,o,g,j,l,es,ka,ia,rfl,R,S,J,K,X,Y,rfl⟩:=v;have hx:((V.agg [iV kk,sV o,g,j,.map l]::d).reverse++s)[d.length]?=some (.agg [iV kk,sV o,g,j,.map l]):=by simp
  have I:f<nx:=(hb f (by simp)).2;have T:p≠f:=λ e=>hu.ne (i:=f) (by simp) e.symm;have hH:∀i,i<nx->i≠p->a0b ((p,some (.var [.row f 5 0 d.length,iV w,iV nd,o0,o1,o2,o3]))::(nx,some (.var [iV kk,sV o,g,j]))::(nx,some (.var [iV 0,sV ⟨#[]⟩,.nils,.nils]))::h) i=a0b h i:=by
   intro i a b;simp only[a0b];grind
  have hh:∀i∈(f::((l::(ka++ia))++A))++m,a0b ((p,some (.var [.row f 5 0 d.length,iV w,iV nd,o0,o1,o2,o3]))::(nx,some (.var [iV kk,sV o,g,j]))::(nx,some (.var [iV 0,sV ⟨#[]⟩,.nils,.nils]))::h) i=a0b h i:=
   λ i hi=>hH i (hb i (az9 _ hi)).2 (hu.ne hi)
  obtain⟨L,nx',U,l',y,k1,k2,k3,k4,k5,k6,k7⟩:=c1V (call:=c2) (n:=m2) (nx:=nx+1) (lo:=lo) (N:=N) (k:=kk) (t:=o) (ks:=g) (is:=j) (lvls:=d) (sids:=f::A) (vids:=ka++ia) C (h:=(p,some (.var [.row f 5 0 d.length,iV w,iV nd,o0,o1,o2,o3]))::(nx,some (.var [iV kk,sV o,g,j]))::(nx,some (.var [iV 0,sV ⟨#[]⟩,.nils,.nils]))::h) a4D
   (.inr ⟨f,V.agg [iV kk,sV o,g,j,.map l]::s,A,rfl,by grind,q.frame (ay3 _) λ i hi=>hh i (by simp[hi]),rfl⟩) (ho.frame (ay3 _) λ i hi=>hh i (by simp[hi]))
   (by
    have e:65-d.length=(64-d.length)+1:=by omega
    rw[e];exact⟨kk,o,g,j,ka,ia,rfl,R,S,J.frame (ay3 _) λ i hi=>hh i (by simp[hi]),K.frame (ay3 _) (λ i hi=>hh i (by simp[hi])) (λ x a hx ha=>hx.frame (ay3 _) λ i hi=>hh i (by grind)),rfl⟩)
   (by
    intro i;have:=hu i;simp only[at6,at4]at this|-;grind)
   (by
    intro i hi;have:=hb i (by
     grind[b6Y])
    omega) (by omega) E F (by grind) hN
  have hr:=b7z (call:=call) (n:=n) hp G h1 h2 h3 h4 u I hx J.cell K.cell (by omega) hi B k1;have z:∀i,i<nx->i≠p->i∉(f::((l::(ka++ia))++A))++m->a0b L i=a0b h i:=by
   intro i a b c;grind[b6Y]
  refine⟨0,L,nx',hr,by omega,by omega,z,λ _=>⟨U,l',y,b8B k2,by omega,k5,z,λ i hi=> ?_⟩⟩;grind[b6Y]
theorem a8p{k a s:Int}{t u:ByteArray}(l:a4t call n nx p h k a t s u)(z:kOk s)(A:u.size<=SB)(hj:JOk N (a0b h) nx lo p w lvls own)(L:lo<=nx)
  (hi:call.inl 360=some (a1l c1 m1 360)) (B:c1.inl 357=some (a1l c2 m2 357)) (hN:N<=2000000):Out (a1l call n 280 [.ptr p 0,.agg [iV k,sV t,iV a]] h nx) (N+1) nx lo p h own:=by
 obtain⟨⟨e,h1,d,sz⟩,M,G,H,C,D,R,I,J,S,O⟩:=l;simp only at G H C D I J O;subst G;obtain⟨f,nd,o0,o1,o2,o3,sids,g,hp,ho,E,rfl,hu,hb,m,P,hl⟩:=hj;have F:p<nx:=(hb p (by simp)).2;have o:a0b h1 p=some (.var [f,iV w,iV nd,o0,o1,o2,o3]):=by rw[C p F];exact hp
 have j:∀{x:Ex} {h2:HP} {nx2:Nat} {v:V},(∀i,x≠ .exit i)->(∃y,a0e P0 call n a7U {env:=e,h:=h1,nx:=d,sz:=50}=some (x,{env:=y,h:=h2,nx:=nx2,sz:=50})/\T.get 8 y 4=v)->a1l call n 280 [.ptr p 0,.agg [iV k,sV t,iV a]] h nx=some (v,h2,nx2):=by
  rintro x h2 nx2 v hx ⟨y,r1,r2⟩;exact a1t Tryz.func280 d9i rfl (by decide) (by simp_all) hx ⟨y,d7l M r1,r2⟩
 by_cases hm:20000<=nd
 .have:=j (x:= .ret) (by grind) (c1y (call:=call) (n:=n) (nx:=d) o D m (by omega) hm);exact⟨142,_,d,this,by omega,H,λ i a b _=>by simp_all[a0b],λ e=>by cases e⟩
 .have hH:∀i,i<nx->i≠p->a0b ((p,some (.var [f,iV w,iV (nd+1),o0,o1,o2,o3]))::h1) i=a0b h i:=by
   intro i a b;simp only[a0b];rw[ay9 b];exact C i a
  have hh:∀i∈sids++g,a0b ((p,some (.var [f,iV w,iV (nd+1),o0,o1,o2,o3]))::h1) i=a0b h i:=λ i hi=>hH i (hb i (az9 _ hi)).2 (hu.ne hi);obtain⟨K,nx',Q,l',q,k1,k2,k3,k4,k5,k6,k7⟩:=c1V (call:=c1) (n:=m1) (nx:=d) (lo:=lo) (N:=N) (k:=s) (t:=u) (ks:= .nils) (is:= .nils) (lvls:=lvls) (sids:=sids) (vids:=[]) B (h:=(p,some (.var [f,iV w,iV (nd+1),o0,o1,o2,o3]))::h1) a4D
   (E.frame (ay3 _) λ i hi=>hh i (by simp[hi])) (ho.frame (ay3 _) λ i hi=>hh i (by simp[hi]))
   (by
    have e:65-lvls.length=(64-lvls.length)+1:=by omega
    rw[e];exact⟨s,u,.nils,.nils,[],[],rfl,z,A,.inl ⟨rfl,rfl⟩,.inl ⟨rfl,rfl⟩,rfl⟩)
   (by grind) (λ i hi=>by grind) (by omega) (by omega) (by omega) hl hN
  have hr:=j (x:= .ret) (by grind) (c1c (call:=call) (n:=n) (nx:=d) o D I J (by omega) hi m (by omega) k1);have r:∀i,i<nx->i≠p->i∉sids++g->a0b K i=a0b h i:=by
   intro i a b c;grind
  refine⟨0,K,nx',hr,by omega,by omega,r,λ _=>⟨Q,l',q,b8B k2,by omega,k5,r,λ i hi=> ?_⟩⟩;grind
end
section
open Go Go.PV Go.Proofs
set_option maxRecDepth 10000
structure Kit (C:Nat->Calls):Prop where
 inl:∀n k,k∈[163,277,278,279,280,357,359,360]->(C (n+1)).inl k=some (a1l (C n) n k)
 out:∀n k,k∈[162,358,361]->(C n).inl k=none
 opens:∀n k t a,(C (n+1)).cbv 358 [.agg [iV k,sV t,iV a]] []=some (bV (a2Y k t),[])
variable {g:G} {v:Value}
theorem c0l{s:List Nat×List Nat}:a2q g s (.lit v)=some (.lit v,s):=by
 unfold a2q a0O a0h;simp only;rw[a5E];rfl
variable {nx:Nat}
theorem b3F{k:Nat}:a5t k g nx (.lit v)=some (.lit v,[],[]):=by
 simp_all[a5t,c6k,c0l]
theorem d4q{prim:Nat->Option Fp}{inl:Nat->Bool}(h1:∀k∈[163,277,278,279,280,357,359,360],inl k=true)(h2:∀k∈[162,358,361],inl k=false)(h3:prim 358=none):Kit (a0d P0 prim inl):=by
 refine⟨λ n k hk=> ?_,λ n k hk=> ?_,λ n k t a=> ?_⟩
 .simp only[a0d];rw[ax3 (h1 k hk)];rfl
 .cases n<;>grind[a0d]
 .obtain⟨s,hs⟩:=c9d (a0d P0 prim inl n) n 0 [] k a t;have h:(a0d P0 prim inl (n+1)).cbv 358 [.agg [iV k,sV t,iV a]] []=(match a1j P0 (a0d P0 prim inl n) n 358 [.agg [iV k,sV t,iV a]] [] 0 with
   |none=>none
   |some (v,s)=>match a5t 358 (a0b s.h) s.nx v with
    |none=>none
    |some (v,w)=>match a0G (a1x (a0b s.h)) w (List.range 0)with
     |none=>none
     |some (l,ms,ks)=>if !(a1u (a0b s.h) ms ks)then none else some (v,l)):=by
   simp only[a0d,h3,a0w,List.length_nil];cases a1j P0 (a0d P0 prim inl n) n 358 [.agg [iV k,sV t,iV a]] [] 0 with
   |none=>rfl
   |some q=>grind
  rw[h,hs];simp only[b3F];rfl
variable {t:ByteArray} {h:HP} {a k w:Int} {own:List Nat} {lvls:List V} {N lo m n p:Nat} {C:Nat->Calls}
theorem c3x(K:Kit C)(hj:JOk N (a0b h) nx lo p w lvls own):
  ∃cl,a1l (C (m+2)) n 277 [.ptr p 0,.agg [iV k,sV t,iV a]] h nx=some (bV (a2a w k t cl),(nx,some (.var [iV k,sV t,iV a]))::h,nx+1)/\(lvls=[]->cl=[])/\(cl=[]\/cl=[93]\/cl=[125]):=by
 obtain⟨B,nd,o0,o1,o2,o3,sids,z,hp,ho,o,rfl,hu,hb,D,E,hl⟩:=hj;have q:p<nx:=(hb p (by simp)).2;have c:=K.out (m+2) 358 (by simp);have s:=K.opens (m+1) k t a;rcases o with⟨rfl,_,_⟩|⟨d,u,r,rfl,f,v,rfl⟩
 .grind[d7f]
 cases lvls with
 |nil=>grind[d5G]
 |cons top b=>
  obtain⟨G,H,g,x,rfl,F⟩:=v;obtain⟨kk,A,i,j,l,es,ka,ia,rfl,_⟩:=g;have hx:((V.agg [iV kk,sV A,i,j,.map l]::b).reverse++u)[b.length]?=some (.agg [iV kk,sV A,i,j,.map l]):=by simp
  have y:d<nx:=(hb d (by simp)).2;refine⟨_,d8b hp q f y hx (by omega) (K.inl (m+1) 357 (by simp)) c s,(nofun),?_⟩;grind
theorem c1e{cl:List UInt8}(hf:a2a w k t cl=true)(hk:k=2)(h1:t.toList≠[91])(h2:t.toList≠[123]):w=4/\t.toList=[58]\/w=5/\t.toList=[44]\/t.toList=cl:=by
 grind[a2a,a2Y]
theorem b7n(K:Kit C)(hj:JOk N (a0b h) nx lo p w lvls own)(hw:WOk w lvls):
  Out (a1l (C (m+3)) n 163 [.ptr p 0,.agg [iV 1,sV t,iV a]] h nx) N nx lo p h own:=by
 have d:=hj;obtain⟨q,nd,o0,o1,o2,o3,sids,l,hp,_,_,_,_,hb,_,_,_⟩:=d;have c:p<nx:=(hb p (by simp)).2;have f0:∀i,i<nx->a0b ((nx,some (.var [iV 1,sV t,iV a]))::h) i=a0b h i:=λ i hi=>by simp only[a0b];grind
 have f1:∀i,i<nx->a0b (H1 nx 1 a t h) i=a0b h i:=λ i hi=>by simp only[a0b];grind
 obtain⟨cl,hf,r,o⟩:=c3x K (n:=m+2) (m:=m) (k:=1) (a:=a) (t:=t) (hj.frame (M:=N) (nx':=nx+1) (ay3 _) (by omega) f0);have j1:JOk N (a0b (H1 nx 1 a t h)) (nx+2) lo p w lvls own:=hj.frame (ay3 _) (by omega) f1;have b:=K.inl (m+2) 277 (by simp);by_cases hb:a2a w 1 t cl=true
 .have f:w≠2:=by intro e;subst e;simp[a2a]at hb
  have g:w≠3:=by intro e;subst e;simp[a2a]at hb
  rw[hb]at hf;have hr:=b9v (call:=C (m+3)) (n:=n) hp c b hf rfl f g;exact⟨0,_,_,hr,by omega,by omega,λ i x _ _=>f1 i x,λ _=>⟨w,lvls,own,hw,by omega,j1,λ i x _ _=>f1 i x,λ i hi=> .inl hi⟩⟩
 .have j:a2a w 1 t cl=false:=by simpa using hb
  rw[j]at hf;have hr:=b9Q (call:=C (m+3)) (n:=n) hp c b hf;exact⟨140,_,_,hr,by omega,by omega,λ i x _ _=>f1 i x,λ e=>by cases e⟩
theorem d1t(K:Kit C)(hj:JOk N (a0b h) nx lo p w lvls own)(hw:WOk w lvls)(q4:lo<=nx)(ht:t.size<=SB)(q5:k=2->t.toList≠[])(hN:N<=2000000)
  (L:k=4->∃Z e,Z.size<=SB/\(C (m+2)).cbv 361 [sV t] []=some (.tup [sV Z,iV e],[])):
  Out (a1l (C (m+3)) n 163 [.ptr p 0,.agg [iV k,sV t,iV a]] h nx) (N+1) nx lo p h own:=by
 have p1:=hj;obtain⟨q6,nd,o0,o1,o2,o3,sids,p8,hp,_,_,_,_,hb,_,_,_⟩:=p1;have g:p<nx:=(hb p (by simp)).2;have f0:∀i,i<nx->a0b ((nx,some (.var [iV k,sV t,iV a]))::h) i=a0b h i:=λ i hi=>by simp only[a0b];grind
 have f1:∀i,i<nx->a0b (H1 nx k a t h) i=a0b h i:=λ i hi=>by simp only[a0b];grind
 obtain⟨cl,hf,q7,p9⟩:=c3x K (n:=m+2) (m:=m) (k:=k) (a:=a) (t:=t) (hj.frame (M:=N) (nx':=nx+1) (ay3 _) (by omega) f0);have j1:JOk N (a0b (H1 nx k a t h)) (nx+2) lo p w lvls own:=hj.frame (ay3 _) (by omega) f1;have c:=K.inl (m+2) 277 (by simp);have z:∀{r:Option (V×HP×Nat)},a1l (C (m+3)) n 163 [.ptr p 0,.agg [iV k,sV t,iV a]] h nx=r->Out r (N+1) (nx+2) lo p (H1 nx k a t h) own->Out (a1l (C (m+3)) n 163 [.ptr p 0,.agg [iV k,sV t,iV a]] h nx) (N+1) nx lo p h own:=by
  intro r e ho;rw[e];exact ho.shift (by omega) f1
 by_cases hb:a2a w k t cl=true
 .rw[hb]at hf;by_cases hk:k=2
  .have key:Out (a1l (C (m+2)) (m+2) 278 [.ptr p 0,sV t] (H1 nx k a t h) (nx+2)) (N+1) (nx+2) lo p (H1 nx k a t h) own:=by
    by_cases c1:t.toList=[91]
    .obtain⟨e,y,nx',k1,k2⟩:=c4L (call:=C (m+1)) (n:=m+1) (kd:=6) (wt:=1) j1 (by omega) (by constructor<;>omega);have:=c2o (call:=C (m+2)) (n:=m+2) c1 (K.inl (m+1) 359 (by simp)) k1;exact⟨e,y,nx',this,k2⟩
    by_cases c2:t.toList=[123]
    .obtain⟨e,y,nx',k1,k2⟩:=c4L (call:=C (m+1)) (n:=m+1) (kd:=7) (wt:=3) j1 (by omega) (by constructor<;>omega);have:=c5x (call:=C (m+2)) (n:=m+2) c2 (K.inl (m+1) 359 (by simp)) k1;exact⟨e,y,nx',this,k2⟩
    have p2:=c1e hb hk c1 c2;obtain⟨f,l,O,P,Q,R,Y,E,g1,g2,g3,g4,g5,g6,g7,g8,g9⟩:=j1;by_cases c3:t.toList=[58]
    .have hr:=b7x (call:=C (m+2)) (n:=m+2) (nx:=nx+2) g1 c3;subst g4;have F:∀i,i≠p->a0b ((p,some (.var (f::iV 0::[iV l,O,P,Q,R])))::H1 nx k a t h) i=a0b (H1 nx k a t h) i:=λ i hi=>by rw[a0b,ay9 hi]
     have hh:∀i∈Y++E,a0b ((p,some (.var (f::iV 0::[iV l,O,P,Q,R])))::H1 nx k a t h) i=a0b (H1 nx k a t h) i:=λ i hi=>F i (g5.ne hi);refine⟨0,_,nx+2,hr,by omega,ay3 _,λ i _ b _=>F i b,λ _=>⟨0,lvls,Y++E,λ e=>by omega,ay3 _,⟨f,l,O,P,Q,R,Y,E,a4D,g2.frame (by omega) λ i hi=>hh i (by simp[hi]),g3.frame (by omega) λ i hi=>hh i (by simp[hi]),rfl,g5,g6,g7,g8,g9⟩,λ i _ b _=>F i b,λ i hi=> .inl hi⟩⟩
    have p3:lvls≠[]:=by
     rcases p2 with⟨_,h⟩|⟨h,_⟩|h
     .grind
     .exact hw (.inr (.inr h))
     .grind
    by_cases c4:t.toList=[44]
    .rcases g3 with⟨_,e,_⟩|⟨o,S,r,rfl,T,D,rfl⟩
     .grind
     cases lvls with
     |nil=>grind
     |cons top q=>
      have G:=D;obtain⟨ta,tb,U,p4,rfl,q8⟩:=D;obtain⟨kk,tt,H,I,J,es,ka,ia,rfl,_⟩:=U;subst g4;have hx:((V.agg [iV kk,sV tt,H,I,.map J]::q).reverse++S)[q.length]?=some (.agg [iV kk,sV tt,H,I,.map J]):=by simp
      have p5:p≠o:=λ e=>g5.ne (i:=o) (by simp) e.symm;obtain⟨w',y,k1,k2,k3,k4⟩:=b7S (call:=C (m+2)) (n:=m+2) (nx:=nx+2) g1 c4 T p5 hx (by omega) (K.inl (m+1) 357 (by simp));have hh:∀i∈(o::(ta++tb))++E,a0b y i=a0b (H1 nx k a t h) i:=λ i hi=>k4 i (g5.ne hi);refine⟨0,y,nx+2,k2,by omega,ay3 _,λ i _ b _=>k4 i b,λ _=>⟨w',V.agg [iV kk,sV tt,H,I,.map J]::q,(o::(ta++tb))++E,λ _=>by simp,ay3 _,⟨_,l,O,P,Q,R,_,E,k3,g2.frame (by omega) λ i hi=>hh i (by simp[hi]),.inr ⟨o,S,_,rfl,by grind,G.frame (by omega) λ i hi=>hh i (by grind),rfl⟩,rfl,g5,g6,g7,g8,g9⟩,λ i _ b _=>k4 i b,λ i hi=> .inl hi⟩⟩
    .exact c6C (call:=C (m+2)) (n:=m+2) ⟨f,l,O,P,Q,R,Y,E,g1,g2,g3,g4,g5,g6,g7,g8,g9⟩ p3 (by omega) c1 c2 c3 c4 (K.inl (m+1) 357 (by simp)) (K.inl (m+1) 360 (by simp)) (K.inl m 357 (by simp)) hN
   have d:=key;obtain⟨e,y,nx',k1,k2⟩:=key;refine z ?_ d;rw[k1];exact c0g hp g c hf hk (K.inl (m+2) 278 (by simp)) k1
  by_cases A:w=2
  .have key:=d0i (call:=C (m+2)) (n:=m+2) (s:=t) j1 (hw (.inl A)) (by omega) (K.inl (m+1) 357 (by simp)) ht hN;have d:=key;obtain⟨e,y,nx',k1,k2⟩:=key;refine z ?_ d;rw[k1];exact c4E hp g c hf hk A (K.inl (m+2) 279 (by simp)) k1
  by_cases B:w=3
  .have key:=d0i (call:=C (m+2)) (n:=m+2) (s:=t) j1 (hw (.inr (.inl B))) (by omega) (K.inl (m+1) 357 (by simp)) ht hN;have d:=key;obtain⟨e,y,nx',k1,k2⟩:=key;refine z ?_ d;rw[k1];exact c2C hp g c hf hk B (K.inl (m+2) 279 (by simp)) k1
  by_cases W:k=1
  .have hr:=b9v (call:=C (m+3)) (n:=n) hp g c hf W A B;refine⟨0,_,_,hr,by omega,by omega,λ i x _ _=>f1 i x,λ _=>⟨w,lvls,own,hw,by omega,j1.frame (by omega) (ay3 _) (λ _ _=>rfl),λ i x _ _=>f1 i x,λ i hi=> .inl hi⟩⟩
  .have key:Out (a1l (C (m+2)) (m+2) 280 [.ptr p 0,.agg [iV k,sV t,iV a]] (H1 nx k a t h) (nx+2)) (N+1) (nx+2) lo p (H1 nx k a t h) own:=by
    have u:=K.inl (m+1) 360 (by simp);have v:=K.inl m 357 (by simp);by_cases h4:k=4
    .obtain⟨Z,e,p6,hc⟩:=L h4;subst h4;by_cases he:e=0
     .subst he;exact a8p (c3V (K.out (m+2) 361 (by simp)) hc) (by constructor<;>omega) p6 j1 (by omega) u v hN
     .obtain⟨h2,nx2,r1,r2,r3⟩:=c0B (call:=C (m+2)) (n:=m+2) (nx:=nx+2) (p:=p) (h:=H1 nx 4 a t h) (a:=a) (K.out (m+2) 361 (by simp)) he hc;exact⟨144,h2,nx2,r1,by omega,r2,λ i x _ _=>r3 i x,λ e=>by cases e⟩
    by_cases h5:k=5
    .subst h5;obtain⟨j,j0,j3,X⟩:=c0M (call:=C (m+2)) (n:=m+2) (nx:=nx+2) (p:=p) (h:=H1 nx 5 a t h) (a:=a) (t:=t);exact a8p X (by constructor<;>omega) (aw7 SB:(0:Nat)<=SB) j1 (by omega) u v hN
    .exact a8p (b7t h4 h5) (by constructor<;>omega) ht j1 (by omega) u v hN
   have d:=key;obtain⟨e,y,nx',k1,k2⟩:=key;refine z ?_ d;rw[k1];exact c0w hp g c hf hk W A B (K.inl (m+2) 280 (by simp)) k1
 .have p7:a2a w k t cl=false:=by simpa using hb
  rw[p7]at hf;have hr:=b9Q (call:=C (m+3)) (n:=n) hp g c hf;exact⟨140,_,_,hr,by omega,by omega,λ i x _ _=>f1 i x,λ e=>by cases e⟩
end
section
open Go Go.PV Go.Proofs
set_option maxRecDepth 10000
attribute [local simp] a1j a0e a0I a0v a0V a1h a1F opE ev evs evo a0D a2H a0u a0m St.get St.put tgp tgl a1w a0Z sc a0W a1b a4g a0E a3B a1K a6x lenOf a2u Tryz.underlying252 am9 am5 Tryz.underlying254 am6 Tryz.underlying399 Tryz.underlying153 al1 a0b V.fit a5z anb a4Z bT V.cells storeAt setCells a3a a3b fill ckl ckn ckr ckm
def inC:Code->Code
 | .block _ b=>b
 | .loop b=>b
 | .scope b=>b
 |c=>c
noncomputable def X82:Code:=inC (inC (inC (a1e (a1e (a1e (a1e (a0n 82)))))))
theorem b9F:a4h P0 254=some (.agg [iV 0,sV ⟨#[]⟩,iV 0]):=by rfl
abbrev Z4:List V:=[iV 0,sV ⟨#[]⟩,.nils,.nils]
variable {s t:ByteArray} {call:Calls} {h:HP} {a at' er k next:Int} {n nx:Nat} {e:T} {i j:V}
theorem c0f{d f:V}(g0:T.get 8 e 0=sV s)(g2:T.get 8 e 2= .ptr 0 0)(g5:T.get 8 e 5= .ptr 1 0)(g6:T.get 8 e 6=iV at')(h0:a0b h 0=some (.var [d,f,i,j]))(hx:2<=nx)
  (ho:call.inl 162=none) (hc:call.cbv 162 [sV s,iV at'] []=some (.tup [.agg [iV k,sV t,iV a],iV next,iV er],[])) (he:er≠0):
  ∃b,a0e P0 call n X82 {env:=e,h:=h,nx:=nx,sz:=43}=some (.ret,{env:=b,h:=(0,some (.var Z4))::(nx,some (.var [iV k,sV t,iV a]))::(nx,some (.var [iV 0,sV ⟨#[]⟩,iV 0]))::h,nx:=nx+1,sz:=43})/\T.get 8 b 2= .ptr 0 0/\T.get 8 b 3=iV at'/\T.get 8 b 4=iV er:=by
 have c:¬(0:Nat)=nx:=by omega
 have hd:∀(g:G) (nx:Nat),a1q call.cbv g nx 162 [sV s,iV at']=some {v:= .tup [.agg [iV k,sV t,iV a],iV next,iV er]}:=λ g nx=>a0T (by rfl) hc (by rfl);have hb:(er !=0)=true:=by simpa using he
 simp[P0,X82,inC,a0n,a1e,Tryz.func82,Tryz.f82,g0,g2,g6,h0,c,ho,hd,sz3,sz9,b4s,a5q,a2E,a2k,b9F,a2C,a7Y al1,hb]
variable {c1:Calls} {h2:HP} {e2:Int} {m nx2:Nat}
theorem c4N{z0 z1 z2 z3:V}(g0:T.get 8 e 0=sV s)(g2:T.get 8 e 2= .ptr 0 0)(g5:T.get 8 e 5= .ptr 1 0)(g6:T.get 8 e 6=iV at')(h0:a0b h 0=some (.var [z0,z1,z2,z3]))(hx:2<=nx)
  (ho:call.inl 162=none) (hc:call.cbv 162 [sV s,iV at'] []=some (.tup [.agg [iV k,sV t,iV a],iV next,iV er],[])) (he:er=0) (hi:call.inl 163=some (a1l c1 m 163)) (ht:a1l c1 m 163 [.ptr 1 0,.agg [iV k,sV t,iV a]] ((nx,some (.var [iV k,sV t,iV a]))::(nx,some (.var [iV 0,sV ⟨#[]⟩,iV 0]))::h) (nx+1)=some (iV e2,h2,nx2))
  (h20:a0b h2 0=some (.var [z0,z1,z2,z3])) (h2t:a0b h2 nx=some (.var [iV k,sV t,iV a])) (he2:e2≠0):
  ∃e',a0e P0 call n X82 {env:=e,h:=h,nx:=nx,sz:=43}=some (.ret,{env:=e',h:=(0,some (.var Z4))::h2,nx:=nx2,sz:=43})/\T.get 8 e' 2= .ptr 0 0/\T.get 8 e' 3=iV a/\T.get 8 e' 4=iV e2:=by
 have hne:¬(0:Nat)=nx:=by omega
 have hd:∀(g:G) (nx:Nat),a1q call.cbv g nx 162 [sV s,iV at']=some {v:= .tup [.agg [iV k,sV t,iV a],iV next,iV er]}:=λ g nx=>a0T (by rfl) hc (by rfl);subst he;have hb:(e2 !=0)=true:=by simpa using he2
 have hne':¬nx=0:=by omega
 simp[P0,X82,inC,a0n,a1e,Tryz.func82,Tryz.f82,g0,g2,g5,g6,ho,hd,sz3,ag3,sz9,b4s,a5q,a2E,a3Q,a2k,a2j,b9F,a2C,a7Y al1,hi,ht,hb,h20,h2t];rw[ax3 (a7D (n:=7) (us:=[(0,1),(0,2),(0,3),(1,3),(2,3),(1,4),(2,4),(3,4),(3,5)]) (by decide+kernel) rfl (by decide+kernel) ?_)]
 .simp[g2]
 .simp[a7k,a5A,a5n,a3q,a2w,a5V,a2z,Op.operands,dbl,g2,hne]
theorem c5k{u w x y:V}(g0:T.get 8 e 0=sV s)(g2:T.get 8 e 2= .ptr 0 0)(g5:T.get 8 e 5= .ptr 1 0)(g6:T.get 8 e 6=iV at')(h0:a0b h 0=some (.var [u,w,x,y]))(hx:2<=nx)
  (ho:call.inl 162=none) (hc:call.cbv 162 [sV s,iV at'] []=some (.tup [.agg [iV k,sV t,iV a],iV next,iV er],[])) (he:er=0) (hi:call.inl 163=some (a1l c1 m 163)) (ht:a1l c1 m 163 [.ptr 1 0,.agg [iV k,sV t,iV a]] ((nx,some (.var [iV k,sV t,iV a]))::(nx,some (.var [iV 0,sV ⟨#[]⟩,iV 0]))::h) (nx+1)=some (iV e2,h2,nx2)) {p0 A B o0 o1 o2 o3:V}
  (d:a0b h2 0=some (.var [u,w,x,y])) (f:a0b h2 nx=some (.var [iV 1,sV t,iV a])) (i:e2=0) (hk:k=1) (j:a0b h2 1=some (.var [p0,A,B,o0,o1,o2,o3])) (l:a0r o0=true) (o:a0r o1=true) (p:a0r o2=true) (q:a0r o3=true) (b:a0c P0 (Builtin.len_ #[9] 3 #[.string s])=some (.int .i64 s.size)):
  ∃c,a0e P0 call n X82 {env:=e,h:=h,nx:=nx,sz:=43}=some (.ret,{env:=c,h:=(0,some (.var [o0,o1,o2,o3]))::h2,nx:=nx2,sz:=43})/\T.get 8 c 2= .ptr 0 0/\T.get 8 c 3=iV s.size/\T.get 8 c 4=iV 0:=by
 have r:¬(0:Nat)=nx:=by omega
 have hd:∀(g:G) (nx:Nat),a1q call.cbv g nx 162 [sV s,iV at']=some {v:= .tup [.agg [iV k,sV t,iV a],iV next,iV er]}:=λ g nx=>a0T (by rfl) hc (by rfl);subst he;subst i;subst hk;have z:¬nx=0:=by omega
 simp[P0,X82,inC,a0n,a1e,Tryz.func82,Tryz.f82,g0,g2,g5,g6,ho,hd,sz3,ag3,a2E,a3Q,a2k,a2j,b9F,a7Y al1,a0l am5,hi,ht,d,f,j,l,o,p,q,a0t,b]
theorem c6E{l o:V}(g0:T.get 8 e 0=sV s)(g2:T.get 8 e 2= .ptr 0 0)(g5:T.get 8 e 5= .ptr 1 0)(g6:T.get 8 e 6=iV at')(h0:a0b h 0=some (.var [i,j,l,o]))(hx:2<=nx)
  (ho:call.inl 162=none) (hc:call.cbv 162 [sV s,iV at'] []=some (.tup [.agg [iV k,sV t,iV a],iV next,iV er],[])) (he:er=0) (hi:call.inl 163=some (a1l c1 m 163)) (ht:a1l c1 m 163 [.ptr 1 0,.agg [iV k,sV t,iV a]] ((nx,some (.var [iV k,sV t,iV a]))::(nx,some (.var [iV 0,sV ⟨#[]⟩,iV 0]))::h) (nx+1)=some (iV e2,h2,nx2))
  (c:a0b h2 nx=some (.var [iV k,sV t,iV a])) (d:e2=0) (hk:k≠1):
  ∃b,a0e P0 call n X82 {env:=e,h:=h,nx:=nx,sz:=43}=some (.normal,{env:=b,h:=h2,nx:=nx2,sz:=43})/\T.get 8 b 0=sV s/\T.get 8 b 2= .ptr 0 0/\T.get 8 b 5= .ptr 1 0/\T.get 8 b 6=iV next:=by
 have f:¬(0:Nat)=nx:=by omega
 have hd:∀(g:G) (nx:Nat),a1q call.cbv g nx 162 [sV s,iV at']=some {v:= .tup [.agg [iV k,sV t,iV a],iV next,iV er]}:=λ g nx=>a0T (by rfl) hc (by rfl);subst he;subst d;have hb:(k==1)=false:=by simpa using hk
 simp[P0,X82,inC,a0n,a1e,Tryz.func82,Tryz.f82,g0,g2,g5,g6,ho,hd,sz3,ag3,a2k,a2j,b9F,a7Y al1,a0l am5,hi,ht,c,hb]
end
section
open Go Go.PV Go.Proofs
set_option maxRecDepth 10000
structure Toks (C:Nat->Calls):Prop where
 mono:∀a b,a<=b->(C a).le (C b)
 next:∀(s:ByteArray) (at':Nat),s.size<=1048576->at'<=s.size->∃M k t a next er,(C M).cbv 162 [sV s,iV at'] []=some (.tup [.agg [iV k,sV t,iV a],iV next,iV er],[])/\kOk er/\kOk a/\(er=0->t.size<=SB/\(k=2->t.toList≠[])/\(k≠1->(at':Int)<next/\next<=s.size))
 num:∀t:ByteArray,t.size<=SB->∃M t' e,(C M).cbv 361 [sV t] []=some (.tup [sV t',iV e],[])/\t'.size<=SB
def LI(s:ByteArray)(at' N:Nat)(a:St):Prop:=
 a.sz=43/\T.get 8 a.env 0=sV s/\T.get 8 a.env 2= .ptr 0 0/\T.get 8 a.env 5= .ptr 1 0/\T.get 8 a.env 6=iV at'/\(∃b c d e,a0b a.h 0=some (.var [b,c,d,e]))/\2<=a.nx/\(∃w lvls own,JOk N (a0b a.h) a.nx 1 1 w lvls own/\WOk w lvls)/\N<=at'/\at'<=s.size
def LE'(b:St):Prop:=
 b.sz=43/\T.get 8 b.env 2= .ptr 0 0/\∃x y c0 c1 c2 c3 a,a0b b.h 0=some (.var [c0,c1,c2,c3])/\T.get 8 b.env 3=iV x/\T.get 8 b.env 4=iV y/\kOk x/\kOk y/\DocOk 1048576 (a0b b.h) 65 (.agg [c0,c1,c2,c3]) a/\Uni a/\∀i∈a,i<b.nx
variable {N:Nat}
theorem d6g{g:G}:DocOk N g 65 (.agg Z4) []:=⟨0,_,_,_,[],[],rfl,by constructor<;>omega,(aw7 SB:(0:Nat)<=SB),.inl ⟨rfl,rfl⟩,.inl ⟨rfl,rfl⟩,rfl⟩
variable {s:ByteArray}
theorem b3V:a0c P0 (Builtin.len_ #[9] 3 #[.string s])=some (.int .i64 s.size):=by
 simp only[Builtin.len_];have e0:(#[Value.string s]:Array Value)[0]?=some (.string s):=rfl;have e1:(#[9]:Array Nat)[0]?=some 9:=rfl;grind[SN.a0a,SN.a0g,am6,SN.a0i,goInt]
variable {C:Nat->Calls}
theorem round(K:Kit C)(H:Toks C)(hs:s.size<=1048576){at':Nat}{z:St}(h:LI s at' N z):
  ∃n x j,a0e P0 (C n) n X82 z=some (x,j)/\(x= .ret/\LE' j\/x= .normal/\∃u,at'<u/\LI s u (N+1) j):=by
 obtain⟨e,h,nx,sz⟩:=z;obtain⟨h1,g0,g2,g5,g6,⟨E,F,G,I,h0⟩,hx,⟨w,lvls,own,hj,hw⟩,hN,A⟩:=h;simp only at h1 g0 g2 g5 g6 h0 hx hj;subst h1;obtain⟨M,k,t,a,next,er,c1,c2,c3,c4⟩:=H.next s at' hs A;by_cases he:er=0
 .obtain⟨d1,d2,d3⟩:=c4 he;obtain⟨M2,R,S,n1,n2⟩:=H.num t d1;have hm:∃m,M<=m/\M2<=m:=⟨max M M2,by omega,by omega⟩;obtain⟨m,m1,m2⟩:=hm;have l:=(H.mono M (m+4) (by omega)).cbv _ _ _ _ c1;have B:=(H.mono M2 (m+2) (by omega)).cbv _ _ _ _ n1;have ho:=K.out (m+4) 162 (by simp);have f:∀i,i<nx->a0b ((nx,some (.var [iV k,sV t,iV a]))::(nx,some (.var [iV 0,sV ⟨#[]⟩,iV 0]))::h) i=a0b h i:=λ i hi=>by simp only[a0b];grind
  have v:=hj.frame (M:=N) (nx':=nx+1) (ay3 _) (by omega) f;obtain⟨T,nd,o0,o1,o2,o3,sids,J,Z,q2,q3,q4,q5,q6,q7,q8,q9⟩:=hj;have D:Out (a1l (C (m+3)) (m+3) 163 [.ptr 1 0,.agg [iV k,sV t,iV a]] ((nx,some (.var [iV k,sV t,iV a]))::(nx,some (.var [iV 0,sV ⟨#[]⟩,iV 0]))::h) (nx+1)) (if k=1 then N else N+1) (nx+1) 1 1 ((nx,some (.var [iV k,sV t,iV a]))::(nx,some (.var [iV 0,sV ⟨#[]⟩,iV 0]))::h) own:=by
   by_cases hk:k=1
   .subst hk;rw[ax3 rfl];exact b7n K (m:=m) v hw
   .rw[ay9 hk];exact d1t K (m:=m) (n:=m+3) (k:=k) (a:=a) (t:=t) v hw (by omega) d1 d2 (by omega) λ _=>⟨R,S,n2,B⟩
  obtain⟨e2,h2,nx2,t1,t2,t3,t4,t5⟩:=D;have hi:=K.inl (m+3) 163 (by simp);have o:a0b h2 0=some (.var [E,F,G,I]):=by
   rw[t4 0 (by omega) (by omega) (λ hm=>by grind),f 0 (by omega)];exact h0
  have p:a0b h2 nx=some (.var [iV k,sV t,iV a]):=by
   rw[t4 nx (by omega) (by omega) (λ hm=>by grind)];simp[a0b]
  by_cases c:e2=0
  .obtain⟨U,l',y,k1,k2,k3,k4,k5⟩:=t5 c;by_cases hk:k=1
   .subst hk;rw[ax3 rfl]at k3;obtain⟨L,V,p0,O,P,Q,s1,W,r1,r2,r3,r4,r5,r6,r7,r8,r9⟩:=k3;have b:a0r p0=true/\a0r O=true/\a0r P=true/\a0r Q=true:=by
     obtain⟨kk,tt,X,Y,aa,bb,ee,_,_,d,g,_⟩:=r2;injection ee with ee
     simp only[Az2,ao0]at ee;obtain⟨rfl,rfl,rfl,rfl⟩:=ee;exact⟨rfl,rfl,d.cell,g.cell⟩
    obtain⟨e3,d,g,q,r⟩:=c5k (call:=C (m+4)) (n:=m+4) g0 g2 g5 g6 h0 hx ho l he hi t1 o p c rfl r1 b.1 b.2.1 b.2.2.1 b.2.2.2 b3V;refine⟨m+4,.ret,_,d,.inl ⟨rfl,rfl,g,s.size,0,p0,O,P,Q,W,a4D,q,r,by constructor<;>omega,by grind,r2.frame (by omega) λ i hi=> ?_,?_,λ i hi=>(r6 i (by grind)).2⟩⟩
    .have:i≠0:=λ e=>by
      grind
     rw[a0b,ay9 this]
    .intro i;have:=r5 i;grind
   .obtain⟨e3,d,g,q,r,u5⟩:=c6E (call:=C (m+4)) (n:=m+4) g0 g2 g5 g6 h0 hx ho l he hi t1 p c hk;obtain⟨v1,v2⟩:=d3 hk;rw[ay9 hk]at k3;refine⟨m+4,.normal,_,d,.inr ⟨rfl,next.toNat,by omega,rfl,g,q,r,?_,⟨E,F,G,I,o⟩,by grind,⟨U,l',y,k3,k1⟩,by omega,by omega⟩⟩;grind
  .obtain⟨e3,d,g,q,r⟩:=c4N (call:=C (m+4)) (n:=m+4) g0 g2 g5 g6 h0 hx ho l he hi t1 o p c;exact⟨m+4,.ret,_,d,.inl ⟨rfl,rfl,g,a,e2,_,_,_,_,[],a4D,q,r,c3,by constructor<;>omega,d6g,λ i=>by simp,nofun⟩⟩
 .obtain⟨e3,d,g,q,r⟩:=c0f (call:=C M) (n:=M) g0 g2 g5 g6 h0 hx (K.out M 162 (by simp)) c1 he;exact⟨M,.ret,_,d,.inl ⟨rfl,rfl,g,at',er,_,_,_,_,[],a4D,q,r,by constructor<;>omega,c2,d6g,λ i=>by simp,nofun⟩⟩
theorem b7m(K:Kit C)(H:Toks C)(hs:s.size<=1048576):∀(d:Nat) {at' N:Nat} {b:St},s.size-at'=d->LI s at' N b->
  ∃n a,iter (a0e P0 (C n) n (.block 1 X82)) n b=some (.ret,a)/\LE' a:=by
 intro d;induction d using Nat.strongRecOn with
 |ind d ih=>
  intro at' N b hd h;obtain⟨n,x,a,h1,h2⟩:=round K H hs h;rcases h2 with⟨rfl,h2⟩|⟨rfl,c,h2,h3⟩
  .refine⟨n+1,a,?_,h2⟩;have:=a3f (H.mono n (n+1) (by omega)) (at3 n) h1;rw[iter,a0e,this]
  .obtain⟨n2,e,k1,k2⟩:=ih (s.size-c) (by have:=h3.2.2.2.2.2.2.2.2.2;omega) rfl h3;refine⟨max n n2+1,e,?_,k2⟩;have e1:=a3f (H.mono n (max n n2+1) (by omega)) (show n<=max n n2+1 by omega) h1;rw[iter,a0e,e1];simp only;exact a4d (λ s r hr=>a3f (H.mono n2 (max n n2+1) (by omega)) (show n2<=max n n2+1 by omega) hr) (show n2<=max n n2 by omega) k1
end
section
open Go Go.PV Go.Proofs Go.SN
set_option maxRecDepth 10000
abbrev vD:TD:= .val false 1048576
variable {g:G}
theorem b3f:∀{xs:List V} {D:Nat} {ms:List Nat},(∀x∈xs,∃s:ByteArray,x=sV s/\s.size<=SB)->a0G (a0C (D+1) g) ms xs=some (xs,ms):=by
 intro xs D ms h;refine a2i λ a ha=> ?_;obtain⟨s,rfl,_⟩:=h a ha;rfl
variable {xs:List V}
theorem c3m(h:∀x∈xs,∃s:ByteArray,x=sV s/\s.size<=SB):∀x∈xs,InD g0 N0 (.str 1048576) x:=by
 intro x hx;obtain⟨s,rfl,hs⟩:=h x hx;exact .str (by unfold SB at hs;omega)
variable {ms:List Nat} {D:Nat}
theorem a9n{id ty sz:Nat}{f:Bool}(h:g id=some (.row ty sz xs f)):a0C (D+1) g ms (.row id sz 0 xs.length)=(match a0G (a0C D g) (id::ms) xs with
  |some (l,ms)=>some (.sl none l,ms)
  |none=>none):=by
 rw[a0C];simp only[h,ao5,as4,ay3,aw4,Ax3,List.take_length];grind
variable {ids:List Nat}
theorem c7W{N:Nat}{v:V}(h:KeysOk N g v ids)(hN:N<=SB):∃b a,a0C (D+2) g ms v=some (b,a)/\InD g0 N0 (.sl false 1048576 (.str 1048576)) b/\∀x∈a,x∈ms\/x∈ids:=by
 rcases h with⟨rfl,_⟩|⟨id,xs,rfl,h1,h2,h3,rfl⟩
 .exact⟨.nils,ms,rfl,.nils (by omega),λ x hx=> .inl hx⟩
 .refine⟨.sl none xs,id::ms,?_,.sl (by grind[SB]) (c3m h3),λ x hx=> ?_⟩
  .rw[a9n h1,b3f h3]
  .grind
theorem b3p{g:G}{D:Nat}{P:V->List Nat->Prop}(hP:∀v ids ms,P v ids->∃d c,a0C D g ms v=some (d,c)/\InD g0 N0 vD d/\∀x∈c,x∈ms\/x∈ids):
  ∀{xs:List V} {ids ms:List Nat},DocsOk P xs ids->∃l c,a0G (a0C D g) ms xs=some (l,c)/\l.length=xs.length/\(∀x∈l,InD g0 N0 vD x)/\∀x∈c,x∈ms\/x∈ids
 |[],ids,ms,_=>⟨[],ms,rfl,rfl,(λ x hx=>by cases hx),λ x hx=> .inl hx⟩
 |x::xs,ids,ms,⟨a,b,h1,h2,h3⟩=>by
  obtain⟨d,m1,k1,k2,k3⟩:=hP x a ms h1;obtain⟨l,m2,f,e,h,i⟩:=b3p hP (ms:=m1) h2;refine⟨d::l,m2,by grind[a0G],by simp[e],λ y hy=> ?_,λ y hy=> ?_⟩
  .grind
  .grind
variable {t:ByteArray} {k:Int} {is ks:V}
theorem d4v(hk:kOk k)(ht:t.size<=SB)(h1:InD g0 N0 (.sl false 1048576 (.str 1048576)) ks)(h2:InD g0 N0 (.sl false 1048576 vD) is):InD g0 N0 vD (.agg [iV k,sV t,ks,is]):=by
 refine .val (.agg rfl λ j d c hd hc=> ?_);have a:(t.size:Int)<=1048576:=by unfold SB at ht;omega
 match j,hd,hc with
 |0,hd,hc=>simp[b2S]at hd hc;subst hd;subst hc;exact .int (by simpa[b7v]using hk.1) (by simpa[b1A]using hk.2)
 |1,hd,hc=>simp[b2S]at hd hc;subst hd;subst hc;exact .str a
 |2,hd,hc=>simp[b2S]at hd hc;subst hd;subst hc;exact h1
 |3,hd,hc=>grind[b2S]
 |j+4,hd,hc=>grind
theorem c3k{N:Nat}{g:G}(hN:N<=SB):∀(d:Nat) {D:Nat} {v:V} {ids ms:List Nat},2*d+1<=D->DocOk N g d v ids->∃i e,a0C D g ms v=some (i,e)/\InD g0 N0 vD i/\∀x∈e,x∈ms\/x∈ids
 |0,_,_,_,_,_,h=>h.elim
 |d+1,D,v,ids,ms,hD,⟨k,t,ks,is,a,b,e1,h1,h2,h3,h4,e2⟩=>by
  subst e1;subst e2;obtain⟨D,rfl⟩:∃j,D=j+3:=⟨D-3,by omega⟩;obtain⟨f,m1,k1,k2,k3⟩:=c7W h3 hN (D:=D) (ms:=ms);have hi:∃c m2,a0C (D+2) g m1 is=some (c,m2)/\InD g0 N0 (.sl false 1048576 vD) c/\∀x∈m2,x∈m1\/x∈b:=by
   rcases h4 with⟨rfl,_⟩|⟨id,xs,r,rfl,m,o,n,rfl⟩
   .exact⟨.nils,m1,rfl,.nils (by omega),λ x hx=> .inl hx⟩
   .obtain⟨l,m2,r1,r2,r3,r4⟩:=b3p (g:=g) (D:=D+1) (λ v ids ms h=>c3k hN d (by omega) h) (ms:=id::m1) n;refine⟨.sl none l,m2,?_,.sl (by grind[SB]) r3,λ x hx=> ?_⟩
    .rw[a9n m,r1]
    .grind
  obtain⟨c,m2,i1,i2,i3⟩:=hi;refine⟨.agg [iV k,sV t,f,c],m2,?_,d4v h1 h2 k2 i2,λ x hx=> ?_⟩
  .have e1:∀v,a0C (D+2) g ms (.lit v)=some (.lit v,ms):=λ v=>rfl;rw[a0C];simp_all[a0G]
  grind
theorem c3I{nx:Nat}{x y:Int}(h:DocOk 1048576 g 65 (.agg [iV k,sV t,ks,is]) ids)(hu:∀i∈ids,i<nx):
  ∃c d ms,a2q g ([],List.range nx) (.tup [.agg [iV k,sV t,ks,is],iV x,iV y])=some (.tup [.agg [iV k,sV t,c,d],iV x,iV y],(ms,List.range nx))/\kOk k/\t.size<=SB/\
   InD g0 N0 (.sl false 1048576 (.str 1048576)) c/\InD g0 N0 (.sl false 1048576 vD) d:=by
 obtain⟨A,B,u,w,a,b,e,h1,h2,h3,h4,rfl⟩:=h;injection e with e
 simp only[Az2,ao0,V.lit.injEq,At3,Value.string.injEq,ao5]at e;obtain⟨rfl,rfl,rfl,rfl⟩:=e;have hN:(1048576:Nat)<=SB:=by unfold SB;omega
 have q:∀(s:List Nat×List Nat) (v:Value),a0h g s (.lit v)=some (.lit v,s):=λ s v=>by
  unfold a0h;simp only;rw[a5E];rfl
 have j:∀(s:List Nat×List Nat),a0h g s .nils=some (.nils,s):=λ s=>by
  unfold a0h;simp only;rw[a5E];rfl
 have m:∀{id ty sz:Nat} {xs l:List V} {f:Bool} {ms m2:List Nat},id<nx->g id=some (.row ty sz xs f)->a0G (a0C 159 g) (id::ms) xs=some (l,m2)->a0h g (ms,List.range nx) (.row id sz 0 xs.length)=some (.sl none l,(m2,List.range nx)):=by
  intro id ty sz xs l f ms m2 hid hg hm;have o:(List.range nx).contains id=true:=by rw[au1];exact aq2.2 hid
  unfold a0h;simp only[hg,o,aq4,ay6,and_false,av8];rw[a5E,a9n hg,hm]
 have hk:∃c m1,a0h g ([],List.range nx) ks=some (c,(m1,List.range nx))/\InD g0 N0 (.sl false 1048576 (.str 1048576)) c:=by
  rcases h3 with⟨rfl,rfl⟩|⟨id,xs,rfl,p,z,n,rfl⟩
  .exact⟨.nils,[],j _,.nils (by omega)⟩
  .exact⟨.sl none xs,[id],m (hu id (by simp)) p (b3f n),.sl (by grind) (c3m n)⟩
 obtain⟨c,m1,c1,c2⟩:=hk;have hi:∃d m2,a0h g (m1,List.range nx) is=some (d,(m2,List.range nx))/\InD g0 N0 (.sl false 1048576 vD) d:=by
  rcases h4 with⟨rfl,rfl⟩|⟨id,xs,r,rfl,p,z,n,rfl⟩
  .exact⟨.nils,m1,j _,.nils (by omega)⟩
  .obtain⟨l,m2,r1,r2,r3,r4⟩:=b3p (g:=g) (D:=159) (λ v ids ms h=>c3k hN 64 (by omega) h) (ms:=id::m1) n;exact⟨.sl none l,m2,m (hu id (by simp)) p r1,.sl (by grind) r3⟩
 obtain⟨d,m2,i1,i2⟩:=hi;refine⟨c,d,m2,?_,h1,h2,c2,i2⟩;simp_all[a2q,a0G,a0O]
end
section
open Go Go.PV Go.Proofs
set_option maxRecDepth 10000
noncomputable def c3t:Code:=a2I (a0n 82)
noncomputable def c5i:Code:=a2I (a1e (a0n 82))
noncomputable def c5C:Code:=a2I (a1e (a1e (a0n 82)))
noncomputable def c1U:Code:=a2I (a1e (a1e (a1e (a0n 82))))
theorem b82:Tryz.f82.body=some (.seq c3t (.seq c5i (.seq c5C (.seq c1U (.block 0 (.loop (.block 1 X82))))))):=by rfl
theorem d7L:a4h P0 252=some (.agg [.nils,iV 0,iV 0,iV 0,sV ⟨#[]⟩,.nils,.nils]):=by rfl
theorem d8E{P:Program}{call:Calls}{n:Nat}{a b c d x:Code}{s f:St}{r:Option (Ex×St)}(h:a0e P call n (.seq a (.seq b (.seq c d))) s=some (.normal,f))(k:a0e P call n x f=r):a0e P call n (.seq a (.seq b (.seq c (.seq d x)))) s=r:=by
 simp only[a0e]at h|-;generalize a0e P call n a s=y at h|-
 match y with
 |none=>simp at h
 |some (.exit i,e)=>simp at h
 |some (.ret,e)=>simp at h
 |some (.normal,e)=>
  simp only at h|-;generalize a0e P call n b e=y at h|-
  match y with
  |none=>simp at h
  |some (.exit i,g)=>simp at h
  |some (.ret,g)=>simp at h
  |some (.normal,g)=>grind
theorem a7m{prim:Nat->Option Fp}{inl:Nat->Bool}{n k:Nat}{args:List V}{v a:V}{s:St}{ms kl:List Nat}(hp:prim k=none)(hb:a1j P0 (a0d P0 prim inl n) n k args [] 0=some (v,s))(hr:a5t k (a0b s.h) s.nx v=some (a,(ms,kl)))(hf:a1u (a0b s.h) ms kl=true):
  (a0d P0 prim inl (n+1)).cbv k args []=some (a,[]):=by
 simp_all[a0d,a0w,a0G]
section
attribute [local simp] a1j a0e a0I a0v a0V a1h a1F opE ev evs evo a0D a2H a0u a0m St.get St.put tgp tgl a1w a0Z sc a0W a1b a4g a0E a3B a1K a6x lenOf a2u Tryz.underlying252 am9 am5 Tryz.underlying254 am6 Tryz.underlying399 Tryz.underlying153 al1 a0b V.fit a5z anb a4Z bT V.cells storeAt setCells a3a a3b fill ckl ckn ckr ckm
variable {s:ByteArray}
theorem c2S(call:Calls)(n:Nat)(hs:1048576<s.size):∃a,a1j P0 call n 82 [sV s] [] 0=some (.tup [.agg Z4,iV 0,iV 142],a):=by
 have e:(1048576:Int)<s.size:=by omega
 simp[P0,Tryz.func82,Tryz.f82,a2C,sz9,b4s,a5q,a2E,sz3,a3Q,a0t,b3V,a0z am5,e]
theorem c5R(call:Calls)(n:Nat)(hs:s.size<=1048576):∃a,a0e P0 call n (.seq c3t (.seq c5i (.seq c5C c1U))) {env:=a0u [sV s] 0 .leaf,h:=[],nx:=0,sz:=43}=some (.normal,a)/\LI s 0 0 a:=by
 have e:¬(1048576:Int)<s.size:=by omega
 simp[P0,Tryz.func82,c3t,c5i,c5C,c1U,a0n,a2I,a1e,Tryz.f82,a2C,d7L,a0t,b3V,a0z am5,e,LI];refine⟨0,[],⟨[],.nils,0,iV 0,sV ⟨#[]⟩,.nils,.nils,[],[],by simp,d6g,.inl ⟨rfl,rfl,rfl⟩,rfl,λ i=>by grind,λ i hi=>by grind,by omega,by omega,by simp⟩,λ h=>by omega⟩
end
theorem c7p{prim:Nat->Option Fp}{inl:Nat->Bool}(hp:prim 82=none)(K:Kit (a0d P0 prim inl))(H:Toks (a0d P0 prim inl))(s:ByteArray):
  ∃M k t ks is x y,(a0d P0 prim inl M).cbv 82 [sV s] []=some (.tup [.agg [iV k,sV t,ks,is],iV x,iV y],[])/\kOk k/\kOk x/\kOk y/\t.size<=SB/\
   SN.InD SN.g0 SN.N0 (.sl false 1048576 (.str 1048576)) ks/\SN.InD SN.g0 SN.N0 (.sl false 1048576 vD) is:=by
 have c:∀{g:G} {nx:Nat} {v l:V} {ms:List Nat},a2q g ([],List.range nx) v=some (l,(ms,List.range nx))->a5t 82 g nx v=some (l,(ms,[])):=by
  intro g nx v l ms h;unfold a5t;rw[ay9 (by decide)];unfold c6k;rw[h];simp
 by_cases hs:s.size<=1048576
 .obtain⟨u,h1,h2⟩:=c5R (a0d P0 prim inl 0) 0 hs;obtain⟨n,m,h3,h4⟩:=b7m K H hs s.size (by omega) h2;have o:=a3f (H.mono 0 n (by omega)) (aw7 n) h1;obtain⟨e,h,nx,sz⟩:=m;obtain⟨e1,g2,x,y,c0,c1,c2,c3,q,d1,g3,g4,d2,d3,d4,_,d5⟩:=h4;simp only at e1 g2 g3 g4 d1 d4 d5;subst e1;have p:a0e P0 (a0d P0 prim inl n) n (.seq c3t (.seq c5i (.seq c5C (.seq c1U (.block 0 (.loop (.block 1 X82))))))) {env:=a0u [sV s] 0 .leaf,h:=[],nx:=0,sz:=43}=some (.ret,{env:=e,h:=h,nx:=nx,sz:=43}):=by
   refine d8E o ?_;grind[a0e]
  have d:a1j P0 (a0d P0 prim inl n) n 82 [sV s] [] 0=some (.tup [.agg [c0,c1,c2,c3],iV x,iV y],{env:=e,h:=h,nx:=nx,sz:=43}):=by
   unfold a1j;have hn:max [sV s].length Tryz.f82.ntmps=43:=by simp[Tryz.f82]
   simp only[P0,Tryz.func82,b82,Az0,az1,hn];rw[ay9 (by omega),p];simp[a0m,Tryz.f82,a0D,St.get,g2,g3,g4,a0E,d1,a6x,a2E,a3Q]
  obtain⟨k,t,ks,is,a,b,ee,k1,k2,k3,k4,k5⟩:=d4;have hc:c0=iV k/\c1=sV t/\c2=ks/\c3=is:=by
   injection ee with ee
   simpa using ee
  obtain⟨rfl,rfl,rfl,rfl⟩:=hc;obtain⟨f,j,ms,r1,r3,r4,r5,r6⟩:=c3I (x:=x) (y:=y) ⟨k,t,c2,c3,a,b,rfl,k1,k2,k3,k4,k5⟩ d5;exact⟨n+1,k,t,f,j,x,y,a7m hp d (c r1) rfl,r3,d2,d3,r4,r5,r6⟩
 .obtain⟨r,hb⟩:=c2S (a0d P0 prim inl 0) 0 (s:=s) (by omega);obtain⟨f,j,ms,r1,r3,r4,r5,r6⟩:=c3I (g:=a0b r.h) (nx:=r.nx) (x:=0) (y:=142) (d6g (N:=1048576)) (nofun);exact⟨1,0,⟨#[]⟩,f,j,0,142,a7m hp hb (c r1) rfl,r3,by grind,by constructor<;>omega,r4,r5,r6⟩
end
section
open Go Go.PV Go.Proofs
set_option maxRecDepth 10000
variable {s:ByteArray}
theorem a3m:a0t P0 (Builtin.len_ #[9] 3 #[.string s])=some (iV s.size):=by
 simp only[a0t,b3V,Az0,az1];rfl
variable {i:Nat}
theorem a9N(h:i<s.size):a0t P0 (Instr.index 9 (.string s) (.int .i64 (i:Int)))=some (.lit (.int .u8 ((s[i]'h).toNat:Int))):=by
 have a0b:(if 0<=(i:Int)then s[(i:Int).toNat]? else none)=some (s[i]'h):=by
  rw[ax3 (by omega)];exact getElem?_pos s i h
 simp only[a0t,Instr.index,asIntOf,SN.a0a,SN.a0i,SN.a0g am6,az1,Az0,a0b];rfl
theorem c6F{j:Nat}(h:i<=j)(h2:j<=s.size):a3d P0 9 (sV s) (some (iV i)) (some (iV j)) none=some (sV (s.extract i j)):=by
 have k1:=SN.a1G (P:=P0) (k:= .i64) (c:= .sliceAlen) (i:=(j:Int)) (y:=s.size) (by omega) (by omega);have k2:=SN.a1G (P:=P0) (k:= .i64) (c:= .sliceB) (i:=(i:Int)) (y:=j) (by omega) (by omega);simp only[Av5]at k1 k2;have key:a0c P0 (Instr.sliceAt 9 (.string s) (some (.int .i64 i)) (some (.int .i64 j)) none)=some (.string (s.extract i j)):=by
  simp only[Instr.sliceAt,SN.a0a,SN.a0g am6,az1,Instr.slice];have a:a0c P0 (Instr.sliceBounds false s.size s.size (some (.int .i64 i)) (some (.int .i64 j)) none)=some (i,j,s.size):=by
   simp only[Instr.sliceBounds,SN.a0a,SN.a0i,az1,Ay0,ay6,av8,k1,k2]
  simp only[Ay0,ay6,av8,Pure.pure,Bind.bind,SN.a1r,a0c,a,az1]
 simp only[a3d,a0W,a1b,ax0,Az0,az1,a0t,key];rfl
theorem d6c(h:i<=s.size):a3d P0 9 (sV s) (some (iV i)) none none=some (sV (s.extract i s.size)):=by
 have k2:=SN.a1G (P:=P0) (k:= .i64) (c:= .sliceB) (i:=(i:Int)) (y:=s.size) (by omega) (by omega);simp only[Av5]at k2;have key:a0c P0 (Instr.sliceAt 9 (.string s) (some (.int .i64 i)) none none)=some (.string (s.extract i s.size)):=by
  simp only[Instr.sliceAt,SN.a0a,SN.a0g am6,az1,Instr.slice];have a:a0c P0 (Instr.sliceBounds false s.size s.size (some (.int .i64 i)) none none)=some (i,s.size,s.size):=by
   simp only[Instr.sliceBounds,SN.a0a,SN.a0i,az1,Ay0,ay6,av8,k2]
  simp only[Ay0,ay6,av8,Pure.pure,Bind.bind,SN.a1r,a0c,a,az1]
 simp only[a3d,a0W,a1b,ax0,Az0,az1,a0t,key];rfl
end
section
open Go Go.PV Go.Proofs
set_option maxRecDepth 10000
section
attribute [local simp] a1j a0e a0I a0v a0V a1h a1F opE ev evs evo a0D a2H a0u a0m St.get St.put tgp tgl a1w a0Z sc a0W a1b a4g a0E a3B a1K a6x lenOf a2u am5 Tryz.underlying4 am6 Tryz.underlying29 al1 Tryz.underlying82 Tryz.underlying81 a0b V.fit a5z anb a4Z bT V.cells storeAt setCells a3a a3b fill ckl ckn ckr ckm
theorem d5c:a4h P0 29=some (.agg [iV 0,sV ⟨#[]⟩,sV ⟨#[]⟩,iV 0]):=by rfl
theorem d6w:a4h P0 81=some (.lit .nilFunc):=by rfl
theorem d6b:a1M P0 29=some 4:=by rfl
theorem d3s:b4T P0 29=some true:=by rfl
abbrev Zid:List V:=[iV 0,sV ⟨#[]⟩,sV ⟨#[]⟩,iV 0]
theorem c3B(call:Calls)(n:Nat){s:ByteArray}(hs:4096<s.size):∃c,a1j P0 call n 10 [sV s] [] 0=some (.tup [.agg Zid,iV 5],c):=by
 have e:(4096:Int)<s.size:=by omega
 simp[P0,Tryz.func10,Tryz.f10,d5c,d6b,d3s,sz3,sz9,a3m,a0z am5,e]
variable {call c1:Calls} {n m nx2:Nat} {s a b low:ByteArray} {q:HP}
theorem c7k(hs:s.size<=4096)(c:call.inl 27=none)(j:call.cbv 27 [sV s,sV ⟨#[58]⟩] []=some (.tup [sV a,sV b,bV false],[]))(d:call.inl 29=none)(k:call.cbv 29 [sV a] []=some (sV low,[]))
  (h:call.inl 28=some (a1l c1 m 28)) (k28:a1l c1 m 28 [] [(0,some (.var Zid))] 1=some (.map 1,q,2)) (hm:a0b q 1=some (.map a4A)) (h0:a0b q 0=some (.var Zid)) {r:Option Nat} (hf:findKey P0 false 9 (.string low) a4A=some r) (hr:∀i,r=some i->i<4):
  ∃l,a1j P0 call n 10 [sV s] [] 0=some (.tup [.agg Zid,iV 60],l):=by
 have e:¬(4096:Int)<s.size:=by omega
 have d27:∀(g:G) (nx:Nat),a1q call.cbv g nx 27 [sV s,sV ⟨#[58]⟩]=some {v:= .tup [sV a,sV b,bV false]}:=λ g nx=>a0T (by rfl) j (by rfl);have d29:∀(g:G) (nx:Nat),a1q call.cbv g nx 29 [sV a]=some {v:=sV low}:=λ g nx=>a0T (by rfl) k (by rfl);cases r with
 |none=>simp[P0,Tryz.func10,Tryz.f10,d5c,d6w,d6b,d3s,sz3,sz9,a3m,a0z am5,e,c,d27,d,d29,h,k28,hm,hf,h0,a1s]
 |some i=>
  have hi:=hr i rfl;have hl:∃k0 f,a4A[i]?=some (k0,.fn f [] []):=by
   grind
  obtain⟨k0,f,hl⟩:=hl;simp[P0,Tryz.func10,Tryz.f10,d5c,d6w,d6b,d3s,sz3,sz9,a3m,a0z am5,e,c,d27,d,d29,h,k28,hm,hf,hl,h0,a1s]
theorem c0y(hs:s.size<=4096)(c:call.inl 27=none)(d:call.cbv 27 [sV s,sV ⟨#[58]⟩] []=some (.tup [sV a,sV b,bV true],[]))(f:call.inl 29=none)(h:call.cbv 29 [sV a] []=some (sV low,[]))
  (i:call.inl 28=some (a1l c1 m 28)) (k28:a1l c1 m 28 [] [(0,some (.var Zid))] 1=some (.map 1,q,2)) (hm:a0b q 1=some (.map a4A)) (h0:a0b q 0=some (.var Zid)) (hf:findKey P0 false 9 (.string low) a4A=some none):
  ∃j,a1j P0 call n 10 [sV s] [] 0=some (.tup [.agg Zid,iV 60],j):=by
 have e:¬(4096:Int)<s.size:=by omega
 have d27:∀(g:G) (nx:Nat),a1q call.cbv g nx 27 [sV s,sV ⟨#[58]⟩]=some {v:= .tup [sV a,sV b,bV true]}:=λ g nx=>a0T (by rfl) d (by rfl);have d29:∀(g:G) (nx:Nat),a1q call.cbv g nx 29 [sV a]=some {v:=sV low}:=λ g nx=>a0T (by rfl) h (by rfl);have hb:a3w Tryz.prog .eql 81 (.tmp 25) (.const .nilFunc) (.lit .nilFunc) (.lit .nilFunc)=some (bV true):=by rfl
 simp[P0,Tryz.func10,Tryz.f10,d5c,d6w,d6b,d3s,sz3,sz9,a3m,a0z am5,e,c,d27,f,d29,i,k28,hm,hf,h0,a1s,hb]
theorem c0n{i f:Nat}{k0:V}{k p er:Int}{t hh:ByteArray}(hs:s.size<=4096)(c:call.inl 27=none)(d:call.cbv 27 [sV s,sV ⟨#[58]⟩] []=some (.tup [sV a,sV b,bV true],[]))(h:call.inl 29=none)(j:call.cbv 29 [sV a] []=some (sV low,[]))
  (l:call.inl 28=some (a1l c1 m 28)) (k28:a1l c1 m 28 [] [(0,some (.var Zid))] 1=some (.map 1,q,2)) (hm:a0b q 1=some (.map a4A)) (h0:a0b q 0=some (.var Zid)) (hf:findKey P0 false 9 (.string low) a4A=some (some i)) (hl:a4A[i]?=some (k0,.fn f [] []))
  (of:call.inl f=none) (cf:call.cbv f [sV s] []=some (.tup [.agg [iV k,sV t,sV hh,iV p],iV er],[])):
  ∃o,a1j P0 call n 10 [sV s] [] 0=some (.tup [.agg [iV k,sV t,sV hh,iV p],iV er],o):=by
 have e:¬(4096:Int)<s.size:=by omega
 have d27:∀(g:G) (nx:Nat),a1q call.cbv g nx 27 [sV s,sV ⟨#[58]⟩]=some {v:= .tup [sV a,sV b,bV true]}:=λ g nx=>a0T (by rfl) d (by rfl);have d29:∀(g:G) (nx:Nat),a1q call.cbv g nx 29 [sV a]=some {v:=sV low}:=λ g nx=>a0T (by rfl) j (by rfl);have df:∀(g:G) (nx:Nat),a1q call.cbv g nx f [sV s]=some {v:= .tup [.agg [iV k,sV t,sV hh,iV p],iV er]}:=λ g nx=>a0T (by rfl) cf (by rfl);have hb:a3w Tryz.prog .eql 81 (.tmp 25) (.const .nilFunc) (.fn f [] []) (.lit .nilFunc)=some (bV false):=by
  simp[a3w,Tryz.underlying81,a2U]
 simp[P0,Tryz.func10,Tryz.f10,d5c,d6w,d6b,d3s,a3m,a0z am5,e,c,d27,h,d29,l,k28,hm,hf,hl,h0,a1s,hb,of,df]
end
end
section
open Go Go.PV Go.Proofs
set_option maxRecDepth 10000
attribute [local simp] a1j a0e a0I a0v a0V a1h a1F opE ev evs evo a0D a2H a0u a0m St.get St.put tgp tgl a1w a0Z sc a0W a1b a4g a0E a3B a1K a6x lenOf a2u am5 am8 am6 Tryz.underlying68 a0b V.fit a5z anb a4Z bT V.cells storeAt setCells a3a a3b fill ckl ckn ckr ckm
noncomputable def c2h:Code:=inC (inC (a1e (a2I (a1e (a1e (a1e (a0n 202)))))))
noncomputable def d7r:Code:=a1e (a1e (a1e (a1e (a0n 202))))
variable {s:ByteArray} {call:Calls} {h:HP} {c:Int} {from' i n nx:Nat} {e:T} {out:V}
theorem c4J(g0:T.get 8 e 0=sV s)(g1:T.get 8 e 1= .lit (.int .u8 c))(g5:T.get 8 e 5=out)(g6:T.get 8 e 6=iV from')(g7:T.get 8 e 7=iV i)(hi:¬i<s.size):
  ∃a,a0e P0 call n c2h {env:=e,h:=h,nx:=nx,sz:=34}=some (.exit 0,{env:=a,h:=h,nx:=nx,sz:=34})/\T.get 8 a 0=sV s/\T.get 8 a 5=out/\T.get 8 a 6=iV from':=by
 have hi':¬(i:Int)<s.size:=by omega
 simp[P0,c2h,inC,a2I,a1e,a0n,Tryz.func202,Tryz.f202,g0,g5,g6,g7,a3m,a2f am5,hi']
theorem c1q(g0:T.get 8 e 0=sV s)(g1:T.get 8 e 1= .lit (.int .u8 c))(g5:T.get 8 e 5=out)(g6:T.get 8 e 6=iV from')(g7:T.get 8 e 7=iV i)(hi:i<s.size)(hs:s.size<=1000000)(hc:((s[i]'hi).toNat:Int)≠c):
  ∃a,a0e P0 call n c2h {env:=e,h:=h,nx:=nx,sz:=34}=some (.normal,{env:=a,h:=h,nx:=nx,sz:=34})/\T.get 8 a 0=sV s/\T.get 8 a 1= .lit (.int .u8 c)/\T.get 8 a 5=out/\T.get 8 a 6=iV from'/\T.get 8 a 7=iV (i+1:Nat):=by
 have hi':(i:Int)<s.size:=by omega
 have b:(((s[i]'hi).toNat:Int)==c)=false:=by simpa using hc
 have hw:IntKind.i64.wrap ((i:Int)+1)=(i+1:Nat):=by rw[a2h (by omega) (by omega)];rfl
 simp[P0,c2h,inC,a2I,a1e,a0n,Tryz.func202,Tryz.f202,g0,g1,g5,g6,g7,a3m,a2f am5,a0l am8,a2V am5,hi',a9N hi,b,hw]
theorem c0p(g0:T.get 8 e 0=sV s)(g1:T.get 8 e 1= .lit (.int .u8 c))(g5:T.get 8 e 5= .nils)(g6:T.get 8 e 6=iV from')(g7:T.get 8 e 7=iV i)(hi:i<s.size)(hs:s.size<=1000000)(hf:from'<=i)(hc:((s[i]'hi).toNat:Int)=c):
  ∃a,a0e P0 call n c2h {env:=e,h:=h,nx:=nx,sz:=34}=some (.normal,{env:=a,h:=(nx+1,some (.row 9 1 [sV (s.extract from' i)] false))::(nx,some (.row 9 1 [sV (s.extract from' i)] false))::h,nx:=nx+2,sz:=34})/\T.get 8 a 0=sV s/\T.get 8 a 1= .lit (.int .u8 c)/\T.get 8 a 5= .row (nx+1) 1 0 1/\T.get 8 a 6=iV (i+1:Nat)/\T.get 8 a 7=iV (i+1:Nat):=by
 have hi':(i:Int)<s.size:=by omega
 have b:(((s[i]'hi).toNat:Int)==c)=true:=by simpa using hc
 have hw:IntKind.i64.wrap ((i:Int)+1)=(i+1:Nat):=by rw[a2h (by omega) (by omega)];rfl
 have ha:a0M P0 (λ x=>if x=nx then some (.row 9 1 [.lit (.string (s.extract from' i))] false)else a0b h x) (nx+1) 68 68 (.nils) (.row nx 1 0 1)=_:=b7O (s:=s.extract from' i) (by simp);simp only[P0]at ha;simp[P0,c2h,inC,a2I,a1e,a0n,Tryz.func202,Tryz.f202,g0,g1,g5,g6,g7,a3m,a2f am5,a0l am8,a2V am5,hi',a9N hi,b,hw,c6F hf (aq5 hi),c7q,sz9,zf9,a1H,ha]
variable {xs:List V} {id:Nat}
theorem c0q(g0:T.get 8 e 0=sV s)(g1:T.get 8 e 1= .lit (.int .u8 c))(g5:T.get 8 e 5= .row id 1 0 xs.length)(g6:T.get 8 e 6=iV from')(g7:T.get 8 e 7=iV i)(hi:i<s.size)(hs:s.size<=1000000)(hf:from'<=i)(hc:((s[i]'hi).toNat:Int)=c)
  (hid:id<nx) (hx:a0b h id=some (.row 9 1 xs false)) (hl:xs.length<10000000):
  ∃a,a0e P0 call n c2h {env:=e,h:=h,nx:=nx,sz:=34}=some (.normal,{env:=a,h:=(nx+1,some (.row 9 1 (xs++[sV (s.extract from' i)]) false))::(id,none)::(nx,some (.row 9 1 [sV (s.extract from' i)] false))::h,nx:=nx+2,sz:=34})/\T.get 8 a 0=sV s/\T.get 8 a 1= .lit (.int .u8 c)/\T.get 8 a 5= .row (nx+1) 1 0 (xs.length+1)/\T.get 8 a 6=iV (i+1:Nat)/\T.get 8 a 7=iV (i+1:Nat):=by
 have hi':(i:Int)<s.size:=by omega
 have b:(((s[i]'hi).toNat:Int)==c)=true:=by simpa using hc
 have hw:IntKind.i64.wrap ((i:Int)+1)=(i+1:Nat):=by rw[a2h (by omega) (by omega)];rfl
 have d:¬id=nx:=by omega
 have ha:a0M P0 (λ x=>if x=nx then some (.row 9 1 [.lit (.string (s.extract from' i))] false)else a0b h x) (nx+1) 68 68 (.row id 1 0 xs.length) (.row nx 1 0 1)=_:=b3c (s:=s.extract from' i) (by simp) (by grind) hl;simp only[P0]at ha;simp[P0,c2h,inC,a2I,a1e,a0n,Tryz.func202,Tryz.f202,g0,g1,g5,g6,g7,a3m,a2f am5,a0l am8,a2V am5,hi',a9N hi,b,hw,c6F hf (aq5 hi),c7q,sz9,zf9,a1H,ha]
theorem b7s(g0:T.get 8 e 0=sV s)(g5:T.get 8 e 5= .row id 1 0 xs.length)(g6:T.get 8 e 6=iV from')(hf:from'<=s.size)
  (hid:id<nx) (hx:a0b h id=some (.row 9 1 xs false)) (hl:xs.length<10000000):
  ∃a,a0e P0 call n d7r {env:=e,h:=h,nx:=nx,sz:=34}=some (.ret,{env:=a,h:=(nx+1,some (.row 9 1 (xs++[sV (s.extract from' s.size)]) false))::(id,none)::(nx,some (.row 9 1 [sV (s.extract from' s.size)] false))::h,nx:=nx+2,sz:=34})/\T.get 8 a 4= .row (nx+1) 1 0 (xs.length+1):=by
 have b:¬id=nx:=by omega
 have ha:a0M P0 (λ x=>if x=nx then some (.row 9 1 [.lit (.string (s.extract from' s.size))] false)else a0b h x) (nx+1) 68 68 (.row id 1 0 xs.length) (.row nx 1 0 1)=_:=b3c (s:=s.extract from' s.size) (by simp) (by grind) hl;simp only[P0]at ha;simp[P0,d7r,a1e,a0n,Tryz.func202,Tryz.f202,g0,g5,g6,d6c hf,c7q,sz9,zf9,a1H,ha]
end
end Go.PV.JS
namespace Go.SN
open Go.PV
section
variable {P:Program} {prim:Nat->Option Fp} {inl:Nat->Bool}
theorem a0Y{k:Nat}{c:SumA}{f:List V->List (List V)->Option (V×List (List V))}(hp:prim k=some f)
  (h:∀(ρ:Nat->Int) (b:List V) (bs:List (List V)),(∀d∈c.syms,d.ok ρ c.n)->a2W ρ c.n c.cs->InL (GB ρ c.n c.boxes.length) c.args b->InBs (GB ρ c.n 0) c.boxes bs->
   ∃v a,f b bs=some (v,a)/\∃p∈c.posts,∃ρ':Nat->Int,(∀i,i<c.n->ρ' i=ρ i)/\c.n<=p.n/\(∀d∈p.syms,d.ok ρ' p.n)/\a2W ρ' p.n p.cs/\InR (GB ρ' p.n 0) p.res v/\InBs (GB ρ' p.n 0) p.boxes a):
  a1p (λ N=>(Lv P prim inl N).cbv) k c:=by
 intro ρ b bs h1 h2 h3 h4;obtain⟨v,a,h5,h6⟩:=h ρ b bs h1 h2 h3 h4;refine⟨1,v,a,?_,h6⟩;grind[a0d]
end
end Go.SN
namespace Go.SN
open Go.PV
def a1N(ρ:Nat->Int)(i:Nat)(x:Int):Nat->Int:=λ j=>if j=i then x else ρ j
variable {x:Int} {i:Nat} {ρ:Nat->Int}
theorem a1i{j:Nat}(h:j<i):a1N ρ i x j=ρ j:=by grind[a1N]
theorem setρ_self :a1N ρ i x i=x:=by simp[a1N]
variable {n nb:Nat} {a:Sy} {v:V}
theorem b3R{k:IntKind}(h:In (GB ρ n nb) (.int k ⟨0,[(a,1)]⟩) v):v= .lit (.int k (ρ a.id)):=by
 cases h with
 |int h1 h2=>simp[LE.ev,tsv]at h2;rw[h2];rfl
theorem a2m(h:In (GB ρ n nb) (.str ⟨0,[(a,1)]⟩) v):∃s,v= .lit (.string s)/\(s.size:Int)=ρ a.id:=by
 cases h with
 |str h1 h2=>exact⟨_,rfl,by grind[LE.ev,tsv,GB]⟩
variable {Γ:Gm}
theorem a6S{a:AV}{b:List V}(h:InL Γ [a] b):∃v,b=[v]/\In Γ a v:=by
 match b,h with
 |[v],h=>exact⟨v,rfl,h.2 0 a v rfl rfl⟩
 |[],h=>cases h.1
 |_::_::_,h=>have:=h.1;simp at this
theorem a4e{a b:AV}{c:List V}(h:InL Γ [a,b] c):∃v w,c=[v,w]/\In Γ a v/\In Γ b w:=by
 match c,h with
 |[v,w],h=>exact⟨v,w,rfl,h.2 0 a v rfl rfl,h.2 1 b w rfl rfl⟩
 |[],h=>cases h.1
 |[_],h=>have:=h.1;simp at this
 |_::_::_::_,h=>have:=h.1;simp at this
theorem a1o{bs:List (List V)}(h:InBs Γ [] bs):bs=[]:=ay7.1 h.1.symm
theorem a0F:InBs Γ [] []:=⟨rfl,λ j a c h=>by simp at h⟩
theorem a8c{s:ByteArray}(h1:a.ok ρ n)(h2:(s.size:Int)=ρ a.id):InR (GB ρ n 0) (.pa (.ce (.av (.str ⟨0,[(a,1)]⟩)))) (.lit (.string s)):=
 .pa (.ce (.av rfl (.str (λ p hp=>by simp at hp;subst hp;exact h1) (by grind[LE.ev,tsv,GB,Gm.bare]))) (λ l h=>by cases h) λ l h=>by cases h)
def d4d(k:IntKind)(hi:Int):SumA:=⟨1,[⟨0,0,hi⟩],[.int k ⟨0,[(⟨0,0,hi⟩,1)]⟩],[],[],[⟨2,[⟨1,0,20⟩],.pa (.ce (.av (.str ⟨0,[(⟨1,0,20⟩,1)]⟩))),[],[]⟩]⟩
theorem b1w{P:Program}{prim:Nat->Option Fp}{inl:Nat->Bool}{k:Nat}{i:IntKind}{hi:Int}{f:List V->List (List V)->Option (V×List (List V))}(hp:prim k=some f)
  (h:∀n:Int,0<=n->n<=hi->∃s:ByteArray,f [.lit (.int i n)] []=some (.lit (.string s),[])/\s.size<=20):a1p (λ N=>(Lv P prim inl N).cbv) k (d4d i hi):=by
 refine a0Y hp λ ρ b bs h1 h2 h3 h4=> ?_;obtain⟨v,rfl,hv⟩:=a6S h3;have:=a1o h4;subst this;have:=b3R hv;subst this;obtain⟨_,a1,a2⟩:=h1 _ (az7.2 rfl);obtain⟨s,e1,e2⟩:=h _ a1 a2;refine⟨_,_,e1,_,az7.2 rfl,a1N ρ 1 s.size,λ j hj=>a1i hj,by simp[d4d],λ c a=> ?_,λ g hg=>by simp at hg,a8c ?_ setρ_self.symm,a0F⟩;all_goals
  first|(rw[az7.1 a])|skip
  refine⟨by simp,?_,?_⟩<;>simp[a1N]<;>omega
end Go.SN
namespace Go.SN
section
open Go.PV
section
variable {P:Program} {prim:Nat->Option Fp} {inl:Nat->Bool}
def SBn:Int:=1099511627776
variable {x:Int} {k:IntKind} {n:Nat} {ρ:Nat->Int}
theorem b6O{a:Sy}(h1:a.ok ρ n)(h2:x=ρ a.id):InR (GB ρ n 0) (.pa (.ce (.av (.int k ⟨0,[(a,1)]⟩)))) (.lit (.int k x)):=
 .pa (.ce (.av rfl (.int (λ p hp=>by simp at hp;subst hp;exact h1) (by grind[LE.ev,tsv,GB,Gm.bare]))) (λ l h=>by cases h) λ l h=>by cases h)
theorem b2I:InR (GB ρ n 0) (.pa (.ce (.av (.int k ⟨x,[]⟩)))) (.lit (.int k x)):=
 .pa (.ce (.av rfl (.int (λ p hp=>by simp at hp) (by simp[LE.ev,tsv]))) (λ l h=>by cases h) λ l h=>by cases h)
def d9E:SumA:=⟨1,[⟨0,0,SBn⟩],[.str ⟨0,[(⟨0,0,SBn⟩,1)]⟩],[],[],[⟨1,[],.pa (.ce (.av (.str ⟨0,[(⟨0,0,SBn⟩,1)]⟩))),[],[]⟩]⟩
theorem b6H{k:Nat}(hp:prim k=some a3o):a1p (λ N=>(Lv P prim inl N).cbv) k d9E:=by
 refine a0Y hp λ ρ b bs h1 h2 h3 h4=> ?_;obtain⟨v,rfl,hv⟩:=a6S h3;have:=a1o h4;subst this;obtain⟨s,rfl,hs⟩:=a2m hv;have h0:=h1 _ (az7.2 rfl);have hb:ρ 0<=SBn:=h0.2.2;have a:(s.size:Int)=ρ 0:=hs;unfold SBn at hb;have e:a3o [.lit (.string s)] []=some (vS (Go.Proofs.YtfffjfhfafhfmaaGreatDoor.lowerL s.data.toList),[]):=by
  unfold a3o;exact ax3 (by omega)
 refine⟨_,_,e,_,az7.2 rfl,ρ,λ _ _=>rfl,ay3 _,λ c h=>by simp at h,λ g hg=>by simp at hg,a8c h0 ?_,a0F⟩;grind[Go.Proofs.YtfffjfhfafhfmaaGreatDoor.lowerL_len,Go.Lib.size_eq]
def c2B(t:ByteArray):SumA:=⟨1,[⟨0,0,SBn⟩],[.str ⟨0,[(⟨0,0,SBn⟩,1)]⟩,.lit (.string t)],[],[],[⟨2,[⟨1,0,SBn⟩],.pa (.ce (.av (.str ⟨0,[(⟨1,0,SBn⟩,1)]⟩))),[],[⟨0,[(⟨0,0,SBn⟩,1),(⟨1,0,SBn⟩,(-1))]⟩]⟩]⟩
theorem a7W{k:Nat}{t:ByteArray}{f:a5o}(hp:prim k=some f)(h:∀s:ByteArray,s.size<=9223372036854775807->∃r:ByteArray,f [.lit (.string s),.lit (.string t)] []=some (.lit (.string r),[])/\r.size<=s.size):
  a1p (λ N=>(Lv P prim inl N).cbv) k (c2B t):=by
 refine a0Y hp λ ρ c bs h1 h2 h3 h4=> ?_;obtain⟨v,u,rfl,hv,hu⟩:=a4e h3;have:=a1o h4;subst this;obtain⟨s,rfl,hs⟩:=a2m hv;cases hu;have h0:=h1 _ (az7.2 rfl);have hb:ρ 0<=SBn:=h0.2.2;have a:(s.size:Int)=ρ 0:=hs;unfold SBn at hb;obtain⟨r,e1,e2⟩:=h s (by omega);have hr:(⟨1,0,SBn⟩:Sy).ok (a1N ρ 1 r.size) 2:=⟨by grind,by show(0:Int)<=r.size;omega,by show(r.size:Int)<=SBn;unfold SBn;omega⟩;have hq:(⟨0,0,SBn⟩:Sy).ok (a1N ρ 1 r.size) 2:=⟨by grind,h0.2.1,h0.2.2⟩;refine⟨_,_,e1,_,az7.2 rfl,a1N ρ 1 r.size,λ j hj=>a1i hj,by simp[c2B],λ d b=>by grind,λ g hg=> ?_,a8c hr setρ_self.symm,a0F⟩;rw[az7.1 hg];refine⟨λ p hp=> ?_,?_⟩
 .grind
 .have hA:a1N ρ 1 r.size 0=ρ 0:=rfl;have hB:a1N ρ 1 r.size 1=r.size:=rfl;grind[LE.ev,tsv]
theorem a6E(s:ByteArray)(p:UInt8->Bool):(⟨(s.data.toList.dropWhile p).toArray⟩:ByteArray).size<=s.size:=by
 grind[List.dropWhile_suffix,Go.Lib.size_eq]
theorem d3z(hp:prim 397=some a4b):a1p (λ N=>(Lv P prim inl N).cbv) 397 (c2B ⟨#[48]⟩):=
 a7W hp λ s _=>⟨_,by unfold a4b;exact ax3 (by decide),a6E s _⟩
theorem d7k(hp:prim 397=some a4b):a1p (λ N=>(Lv P prim inl N).cbv) 397 (c2B ⟨#[43,45]⟩):=
 a7W hp λ s _=>⟨_,by unfold a4b;exact ax3 (by decide),a6E s _⟩
end
end
section
open Go.PV
section
variable {P:Program} {prim:Nat->Option Fp} {inl:Nat->Bool}
def sI:Sy:=⟨0,0,4294967280⟩
def sB1:Sy:=⟨1,0,1048576⟩
def sR2:Sy:=⟨2,0,SBn⟩
def d6U:SumA:=⟨2,[sI,sB1],[.str ⟨0,[(sI,1)]⟩,.str ⟨0,[(sB1,1)]⟩],[],[],[⟨2,[],.pa (.ce (.av (.int .i64 ⟨-1,[]⟩))),[],[]⟩,⟨3,[sR2],.pa (.ce (.av (.int .i64 ⟨0,[(sR2,1)]⟩))),[],[⟨0,[(sI,1),(sB1,-1),(sR2,-1)]⟩]⟩]⟩
theorem b5y{k:Nat}(hp:prim k=some a7p):a1p (λ N=>(Lv P prim inl N).cbv) k d6U:=by
 refine a0Y hp λ ρ d bs h1 h2 h3 h4=> ?_;obtain⟨v,u,rfl,hv,hu⟩:=a4e h3;have:=a1o h4;subst this;obtain⟨s,rfl,hs⟩:=a2m hv;obtain⟨t,rfl,ht⟩:=a2m hu;have h0:=h1 sI (by simp[d6U]);have a:=h1 sB1 (by simp[d6U]);have hb:ρ 0<=4294967280:=h0.2.2;have hs:(s.size:Int)=ρ 0:=hs;have ht:(t.size:Int)=ρ 1:=ht;have e:a7p [.lit (.string s),.lit (.string t)] []=some (vI (Go.Lib.index s.data.toList t.data.toList),[]):=by
  unfold a7p;exact ax3 (by grind[shS])
 have g1:=Go.Lib.index_ge s.data.toList t.data.toList;by_cases hn:0<=Go.Lib.index s.data.toList t.data.toList
 .have g2:=Go.Lib.index_room s.data.toList t.data.toList hn;rw[<-Go.Lib.size_eq,<-Go.Lib.size_eq]at g2;generalize Go.Lib.index s.data.toList t.data.toList=x at*;have hx:sR2.ok (a1N ρ 2 x) 3:=⟨by show 2<3;omega,hn,by show x<=SBn;unfold SBn;omega⟩;have ha:sI.ok (a1N ρ 2 x) 3:=⟨by show 0<3;omega,h0.2.1,h0.2.2⟩;have hc:sB1.ok (a1N ρ 2 x) 3:=⟨by show 1<3;omega,a.2.1,a.2.2⟩;refine⟨_,_,e,_,az9 _ (az7.2 rfl),a1N ρ 2 x,λ j hj=>a1i hj,by show 2<=3;omega,λ b c=>by grind,λ g hg=> ?_,b6O hx rfl,a0F⟩;rw[az7.1 hg];refine⟨λ p hp=> ?_,?_⟩
  .grind
  .have hA:a1N ρ 2 x sI.id=ρ 0:=rfl;have hB:a1N ρ 2 x sB1.id=ρ 1:=rfl;have hC:a1N ρ 2 x sR2.id=x:=rfl;grind[LE.ev,tsv]
 .have hx:Go.Lib.index s.data.toList t.data.toList= -1:=by omega
  rw[hx]at e;exact⟨_,_,e,_,ay1 ..,ρ,λ _ _=>rfl,ay3 _,λ b h=>by simp at h,λ g hg=>by simp at hg,b2I,a0F⟩
theorem a9b(c:UInt8):∀l:List UInt8,Go.Lib.indexByte l c<l.length\/Go.Lib.indexByte l c= -1
 |[]=> .inr rfl
 |x::l=>by
  rcases a9b c l with h|h<;>grind[Go.Lib.indexByte]
theorem e0h(hp:prim 398=some a4E):a1p (λ N=>(Lv P prim inl N).cbv) 398 (c2B ⟨#[48]⟩):=
 a7W hp λ s hs=>⟨_,by unfold a4E;exact ax3 ⟨by decide,hs⟩,by
  grind[Go.Lib.trimRightB,Go.Lib.size_eq,List.dropWhile_suffix]⟩
end
end
section
open Go.PV
section
variable {P:Program} {prim:Nat->Option Fp} {inl:Nat->Bool}
def sS0:Sy:=⟨0,0,SBn⟩
def sU1:Sy:=⟨1,0,255⟩
def d9a:SumA:=⟨2,[sS0,sU1],[.str ⟨0,[(sS0,1)]⟩,.int .u8 ⟨0,[(sU1,1)]⟩],[],[],[⟨2,[],.pa (.ce (.av (.int .i64 ⟨-1,[]⟩))),[],[]⟩,⟨3,[sR2],.pa (.ce (.av (.int .i64 ⟨0,[(sR2,1)]⟩))),[],[⟨-1,[(sS0,1),(sR2,-1)]⟩]⟩]⟩
variable {k:Nat}
theorem c3C(hp:prim k=some a4H):a1p (λ N=>(Lv P prim inl N).cbv) k d9a:=by
 refine a0Y hp λ ρ c bs h1 h2 h3 h4=> ?_;obtain⟨v,u,rfl,hv,hu⟩:=a4e h3;have:=a1o h4;subst this;obtain⟨s,rfl,hs⟩:=a2m hv;have:=b3R hu;subst this;have h0:=h1 sS0 (by simp[d9a]);have hb:ρ 0<=SBn:=h0.2.2;have hs:(s.size:Int)=ρ 0:=hs;have e:a4H [.lit (.string s),.lit (.int .u8 (ρ sU1.id))] []=some (vI (Go.Lib.indexByte s.data.toList (ρ sU1.id).toNat.toUInt8),[]):=rfl;have g1:=Go.Lib.indexByte_ge s.data.toList (ρ sU1.id).toNat.toUInt8;have g2:=a9b (ρ sU1.id).toNat.toUInt8 s.data.toList;rw[<-Go.Lib.size_eq]at g2;generalize Go.Lib.indexByte s.data.toList (ρ sU1.id).toNat.toUInt8=x at*;by_cases hn:0<=x
 .have hx:sR2.ok (a1N ρ 2 x) 3:=⟨by show 2<3;omega,hn,by show x<=SBn;unfold SBn at*;omega⟩;have ha:sS0.ok (a1N ρ 2 x) 3:=⟨by show 0<3;omega,h0.2.1,h0.2.2⟩;refine⟨_,_,e,_,az9 _ (az7.2 rfl),a1N ρ 2 x,λ j hj=>a1i hj,by show 2<=3;omega,λ a b=>by grind,λ g hg=> ?_,b6O hx rfl,a0F⟩;rw[az7.1 hg];refine⟨λ p hp=> ?_,?_⟩
  .grind
  .have hA:a1N ρ 2 x sS0.id=ρ 0:=rfl;have hC:a1N ρ 2 x sR2.id=x:=rfl;grind[LE.ev,tsv]
 .have hx:x= -1:=by omega
  subst hx;exact⟨_,_,e,_,ay1 ..,ρ,λ _ _=>rfl,ay3 _,λ a h=>by simp at h,λ g hg=>by simp at hg,b2I,a0F⟩
def IsC(c:Ce)(v:V):Prop:=(c= .av (.lit (.pointer none))/\v= .lit (.pointer none))\/(c= .self/\v= .dptr [])
variable {c:Ce} {Γ:Gm} {v:V}
theorem b1Z(hc:c= .av (.lit (.pointer none))\/c= .self)(h:InC Γ c v):IsC c v:=by
 rcases hc with rfl|rfl
 .cases h with
  |av _ h=>cases h;exact .inl ⟨rfl,rfl⟩
 .cases h;exact .inr ⟨rfl,rfl⟩
theorem IsC.np(h:IsC c v):(a4Z v||a6J v)=true:=by
 rcases h with⟨_,rfl⟩|⟨_,rfl⟩<;>rfl
theorem IsC.out(h:IsC c v):InC Γ c v:=by
 rcases h with⟨rfl,rfl⟩|⟨rfl,rfl⟩
 .exact .av rfl .lit
 .exact .self
variable {a b:Ce}
theorem a9B{bs:List (List V)}(h:InBs Γ [[a,b]] bs):∃v w,bs=[[v,w]]/\InC Γ a v/\InC Γ b w:=by
 match bs,h with
 |[l],h=>
  have h1:=h.2 0 _ _ rfl rfl
  match l,h1 with
  |[v,w],h1=>exact⟨v,w,rfl,h1.2 0 a v rfl rfl,h1.2 1 b w rfl rfl⟩
  |[],h1=>cases h1.1
  |[_],h1=>have:=h1.1;simp at this
  |_::_::_::_,h1=>have:=h1.1;simp at this
 |[],h=>cases h.1
 |_::_::_,h=>have:=h.1;simp at this
theorem b2O{w:V}(h1:InC Γ a v)(h2:InC Γ b w):InBs Γ [[a,b]] [[v,w]]:=
 ⟨rfl,λ j l c hl hc=>by
  match j,hl,hc with
  |0,hl,hc=>
   cases hl;cases hc;exact⟨rfl,λ i x y hx hy=>by
    grind⟩
  |j+1,hl,hc=>simp at hl⟩
theorem b4e{b:List V}(h:InL Γ [.ptr 0 0] b)(a:Γ.ν 0=0):b=[.ptr 0 0]:=by
 obtain⟨v,rfl,hv⟩:=a6S h;cases hv;rw[a]
def d4U(c:Ce):SumA:=⟨0,[],[.ptr 0 0],[[c,.av .nils]],[],[⟨0,[],.tup [],[[.self,.av .nils]],[]⟩]⟩
theorem a6W(hc:c= .av (.lit (.pointer none))\/c= .self)(hp:prim k=some b3x):a1p (λ N=>(Lv P prim inl N).cbv) k (d4U c):=by
 refine a0Y hp λ ρ b bs h1 h2 h3 h4=> ?_;have:=b4e h3 rfl;subst this;obtain⟨v,w,rfl,hv,hw⟩:=a9B h4;have hw:w= .nils:=by
  cases hw with
  |av _ h=>cases h;rfl
 subst hw;have e:b3x [.ptr 0 0] [[v,.nils]]=some (.tup [],[[.dptr [],.nils]]):=by
  unfold b3x;exact ax3 (b1Z hc hv).np
 exact⟨_,_,e,_,az7.2 rfl,ρ,λ _ _=>rfl,ay3 _,λ d h=>by simp at h,λ g hg=>by simp at hg,.tup ⟨rfl,λ j a c h=>by simp at h⟩,b2O .self (.av rfl .nils)⟩
def d8f(c:Ce):SumA:=⟨0,[],[.ptr 0 0],[[c,.av .nils]],[],[⟨0,[],.pa (.ce (.av (.str ⟨0,[]⟩))),[[c,.av .nils]],[]⟩]⟩
theorem a8o(hc:c= .av (.lit (.pointer none))\/c= .self)(hp:prim k=some a5b):a1p (λ N=>(Lv P prim inl N).cbv) k (d8f c):=by
 refine a0Y hp λ ρ a bs h1 h2 h3 h4=> ?_;have:=b4e h3 rfl;subst this;obtain⟨v,w,rfl,hv,hw⟩:=a9B h4;have hw:w= .nils:=by
  cases hw with
  |av _ h=>cases h;rfl
 subst hw;have e:a5b [.ptr 0 0] [[v,.nils]]=some (vS [],[[v,.nils]]):=by
  unfold a5b;exact ax3 (b1Z hc hv).np
 exact⟨_,_,e,_,az7.2 rfl,ρ,λ _ _=>rfl,ay3 _,λ b h=>by simp at h,λ g hg=>by simp at hg,
  .pa (.ce (.av rfl (.str (λ p hp=>by simp at hp) rfl)) (λ l h=>by cases h) λ l h=>by cases h),b2O (b1Z hc hv).out (.av rfl .nils)⟩
end
end
section
open Go.PV
section
variable {P:Program} {prim:Nat->Option Fp} {inl:Nat->Bool}
def dB:TD:= .int .u8 0 255
def d5m(c:Ce):SumA:=⟨1,[sS0],[.ptr 0 0],[[c,.own 5 1 ⟨0,[(sS0,1)]⟩ dB]],[],[⟨1,[],.tup [],[[.self,.own 5 1 ⟨0,[(sS0,1)]⟩ dB]],[]⟩]⟩
theorem d3B{x:V}(h:InD g0 N0 dB x):∃m:Int,x= .lit (.int .u8 m)/\0<=m/\m<=255:=by
 cases h with
 |int h1 h2=>grind
theorem d7Q:∀{xs:List V},(∀x∈xs,InD g0 N0 dB x)->xs.all d0g=true:=λ {xs} h=>ay5.2 λ x hx=>by
 obtain⟨m,rfl,_⟩:=d3B (h x hx);rfl
theorem a8Z:∀{xs:List V},(∀x∈xs,InD g0 N0 dB x)->∃r,a7c xs=some r
 |[],_=>⟨[],rfl⟩
 |x::xs,h=>by
  obtain⟨r,hr⟩:=a8Z (xs:=xs) λ y hy=>h y (az9 _ hy);obtain⟨m,rfl,h1,h2⟩:=d3B (h x (ay1 ..));refine⟨UInt8.ofNat m.toNat::r,?_⟩;have hb:Go.PV.b8R (.lit (.int .u8 m))=some (UInt8.ofNat m.toNat):=by
   unfold Go.PV.b8R;exact ax3 ⟨h1,by omega⟩
  grind[a7c]
theorem c9J{Γ:Gm}{e:LE}{w:V}(h:InC Γ (.own 5 1 e dB) w):∃f xs,w= .sl (some (5,1,f)) xs/\e.ok Γ.ρ Γ.n/\(xs.length:Int)=e.ev Γ.ρ/\∀x∈xs,InD g0 N0 dB x:=by
 cases h with
 |own h1 h2 h3=>grind
variable {c:Ce} {k:Nat}
theorem b0t(hc:c= .av (.lit (.pointer none))\/c= .self)(hp:prim k=some b3x):a1p (λ N=>(Lv P prim inl N).cbv) k (d5m c):=by
 refine a0Y hp λ ρ b bs h1 h2 h3 h4=> ?_;have:=b4e h3 rfl;subst this;obtain⟨v,w,rfl,hv,hw⟩:=a9B h4;obtain⟨f,xs,rfl,o1,o2,o3⟩:=c9J hw;have e:b3x [.ptr 0 0] [[v,.sl (some (5,1,f)) xs]]=some (.tup [],[[.dptr [],.sl (some (5,1,f)) xs]]):=by
  unfold b3x;exact ax3 (by rw[(b1Z hc hv).np,d7Q o3];rfl)
 exact⟨_,_,e,_,az7.2 rfl,ρ,λ _ _=>rfl,ay3 _,λ d h=>by simp at h,λ g hg=>by simp at hg,.tup ⟨rfl,λ j a c h=>by simp at h⟩,b2O .self (.own o1 o2 o3)⟩
def d7T(c:Ce):SumA:=⟨1,[sS0],[.ptr 0 0],[[c,.own 5 1 ⟨0,[(sS0,1)]⟩ dB]],[],[⟨1,[],.pa (.ce (.av (.str ⟨0,[(sS0,1)]⟩))),[[c,.av (.dat false ⟨0,[(sS0,1)]⟩ dB)]],[]⟩]⟩
theorem b1M(hc:c= .av (.lit (.pointer none))\/c= .self)(hp:prim k=some a5b):a1p (λ N=>(Lv P prim inl N).cbv) k (d7T c):=by
 refine a0Y hp λ ρ b bs h1 h2 h3 h4=> ?_;have:=b4e h3 rfl;subst this;obtain⟨v,w,rfl,hv,hw⟩:=a9B h4;obtain⟨f,xs,rfl,o1,o2,o3⟩:=c9J hw;obtain⟨r,hr⟩:=a8Z o3;have h0:=h1 sS0 (az7.2 rfl);have e:a5b [.ptr 0 0] [[v,.sl (some (5,1,f)) xs]]=some (vS r,[[v,.sl none xs]]):=by
  unfold a5b;simp only[(b1Z hc hv).np,aw4,hr]
 obtain⟨l1,_,_⟩:=a6X hr;have a:(xs.length:Int)=ρ 0:=by simpa[LE.ev,tsv,GB,sS0]using o2
 refine⟨_,_,e,_,az7.2 rfl,ρ,λ _ _=>rfl,ay3 _,λ d h=>by simp at h,λ g hg=>by simp at hg,a8c h0 ?_,b2O (b1Z hc hv).out (.av rfl ?_)⟩
 .show((⟨r.toArray⟩:ByteArray).size:Int)=ρ 0;grind[Go.Lib.size_mk]
 .refine .dat (hi:=xs.length) (m:=xs.length) (λ p hp=>by simp at hp;subst hp;exact h0) ?_ rfl (by grind[GB,Gm.bare]);exact .sl (by simp) λ x hx=>o3 x hx
end
end
section
open Go.PV Go.Proofs.YtfffjfhfafhfmaaGreatDoor
section
variable {P:Program} {prim:Nat->Option Fp} {inl:Nat->Bool}
theorem b3q:∀(f n:Nat),(b2L f n).length<=f+1
 |0,n=>by simp[b2L]
 |f+1,n=>by
  have:=b3q f (n/10);grind[b2L]
theorem b8G:∀(f n:Nat),(c1p f n).length<=f+1
 |0,n=>by simp[c1p]
 |f+1,n=>by
  have:=b8G f (n/16);grind[c1p]
variable {k:Nat}
theorem b6z(hp:prim k=some a5w):a1p (λ N=>(Lv P prim inl N).cbv) k (d4d .u64 18446744073709551615):=
 b1w hp λ n h1 h2=>⟨⟨(fmtL n.toNat).toArray⟩,by unfold a5w;exact ax3 ⟨h1,h2⟩,by rw[Go.Lib.size_mk];exact b3q 19 _⟩
theorem c4c(hp:prim k=some (c6o fmtL)):a1p (λ N=>(Lv P prim inl N).cbv) k (d4d .i64 9223372036854775807):=
 b1w hp λ n h1 h2=>⟨⟨(fmtL n.toNat).toArray⟩,by unfold c6o;exact ax3 ⟨h1,h2⟩,by rw[Go.Lib.size_mk];exact b3q 19 _⟩
theorem c2t(hp:prim k=some (c6o hexL)):a1p (λ N=>(Lv P prim inl N).cbv) k (d4d .i64 9223372036854775807):=
 b1w hp λ n h1 h2=>⟨⟨(hexL n.toNat).toArray⟩,by unfold c6o;exact ax3 ⟨h1,h2⟩,by rw[Go.Lib.size_mk];exact av9 (b8G 15 _) (by omega)⟩
end
end
section
open Go.PV Go.Proofs.YtfffjfhfafhfmaaGreatDoor
section
variable {P:Program} {prim:Nat->Option Fp} {inl:Nat->Bool}
variable {Γ:Gm}
theorem b9H{a b:Pa}{v w:V}(h1:InP Γ a v)(h2:InP Γ b w):InR Γ (.tup [a,b]) (.tup [v,w]):=
 .tup ⟨rfl,λ j x y hx hy=>by
  grind⟩
variable {a:Sy}
theorem d2S{s:ByteArray}(h1:a.ok Γ.ρ Γ.n)(h2:(s.size:Int)=Γ.ρ a.id):InP Γ (.ce (.av (.str ⟨0,[(a,1)]⟩))) (.lit (.string s)):=
 .ce (.av rfl (.str (λ p hp=>by simp at hp;subst hp;exact h1) (by grind[LE.ev,tsv,Gm.bare]))) (λ l h=>by cases h) λ l h=>by cases h
theorem c9L:InP Γ (.ce (.av (.str ⟨0,[]⟩))) (vS []):=
 .ce (.av rfl (.str (λ p hp=>by simp at hp) rfl)) (λ l h=>by cases h) λ l h=>by cases h
variable {x:Int} {k:IntKind}
theorem c8U(h1:a.ok Γ.ρ Γ.n)(h2:x=Γ.ρ a.id):InP Γ (.ce (.av (.int k ⟨0,[(a,1)]⟩))) (.lit (.int k x)):=
 .ce (.av rfl (.int (λ p hp=>by simp at hp;subst hp;exact h1) (by grind[LE.ev,tsv,Gm.bare]))) (λ l h=>by cases h) λ l h=>by cases h
theorem b9k:InP Γ (.ce (.av (.int k ⟨x,[]⟩))) (.lit (.int k x)):=
 .ce (.av rfl (.int (λ p hp=>by simp at hp) (by simp[LE.ev,tsv]))) (λ l h=>by cases h) λ l h=>by cases h
theorem c8s(r:Nat):1<=(a7G r).length/\(a7G r).length<=4:=by
 grind[a7G]
def sE0:Sy:=⟨0,-9223372036854775808,9223372036854775807⟩
def sE1:Sy:=⟨1,0,4⟩
def sE2:Sy:=⟨1,1,40⟩
def d9W:SumA:=⟨1,[sE0],[.int .i64 ⟨0,[(sE0,1)]⟩],[],[],[⟨2,[sE1],.tup [.ce (.av (.str ⟨0,[(sE1,1)]⟩)),.ce (.av (.int .i64 ⟨0,[]⟩))],[],[⟨-1,[(sE1,1)]⟩]⟩,
 ⟨2,[sE2],.tup [.ce (.av (.str ⟨0,[]⟩)),.ce (.av (.int .i64 ⟨0,[(sE2,1)]⟩))],[],[]⟩]⟩
theorem c6d{k:Nat}(hp:prim k=some a5P):a1p (λ N=>(Lv P prim inl N).cbv) k d9W:=by
 refine a0Y hp λ ρ c bs h1 h2 h3 h4=> ?_;obtain⟨v,rfl,hv⟩:=a6S h3;have:=a1o h4;subst this;have:=b3R hv;subst this;generalize hx:ρ sE0.id=r;by_cases hr:(decide (0<=r)&&a2r r.toNat)=true
 .have e:a5P [.lit (.int .i64 r)] []=some (.tup [vS (a7G r.toNat),vI 0],[]):=by
   unfold a5P;exact ax3 hr
  obtain⟨l1,l2⟩:=c8s r.toNat
  have hq:sE1.ok (a1N ρ 1 (a7G r.toNat).length) 2:=⟨by show 1<2;omega,by show(0:Int)<=(a7G r.toNat).length;omega,by show((a7G r.toNat).length:Int)<=4;omega⟩;refine⟨_,_,e,_,ay1 ..,a1N ρ 1 (a7G r.toNat).length,λ j hj=>a1i hj,by show 1<=2;omega,λ b a=>by grind,λ g hg=> ?_,b9H (d2S hq ?_) b9k,a0F⟩
  .rw[az7.1 hg];refine⟨λ p hp=>by grind,?_⟩;have hA:a1N ρ 1 (a7G r.toNat).length sE1.id=(a7G r.toNat).length:=rfl;grind[LE.ev,tsv]
  .show((⟨(a7G r.toNat).toArray⟩:ByteArray).size:Int)=(a7G r.toNat).length;rw[Go.Lib.size_mk]
 .have e:a5P [.lit (.int .i64 r)] []=some (.tup [vS [],vI 4],[]):=by
   unfold a5P;exact ay9 hr
  have hq:sE2.ok (a1N ρ 1 4) 2:=⟨by show 1<2;omega,by show(1:Int)<=4;omega,by show(4:Int)<=40;omega⟩;exact⟨_,_,e,_,az9 _ (az7.2 rfl),a1N ρ 1 4,λ j hj=>a1i hj,by show 1<=2;omega,λ b a=>by grind,λ g hg=>by simp at hg,b9H c9L (c8U hq rfl),a0F⟩
end
end
section
open Go.PV Go.Proofs.YtfffjfhfafhfmaaGreatDoor
section
variable {P:Program} {prim:Nat->Option Fp} {inl:Nat->Bool}
theorem a9I{Γ:Gm}{a b c:Pa}{v w u:V}(h1:InP Γ a v)(h2:InP Γ b w)(h3:InP Γ c u):InR Γ (.tup [a,b,c]) (.tup [v,w,u]):=
 .tup ⟨rfl,λ j x y hx hy=>by
  grind⟩
theorem d0e{Γ:Gm}{b:Bool}:InP Γ (.ce (.av (.bool (.c b)))) (.lit (.bool b)):=
 .ce (.av rfl (.bool av5 rfl)) (λ l h=>by cases h) λ l h=>by cases h
def d6V:SumA:=⟨2,[sI,sB1],[.str ⟨0,[(sI,1)]⟩,.str ⟨0,[(sB1,1)]⟩],[],[],
 [⟨3,[sR2],.tup [.ce (.av (.str ⟨0,[(sR2,1)]⟩)),.ce (.av (.str ⟨0,[(sI,1),(sB1,-1),(sR2,-1)]⟩)),.ce (.av (.bool (.c true)))],[],[⟨0,[(sI,1),(sB1,-1),(sR2,-1)]⟩]⟩,
  ⟨2,[],.tup [.ce (.av (.str ⟨0,[(sI,1)]⟩)),.ce (.av (.str ⟨0,[]⟩)),.ce (.av (.bool (.c false)))],[],[]⟩]⟩
theorem c4P{k:Nat}(hp:prim k=some c6t):a1p (λ N=>(Lv P prim inl N).cbv) k d6V:=by
 refine a0Y hp λ ρ f bs h1 h2 h3 h4=> ?_;obtain⟨v,u,rfl,hv,hu⟩:=a4e h3;have:=a1o h4;subst this;obtain⟨s,rfl,hs⟩:=a2m hv;obtain⟨t,rfl,ht⟩:=a2m hu;have h0:=h1 sI (by simp[d6V]);have a:=h1 sB1 (by simp[d6V]);have hb:ρ 0<=4294967280:=h0.2.2;have hs:(s.size:Int)=ρ 0:=hs;have ht:(t.size:Int)=ρ 1:=ht;have e:c6t [.lit (.string s),.lit (.string t)] []=some (.tup [vS (Go.Lib.cut s.data.toList t.data.toList).1,vS (Go.Lib.cut s.data.toList t.data.toList).2.1,.lit (.bool (Go.Lib.cut s.data.toList t.data.toList).2.2)],[]):=by
  unfold c6t;exact ax3 (by grind[shS])
 have g1:=Go.Lib.index_ge s.data.toList t.data.toList;by_cases hn:0<=Go.Lib.index s.data.toList t.data.toList
 .have g2:=Go.Lib.index_room s.data.toList t.data.toList hn;have hc:Go.Lib.cut s.data.toList t.data.toList=(s.data.toList.take (Go.Lib.index s.data.toList t.data.toList).toNat,s.data.toList.drop ((Go.Lib.index s.data.toList t.data.toList).toNat+t.data.toList.length),true):=by
   unfold Go.Lib.cut;exact ax3 hn
  rw[hc]at e;generalize Go.Lib.index s.data.toList t.data.toList=x at*;have i:=Go.Lib.size_eq s;have t1:=Go.Lib.size_eq t;have hx:sR2.ok (a1N ρ 2 x) 3:=⟨by show 2<3;omega,hn,by show x<=SBn;unfold SBn;omega⟩;have ha:sI.ok (a1N ρ 2 x) 3:=⟨by show 0<3;omega,h0.2.1,h0.2.2⟩;have hq:sB1.ok (a1N ρ 2 x) 3:=⟨by show 1<3;omega,a.2.1,a.2.2⟩;have hA:a1N ρ 2 x sI.id=ρ 0:=rfl;have hB:a1N ρ 2 x sB1.id=ρ 1:=rfl;have hC:a1N ρ 2 x sR2.id=x:=rfl;have b:LE.ok (a1N ρ 2 x) 3 ⟨0,[(sI,1),(sB1,-1),(sR2,-1)]⟩:=λ p hp=>by
   grind
  refine⟨_,_,e,_,ay1 ..,a1N ρ 2 x,λ j hj=>a1i hj,by show 2<=3;omega,λ c d=>by grind,λ g hg=> ?_,a9I (d2S hx ?_) ?_ d0e,a0F⟩
  .grind[LE.ev,tsv]
  .show((⟨(s.data.toList.take x.toNat).toArray⟩:ByteArray).size:Int)=x;grind[Go.Lib.size_mk]
  .refine .ce (.av rfl (.str b ?_)) (λ l h=>by cases h) λ l h=>by cases h
   show((⟨(s.data.toList.drop (x.toNat+t.data.toList.length)).toArray⟩:ByteArray).size:Int)=LE.ev (a1N ρ 2 x) _;grind[Go.Lib.size_mk,LE.ev,tsv]
 .have hc:Go.Lib.cut s.data.toList t.data.toList=(s.data.toList,[],false):=by
   unfold Go.Lib.cut;exact ay9 hn
  rw[hc]at e;refine⟨_,_,e,_,az9 _ (az7.2 rfl),ρ,λ _ _=>rfl,ay3 _,λ c h=>by simp at h,λ g hg=>by simp at hg,a9I (d2S h0 ?_) c9L d0e,a0F⟩;show((⟨s.data.toList.toArray⟩:ByteArray).size:Int)=ρ 0;rw[Go.Lib.size_mk,<-Go.Lib.size_eq,hs]
end
end
section
open Go.PV Go.Proofs.YtfffjfhfafhfmaaGreatDoor
section
variable {P:Program} {prim:Nat->Option Fp} {inl:Nat->Bool}
theorem b8p{n:Nat}(h:a2r n=true):n<=1114111:=by
 simp_all[a2r]
theorem d0B(b:UInt8):a6D b<64:=At5 _ (by omega)
theorem c0O{l:List UInt8}{r n:Nat}(h:c0I l=some (r,n)):r<=1114111/\1<=n/\n<=4/\n<=l.length:=by
 unfold c0I at h;split at h
 .cases h
 .next a t=>
  split at h
  .grind
  .split at h
   .cases h
   .split at h
    .grind[d0B]
    .split at h
     .split at h
      .split at h
       .next hc=>
        simp only[az6]at hc;have:=b8p hc.2;grind
       .cases h
      .cases h
     .split at h
      .split at h
       .split at h
        .next hc=>
         simp only[az6]at hc;have:=b8p hc.2;grind
        .cases h
       .cases h
      .cases h
def sD1:Sy:=⟨1,-9223372036854775808,9223372036854775807⟩
def sD2:Sy:=⟨2,0,1114111⟩
def sD3:Sy:=⟨3,1,SBn⟩
def sD4:Sy:=⟨2,1,40⟩
def cDcd:SumA:=⟨2,[sS0,sD1],[.str ⟨0,[(sS0,1)]⟩,.int .i64 ⟨0,[(sD1,1)]⟩],[],[],
 [⟨4,[sD2,sD3],.tup [.ce (.av (.int .i64 ⟨0,[(sD2,1)]⟩)),.ce (.av (.int .i64 ⟨0,[(sD3,1)]⟩)),.ce (.av (.int .i64 ⟨0,[]⟩))],[],[⟨0,[(sS0,1),(sD3,-1)]⟩,⟨-1,[(sD1,-1),(sD3,1)]⟩,⟨0,[(sD1,1)]⟩,⟨4,[(sD1,1),(sD3,-1)]⟩]⟩,
  ⟨3,[sD4],.tup [.ce (.av (.int .i64 ⟨0,[]⟩)),.ce (.av (.int .i64 ⟨0,[]⟩)),.ce (.av (.int .i64 ⟨0,[(sD4,1)]⟩))],[],[]⟩]⟩
theorem c3N{k:Nat}(hp:prim k=some a4y):a1p (λ N=>(Lv P prim inl N).cbv) k cDcd:=by
 refine a0Y hp λ ρ xa bs h1 h2 h3 h4=> ?_;obtain⟨v,u,rfl,hv,hu⟩:=a4e h3;have:=a1o h4;subst this;obtain⟨s,rfl,hs⟩:=a2m hv;have:=b3R hu;subst this;have h0:=h1 sS0 (by simp[cDcd]);have h0':=h1 sD1 (by simp[cDcd]);have hb:ρ 0<=SBn:=h0.2.2;have hs:(s.size:Int)=ρ 0:=hs;have hz:s.size<=4611686018427387904:=by unfold SBn at hb;omega
 have bad:∀q:Int,1<=q->q<=40->a4y [.lit (.string s),.lit (.int .i64 (ρ sD1.id))] []=some (.tup [vI 0,vI 0,vI q],[])->∃v bs',a4y [.lit (.string s),.lit (.int .i64 (ρ sD1.id))] []=some (v,bs')/\∃p∈cDcd.posts,∃ρ':Nat->Int,(∀i,i<cDcd.n->ρ' i=ρ i)/\cDcd.n<=p.n/\(∀sy∈p.syms,sy.ok ρ' p.n)/\a2W ρ' p.n p.cs/\InR (GB ρ' p.n 0) p.res v/\InBs (GB ρ' p.n 0) p.boxes bs':=λ q q1 q2 e=>by
  have hq:sD4.ok (a1N ρ 2 q) 3:=⟨by show 2<3;omega,q1,q2⟩;exact⟨_,_,e,_,az9 _ (az7.2 rfl),a1N ρ 2 q,λ j hj=>a1i hj,by show 2<=3;omega,λ sy hsy=>by grind,λ g hg=>by simp at hg,a9I b9k b9k (c8U hq rfl),a0F⟩
 by_cases ha:0<=ρ sD1.id/\ρ sD1.id<s.size
 .cases hd:c0I (s.data.toList.drop (ρ sD1.id).toNat)with
  |none=>simp_all[a4y]
  |some p=>
   obtain⟨r,n⟩:=p;obtain⟨b1,b2,b3,b4⟩:=c0O hd;rw[as8,<-Go.Lib.size_eq]at b4;replace b4:n<=s.size-(ρ 1).toNat:=b4;have e:a4y [.lit (.string s),.lit (.int .i64 (ρ sD1.id))] []=some (.tup [vI r,vI ((ρ sD1.id).toNat+n:Nat),vI 0],[]):=by
    unfold a4y;simp only[hz,ha,aw4,an9,hd]
   let ρ':=a1N (a1N ρ 2 r) 3 ((ρ sD1.id).toNat+n:Nat);have ha':0<=ρ 1/\ρ 1<s.size:=ha;have hq2:sD2.ok ρ' 4:=⟨by show 2<4;omega,by show(0:Int)<=r;omega,by show(r:Int)<=1114111;omega⟩;have hq3:sD3.ok ρ' 4:=⟨by show 3<4;omega,by show(1:Int)<=((ρ 1).toNat+n:Nat);omega,by show(((ρ 1).toNat+n:Nat):Int)<=SBn;omega⟩;have hq0:sS0.ok ρ' 4:=⟨by show 0<4;omega,h0.2.1,h0.2.2⟩;have hq1:sD1.ok ρ' 4:=⟨by show 1<4;omega,h0'.2.1,h0'.2.2⟩;have r0:ρ' sS0.id=ρ 0:=rfl;have r1:ρ' sD1.id=ρ 1:=rfl;have r3:ρ' sD3.id=((ρ 1).toNat+n:Nat):=rfl;refine⟨_,_,e,_,ay1 ..,ρ',λ j hj=> ?_,by show 2<=4;omega,λ sy hsy=> ?_,λ g hg=> ?_,a9I (c8U hq2 rfl) (c8U hq3 rfl) b9k,a0F⟩
   .have hj:j<2:=hj;grind[a1i]
   .grind
   .simp only[ay4,av0,ar1]at hg;rcases hg with rfl|rfl|rfl|rfl;all_goals
     refine⟨λ p hp=> ?_,?_⟩
     .grind
     grind[LE.ev,tsv]
 .exact bad 4 (by omega) (by omega) (by unfold a4y;grind)
end
end
section
open Go.PV
section
variable {P:Program} {prim:Nat->Option Fp} {inl:Nat->Bool}
theorem c4o:∀{xs:List V} {hi:Int},(∀x∈xs,InD g0 N0 (.str hi) x)->∃l:List ByteArray,xs=l.map (λ s=> .lit (.string s))/\∀s∈l,(s.size:Int)<=hi
 |[],_,_=>⟨[],rfl,λ s h=>by cases h⟩
 |x::xs,hi,h=>by
  obtain⟨l,e,hl⟩:=c4o (xs:=xs) (hi:=hi) λ y hy=>h y (az9 _ hy);have h0:=h x (ay1 ..);cases h0 with
  | @str _ _ _ s hs=>exact⟨s::l,by rw[e];rfl,λ t ht=>by
    grind⟩
variable {hi:Int} {n nb:Nat} {ρ:Nat->Int} {v:V}
theorem d1g{a:Sy}(h:In (GB ρ n nb) (.dat false ⟨0,[(a,1)]⟩ (.str hi)) v):
  (v= .nils/\ρ a.id=0)\/∃l:List ByteArray,v= .sl none (l.map λ s=> .lit (.string s))/\(l.length:Int)=ρ a.id/\∀s∈l,(s.size:Int)<=hi:=by
 cases h with
 |dat h1 h2 h3 h4=>
  simp[LE.ev,tsv,GB]at h4;cases h2 with
  |nils h=>exact .inl ⟨rfl,by grind[lenOf]⟩
  |sl h5 h6=>obtain⟨l,rfl,hl⟩:=c4o h6;exact .inr ⟨l,rfl,by grind[lenOf],hl⟩
variable {l:List ByteArray}
theorem b9h{a:Sy}(h1:a.ok ρ n)(h2:(l.length:Int)=ρ a.id)(h3:∀s∈l,(s.size:Int)<=hi):
  InR (GB ρ n 0) (.pa (.ce (.av (.dat false ⟨0,[(a,1)]⟩ (.str hi))))) (.sl none ((l.map Value.string).map .lit)):=by
 refine .pa (.ce (.av rfl (.dat (hi:=l.length) (m:=l.length) (λ p hp=>by simp at hp;subst hp;exact h1) (.sl (by simp) λ x hx=> ?_) (by simp[lenOf]) (by grind[LE.ev,tsv,GB,Gm.bare]))) (λ l h=>by cases h) λ l h=>by cases h);obtain⟨y,hy,rfl⟩:=ax5.1 hx;obtain⟨s,hs,rfl⟩:=ax5.1 hy;exact .str (h3 s hs)
theorem c3O{Γ:Gm}{a b c:AV}{d:List V}(h:InL Γ [a,b,c] d):∃v w u,d=[v,w,u]/\In Γ a v/\In Γ b w/\In Γ c u:=by
 match d,h with
 |[v,w,u],h=>exact⟨v,w,u,rfl,h.2 0 a v rfl rfl,h.2 1 b w rfl rfl,h.2 2 c u rfl rfl⟩
 |[],h=>cases h.1
 |[_],h=>have:=h.1;simp at this
 |[_,_],h=>have:=h.1;simp at this
 |_::_::_::_::_,h=>have:=h.1;simp at this
theorem c4W{N:Nat}:∀{l:List ByteArray},(∀s∈l,s.size<=N)->Go.Lib.lens (l.map (·.data.toList))<=l.length*N
 |[],_=>by simp[Go.Lib.lens]
 |x::l,h=>by
  have h1:=c4W (l:=l) λ s hs=>h s (az9 _ hs);grind[ay1,Go.Lib.size_eq,Go.Lib.lens,an4]
variable {a b:Nat}
theorem d2K{N:Nat}{t:List UInt8}(h:∀s∈l,s.size<=N)(ha:l.length<=a)(hb:t.length<=b):(Go.Lib.join (l.map (·.data.toList)) t).length<=a*N+(a-1)*b:=by
 cases l with
 |nil=>simp[Go.Lib.join_nil]
 |cons x r=>have h1:=c4W h;rw[av2]at h1|-;rw[Go.Lib.join_length,ap3];have h2:(x::r).length*N<=a*N:=aw8 _ ha;have h3:t.length*r.length<=b*(a-1):=Aw5 hb (by grind);grind
def d0C(a e b h:Nat):SumA:=⟨2,[⟨0,0,a⟩,⟨1,0,b⟩],[.dat false ⟨0,[(⟨0,0,a⟩,1)]⟩ (.str e),.str ⟨0,[(⟨1,0,b⟩,1)]⟩],[],[],[⟨3,[⟨2,0,h⟩],.pa (.ce (.av (.str ⟨0,[(⟨2,0,h⟩,1)]⟩))),[],[]⟩]⟩
theorem b2E:∀l:List ByteArray,b1q (l.map λ s=> .lit (.string s))=some l
 |[]=>rfl
 |x::l=>by
  rw[av2];unfold b1q;rw[b2E l];rfl
variable {k:Nat} {h:Nat}
theorem b2n{e:Nat}(hp:prim k=some c0G)(hh:a*e+(a-1)*b<=h)(hs:h<=shM)(ha:a<=shM):a1p (λ N=>(Lv P prim inl N).cbv) k (d0C a e b h):=by
 refine a0Y hp λ ρ n bs h1 h2 h3 h4=> ?_;obtain⟨v,u,rfl,hv,hu⟩:=a4e h3;have:=a1o h4;subst this;obtain⟨t,rfl,ht⟩:=a2m hu;have h0:=h1 ⟨0,0,a⟩ (by simp[d0C]);have c:=h1 ⟨1,0,b⟩ (by simp[d0C]);have hb:ρ 0<=a:=h0.2.2;have f:ρ 1<=b:=c.2.2;have ht:(t.size:Int)=ρ 1:=ht;obtain⟨r,hr,e1⟩:∃r:List UInt8,r.length<=h/\c0G [v,.lit (.string t)] []=some (vS r,[]):=by
  rcases d1g hv with⟨rfl,_⟩|⟨l,rfl,hl,i⟩
  .exact⟨[],aw7 _,rfl⟩
  .have hl:(l.length:Int)=ρ 0:=hl;have hj:(Go.Lib.join (l.map (·.data.toList)) t.data.toList).length<=h:=av9 (d2K (λ s hs=>by grind) (by omega) (by grind[Go.Lib.size_eq])) hh;refine⟨_,hj,?_⟩;unfold c0G;simp only[b2E];grind
 have d:(⟨2,0,h⟩:Sy).ok (a1N ρ 2 r.length) 3:=⟨by grind,by show(0:Int)<=r.length;omega,by show(r.length:Int)<=h;omega⟩;exact⟨_,_,e1,_,az7.2 rfl,a1N ρ 2 r.length,λ j hj=>a1i hj,by show 2<=3;omega,λ o m=>by grind,λ g hg=>by simp at hg,a8c d (by grind[Go.Lib.size_mk,setρ_self]),a0F⟩
theorem b1t{o n:List UInt8}{M:Nat}(ho:1<=o.length)(hn:n.length<=M)(hM:1<=M):∀(k:Nat) (s:List UInt8),(Go.Lib.replaceK o n k s).length<=s.length*M
 |0,s=>by
  show s.length<=_;exact an6 _ hM
 |k+1,s=>by
  by_cases h:Go.Lib.index s o= -1
  .rw[Go.Lib.replaceK,ax3 (aw5.2 h)];exact an6 _ hM
  .have h1:=Go.Lib.index_ge s o;have h2:=Go.Lib.index_room s o (by omega);obtain⟨i,hi⟩:∃i:Nat,Go.Lib.index s o=i:=⟨_,(Int.toNat_of_nonneg (by omega)).symm⟩;rw[Go.Lib.replaceK_hit o n k s i hi];have h3:=b1t ho hn hM k (s.drop (i+o.length));rw[as8]at h3;simp only[ar0,au7];have h4:i+o.length<=s.length:=by omega
   have h5:i<=i*M:=an6 _ hM;have h6:i*M+M+(s.length-(i+o.length))*M=(i+1+(s.length-(i+o.length)))*M:=by
    rw[ar2,ar2,Nat.one_mul]
   have h7:(i+1+(s.length-(i+o.length)))*M<=s.length*M:=aw8 _ (by omega);omega
theorem b3A{s o n:List UInt8}{M:Nat}(ho:1<=o.length)(hn:n.length<=M)(hM:1<=M):(Go.Lib.replaceAll s o n).length<=s.length*M:=by
 unfold Go.Lib.replaceAll Go.Lib.replace;split
 .exact an6 _ hM
 simp_all[b1t]
def d3p(a b c h:Nat)(q:Sy->Sy->List LE):SumA:=⟨3,[⟨0,0,a⟩,⟨1,0,b⟩,⟨2,0,c⟩],[.str ⟨0,[(⟨0,0,a⟩,1)]⟩,.str ⟨0,[(⟨1,0,b⟩,1)]⟩,.str ⟨0,[(⟨2,0,c⟩,1)]⟩],[],[⟨-1,[(⟨1,0,b⟩,1)]⟩],
 [⟨4,[⟨3,0,h⟩],.pa (.ce (.av (.str ⟨0,[(⟨3,0,h⟩,1)]⟩))),[],q ⟨0,0,a⟩ ⟨3,0,h⟩⟩]⟩
theorem b0o{c:Nat}{q:Sy->Sy->List LE}(hp:prim k=some a2l)(ha:a<shS)(hc:1<=c)(hh:a*c=h)(hs:a+h<=shM)
  (hq:∀(ρ':Nat->Int),(⟨0,0,a⟩:Sy).ok ρ' 4->(⟨3,0,h⟩:Sy).ok ρ' 4->ρ' 3<=ρ' 0*c->a2W ρ' 4 (q ⟨0,0,a⟩ ⟨3,0,h⟩)):a1p (λ N=>(Lv P prim inl N).cbv) k (d3p a b c h q):=by
 refine a0Y hp λ ρ l bs h1 h2 h3 h4=> ?_;obtain⟨v,u,z,rfl,hv,hu,hz⟩:=c3O h3;have:=a1o h4;subst this;obtain⟨s,rfl,es⟩:=a2m hv;obtain⟨o,rfl,eo⟩:=a2m hu;obtain⟨n,rfl,en⟩:=a2m hz;have h0:=h1 ⟨0,0,a⟩ (by simp[d3p]);have d:=h1 ⟨2,0,c⟩ (by simp[d3p]);have hb:ρ 0<=a:=h0.2.2;have g:ρ 2<=c:=d.2.2;have es:(s.size:Int)=ρ 0:=es;have eo:(o.size:Int)=ρ 1:=eo;have en:(n.size:Int)=ρ 2:=en;have ho:1<=o.size:=by
  have:=(h2 _ (az7.2 rfl)).2;have h:(⟨1,0,b⟩:Sy).id=1:=rfl;simp only[LE.ev,tsv]at this;omega
 have hl:(Go.Lib.replaceAll s.data.toList o.data.toList n.data.toList).length<=s.size*c:=by
  rw[Go.Lib.size_eq s];exact b3A (by simp_all) (by grind[Go.Lib.size_eq]) hc
 have hm:s.size*c<=a*c:=aw8 _ (by omega);have e:a2l [.lit (.string s),.lit (.string o),.lit (.string n)] []=some (vS (Go.Lib.replaceAll s.data.toList o.data.toList n.data.toList),[]):=by
  unfold a2l;have h5:=Go.Lib.countB_le o ho s.size s (ay3 _);have h6:Go.Lib.countB s o*n.size<=s.size*c:=Aw5 h5 (by omega);exact ax3 ⟨by omega,ho,by omega⟩
 generalize Go.Lib.replaceAll s.data.toList o.data.toList n.data.toList=r at*;have hr:(⟨3,0,h⟩:Sy).ok (a1N ρ 3 r.length) 4:=⟨by grind,by show(0:Int)<=r.length;omega,by show(r.length:Int)<=h;omega⟩;have f:(⟨0,0,a⟩:Sy).ok (a1N ρ 3 r.length) 4:=⟨by grind,h0.2.1,h0.2.2⟩;refine⟨_,_,e,_,az7.2 rfl,a1N ρ 3 r.length,λ j hj=>a1i hj,by show 3<=4;omega,λ m i=>by grind,hq _ f hr ?_,a8c hr (by grind[Go.Lib.size_mk,setρ_self]),a0F⟩;show(r.length:Int)<=ρ 0*c;grind
theorem b5l{t:ByteArray}:∀(k:Nat) (s:ByteArray),∀x∈Go.Lib.splitB t 0 k s,x.size<=s.size
 |0,s,x,hx=>by simp_all[Go.Lib.splitB_zero]
 |k+1,s,x,hx=>by
  rcases Go.Lib.indexB_cases s t with hi|⟨i,hi,hr⟩
  .simp_all[Go.Lib.splitB_miss]
  .rw[Go.Lib.splitB_hit t 0 k s i hi]at hx;rcases ay4.1 hx with rfl|hx
   .rw[ao4];omega
   .have:=b5l k _ x hx;grind[ao4]
theorem b6m{s t:ByteArray}{cs:List LE}(h0:(⟨0,0,a⟩:Sy).ok ρ 2)(es:(s.size:Int)=ρ 0)(ht:1<=t.size)(ha:a<shS)(hn:n<=Go.Lib.countB s t+1)
  (hq:∀(ρ':Nat->Int),(⟨0,0,a⟩:Sy).ok ρ' 3->(⟨2,0,(a+1:Nat)⟩:Sy).ok ρ' 3->n<=ρ' 2->ρ' 2<=ρ' 0+1->a2W ρ' 3 cs):
  ∃v b,a8V [.lit (.string s),.lit (.string t)] []=some (v,b)/\∃p∈[(⟨3,[⟨2,0,(a+1:Nat)⟩],.pa (.ce (.av (.dat false ⟨0,[(⟨2,0,(a+1:Nat)⟩,1)]⟩ (.str a)))),[],cs⟩:PostA)],∃ρ':Nat->Int,(∀i,i<2->ρ' i=ρ i)/\2<=p.n/\(∀d∈p.syms,d.ok ρ' p.n)/\a2W ρ' p.n p.cs/\InR (GB ρ' p.n 0) p.res v/\InBs (GB ρ' p.n 0) p.boxes b:=by
 have hb:ρ 0<=a:=h0.2.2;have e:a8V [.lit (.string s),.lit (.string t)] []=some (.sl none (((Go.Lib.splitB t 0 (Go.Lib.countB s t) s).map Value.string).map .lit),[]):=by
  unfold a8V;exact ax3 ⟨by omega,ht⟩
 have hl:=Go.Lib.splitB_all t ht 0 _ s rfl;have hc:=Go.Lib.countB_le t ht s.size s (ay3 _);have hm:=b5l (t:=t) (Go.Lib.countB s t) s;generalize Go.Lib.splitB t 0 (Go.Lib.countB s t) s=r at*;have hr:(⟨2,0,(a+1:Nat)⟩:Sy).ok (a1N ρ 2 r.length) 3:=⟨by grind,by show(0:Int)<=r.length;omega,by show(r.length:Int)<=(a+1:Nat);omega⟩;have c:(⟨0,0,a⟩:Sy).ok (a1N ρ 2 r.length) 3:=⟨by grind,h0.2.1,h0.2.2⟩;exact⟨_,_,e,_,az7.2 rfl,a1N ρ 2 r.length,λ j hj=>a1i hj,by grind,λ d f=>by grind,
  hq _ c hr (by show(n:Int)<=r.length;omega) (by show(r.length:Int)<=ρ 0+1;omega),b9h hr setρ_self.symm λ x hx=>by grind,a0F⟩
def c9s(a b:Nat):SumA:=⟨2,[⟨0,0,a⟩,⟨1,0,b⟩],[.str ⟨0,[(⟨0,0,a⟩,1)]⟩,.str ⟨0,[(⟨1,0,b⟩,1)]⟩],[],[⟨-1,[(⟨1,0,b⟩,1)]⟩],
 [⟨3,[⟨2,0,(a+1:Nat)⟩],.pa (.ce (.av (.dat false ⟨0,[(⟨2,0,(a+1:Nat)⟩,1)]⟩ (.str a)))),[],[⟨-1,[(⟨2,0,(a+1:Nat)⟩,1)]⟩,⟨1,[(⟨0,0,a⟩,1),(⟨2,0,(a+1:Nat)⟩,-1)]⟩]⟩]⟩
theorem b1L{ρ':Nat->Int}(h0:(⟨0,0,a⟩:Sy).ok ρ' 3)(h2:(⟨2,0,(a+1:Nat)⟩:Sy).ok ρ' 3)(h3:n<=ρ' 2)(h4:ρ' 2<=ρ' 0+1):
  a2W ρ' 3 [⟨-(n:Int),[(⟨2,0,(a+1:Nat)⟩,1)]⟩,⟨1,[(⟨0,0,a⟩,1),(⟨2,0,(a+1:Nat)⟩,-1)]⟩]:=λ g hg=>by
 simp only[ay4,av0,ar1]at hg;rcases hg with rfl|rfl
 .refine⟨λ p hp=> ?_,?_⟩;all_goals grind[LE.ev,tsv]
 .refine⟨λ p hp=> ?_,?_⟩
  .grind
  grind[LE.ev,tsv]
theorem b0T(hp:prim k=some a8V)(ha:a<shS):a1p (λ N=>(Lv P prim inl N).cbv) k (c9s a b):=by
 refine a0Y hp λ ρ g bs h1 h2 h3 h4=> ?_;obtain⟨v,u,rfl,hv,hu⟩:=a4e h3;have:=a1o h4;subst this;obtain⟨s,rfl,es⟩:=a2m hv;obtain⟨t,rfl,et⟩:=a2m hu;have h0:=h1 ⟨0,0,a⟩ (by simp[c9s]);have et:(t.size:Int)=ρ 1:=et;have ht:1<=t.size:=by
  have:=(h2 _ (az7.2 rfl)).2;have h:(⟨1,0,b⟩:Sy).id=1:=rfl;simp only[LE.ev,tsv]at this;omega
 exact b6m (n:=1) h0 es ht ha (by omega) λ ρ' c d e f=>b1L c d e f
def b7l(a:Nat):SumA:=⟨2,[⟨0,0,a⟩,⟨1,0,1⟩],[.has ⟨0,[(⟨0,0,a⟩,1)]⟩,.has ⟨0,[(⟨1,0,1⟩,1)]⟩],[],[],
 [⟨3,[⟨2,0,(a+1:Nat)⟩],.pa (.ce (.av (.dat false ⟨0,[(⟨2,0,(a+1:Nat)⟩,1)]⟩ (.str a)))),[],[⟨-2,[(⟨2,0,(a+1:Nat)⟩,1)]⟩,⟨1,[(⟨0,0,a⟩,1),(⟨2,0,(a+1:Nat)⟩,-1)]⟩]⟩]⟩
theorem c2i{a:Sy}(h:In (GB ρ n nb) (.has ⟨0,[(a,1)]⟩) v):∃s,v= .lit (.string s)/\(s.size:Int)=ρ a.id/\(47:UInt8)∈s.data.toList:=by
 cases h with
 |has h1 h2 h3=>exact⟨_,rfl,by grind[LE.ev,tsv,GB],h3⟩
theorem b4U(hp:prim k=some a8V)(ha:a<shS):a1p (λ N=>(Lv P prim inl N).cbv) k (b7l a):=by
 refine a0Y hp λ ρ h bs h1 h2 h3 h4=> ?_;obtain⟨v,u,rfl,hv,hu⟩:=a4e h3;have:=a1o h4;subst this;obtain⟨s,rfl,es,ms⟩:=c2i hv;obtain⟨t,rfl,et,mt⟩:=c2i hu;have h0:=h1 ⟨0,0,a⟩ (by simp[b7l]);have b:=h1 ⟨1,0,1⟩ (by simp[b7l]);have hb:ρ 1<=1:=b.2.2;have et:(t.size:Int)=ρ 1:=et;have ht:t.size=1:=by
  have:=List.length_pos_of_mem mt;rw[<-Go.Lib.size_eq]at this;omega
 obtain⟨c,rfl⟩:=Go.Lib.one_byte t ht;have hc:(47:UInt8)=c:=by simpa using mt
 subst hc;have hn:2<=Go.Lib.countB s ⟨#[47]⟩+1:=by
  have:Go.Lib.countB s ⟨#[47]⟩=s.data.toList.count 47:=Go.Lib.count_one 47 s.data.toList;have h9:=ar7.2 ms;omega
 exact b6m (n:=2) h0 es (by omega) ha hn λ ρ' d e f g=>b1L d e f g
theorem a5S(p:Nat->Bool)(s:ByteArray):∀(f pos:Nat) (c:Option Nat) (b:List (Nat×Nat)),(Go.Lib.spansFromP p s f pos c b).1.length+(if(Go.Lib.spansFromP p s f pos c b).2.isSome then 1 else 0)<=b.length+(if c.isSome then 1 else 0)+f
 |0,pos,c,b=>ay3 _
 |f+1,pos,c,b=>by
  unfold Go.Lib.spansFromP;split
  .split
   .cases c with
    |none=>exact av9 (a5S p s f _ none b) (by omega)
    |some a=>refine av9 (a5S p s f _ none _) ?_;grind
   .cases c with
    |none=>refine av9 (a5S p s f _ (some pos) b) ?_;grind
    |some a=>exact av9 (a5S p s f _ (some a) b) (by omega)
  .grind
theorem c0R(p:Nat->Bool)(s:ByteArray):(Go.Lib.goFieldsP p s).length<=s.size:=by
 have h:=a5S p s s.size 0 none [];grind[Go.Lib.goFieldsP,Go.Lib.spansOfP,Go.Lib.closeSpans]
def cFf(a:Nat):SumA:=⟨1,[⟨0,0,a⟩],[.str ⟨0,[(⟨0,0,a⟩,1)]⟩,.fn 349 [] []],[],[],[⟨2,[⟨1,0,a⟩],.pa (.ce (.av (.dat false ⟨0,[(⟨1,0,a⟩,1)]⟩ (.str a)))),[],[⟨0,[(⟨0,0,a⟩,1),(⟨1,0,a⟩,-1)]⟩]⟩]⟩
theorem c7X(hp:prim k=some a8i)(ha:a<=4294967296):a1p (λ N=>(Lv P prim inl N).cbv) k (cFf a):=by
 refine a0Y hp λ ρ d bs h1 h2 h3 h4=> ?_;obtain⟨v,u,rfl,hv,hu⟩:=a4e h3;have:=a1o h4;subst this;obtain⟨s,rfl,es⟩:=a2m hv;have:u= .fn 349 [] []:=by
  cases hu with
  |fn e1 e2 _ _=>grind
 subst this;have h0:=h1 ⟨0,0,a⟩ (by simp[cFf]);have hb:ρ 0<=a:=h0.2.2;have es:(s.size:Int)=ρ 0:=es;have e:a8i [.lit (.string s),.fn 349 [] []] []=some (.sl none (((Go.Lib.goFieldsP a5k s).map Value.string).map .lit),[]):=by
  unfold a8i;exact ax3 (by omega)
 have hl:=c0R a5k s;have hm:∀x∈Go.Lib.goFieldsP a5k s,x.size<=s.size:=λ x hx=>by
  unfold Go.Lib.goFieldsP at hx;grind[ao4]
 generalize Go.Lib.goFieldsP a5k s=r at*;have hr:(⟨1,0,a⟩:Sy).ok (a1N ρ 1 r.length) 2:=⟨by grind,by show(0:Int)<=r.length;omega,by show(r.length:Int)<=a;omega⟩;have b:(⟨0,0,a⟩:Sy).ok (a1N ρ 1 r.length) 2:=⟨by grind,h0.2.1,h0.2.2⟩;refine⟨_,_,e,_,az7.2 rfl,a1N ρ 1 r.length,λ j hj=>a1i hj,by show 1<=2;omega,λ f c=>by grind,λ g hg=> ?_,b9h hr setρ_self.symm λ x hx=>by grind,a0F⟩;rw[az7.1 hg];refine⟨λ p hp=> ?_,?_⟩
 .grind
 .have hA:a1N ρ 1 r.length 0=ρ 0:=rfl;have hB:a1N ρ 1 r.length 1=r.length:=rfl;grind[LE.ev,tsv]
end
end
end Go.SN
namespace Go.PV.JS
section
open Go Go.PV Go.Proofs
set_option maxRecDepth 10000
theorem d7O{P:Program}{call:Calls}{n:Nat}{a b c d x y:Code}{s f e:St}{r:Option (Ex×St)}(h:a0e P call n (.seq a (.seq b (.seq c d))) s=some (.normal,f))(k:a0e P call n x f=some (.normal,e))(m:a0e P call n y e=r):a0e P call n (.seq a (.seq b (.seq c (.seq (.seq d x) y)))) s=r:=by
 simp only[a0e]at h|-;generalize a0e P call n a s=z at h|-
 match z with
 |none=>simp at h
 |some (.exit i,e)=>simp at h
 |some (.ret,e)=>simp at h
 |some (.normal,e)=>
  simp only at h|-;generalize a0e P call n b e=z at h|-
  match z with
  |none=>simp at h
  |some (.exit i,g)=>simp at h
  |some (.ret,g)=>simp at h
  |some (.normal,g)=>grind
theorem b5W{k nx id:Nat}{g:G}{ty:Nat}{xs:List V}{f:Bool}(hk:d1T k=false)(hid:id<nx)(hg:g id=some (.row ty 1 xs f))(hx:∀x∈xs,∃s:ByteArray,x=sV s/\s.size<=SB):
  a5t k g nx (.row id 1 0 xs.length)=some (.sl none xs,([id],[])):=by
 have a:(List.range nx).contains id=true:=by rw[au1];exact aq2.2 hid
 have h1:a0h g ([],List.range nx) (.row id 1 0 xs.length)=some (.sl none xs,([id],List.range nx)):=by
  unfold a0h;simp only[hg,a,aq4,ay6,and_false,av8];rw[a5E,a9n hg,b3f hx]
 simp_all[a5t,c6k,a2q,a0O]
def d9I(s:ByteArray)(c:UInt8)(i:Nat)(g:G)(nx:Nat)(out:V):Prop:=
 (out= .nils/\∃j,∃hj:j<s.size,i<=j/\s[j]'hj=c)\/∃id xs,out= .row id 1 0 xs.length/\id<nx/\g id=some (.row 9 1 xs false)/\1<=xs.length/\xs.length<=i/\∀x∈xs,∃t:ByteArray,x=sV t/\t.size<=s.size
theorem a6j{call:Calls}{n:Nat}{s:ByteArray}{c:UInt8}(hs:s.size<=1000000):∀(d:Nat) {i from' nx:Nat} {h:HP} {e:T},s.size-i=d->i<=s.size->from'<=i->
  T.get 8 e 0=sV s->T.get 8 e 1= .lit (.int .u8 (c.toNat:Int))->d9I s c i (a0b h) nx (T.get 8 e 5)->T.get 8 e 6=iV from'->T.get 8 e 7=iV i->∀m,d<m->
  ∃b w nx' f' id xs,iter (a0e P0 call n c2h) m {env:=e,h:=h,nx:=nx,sz:=34}=some (.exit 0,{env:=b,h:=w,nx:=nx',sz:=34})/\T.get 8 b 0=sV s/\T.get 8 b 5= .row id 1 0 xs.length/\T.get 8 b 6=iV (f':Nat)/\f'<=s.size/\
   id<nx'/\a0b w id=some (.row 9 1 xs false)/\1<=xs.length/\xs.length<=s.size/\∀x∈xs,∃t:ByteArray,x=sV t/\t.size<=s.size
 |d,i,from',nx,h,e,hd,hi,hf,g0,g1,g5,g6,g7,0,hm=>by omega
 |0,i,from',nx,h,e,hd,hi,hf,g0,g1,g5,g6,g7,m+1,hm=>by
  have:i=s.size:=by omega
  subst this;rcases g5 with⟨_,j,hj,r,_⟩|⟨id,xs,e5,hid,hx,l1,l2,f⟩
  .omega
  obtain⟨b,h1,h2,h3,h4⟩:=c4J (call:=call) (n:=n) (nx:=nx) (h:=h) g0 g1 e5 g6 g7 (Nat.lt_irrefl _);exact⟨b,h,nx,from',id,xs,by rw[iter,h1],h2,h3,h4,hf,hid,hx,l1,l2,f⟩
 |d+1,i,from',nx,h,e,hd,hi,hf,g0,g1,g5,g6,g7,m+1,hm=>by
  have a:i<s.size:=by omega
  by_cases hc:s[i]'a=c
  .have g:((s[i]'a).toNat:Int)=(c.toNat:Int):=by rw[hc]
   have u:(s.extract from' i).size<=s.size:=by rw[ao4];omega
   rcases g5 with⟨e5,_⟩|⟨id,xs,e5,hid,hx,l1,l2,f⟩
   .obtain⟨b,h1,k,l,o,p,q⟩:=c0p (call:=call) (n:=n) (nx:=nx) (h:=h) g0 g1 e5 g6 g7 a hs hf g;rw[iter,h1];refine a6j hs d (i:=i+1) (from':=i+1) (by omega) (by omega) (ay3 _) k l ?_ p q m (by omega);rw[o];exact .inr ⟨nx+1,[sV (s.extract from' i)],rfl,by omega,by simp[a0b],by simp,by simp,λ x hx=>⟨_,by grind,u⟩⟩
   .obtain⟨b,h1,k,l,o,p,q⟩:=c0q (call:=call) (n:=n) (nx:=nx) (h:=h) g0 g1 e5 g6 g7 a hs hf g hid hx (by omega);rw[iter,h1];refine a6j hs d (i:=i+1) (from':=i+1) (by omega) (by omega) (ay3 _) k l ?_ p q m (by omega);rw[o];refine .inr ⟨nx+1,xs++[sV (s.extract from' i)],by simp,by omega,by simp[a0b],by simp,by simp;omega,λ x hx=> ?_⟩;grind
  .have g:((s[i]'a).toNat:Int)≠(c.toNat:Int):=λ h=>hc (UInt8.toNat_inj.1 (by omega));obtain⟨b,h1,k,l,o,p,q⟩:=c1q (call:=call) (n:=n) (nx:=nx) (h:=h) g0 g1 rfl g6 g7 a hs g;rw[iter,h1];refine a6j hs d (i:=i+1) (from':=from') (by omega) (by omega) (by omega) k l ?_ p q m (by omega);rw[o];rcases g5 with⟨e5,j,hj,r,v⟩|⟨id,xs,e5,hid,hx,l1,l2,f⟩
   .refine .inl ⟨e5,j,hj,?_,v⟩;grind
   .exact .inr ⟨id,xs,e5,hid,hx,l1,by omega,f⟩
noncomputable def c4t:Code:=a2I (a0n 202)
noncomputable def c4C:Code:=a2I (a1e (a0n 202))
noncomputable def c5K:Code:=a2I (a1e (a1e (a0n 202)))
noncomputable def c4M:Code:=a2I (a2I (a1e (a1e (a1e (a0n 202)))))
theorem e0i:Tryz.f202.body=some (.seq c4t (.seq c4C (.seq c5K (.seq (.seq c4M (.block 0 (.loop c2h))) d7r)))):=by rfl
section
attribute [local simp] a1j a0e a0I a0v a0V a1h a1F opE ev evs evo a0D a2H a0u a0m St.get St.put tgp tgl a1w a0Z sc a0W a1b a4g a0E a3B a1K a6x lenOf a2u am5 am8 am6 Tryz.underlying68 a0b V.fit a5z anb a4Z bT V.cells storeAt setCells a3a a3b fill ckl ckn ckr ckm
theorem c2O{call:Calls}{n:Nat}{s:ByteArray}{c:Int}:∃e,a0e P0 call n (.seq c4t (.seq c4C (.seq c5K c4M))) {env:=a0u [sV s,.lit (.int .u8 c)] 0 .leaf,h:=[],nx:=0,sz:=34}=some (.normal,{env:=e,h:=[],nx:=0,sz:=34})/\
  T.get 8 e 0=sV s/\T.get 8 e 1= .lit (.int .u8 c)/\T.get 8 e 5= .nils/\T.get 8 e 6=iV (0:Nat)/\T.get 8 e 7=iV (0:Nat):=by
 simp_all[c4t,c4C,c5K,c4M,a0n,a2I,a1e,Tryz.f202]
end
theorem c7y{prim:Nat->Option Fp}{inl:Nat->Bool}(hp:prim 202=none){s:ByteArray}{c:UInt8}(hs:s.size<=16384)(hc:c∈s.data.toList):
  ∃xs,(a0d P0 prim inl (s.size+2)).cbv 202 [sV s,.lit (.int .u8 (c.toNat:Int))] []=some (.sl none xs,[])/\2<=xs.length/\xs.length<=s.size+1/\∀x∈xs,∃t:ByteArray,x=sV t/\t.size<=s.size:=by
 obtain⟨j,hj⟩:=List.getElem?_of_mem hc;have a:j<s.size:=by rw[Go.Lib.size_eq];exact(ay0.1 hj).1
 have m:s[j]'a=c:=by
  have:=Go.Lib.data_getElem? s j a;rw[hj]at this;exact(ax8 this).symm
 obtain⟨e,h1,g0,g1,g5,g6,g7⟩:=c2O (call:=a0d P0 prim inl (s.size+1)) (n:=s.size+1) (s:=s) (c:=(c.toNat:Int));obtain⟨o,l,nx',f',id,xs,h2,p,q,r,hf,hid,hx,l1,l2,u⟩:=a6j (call:=a0d P0 prim inl (s.size+1)) (n:=s.size+1) (c:=c) (by omega) s.size (i:=0) (from':=0) (nx:=0) (h:=[]) (by omega) (by omega) (by omega) g0 g1 (.inl ⟨g5,j,a,by omega,m⟩) g6 g7 (s.size+1) (by omega);obtain⟨e2,h3,v⟩:=b7s (call:=a0d P0 prim inl (s.size+1)) (n:=s.size+1) (nx:=nx') (h:=l) p q r hf hid hx (by omega);have d:∀x∈xs++[sV (s.extract f' s.size)],∃t:ByteArray,x=sV t/\t.size<=s.size:=λ x hx=>by
  grind[ao4]
 refine⟨xs++[sV (s.extract f' s.size)],?_,by simp;omega,by simp;omega,d⟩;have b:a1j P0 (a0d P0 prim inl (s.size+1)) (s.size+1) 202 [sV s,.lit (.int .u8 (c.toNat:Int))] [] 0=some (.row (nx'+1) 1 0 (xs.length+1),{env:=e2,h:=(nx'+1,some (.row 9 1 (xs++[sV (s.extract f' s.size)]) false))::(id,none)::(nx',some (.row 9 1 [sV (s.extract f' s.size)] false))::l,nx:=nx'+2,sz:=34}):=by
  unfold a1j;have hn:max [sV s,.lit (.int .u8 (c.toNat:Int))].length Tryz.f202.ntmps=34:=by simp[Tryz.f202]
  simp only[P0,Tryz.func202,e0i,Az0,az1,hn];rw[ay9 (by omega)];have hb:a0e P0 (a0d P0 prim inl (s.size+1)) (s.size+1) (.block 0 (.loop c2h)) {env:=e,h:=[],nx:=0,sz:=34}=some (.normal,{env:=o,h:=l,nx:=nx',sz:=34}):=by
   rw[a0e,a0e,h2];simp
  rw[d7O h1 hb h3];simp[a0m,Tryz.f202,a0D,St.get,v]
 have hr:=b5W (k:=202) (nx:=nx'+2) (id:=nx'+1) (ty:=9) (f:=false) (xs:=xs++[sV (s.extract f' s.size)]) (g:=a0b ((nx'+1,some (.row 9 1 (xs++[sV (s.extract f' s.size)]) false))::(id,none)::(nx',some (.row 9 1 [sV (s.extract f' s.size)] false))::l)) (by rfl) (by omega) (by simp[a0b]) (λ x hx=>by
  grind[SB])
 rw[ar0,ao9]at hr;exact a7m hp b hr rfl
end
end Go.PV.JS
namespace Go.SN
section
open Go Go.PV Go.PV.JS
theorem c5y{ρ:Nat->Int}{n:Nat}{a:Sy}{hi:Int}{xs:List V}(h1:a.ok ρ n)(h2:(xs.length:Int)=ρ a.id)(h3:∀x∈xs,∃t:ByteArray,x=sV t/\(t.size:Int)<=hi):
  InR (GB ρ n 0) (.pa (.ce (.av (.dat false ⟨0,[(a,1)]⟩ (.str hi))))) (.sl none xs):=by
 refine .pa (.ce (.av rfl (.dat (hi:=xs.length) (m:=xs.length) (λ p hp=>by simp at hp;subst hp;exact h1) (.sl (by simp) λ x hx=> ?_) (by simp[lenOf]) (by grind[LE.ev,tsv,GB,Gm.bare]))) (λ l h=>by cases h) λ l h=>by cases h);obtain⟨t,rfl,ht⟩:=h3 x hx;exact .str ht
def d7v:SumA:=⟨1,[⟨0,0,16384⟩],[.has ⟨0,[(⟨0,0,16384⟩,1)]⟩,.int .u8 ⟨47,[]⟩],[],[],[⟨2,[⟨1,0,16385⟩],.pa (.ce (.av (.dat false ⟨0,[(⟨1,0,16385⟩,1)]⟩ (.str 16384)))),[],[⟨-2,[(⟨1,0,16385⟩,1)]⟩,⟨1,[(⟨0,0,16384⟩,1),(⟨1,0,16385⟩,-1)]⟩]⟩]⟩
theorem d1x{ρ:Nat->Int}{n nb:Nat}{k:IntKind}{c:Int}{v:V}(h:In (GB ρ n nb) (.int k ⟨c,[]⟩) v):v= .lit (.int k c):=by
 cases h with
 |int h1 h2=>grind[LE.ev,tsv]
theorem c1S{prim:Nat->Option Fp}{inl:Nat->Bool}(hp:prim 202=none):a1p (λ N=>(Lv P0 prim inl N).cbv) 202 d7v:=by
 intro ρ d bs h1 h2 h3 h4;obtain⟨v,u,rfl,hv,hu⟩:=a4e h3;have:=a1o h4;subst this;obtain⟨s,rfl,es,ms⟩:=c2i hv;have:=d1x hu;subst this;have h0:=h1 ⟨0,0,16384⟩ (az7.2 rfl);have hb:ρ 0<=16384:=h0.2.2;have es:(s.size:Int)=ρ 0:=es;obtain⟨xs,e,l1,l2,a⟩:=c7y (inl:=inl) hp (s:=s) (c:=47) (by omega) ms;have hr:(⟨1,0,16385⟩:Sy).ok (a1N ρ 1 xs.length) 2:=⟨by grind,by show(0:Int)<=xs.length;omega,by show(xs.length:Int)<=16385;omega⟩;have hq:(⟨0,0,16384⟩:Sy).ok (a1N ρ 1 xs.length) 2:=⟨by grind,h0.2.1,h0.2.2⟩;have hA:a1N ρ 1 xs.length 0=ρ 0:=rfl;have hB:a1N ρ 1 xs.length 1=xs.length:=rfl;refine⟨_,_,_,e,_,az7.2 rfl,a1N ρ 1 xs.length,λ j hj=>a1i hj,by show 1<=2;omega,λ f b=>by grind,λ g hg=> ?_,c5y hr setρ_self.symm λ x hx=> ?_,a0F⟩
 .simp only[ay4,av0,ar1]at hg;rcases hg with rfl|rfl
  .refine⟨λ p hp=> ?_,?_⟩
   .grind
   grind[LE.ev,tsv]
  .refine⟨λ p hp=> ?_,?_⟩
   .grind
   grind[LE.ev,tsv]
 grind
end
end Go.SN
namespace Go.PV.JS
section
open Go Go.PV Go.Proofs
set_option maxRecDepth 10000
def a6G(c:Int):Bool:=c==32||c==9
theorem a1L{P:Program}{prim:Nat->Option Fp}{inl:Nat->Bool}{k:Nat}(h:inl k=false)(n:Nat):(a0d P prim inl n).inl k=none:=by cases n<;>simp[a0d,h]
noncomputable def c6L:Code:=inC (inC (a2I (a1e (a0n 319))))
noncomputable def d6q:Code:=a1e (a1e (a0n 319))
theorem d9y:Tryz.f319.body=some (.seq (a2I (a0n 319)) (.seq (.block 0 (.loop c6L)) d6q)):=by rfl
section
attribute [local simp] a1j a0e a0I a0v a0V a1h a1F opE ev evs evo a0D a2H a0u a0m St.get St.put tgp tgl a1w a0Z sc a0W a1b a4g a0E a3B a1K a6x lenOf a2u am5 am8 am6 Tryz.underlying68 a0b V.fit a5z anb a4Z bT V.cells storeAt setCells a3a a3b fill ckl ckn ckr ckm
theorem c0X(call:Calls)(n:Nat)(c:Int):∃a,a1j P0 call n 378 [.lit (.int .u8 c)] [] 0=some (bV (a6G c),a):=by
 by_cases h:c=32
 .subst h;simp[P0,Tryz.func378,Tryz.f378,a0l am8,a6G]
 .have hb:(c==32)=false:=by simpa using h
  simp[P0,Tryz.func378,Tryz.f378,a0l am8,a6G,hb]
variable {s:ByteArray} {call:Calls} {h:HP} {i n nx:Nat} {e:T}
theorem c8c(g0:T.get 8 e 0=sV s)(g1:T.get 8 e 1=iV i)(hi:¬i<s.size):
  ∃a,a0e P0 call n c6L {env:=e,h:=h,nx:=nx,sz:=18}=some (.exit 0,{env:=a,h:=h,nx:=nx,sz:=18})/\T.get 8 a 1=iV i:=by
 have hi':¬(i:Int)<s.size:=by omega
 simp[P0,c6L,inC,a2I,a1e,a0n,Tryz.func319,Tryz.f319,g0,g1,a3m,a2f am5,hi']
theorem c3G(g0:T.get 8 e 0=sV s)(g1:T.get 8 e 1=iV i)(hi:i<s.size)(ho:call.inl 378=none)(hc:call.cbv 378 [.lit (.int .u8 ((s[i]'hi).toNat:Int))] []=some (bV false,[])):
  ∃a,a0e P0 call n c6L {env:=e,h:=h,nx:=nx,sz:=18}=some (.exit 0,{env:=a,h:=h,nx:=nx,sz:=18})/\T.get 8 a 1=iV i:=by
 have hi':(i:Int)<s.size:=by omega
 have hd:∀(g:G) (nx:Nat),a1q call.cbv g nx 378 [.lit (.int .u8 ((s[i]'hi).toNat:Int))]=some {v:=bV false}:=λ g nx=>a0T (by rfl) hc (by rfl);simp[P0,c6L,inC,a2I,a1e,a0n,Tryz.func319,Tryz.f319,g0,g1,a3m,a2f am5,hi',a9N hi,ho,hd]
theorem d1p(g0:T.get 8 e 0=sV s)(g1:T.get 8 e 1=iV i)(hi:i<s.size)(hs:s.size<=10000000)(ho:call.inl 378=none)(hc:call.cbv 378 [.lit (.int .u8 ((s[i]'hi).toNat:Int))] []=some (bV true,[])):
  ∃a,a0e P0 call n c6L {env:=e,h:=h,nx:=nx,sz:=18}=some (.normal,{env:=a,h:=h,nx:=nx,sz:=18})/\T.get 8 a 0=sV s/\T.get 8 a 1=iV (i+1:Nat):=by
 have hi':(i:Int)<s.size:=by omega
 have hw:IntKind.i64.wrap ((i:Int)+1)=(i+1:Nat):=by rw[a2h (by omega) (by omega)];rfl
 have hd:∀(g:G) (nx:Nat),a1q call.cbv g nx 378 [.lit (.int .u8 ((s[i]'hi).toNat:Int))]=some {v:=bV true}:=λ g nx=>a0T (by rfl) hc (by rfl);simp[P0,c6L,inC,a2I,a1e,a0n,Tryz.func319,Tryz.f319,g0,g1,a3m,a2f am5,a2V am5,hi',a9N hi,ho,hd,hw]
theorem c2A(g1:T.get 8 e 1=iV i):∃a,a0e P0 call n d6q {env:=e,h:=h,nx:=nx,sz:=18}=some (.ret,{env:=a,h:=h,nx:=nx,sz:=18})/\T.get 8 a 4=iV i:=by
 simp_all[d6q,a1e,a0n,Tryz.f319]
theorem c7l:∃e,a0e P0 call n (a2I (a0n 319)) {env:=a0u [sV s,iV i] 0 .leaf,h:=[],nx:=0,sz:=18}=some (.normal,{env:=e,h:=[],nx:=0,sz:=18})/\T.get 8 e 0=sV s/\T.get 8 e 1=iV i:=by
 simp_all[a2I,a0n,Tryz.f319]
end
section
variable {prim:Nat->Option Fp} {inl:Nat->Bool}
theorem b3E(hp:prim 378=none)(n:Nat)(c:Int):(a0d P0 prim inl (n+1)).cbv 378 [.lit (.int .u8 c)] []=some (bV (a6G c),[]):=by
 obtain⟨a,h⟩:=c0X (a0d P0 prim inl n) n c;exact a7m hp h b3F rfl
theorem b5p(hp:prim 378=none)(hi:inl 378=false){s:ByteArray}(hs:s.size<=10000000)(n q:Nat):∀(d:Nat) {i nx:Nat} {h:HP} {e:T},s.size-i=d->i<=s.size->T.get 8 e 0=sV s->T.get 8 e 1=iV i->∀m,d<m->
  ∃b r,iter (a0e P0 (a0d P0 prim inl (n+1)) q c6L) m {env:=e,h:=h,nx:=nx,sz:=18}=some (.exit 0,{env:=b,h:=h,nx:=nx,sz:=18})/\T.get 8 b 1=iV (r:Nat)/\i<=r/\r<=s.size/\∀hr:r<s.size,a6G ((s[r]'hr).toNat:Int)=false
 |d,i,nx,h,e,hd,hi',g0,g1,0,hm=>by omega
 |d,i,nx,h,e,hd,hi',g0,g1,m+1,hm=>by
  have ho:=a1L (P:=P0) (prim:=prim) hi (n+1);by_cases a:i<s.size
  .cases hb:a6G ((s[i]'a).toNat:Int)
   .have hc:=b3E (inl:=inl) hp n ((s[i]'a).toNat:Int);rw[hb]at hc;obtain⟨b,h1,h2⟩:=c3G (n:=q) (nx:=nx) (h:=h) g0 g1 a ho hc;exact⟨b,i,by rw[iter,h1],h2,ay3 _,hi',λ _=>hb⟩
   .have hc:=b3E (inl:=inl) hp n ((s[i]'a).toNat:Int);rw[hb]at hc;obtain⟨b,h1,c,f⟩:=d1p (n:=q) (nx:=nx) (h:=h) g0 g1 a hs ho hc
    match d,hd with
    |0,hd=>omega
    |d+1,hd=>obtain⟨e2,r,g,j,k,l,o⟩:=b5p hp hi hs n q d (i:=i+1) (nx:=nx) (h:=h) (by omega) (by omega) c f m (by omega);grind[iter]
  .obtain⟨b,h1,h2⟩:=c8c (call:=a0d P0 prim inl (n+1)) (n:=q) (nx:=nx) (h:=h) g0 g1 a;exact⟨b,i,by rw[iter,h1],h2,ay3 _,hi',λ hr=>absurd hr a⟩
theorem c2D(hp:prim 378=none)(b:prim 319=none)(hi:inl 378=false){s:ByteArray}(hs:s.size<=10000000){i n:Nat}(h:i<=s.size)(hn:s.size<n):
  ∃r:Nat,(a0d P0 prim inl (n+1)).cbv 319 [sV s,iV i] []=some (iV r,[])/\i<=r/\r<=s.size/\∀hr:r<s.size,a6G ((s[r]'hr).toNat:Int)=false:=by
 obtain⟨n,rfl⟩:∃m,n=m+1:=⟨n-1,by omega⟩;obtain⟨e,h1,g0,g1⟩:=c7l (call:=a0d P0 prim inl (n+1)) (n:=n+1) (s:=s) (i:=i);obtain⟨e1,r,c,d,f,g,j⟩:=b5p hp hi hs n (n+1) (s.size-i) (i:=i) (nx:=0) (h:=[]) rfl h g0 g1 (n+1) (by omega);obtain⟨e2,h3,h4⟩:=c2A (call:=a0d P0 prim inl (n+1)) (n:=n+1) (nx:=0) (h:=[]) d;refine⟨r,?_,f,g,j⟩;have a:a1j P0 (a0d P0 prim inl (n+1)) (n+1) 319 [sV s,iV i] [] 0=some (iV r,{env:=e2,h:=[],nx:=0,sz:=18}):=by
  unfold a1j;have hn:max [sV s,iV i].length Tryz.f319.ntmps=18:=by simp[Tryz.f319]
  simp only[P0,Tryz.func319,d9y,Az0,az1,hn];rw[ay9 (by omega)];have hb:a0e P0 (a0d P0 prim inl (n+1)) (n+1) (.seq (a2I (a0n 319)) (.seq (.block 0 (.loop c6L)) d6q)) {env:=a0u [sV s,iV i] 0 .leaf,h:=[],nx:=0,sz:=18}=some (.ret,{env:=e2,h:=[],nx:=0,sz:=18}):=by
   simp only[a0e,h1,c,aw4,h3]
  rw[hb];simp[a0m,Tryz.f319,a0D,St.get,h4]
 exact a7m b a b3F rfl
end
end
section
open Go Go.PV Go.Proofs
set_option maxRecDepth 10000
noncomputable def b1z:Code:=inC (inC (a1e (a2I (a1e (a1e (a0n 381))))))
noncomputable def d5p:Code:=a2I b1z
noncomputable def d6P:Code:=a2I (inC (a2I (a1e b1z)))
noncomputable def c9h:Code:=inC (inC (a2I (a1e (inC (a2I (a1e b1z))))))
noncomputable def d3j:Code:=a1e (a1e (inC (a2I (a1e b1z))))
noncomputable def d6N:Code:=a1e (a1e b1z)
noncomputable def d6D:Code:=a1e (a1e (a1e (a0n 381)))
noncomputable def b4G:Code:=a2I (a0n 381)
noncomputable def b4O:Code:=a2I (a1e (a0n 381))
noncomputable def b8x:Code:=a2I (a2I (a1e (a1e (a0n 381))))
theorem d9n:b1z= .seq d5p (.seq (.block 1 (.seq d6P (.seq (.block 2 (.loop c9h)) d3j))) d6N):=by rfl
theorem e0a:Tryz.f381.body=some (.seq b4G (.seq b4O (.seq (.seq b8x (.block 0 (.loop b1z))) d6D))):=by rfl
section
attribute [local simp] a1j a0e a0I a0v a0V a1h a1F opE ev evs evo a0D a2H a0u a0m St.get St.put tgp tgl a1w a0Z sc a0W a1b a4g a0E a3B a1K a6x lenOf a2u am5 am8 am6 Tryz.underlying68 a0b V.fit a5z anb a4Z bT V.cells storeAt setCells a3a a3b fill ckl ckn ckr ckm
variable {call:Calls} {n nx at' i:Nat} {h:HP} {e:T} {s:ByteArray} {out:V}
theorem d7Y(g0:T.get 8 e 0=sV s)(g3:T.get 8 e 3=out)(g4:T.get 8 e 4=iV at')(hi:¬at'<s.size):∃a,a0e P0 call n d5p {env:=e,h:=h,nx:=nx,sz:=39}=some (.exit 0,{env:=a,h:=h,nx:=nx,sz:=39})/\T.get 8 a 3=out:=by
 have hi':¬(at':Int)<s.size:=by omega
 simp[P0,d5p,b1z,inC,a2I,a1e,a0n,Tryz.f381,g0,g3,g4,a3m,a2f am5,hi']
theorem d9T(g0:T.get 8 e 0=sV s)(g3:T.get 8 e 3=out)(g4:T.get 8 e 4=iV at')(hi:at'<s.size):∃a,a0e P0 call n d5p {env:=e,h:=h,nx:=nx,sz:=39}=some (.normal,{env:=a,h:=h,nx:=nx,sz:=39})/\T.get 8 a 0=sV s/\T.get 8 a 3=out/\T.get 8 a 4=iV at':=by
 simp_all[d5p,b1z,inC,a2I,a1e,a0n,Tryz.f381,a3m,a2f]
theorem w_k(g0:T.get 8 e 0=sV s)(g3:T.get 8 e 3=out)(g4:T.get 8 e 4=iV at'):∃a,a0e P0 call n d6P {env:=e,h:=h,nx:=nx,sz:=39}=some (.normal,{env:=a,h:=h,nx:=nx,sz:=39})/\T.get 8 a 0=sV s/\T.get 8 a 3=out/\T.get 8 a 4=iV at'/\T.get 8 a 5=iV at':=by
 simp_all[d6P,b1z,inC,a2I,a1e,a0n,Tryz.f381]
theorem d7E(g0:T.get 8 e 0=sV s)(g3:T.get 8 e 3=out)(g4:T.get 8 e 4=iV at')(g5:T.get 8 e 5=iV i)(hi:¬i<s.size):∃a,a0e P0 call n c9h {env:=e,h:=h,nx:=nx,sz:=39}=some (.exit 2,{env:=a,h:=h,nx:=nx,sz:=39})/\T.get 8 a 0=sV s/\T.get 8 a 3=out/\T.get 8 a 4=iV at'/\T.get 8 a 5=iV i:=by
 have hi':¬(i:Int)<s.size:=by omega
 simp[P0,c9h,b1z,inC,a2I,a1e,a0n,Tryz.f381,g0,g3,g4,g5,a3m,a2f am5,hi']
theorem d5s(g0:T.get 8 e 0=sV s)(g3:T.get 8 e 3=out)(g4:T.get 8 e 4=iV at')(g5:T.get 8 e 5=iV i)(hi:i<s.size)(ho:call.inl 378=none)(hc:call.cbv 378 [.lit (.int .u8 ((s[i]'hi).toNat:Int))] []=some (bV true,[])):∃a,a0e P0 call n c9h {env:=e,h:=h,nx:=nx,sz:=39}=some (.exit 2,{env:=a,h:=h,nx:=nx,sz:=39})/\T.get 8 a 0=sV s/\T.get 8 a 3=out/\T.get 8 a 4=iV at'/\T.get 8 a 5=iV i:=by
 have hi':(i:Int)<s.size:=by omega
 have hd:∀(g:G) (nx:Nat),a1q call.cbv g nx 378 [.lit (.int .u8 ((s[i]'hi).toNat:Int))]=some {v:=bV true}:=λ g nx=>a0T (by rfl) hc (by rfl);simp[P0,c9h,b1z,inC,a2I,a1e,a0n,Tryz.f381,g0,g3,g4,g5,a3m,a2f am5,hi',a9N hi,ho,hd,a1s]
theorem d9F(g0:T.get 8 e 0=sV s)(g3:T.get 8 e 3=out)(g4:T.get 8 e 4=iV at')(g5:T.get 8 e 5=iV i)(hi:i<s.size)(hs:s.size<=10000000)(ho:call.inl 378=none)(hc:call.cbv 378 [.lit (.int .u8 ((s[i]'hi).toNat:Int))] []=some (bV false,[])):∃a,a0e P0 call n c9h {env:=e,h:=h,nx:=nx,sz:=39}=some (.normal,{env:=a,h:=h,nx:=nx,sz:=39})/\T.get 8 a 0=sV s/\T.get 8 a 3=out/\T.get 8 a 4=iV at'/\T.get 8 a 5=iV (i+1:Nat):=by
 have hi':(i:Int)<s.size:=by omega
 have hw:IntKind.i64.wrap ((i:Int)+1)=(i+1:Nat):=by rw[a2h (by omega) (by omega)];rfl
 have hd:∀(g:G) (nx:Nat),a1q call.cbv g nx 378 [.lit (.int .u8 ((s[i]'hi).toNat:Int))]=some {v:=bV false}:=λ g nx=>a0T (by rfl) hc (by rfl);simp[P0,c9h,b1z,inC,a2I,a1e,a0n,Tryz.f381,g0,g3,g4,g5,a3m,a2f am5,a2V am5,hi',a9N hi,ho,hd,a1s,hw]
theorem d4J{t:ByteArray}(g0:T.get 8 e 0=sV s)(g3:T.get 8 e 3= .nils)(g4:T.get 8 e 4=iV at')(g5:T.get 8 e 5=iV i)(h1:at'<=i)(h2:i<=s.size)(ho:call.inl 100=none)(hc:call.cbv 100 [sV (s.extract at' i)] []=some (sV t,[])):
  ∃a,a0e P0 call n d3j {env:=e,h:=h,nx:=nx,sz:=39}=some (.normal,{env:=a,h:=(nx+1,some (.row 9 1 [sV t] false))::(nx,some (.row 9 1 [sV t] false))::h,nx:=nx+2,sz:=39})/\T.get 8 a 0=sV s/\T.get 8 a 3= .row (nx+1) 1 0 1/\T.get 8 a 4=iV i:=by
 have hd:∀(g:G) (nx:Nat),a1q call.cbv g nx 100 [sV (s.extract at' i)]=some {v:=sV t}:=λ g nx=>a0T (by rfl) hc (by rfl);have ha:a0M P0 (λ x=>if x=nx then some (.row 9 1 [.lit (.string t)] false)else a0b h x) (nx+1) 68 68 (.nils) (.row nx 1 0 1)=_:=b7O (s:=t) (by simp);simp only[P0]at ha;simp[P0,d3j,b1z,inC,a2I,a1e,a0n,Tryz.f381,g0,g3,g4,g5,c6F h1 h2,ho,hd,c7q,sz9,zf9,a1H,ha]
theorem d5M{t:ByteArray}{id:Nat}{xs:List V}(g0:T.get 8 e 0=sV s)(g3:T.get 8 e 3= .row id 1 0 xs.length)(g4:T.get 8 e 4=iV at')(g5:T.get 8 e 5=iV i)(h1:at'<=i)(h2:i<=s.size)(ho:call.inl 100=none)(hc:call.cbv 100 [sV (s.extract at' i)] []=some (sV t,[]))
  (hid:id<nx) (hx:a0b h id=some (.row 9 1 xs false)) (hl:xs.length<10000000):
  ∃a,a0e P0 call n d3j {env:=e,h:=h,nx:=nx,sz:=39}=some (.normal,{env:=a,h:=(nx+1,some (.row 9 1 (xs++[sV t]) false))::(id,none)::(nx,some (.row 9 1 [sV t] false))::h,nx:=nx+2,sz:=39})/\T.get 8 a 0=sV s/\T.get 8 a 3= .row (nx+1) 1 0 (xs.length+1)/\T.get 8 a 4=iV i:=by
 have b:¬id=nx:=by omega
 have hd:∀(g:G) (nx:Nat),a1q call.cbv g nx 100 [sV (s.extract at' i)]=some {v:=sV t}:=λ g nx=>a0T (by rfl) hc (by rfl);have ha:a0M P0 (λ x=>if x=nx then some (.row 9 1 [.lit (.string t)] false)else a0b h x) (nx+1) 68 68 (.row id 1 0 xs.length) (.row nx 1 0 1)=_:=b3c (s:=t) (by simp) (by grind) hl;simp only[P0]at ha;simp[P0,d3j,b1z,inC,a2I,a1e,a0n,Tryz.f381,g0,g3,g4,g5,c6F h1 h2,ho,hd,c7q,sz9,zf9,a1H,ha]
theorem d3M{r:Nat}(g0:T.get 8 e 0=sV s)(g3:T.get 8 e 3=out)(g4:T.get 8 e 4=iV at')(ho:call.inl 319=none)(hc:call.cbv 319 [sV s,iV at'] []=some (iV r,[])):∃a,a0e P0 call n d6N {env:=e,h:=h,nx:=nx,sz:=39}=some (.normal,{env:=a,h:=h,nx:=nx,sz:=39})/\T.get 8 a 0=sV s/\T.get 8 a 3=out/\T.get 8 a 4=iV r:=by
 have hd:∀(g:G) (nx:Nat),a1q call.cbv g nx 319 [sV s,iV at']=some {v:=iV r}:=λ g nx=>a0T (by rfl) hc (by rfl);simp_all[d6N,b1z,inC,a2I,a1e,a0n,Tryz.f381]
theorem d7e{r:Nat}(ho:call.inl 319=none)(hc:call.cbv 319 [sV s,iV (0:Nat)] []=some (iV r,[])):∃a,a0e P0 call n (.seq b4G (.seq b4O b8x)) {env:=a0u [sV s] 0 .leaf,h:=[],nx:=0,sz:=39}=some (.normal,{env:=a,h:=[],nx:=0,sz:=39})/\T.get 8 a 0=sV s/\T.get 8 a 3= .nils/\T.get 8 a 4=iV r:=by
 have hd:∀(g:G) (nx:Nat),a1q call.cbv g nx 319 [sV s,.lit (.int .i64 0)]=some {v:=iV r}:=λ g nx=>a0T (by rfl) hc (by rfl);simp_all[b4G,b4O,b8x,a2I,a1e,a0n,Tryz.f381]
theorem d4b(g3:T.get 8 e 3=out):∃a,a0e P0 call n d6D {env:=e,h:=h,nx:=nx,sz:=39}=some (.ret,{env:=a,h:=h,nx:=nx,sz:=39})/\T.get 8 a 2=out:=by
 simp_all[d6D,a1e,a0n,Tryz.f381]
end
end
section
open Go Go.PV Go.Proofs
set_option maxRecDepth 10000
variable {prim:Nat->Option Fp} {inl:Nat->Bool}
theorem c4u(hp:prim 100=some a3o)(n:Nat){t:ByteArray}(ht:t.size<=9223372036854775807):∃u:ByteArray,(a0d P0 prim inl (n+1)).cbv 100 [sV t] []=some (sV u,[])/\u.size=t.size:=by
 refine⟨⟨(Go.Proofs.YtfffjfhfafhfmaaGreatDoor.lowerL t.data.toList).toArray⟩,?_,?_⟩
 .simp only[a0d,hp];unfold a3o;exact ax3 ht
 grind[Go.Proofs.YtfffjfhfafhfmaaGreatDoor.lowerL_len,Go.Lib.size_eq]
theorem c9m(hp:prim 378=none)(hi:inl 378=false){s:ByteArray}(hs:s.size<=10000000){at':Nat}{out:V}(n q:Nat):∀(d:Nat) {i nx:Nat} {h:HP} {e:T},s.size-i=d->i<=s.size->T.get 8 e 0=sV s->T.get 8 e 3=out->T.get 8 e 4=iV at'->T.get 8 e 5=iV i->∀m,d<m->
  ∃b r,iter (a0e P0 (a0d P0 prim inl (n+1)) q c9h) m {env:=e,h:=h,nx:=nx,sz:=39}=some (.exit 2,{env:=b,h:=h,nx:=nx,sz:=39})/\T.get 8 b 0=sV s/\T.get 8 b 3=out/\T.get 8 b 4=iV at'/\T.get 8 b 5=iV (r:Nat)/\i<=r/\r<=s.size/\∀hr:i<s.size,a6G ((s[i]'hr).toNat:Int)=false->i<r
 |d,i,nx,h,e,hd,hi',g0,g3,g4,g5,0,hm=>by omega
 |d,i,nx,h,e,hd,hi',g0,g3,g4,g5,m+1,hm=>by
  have ho:=a1L (P:=P0) (prim:=prim) hi (n+1);by_cases a:i<s.size
  .have hc:=b3E (inl:=inl) hp n ((s[i]'a).toNat:Int);cases hb:a6G ((s[i]'a).toNat:Int)
   .rw[hb]at hc;obtain⟨b,h1,c,f,g,j⟩:=d9F (n:=q) (nx:=nx) (h:=h) g0 g3 g4 g5 a hs ho hc
    match d,hd with
    |0,hd=>omega
    |d+1,hd=>obtain⟨e2,r,k,l,o,p,t,u,v,_⟩:=c9m hp hi hs n q d (i:=i+1) (nx:=nx) (h:=h) (by omega) (by omega) c f g j m (by omega);grind[iter]
   .rw[hb]at hc;obtain⟨b,h1,c,f,g,j⟩:=d5s (n:=q) (nx:=nx) (h:=h) g0 g3 g4 g5 a ho hc;exact⟨b,i,by rw[iter,h1],c,f,g,j,ay3 _,hi',λ _ hf=>absurd (hb.symm.trans hf) (by decide)⟩
  .obtain⟨b,h1,c,f,g,j⟩:=d7E (call:=a0d P0 prim inl (n+1)) (n:=q) (nx:=nx) (h:=h) g0 g3 g4 g5 a;exact⟨b,i,by rw[iter,h1],c,f,g,j,ay3 _,hi',λ hr=>absurd hr a⟩
def d4f(s:ByteArray)(i:Nat)(g:G)(nx:Nat)(out:V):Prop:=
 out= .nils\/∃id xs,out= .row id 1 0 xs.length/\id<nx/\g id=some (.row 9 1 xs false)/\xs.length<=i/\∀x∈xs,∃t:ByteArray,x=sV t/\t.size<=s.size
theorem c9f(hp:prim 378=none)(g:prim 319=none)(j:prim 100=some a3o)(hi:inl 378=false)(l:inl 319=false)(o:inl 100=false){s:ByteArray}(hs:s.size<=1048576)(n:Nat)(hn:s.size<n):∀(d:Nat) {at' nx:Nat} {h:HP} {e:T},s.size-at'<=d->at'<=s.size->T.get 8 e 0=sV s->d4f s at' (a0b h) nx (T.get 8 e 3)->T.get 8 e 4=iV at'->(∀hr:at'<s.size,a6G ((s[at' ]'hr).toNat:Int)=false)->∀m,d<m->
  ∃p q nx',iter (a0e P0 (a0d P0 prim inl (n+1)) (n+1) b1z) m {env:=e,h:=h,nx:=nx,sz:=39}=some (.exit 0,{env:=p,h:=q,nx:=nx',sz:=39})/\d4f s s.size (a0b q) nx' (T.get 8 p 3)
 |d,at',nx,h,e,hd,ha,g0,g3,g4,hb,0,hm=>by omega
 |d,at',nx,h,e,hd,ha,g0,g3,g4,hb,m+1,hm=>by
  have E:=a1L (P:=P0) (prim:=prim) hi (n+1);have B:=a1L (P:=P0) (prim:=prim) l (n+1);have u:=a1L (P:=P0) (prim:=prim) o (n+1);by_cases b:at'<s.size
  .obtain⟨e1,h1,a0,a3,a4⟩:=d9T (call:=a0d P0 prim inl (n+1)) (n:=n+1) (nx:=nx) (h:=h) g0 rfl g4 b;obtain⟨e2,h2,b0,b3,b4,b5⟩:=w_k (call:=a0d P0 prim inl (n+1)) (n:=n+1) (nx:=nx) (h:=h) a0 a3 a4;obtain⟨e3,k,h3,c0,c3,c4,c5,c6,c7,c8⟩:=c9m (inl:=inl) hp hi (by omega) n (n+1) (s.size-at') (i:=at') (nx:=nx) (h:=h) rfl ha b0 b3 b4 b5 (n+1) (by omega);have hk:=c8 b (hb b);obtain⟨t,v,c⟩:=c4u (inl:=inl) j n (t:=s.extract at' k) (by rw[ao4];omega);have c:t.size<=s.size:=by rw[c,ao4];omega
   obtain⟨r,C,r1,r2,r3⟩:=c2D (inl:=inl) hp g hi (s:=s) (by omega) (i:=k) (n:=n) c7 hn;have w:∀{e4:T} {h4:HP} {a:Nat},a0e P0 (a0d P0 prim inl (n+1)) (n+1) d3j {env:=e3,h:=h,nx:=nx,sz:=39}=some (.normal,{env:=e4,h:=h4,nx:=a,sz:=39})->T.get 8 e4 0=sV s->T.get 8 e4 4=iV k->d4f s k (a0b h4) a (T.get 8 e4 3)->
     ∃p q nx',iter (a0e P0 (a0d P0 prim inl (n+1)) (n+1) b1z) (m+1) {env:=e,h:=h,nx:=nx,sz:=39}=some (.exit 0,{env:=p,h:=q,nx:=nx',sz:=39})/\d4f s s.size (a0b q) nx' (T.get 8 p 3):=by
    intro e4 h4 a y z A f;obtain⟨e5,h5,d0,d3,d4⟩:=d3M (call:=a0d P0 prim inl (n+1)) (n:=n+1) (nx:=a) (h:=h4) z rfl A B C;have hx:a0e P0 (a0d P0 prim inl (n+1)) (n+1) b1z {env:=e,h:=h,nx:=nx,sz:=39}=some (.normal,{env:=e5,h:=h4,nx:=a,sz:=39}):=by
     rw[d9n];simp only[a0e,h1,h2,h3,y,aw4,h5]
    match d,hd with
    |0,hd=>omega
    |d+1,hd=>
     have D:d4f s r (a0b h4) a (T.get 8 e5 3):=by
      rw[d3];rcases f with f|⟨id,xs,v1,F,G,v4,H⟩
      .exact .inl f
      .exact .inr ⟨id,xs,v1,F,G,by omega,H⟩
     obtain⟨e6,h6,I,K,L⟩:=c9f hp g j hi l o hs n hn d (at':=r) (nx:=a) (h:=h4) (by omega) r2 d0 D d4 r3 m (by omega);grind[iter]
   rcases g3 with g3|⟨id,xs,e5,hid,hx,l2,J⟩
   .rw[g3]at c3;obtain⟨e4,y,z,A,f⟩:=d4J (n:=n+1) (nx:=nx) (h:=h) c0 c3 c4 c5 c6 c7 u v;refine w y z f ?_;rw[A];exact .inr ⟨nx+1,[sV t],rfl,by omega,by simp[a0b],by simp;omega,λ x hx=>⟨t,by grind,c⟩⟩
   .rw[e5]at c3;obtain⟨e4,y,z,A,f⟩:=d5M (n:=n+1) (nx:=nx) (h:=h) c0 c3 c4 c5 c6 c7 u v hid hx (by omega);refine w y z f ?_;rw[A];refine .inr ⟨nx+1,xs++[sV t],by simp,by omega,by simp[a0b],by simp;omega,λ x hx=> ?_⟩;grind
  .obtain⟨e1,h1,a3⟩:=d7Y (call:=a0d P0 prim inl (n+1)) (n:=n+1) (nx:=nx) (h:=h) g0 rfl g4 b;have hx:a0e P0 (a0d P0 prim inl (n+1)) (n+1) b1z {env:=e,h:=h,nx:=nx,sz:=39}=some (.exit 0,{env:=e1,h:=h,nx:=nx,sz:=39}):=by
    rw[d9n];simp only[a0e,h1]
   grind[iter]
theorem c2k{k nx:Nat}{g:G}:a5t k g nx .nils=some (.nils,([],[])):=by
 have h1:∀s,a0h g s .nils=some (.nils,s):=λ s=>by unfold a0h;simp only;rw[a5E];rfl
 simp_all[a5t,c6k,a2q,a0O]
theorem c8T(b:prim 381=none)(hp:prim 378=none)(c:prim 319=none)(l:prim 100=some a3o)(hi:inl 378=false)(d:inl 319=false)(m:inl 100=false){s:ByteArray}(hs:s.size<=1048576):
  ∃v,(a0d P0 prim inl (s.size+3)).cbv 381 [sV s] []=some (v,[])/\(v= .nils\/∃xs,v= .sl none xs/\xs.length<=s.size/\∀x∈xs,∃t:ByteArray,x=sV t/\t.size<=s.size):=by
 obtain⟨r,o,r1,r2,r3⟩:=c2D (inl:=inl) hp c hi (s:=s) (by omega) (i:=0) (n:=s.size+1) (by omega) (by omega);obtain⟨e,h1,g0,g3,g4⟩:=d7e (call:=a0d P0 prim inl (s.size+2)) (n:=s.size+2) (a1L d _) o;obtain⟨e1,j,nx',h2,h3⟩:=c9f (inl:=inl) hp c l hi d m hs (s.size+1) (by omega) s.size (at':=r) (nx:=0) (h:=[]) (by omega) r2 g0 (.inl g3) g4 r3 (s.size+2) (by omega);obtain⟨e2,h4,h5⟩:=d4b (call:=a0d P0 prim inl (s.size+2)) (n:=s.size+2) (nx:=nx') (h:=j) (e:=e1) rfl;have a:a1j P0 (a0d P0 prim inl (s.size+2)) (s.size+2) 381 [sV s] [] 0=some (T.get 8 e1 3,{env:=e2,h:=j,nx:=nx',sz:=39}):=by
  unfold a1j;have hn:max [sV s].length Tryz.f381.ntmps=39:=by simp[Tryz.f381]
  simp only[P0,al2,e0a,Az0,az1,hn];rw[ay9 (by omega)];have hb:a0e P0 (a0d P0 prim inl (s.size+2)) (s.size+2) (.seq b4G (.seq b4O (.seq (.seq b8x (.block 0 (.loop b1z))) d6D))) {env:=a0u [sV s] 0 .leaf,h:=[],nx:=0,sz:=39}=some (.ret,{env:=e2,h:=j,nx:=nx',sz:=39}):=by
   have q:a0e P0 (a0d P0 prim inl (s.size+2)) (s.size+2) (.block 0 (.loop b1z)) {env:=e,h:=[],nx:=0,sz:=39}=some (.normal,{env:=e1,h:=j,nx:=nx',sz:=39}):=by
    simp only[a0e,h2,aw4]
   simp only[a0e]at h1|-;generalize a0e P0 (a0d P0 prim inl (s.size+2)) (s.size+2) b4G {env:=a0u [sV s] 0 .leaf,h:=[],nx:=0,sz:=39}=z at h1|-
   match z with
   |none=>simp at h1
   |some (.exit i,p)=>simp at h1
   |some (.ret,p)=>simp at h1
   |some (.normal,p)=>grind
  rw[hb];simp[a0m,Tryz.f381,a0D,St.get,h5]
 rcases h3 with h3|⟨id,xs,v1,u,w,v4,y⟩
 .rw[h3]at a;exact⟨.nils,a7m b a c2k rfl,.inl rfl⟩
 .rw[v1]at a;have hr:=b5W (k:=381) (nx:=nx') (id:=id) (ty:=9) (f:=false) (g:=a0b j) (by rfl) u w λ x hx=>by
   grind[SB]
  exact⟨.sl none xs,a7m b a hr rfl,.inr ⟨xs,rfl,v4,y⟩⟩
end
end Go.PV.JS
namespace Go.SN
section
open Go Go.PV Go.PV.JS
variable {prim:Nat->Option Fp} {inl:Nat->Bool}
theorem c8q{ρ:Nat->Int}{n:Nat}{a:Sy}{d:TD}(h1:a.ok ρ n)(h2:0=ρ a.id)(hk:a4z (.dat false ⟨0,[(a,1)]⟩ d)=true):InR (GB ρ n 0) (.pa (.ce (.av (.dat false ⟨0,[(a,1)]⟩ d)))) .nils:=
 .pa (.ce (.av hk (.dat (hi:=0) (m:=0) (λ p hp=>by simp at hp;subst hp;exact h1) (.nils (ar9 _)) rfl (by grind[LE.ev,tsv,GB,Gm.bare]))) (λ l h=>by cases h) λ l h=>by cases h)
def d4O(a:Nat):SumA:=⟨1,[⟨0,0,a⟩],[.str ⟨0,[(⟨0,0,a⟩,1)]⟩],[],[],[⟨2,[⟨1,0,a⟩],.pa (.ce (.av (.dat false ⟨0,[(⟨1,0,a⟩,1)]⟩ (.str a)))),[],[]⟩]⟩
theorem c4Q(a:prim 381=none)(hp:prim 378=none)(b:prim 319=none)(c:prim 100=some a3o)(hi:inl 378=false)(d:inl 319=false)(f:inl 100=false):a1p (λ N=>(Lv P0 prim inl N).cbv) 381 (d4O 1048576):=by
 intro ρ l bs h1 h2 h3 h4;obtain⟨v,rfl,hv⟩:=a6S h3;have:=a1o h4;subst this;obtain⟨s,rfl,es⟩:=a2m hv;have h0:=h1 ⟨0,0,1048576⟩ (az7.2 rfl);have hb:ρ 0<=1048576:=h0.2.2;have es:(s.size:Int)=ρ 0:=es;obtain⟨v,e,hv⟩:=c8T (inl:=inl) a hp b c hi d f (s:=s) (by omega);rcases hv with rfl|⟨xs,rfl,l1,i⟩
 .have hr:(⟨1,0,1048576⟩:Sy).ok (a1N ρ 1 0) 2:=⟨by grind,by show(0:Int)<=0;omega,by show(0:Int)<=1048576;omega⟩;exact⟨_,_,_,e,_,az7.2 rfl,a1N ρ 1 0,λ j hj=>a1i hj,by show 1<=2;omega,λ k h=>by grind,λ g hg=>by simp at hg,c8q hr setρ_self.symm rfl,a0F⟩
 .have hr:(⟨1,0,1048576⟩:Sy).ok (a1N ρ 1 xs.length) 2:=⟨by grind,by show(0:Int)<=xs.length;omega,by show(xs.length:Int)<=1048576;omega⟩;refine⟨_,_,_,e,_,az7.2 rfl,a1N ρ 1 xs.length,λ j hj=>a1i hj,by show 1<=2;omega,λ k h=>by grind,λ g hg=>by simp at hg,c5y hr setρ_self.symm λ x hx=> ?_,a0F⟩;grind
end
end Go.SN
namespace Go.SN
open Go Go.PV Go.PV.JS
variable {prim:Nat->Option Fp} {inl:Nat->Bool}
def c4h(v:V):Prop:=∃k p er t h,v= .tup [.agg [iV k,sV t,sV h,iV p],iV er]/\
 ((k=0/\t=⟨#[]⟩/\h=⟨#[]⟩/\p=0/\1<=er/\er<=110)\/(er=0/\1<=k/\k<=4/\1<=t.size/\t.size<=12573/\1<=h.size/\h.size<=253/\ -9223372036854775808<=p/\p<=9223372036854775807))
variable {Γ:Gm} {e:LE} {v:V}
theorem a1S{k:IntKind}(h:InC Γ (.av (.int k e)) v):v= .lit (.int k (e.ev Γ.ρ)):=by
 cases h with
 |av _ h=>cases h with
  |int h1 h2=>rw[h2];rfl
theorem a3u(h:InC Γ (.av (.str e)) v):∃s,v= .lit (.string s)/\(s.size:Int)=e.ev Γ.ρ:=by
 cases h with
 |av _ h=>cases h with
  |str h1 h2=>exact⟨_,rfl,h2⟩
theorem d5K(h:InC Γ (.av (.has e)) v):∃s,v= .lit (.string s)/\(s.size:Int)=e.ev Γ.ρ:=by
 cases h with
 |av _ h=>cases h with
  |has h1 h2=>exact⟨_,rfl,h2⟩
theorem a8y{a b c d x:Ce}(h:InR Γ (.tup [.agg [a,b,c,d],.ce x]) v):∃v0 v1 e f v4,v= .tup [.agg [v0,v1,e,f],v4]/\InC Γ a v0/\InC Γ b v1/\InC Γ c e/\InC Γ d f/\InC Γ x v4:=by
 cases h with
 | @tup _ cs h=>
   match cs,h with
   |[p,q],h=>
    have h0:=h.2 0 _ p rfl rfl;have h1:=h.2 1 _ q rfl rfl;cases h1 with
    |ce h1 _ _=>
     cases h0 with
     | @agg _ cs h0=>
       match cs,h0 with
       |[v0,v1,e,f],h0=>exact⟨v0,v1,e,f,q,rfl,h0.2 0 _ v0 rfl rfl,h0.2 1 _ v1 rfl rfl,h0.2 2 _ e rfl rfl,h0.2 3 _ f rfl rfl,h1⟩
       |[],h0=>cases h0.1
       |[_],h0=>cases h0.1
       |[_,_],h0=>cases h0.1
       |[_,_,_],h0=>cases h0.1
       |_::_::_::_::_::_,h0=>have:=h0.1;simp at this
   |[],h=>cases h.1
   |[_],h=>cases h.1
   |_::_::_::_,h=>have:=h.1;simp at this
theorem d0a{s:ByteArray}(h:(s.size:Int)=0):s=⟨#[]⟩:=by
 obtain⟨⟨l⟩⟩:=s;simp_all[ByteArray.size]
end Go.SN
namespace Go.PV.JS
open Go Go.PV Go.Proofs Go.SN
set_option maxRecDepth 10000
theorem c5a{q nx:Nat}{g:G}{k p er:Int}{t h:ByteArray}(hk:d1T q=false):a5t q g nx (.tup [.agg [iV k,sV t,sV h,iV p],iV er])=some (.tup [.agg [iV k,sV t,sV h,iV p],iV er],([],[])):=by
 have a:∀(s:List Nat×List Nat) (v:Value),a0h g s (.lit v)=some (.lit v,s):=λ s v=>by
  unfold a0h;simp only;rw[a5E];rfl
 simp_all[a5t,c6k,a2q,a0G,a0O]
variable {prim:Nat->Option Fp} {inl:Nat->Bool}
theorem c6x(hp:prim 10=none)(A:prim 27=some c6t)(B:prim 29=some a3o)(j:inl 27=false)(l:inl 29=false)(w:inl 28=true)(ir:∀f,f∈[62,63,64,65]->inl f=false)
  (hr:∀f,f∈[62,63,64,65]->∀s:ByteArray,s.size<=4096->∃N v,(a0d P0 prim inl N).cbv f [sV s] []=some (v,[])/\c4h v) (s:ByteArray):∃N v,(a0d P0 prim inl N).cbv 10 [sV s] []=some (v,[])/\c4h v:=by
 have C:∀{n:Nat} {o:St} {er:Int},1<=er->er<=110->a1j P0 (a0d P0 prim inl n) n 10 [sV s] [] 0=some (.tup [.agg Zid,iV er],o)->∃N v,(a0d P0 prim inl N).cbv 10 [sV s] []=some (v,[])/\c4h v:=λ {n o er} h1 h2 h=>⟨n+1,_,a7m hp h (c5a (by rfl)) rfl,0,0,er,_,_,rfl,.inl ⟨rfl,rfl,rfl,rfl,h1,h2⟩⟩;by_cases hs:s.size<=4096
 .obtain⟨a,b,ok,hc⟩:∃a b ok,c6t [sV s,sV ⟨#[58]⟩] []=some (.tup [sV a,sV b,bV ok],[]):=⟨_,_,_,by unfold c6t;exact ax3 (by grind[shS])⟩;have ha:a.size<=9223372036854775807:=by
   have x:s.size<shS:=by unfold shS;omega
   unfold c6t at hc;simp only[x,aw4,az0,az8,V.tup.injEq,Az2,vS,V.lit.injEq,Value.string.injEq,ao0]at hc;rw[<-hc.1,Go.Lib.size_mk];have:(Go.Lib.cut s.data.toList [58]).1.length<=s.data.toList.length:=by
    unfold Go.Lib.cut;split
    .grind
    .grind
   rw[<-Go.Lib.size_eq]at this;omega
  have c:∀n,(a0d P0 prim inl (n+1)).cbv 27 [sV s,sV ⟨#[58]⟩] []=some (.tup [sV a,sV b,bV ok],[]):=λ n=>by grind[a0d]
  obtain⟨low,z⟩:∃low,a3o [sV a] []=some (sV low,[]):=⟨_,by unfold a3o;exact ax3 ha⟩;have d:∀n,(a0d P0 prim inl (n+1)).cbv 29 [sV a] []=some (sV low,[]):=λ n=>by grind[a0d]
  have e:∀n,(a0d P0 prim inl (n+1)).inl 28=some (a1l (a0d P0 prim inl n) n 28):=λ n=>by
   simp only[a0d];rw[ax3 w];rfl
  have ks:∀q∈a4A,∃s,q.1=sV s:=λ q hq=>by
   grind
  obtain⟨r,hf,u⟩:=a6Y ks low;have m:∀n,∃g,a1l (a0d P0 prim inl n) n 28 [] [(0,some (.var Zid))] 1=some (.map 1,g,2)/\a0b g 1=some (.map a4A)/\a0b g 0=some (.var Zid):=λ n=>by
   obtain⟨g,h1,h2,h3⟩:=c8J (a0d P0 prim inl n) n 1 [(0,some (.var Zid))];exact⟨g,h1,h2,by rw[h3 0 (by omega)];rfl⟩
  cases ok with
  |false=>obtain⟨g,k1,k2,k3⟩:=m 0;obtain⟨o,h⟩:=c7k (n:=1) hs (a1L j _) (c 0) (a1L l _) (d 0) (e 0) k1 k2 k3 (hf false) (λ i h=>u i h);grind
  |true=>
   cases r with
   |none=>obtain⟨g,k1,k2,k3⟩:=m 0;obtain⟨o,h⟩:=c0y (n:=1) hs (a1L j _) (c 0) (a1L l _) (d 0) (e 0) k1 k2 k3 (hf false);grind
   |some i=>
    have hi:i<4:=u i rfl;have hl:∃k0 f,a4A[i]?=some (k0,.fn f [] [])/\f∈[62,63,64,65]:=by
     match i,hi with
     |0,_=>grind
     |1,_=>grind
     |2,_=>grind
     |3,_=>exact⟨_,65,rfl,by simp⟩
    obtain⟨k0,f,hl,hm⟩:=hl;obtain⟨N,v,c1,hv⟩:=hr f hm s hs;have y:=hv;obtain⟨k,p,er,t,h,rfl,_⟩:=y;have c2:(a0d P0 prim inl (N+1)).cbv f [sV s] []=_:=(a0L (P:=P0) (prim:=prim) (inl:=inl) (at3 N)).cbv _ _ _ _ c1;obtain⟨g,k1,k2,k3⟩:=m N;obtain⟨o,hb⟩:=c0n (n:=N+1) hs (a1L j _) (c N) (a1L l _) (d N) (e N) k1 k2 k3 (hf false) hl (a1L (ir f hm) _) c2;exact⟨N+1+1,_,a7m hp hb (c5a (by rfl)) rfl,hv⟩
 .obtain⟨o,h⟩:=c3B (a0d P0 prim inl 0) 0 (s:=s) (by omega);grind
end Go.PV.JS
namespace Go.SN
section
open Go Go.PV Go.PV.JS
theorem c9H{Γ:Gm}{a b c d x:Ce}{v0 v1 e f:V}{w:Value}(h0:InC Γ a v0)(h1:InC Γ b v1)(h2:InC Γ c e)(h3:InC Γ d f)(h4:InC Γ x (.lit w)):InR Γ (.tup [.agg [a,b,c,d],.ce x]) (.tup [.agg [v0,v1,e,f],.lit w]):=
 .tup ⟨rfl,λ j p v hp hv=>by
  match j,hp,hv with
  |0,hp,hv=>
   cases hp;cases hv;exact .agg ⟨rfl,λ j p v hp hv=>by
    match j,hp,hv with
    |0,hp,hv=>grind
    |1,hp,hv=>grind
    |2,hp,hv=>grind
    |3,hp,hv=>grind
    |j+4,hp,hv=>simp at hp⟩
  |1,hp,hv=>cases hp;cases hv;exact .ce h4 (λ l h=>by cases h) λ l h=>by cases h
  |j+2,hp,hv=>simp at hp⟩
section
variable {ρ:Nat->Int} {n:Nat} {r:Sy}
variable {x:Int} {k:IntKind}
theorem c0K(h1:r.ok ρ n)(h2:x=ρ r.id):InC (GB ρ n 0) (.av (.int k ⟨0,[(r,1)]⟩)) (.lit (.int k x)):= .av rfl (.int (λ p hp=>by simp at hp;subst hp;exact h1) (by grind[LE.ev,tsv,GB,Gm.bare]))
theorem c3h:InC (GB ρ n 0) (.av (.int k ⟨x,[]⟩)) (.lit (.int k x)):= .av rfl (.int (λ p hp=>by simp at hp) (by simp[LE.ev,tsv]))
theorem d2v{s:ByteArray}(h1:r.ok ρ n)(h2:(s.size:Int)=ρ r.id):InC (GB ρ n 0) (.av (.str ⟨0,[(r,1)]⟩)) (.lit (.string s)):= .av rfl (.str (λ p hp=>by simp at hp;subst hp;exact h1) (by grind[LE.ev,tsv,GB,Gm.bare]))
theorem d0j:InC (GB ρ n 0) (.av (.str ⟨0,[]⟩)) (.lit (.string ⟨#[]⟩)):= .av rfl (.str (λ p hp=>by simp at hp) (by simp[LE.ev,tsv];rfl))
end
def iS(i:Nat)(lo hi:Int):Sy:=⟨i,lo,hi⟩
def cId:SumA:=⟨1,[⟨0,0,SBn⟩],[.str ⟨0,[(⟨0,0,SBn⟩,1)]⟩],[],[],
 [⟨2,[⟨1,1,110⟩],.tup [.agg [.av (.int .i64 ⟨0,[]⟩),.av (.str ⟨0,[]⟩),.av (.str ⟨0,[]⟩),.av (.int .i64 ⟨0,[]⟩)],.ce (.av (.int .i64 ⟨0,[(⟨1,1,110⟩,1)]⟩))],[],[]⟩,
  ⟨5,[⟨1,1,4⟩,⟨2,0,12573⟩,⟨3,0,253⟩,⟨4,-9223372036854775808,9223372036854775807⟩],.tup [.agg [.av (.int .i64 ⟨0,[(⟨1,1,4⟩,1)]⟩),.av (.str ⟨0,[(⟨2,0,12573⟩,1)]⟩),.av (.str ⟨0,[(⟨3,0,253⟩,1)]⟩),.av (.int .i64 ⟨0,[(⟨4,-9223372036854775808,9223372036854775807⟩,1)]⟩)],.ce (.av (.int .i64 ⟨0,[]⟩))],[],[⟨-1,[(⟨2,0,12573⟩,1)]⟩,⟨-1,[(⟨3,0,253⟩,1)]⟩]⟩]⟩
theorem c7S{call:Nat->a7F}{k:Nat}(h:∀s:ByteArray,∃N v,call N k [sV s] []=some (v,[])/\c4h v):a1p call k cId:=by
 intro ρ m bs h1 h2 h3 h4;obtain⟨v,rfl,hv⟩:=a6S h3;have:=a1o h4;subst this;obtain⟨s,rfl,es⟩:=a2m hv;obtain⟨N,v,e,k,p,er,t,hh,rfl,hv⟩:=h s;rcases hv with⟨rfl,rfl,rfl,rfl,e1,e2⟩|⟨rfl,k1,k2,t1,t2,o,q,b,c⟩
 .have hr:(⟨1,1,110⟩:Sy).ok (a1N ρ 1 er) 2:=⟨by grind,e1,e2⟩;exact⟨_,_,_,e,_,ay1 ..,a1N ρ 1 er,λ j hj=>a1i hj,by show 1<=2;omega,λ r a=>by grind,λ g hg=>by simp at hg,c9H c3h d0j d0j c3h (c0K hr setρ_self.symm),a0F⟩
 .let ρ':=a1N (a1N (a1N (a1N ρ 1 k) 2 t.size) 3 hh.size) 4 p;have d:(⟨1,1,4⟩:Sy).ok ρ' 5:=⟨by grind,k1,k2⟩;have f:(⟨2,0,12573⟩:Sy).ok ρ' 5:=⟨by grind,by show(0:Int)<=t.size;omega,by show(t.size:Int)<=12573;omega⟩;have i:(⟨3,0,253⟩:Sy).ok ρ' 5:=⟨by grind,by show(0:Int)<=hh.size;omega,by show(hh.size:Int)<=253;omega⟩;have l:(⟨4,-9223372036854775808,9223372036854775807⟩:Sy).ok ρ' 5:=⟨by grind,b,c⟩;refine⟨_,_,_,e,_,az9 _ (az7.2 rfl),ρ',λ j hj=> ?_,by show 1<=5;omega,λ r a=> ?_,λ g hg=> ?_,c9H (c0K d rfl) (d2v f rfl) (d2v i rfl) (c0K l rfl) c3h,a0F⟩
  .have hj:j<1:=hj;grind[a1i]
  .grind
  .simp only[ay4,av0,ar1]at hg;have r2:ρ' 2=t.size:=rfl;have r3:ρ' 3=hh.size:=rfl;rcases hg with rfl|rfl
   .exact⟨λ p hp=>by grind,by grind[LE.ev,tsv]⟩
   .exact⟨λ p hp=>by grind,by grind[LE.ev,tsv]⟩
end
section
open Go Go.PV Go.PV.JS
theorem c7U{call:Nat->a7F}{k:Nat}{c:SumA}{S:Int}(h:a1p call k c)(hn:c.n=1)(hs:c.syms=[⟨0,0,S⟩])(ha:c.args=[.str ⟨0,[(⟨0,0,S⟩,1)]⟩])(hb:c.boxes=[])(hc:c.cs=[])(hS:4096<=S)
  (hp:∀p∈c.posts,p.boxes=[]/\∀(ρ':Nat->Int) v,(∀b∈p.syms,b.ok ρ' p.n)->a2W ρ' p.n p.cs->InR (GB ρ' p.n 0) p.res v->c4h v) (s:ByteArray) (d:s.size<=4096):∃N v,call N k [sV s] []=some (v,[])/\c4h v:=by
 have h0:(⟨0,0,S⟩:Sy).ok (λ _=>(s.size:Int)) 1:=⟨by grind,by grind,by grind⟩;obtain⟨N,v,bs,e,p,f,ρ',i,l,m,n,o,q⟩:=h (λ _=>(s.size:Int)) [sV s] [] (by grind) (by rw[hc];intro g hg;cases hg)
  (by rw[ha,hb,hn];exact⟨rfl,λ j a c hj hc=>by
   match j,hj,hc with
   |0,hj,hc=>cases hj;cases hc;exact .str (λ p hp=>by simp at hp;subst hp;exact h0) (by simp[LE.ev,tsv,GB])
   |j+1,hj,hc=>simp at hj⟩) (by grind[a0F])
 grind[a1o]
variable {i n:Nat} {ρ:Nat->Int}
theorem a5I{l:List LE}(h:a2W ρ n l){g:LE}(hg:l[i]?=some g):0<=g.ev ρ:=(h g (ax4 hg)).2
theorem a3P{l:List Sy}(h:∀a∈l,a.ok ρ n){y:Sy}(hg:l[i]?=some y):y.lo<=ρ y.id/\ρ y.id<=y.hi:=(h y (ax4 hg)).2
section
variable {call:Nat->a7F}
theorem e0f(h:a1p call 62 r261.c):∀s:ByteArray,s.size<=4096->∃N v,call N 62 [sV s] []=some (v,[])/\c4h v:=by
 refine c7U h rfl rfl rfl rfl rfl (by decide) (au6.2 ⟨⟨rfl,λ ρ v hs hc hr=> ?_⟩,au6.2 ⟨⟨rfl,λ ρ v hs hc hr=> ?_⟩,λ p h=>by cases h⟩⟩)
 .obtain⟨v0,v1,a,c,v4,rfl,h0,h1,h2,h3,h4⟩:=a8y hr;have e0:=a1S h0;obtain⟨t,rfl,ht⟩:=a3u h1;obtain⟨u,rfl,hu⟩:=a3u h2;have e3:=a1S h3;have e4:=a1S h4;subst e0 e3 e4;have b:(3:Int)<=ρ 1/\ρ 1<=80:=a3P hs (i:=0) rfl;refine⟨_,_,_,_,_,rfl,.inl ⟨rfl,d0a ht,d0a hu,rfl,?_,?_⟩⟩
  .show(1:Int)<=0+(1*ρ 1+0);omega
  .show 0+(1*ρ 1+0)<=(110:Int);omega
 .obtain⟨v0,v1,a,c,v4,rfl,h0,h1,h2,h3,h4⟩:=a8y hr;have e0:=a1S h0;obtain⟨t,rfl,ht⟩:=a3u h1;obtain⟨u,rfl,hu⟩:=a3u h2;have e3:=a1S h3;have e4:=a1S h4;subst e0 e3 e4;have b1:(0:Int)<=ρ 1/\ρ 1<=4349:=a3P hs (i:=0) rfl;have b2:(0:Int)<=ρ 2/\ρ 2<=253:=a3P hs (i:=1) rfl;have f1:(0:Int)<= -1+(1*ρ 2+0):=a5I hc (i:=7) rfl;have f2:(0:Int)<= -1+(1*ρ 1+0):=a5I hc (i:=8) rfl;have ht:(t.size:Int)=0+(1*ρ 1+0):=ht;have hu:(u.size:Int)=0+(1*ρ 2+0):=hu;exact⟨_,_,_,_,_,rfl,.inr ⟨rfl,(show(1:Int)<=1+0 by decide),(show 1+0<=(4:Int)by decide),by omega,by omega,by omega,by omega,(show(-9223372036854775808:Int)<=0+0 by decide),(show 0+0<=(9223372036854775807:Int)by decide)⟩⟩
theorem d9B(h:a1p call 63 r270.c):∀s:ByteArray,s.size<=4096->∃N v,call N 63 [sV s] []=some (v,[])/\c4h v:=by
 refine c7U h rfl rfl rfl rfl rfl (by decide) (au6.2 ⟨⟨rfl,λ ρ v hs hc hr=> ?_⟩,au6.2 ⟨⟨rfl,λ ρ v hs hc hr=> ?_⟩,λ p h=>by cases h⟩⟩)
 .obtain⟨v0,v1,a,c,v4,rfl,h0,h1,h2,h3,h4⟩:=a8y hr;have e0:=a1S h0;obtain⟨t,rfl,ht⟩:=a3u h1;obtain⟨u,rfl,hu⟩:=a3u h2;have e3:=a1S h3;have e4:=a1S h4;subst e0 e3 e4;have b:(1:Int)<=ρ 1/\ρ 1<=80:=a3P hs (i:=0) rfl;refine⟨_,_,_,_,_,rfl,.inl ⟨rfl,d0a ht,d0a hu,rfl,?_,?_⟩⟩
  .show(1:Int)<=0+(1*ρ 1+0);omega
  .show 0+(1*ρ 1+0)<=(110:Int);omega
 .obtain⟨v0,v1,a,c,v4,rfl,h0,h1,h2,h3,h4⟩:=a8y hr;have e0:=a1S h0;obtain⟨t,rfl,ht⟩:=a3u h1;obtain⟨u,rfl,hu⟩:=a3u h2;have e3:=a1S h3;have e4:=a1S h4;subst e0 e3 e4;have b1:(0:Int)<=ρ 1/\ρ 1<=959:=a3P hs (i:=0) rfl;have b2:(0:Int)<=ρ 2/\ρ 2<=253:=a3P hs (i:=1) rfl;have f1:(0:Int)<= -1+(1*ρ 2+0):=a5I hc (i:=5) rfl;have f2:(0:Int)<= -1+(1*ρ 1+0):=a5I hc (i:=6) rfl;have ht:(t.size:Int)=0+(1*ρ 1+0):=ht;have hu:(u.size:Int)=0+(1*ρ 2+0):=hu;exact⟨_,_,_,_,_,rfl,.inr ⟨rfl,(show(1:Int)<=2+0 by decide),(show 2+0<=(4:Int)by decide),by omega,by omega,by omega,by omega,(show(-9223372036854775808:Int)<=0+0 by decide),(show 0+0<=(9223372036854775807:Int)by decide)⟩⟩
theorem d9H(h:a1p call 64 r293.c):∀s:ByteArray,s.size<=4096->∃N v,call N 64 [sV s] []=some (v,[])/\c4h v:=by
 refine c7U h rfl rfl rfl rfl rfl (by decide) (au6.2 ⟨⟨rfl,λ ρ v hs hc hr=> ?_⟩,au6.2 ⟨⟨rfl,λ ρ v hs hc hr=> ?_⟩,λ p h=>by cases h⟩⟩)
 .obtain⟨v0,v1,a,c,v4,rfl,h0,h1,h2,h3,h4⟩:=a8y hr;have e0:=a1S h0;obtain⟨t,rfl,ht⟩:=a3u h1;obtain⟨u,rfl,hu⟩:=a3u h2;have e3:=a1S h3;have e4:=a1S h4;subst e0 e3 e4;have b:(1:Int)<=ρ 1/\ρ 1<=71:=a3P hs (i:=0) rfl;refine⟨_,_,_,_,_,rfl,.inl ⟨rfl,d0a ht,d0a hu,rfl,?_,?_⟩⟩
  .show(1:Int)<=0+(1*ρ 1+0);omega
  .show 0+(1*ρ 1+0)<=(110:Int);omega
 .obtain⟨v0,v1,a,c,v4,rfl,h0,h1,h2,h3,h4⟩:=a8y hr;have e0:=a1S h0;obtain⟨t,rfl,ht⟩:=d5K h1;obtain⟨u,rfl,hu⟩:=a3u h2;have e3:=a1S h3;have e4:=a1S h4;subst e0 e3 e4;have b1:(0:Int)<=ρ 1/\ρ 1<=12573:=a3P hs (i:=0) rfl;have b2:(0:Int)<=ρ 2/\ρ 2<=253:=a3P hs (i:=1) rfl;have b3:(-9223372036854775808:Int)<=ρ 3/\ρ 3<=9223372036854775807:=a3P hs (i:=2) rfl;have f1:(0:Int)<= -1+(1*ρ 2+0):=a5I hc (i:=5) rfl;have f2:(0:Int)<= -1+(1*ρ 1+0):=a5I hc (i:=6) rfl;have ht:(t.size:Int)=0+(1*ρ 1+0):=ht;have hu:(u.size:Int)=0+(1*ρ 2+0):=hu;exact⟨_,_,_,_,_,rfl,.inr ⟨rfl,(show(1:Int)<=3+0 by decide),(show 3+0<=(4:Int)by decide),by omega,by omega,by omega,by omega,by show(-9223372036854775808:Int)<=0+(1*ρ 3+0);omega,by show 0+(1*ρ 3+0)<=(9223372036854775807:Int);omega⟩⟩
theorem e0e(h:a1p call 65 r442.c):∀s:ByteArray,s.size<=4096->∃N v,call N 65 [sV s] []=some (v,[])/\c4h v:=by
 refine c7U h rfl rfl rfl rfl rfl (by decide) (au6.2 ⟨⟨rfl,λ ρ v hs hc hr=> ?_⟩,au6.2 ⟨⟨rfl,λ ρ v hs hc hr=> ?_⟩,λ p h=>by cases h⟩⟩)
 .obtain⟨v0,v1,a,c,v4,rfl,h0,h1,h2,h3,h4⟩:=a8y hr;have e0:=a1S h0;obtain⟨t,rfl,ht⟩:=a3u h1;obtain⟨u,rfl,hu⟩:=a3u h2;have e3:=a1S h3;have e4:=a1S h4;subst e0 e3 e4;have b:(1:Int)<=ρ 1/\ρ 1<=110:=a3P hs (i:=0) rfl;refine⟨_,_,_,_,_,rfl,.inl ⟨rfl,d0a ht,d0a hu,rfl,?_,?_⟩⟩
  .show(1:Int)<=0+(1*ρ 1+0);omega
  .show 0+(1*ρ 1+0)<=(110:Int);omega
 .obtain⟨v0,v1,a,c,v4,rfl,h0,h1,h2,h3,h4⟩:=a8y hr;have e0:=a1S h0;obtain⟨t,rfl,ht⟩:=a3u h1;obtain⟨u,rfl,hu⟩:=a3u h2;have e3:=a1S h3;have e4:=a1S h4;subst e0 e3 e4;have b1:(0:Int)<=ρ 1/\ρ 1<=4096:=a3P hs (i:=0) rfl;have b2:(0:Int)<=ρ 2/\ρ 2<=253:=a3P hs (i:=1) rfl;have b3:(-9223372036854775808:Int)<=ρ 3/\ρ 3<=9223372036854775807:=a3P hs (i:=2) rfl;have f1:(0:Int)<= -1+(1*ρ 2+0):=a5I hc (i:=4) rfl;have f2:(0:Int)<= -4+(1*ρ 1+0):=a5I hc (i:=1) rfl;have ht:(t.size:Int)=0+(1*ρ 1+0):=ht;have hu:(u.size:Int)=0+(1*ρ 2+0):=hu;exact⟨_,_,_,_,_,rfl,.inr ⟨rfl,(show(1:Int)<=4+0 by decide),(show 4+0<=(4:Int)by decide),by omega,by omega,by omega,by omega,by show(-9223372036854775808:Int)<=0+(1*ρ 3+0);omega,by show 0+(1*ρ 3+0)<=(9223372036854775807:Int);omega⟩⟩
end
end
section
open Go Go.PV Go.PV.JS
variable {d e:Ce} {Γ:Gm} {v:V}
theorem d1a{a b c:Ce}(h:InR Γ (.tup [.agg [a,b,c],.ce d,.ce e]) v):∃v0 v1 f g v4,v= .tup [.agg [v0,v1,f],g,v4]/\InC Γ a v0/\InC Γ b v1/\InC Γ c f/\InC Γ d g/\InC Γ e v4:=by
 cases h with
 | @tup _ cs h=>
   match cs,h with
   |[p,q,r],h=>
    have h0:=h.2 0 _ p rfl rfl;have h1:=h.2 1 _ q rfl rfl;have h2:=h.2 2 _ r rfl rfl;cases h1 with
    |ce h1 _ _=>
     cases h2 with
     |ce h2 _ _=>
      cases h0 with
      | @agg _ cs h0=>
        match cs,h0 with
        |[v0,v1,f],h0=>exact⟨v0,v1,f,q,r,rfl,h0.2 0 _ v0 rfl rfl,h0.2 1 _ v1 rfl rfl,h0.2 2 _ f rfl rfl,h1,h2⟩
        |[],h0=>cases h0.1
        |[_],h0=>cases h0.1
        |[_,_],h0=>cases h0.1
        |_::_::_::_::_,h0=>have:=h0.1;simp at this
   |[],h=>cases h.1
   |[_],h=>cases h.1
   |[_,_],h=>cases h.1
   |_::_::_::_::_,h=>have:=h.1;simp at this
theorem d2J(h:InR Γ (.tup [.ce d,.ce e]) v):∃a v4,v= .tup [a,v4]/\InC Γ d a/\InC Γ e v4:=by
 cases h with
 | @tup _ cs h=>
   match cs,h with
   |[q,r],h=>
    have h1:=h.2 0 _ q rfl rfl;have h2:=h.2 1 _ r rfl rfl;cases h1 with
    |ce h1 _ _=>
     cases h2 with
     |ce h2 _ _=>grind
   |[],h=>cases h.1
   |[_],h=>cases h.1
   |_::_::_::_,h=>have:=h.1;simp at this
def d5y(s:ByteArray)(at':Nat)(v:V):Prop:=∃k t a next er,v= .tup [.agg [iV k,sV t,iV a],iV next,iV er]/\kOk er/\kOk a/\(er=0->t.size<=SB/\(k=2->t.toList≠[])/\(k≠1->(at':Int)<next/\next<=s.size))
theorem d5w{t:ByteArray}(h:1<=t.size):t.toList≠[]:=λ e=>by
 grind[Go.Lib.size_eq,Go.Lib.toList_data]
variable {call:Nat->a7F}
theorem d9O(s:ByteArray)(at':Nat)(a:s.size<=1048576):∀p∈r447.c.posts,p.boxes=[]/\∀(ρ:Nat->Int) v,ρ 0=s.size->ρ 1=at'->(∀c∈p.syms,c.ok ρ p.n)->a2W ρ p.n p.cs->InR (GB ρ p.n 0) p.res v->d5y s at' v:=by
 refine au6.2 ⟨⟨rfl,λ ρ v r0 r1 hs hc hr=> ?_⟩,au6.2 ⟨⟨rfl,λ ρ v r0 r1 hs hc hr=> ?_⟩,au6.2 ⟨⟨rfl,λ ρ v r0 r1 hs hc hr=> ?_⟩,au6.2 ⟨⟨rfl,λ ρ v r0 r1 hs hc hr=> ?_⟩,au6.2 ⟨⟨rfl,λ ρ v r0 r1 hs hc hr=> ?_⟩,au6.2 ⟨⟨rfl,λ ρ v r0 r1 hs hc hr=> ?_⟩,λ p h=>by cases h⟩⟩⟩⟩⟩⟩;all_goals
  obtain⟨v0,v1,d,e,v4,rfl,h0,h1,h2,h3,h4⟩:=d1a hr;have e0:=a1S h0;obtain⟨t,rfl,ht⟩:=a3u h1;have e2:=a1S h2;have e3:=a1S h3;have e4:=a1S h4;subst e0 e2 e3 e4
 .have b:(4:Int)<=ρ 2/\ρ 2<=130:=a3P hs (i:=0) rfl;exact⟨_,_,_,_,_,rfl,⟨show(-9223372036854775808:Int)<=0+(1*ρ 2+0)by omega,show 0+(1*ρ 2+0)<=(9223372036854775807:Int)by omega⟩,⟨show(-9223372036854775808:Int)<=0+0 by decide,show 0+0<=(9223372036854775807:Int)by decide⟩,λ he=>by
   have he:0+(1*ρ 2+0)=(0:Int):=he;omega⟩
 .have ht:(t.size:Int)=0+0:=ht;exact⟨_,_,_,_,_,rfl,⟨show(-9223372036854775808:Int)<=0+0 by decide,show 0+0<=(9223372036854775807:Int)by decide⟩,⟨show(-9223372036854775808:Int)<=0+(1*ρ 0+0)by omega,show 0+(1*ρ 0+0)<=(9223372036854775807:Int)by omega⟩,λ _=>⟨by unfold SB;omega,λ he=>by
   have he:1+0=(2:Int):=he;omega,λ he=>absurd rfl he⟩⟩
 .have ht:(t.size:Int)=0+(1*ρ 2+0):=ht;have b2:(0:Int)<=ρ 2/\ρ 2<=1048575:=a3P hs (i:=0) rfl;have b3:(0:Int)<=ρ 3/\ρ 3<=1048575:=a3P hs (i:=1) rfl;have f1:(0:Int)<= -1+(-1*ρ 1+(1*ρ 4+0)):=a5I hc (i:=1) rfl;have f2:(0:Int)<=0+(1*ρ 0+(-1*ρ 4+0)):=a5I hc (i:=2) rfl;exact⟨_,_,_,_,_,rfl,⟨show(-9223372036854775808:Int)<=0+0 by decide,show 0+0<=(9223372036854775807:Int)by decide⟩,⟨show(-9223372036854775808:Int)<=0+(1*ρ 3+0)by omega,show 0+(1*ρ 3+0)<=(9223372036854775807:Int)by omega⟩,λ _=>⟨by unfold SB;omega,λ he=>by
   have he:3+0=(2:Int):=he;omega,λ _=>⟨show(at':Int)<0+(1*ρ 4+0)by omega,show 0+(1*ρ 4+0)<=(s.size:Int)by omega⟩⟩⟩
 .have ht:(t.size:Int)=0+(1*ρ 2+0):=ht;have b2:(0:Int)<=ρ 2/\ρ 2<=1048576:=a3P hs (i:=0) rfl;have b3:(0:Int)<=ρ 3/\ρ 3<=1048575:=a3P hs (i:=1) rfl;have f1:(0:Int)<= -1+(-1*ρ 1+(1*ρ 4+0)):=a5I hc (i:=1) rfl;have f2:(0:Int)<=0+(1*ρ 0+(-1*ρ 4+0)):=a5I hc (i:=2) rfl;exact⟨_,_,_,_,_,rfl,⟨show(-9223372036854775808:Int)<=0+0 by decide,show 0+0<=(9223372036854775807:Int)by decide⟩,⟨show(-9223372036854775808:Int)<=0+(1*ρ 3+0)by omega,show 0+(1*ρ 3+0)<=(9223372036854775807:Int)by omega⟩,λ _=>⟨by unfold SB;omega,λ he=>by
   have he:4+0=(2:Int):=he;omega,λ _=>⟨show(at':Int)<0+(1*ρ 4+0)by omega,show 0+(1*ρ 4+0)<=(s.size:Int)by omega⟩⟩⟩
 .have ht:(t.size:Int)=0+(1*ρ 2+0):=ht;have b2:(0:Int)<=ρ 2/\ρ 2<=5:=a3P hs (i:=0) rfl;have b3:(0:Int)<=ρ 3/\ρ 3<=1048575:=a3P hs (i:=1) rfl;have f1:(0:Int)<= -1+(-1*ρ 1+(1*ρ 4+0)):=a5I hc (i:=1) rfl;have f2:(0:Int)<=0+(1*ρ 0+(-1*ρ 4+0)):=a5I hc (i:=2) rfl;exact⟨_,_,_,_,_,rfl,⟨show(-9223372036854775808:Int)<=0+0 by decide,show 0+0<=(9223372036854775807:Int)by decide⟩,⟨show(-9223372036854775808:Int)<=0+(1*ρ 3+0)by omega,show 0+(1*ρ 3+0)<=(9223372036854775807:Int)by omega⟩,λ _=>⟨by unfold SB;omega,λ he=>by
   have he:5+0=(2:Int):=he;omega,λ _=>⟨show(at':Int)<0+(1*ρ 4+0)by omega,show 0+(1*ρ 4+0)<=(s.size:Int)by omega⟩⟩⟩
 .have ht:(t.size:Int)=0+(1*ρ 2+0):=ht;have b2:(0:Int)<=ρ 2/\ρ 2<=4:=a3P hs (i:=0) rfl;have b3:(0:Int)<=ρ 3/\ρ 3<=1048575:=a3P hs (i:=1) rfl;have f1:(0:Int)<= -1+(-1*ρ 1+(1*ρ 4+0)):=a5I hc (i:=1) rfl;have f2:(0:Int)<=0+(1*ρ 0+(-1*ρ 4+0)):=a5I hc (i:=2) rfl;have f3:(0:Int)<= -1+(1*ρ 2+0):=a5I hc (i:=6) rfl;exact⟨_,_,_,_,_,rfl,⟨show(-9223372036854775808:Int)<=0+0 by decide,show 0+0<=(9223372036854775807:Int)by decide⟩,⟨show(-9223372036854775808:Int)<=0+(1*ρ 3+0)by omega,show 0+(1*ρ 3+0)<=(9223372036854775807:Int)by omega⟩,λ _=>⟨by unfold SB;omega,λ _=>d5w (by omega),λ _=>⟨show(at':Int)<0+(1*ρ 4+0)by omega,show 0+(1*ρ 4+0)<=(s.size:Int)by omega⟩⟩⟩
variable {call:Nat->a7F}
theorem d4l(h:a1p call 162 r447.c)(s:ByteArray)(at':Nat)(hs:s.size<=1048576)(ha:at'<=s.size):∃N v,call N 162 [sV s,iV at'] []=some (v,[])/\d5y s at' v:=by
 let d:Nat->Int:=λ i=>if i=0 then s.size else at'
 have h0:(⟨0,0,1048576⟩:Sy).ok d 2:=⟨by grind,by grind,by grind⟩;have h1:(⟨1,-9223372036854775808,9223372036854775807⟩:Sy).ok d 2:=⟨by grind,by grind,by grind⟩;obtain⟨N,v,bs,e,p,l,ρ,f,n,b,hc,hr,k⟩:=h d [sV s,iV at'] [] (by
   intro m b;have b:m∈[(⟨0,0,1048576⟩:Sy),⟨1,-9223372036854775808,9223372036854775807⟩]:=b;rcases ay4.1 b with rfl|b
   .exact h0
   .rw[az7.1 b];exact h1) (by intro g hg;cases hg)
  ⟨rfl,λ j a c hj hc=>by
   match j,hj,hc with
   |0,hj,hc=>cases hj;cases hc;exact .str (λ p hp=>by have hp:p∈[((⟨0,0,1048576⟩:Sy),(1:Int))]:=hp;rw[az7.1 hp];exact h0) (by show(s.size:Int)=0+(1*(s.size:Int)+0);omega)
   |1,hj,hc=>cases hj;cases hc;exact .int (λ p hp=>by have hp:p∈[((⟨1,-9223372036854775808,9223372036854775807⟩:Sy),(1:Int))]:=hp;rw[az7.1 hp];exact h1) (by show(at':Int)=0+(1*(at':Int)+0);omega)
   |j+2,hj,hc=>grind⟩ a0F
 obtain⟨b1,b2⟩:=d9O s at' hs p l;rw[b1]at k;rw[a1o k]at e;exact⟨N,v,e,b2 ρ v (f 0 (by show 0<2;omega)) (f 1 (by show 1<2;omega)) b hc hr⟩
theorem d4C(h:a1p call 361 r392.c)(t:ByteArray)(ht:t.size<=SB):∃N f e,call N 361 [sV t] []=some (.tup [sV f,iV e],[])/\f.size<=SB:=by
 let k:Nat->Int:=λ _=>t.size;have h0:(⟨0,0,1048576⟩:Sy).ok k 1:=⟨by grind,by grind,by grind[SB]⟩;obtain⟨N,v,bs,e,p,n,ρ,o,q,d,hc,hr,m⟩:=h k [sV t] [] (by
   intro l d;have d:l∈[(⟨0,0,1048576⟩:Sy)]:=d;rw[az7.1 d];exact h0) (by intro g hg;cases hg)
  ⟨rfl,λ j a c hj hc=>by
   match j,hj,hc with
   |0,hj,hc=>cases hj;cases hc;exact .str (λ p hp=>by have hp:p∈[((⟨0,0,1048576⟩:Sy),(1:Int))]:=hp;rw[az7.1 hp];exact h0) (by show(t.size:Int)=0+(1*(t.size:Int)+0);omega)
   |j+1,hj,hc=>grind⟩ a0F
 have key:∀p∈r392.c.posts,p.boxes=[]/\∀(ρ:Nat->Int) v,(∀l∈p.syms,l.ok ρ p.n)->InR (GB ρ p.n 0) p.res v->∃f e,v= .tup [sV f,iV e]/\f.size<=SB:=by
  refine au6.2 ⟨⟨rfl,λ ρ v hs hr=> ?_⟩,au6.2 ⟨⟨rfl,λ ρ v hs hr=> ?_⟩,λ p h=>by cases h⟩⟩;all_goals
   obtain⟨r,v4,rfl,h3,h4⟩:=d2J hr;obtain⟨u,rfl,hu⟩:=a3u h3;have e4:=a1S h4;subst e4
  .have hu:(u.size:Int)=0+0:=hu;exact⟨_,_,rfl,by unfold SB;omega⟩
  .have hu:(u.size:Int)=0+(1*ρ 1+0):=hu;have b:(0:Int)<=ρ 1/\ρ 1<=63:=a3P hs (i:=0) rfl;exact⟨_,_,rfl,by unfold SB;omega⟩
 obtain⟨b1,b2⟩:=key p n;rw[b1]at m;rw[a1o m]at e;obtain⟨f,er,rfl,hz⟩:=b2 ρ v d hr;exact⟨N,f,er,e,hz⟩
theorem d9G{prim:Nat->Option Fp}{inl:Nat->Bool}(h1:a1p (λ N=>(Lv P0 prim inl N).cbv) 162 r447.c)(h2:a1p (λ N=>(Lv P0 prim inl N).cbv) 361 r392.c):Toks (a0d P0 prim inl) where
 mono:=λ _ _ h=>a0L h
 next:=λ s at' hs ha=>by
  obtain⟨N,v,e,k,t,a,next,er,rfl,q⟩:=d4l h1 s at' hs ha;grind
 num:=λ t ht=>d4C h2 t ht
end
section
open Go Go.PV Go.PV.JS
variable {hi:Int} {d:TD} {v:V}
theorem d5z{ρ:Nat->Int}{n:Nat}{a:Sy}{m:Nat}(hk:a4z (.dat false ⟨0,[(a,1)]⟩ d)=true)(h1:a.ok ρ n)(hd:InD g0 N0 (.sl false hi d) v)(hl:lenOf v=some m)(h2:(m:Int)=ρ a.id):InC (GB ρ n 0) (.av (.dat false ⟨0,[(a,1)]⟩ d)) v:=
 .av hk (.dat (λ p hp=>by simp at hp;subst hp;exact h1) hd hl (by grind[LE.ev,tsv,GB,Gm.bare]))
theorem c9j(h:InD g0 N0 (.sl false hi d) v):∃m,lenOf v=some m/\(m:Int)<=hi:=by
 cases h with
 |nils h=>exact⟨0,rfl,by omega⟩
 |sl h _=>exact⟨_,rfl,h⟩
theorem d0G{Γ:Gm}{a b c d x y:Ce}{v0 v1 e f:V}{w z:Value}(h0:InC Γ a v0)(h1:InC Γ b v1)(h2:InC Γ c e)(h3:InC Γ d f)(h4:InC Γ x (.lit w))(h5:InC Γ y (.lit z)):InR Γ (.tup [.agg [a,b,c,d],.ce x,.ce y]) (.tup [.agg [v0,v1,e,f],.lit w,.lit z]):=
 .tup ⟨rfl,λ j p v hp hv=>by
  match j,hp,hv with
  |0,hp,hv=>
   cases hp;cases hv;exact .agg ⟨rfl,λ j p v hp hv=>by
    match j,hp,hv with
    |0,hp,hv=>grind
    |1,hp,hv=>grind
    |2,hp,hv=>grind
    |3,hp,hv=>grind
    |j+4,hp,hv=>simp at hp⟩
  |1,hp,hv=>cases hp;cases hv;exact .ce h4 (λ l h=>by cases h) λ l h=>by cases h
  |2,hp,hv=>cases hp;cases hv;exact .ce h5 (λ l h=>by cases h) λ l h=>by cases h
  |j+3,hp,hv=>simp at hp⟩
def yI(i:Nat):Sy:=⟨i,-9223372036854775808,9223372036854775807⟩
def yB(i:Nat):Sy:=⟨i,0,1048576⟩
def cJs:SumA:=⟨1,[⟨0,0,SBn⟩],[.str ⟨0,[(⟨0,0,SBn⟩,1)]⟩],[],[],
 [⟨7,[yI 1,yB 2,yB 3,yB 4,yI 5,yI 6],.tup [.agg [.av (.int .i64 ⟨0,[(yI 1,1)]⟩),.av (.str ⟨0,[(yB 2,1)]⟩),.av (.dat false ⟨0,[(yB 3,1)]⟩ (.str 1048576)),.av (.dat false ⟨0,[(yB 4,1)]⟩ (.val false 1048576))],.ce (.av (.int .i64 ⟨0,[(yI 5,1)]⟩)),.ce (.av (.int .i64 ⟨0,[(yI 6,1)]⟩))],[],[]⟩]⟩
theorem c7A{prim:Nat->Option Fp}{inl:Nat->Bool}(hp:prim 82=none)(K:Kit (a0d P0 prim inl))(H:Toks (a0d P0 prim inl)):a1p (λ N=>(Lv P0 prim inl N).cbv) 82 cJs:=by
 intro ρ l bs h1 h2 h3 h4;obtain⟨v,rfl,hv⟩:=a6S h3;have:=a1o h4;subst this;obtain⟨s,rfl,es⟩:=a2m hv;obtain⟨M,k,t,ks,is,x,y,e,k1,k2,k3,k4,k5,k6⟩:=c7p hp K H s;obtain⟨m3,l3,b3⟩:=c9j k5;obtain⟨m4,l4,b4⟩:=c9j k6;unfold SB at k4;let ρ':=a1N (a1N (a1N (a1N (a1N (a1N ρ 1 k) 2 t.size) 3 m3) 4 m4) 5 x) 6 y;have a:(yI 1).ok ρ' 7:=⟨by show 1<7;omega,k1.1,k1.2⟩;have b:(yB 2).ok ρ' 7:=⟨by show 2<7;omega,by show(0:Int)<=t.size;omega,by show(t.size:Int)<=1048576;omega⟩;have c:(yB 3).ok ρ' 7:=⟨by show 3<7;omega,by show(0:Int)<=m3;omega,b3⟩;have d:(yB 4).ok ρ' 7:=⟨by show 4<7;omega,by show(0:Int)<=m4;omega,b4⟩;have f:(yI 5).ok ρ' 7:=⟨by show 5<7;omega,k2.1,k2.2⟩;have h:(yI 6).ok ρ' 7:=⟨by show 6<7;omega,k3.1,k3.2⟩;refine⟨_,_,_,e,_,az7.2 rfl,ρ',λ j hj=> ?_,by show 1<=7;omega,λ m i=> ?_,λ g hg=>by simp at hg,d0G (c0K a rfl) (d2v b rfl) (d5z rfl c k5 l3 rfl) (d5z rfl d k6 l4 rfl) (c0K f rfl) (c0K h rfl),a0F⟩
 .have hj:j<1:=hj;grind[a1i]
 grind
end
section
open Go.PV
section
variable {P:Program} {prim:Nat->Option Fp} {inl:Nat->Bool}
def d9b(t:ByteArray):SumA:=⟨1,[sI],[.str ⟨0,[(sI,1)]⟩,.lit (.string t)],[],[],
 [⟨1,[],.pa (.ce (.av (.int .i64 ⟨-1,[]⟩))),[],[]⟩,⟨2,[⟨1,0,SBn⟩],.pa (.ce (.av (.int .i64 ⟨0,[(⟨1,0,SBn⟩,1)]⟩))),[],[⟨-1,[(sI,1),(⟨1,0,SBn⟩,-1)]⟩]⟩]⟩
theorem b0P(cs:List UInt8):∀l:List UInt8,Go.Lib.indexAny l cs<l.length\/Go.Lib.indexAny l cs= -1
 |[]=> .inr rfl
 |x::l=>by
  rcases b0P cs l with h|h<;>grind[Go.Lib.indexAny]
theorem c3v(cs:List UInt8)(s:ByteArray):∀f i:Nat,b6N cs s f i= -1\/0<=b6N cs s f i/\b6N cs s f i<s.size
 |0,i=> .inl rfl
 |f+1,i=>by
  unfold b6N;split
  .split
   .grind
   .exact c3v cs s f _
  .grind
theorem a5J{k:Nat}{a b:UInt8}(hp:prim k=some a4M)(ha:a.toNat<128)(hb:b.toNat<128):a1p (λ N=>(Lv P prim inl N).cbv) k (d9b ⟨⟨[a,b]⟩⟩):=by
 refine a0Y hp λ ρ l bs h1 h2 h3 h4=> ?_;obtain⟨v,u,rfl,hv,hu⟩:=a4e h3;have:=a1o h4;subst this;obtain⟨s,rfl,hs⟩:=a2m hv;cases hu;have h0:=h1 sI (by simp[d9b]);have c:ρ 0<=4294967280:=h0.2.2;have hs:(s.size:Int)=ρ 0:=hs;obtain⟨x,e,hx⟩:∃x:Int,a4M [.lit (.string s),.lit (.string ⟨⟨[a,b]⟩⟩)] []=some (vI x,[])/\(x= -1\/0<=x/\x<s.size):=by
  refine⟨_,by unfold a4M;exact ax3 ⟨ha,hb,by omega⟩,?_⟩;split
  .have h5:=Go.Lib.indexAny_ge [a,b] s.data.toList;rw[Go.Lib.size_eq s];rcases b0P [a,b] s.data.toList with h|h;all_goals grind
  grind[c3v]
 rcases hx with rfl|⟨d,m⟩
 .exact⟨_,_,e,_,ay1 ..,ρ,λ _ _=>rfl,ay3 _,λ f h=>by simp at h,λ g hg=>by simp at hg,b2I,a0F⟩
 .have hx:(⟨1,0,SBn⟩:Sy).ok (a1N ρ 1 x) 2:=⟨by grind,d,by show x<=SBn;unfold SBn;omega⟩;have hq:sI.ok (a1N ρ 1 x) 2:=⟨by show 0<2;omega,h0.2.1,h0.2.2⟩;refine⟨_,_,e,_,az9 _ (az7.2 rfl),a1N ρ 1 x,λ j hj=>a1i hj,by show 1<=2;omega,λ f i=>by grind,λ g hg=> ?_,b6O hx rfl,a0F⟩;rw[az7.1 hg];refine⟨λ p hp=> ?_,?_⟩
  .grind
  .have hA:a1N ρ 1 x sI.id=ρ 0:=rfl;have hB:a1N ρ 1 x 1=x:=rfl;grind[LE.ev,tsv]
end
end
end Go.SN
