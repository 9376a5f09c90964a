import Derived.Test.YtfffjfhfafhfmaaGreatDoorV11
import Derived.Test.YtfffjfhfafhfmaaGreatDoorV12
import Derived.Test.YtfffjfhfafhfmaaGreatDoorV13
set_option linter.all false
namespace Go.SB
section
open Go Go.PV Go.SN Go.PV.JS Go.Proofs
open Go.SE
set_option maxRecDepth 100000
theorem Qxp{i n:Nat}(h:Qwi i n=true)(h2:(Qza.drop (i+n)).all Qwh=true):(Qza.drop i).all Qwh=true:=by
 rw[<-List.take_append_drop n (Qza.drop i),List.all_append,List.drop_drop,show((Qza.drop i).take n).all Qwh=true from h];exact h2
theorem Qxq:(Qza.drop 0).all Qwh=true:=Qxp Qwj (Qxp Qwk (Qxp Qwl (Qxp Qwm (Qxp Qwn (Qxp Qwo (Qxp Qwp (Qxp Qwq (Qxp Qwr (Qxp Qws (Qxp Qwt (Qxp Qwu (Qxp Qwv (Qxp Qww (Qxp Qwx (Qxp Qwy (Qxp Qwz (Qxp Qxa (Qxp Qxb (Qxp Qxc (Qxp Qxd (by
 have:Qza.drop 66=[]:=List.drop_eq_nil_of_le (by decide);rw[this];rfl)))))))))))))))))))))
theorem Qxr{x:ByteArray}(hx:x∈Qza):∃id,Qnd 10 [sV x] (.tup [id,iV 0]):=by
 have h:=ay5.1 Qxq x hx;unfold Qwh at h;split at h
 .next id e=>exact⟨id,3000+40,(b6o (T:=[]) (N0:=3000) nofun (ay3 _) 40).cbv _ _ _ _ e⟩
 .cases h
theorem Qxs{v:V}(h:InD g0 N0 (.agg Qvm) v):∃r0 r1 r2 r3 r4 r5 r6 hm hs FL bd T,v=Qpm r0 r1 r2 r3 r4 r5 r6 hm hs FL bd T/\isD FL/\isD T:=by
 unfold Qvm at h;cases h with
 | @agg _ _ _ cs h1 h2=>
   match cs,h1 with
   |[c0,c1,c2,c3,c4,c5,c6,c7,c8,c9,c10,c11],_=>
    have m0:=h2 0 _ c0 rfl rfl;have m1:=h2 1 _ c1 rfl rfl;have m2:=h2 2 _ c2 rfl rfl;have m3:=h2 3 _ c3 rfl rfl;have m4:=h2 4 _ c4 rfl rfl;have m5:=h2 5 _ c5 rfl rfl;have m6:=h2 6 _ c6 rfl rfl;have m7:=h2 7 _ c7 rfl rfl;have m8:=h2 8 _ c8 rfl rfl;have m9:=h2 9 _ c9 rfl rfl;have m10:=h2 10 _ c10 rfl rfl;have m11:=h2 11 _ c11 rfl rfl;cases m0 with|str _=>cases m1 with|int _ _=>cases m2 with|str _=>cases m3 with|str _=>cases m4 with|str _=>cases m5 with|bool=>cases m6 with|bool=>cases m7 with|int _ _=>cases m8 with|int _ _=>cases m10 with|str _=>
    exact⟨_,_,_,_,_,_,_,_,_,_,_,_,rfl,Qvw m9,Qvw m11⟩
theorem Qxt{v:V}(h:InD g0 N0 Xaa v):isD v/\(v= .nils\/∃ys,v= .sl none ys/\(∀y∈ys,IsId y)/\ys.length<=64):=by
 refine⟨Qvw h,?_⟩;cases h with
 |nils _=>exact .inl rfl
 |sl hl he=>
  refine .inr ⟨_,rfl,λ y hy=> ?_,by omega⟩;cases he y hy with
  | @agg _ _ _ cs h1 h2=>
    match cs,h1 with
    |[c0,c1,c2,c3],_=>
     have m0:=h2 0 _ c0 rfl rfl;have m1:=h2 1 _ c1 rfl rfl;have m2:=h2 2 _ c2 rfl rfl;have m3:=h2 3 _ c3 rfl rfl;cases m0 with|int _ _=>cases m1 with|str _=>cases m2 with|str _=>cases m3 with|int _ _=>
     exact⟨_,_,_,_,rfl⟩
theorem Qxu{sv:V}(hs:InD g0 N0 (.sl false 9223372036854775807 (.int .u8 0 255)) sv):Qxw sv:=by
 cases hs with
 |nils _=>exact .inl rfl
 |sl _ h=>exact .inr ⟨_,rfl,λ y hy=>by cases h y hy with|int a b=>exact⟨_,rfl,a,b⟩⟩
theorem Qxv{sv:V}{now:Int}(hs:InD g0 N0 (.sl false 9223372036854775807 (.int .u8 0 255)) sv)(hn:0<=now/\now<=18446744073709551615):Qnd 3 [sv,Qaa now] (bV true):=by
 obtain⟨w,hw,hw2⟩:=Qvt (.td .bool) (Qnh (i:=487) (k:=3) (by omega) rfl) (xs:=[.cell (.sl false 9223372036854775807 (.int .u8 0 255)),.cell kU]) (by decide +kernel) (vs:=[sv,Qaa now]) (ShL.cons.2 ⟨.td hs,ShL.cons.2 ⟨.td (.int hn.1 hn.2),ShL.nil⟩⟩);obtain⟨M8,h8⟩:Qnd 8 [] (bV true):=a68.2;obtain⟨s,l,hmade,hss,xs,hL,hx0,hlen⟩:=Qlt hs;have hlD:InD g0 N0 (.sl false 1048576 Qne) l:=by
  rcases hL with⟨rfl,_⟩|rfl
  .exact .nils (by omega)
  .exact .sl (by omega) λ a ha=>Qlr (hx0 a ha)
 have hl:isD l:=Qvw hlD;obtain⟨id,hid⟩:=Qxr (Qzz (Qxu hs) hmade);obtain⟨M9,h9⟩:=hmade;obtain⟨k,ids,h,p,rfl,hidW⟩:∃k ids h p,id=Qtq k ids h p/\InD g0 N0 (.agg Xad) (Qtq k ids h p):=by
  obtain⟨v,h1,h2⟩:=Qvt (.tup [.agg (Xad.map .td),.td kI]) (Qnh (i:=462) (k:=10) (by omega) rfl) (xs:=[.cell (.str 1048576)]) (by decide +kernel) (vs:=[sV s]) (ShL.cons.2 ⟨.td (.str (by omega)),ShL.nil⟩);have:=Xcy h1 hid;subst this;obtain⟨x,y,e,k1,_⟩:=Qqr h2;simp only[V.tup.injEq,Az2,ao0]at e;obtain⟨rfl,rfl⟩:=e;have k1:InD g0 N0 (.agg Xad) id:=Qqp k1 rfl (by decide);have k2:=k1;unfold Xad at k1;cases k1 with
  | @agg _ _ _ cs e1 e2=>
    match cs,e1 with
    |[c0,c1,c2,c3],_=>
     have m0:=e2 0 _ c0 rfl rfl;have m1:=e2 1 _ c1 rfl rfl;have m2:=e2 2 _ c2 rfl rfl;have m3:=e2 3 _ c3 rfl rfl;cases m0 with|int _ _=>cases m1 with|str _=>cases m2 with|str _=>cases m3 with|int _ _=>
     exact⟨_,_,_,_,rfl,k2⟩
 obtain⟨M10,h10⟩:=hid;have fin:∀M,(∀N,M<=N->a7O P0 (a0d P0 a4w inlS N) N 3 [sv,Qaa now] []=some (bV true,[]))->Qnd 3 [sv,Qaa now] (bV true):=λ M hM=>by
  obtain⟨N,n1,n2⟩:=a9P (m:=M) rfl hw;rw[hM N n1]at n2;have:=(an8 Prod.fst (ax8 n2)).symm;simp only at this;rw[<-this];exact hw
 have hsD:=Qlx hs;by_cases hk:k=4
 .subst hk
  exact fin (max M8 (max M9 M10)) λ N hN=>Qxm hsD hl Xbu (Qbn h8 (by omega)) (Qbn h9 (by omega)) (Qbn h10 (by omega))
 obtain⟨v,h11,_⟩:=Qng (Qnh (i:=486) (k:=11) (by omega) rfl) (xs:=[.cell (.sl false 1048576 Qne),.cell kU,.agg Xad]) (ps:=[.tup [.agg [.td kI,.td (.str 1048576),.td (.str 1048576),.td kI,.td (.sl false 64 (.agg [.int .i64 1 4,.str 12573,.str 253,kI])),.td kI,.td .bool,.td kU,.td (.sl false 1048576 Qcm)],.td kI]]) (by decide +kernel) (vs:=[l,Qaa now,Qtq k ids h p]) (ShL.cons.2 ⟨.td hlD,ShL.cons.2 ⟨.td (.int hn.1 hn.2),ShL.cons.2 ⟨Qqq hidW,ShL.nil⟩⟩⟩);have hB:∀o e,e≠0->v= .tup [Qto 0 ⟨#[]⟩ ⟨#[]⟩ 0 .nils 0 false 0 (Xcp o),iV e]->Qnd 3 [sv,Qaa now] (bV true):=λ o e he hv=>by
  subst hv;obtain⟨M11,h11⟩:=h11;exact fin (max (max M8 M9) (max M10 M11)) λ N hN=>Qxn hk he hsD hl Xbu (Qbn h8 (by omega)) (Qbn h9 (by omega)) (Qbn h10 (by omega)) (Qbn h11 (by omega))
 rcases Qtd hlD hn hidW h11 with⟨hv,_⟩|⟨u,e0,o,_,_,hT,_,hF⟩
 .exact hB none 8 (by decide) hv
 rcases hF with⟨e,he,hv⟩|⟨fk,fs,fh,fp,NM,via,j,fb,fu,FT,t,rfl,hv,hj1,hj3,hNM,hFT,tr0,a,b,c,d,f,st,R,rfl,hu,h12,h13⟩
 .exact hB o e he hv
 subst hv;obtain⟨M11,h11⟩:=h11;obtain⟨R',e',hR',hRD⟩:=Qvo hlD hn hu;have e1:=Xcy hR' h12;simp only[V.tup.injEq,Az2,V.lit.injEq,At3,ao0,ao5]at e1;obtain⟨rfl,rfl⟩:=e1;obtain⟨r0,r1,r2,r3,r4,r5,r6,hm,hs',FL,bd,T,rfl,hFL,hTD⟩:=Qxs hRD;obtain⟨w14,h14,_⟩:=Qvt (.td .bool) (Qnh (i:=413) (k:=14) (by omega) rfl) (xs:=[.cell Xaa,.cell Xaa]) (by decide +kernel) (vs:=[NM,NM]) (ShL.cons.2 ⟨.td hNM,ShL.cons.2 ⟨.td hNM,ShL.nil⟩⟩);have:=Qxk (Qxt hNM).2 h14;subst this;obtain⟨M12,h12⟩:=h12;obtain⟨M13,h13⟩:=h13;obtain⟨M14,h14⟩:=h14;have hN:isD NM:=(Qxt hNM).1;have hlen2:tr0.length<=1000:=by
  have:=hT.2;rw[show Xcq (some (tr0++[Qmc a b c d ⟨#[]⟩ f false st 0]))=tr0++[Qmc a b c d ⟨#[]⟩ f false st 0]from rfl,ar0]at this;omega
 exact fin (max (max (max M8 M9) (max M10 M11)) (max M12 (max M13 M14))) λ N hN'=>Qxo hk hlen2 (λ x hx=>hT.1 x (av4 _ hx)) hj1 hj3 hsD hl hN hFT hFL hTD Xbu (Qbn h8 (by omega)) (Qbn h9 (by omega)) (Qbn h10 (by omega)) (Qbn h11 (by omega)) (Qbn h12 (by omega)) (Qbn h13 (by omega)) (Qbn h14 (by omega))
end
end Go.SB
