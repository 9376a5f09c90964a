import Derived.Test.YtfffjfhfafhfmaaGreatDoorR00
import Derived.Test.YtfffjfhfafhfmaaGreatDoorR01
import Derived.Test.YtfffjfhfafhfmaaGreatDoorR02
import Derived.Test.YtfffjfhfafhfmaaGreatDoorR03
import Derived.Test.YtfffjfhfafhfmaaGreatDoorR04
import Derived.Test.YtfffjfhfafhfmaaGreatDoorR05
import Derived.Test.YtfffjfhfafhfmaaGreatDoorR06
import Derived.Test.YtfffjfhfafhfmaaGreatDoorR07
import Derived.Test.YtfffjfhfafhfmaaGreatDoorR08
import Derived.Test.YtfffjfhfafhfmaaGreatDoorR09
import Derived.Test.YtfffjfhfafhfmaaGreatDoorR10
import Derived.Test.YtfffjfhfafhfmaaGreatDoorR11
import Derived.Test.YtfffjfhfafhfmaaGreatDoorR12
import Derived.Test.YtfffjfhfafhfmaaGreatDoorR13
import Derived.Test.YtfffjfhfafhfmaaGreatDoorR14
import Derived.Test.YtfffjfhfafhfmaaGreatDoorR15
import Derived.Test.YtfffjfhfafhfmaaGreatDoorR16
import Derived.Test.YtfffjfhfafhfmaaGreatDoorR17
import Derived.Test.YtfffjfhfafhfmaaGreatDoorR18
import Derived.Test.YtfffjfhfafhfmaaGreatDoorR19
import Derived.Test.YtfffjfhfafhfmaaGreatDoorR20
import Derived.Test.YtfffjfhfafhfmaaGreatDoorR21
import Derived.Test.YtfffjfhfafhfmaaGreatDoorR22
import Derived.Test.YtfffjfhfafhfmaaGreatDoorR23
import Derived.Test.YtfffjfhfafhfmaaGreatDoorR24
import Derived.Test.YtfffjfhfafhfmaaGreatDoorR25
import Derived.Test.YtfffjfhfafhfmaaGreatDoorR26
import Derived.Test.YtfffjfhfafhfmaaGreatDoorV00
import Derived.Test.YtfffjfhfafhfmaaGreatDoorV02
import Derived.Test.YtfffjfhfafhfmaaGreatDoorV03
import Derived.Test.YtfffjfhfafhfmaaGreatDoorV05
import Derived.Test.YtfffjfhfafhfmaaGreatDoorV06
set_option linter.all false
namespace Go.SN
section
open Go Go.PV Go.PV.JS
set_option maxRecDepth 10000
noncomputable abbrev Lp:=Lv P0 a4w inlS
theorem kit:Kit (a0d P0 a4w inlS):=d4q (by decide) (by decide) rfl
theorem irs:∀f,f∈[62,63,64,65]->inlS f=false:=by decide
theorem rds(h2:a1p (λ N=>(Lp N).cbv) 62 r261.c)(h3:a1p (λ N=>(Lp N).cbv) 63 r270.c)(h4:a1p (λ N=>(Lp N).cbv) 64 r293.c)(h5:a1p (λ N=>(Lp N).cbv) 65 r442.c):∀f,f∈[62,63,64,65]->∀s:ByteArray,s.size<=4096->∃N v,(a0d P0 a4w inlS N).cbv f [sV s] []=some (v,[])/\c4h v:=by
 intro f hf;simp only[ay4,av0,ar1]at hf;rcases hf with rfl|rfl|rfl|rfl
 .exact e0f h2
 .exact d9B h3
 .exact d9H h4
 .exact e0e h5
variable {k:Nat}
theorem d9Y(hp:a4w k=some a2l):a1p (λ N=>(Lp N).cbv) k (d3p 65536 1 3 196608 (λ x y=>[⟨0,[(x,3),(y,-1)]⟩])):=
 b0o hp (by decide) (by decide) (by decide) (by decide) λ ρ h0 h3 a g hg=>by
  rw[az7.1 hg];refine⟨λ p hp=> ?_,?_⟩
  .simp only[ay4,av0,ar1]at hp;rcases hp with rfl|rfl
   .exact h0
   .exact h3
  .show(0:Int)<=0+(3*ρ 0+(-1*ρ 3+0));have:ρ 3<=ρ 0*3:=a;omega
theorem d9K(hp:a4w k=some a2l):a1p (λ N=>(Lp N).cbv) k (d3p 16384 16384 16384 268435456 (λ _ _=>[])):=
 b0o hp (by decide) (by decide) (by decide) (by decide) nofun
theorem d9v(hp:a4w k=some a2l):a1p (λ N=>(Lp N).cbv) k (d3p 1048576 1048576 1048576 1099511627776 (λ _ _=>[])):=
 b0o hp (by decide) (by decide) (by decide) (by decide) nofun
theorem d1d:a1p (λ N=>(Lp N).cbv) r461.k r461.c:=λ ρ xs bs _ _ hx hb=>by
 have e1:xs=[]:=ay7.1 hx.1.symm;have e2:bs=[]:=ay7.1 hb.1.symm;subst e1;subst e2;obtain⟨N,hN⟩:=SE.a68.2;exact⟨N,_,[],hN,_,az7.2 rfl,ρ,λ _ _=>rfl,ay3 _,(nofun),(nofun),.pa (.ce (.av rfl (.bool av5 rfl)) nofun nofun),⟨rfl,λ j a c ha=>by have ha:([]:List (List Ce))[j]?=some a:=ha;simp at ha⟩⟩
abbrev RO:=RowsOk P0 a4w inlS rows
theorem RO.m{lo:Nat}(h:RO lo)(n:Nat)(c:rk lo n=true):RO (lo+n):=h.more b2x n c
theorem RO.ext{n:Nat}(h:RO n){r:Row}(hr:rows[n]?=some r)(h1:a1p (λ N=>(Lp N).cbv) r.k r.c):RO (n+1):=h.one λ a e=>by
 rw[hr]at e;cases e;exact h1
theorem k0:RO 0:=λ i r h=>absurd h (as0 i)
theorem k1:RO 1:=RO.ext k0 (r:=r0) rfl (c4P rfl)
theorem k2:RO 2:=RO.ext k1 (r:=r1) rfl (b6H rfl)
theorem k3:RO 3:=RO.ext k2 (r:=r2) rfl (c4c rfl)
theorem k4:RO 4:=RO.ext k3 (r:=r3) rfl (c2t rfl)
theorem k5:RO 5:=RO.ext k4 (r:=r4) rfl (b6z rfl)
theorem k6:RO 6:=RO.ext k5 (r:=r5) rfl (b6H rfl)
theorem k7:RO 7:=RO.ext k6 (r:=r6) rfl (b5y rfl)
theorem k8:RO 8:=RO.ext k7 (r:=r7) rfl (b2n rfl (by decide) (by decide) (by decide))
theorem k9:RO 9:=RO.ext k8 (r:=r8) rfl (b2n rfl (by decide) (by decide) (by decide))
theorem k10:RO 10:=RO.ext k9 (r:=r9) rfl (b6z rfl)
theorem k11:RO 11:=RO.ext k10 (r:=r10) rfl (b5y rfl)
theorem k12:RO 12:=RO.ext k11 (r:=r11) rfl (c3C rfl)
theorem k13:RO 13:=RO.ext k12 (r:=r12) rfl (a8o (.inl rfl) rfl)
theorem k14:RO 14:=RO.ext k13 (r:=r13) rfl (a8o (.inr rfl) rfl)
theorem k15:RO 15:=RO.ext k14 (r:=r14) rfl (b1M (.inl rfl) rfl)
theorem k16:RO 16:=RO.ext k15 (r:=r15) rfl (b1M (.inr rfl) rfl)
theorem k17:RO 17:=RO.ext k16 (r:=r16) rfl (a8o (.inl rfl) rfl)
theorem k18:RO 18:=RO.ext k17 (r:=r17) rfl (a5J rfl (by decide) (by decide))
theorem k19:RO 19:=RO.ext k18 (r:=r18) rfl (a5J rfl (by decide) (by decide))
theorem k20:RO 20:=RO.ext k19 (r:=r19) rfl (a5J rfl (by decide) (by decide))
theorem k21:RO 21:=RO.ext k20 (r:=r20) rfl (a5J rfl (by decide) (by decide))
theorem k22:RO 22:=RO.ext k21 (r:=r21) rfl (a5J rfl (by decide) (by decide))
theorem k23:RO 23:=RO.ext k22 (r:=r22) rfl (d9Y rfl)
theorem k24:RO 24:=RO.ext k23 (r:=r23) rfl (d9K rfl)
theorem k25:RO 25:=RO.ext k24 (r:=r24) rfl (d9v rfl)
theorem k26:RO 26:=RO.ext k25 (r:=r25) rfl (b4U rfl (by decide))
theorem k27:RO 27:=RO.ext k26 (r:=r26) rfl (b0T rfl (by decide))
theorem k28:RO 28:=RO.ext k27 (r:=r27) rfl (b0T rfl (by decide))
theorem k29:RO 29:=RO.ext k28 (r:=r28) rfl (a6W (.inl rfl) rfl)
theorem k30:RO 30:=RO.ext k29 (r:=r29) rfl (a6W (.inr rfl) rfl)
theorem k31:RO 31:=RO.ext k30 (r:=r30) rfl (b0t (.inl rfl) rfl)
theorem k32:RO 32:=RO.ext k31 (r:=r31) rfl (b0t (.inr rfl) rfl)
theorem k33:RO 33:=RO.ext k32 (r:=r32) rfl (a6W (.inl rfl) rfl)
theorem k34:RO 34:=RO.ext k33 (r:=r33) rfl (c7X rfl (by decide))
theorem k35:RO 35:=RO.ext k34 (r:=r34) rfl (d3z rfl)
theorem k36:RO 36:=RO.ext k35 (r:=r35) rfl (d7k rfl)
theorem k37:RO 37:=RO.ext k36 (r:=r36) rfl (d3z rfl)
theorem k38:RO 38:=RO.ext k37 (r:=r37) rfl (e0h rfl)
theorem k39:RO 39:=RO.ext k38 (r:=r38) rfl (c3N rfl)
theorem k40:RO 40:=RO.ext k39 (r:=r39) rfl (c6d rfl)
theorem k53:RO 53:=k40.m 13 rA40
theorem k56:RO 56:=k53.m 3 rA53
theorem k57:RO 57:=RO.ext k56 (r:=r56) rfl (c1S rfl)
theorem k62:RO 62:=k57.m 5 rA57
theorem k67:RO 67:=k62.m 5 rA62
theorem k72:RO 72:=k67.m 5 rA67
theorem k75:RO 75:=k72.m 3 rA72
theorem k77:RO 77:=k75.m 2 rA75
theorem k78:RO 78:=k77.m 1 rA77
theorem k85:RO 85:=k78.m 7 rA78
theorem k90:RO 90:=k85.m 5 rA85
theorem k95:RO 95:=k90.m 5 rA90
theorem k99:RO 99:=k95.m 4 rA95
theorem k100:RO 100:=k99.m 1 rA99
theorem k101:RO 101:=k100.m 1 rA100
theorem k106:RO 106:=k101.m 5 rA101
theorem k113:RO 113:=k106.m 7 rA106
theorem k121:RO 121:=k113.m 8 rA113
theorem k124:RO 124:=k121.m 3 rA121
theorem k127:RO 127:=k124.m 3 rA124
theorem k129:RO 129:=k127.m 2 rA127
theorem k131:RO 131:=k129.m 2 rA129
theorem k134:RO 134:=k131.m 3 rA131
theorem k135:RO 135:=k134.m 1 rA134
theorem k136:RO 136:=k135.m 1 rA135
theorem k144:RO 144:=k136.m 8 rA136
theorem k145:RO 145:=k144.m 1 rA144
theorem k147:RO 147:=k145.m 2 rA145
theorem k149:RO 149:=k147.m 2 rA147
theorem k151:RO 151:=k149.m 2 rA149
theorem k153:RO 153:=k151.m 2 rA151
theorem k158:RO 158:=k153.m 5 rA153
theorem k164:RO 164:=k158.m 6 rA158
theorem k167:RO 167:=k164.m 3 rA164
theorem k168:RO 168:=k167.m 1 rA167
theorem k169:RO 169:=k168.m 1 rA168
theorem k170:RO 170:=k169.m 1 rA169
theorem k171:RO 171:=k170.m 1 rA170
theorem k173:RO 173:=k171.m 2 rA171
theorem k174:RO 174:=k173.m 1 rA173
theorem k175:RO 175:=k174.m 1 rA174
theorem k176:RO 176:=k175.m 1 rA175
theorem k177:RO 177:=k176.m 1 rA176
theorem k178:RO 178:=k177.m 1 rA177
theorem k179:RO 179:=k178.m 1 rA178
theorem k187:RO 187:=k179.m 8 rA179
theorem k193:RO 193:=k187.m 6 rA187
theorem k195:RO 195:=k193.m 2 rA193
theorem k196:RO 196:=k195.m 1 rA195
theorem k197:RO 197:=k196.m 1 rA196
theorem k198:RO 198:=k197.m 1 rA197
theorem k206:RO 206:=k198.m 8 rA198
theorem k208:RO 208:=k206.m 2 rA206
theorem k218:RO 218:=k208.m 10 rA208
theorem d9z:RO 221:=k218.m 3 rA218
theorem k222:RO 222:=RO.ext d9z (r:=d9e) rfl (c4Q rfl rfl rfl rfl rfl rfl rfl)
theorem k223:RO 223:=k222.m 1 rA222
theorem k227:RO 227:=k223.m 4 rA223
theorem k229:RO 229:=k227.m 2 rA227
theorem k231:RO 231:=k229.m 2 rA229
theorem k232:RO 232:=k231.m 1 rA231
theorem k233:RO 233:=k232.m 1 rA232
theorem k243:RO 243:=k233.m 10 rA233
theorem k249:RO 249:=k243.m 6 rA243
theorem k254:RO 254:=k249.m 5 rA249
theorem k264:RO 264:=k254.m 10 rA254
theorem k267:RO 267:=k264.m 3 rA264
theorem k273:RO 273:=k267.m 6 rA267
theorem k275:RO 275:=k273.m 2 rA273
theorem k276:RO 276:=k275.m 1 rA275
theorem k284:RO 284:=k276.m 8 rA276
theorem k292:RO 292:=k284.m 8 rA284
theorem k296:RO 296:=k292.m 4 rA292
theorem k307:RO 307:=k296.m 11 rA296
theorem k310:RO 310:=k307.m 3 rA307
theorem k318:RO 318:=k310.m 8 rA310
theorem k323:RO 323:=k318.m 5 rA318
theorem k327:RO 327:=k323.m 4 rA323
theorem k328:RO 328:=k327.m 1 rA327
theorem k329:RO 329:=k328.m 1 rA328
theorem k335:RO 335:=k329.m 6 rA329
theorem k342:RO 342:=k335.m 7 rA335
theorem k343:RO 343:=k342.m 1 rA342
theorem k344:RO 344:=k343.m 1 rA343
theorem k345:RO 345:=k344.m 1 rA344
theorem k346:RO 346:=k345.m 1 rA345
theorem k350:RO 350:=k346.m 4 rA346
theorem k354:RO 354:=k350.m 4 rA350
theorem k356:RO 356:=k354.m 2 rA354
theorem k361:RO 361:=k356.m 5 rA356
theorem k362:RO 362:=k361.m 1 rA361
theorem k363:RO 363:=k362.m 1 rA362
theorem k368:RO 368:=k363.m 5 rA363
theorem k373:RO 373:=k368.m 5 rA368
theorem k374:RO 374:=k373.m 1 rA373
theorem k379:RO 379:=k374.m 5 rA374
theorem k384:RO 384:=k379.m 5 rA379
theorem k385:RO 385:=k384.m 1 rA384
theorem k388:RO 388:=k385.m 3 rA385
theorem k389:RO 389:=k388.m 1 rA388
theorem k392:RO 392:=k389.m 3 rA389
theorem k393:RO 393:=k392.m 1 rA392
theorem k399:RO 399:=k393.m 6 rA393
theorem k401:RO 401:=k399.m 2 rA399
theorem k402:RO 402:=k401.m 1 rA401
theorem k408:RO 408:=k402.m 6 rA402
theorem k416:RO 416:=k408.m 8 rA408
theorem k421:RO 421:=k416.m 5 rA416
theorem k422:RO 422:=k421.m 1 rA421
theorem k426:RO 426:=k422.m 4 rA422
theorem k427:RO 427:=k426.m 1 rA426
theorem k433:RO 433:=k427.m 6 rA427
theorem k440:RO 440:=k433.m 7 rA433
theorem k445:RO 445:=k440.m 5 rA440
theorem d7K:rk 445 1=true:=by
 have h:b7y P0 prL inlS aI rows 445=true:=b7L (n:=6) (by decide) (by decide+kernel) λ p hp=>by
  match p,hp with
  |0,_=>exact pA0
  |1,_=>exact pA1
  |2,_=>exact pA2
  |3,_=>exact pA3
  |4,_=>exact pA4
  |5,_=>exact pA5
  |p+6,hp=>omega
 simpa[rk]using h
theorem k446:RO 446:=k445.m 1 d7K
theorem d8r:RO 448:=k446.m 2 rA446
theorem k449:RO 449:=RO.ext d8r (r:=d8W) rfl (c7A rfl kit (d9G (d8r 447 _ (by omega) rfl) (d8r 392 _ (by omega) rfl)))
theorem k453:RO 453:=k449.m 4 rA449
theorem k454:RO 454:=k453.m 1 rA453
theorem k455:RO 455:=k454.m 1 rA454
theorem k459:RO 459:=k455.m 4 rA455
theorem k460:RO 460:=k459.m 1 rA459
theorem d9A:RO 461:=k460.m 1 rA460
theorem d3Z:RO 462:=RO.ext d9A (r:=r461) rfl (d1d)
theorem k463:RO 463:=RO.ext d3Z (r:=d8J) rfl (c7S (c6x rfl rfl rfl rfl rfl rfl irs (rds (d3Z 261 _ (by omega) rfl) (d3Z 270 _ (by omega) rfl) (d3Z 293 _ (by omega) rfl) (d3Z 442 _ (by omega) rfl))))
theorem k470:RO 470:=k463.m 7 rA463
theorem k472:RO 472:=k470.m 2 rA470
theorem k477:RO 477:=k472.m 5 rA472
theorem k479:RO 479:=k477.m 2 rA477
theorem k482:RO 482:=k479.m 3 rA479
theorem k483:RO 483:=k482.m 1 rA482
theorem k484:RO 484:=k483.m 1 rA483
theorem k485:RO 485:=k484.m 1 rA484
theorem k486:RO 486:=k485.m 1 rA485
theorem k487:RO 487:=k486.m 1 rA486
theorem k488:RO 488:=k487.m 1 rA487
theorem k489:RO 489:=k488.m 1 rA488
theorem a8S:RO 489:=k489
end
end Go.SN
