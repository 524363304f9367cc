/- Lemmas for TopSound and TopBracket. -/
import Derived.Test.YtpgglolpkbepjaaGreatTBQ
set_option linter.unusedVariables false
set_option linter.unusedSimpArgs false
namespace Go.Hl
open Go.Proofs.Tryz
open Go.Proofs.Tryz renaming prog→a0c
open Option renaming some→T',none→Y'
open Bool renaming true→Z',false→a0a
set_option maxRecDepth 100000
set_option maxHeartbeats 8000000
theorem Mn{a b:Int}:dc a b<=0↔a<=b:=by unfold dc;repeat' split<;>omega
def tv(j:JN)(k:Nat):Int×LK:=(jP j.E j.A+k,aX j.F.toNat 128 (pY (jP j.E j.A+k)))
theorem aa5{f m Y:Nat}(hY:0<Y)(ab:Y<2^126)(a1:1<=m)(a2:m<=128)(p:Int):(DR (fi (p,aX f m Y))/\iO (fi (p,aX f m Y))=wI (aX f m Y).most (aX f m Y).s)/\DR (eO (p,aX f m Y))/\iO (eO (p,aX f m Y))=wI (aX f m Y).least (aX f m Y).s:=by
 have w:=yL (f:=f) hY ab a1 a2;obtain⟨R,hR⟩:=nm (aX f m Y);rw[hR]at w|-;have s:=w.s;have s9:R.s<=900:=f';have s2:R.s<=2000:=f';exact⟨⟨Ax w.pE.2 s.1 s9,Ay (z:=R.most) (s:=R.s) s2⟩,Ax w.pE.1 s.1 s9,Ay (z:=R.least) (s:=R.s) s2⟩
theorem UN{j:JN}{T:Nat}(af:nT j.F j.E j.A j.B j.M)(ao:JT j.F j.E j.A j.B j.M)(hT:j.B-j.A=T)(hn:0<(dj j T).length):
 (∀k,k<T->¬mg (fi (tv j k)) (dx (dj j T)).1<0)/\(∃k,k<T/\mg (eO (tv j k)) (dx (dj j T)).2<=0)/\mg (dx (dj j T)).1 (dx (dj j T)).2<=0/\ur (dx (dj j T)).1 j.M a0a=true:=by
 have ab:=wu af ao hT;obtain⟨q1,q2,q3,q4,q5,q6⟩:=af;have a1:1<=j.M.toNat:=f';have a2:j.M.toNat<=128:=f';obtain⟨d1,d2,_⟩:=LQ (f:=j.F.toNat) ab a1 a2 hn;obtain⟨w1,⟨i,hi,w2⟩,w3,w4⟩:=UM (f:=j.F.toNat) ab a1 a2 hn;have e:dj j T=aP j.F.toNat j.M.toNat (jP j.E j.A) T:=rfl;rw[e];generalize dx (aP j.F.toNat j.M.toNat (jP j.E j.A) T)=b at*;have hl:∀k,k<T->_:=λk hk=>aa5 (f:=j.F.toNat) (m:=128) (pN (ab k hk)).2.2 (pN (ab k hk)).2.1 p' p' (jP j.E j.A+k)
 refine⟨λk hk=>?_,⟨i,hi,?_⟩,?_,?_⟩
 .obtain⟨⟨h1,h2⟩,_⟩:=hl k hk
  unfold tv;rw[At h1 d1,h2,C9];have:=w1 k hk;omega
 .obtain⟨_,h1,h2⟩:=hl i hi
  unfold tv;rw[At h1 d2,h2,Mn];exact w2
 .rw[At d1 d2,Mn]
  exact w3
 .rw[Lz d1 f' f']
  refine fu ?_;rw[aq p',vt];exact w4
def tM(j:JN)(d:Int×Int):Nat->Bool
 |0=>a0a
 |k+1=>tM j d k||decide (mg (eO (tv j k)) d<=0)
theorem Q4{j:JN}{d:Int×Int}{i:Nat}(h:mg (eO (tv j i)) d<=0):∀T,i<T->tM j d T=Z'
 |0,hi=>f'
 |T+1,hi=>by
  show(tM j d T||decide (mg (eO (tv j T)) d<=0))=Z'
  by_cases e:i=T
  .rw[<-e,fu h,Bool.or_true]
  .rw[Q4 h T f',Bool.true_or]
section
open Go Go.RowKit Go.Proofs
theorem Zw{F E A B M:Int}(bD:JT F E A B M):aA a0c 4 [.agg [(F:Int),(E:Int),.r (.int .u64 A),.r (.int .u64 B),(M:Int)]] .cQ (λr _=>r=.r (.bool Z')):=by
 obtain⟨aw,bx⟩:=MA bD;obtain⟨B',bz⟩:=nm (qu A B);rw[bz]at aw bx;obtain⟨r1,r2,r3,r4,r5⟩:=id bD;have hE:=MS MB ET yU look_ok QK LA Dc GR;refine aA.sJ hE func4 ntmps4 results4 (λen b9=>?_);have bN:∀b,¬en.fp b:=b9;refine aE ?_;refine aa.bG ?_;refine GL.call (ag a0a) Sb rfl rfl func5 rfl p' rfl rfl (λt ht=>by cases ht;decide) (λr R0 hp=>?_);subst hp;refine⟨rfl,?_⟩;refine az 1 ?_;refine gN ?_;refine a9 (A5 r3.1 r3.2 r4.1 r4.2 bz) ?_
 by_cases hJV:JV F E A B' M
 rotate_left
 .have bs:(if JV F E A B' M then(0:Int)else 4)=4:=aq hJV
  have bT:((4:Int)!=0)=true:=rfl;refine aa.seq (a9 (A3 aw bs bT) ?_);refine aa.eo rfl ?_;refine aE ?_;refine aa.ret ?_;change dM (ag a0a) [.tmp 2] [4] (λr _=>r=.r (.bool Z')) _ _ R0;exact dM.of rfl (aO.mk a0b rfl)
 have bB:=hJV.1;obtain⟨q1,q2,q3,q4,q5,q6⟩:=id bB;obtain⟨T,hT⟩:∃T:Nat,B'-A=T:=⟨(B'-A).toNat,f'⟩;have cc:=bx bB;have a5:((0:Int)!=0)=false:=rfl;obtain⟨j,hj⟩:∃j:JN,(⟨F,E,A,B',M⟩:JN)=j:=⟨_,rfl⟩;have ax:JT j.F j.E j.A j.B j.M:=by rw[<-hj];exact aw
 have ay:JV j.F j.E j.A j.B j.M:=by rw[<-hj];exact hJV
 have bc:j.B-j.A=T:=by rw[<-hj];exact hT
 have cE:j.cs=[.r (.int .i64 F),.r (.int .i64 E),.r (.int .u64 A),.r (.int .u64 B'),.r (.int .i64 M)]:=by rw[<-hj];rfl
 have ao:=λd=>II (d:=d) (n:=200) ax ay bc f' f' (.inr rfl)
 have a1:=wu ay.1 ax bc;have a0:=UN ay.1 ax bc;have bY:(dj j T).length<=T:=vY _ _ _ _;have hw:=AW (f:=j.F.toNat) (M:=j.M.toNat) a1 (by rw[<-hj];dsimp only;omega) (by rw[<-hj];dsimp only;omega);have hd:=Dy (f:=j.F.toNat) (M:=j.M.toNat) a1 (by rw[<-hj];dsimp only;omega) (by rw[<-hj];dsimp only;omega);have b4:=Ba ay.1 ax;obtain⟨H,hH⟩:=nm (dj j T);have bX:aP j.F.toNat j.M.toNat (jP j.E j.A) T=H:=hH;rw[bX]at hw hd;rw[hH]at a0 bY;simp only[hH]at ao;obtain⟨N,hN⟩:=nm (H.length);have bw:=Eu b4 (H:=H) hN f' hw hd.1 hd.2;obtain⟨C,hC⟩:=nm (gn j H);rw[hC]at bw;simp only[hC]at ao;rw[cE]at bw;simp only[cE]at ao;have bs:(if JV F E A B' M then(0:Int)else 4)=0:=au hJV;refine aa.seq (a9 (A3 aw bs a5) ?_);refine gF ?_;refine aa.seq (aa.Ji hE.hm ?_);refine jY.two 0 2 #[.const (.int .i64 200)] #[.tmp 21,.tmp 22] (List.replicate 4 Y') [(1,1)] [] [] (aas0:=[.r (.int .i64 200)]) (aas1:=λr=>[r,.agg [(F:Int),(E:Int),.r (.int .u64 A),.r (.int .u64 B'),(M:Int)]]) (post0:=λr R'=>∃b,r=.r (.pointer (T' ⟨b,0,Y'⟩))/\R'=R0.star (aZ b 200 (λ_=>Zb) 0)) (post1:=λr R' r' a4=>∃v R1,r'=.r v/\a4=GA.star R1 (dE v C)) hE rfl rfl rfl ((eR.call ((GJ 200 p' p').n9 R0 (GA.qB _)) rfl func9 rfl p').mono (λr R'⟨R1,⟨b,h1,h2⟩,h3⟩=>⟨b,h1,by rw[h3,h2]⟩)) (λr R' hp=>?_) ⟨_,_,0,rfl,rfl⟩ (λr R' _=>⟨_,_,.int .i64 0,GA.cQ,rfl,rfl⟩) (ki ⟨_,rfl⟩) (λr R' r' a4 b6 b7=>?_)
 .obtain⟨b,rfl,rfl⟩:=hp
  exact(eR.call ((ao b).n9 R0 (GA.le.refl _)) rfl func8 rfl p').mono (λr' a4⟨R1,⟨v,R2,h1,h2⟩,h3⟩=>⟨v,R0.star R2,h1,by rw[h3,h2];exact(GA.EN _ _ _).symm⟩)
 obtain⟨b,rfl,rfl⟩:=b6;obtain⟨v,R1,rfl,rfl⟩:=b7;refine⟨rfl,rfl,?_⟩;simp only[lK,xB,xC,ck,fl,dF,gO,iv,Nat.reduceAdd];refine jt a0b ?_;show aa _ _ _ _ _ _ _ _;refine aa.ja (eZ.th (t:=4) bN rfl p') ?_;refine aa.bG ?_;refine az 1 ?_;refine pD (ag a0a) R1 bw (GA.qB _) func10 (λr R' hp=>?_);obtain⟨v2,rfl,rfl⟩:=hp;refine⟨rfl,?_⟩;refine az 14 ?_;refine gN ?_;refine aa.ja (eZ.Ht (t:=6) (r:=.sl 14 N (kZ H)) (λw fp X _ b hb=>absurd hb (bN b)) (λw fp X h=>IV w fp X h) rfl p' rfl) ?_;have hlen:=uG (H.map od);rw[fJ,hN]at hlen;have hlen:(kZ H).length=N*14:=hlen;obtain⟨CS,bU⟩:=nm (kZ H);rw[bU]at hlen|-;have b1:(E+1023)*4503599627370496+A=jP j.E j.A:=by rw[<-hj];rfl
 have bW:F.toNat=j.F.toNat:=by rw[<-hj]
 have b0:j.M=M:=by rw[<-hj]
 obtain⟨D1,a6⟩:=nm ((dx H).1);obtain⟨D2,a7⟩:=nm ((dx H).2);rw[a6,a7]at a0 hd;have bK:N=0->D1.1=0/\D2.1=0:=λh0=>by
  have e:dx H=((0,0),(0,0)):=au f';rw[<-a6,<-a7,e];exact⟨rfl,rfl⟩
 rw[a6,a7];obtain⟨z1,e1⟩:=D1;obtain⟨z2,e2⟩:=D2;obtain⟨⟨x1,⟨x2,x3⟩,_⟩,⟨y1,⟨y2,y3⟩,_⟩⟩:=hd;dsimp only at x1 x2 x3 y1 y2 y3 bK|-;have m1:=gY (n:=z1.natAbs) f';have m2:=gY (n:=z2.natAbs) f';have v1:=cI z1;have a3:=cI z2;have bR:((0:Int)==0)=true:=rfl;refine aa.of (T:=ag a0a) ?_;refine ai.seq (ai.seq ?_);refine cy a5 ?_;refine aF ?_
 by_cases hN0:N=0
 .obtain⟨w1,w2⟩:=bK hN0
  have s1:z1.sign=0:=by rw[w1];rfl
  have s2:z2.sign=0:=by rw[w2];rfl
  have bb:((N:Int)==0)=true:=by rw[hN0];rfl
  refine ai.seq (ai.seq ?_);refine cy bb ?_;refine ai.eo rfl ?_;refine gl (A7 m1 m2 v1 a3 s1 s2 bR) ?_;refine ai.ret ?_;change dM (ag a0a) [.tmp 2] [4] (λr _=>r=.r (.bool Z')) _ _ R1;exact dM.of rfl (aO.mk a0b rfl)
 obtain⟨n1,⟨i0,b3,n2⟩,n3,n4⟩:=a0 f';have bP:=Q4 n2 T b3;rw[b0]at n4;have bb:((N:Int)==0)=false:=by
  have:¬(N:Int)=0:=f';simpa using this
 obtain⟨FF,bA⟩:=nm (j.F.toNat);have bV:F.toNat=FF:=bW.trans bA;refine ai.seq (ai.seq ?_);refine cy bb ?_;refine aF ?_;refine ig ?_;refine ai.seq (ai.seq ?_);refine aT ?_;refine ai.block ?_;refine ai.loop (ι:={k:Nat // k<=T}) (λk=>⟨[(1,.ptr 1 0),(7,.ptr 7 0),(8,.ptr 8 0),(10,tM j (z2,e2) k.1),(11,.r (.int .u64 (A+(k.1:Int))))],
  [(1,⟨Z',.c [(F:Int),(E:Int),.r (.int .u64 A),.r (.int .u64 B'),(M:Int)]⟩),(7,⟨Z',.c [decide (z1<0),dg z1.natAbs,(e1:Int)]⟩),(8,⟨Z',.c [decide (z2<0),dg z2.natAbs,(e2:Int)]⟩)]⟩) (λk=>T-k.1) ⟨0,dU _⟩ ?_ ?_
 .have z:A+((0:Nat):Int)=A:=vt A
  have zs:tM j (z2,e2) 0=false:=rfl;dsimp only;rw[z,zs];exact Le.mk a0b
 rintro⟨k,hk⟩;dsimp only
 by_cases hlt:k<T
 .have b5:A+(k:Int)<B':=f'
  have af:=n1 k hlt;have pd:=a1 k hlt;obtain⟨_,y8,y7⟩:=pN pd;have w:=yL (f:=FF) (m:=128) y7 y8 p' p';have ab:tM j (z2,e2) (k+1)=(tM j (z2,e2) k||decide (mg (eO (tv j k)) (z2,e2)<=0)):=rfl;unfold tv at af ab;rw[bA]at af ab;have hP:(E+1023)*4503599627370496+(A+(k:Int))=jP j.E j.A+k:=by rw[<-b1];omega
  obtain⟨p,hp⟩:=nm (jP j.E j.A+(k:Int));rw[hp]at af pd w ab hP;obtain⟨R8,bE⟩:=nm (aX FF 128 (pY p));rw[bE]at af w ab;have s8:=w.s;obtain⟨o8,ca⟩:=w.pE.2.oq f';obtain⟨o9,bQ⟩:=w.pE.1.oq f';have s9:R8.s<=900:=f';have d8:=qA w.pE.2 s8.1 s9;have d9:=qA w.pE.1 s8.1 s9;have u1:=cI R8.most;have u2:=cI R8.least;unfold fi at af;unfold eO at ab;dsimp only at af ab;obtain⟨m8,bO⟩:=nm (ct R8.most);obtain⟨e8,bM⟩:=nm (cH R8.most (0-R8.s));obtain⟨m9,bu⟩:=nm (ct R8.least);obtain⟨e9,br⟩:=nm (cH R8.least (0-R8.s));rw[bO,bM]at af d8;rw[bu,br]at ab d9;have l8:=d8.1.oq f';have l9:=d9.1.oq f';have d81:=d8.2.1;have d82:=d8.2.2;have d91:=d9.2.1;have d92:=d9.2.2;dsimp only at d81 d82 l8 d91 d92 l9;have u3:=cI m8;have u4:=cI m9;unfold mg at af ab;dsimp only at af ab;obtain⟨X8,bF⟩:=nm (m8*2^sh (ce m8 e8-min (ce m8 e8) (ce z1 e1)));obtain⟨Y8,bH⟩:=nm (z1*2^sh (ce z1 e1-min (ce m8 e8) (ce z1 e1)));obtain⟨X9,bd⟩:=nm (m9*2^sh (ce m9 e9-min (ce m9 e9) (ce z2 e2)));obtain⟨Y9,bm⟩:=nm (z2*2^sh (ce z2 e2-min (ce m9 e9) (ce z2 e2)));rw[bF,bH]at af;rw[bd,bm]at ab;obtain⟨c8,bL⟩:=nm (dc X8 Y8);obtain⟨c9,bn⟩:=nm (dc X9 Y9);rw[bL]at af;rw[bn]at ab;clear a0 bP n1 n2 n3 n4 w d8 d9 a1 ao hw;refine ai.seq (ai.seq ?_);refine cy b5 ?_;refine ai.eo rfl (ai.skip ?_);change ai _ _ _ (.seq _ _) _ _;refine ai.seq (ai.block ?_);refine aH [(1,1)] [(12,9)] [(58,0,1)] (A6 q1.1 q1.2 pd hP bV bE) ?_;refine ai.seq (ai.seq ?_);refine ai.regionF [] [] [] hE.hT hE.hS hE.hm gy (mw hE (SK a5 o8 ca s8.1 s8.2 u1 bO bM l8.1 l8.2 d81 d82 u3 m1 v1 bF bH bL af) ?_);refine aF ?_;refine ai.dS (σ':=⟨[(1,.ptr 1 0),(7,.ptr 7 0),(8,.ptr 8 0),(10,tM j (z2,e2) k),(11,.r (.int .u64 (A+(k:Int)))),(12,.ptr 12 0)],
   [(1,⟨Z',.c [(F:Int),(E:Int),.r (.int .u64 A),.r (.int .u64 B'),(M:Int)]⟩),(7,⟨Z',.c [decide (z1<0),dg z1.natAbs,(e1:Int)]⟩),(8,⟨Z',.c [decide (z2<0),dg z2.natAbs,(e2:Int)]⟩),(12,⟨Z',.c [decide (R8.lo<0),dg R8.lo.natAbs,decide (R8.hi<0),dg R8.hi.natAbs,.r (.int .i64 R8.q),.r (.int .i64 R8.k),.r (.int .i64 R8.e),.r (.int .i64 R8.s),decide (R8.least<0),dg R8.least.natAbs,decide (R8.most<0),dg R8.most.natAbs,.r (.bool R8.gV)]⟩)]⟩) (Le.mk a0b) ?_
  have bt:A+((k+1:Nat):Int)=A+(k:Int)+1:=f';cases hs:tM j (z2,e2) k with
  |true=>
   rw[hs,Bool.true_or]at ab;refine ai.regionF [] [] [] hE.hT hE.hS hE.hm gy (mw hE a0b ?_);change ai _ _ _ _ _ _;refine aT ?_;refine⟨⟨k+1,f'⟩,?_,N'⟩;dsimp only;rw[ab,bt];exact Le.mk a0b
  |false=>
   rw[hs,Fl]at ab
   by_cases hc:c9<=0
   .rw[fu hc]at ab
    refine ai.regionF [] [] [] hE.hT hE.hS hE.hm gy (mw hE (A2 (JQ o9 bQ s8.1 s8.2 u2 bu br l9.1 l9.2 d91 d92 u4 m2 a3 bd bm bn) hc) ?_);change ai _ _ _ _ _ _;refine aT ?_;refine⟨⟨k+1,f'⟩,?_,N'⟩;dsimp only;rw[ab,bt];exact Le.mk a0b
   .rw[lG hc]at ab
    refine ai.regionF [] [] [] hE.hT hE.hS hE.hm gy (mw hE (A2 (JQ o9 bQ s8.1 s8.2 u2 bu br l9.1 l9.2 d91 d92 u4 m2 a3 bd bm bn) hc) ?_);change ai _ _ _ _ _ _;refine aT ?_;refine⟨⟨k+1,f'⟩,?_,N'⟩;dsimp only;rw[ab,bt];exact Le.mk a0b
 obtain rfl:k=T:=f';have eJ:¬A+(k:Int)<B':=f';refine ai.seq (ai.seq ?_);refine cy eJ ?_;refine ai.dz rfl (ai.exit ?_);change ai _ _ _ (.seq _ _) _ _;unfold mg at n3;dsimp only at n3;obtain⟨X,hX⟩:=nm (z1*2^sh (ce z1 e1-min (ce z1 e1) (ce z2 e2)));obtain⟨Y,hY⟩:=nm (z2*2^sh (ce z2 e2-min (ce z1 e1) (ce z2 e2)));rw[hX,hY]at n3;obtain⟨c,hc⟩:=nm (dc X Y);rw[hc]at n3;rw[bP];refine gl (JO m1 m2 x1 y1 v1 a3 hX hY hc n3 n4) ?_;refine ai.ret ?_;change dM (ag a0a) [.tmp 2] [4] (λr _=>r=.r (.bool Z')) _ _ R1;exact dM.of rfl (aO.mk a0b rfl)
end
end Go.Hl
