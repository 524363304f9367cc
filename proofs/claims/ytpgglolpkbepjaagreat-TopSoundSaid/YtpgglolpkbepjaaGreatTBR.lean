/- Lemmas for TopSound and TopBracket. -/
import Derived.Test.YtpgglolpkbepjaaGreatTBQ
set_option linter.unusedVariables false
set_option linter.unusedSimpArgs false
namespace Go.Hl
open Go.Proofs.Tryz
open Go.Proofs.Tryz renaming prog→a0c
open Option renaming some→T',none→Y'
open Bool renaming true→Z',false→a0a
set_option maxRecDepth 100000
set_option maxHeartbeats 8000000
structure SF(j:JN)(T:Nat)(h:Int×LK):Prop where
 pd:PD h.1
 lo:jP j.E j.A<=h.1
 hi:h.1<jP j.E j.A+T
 lk:Cw j.F.toNat j.M.toNat (pY h.1) h.2
 xS:ur (fi (h.1,aX j.F.toNat 128 (pY h.1))) j.M Z'=Z'
 ah5:Cw j.F.toNat 128 (pY h.1) (aX j.F.toNat 128 (pY h.1))
 m1:h.2.lo*2^(700-h.2.q).toNat<=(cD j.F.toNat 700 (pY h.1)).1.2
 m2:(cD j.F.toNat 700 (pY h.1)).1.1<=h.2.hi*2^(700-h.2.q).toNat
 kk:(cD j.F.toNat 700 (pY h.1)).2=h.2.k
theorem acI{j:JN}{T k:Nat}(ab:nT j.F j.E j.A j.B j.M)(ao:JT j.F j.E j.A j.B j.M)(hT:j.B-j.A=T)(hk:k<(dj j T).length):SF j T ((dj j T).getD k h0):=by
 have af:=wu ab ao hT;obtain⟨q1,q2,q3,q4,q5,q6⟩:=ab;have hm:=AQ hk;obtain⟨h,hh⟩:=nm ((dj j T).getD k h0);rw[hh]at hm|-;obtain⟨w,wh,we,i,hi,hp⟩:=yw (f:=j.F.toNat) (M:=j.M.toNat) af f' f' hm;have pd:=af i hi;rw[<-hp]at pd;obtain⟨_,y2,y1⟩:=pN pd;have w8:=yL (f:=j.F.toNat) (m:=128) y1 y2 p' p';have hl:=YV (f:=j.F.toNat) (m:=j.M.toNat) y1 y2 f' f';obtain⟨N,hN⟩:=tG;obtain⟨_,_,a3⟩:=qo (f:=j.F.toNat) (q:=700) p' p' y1 y2 N hN;rw[<-we]at hl;refine⟨pd,f',f',w,?_,w8,hl.1,hl.2,by rw[a3,w.k]⟩;have nw:=aax (f:=j.F.toNat) (Y:=pY h.1) (m1:=j.M.toNat) (m2:=128) y1 y2 f' f' p' (by rw[<-we];exact wh);have s8:=w8.s;obtain⟨R,hR⟩:=nm (aX j.F.toNat 128 (pY h.1));rw[hR]at nw s8 w8|-;have hv:iO (ct R.most,cH R.most (0-R.s))=wI R.most R.s:=Ay (z:=R.most) (s:=R.s) f';show ur (ct R.most,cH R.most (0-R.s)) j.M Z'=Z';rw[Lz (Ax w8.pE.2 s8.1 f') f' f',au rfl,hv];exact fu nw
section
open Go Go.RowKit Go.Proofs
theorem Zv{F E A B M:Int}(bU:JT F E A B M):aA a0c 3 [.agg [(F:Int),(E:Int),.r (.int .u64 A),.r (.int .u64 B),(M:Int)]] .cQ (λr _=>r=.r (.bool Z')):=by
 obtain⟨a4,bL⟩:=MA bU;obtain⟨B',bM⟩:=nm (qu A B);rw[bM]at a4 bL;obtain⟨r1,r2,r3,r4,r5⟩:=id bU;have hE:=Dj MB ET yU look_ok RZ Lj QK LA YW;refine aA.sJ hE func3 ntmps3 results3 (λen c6=>?_);have b0:∀b,¬en.fp b:=c6;refine aE ?_;refine aa.bG ?_;refine GL.call (ag a0a) Sb rfl rfl func5 rfl p' rfl rfl (λt ht=>by cases ht;decide) (λr R0 hp=>?_);subst hp;refine⟨rfl,?_⟩;refine az 1 ?_;refine gN ?_;refine a9 (A5 r3.1 r3.2 r4.1 r4.2 bM) ?_
 by_cases hJV:JV F E A B' M
 rotate_left
 .have bB:(if JV F E A B' M then(0:Int)else 4)=4:=aq hJV
  have ca:((4:Int)!=0)=true:=rfl;refine aa.seq (a9 (A3 a4 bB ca) ?_);refine aa.eo rfl ?_;refine aE ?_;refine aa.ret ?_;change dM (ag a0a) [.tmp 2] [4] (λr _=>r=.r (.bool Z')) _ _ R0;exact dM.of rfl (aO.mk a0b rfl)
 have bT:=hJV.1;obtain⟨q1,q2,q3,q4,q5,q6⟩:=id bT;obtain⟨T,hT⟩:∃T:Nat,B'-A=T:=⟨(B'-A).toNat,f'⟩;have ds:=bL bT;have br:((0:Int)!=0)=false:=rfl;obtain⟨j,hj⟩:∃j:JN,(⟨F,E,A,B',M⟩:JN)=j:=⟨_,rfl⟩;have a5:JT j.F j.E j.A j.B j.M:=by rw[<-hj];exact a4
 have a6:JV j.F j.E j.A j.B j.M:=by rw[<-hj];exact hJV
 have bx:j.B-j.A=T:=by rw[<-hj];exact hT
 have cE:j.cs=[.r (.int .i64 F),.r (.int .i64 E),.r (.int .u64 A),.r (.int .u64 B'),.r (.int .i64 M)]:=by rw[<-hj];rfl
 have bb:=λd=>II (d:=d) (n:=200) a5 a6 bx f' f' (.inr rfl)
 have b1:=wu a6.1 a5 bx;have bd:∀k,k<(dj j T).length->SF j T ((dj j T).getD k h0):=λk hk=>acI a6.1 a5 bx hk
 have bc:∀k,k+1<(dj j T).length->((dj j T).getD k h0).1<((dj j T).getD (k+1) h0).1:=λk hk=>NK T k hk
 have bR:(dj j T).length<=T:=vY _ _ _ _;have hw:=AW (f:=j.F.toNat) (M:=j.M.toNat) b1 (by rw[<-hj];dsimp only;omega) (by rw[<-hj];dsimp only;omega);have hd:=Dy (f:=j.F.toNat) (M:=j.M.toNat) b1 (by rw[<-hj];dsimp only;omega) (by rw[<-hj];dsimp only;omega);have c0:=Ba a6.1 a5;obtain⟨H,hH⟩:=nm (dj j T);have ch:aP j.F.toNat j.M.toNat (jP j.E j.A) T=H:=hH;rw[ch]at hw hd;rw[hH]at bd bc bR;simp only[hH]at bb;obtain⟨N,hN⟩:=nm (H.length);have bF:=Eu c0 (H:=H) hN f' hw hd.1 hd.2;obtain⟨C,hC⟩:=nm (gn j H);rw[hC]at bF;simp only[hC]at bb;rw[cE]at bF;simp only[cE]at bb;have bB:(if JV F E A B' M then(0:Int)else 4)=0:=au hJV;refine aa.seq (a9 (A3 a4 bB br) ?_);refine gF ?_;refine aa.seq (aa.Ji hE.hm ?_);refine jY.two 0 2 #[.const (.int .i64 200)] #[.tmp 29,.tmp 30] (List.replicate 4 Y') [(1,1)] [] [] (aas0:=[.r (.int .i64 200)]) (aas1:=λr=>[r,.agg [(F:Int),(E:Int),.r (.int .u64 A),.r (.int .u64 B'),(M:Int)]]) (post0:=λr R'=>∃b,r=.r (.pointer (T' ⟨b,0,Y'⟩))/\R'=R0.star (aZ b 200 (λ_=>Zb) 0)) (post1:=λr R' r' bn=>∃v R1,r'=.r v/\bn=GA.star R1 (dE v C)) hE rfl rfl rfl ((eR.call ((GJ 200 p' p').n9 R0 (GA.qB _)) rfl func9 rfl p').mono (λr R'⟨R1,⟨b,h1,h2⟩,h3⟩=>⟨b,h1,by rw[h3,h2]⟩)) (λr R' hp=>?_) ⟨_,_,0,rfl,rfl⟩ (λr R' _=>⟨_,_,.int .i64 0,GA.cQ,rfl,rfl⟩) (ki ⟨_,rfl⟩) (λr R' r' bn c4 c5=>?_)
 .obtain⟨b,rfl,rfl⟩:=hp
  exact(eR.call ((bb b).n9 R0 (GA.le.refl _)) rfl func8 rfl p').mono (λr' bn⟨R1,⟨v,R2,h1,h2⟩,h3⟩=>⟨v,R0.star R2,h1,by rw[h3,h2];exact(GA.EN _ _ _).symm⟩)
 obtain⟨b,rfl,rfl⟩:=c4;obtain⟨v,R1,rfl,rfl⟩:=c5;refine⟨rfl,rfl,?_⟩;simp only[lK,xB,xC,ck,fl,dF,gO,iv,Nat.reduceAdd];refine jt a0b ?_;show aa _ _ _ _ _ _ _ _;refine aa.ja (eZ.th (t:=4) b0 rfl p') ?_;refine aa.bG ?_;refine az 1 ?_;refine pD (ag a0a) R1 bF (GA.qB _) func10 (λr R' hp=>?_);obtain⟨v2,rfl,rfl⟩:=hp;refine⟨rfl,?_⟩;refine az 14 ?_;refine gN ?_;refine aa.ja (eZ.Ht (t:=6) (r:=.sl 14 N (kZ H)) (λw fp X _ b hb=>absurd hb (b0 b)) (λw fp X h=>IV w fp X h) rfl p' rfl) ?_;have af:=Dw (H.map od);have hlen:=uG (H.map od);rw[fJ,hN]at af hlen;have af:∀k,k<N->((kZ H).drop (k*14)).take 14=ld (od (H.getD k h0)):=λk hk=>by
  rw[<-getD_map' od H h0 h0 k f'];exact af k hk
 have hlen:(kZ H).length=N*14:=hlen;obtain⟨CS,cc⟩:=nm (kZ H);rw[cc]at af hlen|-;rw[hN]at bd bc bR;have bt:(E+1023)*4503599627370496+A=jP j.E j.A:=by rw[<-hj];rfl
 have bu:(E+1023)*4503599627370496+(B'-1)=jP j.E j.A+T-1:=by rw[<-bt];omega
 obtain⟨P0,bX⟩:=nm (jP j.E j.A);obtain⟨PL,cp⟩:=nm (P0+(T:Int)-1);rw[bX]at bt bu;rw[cp]at bu;have cd:F.toNat=j.F.toNat:=by rw[<-hj]
 have cn:j.M=M:=by rw[<-hj]
 obtain⟨FF,bP⟩:=nm (j.F.toNat);have bO:F.toNat=FF:=cd.trans bP;refine aa.of (T:=ag a0a) ?_;refine ai.seq (ai.seq ?_);refine cy br ?_;refine aF ?_;refine gl bt ?_;refine gl bu ?_;refine ai.seq (ai.seq ?_);refine aT ?_;refine ai.block ?_;refine ai.loop (ι:={k:Nat // k<=N}) (λk=>⟨[(1,.ptr 1 0),(6,.sl 14 N CS),(10,.r (.int .u64 P0)),(11,.r (.int .u64 PL)),(12,(k.1:Int))],
  [(1,⟨Z',.c [(F:Int),(E:Int),.r (.int .u64 A),.r (.int .u64 B'),(M:Int)]⟩)]⟩) (λk=>N-k.1) ⟨0,dU _⟩ (Le.mk a0b) ?_
 rintro⟨k,hk⟩;dsimp only
 by_cases hlt:k<N
 .have bD:(k:Int)<N:=f'
  have sf:=bd k hlt;have ha:=af k hlt;obtain⟨h,eh⟩:=nm (H.getD k h0);rw[eh]at sf ha;refine ai.seq (ai.seq ?_);refine cy bD ?_;refine ai.eo rfl (ai.skip ?_);change ai _ _ _ (.seq _ _) _ _;obtain⟨p,r⟩:=h;obtain⟨bm,b6,b5,ax,aw,ab,ay,a0,a1⟩:=sf;dsimp only at bm b6 b5 ax aw ab ay a0 a1;rw[bP]at ax aw ab ay a0 a1;rw[cn]at aw;rw[bX]at b6 b5;have cr:=PT bm;obtain⟨a3,cv,cu⟩:=pN bm;have bs:=GU a3;have c7:zv a0a [p%4503599627370496+4503599627370496]=p%4503599627370496+4503599627370496:=Fh (by have:=o5 p (show(4503599627370496:Int)≠0 from p');omega);have ao:=(Fa a3.2.1 a3.2.2.1.1).1;rw[c7]at bs ao;obtain⟨MV,bW⟩:=nm (ct (p%4503599627370496+4503599627370496));obtain⟨EV,bN⟩:=nm (cH (p%4503599627370496+4503599627370496) (p/4503599627370496-1075));rw[bW,bN]at bs ao;have ao:yD MV EV=pY p:=ao;have b7:=Ah (f:=FF) (q:=700) p' p' cu cv;obtain⟨R8,bw⟩:=nm (aX FF 128 (pY p));rw[bw]at aw ab;obtain⟨Y,bz⟩:=nm (pY p);rw[bz]at ao bw b7 ay a0 a1;obtain⟨L7,bV⟩:=nm ((cD FF 700 Y).1.1);obtain⟨H7,bQ⟩:=nm ((cD FF 700 Y).1.2);rw[bV]at a0 b7;rw[bQ]at ay b7;have lL:=(b7.1.dB f').1;have lH:=(b7.2.1.dB f').1;obtain⟨l1,b3⟩:=ax.uq.1.jr p';obtain⟨l2,b4⟩:=ax.uq.2.jr p';have wq:=ax.q;have ww:=ax.wide.2;obtain⟨lo,hi,q,kx,ee,ss,le,mo,hh⟩:=r;dsimp only at l1 b3 l2 b4 wq ww ay a0 a1;obtain⟨m8,bE⟩:=nm (ct R8.most);obtain⟨e8,bA⟩:=nm (cH R8.most (0-R8.s));have cw:ur (m8,e8) M Z'=true:=by rw[<-bE,<-bA];exact aw
  have d8:=qA ab.pE.2 ab.s.1 (by have:=ab.s.2;omega);have s8:=ab.s;obtain⟨o8,c9⟩:=ab.pE.2.oq f';rw[bE,bA]at d8;have bK:=d8.1.oq f';have d81:=d8.2.1;have d82:=d8.2.2;dsimp only at d81 d82 bK;have v1:=cI R8.most;have dd:=cI m8;have v3:=cI lo;have v4:=cI hi;have v5:=cI L7;have v6:=cI H7;have v7:=cI MV;have c3:kx-kx=0:=f';have n1:¬p<P0:=f';have n2:¬PL<p:=f';have bY:List.take 14 (List.drop (k*14) CS)=[.r (.int .u64 p),.r (.bool (decide (lo<0))),.ns .u64 (dg lo.natAbs),.r (.bool (decide (hi<0))),.ns .u64 (dg hi.natAbs),.r (.int .i64 q),.r (.int .i64 kx),.r (.int .i64 0),.r (.int .i64 0),.r (.bool a0a),.ns .u64 (dg (Int.natAbs 0)),.r (.bool a0a),.ns .u64 (dg (Int.natAbs 0)),.r (.bool a0a)]:=ha;refine ai.seq (ai.block ?_);refine gl (A2 bD bY) ?_;refine ai.iG (ι:=Unit) (λ_=>⟨[(1,.ptr 1 0),(6,.sl 14 N CS),(10,.r (.int .u64 P0)),(11,.r (.int .u64 PL)),(12,(k:Int)),(13,.r (.int .u64 p))],[(1,⟨Z',.c [(F:Int),(E:Int),.r (.int .u64 A),.r (.int .u64 B'),(M:Int)]⟩)]⟩) ?_ (λ_=>?_)
  .cases k with
   |zero=>
    refine gl (A2 n1 n2) ?_;refine ai.dz rfl (ai.skip ?_);exact⟨(),Le.mk a0b⟩
   |succ k'=>
    have a7:=af k' f';have bH:=bc k' f';rw[eh]at bH;obtain⟨⟨pp,rp⟩,b9⟩:∃h,H.getD k' h0=h:=⟨_,rfl⟩;rw[b9]at bH a7;have a7:List.take 14 (List.drop (k'*14) CS)=[.r (.int .u64 pp),.r (.bool (decide (rp.lo<0))),.ns .u64 (dg rp.lo.natAbs),.r (.bool (decide (rp.hi<0))),.ns .u64 (dg rp.hi.natAbs),.r (.int .i64 rp.q),.r (.int .i64 rp.k),.r (.int .i64 0),.r (.int .i64 0),.r (.bool a0a),.ns .u64 (dg (Int.natAbs 0)),.r (.bool a0a),.ns .u64 (dg (Int.natAbs 0)),.r (.bool a0a)]:=a7;have n3:¬p<=pp:=by have:pp<p:=bH;omega
    have n4:(k':Int)+1-1=k':=f';have n5:(0:Int)<k'+1:=f';have n6:(k':Int)<N:=f';refine gl (A7 n1 n2 n3 n4 n5 n6 a7) ?_;refine ai.dz rfl (ai.skip ?_);exact⟨(),Le.mk a0b⟩
  clear af bc bd aw a3;refine gl (A6 q1.1 q1.2 bm bO bz bw) ?_;refine gl (A3 cr bW bN) ?_;refine gl (vm q1.1 q1.2 bs bO v7 ao bz bV bQ a1) ?_;refine gl (A2 bD bY) ?_;refine ai.seq ?_;refine ai.regionF [] [] [] hE.hT hE.hS hE.hm gy (mw hE (And.intro br (And.intro o8 (And.intro c9 (And.intro s8.1 (And.intro s8.2 (And.intro v1 (SM bE bA bK.1 bK.2 d81 d82 dd cw l1 b3 l2 b4 lL lH v3 v4 v5 v6 wq.1 wq.2 ww ay a0 c3))))))) ?_);refine aF ?_;refine aT ?_;exact⟨⟨k+1,f'⟩,Le.mk a0b,N'⟩
 .obtain rfl:k=N:=f'
  refine ai.seq (ai.seq ?_);refine cy (zH (k:Int)) ?_;refine ai.dz rfl (ai.exit ?_);change ai _ _ _ (.seq _ _) _ _;refine ig ?_;refine ai.ret ?_;change dM (ag a0a) [.tmp 2] [4] (λr _=>r=.r (.bool Z')) _ _ R1;exact dM.of rfl (aO.mk a0b rfl)
end
end Go.Hl
