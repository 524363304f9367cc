/- Lemmas for TopSound and TopBracket. -/
import Derived.Test.YtpgglolpkbepjaaGreatTBB
set_option linter.unusedVariables false
set_option linter.unusedSimpArgs false
namespace Go.Hl
open Go.Proofs.Tryz
open Go.Proofs.Tryz renaming prog→a0c
open Option renaming some→T',none→Y'
open Bool renaming true→Z',false→a0a
open Go Go.RowKit Go.Proofs
set_option maxHeartbeats 8000000
set_option maxRecDepth 100000
theorem VY{b:Bool}{x:List Int}{e:Int}{c:Bool}{y:List Int}{d:Bool}{z:List Int}{W:Nat}{u p:Int}(hv:p=0\/p=1)(hu:0<=u/\u<=1)(bT:DX b x e)(b0:LX c y d z (W:Int))(af:(fZ W (xX W (yD (zv b x) e))+u)%2=p):
 dh a0c 242 [.agg [u],.agg [b,x,e],.agg [c,y,d,z,(W:Int)]]
  (.aU [ba (me W (xX W (yD (zv b x) e)) (fZ W (xX W (yD (zv b x) e))+u)).1 (me W (xX W (yD (zv b x) e)) (fZ W (xX W (yD (zv b x) e))+u)).2 (W:Int),(0:Int)]):=by
 obtain⟨⟨hx,b6⟩,hm,⟨e1,e2⟩,hY⟩:=bT;obtain⟨⟨⟨hy,ca⟩,⟨hz,cc⟩⟩,b3,b4,w1,w2⟩:=b0;have hE:=env (bh.cons GR (bh.cons ab6 (bh.cons UP (bh.cons AF (bh.cons MW (bh.cons AG (bh.cons G0 (bh.cons acA (bh.cons VG (bh.cons zD (bh.cons r7 dC)))))))))));obtain⟨hX,b1⟩:=sS (e:=e) hm e1 (w:=W) f';have xf:=B4 (w:=W) (Y:=yD (zv b x) e) f' hY;have bX:=JI (w:=W) (Y:=yD (zv b x) e) f' f' hY;have bL:¬zv b x=0:=f';have bH:ce (zv b x) e=e:=aq bL;have br:kV (zv b x) (e+W)=xX W (yD (zv b x) e):=by unfold kV;rw[au f'];exact hX
 have bn:nr (zv b x) (e+W)=xX W (yD (zv b x) e):=by unfold nr;rw[au f'];exact hX
 have b7:x.length<62:=f';have b9:x.length<10000000:=f';have hs:¬(zv b x).sign<0:=by rw[si hm];decide
 obtain⟨X,eX⟩:=nm (xX W (yD (zv b x) e));rw[eX]at xf bX br bn af|-;have wb:=agq (w:=W) (X:=X) f' f' xf.2.1 xf.2.2;obtain⟨⟨r1,r2,r3⟩,⟨k0,k1⟩,bM,bF⟩:=wb;obtain⟨SN,AN,bd,ab⟩:∃(SN:Int->Nat->Nat->Int×Int)(AN:Nat->Int×Int->Int×Int),(p=0/\SN=mT/\AN=nd\/p=1/\SN=mS/\AN=na)/\Bz 1000 (SN (dW W X).1 W (W/8+6)).1/\Bz 1000 (SN (dW W X).1 W (W/8+6)).2/\Bz 1000 (AN W (dW W X)).1/\Bz 1000 (AN W (dW W X)).2/\(AN W (dW W X)).1<=(AN W (dW W X)).2:=by
  rcases hv with h|h
  .exact⟨mT,nd,.inl ⟨h,rfl,rfl⟩,bM⟩
  .exact⟨mS,na,.inr ⟨h,rfl,rfl⟩,bF⟩
 clear bM bF;obtain⟨bs,bt,a5⟩:=agN (w:=W) f';have half:=Hw (w:=W) f';have hq:=cf W;have a0:(fP W).1=iM (ll W).1 1:=rfl;have a1:(fP W).2=lF (ll W).2 1:=rfl;obtain⟨K,eK⟩:=nm (fZ W X);have ay:X/(fP W).2=K:=eK;have er:dW W X=(X-K*(fP W).2,X-K*(fP W).1):=by unfold dW;rw[eK]
 rw[er]at r1 r2 r3 ab;have ew:me W X (K+u)=if(K+u)/2%2=1 then ju (AN W (dW W X)) (-1)else AN W (dW W X):=by
  unfold me;rw[eK]at af;rcases bd with⟨h,_,rfl⟩|⟨h,_,rfl⟩
  .simp only[aq (show¬(K+u)%2=1 from f')]
  .simp only[au (show(K+u)%2=1 from f')]
 rw[eK,ew,er];rw[eK]at k0 k1 af;clear ew er eX;obtain⟨PA,bb⟩:=nm ((ll W).1);obtain⟨PB,bc⟩:=nm ((ll W).2);rw[bb]at a0 bs a5;rw[bc]at a1 bt a5;obtain⟨A,eA⟩:=nm ((fP W).1);obtain⟨B,eB⟩:=nm ((fP W).2);rw[eA]at a0 half r2 r3 ab|-;rw[eB]at a1 half ay r1 r2 r3 ab|-;have bw:=a0.symm;have bx:=a1.symm;have bQ:(65536:Int)<=2^W:=jf (s:=16) f' p';have bR:0<B:=f';have c0:(2:Int)^(W+1)=2^W*2:=jw _ _;have bA:Bz (W+2) A:=gP (n:=W+1) f' f';have bB:Bz (W+2) B:=gP (n:=W+1) f' f';have bK:Bz 12 K:=Bz.small f' f';have t1:jJ A B K=A*K:=aq f';have t2:jI A B K=B*K:=aq f';have z1:=bA.mul bK;have z2:=bB.mul bK;obtain⟨P,hP⟩:=nm (A*K);obtain⟨Q,hQ⟩:=nm (B*K);have bD:P<=Q:=by rw[<-hP,<-hQ];exact gj f' k0
 rw[hP]at t1 z1;rw[hQ]at t2 z2;have eU:X-K*B=X+-Q:=by rw[<-hQ,gD];omega
 have eV:X-K*A=X+-P:=by rw[<-hP,gD];omega
 rw[eU]at r1 r2 ab;rw[eV]at r2 r3 ab;rw[eU,eV];obtain⟨U,hU⟩:=nm (X+-Q);obtain⟨V,hV⟩:=nm (X+-P);rw[hU]at r1 r2 ab|-;rw[hV]at r2 r3 ab|-;dsimp only at r1 r2 r3;have ao:∀{k:Nat}{p r:Int},k<=3000->Bz k p->Bz k r->p<=r->dp (decide (p<0)) (dg p.natAbs) (decide (r<0)) (dg r.natAbs) (W:Int):=λhk hp hr hle=>
  ⟨hp.dB f',hr.dB f',by rw[cI,cI];exact hle,f',f'⟩
 have cd:=ao f' bs bt a5;have ch:=ao f' bX bX (gu _);have cn:=ao f' bA bB f';have cp:=ao f' z1 z2 bD;obtain⟨oX,cv⟩:=bX.dB f';have cw:(dg X.natAbs).length<100:=f';obtain⟨oB,cr⟩:=bB.dB f';have cu:(dg B.natAbs).length<100:=f';have bU:=gP (n:=W+1) r1 f';have bV:=gP (n:=W+1) (v:=V) f' f';obtain⟨oU,dv⟩:=bU.jr f';obtain⟨oV,eb⟩:=bV.jr f';have dA:(dg U.natAbs).length<10000000:=f';have ec:(dg V.natAbs).length<10000000:=f';obtain⟨sA,aw⟩:=nm ((SN U W (W/8+6)).1);obtain⟨sB,ax⟩:=nm ((SN U W (W/8+6)).2);have ea:AN W (U,V)=(sA-(V-U),sB+(V-U)):=by
  rcases bd with⟨_,rfl,rfl⟩|⟨_,rfl,rfl⟩
  .unfold nd;rw[aw,ax]
  .unfold na;rw[aw,ax]
 rw[ea]at ab|-;dsimp only at ab;rw[aw,ax]at ab;obtain⟨c1,c2,c3,c4,c5⟩:=ab;have tn:((W:Int)).toNat=W:=dD W;have bN:((W:Int)/8+6).toNat=W/8+6:=f';obtain⟨GP,a6⟩:=nm (V-U);have bz:Bz (W+2) GP:=gP (n:=W+1) f' f';obtain⟨oG,ds⟩:=bz.lz f';obtain⟨p1,ee⟩:=c1.lz f';obtain⟨p2,ef⟩:=c2.lz f';rw[a6]at c3 c4 c5|-;obtain⟨LO,a4⟩:=nm (sA-GP);obtain⟨HI,a3⟩:=nm (sB+GP);rw[a4]at c3 c5;rw[a3]at c4 c5;rw[a4,a3];have dd:=ao f' c3 c4 c5;have c6:0<=U:=r1;have c7:U<=2*2^W:=f';obtain⟨KK,a7⟩:=nm (K+u);rw[a7]at af|-;have ha:=Y2 (k:=KK) f' f';have bE:bits .and .i64 KK 1=p:=by rw[ha.1,af]
 have c9:¬(W:Int)<0:=f';have b5:0<=X:=xf.2.1;have d1:-1000000<=X/B/\X/B<=1000000:=by rw[ay];omega
 have F1:=Hid.mk hs;have F2:=Hid.mk (A3 tn bb bc);have F3:=Hid.mk (A2 bw bx);have F4:=Hid.mk (A3 bH br bn);have F5:=Hid.mk ay;have F6:=Hid.mk (A4 t1 t2 hU hV);have F7:=Hid.mk a7;have F8:=Hid.mk bE;have F9:=Hid.mk (A4 tn bN aw ax);have bO:=Hid.mk a6;have bP:=Hid.mk (A2 a4 a3);have bu:=Hid.mk ha;clear xf half r3 ea hX hY b3 b4 hy hz bs bt bA bB z1 z2 bU bV c1 c2 bz ao;clear bH br bn hs tn bb bc a0 a1 eA eB bw bx eK ay t1 t2 hP hQ bD eU eV hU hV aw ax bN a6 a4 a3 a7 ha bE af bQ c0 hq bK c3 c4 c5 a5 r1 r2 b5 b1 bL hm;rcases bd with⟨rfl,rfl,rfl⟩|⟨rfl,rfl,rfl⟩
 all_goals
  refine aB func242 ntmps242 ?_;refine aT ?_;refine aT ?_;refine cy F1.h ?_;refine ai.seq ?_;refine ig ?_;refine aF ?_;refine cy F2.h ?_;refine cy F3.h ?_;refine aH [(4,4),(10,10)] [(12,5),(13,6)] [] F4.h ?_;refine cy F5.h ?_;refine aH [(12,12),(13,13)] [(15,5)] [] F6.h ?_;refine ai.dS (σ':=⟨[(15,.ptr 15 0),(14,K),(3,.ptr 3 0),(8,(W:Int)),(9,a0a),(6,.ptr 6 0),(7,(0:Int))],[(15,⟨Z',.c [decide (U<0),dg U.natAbs,decide (V<0),dg V.natAbs,(W:Int)]⟩),(3,⟨Z',.c [u]⟩),(6,⟨Z',.c [a0a,.ns .u64 [],a0a,.ns .u64 [],(0:Int)]⟩)]⟩) (Le.mk a0b) ?_;clear cd ch cn cp oX cv cw oB cr cu b6 b7 b9 e1 e2 ca cc hx d1 bR;refine aT ?_;refine cy F7.h ?_;refine ai.seq ?_
  first
   |(
    refine gl (A2 F8.h (show((0:Int)==1)=a0a from rfl)) ?_;refine aF ?_)
   |(
    refine gl (A2 F8.h (show((1:Int)==1)=Z' from rfl)) ?_;refine ai.eo (by rfl) ?_;refine aT ?_;change ai _ _ _ (.seq _ _) _ _)
  refine cy F9.h ?_;refine cy bO.h ?_;refine aH [(17,17),(20,20),(18,18)] [(21,9)] [] bP.h ?_;refine ai.seq ?_;refine ai.seq ?_
  by_cases hh:KK/2%2=1
  .have bm:bits .and .i64 KK 2=2:=by rw[bu.h.2,hh];rfl
   have u1:jJ LO HI (-1)=HI*-1:=au p';have u2:jI LO HI (-1)=LO*-1:=au p';rw[au hh];have e3:ju (LO,HI) (-1)=(HI*-1,LO*-1):=by unfold ju;rw[au p']
   rw[e3];dsimp only;obtain⟨L2,bY⟩:=nm (HI*-1);obtain⟨H2,bW⟩:=nm (LO*-1);rw[bY]at u1|-;rw[bW]at u2|-;refine cy (A2 bm (show((2:Int)!=0)=Z' from rfl)) ?_;refine ai.eo (by rfl) ?_;refine cy (A2 u1 u2) ?_;change ai _ _ _ (.seq _ _) _ _;refine aK ?_;exact pL
  .have bm:bits .and .i64 KK 2=0:=by rw[bu.h.2,show KK/2%2=0 from f'];rfl
   rw[aq hh];refine cy (A2 bm (show((0:Int)!=0)=a0a from rfl)) ?_;refine aF ?_;refine aK ?_;exact pL
end Go.Hl
