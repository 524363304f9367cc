/- Lemmas for TopSound and TopBracket. -/
import Derived.Test.YtpgglolpkbepjaaGreatTBA
set_option linter.unusedVariables false
set_option linter.unusedSimpArgs false
namespace Go.Hl
open Go.Proofs.Tryz
open Go.Proofs.Tryz renaming prog→a0c
open Option renaming some→T',none→Y'
open Bool renaming true→Z',false→a0a
open Go Go.RowKit Go.Proofs
set_option maxHeartbeats 8000000
set_option maxRecDepth 100000
section
variable {M e m:Int}{w:Nat}
@[push_cast] def adM:Sp where
 kind:=0
 pre
  |[.r (.int .i64 n),.r (.int .i64 w)]=>(-1000<=n/\n<=1000)/\0<=w/\w<=1000
  |_=>False
 res
  |[.r (.int .i64 n),.r (.int .i64 w)]=>ba (n*2^w.toNat) (n*2^w.toNat) w
  |_=>.any
theorem M6:aj a0c 236 adM:=by
 refine sz λargs hp=>?_
 split at hp;rotate_left;cases hp;rename_i n w;obtain⟨⟨n1,n2⟩,w1,w2⟩:=hp;have hE:=iZ qN yi AF;obtain⟨W,rfl⟩:=fI w1;rw[dD];have bN:Bz 10 n:=Bz.small f' f';have bM:Bz 10 (ct n):=bN.div;have eE:=MQ bN;have dv:=Dh (z:=n) (e:=0) (k:=(W:Int)) f';rw[show((0:Int)+(W:Int)).toNat=W from f']at dv;obtain⟨M0,af⟩:=nm (ct n);obtain⟨E0,ab⟩:=nm (cH n 0);rw[af]at bM dv;rw[ab]at eE dv;obtain⟨V,hV⟩:=nm (n*2^W);rw[hV]at dv|-;obtain⟨o1,ao⟩:=bN.oq f';obtain⟨o2,aw⟩:=bM.oq f';obtain⟨d1,d2⟩:=dv;refine aB func236 ntmps236 ?_;refine an (A4 af ab d1 d2) ?_;exact pL
theorem Qi(hw:60<=w)(h0:2^w<=M)(h1:M<=2*2^w):
 0<=(il w M).1/\(il w M).1<=(il w M).2/\(il w M).2*3<=2^w+3:=by
 have hq:=cf w;have hd:0<M+1*2^w:=f';have lo:0<=(il w M).1:=jv (dP (show(0:Int)<=M-1*2^w from f') (bo hq)) (bo hd);have d:=ke (a:=(M-1*2^w)*2^w) hd;have u:=oO (a:=(M-1*2^w)*2^w) hd;simp only[il,rt]at*;generalize(M-1*2^w)*2^w/(M+1*2^w)=a at*;generalize iI ((M-1*2^w)*2^w) (M+1*2^w)=b at*;refine⟨lo,Fu (nO d.1 u.1) hd,?_⟩;have m:=gj (show(M-1*2^w)*3<=M+1*2^w from f') (bo hq);have e1:(b-1)*3*(M+1*2^w)=(b-1)*(M+1*2^w)*3:=E';have e2:(M-1*2^w)*3*2^w=(M-1*2^w)*2^w*3:=E';have e3:(M+1*2^w)*2^w=2^w*(M+1*2^w):=gD _ _;have m2:(b-1)*3*(M+1*2^w)<2^w*(M+1*2^w):=by
  rw[e1,<-e3];rw[e2]at m;have:=u.2;omega
 have:=lX m2 (bo hd);omega
theorem I3(hw:60<=w)(af:w<=900)(h0:2^w<=M)(h1:M<=2*2^w):
 0<=(fN w M).1/\(fN w M).1<=(fN w M).2/\(fN w M).2<=2*2^w:=by
 have hq:=cf w;have ab:=two_pos w;have ax:(65536:Int)<=2^w:=jf (s:=16) f' p';obtain⟨m,hm⟩:=pC M w;have m1:1<=m:=cO ab (by rw[hm];have:=cj.2 h0;rw[cV]at this;grind);obtain⟨s1,s2,y0,y3⟩:=EI hw af hm h0 h1 (y:=(m-1)/(m+1)) (iy E') 400 f';generalize(m-1)/(m+1)=y at*;have lo:=(Qi hw h0 h1).1;have p0:0<=(fN w M).1:=by
  have:=Lo (t:=(il w M).1) (w:=w) (n:=w/3+2) lo;simp only[fN];omega
 have aw:fE 400 y<=2*y:=by
  have:=(rQ (f:=ah y) (n:=0) (fK y0) (λk _=>by have:=rl y0 E' k;have:=fK y0 (k+1);grind) 400).2;have h:=fK y0 (0+400);have e0:ah y 0=y:=by simp[ah,pw];grind
  have e1:sm (ah y) 0=0:=rfl;rw[e0,e1,du]at this;rw[du]at h;simp only[fE]
  grind
 have ao:(fN w M).1*3<=4*2^w:=by
  rw[<-cj,cg,cg,cV];have e1:((3:Int):Rat)=3:=rfl;have e2:((4:Int):Rat)=4:=rfl;rw[e1,e2];have:=cA (show 3*(2*fE 400 y)<=4 from E') (cL ab);have:=s1.1
  grind
 exact⟨p0,jq s1,f'⟩
theorem GS(hm:0<m)(he:-116<=e):e+bJ m.natAbs-1=xE (yD m e):=by
 have h1:yD m e=m.natAbs*2^(e+116).toNat:=by
  unfold yD;have:((m.natAbs*2^(e+116).toNat:Nat):Int)=m*2^(e+116).toNat:=by
   rw[se,kJ,Int.natAbs_of_nonneg f'];rfl
  rw[<-this,dD]
 have hn:m.natAbs≠0:=f';unfold xE;have h2:(yD m e).log2=m.natAbs.log2+(e+116).toNat:=by
  rw[h1];have a:=Cz hn;have b:=FO (n:=m.natAbs);refine(Nat.log2_eq_iff (Nat.ne_of_gt (xF f' (l7 _)))).2 ⟨?_,?_⟩
  .rw[mD];exact jD _ a
  .rw[show m.natAbs.log2+(e+116).toNat+1=(m.natAbs.log2+1)+(e+116).toNat from f',mD]
   exact zT b (l7 _)
 rw[h2];unfold bJ;rw[aq hn];omega
theorem Wq(hm:0<m)(he:-116<=e)(hY:yD m e<2^126)(hw:200<=w):
 m*2^(e-xE (yD m e)+(w:Int)).toNat=xM w (yD m e):=by
 have hp:0<m*2^(e+116).toNat:=jZ hm (cf _);have h1:((yD m e:Nat):Int)=m*2^(e+116).toNat:=tY (bo hp);have hl:(yD m e).log2<=125:=by
  rcases dQ 125 (yD m e).log2 with h|h
  .have h3:=Cz (show yD m e≠0 from f')
   have:=lC (n:=2) p' h;omega
  .exact h
 have hx:=GS hm he;have hb:1<=bJ m.natAbs:=by
  unfold bJ;rw[aq f'];omega
 unfold xM;rw[h1,mW,<-gk]
 congr 2
 unfold xE at*;omega
@[push_cast] def aep:Sp where
 kind:=0
 pre
  |[.agg [],.agg [.r (.bool b),.ns .u64 x,.r (.int .i64 e)],.r (.int .i64 w)]=>DX b x e/\200<=w/\w<=840
  |_=>False
 res
  |[.agg [],.agg [.r (.bool b),.ns .u64 x,.r (.int .i64 e)],.r (.int .i64 w)]=>
   .aU [ba (fN w.toNat (xM w.toNat (yD (zv b x) e))).1 (fN w.toNat (xM w.toNat (yD (zv b x) e))).2 w,xE (yD (zv b x) e)]
  |_=>.any
theorem PS:aj a0c 233 aep:=by
 refine sz λargs hp=>?_
 split at hp;rotate_left;cases hp;rename_i b x e w;obtain⟨⟨⟨hx,bw⟩,hm,⟨e1,e2⟩,hY⟩,w1,w2⟩:=hp;have hE:=Dj MJ Wm AF M6 G0 G4 MY afP AG;obtain⟨W,rfl⟩:=fI (show 0<=w from f');rw[dD];have a0:¬zv b x=0:=f';have ay:ce (zv b x) e=e:=aq a0;have ao:=GS hm e1;have af:=Wq hm e1 hY (w:=W) f';have mb:=tC (w:=W) (sS (e:=e) hm e1 (w:=W) f').2 hY f';obtain⟨-,M1,M2,x1,x2⟩:=mb;obtain⟨D,hD⟩:=nm (xE (yD (zv b x) e));obtain⟨M,hM⟩:=nm (xM W (yD (zv b x) e));rw[hD]at ao af x1 x2;rw[hM]at af M1 M2;rw[hD,hM];have bd:max (-4000) (min (0-D) 4000)=0-D:=f';have bm:e+(0-D)=e-D:=f';have a7:e+(bJ (zv b x).natAbs:Int)-1=D:=ao;have bx:=dN (b:=b) hx (k:=9) f';have bu:(bJ (zv b x).natAbs:Int)<=576:=by have:=(ku (zv b x).natAbs _).2 bx;omega
 have dv:=Dh (z:=zv b x) (e:=e-D) (k:=(W:Int)) f';rw[af]at dv;have aw:Bz 576 (ct (zv b x)):=bx.div;have eE:=GW (e:=e-D) bx;obtain⟨N,hN⟩:=nm (ct (zv b x));obtain⟨E0,ax⟩:=nm (cH (zv b x) (e-D));rw[hN]at aw dv;rw[ax]at eE dv;obtain⟨d1,d2⟩:=dv;have qr:=Qi (w:=W) (M:=M) f' M1 M2;have sr:=I3 (w:=W) (M:=M) f' f' M1 M2;have hq:=cf W;have br:(65536:Int)<=2^W:=jf (s:=16) f' p';obtain⟨O,hO⟩:∃O:Int,1*2^W=O:=⟨_,rfl⟩;have bs:(2:Int)^W=O:=by rw[<-hO];omega
 have bM:Bz (W+2) M:=gP (n:=W+1) f' (by rw[jw];omega);have bO:Bz (W+1) O:=gP (n:=W) f' f';have q1:(M+-O)*2^W/(M+O)=(il W M).1:=by
  simp only[il,rt,<-hO];rfl
 have q2:iI ((M+-O)*2^W) (M+O)=(il W M).2:=by
  simp only[il,rt,<-hO];rfl
 have s1:(fN W M).1=(dY (il W M).1 W (W/3+2)).1*2:=rfl;have s2:(fN W M).2=(dY (il W M).2 W (W/3+2)).2*2:=rfl;obtain⟨U,hU⟩:=nm ((il W M).1);obtain⟨V,hV⟩:=nm ((il W M).2);rw[hU]at qr q1 s1;rw[hV]at qr q2 s2;obtain⟨A,hA⟩:=nm ((dY U W (W/3+2)).1);obtain⟨B,hB⟩:=nm ((dY V W (W/3+2)).2);rw[hA]at s1;rw[hB]at s2;rw[s1,s2]at sr|-;obtain⟨P,hP⟩:=nm (M+-O);obtain⟨R,hR⟩:=nm (M+O);rw[hP,hR]at q1 q2;have a4:0<R:=f';have a1:dq 239 W P R=U:=by
  unfold dq;rw[au rfl,dD,lW _ (bo a4)];exact q1
 have a3:dq 240 W P R=V:=by
  unfold dq;rw[aq p',dD];exact q2
 have bb:kC U U U U=U:=by unfold kC ko;repeat' split<;>omega
 have bc:kD V V V V=V:=by unfold kD kp;repeat' split<;>omega
 have bP:Bz (W+2) P:=gP (n:=W+1) f' (by rw[jw];omega);have bR:Bz (W+3) R:=gP (n:=W+2) f' (by rw[jw,jw];omega);have bU:Bz (W+1) U:=gP (n:=W) f' f';have bV:Bz (W+1) V:=gP (n:=W) f' f';have bA:Bz (W+2) A:=gP (n:=W+1) f' (by rw[jw];omega);have bB:Bz (W+2) B:=gP (n:=W+1) f' (by rw[jw];omega);have ab:∀{k:Nat}{p r:Int},k<=900->Bz k p->Bz k r->p<=r->dp (decide (p<0)) (dg p.natAbs) (decide (r<0)) (dg r.natAbs) (W:Int):=λhk hp hr hle=>
  ⟨hp.dB f',hr.dB f',by rw[cI,cI];exact hle,f',f'⟩
 have k1:=ab f' bM bM (gu _);have k2:=ab f' bO bO (gu _);have k3:=ab f' bP bP (gu _);have k4:=ab f' bR bR (gu _);have k5:=ab f' bA bB f';obtain⟨oU,bH⟩:=bU.jr f';obtain⟨oV,bK⟩:=bV.jr f';obtain⟨o1,bE⟩:=aw.jr f';have bF:(dg N.natAbs).length<62:=f';have bz:x.length<62:=f';have bD:x.length<10000000:=f';have tn:((W:Int)).toNat=W:=dD W;have bn:((W:Int)/3+2).toNat=W/3+2:=f';have t1:jJ A B 2=A*2:=aq f';have t2:jI A B 2=B*2:=aq f';obtain⟨SA,a5⟩:=nm (A*2);obtain⟨SB,a6⟩:=nm (B*2);rw[a5]at t1|-;rw[a6]at t2|-;have r1:2*U<=2^W:=f';have r2:2*V<=2^W:=f';have r3:0<=V:=f';have bt:=qr.1;clear q1 q2 sr af ao;refine aB func233 ntmps233 ?_;refine aT ?_;refine cy (A3 a0 a7 ay) ?_;refine cy (A9 bd bm ay hN ax d1 d2 tn hO) ?_;refine aG [(10,10),(11,11),(6,6)] [] [] (Fi hP hR a1 a3 bb bc tn bn hA hB t1 t2) ?_;exact pL
end
section
variable {A B k:Int}
theorem LY(p:Int×Int)(k:Int):ju p k=(jJ p.1 p.2 k,jI p.1 p.2 k):=by
 unfold ju jJ jI;split<;>rfl
theorem LU(h:A<=B):jJ A B k<=jI A B k:=by
 unfold jJ jI;split
 .exact Int.mul_le_mul_of_nonpos_right h f'
 .exact gj h f'
theorem LV{m n:Nat}(hA:Bz m A)(hB:Bz m B)(hk:Bz n k):Bz (m+n) (jJ A B k)/\Bz (m+n) (jI A B k):=by
 unfold jJ jI;split
 .exact⟨hB.mul hk,hA.mul hk⟩
 .exact⟨hA.mul hk,hB.mul hk⟩
@[push_cast] def adl:Sp where
 kind:=0
 pre
  |[.agg [],.agg [.r (.bool b),.ns .u64 x,.r (.int .i64 e)],.agg [.r (.bool c),.ns .u64 y,.r (.bool d),.ns .u64 z,.r (.int .i64 w)]]=>DX b x e/\LX c y d z w
  |_=>False
 res
  |[.agg [],.agg [.r (.bool b),.ns .u64 x,.r (.int .i64 e)],.agg [.r (.bool c),.ns .u64 y,.r (.bool d),.ns .u64 z,.r (.int .i64 w)]]=>
   .aU [ba (ql w.toNat (xM w.toNat (yD (zv b x) e)) (xE (yD (zv b x) e))).1 (ql w.toNat (xM w.toNat (yD (zv b x) e)) (xE (yD (zv b x) e))).2 w,(0:Int)]
  |_=>.any
theorem VW:aj a0c 232 adl:=by
 refine sz λargs hp=>?_
 split at hp;rotate_left;cases hp;rename_i b x e c y d z w;obtain⟨aw,ax⟩:=hp;obtain⟨⟨hx,ay⟩,hm,⟨e1,e2⟩,hY⟩:=id aw;obtain⟨⟨⟨hy,a0⟩,⟨hz,a1⟩⟩,ab,af,w1,w2⟩:=ax;have hE:=iZ PS AG G4;obtain⟨W,rfl⟩:=fI (show 0<=w from f');rw[dD]at ab af|-;have mb:=tC (w:=W) (sS (e:=e) hm e1 (w:=W) f').2 hY f';obtain⟨-,M1,M2,x1,x2⟩:=mb;obtain⟨D,hD⟩:=nm (xE (yD (zv b x) e));obtain⟨M,hM⟩:=nm (xM W (yD (zv b x) e));rw[hD]at x1 x2;rw[hM]at M1 M2;rw[hD,hM];have sr:=I3 (w:=W) (M:=M) f' f' M1 M2;have lint:=pK (w:=W) f';have hq:=cf W;obtain⟨A,eA⟩:=nm ((bq W).1);obtain⟨B,eB⟩:=nm ((bq W).2);rw[eA]at ab lint;rw[eB]at af lint;have bA:=dN (b:=c) hy (k:=29) f';have bB:=dN (b:=d) hz (k:=29) f';rw[ab]at bA;rw[af]at bB;have bD:Bz 8 D:=Bz.small f' f';obtain⟨z1,z2⟩:=LV bA bB bD;have ao:=LU (k:=D) lint.1;have ea:ql W M D=((fN W M).1+jJ A B D,(fN W M).2+jI A B D):=by unfold ql;rw[LY,eA,eB]
 rw[ea];obtain⟨P,hP⟩:=nm (jJ A B D);obtain⟨Q,hQ⟩:=nm (jI A B D);rw[hP]at z1 ao|-;rw[hQ]at z2 ao|-;obtain⟨U,hU⟩:=nm ((fN W M).1);obtain⟨V,hV⟩:=nm ((fN W M).2);rw[hU]at sr|-;rw[hV]at sr|-;have bU:Bz (W+2) U:=gP (n:=W+1) f' (by rw[jw];omega);have bV:Bz (W+2) V:=gP (n:=W+1) f' (by rw[jw];omega);have tn:((W:Int)).toNat=W:=dD W;have k1:dp (decide (U<0)) (dg U.natAbs) (decide (V<0)) (dg V.natAbs) (W:Int):=⟨bU.dB f',bV.dB f',by rw[cI,cI];omega,f',f'⟩;have k2:dp (decide (P<0)) (dg P.natAbs) (decide (Q<0)) (dg Q.natAbs) (W:Int):=⟨z1.dB f',z2.dB f',by rw[cI,cI];exact ao,f',f'⟩;have k3:dp c y d z (W:Int):=⟨⟨hy,f'⟩,⟨hz,f'⟩,by rw[ab,af];exact lint.1,f',f'⟩;obtain⟨S,hS⟩:=nm (U+P);obtain⟨R,hR⟩:=nm (V+Q);rw[hS,hR];refine aB func232 ntmps232 ?_;refine aT ?_;refine cy (A5 tn hM hD hU hV) ?_;refine aG [(8,8),(5,5),(6,6)] [] [] (A6 ab af hP hQ hS hR) ?_;exact pL
end
section
variable {w:Nat}
theorem TP:vJ (λk=>bits .and .i64 (k:Int) 1==(k:Int)%2&&bits .and .i64 (k:Int) 2==2*((k:Int)/2%2)) 1024=true:=M'
theorem Y2{k:Int}(h0:0<=k)(h1:k<1024):bits .and .i64 k 1=k%2/\bits .and .i64 k 2=2*(k/2%2):=by
 obtain⟨n,rfl⟩:=fI h0;have:=Gf TP n f';simpa using this
theorem agN(hw:w<=900):Bz 2400 (ll w).1/\Bz 2400 (ll w).2/\(ll w).1<=(ll w).2:=by
 have p:=PW (q:=w) hw 400 f';have b:=PV 400 f';have z:=tp p.1 f' E' E' f';exact⟨z.1,z.2,jq p.1⟩
theorem Jy{a b:Int}(hw:60<=w)(ax:w<=900)(ao:a<=b)(l2:b-a<=1366){p t:Int×Int}{v:Rat}(ht:t=(p.1-(b-a),p.2+(b-a)))(hi:aW w t v)(ay:t.2-t.1<=2^40)(v1:-900<=v)(v2:v<=900):
 Bz 1000 p.1/\Bz 1000 p.2/\Bz 1000 t.1/\Bz 1000 t.2/\t.1<=t.2:=by
 have i1:=Zg hi v1;have i2:=HH hi v2;have i3:=jq hi;have aw:=cf w;have af:(2:Int)^40<=2^w:=jf (s:=40) f' (gu _);have PR:(2:Int)^40=1099511627776:=p';have ab:(2:Int)^(w+20)=2^w*1048576:=by rw[gk];rfl
 have pn:((2^(w+20):Nat):Int)=2^(w+20):=by rw[kJ];rfl
 have mk:∀z:Int,-1000000*2^w<=z->z<=1000000*2^w->Bz 1000 z:=λz h1 h2=>(Bz.small (n:=w+20) (by rw[pn,ab];omega) (by rw[pn,ab];omega)).mono f'
 have t1:t.1=p.1-(b-a):=by rw[ht]
 have t2:t.2=p.2+(b-a):=by rw[ht]
 exact⟨mk _ f' f',mk _ f' f',mk _ f' f',mk _ f' f',i3⟩
theorem agq{X:Int}(hw:60<=w)(ab:w<=900)(h0:0<=X)(h1:X<=1024*2^w):
 (0<=(dW w X).1/\(dW w X).1<=(dW w X).2/\(dW w X).2<=2*2^w)/\(0<=fZ w X/\fZ w X<=683)/\
 (Bz 1000 (mT (dW w X).1 w (w/8+6)).1/\Bz 1000 (mT (dW w X).1 w (w/8+6)).2/\Bz 1000 (nd w (dW w X)).1/\Bz 1000 (nd w (dW w X)).2/\(nd w (dW w X)).1<=(nd w (dW w X)).2)/\
 (Bz 1000 (mS (dW w X).1 w (w/8+6)).1/\Bz 1000 (mS (dW w X).1 w (w/8+6)).2/\Bz 1000 (na w (dW w X)).1/\Bz 1000 (na w (dW w X)).2/\(na w (dW w X)).1<=(na w (dW w X)).2):=by
 obtain⟨x,hx⟩:=pC X w;obtain⟨N,hN⟩:=tG;obtain⟨r1,k0,k1,l0,l1,l2⟩:=IY hw ab hx h0 h1 N (by have:=hN.1;omega);have s:=QZ (a:=(dW w X).1) (b:=(dW w X).2) ab l0 l1 l2 r1 N hN;have c:=Mt (a:=(dW w X).1) (b:=(dW w X).2) hw ab l0 l1 l2 r1 N hN;have af:(dW w X).1<=(dW w X).2:=jq r1;have r0:=NQ r1 l0;have r2:=NP r1 l1;obtain⟨n,hn⟩:∃n,N=n+1:=⟨N-1,by have:=hN.1;omega⟩;have sb:=Rd N r0 r2;have cb:=Mv n r0 r2;rw[<-hn]at cb;exact⟨⟨l0,af,l1⟩,⟨k0,k1⟩,Jy hw ab af l2 rfl s.1 s.2 sb.1 sb.2,Jy hw ab af l2 rfl c.1 c.2 cb.1 cb.2⟩
structure Hid(p:Prop):Prop where
 h:p
@[push_cast] def adn:Sp where
 kind:=0
 pre
  |[.agg [.r (.int .i64 u)],.agg [.r (.bool b),.ns .u64 x,.r (.int .i64 e)],.agg [.r (.bool c),.ns .u64 y,.r (.bool d),.ns .u64 z,.r (.int .i64 w)]]=>(u=0\/u=1)/\DX b x e/\LX c y d z w
  |_=>False
 res
  |[.agg [.r (.int .i64 u)],.agg [.r (.bool b),.ns .u64 x,.r (.int .i64 e)],.agg [.r (.bool c),.ns .u64 y,.r (.bool d),.ns .u64 z,.r (.int .i64 w)]]=>
   .aU [ba (me w.toNat (xX w.toNat (yD (zv b x) e)) (fZ w.toNat (xX w.toNat (yD (zv b x) e))+u)).1 (me w.toNat (xX w.toNat (yD (zv b x) e)) (fZ w.toNat (xX w.toNat (yD (zv b x) e))+u)).2 w,(0:Int)]
  |_=>.any
end
end Go.Hl
