/- Lemmas for TopSound and TopBracket. -/
import Derived.Test.YtpgglolpkbepjaaGreatTBA
set_option linter.unusedVariables false
set_option linter.unusedSimpArgs false
namespace Go.Hl
open Go.Proofs.Tryz
open Go.Proofs.Tryz renaming prog→a0c
open Option renaming some→T',none→Y'
open Bool renaming true→Z',false→a0a
set_option maxHeartbeats 8000000
set_option maxRecDepth 100000
section
open Go Go.RowKit Go.Proofs
section
variable {x:Int}
theorem Sy{n:Int}(h1:0<=n)(h2:n<65536):IntKind.u16.wrap n=n:=by
 simp[IntKind.wrap,IntKind.bits,IntKind.signed];omega
theorem agG(n:Int)(ab:0<=n)(af:n<2^16):IntKind.u16.wrap n=n:=Sy ab (by simpa using af)
theorem TR(h0:0<=x)(h1:x<65536):bits .and .u16 x 2047=x%2048:=
 bits_mask .u16 16 p' agG 11 p' x h0 (by simpa using h1)
theorem TT(h0:0<=x)(h1:x<18446744073709551616):bits .and .u64 x 4503599627370495=x%4503599627370496:=Aa 52 p' x h0 h1
theorem aaV(h0:0<=x)(h1:x<4503599627370496):bits .or .u64 x 4503599627370496=x+4503599627370496:=
 Eo 52 4503599627370496 x p' p' p' h0 (by simpa using h1) f'
attribute [push_cast] Sy TR TT
def PN(n:Int):Prop:=4503599627370496<=n/\n<9218868437227405312
@[push_cast] def acZ:Sp:=zj 0 PN (λn=>.aU [a0a,(n/4503599627370496:Int),.r (.int .u64 (n%4503599627370496))])
theorem LG:aj a0c 41 acZ:=by
 refine aj.U λn⟨n1,n2⟩=>?_
 have hE:=env dC;have q0:n/9223372036854775808=0:=f';obtain⟨k,hk⟩:=nm (n/4503599627370496);obtain⟨r,hr⟩:=nm (n%4503599627370496);have k1:0<=k/\k<2048:=f';have ab:k%2048=k:=f';have r1:0<=r/\r<4503599627370496:=f';rw[hk,hr];refine aB func41 ntmps41 ?_;refine an (A4 q0 hk ab hr) ?_;exact pL
@[push_cast] def aeh:Sp:=zj 0 PN (λ_=>.r (.bool Z'))
theorem aaE:aj a0c 36 aeh:=by
 refine aj.U λn hp=>?_
 have hE:=di LG;obtain⟨n1,n2⟩:=id hp;obtain⟨k,hk⟩:=nm (n/4503599627370496);have k1:1<=k/\k<=2046:=f';have f1:(k !=0)=true:=O';have f2:(k !=2047)=true:=O';clear n1 n2;refine aB func36 ntmps36 ?_;refine an (A3 hk f1 f2) ?_;exact pL
theorem Fh{v:Int}(h:0<=v):zv a0a [v]=v:=by
 have:nb [v]=v.toNat:=by simp[nb,nv]
 simp only[zv,zs,this];simp;omega
@[push_cast] def af2:Sp:=zj 0 PN (λn=>.aU [mh (n%4503599627370496+4503599627370496) (n/4503599627370496-1075),(0:Int)])
theorem RZ:aj a0c 13 af2:=by
 refine aj.U λn hp=>?_
 have hE:=eF LG yi;obtain⟨n1,n2⟩:=id hp;obtain⟨k,hk⟩:=nm (n/4503599627370496);obtain⟨r,hr⟩:=nm (n%4503599627370496);have k1:1<=k/\k<=2046:=f';have r1:0<=r/\r<4503599627370496:=f';rw[hk,hr];have f1:(k==2047)=false:=O';have f2:(k==0)=false:=O';have ho:=aaV r1.1 r1.2;obtain⟨v,hv⟩:=nm (r+4503599627370496);rw[hv]at ho|-;have hz:=Fh (v:=v) f';have mK:(ak:Int)=18446744073709551616:=rfl;have hl:Lm [v]:=⟨aR.cons (by rw[mK];omega) aR.nil,J'⟩;clear mK;have e1:k-1023-52=k-1075:=f';obtain⟨M,hM⟩:=nm (ct v);obtain⟨E,ab⟩:=nm (cH v (k-1075));simp only[mh,hM,ab];clear n1 n2;refine aB func13 ntmps13 ?_;refine an (A9 hk hr f1 f2 ho e1 hz hM ab) ?_;exact pL
@[push_cast] def adS:Sp:=rS 0 (λe=>-1022<=e/\e<=1023) (λe=>.aU [.r (.int .u64 ((e+1023)*4503599627370496)),(0:Int)])
theorem Xz:aj a0c 35 adS:=by
 refine aj.I λe⟨e1,e2⟩=>?_
 have hE:=env dC;refine aB func35 ntmps35 ?_;refine an (A2 (show¬e< -1022 from f') (show¬1023<e from f')) ?_;exact pL
@[push_cast] def BK:Sp where
 kind:=0
 pre
  |[.agg [.r (.int .i64 _),.r (.int .i64 E),.r (.int .u64 _),.r (.int .u64 _),.r (.int .i64 _)],.r (.int .u64 i)]=>(-1022<=E/\E<=1000)/\0<=i/\i<=4503599627370496
  |_=>False
 res
  |[.agg [.r (.int .i64 _),.r (.int .i64 E),.r (.int .u64 _),.r (.int .u64 _),.r (.int .i64 _)],.r (.int .u64 i)]=>.r (.int .u64 ((E+1023)*4503599627370496+i))
  |_=>.any
theorem yU:aj a0c 11 BK:=by
 refine sz λargs hp=>?_
 split at hp;rotate_left;cases hp;rename_i F E A B M i;obtain⟨⟨e1,e2⟩,i1,i2⟩:=hp;have hE:=di Xz;refine aB func11 ntmps11 ?_;refine aK ?_;exact pL
end
end
section
open Go Go.RowKit Go.Proofs
structure iJ(p:Prop):Prop where
 h:p
def CB(b:Bool)(x:List Int)(c:Bool)(y:List Int):Prop:=(b=decide (zv b x<0)/\x=dg (zv b x).natAbs)/\(c=decide (zv c y<0)/\y=dg (zv c y).natAbs)
def eW(p:Int×Int):Int×Int:=if p.1<0 then(-p.2,-p.1)else p
theorem ab9{p:Int×Int}(h:p.1<=p.2):(eW p).1<=(eW p).2:=by
 unfold eW;split
 .show -p.2<=-p.1
  omega
 .exact h
@[push_cast] def acS:Sp:=BE 0 (λb x c y q=>dp b x c y q/\CB b x c y) (λb x c y q=>ba (eW (zv b x,zv c y)).1 (eW (zv b x,zv c y)).2 q)
theorem LN:aj a0c 39 acS:=by
 refine aj.A λb x c y q⟨hB,⟨⟨c1,c2⟩,c3,c4⟩⟩=>?_
 have hE:=eF rP vk;obtain⟨⟨hx,ab⟩,⟨hy,ao⟩,hle,q1,q2⟩:=hB;have af:x.length<10000000:=f';have aw:y.length<10000000:=f';obtain⟨X,hX⟩:=nm (zv b x);obtain⟨Y,hY⟩:=nm (zv c y);rw[hX]at c1 c2;rw[hY]at c3 c4;rw[hX,hY];refine aB func39 ntmps39 ?_
 by_cases h:X<0
 .have e:eW (X,Y)=(-Y,-X):=au h
  rw[e];have hs:X.sign<0:=by rw[Fy h];decide
  refine aT ?_;refine ai.seq ?_;refine gl (A2 hX hs) ?_;refine ai.eo (by rfl) ?_;refine ai.regionF [(1,1)] [] [(7,0,1),(10,3,1),(13,6,1),(14,8,1)] hE.hT hE.hS hE.hm (ki ⟨_,rfl⟩) (mw hE (A2 hX hY) ?_);change ai _ _ _ (.seq _ _) _ _;refine aK ?_;exact pL
 .have e:eW (X,Y)=(X,Y):=aq h
  rw[e];have hs:¬X.sign<0:=by
   rcases Ce X 0 with h'|h'|h'
   .omega
   .rw[h'];decide
   .rw[si h'];decide
  refine an (A2 hX hs) ?_;refine aO.mk a0b ?_;rw[ba,<-c1,<-c2,<-c3,<-c4]
def jU(p:Int×Int)(q:Int):Int:=(bJ (eW p).1.natAbs:Int)-1-q
def kG(p:Int×Int):Bool:=decide (0<p.1\/p.2<0)
@[push_cast] def aeE:Sp:=BE 0 (λb x c y q=>dp b x c y q/\CB b x c y) (λb x c y q=>.aU [(if kG (zv b x,zv c y)then jU (zv b x,zv c y) q else 0:Int),kG (zv b x,zv c y)])
theorem ack:aj a0c 37 aeE:=by
 refine aj.A λb x c y q⟨hB,hC⟩=>?_
 have hE:=nZ za rP LN Fe;obtain⟨⟨hx,a4⟩,⟨hy,a5⟩,hle,q1,q2⟩:=id hB;have bX:=dN (b:=b) hx (k:=60) f';have bY:=dN (b:=c) hy (k:=60) f';obtain⟨X,hX⟩:=nm (zv b x);obtain⟨Y,hY⟩:=nm (zv c y);rw[hX,hY]at hle;rw[hX]at bX;rw[hY]at bY;rw[hX,hY];obtain⟨U,hU⟩:=nm ((eW (X,Y)).1);have bU:Bz (64*60) U:=by
  rw[<-hU];unfold eW;split
  .exact bY.neg
  .exact bX
 obtain⟨oU,a6⟩:=bU.lz f';have a1:(bJ U.natAbs:Int)<=64*60:=by have:=(ku U.natAbs _).2 bU;omega
 obtain⟨N,hN⟩:∃N:Int,(bJ U.natAbs:Int)=N:=⟨_,rfl⟩;have a0:0<=N:=f';have ay:jU (X,Y) q=N-1-q:=by unfold jU;rw[hU,hN]
 refine aB func37 ntmps37 ?_;obtain⟨sX,af⟩:=nm (X.sign);obtain⟨sY,ao⟩:=nm (Y.sign);have sx:=rO X;have sy:=rO Y;rw[af]at sx;rw[ao]at sy;have sb:-1<=sX/\sX<=1/\-1<=sY/\sY<=1:=f';refine aT ?_;refine ai.seq ?_;refine ai.seq ?_
 by_cases h:0<X\/Y<0
 .have hb:kG (X,Y)=true:=fu h
  rw[hb,ay,au rfl];have hp:sX*sY=1:=by
   rcases h with h|h
   .have e1:sX=1:=f'
    have e2:sY=1:=f';rw[e1,e2];rfl
   .have e1:sX=-1:=f'
    have e2:sY=-1:=f';rw[e1,e2];rfl
  clear bX bY bU sx sy sb hle h;refine ai.regionF [(1,1)] [] [] hE.hT hE.hS hE.hm (ki ⟨_,rfl⟩) (mw hE (A5 hX hY af ao hp) ?_);refine aF ?_;refine aG [(1,1)] [] [(22,5,1)] (A4 hX hY hU hN) ?_;exact pL
 .have hb:kG (X,Y)=false:=lG h
  rw[hb,aq J'];have hp:¬0<sX*sY:=by
   intro ax;rcases sx with⟨_,e1⟩|⟨_,e1⟩|⟨_,e1⟩<;>rcases sy with⟨_,e2⟩|⟨_,e2⟩|⟨_,e2⟩<;>rw[e1,e2]at ax<;>omega
  obtain⟨pp,ab⟩:=nm (sX*sY);rw[ab]at hp;have aw:pp<=0:=f';have a3:-1<=pp:=by
   rw[<-ab];rcases sx with⟨_,e1⟩|⟨_,e1⟩|⟨_,e1⟩<;>rcases sy with⟨_,e2⟩|⟨_,e2⟩|⟨_,e2⟩<;>rw[e1,e2]<;>decide
  clear bX bY bU sx sy hle h;refine ai.regionF [(1,1)] [] [] hE.hT hE.hS hE.hm (ki ⟨_,rfl⟩) (mw hE (A6 hX hY af ao ab aw) ?_);refine ai.eo (by rfl) ?_;refine aK ?_;exact pL
@[push_cast] def aee:Sp where
 kind:=0
 pre
  |[.agg [.r (.bool b),.ns .u64 x],.vp [.r (.int .i64 s)],.vp [.r (.bool d),.ns .u64 t]]=>(Lm x/\x.length<70)/\(Lm t/\t.length<70)/\(0<=s/\s<=2048)/\zv d t=2^s.toNat
  |_=>False
 res
  |[.agg [.r (.bool b),.ns .u64 x],.vp [.r (.int .i64 s)],.vp [.r (.bool _),.ns .u64 _]]=>zi (iU (2^s.toNat) (zv b x))
  |_=>.any
theorem aav:aj a0c 77 aee:=by
 refine sz λargs hp=>?_
 split at hp;rotate_left;cases hp;rename_i b x s d t;obtain⟨⟨hx,a0⟩,⟨ht,ax⟩,⟨s0,s1⟩,hT⟩:=hp;have hE:=nZ Fg oY zD tR;have bX:=dN (b:=b) hx (k:=69) f';have bT:=dN (b:=d) ht (k:=69) f';have ao:sh s=s.toNat:=ia s0 f';obtain⟨X,hX⟩:=nm (zv b x);obtain⟨T,ab⟩:∃T:Int,(2:Int)^s.toNat=T:=⟨_,rfl⟩;have aw:0<T:=by rw[<-ab];exact cf _
 have af:(2:Int)^sh s=T:=by rw[ao];exact ab
 rw[ab]at hT;rw[hX]at bX;rw[hT]at bT;rw[hX,ab];obtain⟨A,hA⟩:=nm (X/T);obtain⟨B,hB⟩:=nm (A*T);have bA:Bz (64*69) A:=by rw[<-hA];exact bX.div
 have bB:Bz (64*69+64*69) B:=by rw[<-hB];exact bA.mul bT
 obtain⟨r,hr⟩:=nm (X-B);have br:Bz (64*69+64*69+1) r:=by rw[<-hr];exact(bX.mono f').sub bB
 obtain⟨u,hu⟩:=nm (T-r);have bu:Bz (64*69+64*69+1+1) u:=by rw[<-hu];exact(bT.mono f').sub br
 have en:iU T X=if u<r then u else r:=by unfold iU;rw[hA,hB,hr];simp only[hu]
 obtain⟨oA,a3⟩:=bA.lz f';obtain⟨oB,a4⟩:=bB.lz f';obtain⟨or',a5⟩:=br.lz f';obtain⟨ou,a6⟩:=bu.lz f';have a1:x.length<10000000:=f';have ay:t.length<10000000:=f';have hc:dc u r<0↔u<r:=by unfold dc;repeat' split<;>omega
 rw[en];clear bX bT bA bB br bu en;refine aB func77 ntmps77 ?_;refine aT ?_;refine ai.seq ?_;refine ai.regionF [(3,3),(1,900001)] [(5,7)] [] hE.hT hE.hS hE.hm (Ot (.inl ⟨_,rfl⟩) (.inr (.inr ⟨_,rfl⟩))) (mw hE (A5 hX af hA hB hr) ?_);change ai _ _ _ (.seq _ _) _ _
 by_cases h:u<r
 .rw[au h]
  have h2:=hc.2 h;refine an (A3 hT hu h2) ?_;exact pL
 .rw[aq h]
  have h2:¬dc u r<0:=λh3=>h (hc.1 h3)
  refine an (A3 hT hu h2) ?_;exact pL
end
section
variable {p:Int×Int}{a b q:Nat}{v:Rat}
theorem IE(h:kG p=Z')(hle:p.1<=p.2):0<(eW p).1/\(eW p).1<=(eW p).2:=by
 have h1:0<p.1\/p.2<0:=js h;refine⟨?_,ab9 hle⟩;unfold eW;split
 .show 0< -p.2
  omega
 .omega
theorem CU{z:Int}(hz:0<z):1<=(bJ z.natAbs:Int)/\2^(bJ z.natAbs-1)<=z/\z<2^bJ z.natAbs:=by
 have hn:z.natAbs≠0:=f';have e:bJ z.natAbs=z.natAbs.log2+1:=by unfold bJ;rw[aq hn]
 have a:=Cz hn;have b:=FO (n:=z.natAbs);rw[e];have ab:(z.natAbs:Int)=z:=f';refine⟨f',?_,?_⟩
 .rw[show z.natAbs.log2+1-1=z.natAbs.log2 from f']
  have:((2^z.natAbs.log2:Nat):Int)<=(z.natAbs:Int):=by exact_mod_cast a
  rw[kJ,ab]at this;exact this
 .have:(z.natAbs:Int)<((2^(z.natAbs.log2+1):Nat):Int):=by exact_mod_cast b
  rw[kJ,ab]at this;exact this
theorem IF(hi:aW q p v)(h:kG p=Z'):(0<p.1/\eW p=p/\aW q (eW p) v)\/(p.2<0/\eW p=(-p.2,-p.1)/\aW q (eW p) (-v)):=by
 have hle:=jq hi;have h1:0<p.1\/p.2<0:=js h;rcases h1 with h1|h1
 .left
  have e:eW p=p:=aq f';exact⟨h1,e,by rw[e];exact hi⟩
 .right
  have e:eW p=(-p.2,-p.1):=au f';refine⟨h1,e,?_⟩;rw[e];refine⟨?_,?_⟩
  .show((-p.2:Int):Rat)<=-v*2^q
   rw[zU];have:=hi.2
   grind
  .show -v*2^q<=((-p.1:Int):Rat)
   rw[zU];have:=hi.1
   grind
theorem acn{k:Nat}(h:(2:Rat)^k<=v*2^a){j:Nat}(e:k+b=j+a):(2:Rat)^j<=v*2^b:=by
 refine cO (two_pos a) ?_;have h2:=cA h (cL (two_pos b));have e1:(2:Rat)^k*2^b=2^j*2^a:=by rw[<-kF,<-kF,e]
 rw[e1]at h2
 grind
structure LK where
 lo:Int
 hi:Int
 q:Int
 k:Int
 e:Int
 s:Int
 least:Int
 most:Int
 gV:Bool
def kj(f m Y:Nat):Nat:=((m:Int)+160-min (jU (cD f 300 Y).1 300) 0).toNat
def aX(f m Y:Nat):LK:=
 if kG (cD f 300 Y).1=Z' then
  let q:=kj f m Y
  let w:=cD f q Y
  let n:=jU w.1 (q:Int)
  let s:=(q:Int)-53+n
  let g:=gK (2^s.toNat) (2^(s-1).toNat) (eW w.1).1 (eW w.1).2
  ⟨w.1.1,w.1.2,(q:Int),w.2,n+w.2,s,g.1,g.2,decide ((bJ g.1.natAbs:Int)<=s-(m:Int))⟩
 else⟨(cD f 300 Y).1.1,(cD f 300 Y).1.2,300,(cD f 300 Y).2,0,0,0,0,Z'⟩
theorem Ur(h:BD v):BD (-v):=⟨by have:=h.2;grind,by have:=h.1;grind⟩
theorem IH(h:(2:Int)^a<2^b):a<b:=by
 rcases dQ a b with h1|h1
 .exact h1
 .exfalso
  have:=jf (s:=b) (w:=a) (c:=2^b) h1 (gu _);omega
theorem RJ{B:Nat}{L:Int}(h1:2^(B-1)<=L)(h2:L<=900*2^q):B<=q+10:=by
 have h3:(2:Int)^(B-1)<2^(q+10):=by
  have e:(2:Int)^(q+10)=2^q*1024:=by rw[gk];rfl
  have:=cf q;omega
 have:=IH h3;omega
theorem acm{J:Nat}{W:Int×Int}{V A:Rat}(hA:A=V\/A=-V)(bA:BD A)(i1:aW q W V)(w1:W.2-W.1<=2)(l2:(2:Rat)^J<=A*2^q)(hJ:16<=J):
 kG W=Z'/\J<=bJ (eW W).1.natAbs/\bJ (eW W).1.natAbs<=q+10:=by
 have ab:(65536:Int)<=2^J:=jf (s:=16) hJ p';have e2:(2:Int)^J=2^(J-1)*2:=by rw[<-jw];congr 1;omega
 have fin:∀(L H:Int),eW W=(L,H)->aW q (L,H) A->2^J-2<=L->J<=bJ (eW W).1.natAbs/\bJ (eW W).1.natAbs<=q+10:=by
  intro L H e hi hl;rw[e];show J<=bJ L.natAbs/\bJ L.natAbs<=q+10;obtain⟨b1,b2,b3⟩:=CU (z:=L) f';have h3:(2:Int)^(J-1)<2^bJ L.natAbs:=f';have:=IH h3;refine⟨f',RJ b2 (HH (t:=(L,H)) hi bA.2)⟩
 rcases hA with hA|hA
 .subst hA
  have h1:(2:Int)^J<=W.2:=by
   rw[<-cj,cV];exact fD l2 i1.2
  have hp:eW W=(W.1,W.2):=aq f';exact⟨fu (.inl f'),fin W.1 W.2 hp i1 f'⟩
 .have h1:(2:Int)^J<=-W.1:=by
   rw[<-cj,cV,zU];refine fD l2 ?_;rw[hA,show -V*2^q=-(V*2^q)by rw[Rat.neg_mul]];exact Rat.neg_le_neg i1.1
  have hs:kG W=true:=fu (.inr f');have hp:eW W=(-W.2,-W.1):=au f';refine⟨hs,fin (-W.2) (-W.1) hp ?_ f'⟩;rcases IF i1 hs with⟨h2,_,_⟩|⟨_,_,h2⟩
  .omega
  .rw[hp,<-hA]at h2
   exact h2
theorem H8{f m Y:Nat}(hm:1<=m)(a0:m<=128)(hY:0<Y)(ab:Y<2^126)(h:kG (cD f 300 Y).1=Z'):
 (-300<=jU (cD f 300 Y).1 300/\jU (cD f 300 Y).1 300<=10)/\(161<=kj f m Y/\kj f m Y<=588)/\((kj f m Y:Nat):Int)=(m:Int)+160-min (jU (cD f 300 Y).1 300) 0/\
 kG (cD f (kj f m Y) Y).1=Z'/\(jU (cD f 300 Y).1 300-1<=jU (cD f (kj f m Y) Y).1 ((kj f m Y:Nat):Int)/\jU (cD f (kj f m Y) Y).1 ((kj f m Y:Nat):Int)<=10):=by
 obtain⟨N,hN⟩:=tG;obtain⟨i0,w0,_⟩:=qo (f:=f) (q:=300) p' p' hY ab N hN;have bd:=Gj (f:=f) hY ab hN;obtain⟨V,hV⟩:=nm (zq N f Y);rw[hV]at i0 bd;have aw:=jq i0;obtain⟨p0,_⟩:=IE h aw;obtain⟨b1,b2,b3⟩:=CU p0;have abs:∃A:Rat,(A=V\/A=-V)/\aW 300 (eW (cD f 300 Y).1) A/\BD A:=by
  rcases IF i0 h with⟨_,_,h2⟩|⟨_,_,h2⟩
  .exact⟨V,.inl rfl,h2,bd⟩
  .exact⟨-V,.inr rfl,h2,Ur bd⟩
 obtain⟨A,hA,iA,bA⟩:=abs;obtain⟨L,hL⟩:=nm ((eW (cD f 300 Y).1).1);obtain⟨B,hB⟩:=nm (bJ L.natAbs);have af:jU (cD f 300 Y).1 300=(B:Int)-1-300:=by unfold jU;rw[hL,hB]
 have ao:=HH iA bA.2;have iL:=iA.1;rw[hL]at p0 b1 b2 b3 ao iL;rw[hB]at b1 b2 b3;have l1:((2:Rat)^(B-1))<=A*2^300:=by
  have:=cj.2 b2;rw[cV]at this;exact fD this iL
 have ay:B<=310:=RJ b2 ao;have ax:-300<=jU (cD f 300 Y).1 300/\jU (cD f 300 Y).1 300<=10:=by rw[af];omega
 have hq:((kj f m Y:Nat):Int)=(m:Int)+160-min (jU (cD f 300 Y).1 300) 0:=tY f';obtain⟨q,eq⟩:=nm (kj f m Y);rw[eq]at hq|-;have qb:161<=q/\q<=588:=f';obtain⟨i1,w1,_⟩:=qo (f:=f) (q:=q) f' f' hY ab N hN;rw[hV]at i1;have a1:161<=(B:Int)-301+q:=by rw[af]at hq;omega
 obtain⟨J,hJ⟩:∃J:Nat,B-1+q=J+300:=⟨B-1+q-300,f'⟩;have l2:=acn l1 hJ;obtain⟨s1,s2,s3⟩:=acm hA bA i1 w1 l2 f';refine⟨ax,qb,hq,s1,?_⟩;rw[af];unfold jU;omega
end
section
variable {T c d z:Rat}
def UU:Rat:=2^2000
theorem KP:0<UU:=two_pos 2000
theorem Np(hc:0<c)(h:Fr T z d):Fr (T*c) (z*c) (d*c):=by
 intro m;rcases h m with h|h
 .left
  have:=cA h (cL hc)
  grind
 .right
  have:=cA h (cL hc)
  grind
theorem Pe(hc:0<c)(h:Nr T z d):Nr (T*c) (z*c) (d*c):=by
 obtain⟨m,a,b⟩:=h;have a:=cA a (cL hc);have b:=cA b (cL hc);exact⟨m,E',E'⟩
structure LF(A:Rat)(e k m:Nat)(l u:Int):Prop where
 Nd:Fr UU (A*2^e) ((l:Rat)*2^k)
 OY:Nr UU (A*2^e) ((u:Rat)*2^k)
 aau:Nr UU (A*2^e) (((l:Rat)+2)*2^k)
 Hd:Fr UU (A*2^e) (((u:Rat)-2)*2^k)
 l0:0<=l
 lu:l<=u
 lo:2^53*UU<=A*2^e
 hi:A*2^e<=2^54*UU+2^k
 zero:2^54*UU<=A*2^e->l=0
 kk:k+m+106<=2000
theorem ZP{A:Rat}{q B m:Nat}{L H:Int}(ab:aW q (L,H) A)(hw:H-L<=2)(b1:2^(B-1)<=L)(b2:L<2^B)(hB:m+160<=B)(ax:B<=2054):
 LF A (q+(2054-B)) (2054-B) m (gK (2^(B-54)) (2^(B-55)) L H).1 (gK (2^(B-54)) (2^(B-55)) L H).2:=by
 obtain⟨T,hT⟩:∃T:Int,2^(B-54)=T:=⟨_,rfl⟩;obtain⟨Th,ao⟩:∃T:Int,2^(B-55)=T:=⟨_,rfl⟩;have T0:0<T:=by rw[<-hT];exact cf _
 have hh:2*Th=T:=by rw[<-hT,<-ao,show B-54=(B-55)+1 from f',jw];omega
 have a0:(2:Int)^B=2^54*T:=by rw[<-hT,<-gk];congr 1;omega
 have aw:(2:Int)^(B-1)=2^53*T:=by rw[<-hT,<-gk];congr 1;omega
 rw[hT,ao];obtain⟨g1,g2,g3,g4⟩:=Ho (T:=T) (H:=Th) (lo:=L) (hi:=H) T0 hh (jq ab);obtain⟨l,hl⟩:=nm ((gK T Th L H).1);obtain⟨u,hu⟩:=nm ((gK T Th L H).2);rw[hl,hu]at g1;rw[hl]at g2 g3|-;rw[hu]at g3 g4|-;obtain⟨k,hk⟩:=nm (2054-B);rw[hk];have hc:(0:Rat)<2^k:=two_pos k;have af:(T:Rat)*2^k=UU:=by
  rw[<-hT,cV,<-kF];show(2:Rat)^(B-54+k)=2^2000
  congr 1;omega
 have hA:A*2^(q+k)=A*2^q*2^k:=by rw[kF,CD]
 have ay:(H:Rat)-(L:Rat)<=2:=by
  have:=cj.2 hw;rw[iY,sN]at this;exact this
 obtain⟨f1,f2,f3,f4⟩:=g1 (A*2^q) ab.1 ab.2;have f3:=aaG f3 (e:=(l:Rat)+2) E';have f4:=XE f4 (e:=(u:Rat)-2) E';have f1:=Np hc f1;have f2:=Pe hc f2;have f3:=Pe hc f3;have f4:=Np hc f4;rw[af,<-hA]at f1 f2 f3 f4;have i1:=ab.1;have i2:=ab.2;dsimp only at i1 i2;refine⟨f1,f2,f3,f4,g2,g3,?_,?_,λhz=>?_,f'⟩
 .rw[hA,<-af,<-CD]
  refine cA (fD ?_ i1) (cL hc);have:=cj.2 b1;rw[aw,cg,cV]at this;exact this
 .rw[hA,<-af,<-CD]
  have h1:A*2^q<=2^54*(T:Rat)+1:=by
   refine fD i2 ?_;have:=cj.2 (show H<=2^54*T+1 from f');rw[jG,cg,cV,nl]at this;exact this
  have h2:=cA h1 (cL hc)
  grind
 .rw[hA,<-af,<-CD]at hz
  have h1:2^54*(T:Rat)<=A*2^q:=cO hc hz;have h2:((2^54*T:Int):Rat)<=(H:Rat):=by
   rw[cg,cV];exact fD h1 i2
  have h3:(L:Rat)<=((2^54*T:Int):Rat):=cj.2 f';obtain⟨w1,_⟩:=g1 _ h3 h2;have w2:=w1 (2^54);rw[cg]at w2;have w3:(l:Rat)<=0:=by rcases w2 with w2|w2<;>grind
  have w4:((l:Int):Rat)<=((0:Int):Rat):=w3;have:=cj.1 w4;omega
end
section
variable {l l1 l2 u u1 u2:Int}{a e e1 e2 k k1 k2 m m1 m2:Nat}{A:Rat}
theorem pwR{n:Nat}(h:a<=n):(2:Rat)^a<=2^n:=by
 have:=lM (lC (show 0<2 from p') h);rw[zX,zX]at this;exact this
theorem Qg(h:a<=2000):(2:Rat)^a<=UU:=pwR h
theorem QL(h1:LF A e1 k1 m1 l1 u1)(h2:LF A e2 k2 m2 l2 u2):e1=e2\/e1=e2+1\/e2=e1+1:=by
 have key:∀{e1 e2 k1 k2 m1 m2:Nat}{l1 u1 l2 u2:Int},LF A e1 k1 m1 l1 u1->LF A e2 k2 m2 l2 u2->e1<e2+2:=by
  intro e1 e2 k1 k2 m1 m2 l1 u1 l2 u2 h1 h2;rcases dQ e1 (e2+2)with h|h
  .exact h
  .exfalso
   obtain⟨j,rfl⟩:∃j,e1=e2+2+j:=⟨e1-(e2+2),f'⟩;have af:=h2.lo;have ab:=h1.hi;have e:A*2^(e2+2+j)=A*2^e2*4*2^j:=by rw[kF,kF];grind
   have hj:(1:Rat)<=2^j:=by
    have:=lM (show 1<=2^j from Nat.one_le_two_pow);rw[zX]at this;exact this
   have hk:(2:Rat)^k1<=UU:=Qg (by have:=h1.kk;omega);have hU:=KP;rw[e]at ab;have p4:0<=A*2^e2*4:=E';have:=fg hj p4
   grind
 have a:=key h1 h2;have b:=key h2 h1;omega
theorem EO(e:Nat):A*2^(e+1)=2*(A*2^e):=by rw[kF];grind
theorem Bd(h:LF A e k m l u):0<(2:Rat)^k/\(2:Rat)^k*2^(m+106)<=UU:=by
 refine⟨two_pos k,?_⟩;rw[<-kF];exact Qg (by have:=h.kk;omega)
theorem T8(U:Rat):(((2:Int)^54:Int):Rat)*U=2^54*U:=by rw[cV]
theorem Lh(U:Rat):(((2:Int)^53:Int):Rat)*U=2^53*U:=by rw[cV]
theorem Ut(m:Nat):(8:Rat)<=2^(m+106):=by
 have:=lM (show 8<=2^(m+106)from fC (by decide:8<=2^106) (lC p' f'));rw[zX]at this;exact this
theorem Og(h:LF A e k m l u):8*(2:Rat)^k<=UU:=by
 obtain⟨a,b⟩:=Bd h;have:=fg (Ut m) (cL a)
 grind
theorem aaw(h1:LF A e1 k1 m1 l1 u1)(h2:LF A e2 k2 m2 l2 u2):(l1:Rat)*2^k1<=(u2:Rat)*2^k2:=by
 have u0:0<=(u2:Rat)*2^k2:=dV (px (nO h2.l0 h2.lu)) (cL (two_pos _));have hU:=KP;have q1:=Og h1;have q2:=Og h2;obtain⟨p1,_⟩:=Bd h1;obtain⟨p2,_⟩:=Bd h2;rcases QL h1 h2 with rfl|rfl|rfl
 .exact No h1.Nd h2.OY
 .have hz:=h1.zero (by rw[EO];have:=h2.lo;grind)
  rw[hz];have:((0:Int):Rat)=0:=rfl;rw[this,KN];exact u0
 .have f:=h1.Nd (2^53)
  rw[Lh]at f;obtain⟨m,a,b⟩:=h2.OY;have lo:=h1.lo;have hi:=h2.hi;rw[EO]at a b hi;generalize A*2^e1=z at*;generalize(l1:Rat)*2^k1=l at*;generalize(u2:Rat)*2^k2=u at*;generalize(2:Rat)^k2=c at*;have hl:l<=z-2^53*UU:=by rcases f with f|f<;>grind
  rcases qc (2^54) m with hm|hm
  .have:=cA (cj.2 (show(2:Int)^54+1<=m from f')) (cL hU)
   rw[jG,cV,nl]at this
   grind
  .have:=cA (cj.2 hm) (cL hU)
   rw[cV]at this
   grind
theorem YI(h1:LF A e1 k1 m1 l1 u1)(h2:LF A e2 k2 m2 l2 u2)(hm:m1<=m2){D:Rat}(hD:D*2^m1=UU)(hl:(l1:Rat)*2^k1<D):(u2:Rat)*2^k2*2^104<=(l1:Rat)*2^k1*2^104+D:=by
 obtain⟨p1,q1⟩:=Bd h1;obtain⟨p2,q2⟩:=Bd h2;have l0:0<=(l1:Rat)*2^k1:=dV (px h1.l0) (cL (two_pos _));have hM:=two_pos m1;have ab:∀m:Nat,(2:Rat)^(m+106)=2^m*(4*2^104):=λm=>by
  have h1:(2:Rat)^(104+2)=2^104*2^2:=kF _ _;have h2:(2:Rat)^(m+106)=2^m*2^(104+2):=kF _ _;rw[h2,h1]
  grind
 have b1:(2:Rat)^k1*(4*2^104)<=D:=by
  refine cO hM ?_;rw[hD];rw[ab]at q1
  grind
 have b2:(2:Rat)^k2*(4*2^104)<=D:=by
  refine cO hM ?_;rw[hD];rw[ab]at q2;have af:(2:Rat)^m1<=2^m2:=by
   have:=lM (lC (show 0<2 from p') hm);rw[zX,zX]at this;exact this
  have:=fg af (show 0<=(2:Rat)^k2*(4*2^104)by have:=two_pos 104;exact dV (cL p2) E')
  grind
 have t104:=two_pos 104;have ao:((u2:Rat)-2)*2^k2=(u2:Rat)*2^k2-2*2^k2:=E';have fin:(u2:Rat)*2^k2-2*2^k2<=(l1:Rat)*2^k1+2*2^k1\/(u2:Rat)*2^k2-2*2^k2<=2^k1\/(u2:Rat)*2^k2-2*2^k2<=2^k2:=by
  rcases QL h1 h2 with rfl|rfl|rfl
  .left
   have:=No h2.Hd h1.aau
   grind
  .right;left
   have f:=h2.Hd (2^53);rw[Lh]at f;have lo:=h2.lo;have hi:=h1.hi;rw[EO]at hi;rcases f with f|f<;>grind
  .right;right
   have f:=h2.Hd (2^54);rw[T8]at f;have lo:=h1.lo;have hi:=h2.hi;rw[EO]at f hi;rcases f with f|f<;>grind
 generalize(u2:Rat)*2^k2=u at*;generalize(l1:Rat)*2^k1=l at*;generalize(2:Rat)^k1=c1 at*;generalize(2:Rat)^k2=c2 at*;generalize(2:Rat)^104=t at*;have n1:=dV (cL p1) (cL t104);have n2:=dV (cL p2) (cL t104);have n3:=dV l0 (cL t104);rcases fin with h|h|h
 iterate 2
  .have:=cA h (cL t104)
   grind
 .have:=cA h (cL t104)
  grind
end
section
variable {Y f m m1 m2:Nat}
def wI(z s:Int):Int:=z*2^(2000-s).toNat
structure LW(A:Rat)(f m Y:Nat)(e k:Nat):Prop where
 lf:LF A e k m (aX f m Y).least (aX f m Y).most
 s1:(m:Int)+106<=(aX f m Y).s
 s2:(aX f m Y).s<=600
 k:((2000:Int)-(aX f m Y).s).toNat=k
 ub:(aX f m Y).most<=2^600
 uq:(aX f m Y).lo=(cD f (kj f m Y) Y).1.1/\(aX f m Y).hi=(cD f (kj f m Y) Y).1.2/\(aX f m Y).q=(kj f m Y:Nat)/\(aX f m Y).k=(cD f (kj f m Y) Y).2
 gV:(aX f m Y).gV=decide ((bJ (aX f m Y).least.natAbs:Int)<=(aX f m Y).s-m)
theorem DW(hY:0<Y)(af:Y<2^126)(h:kG (cD f 300 Y).1=Z'):∃A,∀m,1<=m->m<=128->∃e k,LW A f m Y e k:=by
 obtain⟨N,hN⟩:=tG;have bd:=Gj (f:=f) hY af hN;obtain⟨V,hV⟩:=nm (zq N f Y);rw[hV]at bd;refine⟨if V<0 then -V else V,λm hm ax=>?_⟩;obtain⟨⟨n1,n2⟩,⟨q1,q2⟩,hq,hs,s1,s2⟩:=H8 (f:=f) hm ax hY af h;obtain⟨q,eq⟩:=nm (kj f m Y);rw[eq]at q1 q2 hq hs s1 s2;obtain⟨i1,w1,_⟩:=qo (f:=f) (q:=q) f' f' hY af N hN;rw[hV]at i1;have a1:=jq i1;have ab:aW q (eW (cD f q Y).1) (if V<0 then -V else V)/\(eW (cD f q Y).1).2-(eW (cD f q Y).1).1<=2:=by
  have p2:=two_pos q;rcases IF i1 hs with⟨h1,h2,h3⟩|⟨h1,h2,h3⟩
  .have hv:¬V<0:=λhv=>by
    have a:=i1.1;have b:=Am.2 h1;have e0:((0:Int):Rat)=0:=rfl;rw[e0]at b;have:=KL hv p2
    grind
   rw[aq hv];exact⟨h3,by rw[h2];exact w1⟩
  .have hv:V<0:=by
    have a:=i1.2;have b:=Am.2 h1;have e0:((0:Int):Rat)=0:=rfl;rw[e0]at b;refine lr λhn=>?_
    have:=dV (Rat.not_lt.1 hn) (cL p2)
    grind
   rw[au hv];refine⟨h3,?_⟩;rw[h2];show -(cD f q Y).1.1- -(cD f q Y).1.2<=2;omega
 obtain⟨ab,ao⟩:=ab;have pb:=IE hs a1;obtain⟨L,hL⟩:=nm ((eW (cD f q Y).1).1);obtain⟨H,hH⟩:=nm ((eW (cD f q Y).1).2);have hp:eW (cD f q Y).1=(L,H):=by rw[<-hL,<-hH]
 rw[hp]at ab ao pb;dsimp only at ao pb;obtain⟨c1,c2,c3⟩:=CU pb.1;obtain⟨B,hB⟩:=nm (bJ L.natAbs);have aw:jU (cD f q Y).1 (q:Int)=(B:Int)-1-q:=by unfold jU;rw[hL,hB]
 rw[aw]at s1 s2;rw[hB]at c1 c2 c3;have B1:m+160<=B:=f';have B2:B<=600:=f';have lf:=ZP (m:=m) ab ao c2 c3 B1 f';have ay:(q:Int)-53+((B:Int)-1-q)=((B-54:Nat):Int):=f';have hl:aX f m Y=⟨(cD f q Y).1.1,(cD f q Y).1.2,(q:Int),(cD f q Y).2,(B:Int)-1-q+(cD f q Y).2,((B-54:Nat):Int),(gK (2^(B-54)) (2^(B-55)) L H).1,(gK (2^(B-54)) (2^(B-55)) L H).2,
  decide ((bJ (gK (2^(B-54)) (2^(B-55)) L H).1.natAbs:Int)<=((B-54:Nat):Int)-(m:Int))⟩:=by
  unfold aX;rw[au h];simp only[eq,aw,ay,hp];rw[dD,show(((B-54:Nat):Int)-1).toNat=B-55 from f']
 have a0:(gK (2^(B-54)) (2^(B-55)) L H).2<=2^600:=by
  have g:=(Ho (T:=2^(B-54)) (H:=2^(B-55)) (lo:=L) (hi:=H) (cf _) (by rw[show B-54=(B-55)+1 from f',jw];omega) (jq ab)).2.2.2;have:(2:Int)^(B-54)<=2^600:=jf (s:=B-54) (w:=600) f' (gu _);exact nO g this
 refine⟨q+(2054-B),2054-B,?_,?_,?_,?_,?_,?_,?_⟩
 .rw[hl];exact lf
 iterate 3
  .rw[hl];dsimp only;omega
 .rw[hl];exact a0
 .rw[hl,eq];exact⟨rfl,rfl,rfl,rfl⟩
 .rw[hl]
theorem BY(z s:Int):((wI z s:Int):Rat)=(z:Rat)*2^(2000-s).toNat:=by unfold wI;rw[cg,cV]
theorem DY(h:kG (cD f 300 Y).1=a0a):(aX f m Y).least=0/\(aX f m Y).most=0/\(aX f m Y).s=0/\(aX f m Y).gV=true:=by
 unfold aX;rw[aq (by rw[h];simp)];exact⟨rfl,rfl,rfl,rfl⟩
theorem Mu(hY:0<Y)(ab:Y<2^126)(a1:1<=m1)(a2:m1<=128)(b1:1<=m2)(b2:m2<=128):wI (aX f m1 Y).least (aX f m1 Y).s<=wI (aX f m2 Y).most (aX f m2 Y).s:=by
 cases h:kG (cD f 300 Y).1 with
 |false=>
  obtain⟨p1,p2,p3,_⟩:=DY (m:=m1) h;obtain⟨r1,r2,r3,_⟩:=DY (m:=m2) h;rw[p1,p3,r2,r3];exact gu _
 |true=>
  obtain⟨A,hA⟩:=DW hY ab h;obtain⟨e1,k1,w1⟩:=hA m1 a1 a2;obtain⟨e2,k2,w2⟩:=hA m2 b1 b2;have:=aaw w1.lf w2.lf;rw[<-w1.k,<-w2.k,<-BY,<-BY,cj]at this;exact this
theorem UB{z:Int}(h0:0<=z)(k:Nat):(bJ z.natAbs:Int)<=k↔z<2^k:=by
 rcases qc 0 z with hz|hz
 .obtain⟨c1,c2,c3⟩:=CU hz
  constructor
  .intro h
   have:=jf (s:=bJ z.natAbs) (w:=k) (c:=2^bJ z.natAbs) f' (gu _);omega
  .intro h
   have:=IH (zI c2 h);omega
 .obtain rfl:z=0:=f'
  have:=cf k;simp[bJ,this]
theorem Hy(hY:0<Y)(ab:Y<2^126)(a1:1<=m)(a2:m<=128):(aX f m Y).gV=decide (wI (aX f m Y).least (aX f m Y).s<2^(2000-m)):=by
 cases h:kG (cD f 300 Y).1 with
 |false=>
  obtain⟨p1,p2,p3,p4⟩:=DY (m:=m) h;rw[p1,p3,p4];have:=cf (2000-m);rw[show wI 0 0=0 from xw _];exact(fu this).symm
 |true=>
  obtain⟨A,hA⟩:=DW hY ab h;obtain⟨e,k,w⟩:=hA m a1 a2;have s1:=w.s1;have s2:=w.s2;rw[w.gV]
  congr 1
  rw[eq_iff_iff];obtain⟨j,hj⟩:∃j:Nat,(aX f m Y).s-(m:Int)=j:=⟨((aX f m Y).s-m).toNat,f'⟩;rw[hj,UB w.lf.l0 j];unfold wI;have hp:=cf (2000-(aX f m Y).s).toNat;have e1:(2:Int)^(2000-m)=2^j*2^(2000-(aX f m Y).s).toNat:=by rw[<-gk];congr 1;omega
  rw[e1];exact⟨λh=>J3 h hp,λh=>lX h (bo hp)⟩
theorem aax(hY:0<Y)(af:Y<2^126)(a1:1<=m1)(hm:m1<=m2)(b2:m2<=128)(hh:(aX f m1 Y).gV=Z'):wI (aX f m2 Y).most (aX f m2 Y).s<2^(2000-m1)+2^(1968-m1):=by
 have ab:=Hy (f:=f) hY af a1 f';rw[hh]at ab;have ab:=js ab.symm;have p1:=cf (2000-m1);have p2:=cf (1968-m1);cases h:kG (cD f 300 Y).1 with
 |false=>
  obtain⟨r1,r2,r3,_⟩:=DY (m:=m2) h;rw[r2,r3];simp only[wI,xw];omega
 |true=>
  obtain⟨A,hA⟩:=DW hY af h;obtain⟨e1,k1,w1⟩:=hA m1 a1 f';obtain⟨e2,k2,w2⟩:=hA m2 f' b2;have hD:(2:Rat)^(2000-m1)*2^m1=UU:=by
   rw[<-kF];show(2:Rat)^(2000-m1+m1)=2^2000
   congr 1;omega
  have hl:((aX f m1 Y).least:Rat)*2^k1<2^(2000-m1):=by
   rw[<-w1.k,<-BY,<-cV,Am];exact ab
  have:=YI w1.lf w2.lf hm hD hl;rw[<-w1.k,<-w2.k,<-BY,<-BY,<-cV,<-cV,<-cg,<-cg,<-jG,cj]at this;have e3:(2:Int)^(2000-m1)=2^32*2^(1968-m1):=by rw[<-gk];congr 1;omega
  rw[e3]at this ab|-;generalize wI (aX f m2 Y).most (aX f m2 Y).s=u at*;generalize wI (aX f m1 Y).least (aX f m1 Y).s=l at*;generalize(2:Int)^(1968-m1)=d at*;have t:(2:Int)^104=2^104:=rfl;omega
end
section
open Go Go.RowKit Go.Proofs
section
variable {a b:Int}
theorem Da:0<dc a b↔b<a:=by unfold dc;repeat' split<;>omega
theorem Mo:0<=dc a b↔b<=a:=by unfold dc;repeat' split<;>omega
theorem Mp:dc a b<=0↔a<=b:=by unfold dc;repeat' split<;>omega
@[push_cast] def adT:Sp:=BF 0 (λb x c y q s=>(dp b x c y q/\Bz 1000 (zv b x)/\Bz 1000 (zv c y))/\1<=s/\s<=900)
 (λb x c y _ s=>.aU [zi (gK (2^s.toNat) (2^(s-1).toNat) (zv b x) (zv c y)).1,zi (gK (2^s.toNat) (2^(s-1).toNat) (zv b x) (zv c y)).2,(0:Int)])
theorem Yo:aj a0c 38 adT:=by
 refine aj.AI λb x c y q s⟨⟨hBK,bX,bY⟩,s1,s2⟩=>?_
 have hE:=Dj za qN oY Fg zD r7 aav tR rP;obtain⟨⟨hx,hxl⟩,⟨hy,hyl⟩,hle,q1,q2⟩:=id hBK;have hxl':x.length<10000000:=f';have hyl':y.length<10000000:=f';have hsh:sh s=s.toNat:=ia f' f';have hsh1:sh (s-1)=(s-1).toNat:=ia f' f';obtain⟨X,hX⟩:=nm (zv b x);obtain⟨Y,hY⟩:=nm (zv c y);rw[hX]at bX;rw[hY]at bY;rw[hX,hY];rw[hX,hY]at hle;obtain⟨T,hTn⟩:∃T:Int,(2:Int)^s.toNat=T:=⟨_,rfl⟩;obtain⟨H,hHn⟩:∃H:Int,(2:Int)^(s-1).toNat=H:=⟨_,rfl⟩;have hTp:0<T:=by rw[<-hTn];exact cf _
 have hHp:0<H:=by rw[<-hHn];exact cf _
 have hHT:2*H=T:=by rw[<-hTn,<-hHn,show s.toNat=(s-1).toNat+1 from f',jw];omega
 have bT:Bz 901 T:=by rw[<-hTn];exact(gP (n:=s.toNat) (bo (cf _)) (gu _)).mono f'
 have bH:Bz 901 H:=by rw[<-hHn];exact(gP (n:=(s-1).toNat) (bo (cf _)) (gu _)).mono f'
 rw[hTn,hHn];have hsT:(2:Int)^sh s=T:=by rw[hsh];exact hTn
 have h1T:(1:Int)*2^sh s=T:=by rw[hsT];omega
 have h1H:(1:Int)*2^sh (s-1)=H:=by rw[hsh1,hHn];omega
 obtain⟨A,hA⟩:=nm (X/T);obtain⟨W,hW⟩:=nm (A*T);have bA:Bz 1000 A:=by rw[<-hA];exact bX.div
 have bW:Bz 1901 W:=by rw[<-hW];exact bA.mul bT
 obtain⟨f,hf⟩:=nm (X-W);obtain⟨t,ht⟩:=nm (Y-W);have bf:Bz 1902 f:=by rw[<-hf];exact(bX.mono f').sub bW
 have bt:Bz 1902 t:=by rw[<-ht];exact(bY.mono f').sub bW
 obtain⟨P,hP⟩:=nm (iU T f);obtain⟨Q,hQ⟩:=nm (iU T t);have nP:=Bm (x:=f) hTp;have nQ:=Bm (x:=t) hTp;rw[hP]at nP;rw[hQ]at nQ;have bP:Bz 901 P:=bT.le (by have:=nP.2.2;omega);have bQ:Bz 901 Q:=bT.le (by have:=nQ.2.2;omega);obtain⟨MD,hMD⟩:=nm ((if f>H then H+T else H));have bMD:Bz 902 MD:=by
  rw[<-hMD];split
  .exact bH.add bT
  .exact bH.mono f'
 obtain⟨L0,hL0⟩:=nm ((if P>Q then Q else P));obtain⟨M0,hM0⟩:=nm ((if P>Q then P else Q));obtain⟨L1,hL1⟩:=nm ((if f=0\/T<=t then 0 else L0));obtain⟨M1,hM1⟩:=nm ((if MD<=t then H else M0));have eg:gK T H X Y=(L1,M1):=by
  unfold gK;simp only[hA,hW,hf,ht,hP,hQ,hL0,hM0,hL1,hMD,hM1]
 rw[eg];dsimp only;obtain⟨oT,oT'⟩:=bT.dB f';obtain⟨oH,oH'⟩:=bH.dB f';obtain⟨oA,oA'⟩:=bA.dB f';obtain⟨oW,oW'⟩:=bW.dB f';obtain⟨of_,of'⟩:=bf.dB f';obtain⟨ot,ot'⟩:=bt.dB f';obtain⟨oP,oP'⟩:=bP.dB f';obtain⟨oQ,oQ'⟩:=bQ.dB f';obtain⟨oM,oM'⟩:=bMD.dB f';have sf:=rO f;have F1:=iJ.mk (A4 hsT hX hA hW);have F2:=iJ.mk (A4 hX hY hf ht);have F3:=iJ.mk (A3 hTn hP hQ);have F4:=iJ.mk hL0;have F5:=iJ.mk hM0;have F6:=iJ.mk hL1;have F7:=iJ.mk hM1;have F8:=iJ.mk hMD;have F9:=iJ.mk sf;have e1z:zv a0a (dg (Int.natAbs 1))=1:=cI 1;obtain⟨c1z,c1z'⟩:=(Bz.small (n:=1) (z:=1) p' p').lz f';have F10:=iJ.mk (A2 e1z h1T);have F11:=iJ.mk (A2 e1z h1H);clear hle hTp hHp bT bH bA bW bf bt bP bQ bMD nP nQ eg sf hL0 hM0 hL1 hM1 hMD hsT hX hY hA hW hf ht hTn hHn hP hQ hsh hsh1 h1T h1H bX bY hHT;have lT:(dg T.natAbs).length<70:=f';have lf:(dg f.natAbs).length<70:=f';have lt:(dg t.natAbs).length<70:=f';refine aB func38 ntmps38 ?_;refine aT ?_;refine ai.seq ?_;refine gl (A2 (show¬s<0 from f') (show¬2048<s from f')) ?_;refine aF ?_;refine aH [(3,3)] [(7,3)] [] F10.h ?_;refine aH [(2,2),(3,3)] [(8,6)] [(31,0,2)] F1.h ?_;refine aH [(2,2),(8,8)] [(9,8),(10,9)] [(37,0,2),(41,4,2)] F2.h ?_;refine ai.dS (σ':=⟨[(3,.ptr 3 0),(7,.ptr 7 0),(9,.ptr 9 0),(10,.ptr 10 0),(4,.ptr 4 0),(5,.ptr 5 0),(6,(0:Int))],
  [(3,⟨Z',.c [s]⟩),(7,⟨Z',.c [decide (T<0),dg T.natAbs]⟩),(9,⟨Z',.c [decide (f<0),dg f.natAbs]⟩),(10,⟨Z',.c [decide (t<0),dg t.natAbs]⟩),(4,⟨Z',.c [a0a,.ns .u64 []]⟩),(5,⟨Z',.c [a0a,.ns .u64 []]⟩)]⟩) (Le.mk a0b) ?_
 refine ai.iG (ι:=Unit) (λ_=>⟨[(11,.fn 77 [.vp [s],.vp [decide (T<0),dg T.natAbs]]),(3,.ptr 3 0),(7,.ptr 7 0),(9,.ptr 9 0),(10,.ptr 10 0),(4,.ptr 4 0),(5,.ptr 5 0),(6,(0:Int))],
  [(3,⟨a0a,.c [s]⟩),(7,⟨a0a,.c [decide (T<0),dg T.natAbs]⟩),(9,⟨Z',.c [decide (f<0),dg f.natAbs]⟩),(10,⟨Z',.c [decide (t<0),dg t.natAbs]⟩),(4,⟨Z',.c [a0a,.ns .u64 []]⟩),(5,⟨Z',.c [a0a,.ns .u64 []]⟩)]⟩)
  (ai.wO hE.hT hE.hS (K1:=λσ=>σ=?sx) 0 ?_ ?_) (λ_=>?_)
 rotate_left
 .exact rfl
 .rintro σ1 rfl
  refine⟨_,_,_,[3,7],rfl,?_,rfl,rfl,rfl,rfl,?_⟩
  .exact⟨⟨rfl,qh _⟩,⟨rfl,qh _⟩,a0b⟩
  .simp only[List.drop]
   change et _ _ _ _ _ ⟨[(45,.fn 77 [.vp [s],.vp [decide (T<0),dg T.natAbs]]),(3,.ptr 3 0),(7,.ptr 7 0),(9,.ptr 9 0),(10,.ptr 10 0),(4,.ptr 4 0),(5,.ptr 5 0),(6,(0:Int))],
    [(7,⟨a0a,.c [decide (T<0),dg T.natAbs]⟩),(3,⟨a0a,.c [s]⟩),(9,⟨Z',.c [decide (f<0),dg f.natAbs]⟩),(10,⟨Z',.c [decide (t<0),dg t.natAbs]⟩),(4,⟨Z',.c [a0a,.ns .u64 []]⟩),(5,⟨Z',.c [a0a,.ns .u64 []]⟩)]⟩
   refine aK ?_;exact⟨(),Le.mk a0b⟩
 refine aH [(9,9),(10,10)] [(12,6),(13,7)] [] F3.h ?_;refine ai.iG (ι:=Unit) (λ_=>⟨[(12,.ptr 12 0),(13,.ptr 13 0),(3,.ptr 3 0),(7,.ptr 7 0),(9,.ptr 9 0),(10,.ptr 10 0),(4,.ptr 4 0),(5,.ptr 5 0),(6,(0:Int))],
  [(12,⟨Z',.c [decide (L0<0),dg L0.natAbs]⟩),(13,⟨Z',.c [decide (M0<0),dg M0.natAbs]⟩),(3,⟨a0a,.c [s]⟩),(7,⟨a0a,.c [decide (T<0),dg T.natAbs]⟩),(9,⟨Z',.c [decide (f<0),dg f.natAbs]⟩),(10,⟨Z',.c [decide (t<0),dg t.natAbs]⟩),(4,⟨Z',.c [a0a,.ns .u64 []]⟩),(5,⟨Z',.c [a0a,.ns .u64 []]⟩)]⟩) ?_ (λ_=>?_)
 .by_cases h:P>Q
  .have e1:=F4.h
   have e2:=F5.h;rw[au h]at e1 e2;subst e1;subst e2;have hc:=Da.2 h;refine an hc ?_;exact⟨(),Le.mk a0b⟩
  .have e1:=F4.h
   have e2:=F5.h;rw[aq h]at e1 e2;subst e1;subst e2;have hc:¬0<dc P Q:=λh2=>h (Da.1 h2)
   refine an hc ?_;exact⟨(),Le.mk a0b⟩
 refine ai.iG (ι:=Unit) (λ_=>⟨[(12,.ptr 12 0),(13,.ptr 13 0),(3,.ptr 3 0),(7,.ptr 7 0),(9,.ptr 9 0),(10,.ptr 10 0),(4,.ptr 4 0),(5,.ptr 5 0),(6,(0:Int))],
  [(12,⟨Z',.c [decide (L1<0),dg L1.natAbs]⟩),(13,⟨Z',.c [decide (M0<0),dg M0.natAbs]⟩),(3,⟨a0a,.c [s]⟩),(7,⟨a0a,.c [decide (T<0),dg T.natAbs]⟩),(9,⟨Z',.c [decide (f<0),dg f.natAbs]⟩),(10,⟨Z',.c [decide (t<0),dg t.natAbs]⟩),(4,⟨Z',.c [a0a,.ns .u64 []]⟩),(5,⟨Z',.c [a0a,.ns .u64 []]⟩)]⟩) ?_ (λ_=>?_)
 .by_cases h0:f=0
  .have e1:=F6.h
   rw[au (.inl h0)]at e1;subst e1;have hs:(f.sign==0)=true:=by rw[h0];rfl
   have e0:dg (Int.natAbs 0)=[]:=ky;refine an hs ?_;exact⟨(),Le.mk e0⟩
  .have hs:(f.sign==0)=false:=by
    have:=F9.h;simp only[mH];omega
   by_cases h1:T<=t
   .have e1:=F6.h
    rw[au (.inr h1)]at e1;subst e1;have hc:=Mo.2 h1;have e0:dg (Int.natAbs 0)=[]:=ky;refine an (A2 hs hc) ?_;exact⟨(),Le.mk e0⟩
   .have e1:=F6.h
    rw[aq (by simp[h0,h1])]at e1;subst e1;have hc:¬0<=dc t T:=λh2=>h1 (Mo.1 h2)
    refine an (A2 hs hc) ?_;exact⟨(),Le.mk a0b⟩
 refine ai.iG (ι:=Unit) (λ_=>⟨[(12,.ptr 12 0),(13,.ptr 13 0),(4,.ptr 4 0),(5,.ptr 5 0),(6,(0:Int))],
  [(12,⟨Z',.c [decide (L1<0),dg L1.natAbs]⟩),(13,⟨Z',.c [decide (M1<0),dg M1.natAbs]⟩),(4,⟨Z',.c [a0a,.ns .u64 []]⟩),(5,⟨Z',.c [a0a,.ns .u64 []]⟩)]⟩) ?_ (λ_=>?_)
 .refine gl (show 0<s from f') ?_
  refine ai.eo (by rfl) ?_;refine aH [(3,3)] [(14,4)] [] F11.h ?_;refine ai.iG (ι:=Unit) (λ_=>⟨[(14,.ptr 14 0),(12,.ptr 12 0),(13,.ptr 13 0),(3,.ptr 3 0),(7,.ptr 7 0),(9,.ptr 9 0),(10,.ptr 10 0),(4,.ptr 4 0),(5,.ptr 5 0),(6,(0:Int))],
   [(14,⟨Z',.c [decide (MD<0),dg MD.natAbs]⟩),(12,⟨Z',.c [decide (L1<0),dg L1.natAbs]⟩),(13,⟨Z',.c [decide (M0<0),dg M0.natAbs]⟩),(3,⟨a0a,.c [s]⟩),(10,⟨Z',.c [decide (t<0),dg t.natAbs]⟩),(4,⟨Z',.c [a0a,.ns .u64 []]⟩),(5,⟨Z',.c [a0a,.ns .u64 []]⟩)]⟩) ?_ (λ_=>?_)
  .by_cases h:f>H
   .have e1:=F8.h
    rw[au h]at e1;have hc:=Da.2 h;refine an (A2 hc e1) ?_;exact⟨(),Le.mk a0b⟩
   .have e1:=F8.h
    rw[aq h]at e1;subst e1;have hc:¬0<dc f H:=λh2=>h (Da.1 h2)
    refine an hc ?_;exact⟨(),Le.mk a0b⟩
  .refine ai.seq ?_
   by_cases h:MD<=t
   .have e1:=F7.h
    rw[au h]at e1;subst e1;have hc:=Mp.2 h;refine cy hc ?_;refine ai.eo (by rfl) ?_;refine ai.regionF [(3,3),(13,13)] [] [] hE.hT hE.hS hE.hm (qF ⟨_,rfl⟩ ⟨_,rfl⟩) (mw hE F11.h ?_);exact⟨(),Le.mk a0b⟩
   .have e1:=F7.h
    rw[aq h]at e1;subst e1;have hc:¬dc MD t<=0:=λh2=>h (Mp.1 h2)
    refine cy hc ?_;refine ai.dz (by rfl) ?_;refine ai.skip ?_;exact⟨(),Le.mk a0b⟩
 refine aG [(12,12),(13,13),(4,4),(5,5)] [] [] a0b ?_;exact pL
end
end
end Go.Hl
