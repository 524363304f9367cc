/- Lemmas for TopSound and TopBracket. -/
import Derived.Test.YtpgglolpkbepjaaGreatTBE
import Derived.Test.YtpgglolpkbepjaaGreatTBF
set_option linter.unusedVariables false
set_option linter.unusedSimpArgs false
namespace Go.Hl
open Go.Proofs.Tryz
open Go.Proofs.Tryz renaming prog→a0c
open Option renaming some→T',none→Y'
open Bool renaming true→Z',false→a0a
set_option maxHeartbeats 8000000
set_option maxRecDepth 100000
section
open Go Go.RowKit Go.Proofs
section
variable {n:Int}{Y f:Nat}
def pY(n:Int):Nat:=yD (n%4503599627370496+4503599627370496) (n/4503599627370496-1075)
def PD(n:Int):Prop:=4318952042648305664<=n/\n<4652218415073722368
theorem PT(h:PD n):PN n:=⟨by have:=h.1;omega,by have:=h.2;omega⟩
theorem pN(h:PD n):DX a0a [n%4503599627370496+4503599627370496] (n/4503599627370496-1075)/\pY n<2^126/\0<pY n:=by
 obtain⟨h1,h2⟩:=h;obtain⟨k,hk⟩:=nm (n/4503599627370496);obtain⟨r,hr⟩:=nm (n%4503599627370496);have k1:959<=k/\k<=1032:=f';have r1:0<=r/\r<4503599627370496:=f';have hY:pY n<2^126:=by
  unfold pY yD;rw[hk,hr];have e:(2:Int)^126=2^53*2^73:=by rw[<-gk]
  have ab:(2:Int)^(k-1075+116).toNat<=2^73:=jf (s:=(k-1075+116).toNat) f' (gu _);have q:=cf (k-1075+116).toNat;have a:=jk ab (show 0<=r+4503599627370496 from f');have b:=gj (show r+4503599627370496<=9007199254740991 from f') (show(0:Int)<=2^73 from p');have c:(9007199254740991:Int)*2^73<2^126:=p';have d:((2^126:Nat):Int)=2^126:=by rw[kJ];rfl
  have f:0<=(r+4503599627370496)*2^(k-1075+116).toNat:=dP f' (bo q);omega
 have mK:(ak:Int)=18446744073709551616:=rfl;have hz:=Fh (v:=r+4503599627370496) f';refine⟨⟨⟨⟨aR.cons (by rw[mK,hr];omega) aR.nil,J'⟩,J'⟩,?_,?_,?_⟩,hY,?_⟩
 .rw[hr,hz];omega
 .rw[hk];omega
 .rw[hr,hz,<-hr];exact hY
 .exact(sS (m:=n%4503599627370496+4503599627370496) (e:=n/4503599627370496-1075) f' f' (w:=200) f').2
@[push_cast] def Oz(r:LK):AV:=.agg [decide (r.lo<0),dg r.lo.natAbs,decide (r.hi<0),dg r.hi.natAbs,.r (.int .i64 r.q),.r (.int .i64 r.k),.r (.int .i64 r.e),.r (.int .i64 r.s),
 decide (r.least<0),dg r.least.natAbs,decide (r.most<0),dg r.most.natAbs,.r (.bool r.gV)]
theorem Oh(ab:Y<2^126):0<=Bc f Y/\Bc f Y<=1536:=by
 have h1:Y*2^124<=2^126*2^124:=jD _ (kt ab);have h2:Y*2^124/qJ<=1536:=fC (Kv h1) p';have h3:Y/2^116<1024:=Cy (by rw[iw];exact ab);unfold Bc
 match f with
 |0=>rw[Oa];exact⟨Ta _,Int.ofNat_le.2 h2⟩
 |1=>rw[Ob];omega
 |2=>rw[Oc];decide
 |3=>rw[Od];decide
 |4=>rw[Oe];decide
 |n+5=>rw[Of];decide
theorem Mh(L H:Int):CB (decide (L<0)) (dg L.natAbs) (decide (H<0)) (dg H.natAbs):=⟨⟨by rw[cI],by rw[cI]⟩,by rw[cI],by rw[cI]⟩
theorem Ah{q:Nat}(q1:160<=q)(q2:q<=800)(hY:0<Y)(ab:Y<2^126):Bz 1000 (cD f q Y).1.1/\Bz 1000 (cD f q Y).1.2/\(cD f q Y).1.1<=(cD f q Y).1.2:=by
 have b:=KQ (f:=f) (W:=q+40) f' f' hY ab;obtain⟨N,hN⟩:=tG;have le:=jq (qo (f:=f) q1 q2 hY ab N hN).1;refine⟨?_,?_,le⟩
 .unfold cD pX;exact b.1.div
 .unfold cD pX;exact(b.2.1.neg.div).neg
theorem Yn{T H lo hi:Int}(hT:0<T)(hH:2*H=T)(ab:lo<=hi){n:Nat}(b:Bz n T):Bz n (gK T H lo hi).1/\Bz n (gK T H lo hi).2:=by
 obtain⟨_,h0,h1,h2⟩:=Ho hT hH ab;exact⟨b.le f',b.le f'⟩
@[push_cast] def BI:Sp where
 kind:=0
 pre
  |[.r (.int .i64 f),.r (.int .u64 n),.r (.int .i64 m)]=>(0<=f/\f<=5)/\PD n/\1<=m/\m<=128
  |_=>False
 res
  |[.r (.int .i64 f),.r (.int .u64 n),.r (.int .i64 m)]=>.aU [Oz (aX f.toNat m.toNat (pY n)),(0:Int)]
  |_=>.any
theorem look_ok:aj a0c 12 BI:=by
 refine sz λargs hp=>?_
 split at hp;rotate_left;cases hp;rename_i f n m;obtain⟨⟨f0,f5⟩,bd,m1,m2⟩:=hp;have hE:=MR aaE RZ Lj ack LN Yo Fe;obtain⟨MM,rfl⟩:=fI (show 0<=m from f');obtain⟨FF,ay⟩:=nm (f.toNat);rw[dD,ay];have bF:=PT bd;obtain⟨a0,af,ax⟩:=pN bd;have bB:=GU a0;have bA:zv a0a [n%4503599627370496+4503599627370496]=n%4503599627370496+4503599627370496:=Fh (by have:=o5 n (show(4503599627370496:Int)≠0 from p');omega);have ab:=(Fa a0.2.1 a0.2.2.1.1).1;rw[bA]at bB ab;obtain⟨M,hM⟩:=nm (ct (n%4503599627370496+4503599627370496));obtain⟨E,a6⟩:=nm (cH (n%4503599627370496+4503599627370496) (n/4503599627370496-1075));rw[hM,a6]at bB ab;have ab:yD M E=pY n:=ab;obtain⟨Y,bw⟩:=nm (pY n);rw[bw]at ab af ax|-;have b0:=Ah (f:=FF) (q:=300) f' f' ax af;obtain⟨L0,aw⟩:=nm ((cD FF 300 Y).1.1);obtain⟨H0,ao⟩:=nm ((cD FF 300 Y).1.2);obtain⟨K0,a1⟩:=nm ((cD FF 300 Y).2);have ep:(cD FF 300 Y).1=(L0,H0):=by rw[<-aw,<-ao]
 rw[aw,ao]at b0;have k0:dp (decide (L0<0)) (dg L0.natAbs) (decide (H0<0)) (dg H0.natAbs) 300:=⟨b0.1.dB f',b0.2.1.dB f',by rw[cI,cI];exact b0.2.2,f',f'⟩;have F1:=iJ.mk (A2 hM a6);have c0:=Mh L0 H0
 by_cases hs:kG (cD FF 300 Y).1=Z'
 .have lq:=H8 (f:=FF) (m:=MM) f' f' ax af hs
  have el:aX FF MM Y=_:=au hs;rw[el];obtain⟨Q,hQ⟩:=nm (kj FF MM Y);rw[hQ]at lq|-;rw[ep]at hs lq;obtain⟨n0,bx⟩:=nm (jU (L0,H0) 300);rw[bx]at lq;obtain⟨bL,⟨bQ,bR⟩,hq,bn,bE⟩:=lq;have b1:=Ah (f:=FF) (q:=Q) f' f' ax af;obtain⟨L1,bc⟩:=nm ((cD FF Q Y).1.1);obtain⟨H1,a7⟩:=nm ((cD FF Q Y).1.2);obtain⟨K1,bb⟩:=nm ((cD FF Q Y).2);have br:(cD FF Q Y).1=(L1,H1):=by rw[<-bc,<-a7]
  dsimp only;rw[bb,br]at|-;rw[br]at bn bE;rw[bc,a7]at b1;obtain⟨n1,bz⟩:=nm (jU (L1,H1) (Q:Int));rw[bz]at bE|-;obtain⟨S,hS⟩:=nm ((Q:Int)-53+n1);rw[hS];have sb:1<=S/\S<=900:=f';have pl:=IE bn b1.2.2;obtain⟨PL,a4⟩:=nm ((eW (L1,H1)).1);obtain⟨PH,a3⟩:=nm ((eW (L1,H1)).2);have pz:Bz 1000 PL/\Bz 1000 PH:=by
   rw[<-a4,<-a3];unfold eW;split
   .exact⟨b1.2.1.neg,b1.1.neg⟩
   .exact⟨b1.1,b1.2.1⟩
  rw[a4,a3]at pl;rw[a4,a3];have gz:=Yn (T:=2^S.toNat) (H:=2^(S-1).toNat) (lo:=PL) (hi:=PH) (cf _) (by rw[show S.toNat=(S-1).toNat+1 from f',jw];omega) pl.2 (n:=901) ((gP (n:=S.toNat) (bo (cf _)) (gu _)).mono f');obtain⟨G1,bt⟩:=nm ((gK (2^S.toNat) (2^(S-1).toNat) PL PH).1);obtain⟨G2,bu⟩:=nm ((gK (2^S.toNat) (2^(S-1).toNat) PL PH).2);rw[bt,bu]at gz|-;obtain⟨EE,bs⟩:=nm (n1+K1);rw[bs];obtain⟨BL,a5⟩:∃v:Int,(bJ G1.natAbs:Int)=v:=⟨_,rfl⟩;rw[a5];have k1:dp (decide (L1<0)) (dg L1.natAbs) (decide (H1<0)) (dg H1.natAbs) (Q:Int):=⟨b1.1.dB f',b1.2.1.dB f',by rw[cI,cI];exact b1.2.2,f',f'⟩;have k2:dp (decide (PL<0)) (dg PL.natAbs) (decide (PH<0)) (dg PH.natAbs) (Q:Int):=⟨pz.1.dB f',pz.2.dB f',by rw[cI,cI];exact pl.2,f',f'⟩;obtain⟨bO,bP⟩:=pz;obtain⟨bM,bN⟩:=gz.1.lz f';have c1:=Mh L1 H1;have tn:((Q:Int)).toNat=Q:=dD Q;obtain⟨mn,bm⟩:∃v:Int,(if(0:Int)<n0 then 0 else n0)=v:=⟨_,rfl⟩;have bD:(MM:Int)+160-mn=(Q:Int):=by rw[hq,<-bm];split<;>omega
  have bK:-300<=mn/\mn<=0:=by rw[<-bm];split<;>omega
  have F2:=iJ.mk (A5 ay ab aw ao a1);have F3:=iJ.mk (A2 hs bx);have F4:=iJ.mk (A2 bm bD);have F5:=iJ.mk (A6 ay ab tn bc a7 bb);have F6:=iJ.mk (A2 bn bz);have F7:=iJ.mk (A2 bs hS);have F8:=iJ.mk (A4 a4 a3 bt bu);have F9:=iJ.mk a5;have bl:0<=BL/\BL<=901:=by rw[<-a5];have:=(ku G1.natAbs _).2 gz.1;omega
  have bH:-2000<=K1/\K1<=2000:=by
   obtain⟨N,hN⟩:=tG;have:=(qo (f:=FF) (q:=Q) f' f' ax af N hN).2.2;rw[bb]at this;have:=Oh (f:=FF) af;omega
  clear b0 b1 gz pl hq hs bn bx bz bm bD bs hS a4 a3 bt bu a5 aw ao a1 bc a7 bb ab hM a6 ay tn ep br a0 bA bd af ax bw el hQ;refine aB func12 ntmps12 ?_;refine aT ?_;refine ai.seq ?_;refine gl (A2 (show¬(MM:Int)<1 from f') (show¬128<(MM:Int)from f')) ?_;refine aF ?_;refine cy F1.h ?_;refine cy F2.h ?_;refine ai.seq ?_;refine gl (show((0:Int)!=0)=a0a from rfl) ?_;refine aF ?_;refine cy F3.h ?_;refine ai.seq ?_;refine ig ?_;refine aF ?_;refine cy F4.h ?_;refine cy F5.h ?_;refine cy F6.h ?_;refine cy F7.h ?_;refine aH [(10,10),(16,16)] [] [(86,2,16),(92,9,16),(93,11,16)] F8.h ?_;refine aH [(16,16)] [] [(94,0,16),(97,3,16),(102,8,16)] F9.h ?_;refine aK ?_;exact pL
 .have el:aX FF MM Y=_:=aq hs
  rw[el];rw[aw,ao,a1];rw[ep]at hs;have hs:kG (L0,H0)=false:=by simpa using hs
  have e0:dg (Int.natAbs 0)=[]:=ky;have F2:=iJ.mk (A5 ay ab aw ao a1);have F3:=iJ.mk hs;clear b0 hs aw ao a1 ab hM a6 ay ep a0 bA bd af ax bw el;refine aB func12 ntmps12 ?_;refine aT ?_;refine ai.seq ?_;refine gl (A2 (show¬(MM:Int)<1 from f') (show¬128<(MM:Int)from f')) ?_;refine aF ?_;refine cy F1.h ?_;refine cy F2.h ?_;refine ai.seq ?_;refine gl (show((0:Int)!=0)=a0a from rfl) ?_;refine aF ?_;refine cy F3.h ?_;refine ai.seq ?_;refine ig ?_;refine ai.eo (by rfl) ?_;refine aK ?_;refine aO.mk a0b ?_;simp only[Oz,e0]
  rfl
end
end
section
open Go Go.RowKit Go.Proofs
@[push_cast] def zg(pre:Int->Int->Int->Int->Int->Prop)(res:Int->Int->Int->Int->Int->AV):Sp where
 kind:=0
 pre
  |[.agg [.r (.int .i64 F),.r (.int .i64 E),.r (.int .u64 A),.r (.int .u64 B),.r (.int .i64 M)]]=>pre F E A B M
  |_=>False
 res
  |[.agg [.r (.int .i64 F),.r (.int .i64 E),.r (.int .u64 A),.r (.int .u64 B),.r (.int .i64 M)]]=>res F E A B M
  |_=>.any
theorem aj.J{f:FuncId}{pre:Int->Int->Int->Int->Int->Prop}{res:Int->Int->Int->Int->Int->AV}
 (h:∀F E A B M,pre F E A B M->dh a0c f [.agg [F,E,.r (.int .u64 A),.r (.int .u64 B),M]] (res F E A B M)):aj a0c f (zg pre res):=by
 refine sz λargs hp=>?_
 split at hp;rotate_left;cases hp;exact h _ _ _ _ _ hp
def JT(F E A B M:Int):Prop:=(-9223372036854775808<=F/\F<9223372036854775808)/\(-9223372036854775808<=E/\E<9223372036854775808)/\(0<=A/\A<18446744073709551616)/\(0<=B/\B<18446744073709551616)/\(-9223372036854775808<=M/\M<9223372036854775808)
def nG(A B:Int):Bool:=decide (A<B/\B-A<=2048)
@[push_cast] def aeM:Sp:=zg JT (λ_ _ A B _=>.r (.bool (nG A B)))
theorem Rw:aj a0c 21 aeM:=by
 refine aj.J λF E A B M⟨_,_,⟨a1,a2⟩,⟨b1,b2⟩,_⟩=>?_
 have hE:=env dC;refine aB func21 ntmps21 ?_
 by_cases h:A<B
 .by_cases h2:B-A<=2048
  .have e:nG A B=true:=fu ⟨h,h2⟩
   rw[e];refine an (A2 h h2) ?_;exact pL
  .have e:nG A B=false:=lG (λhh=>h2 hh.2)
   rw[e];refine an (A2 h h2) ?_;exact pL
 .have e:nG A B=false:=lG (λhh=>h hh.1)
  rw[e];refine an h ?_;exact pL
def jP(E i:Int):Int:=(E+1023)*4503599627370496+i
def DV(F E M i:Int):Int:=(aX F.toNat M.toNat (pY (jP E i))).e
def tD(F E M i:Int):Bool:=decide (-1022<=DV F E M i/\DV F E M i<=1022)
theorem Bb{E i:Int}(h1:-64<=E)(h2:E<=9)(i0:0<=i)(i1:i<4503599627370496):PD (jP E i):=by
 unfold PD jP;omega
@[push_cast] def adW:Sp where
 kind:=0
 pre
  |[.agg [.r (.int .i64 F),.r (.int .i64 E),.r (.int .u64 A),.r (.int .u64 B),.r (.int .i64 M)],.r (.int .u64 i)]=>(0<=F/\F<=5)/\(-64<=E/\E<=9)/\(0<=i/\i<4503599627370496)/\1<=M/\M<=128
  |_=>False
 res
  |[.agg [.r (.int .i64 F),.r (.int .i64 E),.r (.int .u64 A),.r (.int .u64 B),.r (.int .i64 M)],.r (.int .u64 i)]=>.r (.bool (tD F E M i))
  |_=>.any
theorem Zj:aj a0c 22 adW:=by
 refine sz λargs hp=>?_
 split at hp;rotate_left;cases hp;rename_i F E A B M i;obtain⟨⟨f0,f5⟩,⟨e1,e2⟩,⟨i1,i2⟩,m1,m2⟩:=hp;have hE:=eF yU look_ok;have af:=Bb e1 e2 i1 i2;obtain⟨p,hp⟩:=nm (jP E i);have ab:(E+1023)*4503599627370496+i=p:=hp;rw[hp]at af;obtain⟨r,hr⟩:=nm (aX F.toNat M.toNat (pY p));have hle:DV F E M i=r.e:=by unfold DV;rw[hp,hr]
 unfold tD;rw[hle];obtain⟨v,hv⟩:=nm (r.e);rw[hv];have F1:=iJ.mk (A2 ab hr);have F2:=iJ.mk hv;clear hp ab hr hle;refine aB func22 ntmps22 ?_;refine aT ?_;refine aH [(2,2)] [(5,11)] [(8,0,2),(13,5,2)] F1.h ?_;have h0:((0:Int)==0)=true:=rfl
 by_cases h1:-1022<=v
 .by_cases h2:v<=1022
  .rw[fu ⟨h1,h2⟩]
   refine an (A4 h0 hv h1 h2) ?_;exact pL
  .rw[lG (λhh=>h2 hh.2)]
   refine an (A4 h0 hv h1 h2) ?_;exact pL
 .rw[lG (λhh=>h1 hh.1)]
  refine an (A3 h0 hv h1) ?_;exact pL
def nT(F E A B M:Int):Prop:=(0<=F/\F<=5)/\(-64<=E/\E<=9)/\(A<B/\B-A<=2048)/\B<=4503599627370496/\1<=M/\M<=128
def JV(F E A B M:Int):Prop:=nT F E A B M/\tD F E M A=Z'/\tD F E M (B-1)=Z'
instance (F E A B M:Int):Decidable (JV F E A B M):=by unfold JV nT;infer_instance
@[push_cast] def Jd:Sp:=zg JT (λF E A B M=>.r (.int .i64 (if JV F E A B M then 0 else 4)))
theorem ET:aj a0c 7 Jd:=by
 refine aj.J λF E A B M aw=>?_
 obtain⟨⟨f1,f2⟩,⟨e1,e2⟩,⟨a1,a2⟩,⟨b1,b2⟩,m1,m2⟩:=id aw;have hE:=eF Rw Zj;have no:∀{P:Prop},(JV F E A B M->P)->¬P->(if JV F E A B M then(0:Int)else 4)=4:=λhP hn=>aq (λh=>hn (hP h))
 refine aB func7 ntmps7 ?_
 by_cases h1:0<=F
 rotate_left
 .rw[no (λh=>h.1.1.1) h1]
  refine an h1 ?_;exact pL
 by_cases h2:F<=5
 rotate_left
 .rw[no (λh=>h.1.1.2) h2]
  refine an (A2 h1 h2) ?_;exact pL
 by_cases h3:-64<=E
 rotate_left
 .rw[no (λh=>h.1.2.1.1) h3]
  refine an (A3 h1 h2 h3) ?_;exact pL
 by_cases h4:E<=9
 rotate_left
 .rw[no (λh=>h.1.2.1.2) h4]
  refine an (A4 h1 h2 h3 h4) ?_;exact pL
 by_cases h5:nG A B=Z'
 rotate_left
 .have af:nG A B=false:=by simpa using h5
  rw[no (λh=>fu h.1.2.2.1) h5];refine an (A5 h1 h2 h3 h4 af) ?_;exact pL
 by_cases h6:B<=4503599627370496
 rotate_left
 .rw[no (λh=>h.1.2.2.2.1) h6]
  refine an (A6 h1 h2 h3 h4 h5 h6) ?_;exact pL
 by_cases h7:1<=M
 rotate_left
 .rw[no (λh=>h.1.2.2.2.2.1) h7]
  refine an (A7 h1 h2 h3 h4 h5 h6 h7) ?_;exact pL
 by_cases h8:M<=128
 rotate_left
 .rw[no (λh=>h.1.2.2.2.2.2) h8]
  refine an (A8 h1 h2 h3 h4 h5 h6 h7 h8) ?_;exact pL
 obtain⟨s1,s2⟩:A<B/\B-A<=2048:=js h5
 by_cases h9:tD F E M A=Z'
 rotate_left
 .have ao:tD F E M A=false:=by simpa using h9
  rw[no (λh=>h.2.1) h9];refine an (A9 h1 h2 h3 h4 h5 h6 h7 h8 ao) ?_;exact pL
 by_cases h10:tD F E M (B-1)=Z'
 rotate_left
 .have ab:tD F E M (B-1)=false:=by simpa using h10
  rw[no (λh=>h.2.2) h10];refine an (vm h1 h2 h3 h4 h5 h6 h7 h8 h9 ab) ?_;exact pL
 rw[au ⟨⟨⟨h1,h2⟩,⟨h3,h4⟩,⟨s1,s2⟩,h6,h7,h8⟩,h9,h10⟩];refine an (vm h1 h2 h3 h4 h5 h6 h7 h8 h9 h10) ?_;exact pL
@[push_cast] def Jc:Sp:=zg (λF E A B M=>JT F E A B M/\nG A B=Z') (λ_ _ A B _=>.r (.int .i64 ((B-A+4-1)/4)))
theorem EP:aj a0c 24 Jc:=by
 refine aj.J λF E A B M⟨hJT,hs⟩=>?_
 obtain⟨⟨f1,f2⟩,⟨e1,e2⟩,⟨a1,a2⟩,⟨b1,b2⟩,m1,m2⟩:=id hJT;have hE:=di Rw;obtain⟨s1,s2⟩:A<B/\B-A<=2048:=js hs;refine aB func24 ntmps24 ?_;refine an hs ?_;exact pL
end
section
open Go Go.RowKit Go.Proofs
@[push_cast] def oz(r:LK):List AV:=[.r (.bool (decide (r.lo<0))),.ns .u64 (dg r.lo.natAbs),.r (.bool (decide (r.hi<0))),.ns .u64 (dg r.hi.natAbs),.r (.int .i64 r.q),.r (.int .i64 r.k),.r (.int .i64 r.e),.r (.int .i64 r.s),
 .r (.bool (decide (r.least<0))),.ns .u64 (dg r.least.natAbs),.r (.bool (decide (r.most<0))),.ns .u64 (dg r.most.natAbs),.r (.bool r.gV)]
def ld(h:Int×LK):List AV:=.r (.int .u64 h.1)::oz h.2
def cE(l:List (Int×LK)):List AV:=l.flatMap ld
theorem uG(l:List (Int×LK)):(cE l).length=l.length*14:=by
 induction l with
 |nil=>rfl
 |cons h l ih=>
  have:cE (h::l)=ld h++cE l:=rfl;rw[this,aV,ih];simp[ld,oz];omega
theorem Hz(l m:List (Int×LK)):cE (l++m)=cE l++cE m:=by unfold cE;rw[zN]
def aP(f m:Nat)(b:Int):Nat->List (Int×LK)
 |0=>[]
 |k+1=>aP f m b k++(if(aX f m (pY (b+k))).gV=Z' then[(b+k,aX f m (pY (b+k)))]else[])
theorem vY(f m:Nat)(b:Int)(k:Nat):(aP f m b k).length<=k:=by
 induction k with
 |zero=>exact aM _
 |succ k ih=>
  simp only[aP,aV];split<;>simp<;>omega
@[push_cast] def adN:Sp where
 kind:=0
 pre
  |[.r (.int .i64 f),.agg [.r (.int .u64 b),.r (.int .i64 n)],.r (.int .i64 m)]=>(0<=f/\f<=5)/\(PD b/\PD (b+n-1))/\(1<=n/\n<=64)/\1<=m/\m<=128
  |_=>False
 res
  |[.r (.int .i64 f),.agg [.r (.int .u64 b),.r (.int .i64 n)],.r (.int .i64 m)]=>.aU [.sl 14 (aP f.toNat m.toNat b n.toNat).length (cE (aP f.toNat m.toNat b n.toNat)),(0:Int)]
  |_=>.any
theorem W6:aj a0c 134 adN:=by
 refine sz λargs hp=>?_
 split at hp;rotate_left;cases hp;rename_i f b n m;obtain⟨⟨f0,f5⟩,⟨a0,a1⟩,⟨n1,n2⟩,m1,m2⟩:=hp;have hE:=di look_ok;obtain⟨N,rfl⟩:=fI (show 0<=n from f');obtain⟨FF,ao⟩:=nm (f.toNat);obtain⟨MM,aw⟩:=nm (m.toNat);rw[dD,ao,aw];have b1:4318952042648305664<=b/\b+N-1<4652218415073722368:=⟨a0.1,a1.2⟩;have a3:∀k:Nat,k<N->PD (b+k):=λk hk=>⟨f',f'⟩
 clear a0 a1;refine aB func134 ntmps134 ?_;refine aK ?_;refine ai.bare 41 (.c []) a0b ?_;refine ai.loop (ι:={k:Nat // k<=N}) (λk=>⟨[(0,f),(2,m),(4,.ptr 4 0),(8,.os 41 14 0 (aP FF MM b k.1).length),(14,.r (.int .u64 (N:Int))),(15,.r (.int .u64 (k.1:Int)))],
  [(4,⟨Z',.c [.r (.int .u64 b),(N:Int)]⟩),(41,⟨Z',.c (cE (aP FF MM b k.1))⟩)]⟩) (λk=>N-k.1) ⟨0,dU _⟩ ?_ ?_
 .have g1:(aP FF MM b 0).length=0:=rfl
  have g2:cE (aP FF MM b 0)=[]:=rfl;exact Le.mk (A2 g1 g2)
 rintro⟨k,hk⟩;dsimp only;have cl:=uG (aP FF MM b k);have cn:=vY FF MM b k;obtain⟨H,hH⟩:=nm (aP FF MM b k);rw[hH]at cl cn|-;obtain⟨CS,af⟩:=nm (cE H);obtain⟨ax,ab⟩:=nm (H.length);rw[af,ab]at cl;rw[ab]at cn;rw[af,ab]
 by_cases hlt:k<N
 .have a4:=a3 k hlt
  obtain⟨p,hp⟩:=nm (b+(k:Int));rw[hp]at a4;obtain⟨r,hr⟩:=nm (aX FF MM (pY p));have ay:(k:Int)<N:=f';have h0:((0:Int)!=0)=false:=rfl;cases hd:r.gV with
  |true=>
   have e1:aP FF MM b (k+1)=H++[(p,r)]:=by
    show aP FF MM b k++(if(aX FF MM (pY (b+k))).gV=Z' then[(b+k,aX FF MM (pY (b+k)))]else[])=_;rw[hp,hr,hH,au hd]
   have e2:(aP FF MM b (k+1)).length=ax+1:=by rw[e1,aV,ab];rfl
   have e3:cE (aP FF MM b (k+1))=CS++(AV.r (.int .u64 p)::oz r):=by rw[e1,Hz,af];rfl
   have e4:cE (aP FF MM b (k+1))=CS++[.r (.int .u64 p),.r (.bool (decide (r.lo<0))),.ns .u64 (dg r.lo.natAbs),.r (.bool (decide (r.hi<0))),.ns .u64 (dg r.hi.natAbs),.r (.int .i64 r.q),.r (.int .i64 r.k),.r (.int .i64 r.e),.r (.int .i64 r.s),
    .r (.bool (decide (r.least<0))),.ns .u64 (dg r.least.natAbs),.r (.bool (decide (r.most<0))),.ns .u64 (dg r.most.natAbs),.r (.bool Z')]:=by rw[e3];simp only[oz,hd]
   refine an (A7 ay hp ao aw hr h0 hd) ?_;exact⟨⟨k+1,f'⟩,Le.mk (A2 e2 e4),N'⟩
  |false=>
   have e1:aP FF MM b (k+1)=H:=by
    show aP FF MM b k++(if(aX FF MM (pY (b+k))).gV=Z' then[(b+k,aX FF MM (pY (b+k)))]else[])=_;rw[hp,hr,hH,aq (by rw[hd];simp),jx]
   have e2:(aP FF MM b (k+1)).length=ax:=by rw[e1,ab]
   have e3:cE (aP FF MM b (k+1))=CS:=by rw[e1,af]
   refine an (A7 ay hp ao aw hr h0 hd) ?_;exact⟨⟨k+1,f'⟩,Le.mk (A2 e2 e3),N'⟩
 .have e:k=N:=f'
  subst e;rw[hH,af,ab];refine an (show¬(k:Int)<k from f') ?_;exact pL
end
section
open Go Go.RowKit Go.Proofs
def mg(a b:Int×Int):Int:=dc (a.1*2^sh (ce a.1 a.2-min (ce a.1 a.2) (ce b.1 b.2))) (b.1*2^sh (ce b.1 b.2-min (ce a.1 a.2) (ce b.1 b.2)))
def pB(d:Int×Int):List AV:=[.r (.bool (decide (d.1<0))),.ns .u64 (dg d.1.natAbs),.r (.int .i64 d.2)]
def fL(l:List (Int×Int)):List AV:=l.flatMap pB
theorem As(l:List (Int×Int)):(fL l).length=l.length*3:=by
 induction l with
 |nil=>rfl
 |cons h l ih=>
  have:fL (h::l)=pB h++fL l:=rfl;rw[this,aV,ih];simp[pB];omega
theorem ME(l m:List (Int×Int)):fL (l++m)=fL l++fL m:=by unfold fL;rw[zN]
theorem V5(l:List (Int×Int)):∀k,k<l.length->((fL l).drop (k*3)).take 3=pB (l.getD k (0,0)):=by
 induction l with
 |nil=>intro k hk;simp at hk
 |cons h l ih=>
  intro k hk;have e:fL (h::l)=pB h++fL l:=rfl;cases k with
  |zero=>rw[e];rfl
  |succ k=>
   have:(k+1)*3=(pB h).length+k*3:=by simp[pB];omega
   rw[e,this,Kb,vB J',mY,Tm];exact ih k (by simpa using hk)
def yj:List AV->List (Int×Int)
 |.r (.bool b)::.ns .u64 x::.r (.int .i64 e)::l=>(zv b x,e)::yj l
 |_=>[]
theorem GO(l:List (Int×Int)):yj (fL l)=l:=by
 induction l with
 |nil=>rfl
 |cons h l ih=>
  have e:fL (h::l)=.r (.bool (decide (h.1<0)))::.ns .u64 (dg h.1.natAbs)::.r (.int .i64 h.2)::fL l:=rfl;rw[e];simp only[yj,ih,cI]
def fH(l:List (Int×Int)):Nat->Int×Int
 |0=>l.getD 0 (0,0)
 |k+1=>if mg (l.getD (k+1) (0,0)) (fH l k)<0 then l.getD (k+1) (0,0)else fH l k
def qY(d:Int×Int):Prop:=Bz 3000 d.1/\-2000<=d.2/\d.2<=2000
theorem If{l:List (Int×Int)}(h:∀k,k<l.length->qY (l.getD k (0,0))):∀k,k<l.length->qY (fH l k):=by
 intro k
 induction k with
 |zero=>intro hk;exact h 0 hk
 |succ k ih=>
  intro hk;simp only[fH];split
  .exact h _ hk
  .exact ih f'
@[push_cast] def ae9:Sp where
 kind:=0
 pre
  |[.sl 3 n cs,.fn 19 []]=>∃l:List (Int×Int),cs=fL l/\n=l.length/\(1<=n/\n<=3000)/\∀k,k<l.length->qY (l.getD k (0,0))
  |_=>False
 res
  |[.sl 3 n cs,.fn 19 []]=>.agg [decide ((fH (yj cs) (n-1)).1<0),dg (fH (yj cs) (n-1)).1.natAbs,.r (.int .i64 (fH (yj cs) (n-1)).2)]
  |_=>.any
theorem aag:aj a0c 94 ae9:=by
 refine sz λargs hp=>?_
 split at hp;rotate_left;cases hp;rename_i n cs;obtain⟨l,rfl,rfl,⟨n1,n2⟩,hD⟩:=hp;rw[GO];have hE:=di Dc;have hM:=If hD;have ab:=V5 l;have hlen:=As l;obtain⟨CS,a4⟩:=nm (fL l);rw[a4]at ab hlen|-;obtain⟨N,hN⟩:=nm (l.length);rw[hN]at n1 n2 hD hM ab hlen|-;refine aB func94 ntmps94 ?_;have a0:=ab 0 f';have m0:fH l 0=l.getD 0 (0,0):=rfl;rw[<-m0]at a0;obtain⟨z,h0⟩:=nm (fH l 0);obtain⟨z1,z2⟩:=z;rw[h0]at a0;have aw:List.take 3 CS=[.r (.bool (decide (z1<0))),.ns .u64 (dg z1.natAbs),.r (.int .i64 z2)]:=by simpa[pB]using a0
 have bc:0<N:=f';refine an (A2 (show¬(N:Int)<1 from f') aw) ?_;refine ai.loop (ι:={j:Nat // 1<=j/\j<=N}) (λj=>⟨[(0,.sl 3 N CS),(1,.fn 19 []),(4,.ptr 4 0),(5,.ptr 5 0),(6,(j.1:Int))],
  [(5,⟨Z',.c [decide ((fH l (j.1-1)).1<0),dg (fH l (j.1-1)).1.natAbs,.r (.int .i64 (fH l (j.1-1)).2)]⟩),(4,⟨Z',.c [a0a,.ns .u64 [],(0:Int)]⟩)]⟩) (λj=>N-j.1) ⟨1,f',n1⟩ ?_ ?_
 .have g1:(fH l (1-1)).1=z1:=by rw[sE,h0]
  have g2:(fH l (1-1)).2=z2:=by rw[sE,h0]
  dsimp only;rw[g1,g2];exact Le.mk a0b
 rintro⟨j,j1,j2⟩;dsimp only;have hm:=hM (j-1) f';obtain⟨m,em⟩:=nm (fH l (j-1));rw[em]at hm|-;obtain⟨a,b⟩:=m;obtain⟨af,a5,a6⟩:=hm;dsimp only at af a5 a6|-;obtain⟨oa,bd⟩:=af.lz f';have bm:(dg a.natAbs).length<600:=by
  have h1:=Gy 50 af p';have:=(lI h1 p').2.2;omega
 by_cases hlt:j<N
 .have hx:=hD j hlt
  have ax:=ab j hlt;have es:fH l (j+1-1)=if mg (l.getD j (0,0)) (fH l (j-1))<0 then l.getD j (0,0)else fH l (j-1):=by
   obtain⟨i,rfl⟩:∃i,j=i+1:=⟨j-1,f'⟩
   rfl
  rw[em]at es;obtain⟨x,ex⟩:=nm (l.getD j (0,0));rw[ex]at hx ax es;obtain⟨c,d⟩:=x;obtain⟨ao,a7,bb⟩:=hx;dsimp only at ao a7 bb;obtain⟨oc,bn⟩:=ao.lz f';have br:(dg c.natAbs).length<600:=by
   have h1:=Gy 50 ao p';have:=(lI h1 p').2.2;omega
  have ay:List.take 3 (List.drop (j*3) CS)=[.r (.bool (decide (c<0))),.ns .u64 (dg c.natAbs),.r (.int .i64 d)]:=ax;have a1:(j:Int)<N:=f';obtain⟨v,hv⟩:=nm (mg (c,d) (a,b));have a3:dc (c*2^sh (ce c d-min (ce c d) (ce a b))) (a*2^sh (ce a b-min (ce c d) (ce a b)))=v:=hv;rw[hv]at es;clear hD hM ab af ao a0 aw m0 h0
  by_cases hc:v<0
  .rw[au hc]at es
   have g1:(fH l (j+1-1)).1=c:=by rw[es]
   have g2:(fH l (j+1-1)).2=d:=by rw[es]
   refine an (A4 a1 ay a3 hc) ?_;refine⟨⟨j+1,f',f'⟩,?_,N'⟩;dsimp only;rw[g1,g2];exact Le.mk a0b
  .rw[aq hc]at es
   have g1:(fH l (j+1-1)).1=a:=by rw[es]
   have g2:(fH l (j+1-1)).2=b:=by rw[es]
   refine an (A4 a1 ay a3 hc) ?_;refine⟨⟨j+1,f',f'⟩,?_,N'⟩;dsimp only;rw[g1,g2];exact Le.mk a0b
 .obtain rfl:j=N:=f'
  rw[em];clear hD hM ab a0 aw m0 h0;refine an (show¬(j:Int)<j from f') ?_;exact pL
end
section
open Go Go.RowKit Go.Proofs
section
variable {α:Type}
def ZU:LK:=⟨0,0,0,0,0,0,0,0,a0a⟩
def h0:Int×LK:=(0,ZU)
theorem Dw(l:List (Int×LK)):∀k,k<l.length->((cE l).drop (k*14)).take 14=ld (l.getD k h0):=by
 induction l with
 |nil=>intro k hk;simp at hk
 |cons h l ih=>
  intro k hk;have e:cE (h::l)=ld h++cE l:=rfl;cases k with
  |zero=>rw[e];rfl
  |succ k=>
   have:(k+1)*14=(ld h).length+k*14:=by simp[ld,oz];omega
   rw[e,this,Kb,vB J',mY,Tm];exact ih k (by simpa using hk)
def uH:List AV->List (Int×LK)
 |.r (.int .u64 p)::.r (.bool b1)::.ns .u64 x1::.r (.bool b2)::.ns .u64 x2::.r (.int .i64 q)::.r (.int .i64 k)::.r (.int .i64 e)::.r (.int .i64 s)::.r (.bool b3)::.ns .u64 x3::.r (.bool b4)::.ns .u64 x4::.r (.bool hd)::l=>
  (p,⟨zv b1 x1,zv b2 x2,q,k,e,s,zv b3 x3,zv b4 x4,hd⟩)::uH l
 |_=>[]
theorem AX(l:List (Int×LK)):uH (cE l)=l:=by
 induction l with
 |nil=>rfl
 |cons h l ih=>
  obtain⟨p,r⟩:=h;have e:cE ((p,r)::l)=ld (p,r)++cE l:=rfl;rw[e];simp only[ld,oz,pc,mY,uH,ih,cI]
def eO(h:Int×LK):Int×Int:=(ct h.2.least,cH h.2.least (0-h.2.s))
def fi(h:Int×LK):Int×Int:=(ct h.2.most,cH h.2.most (0-h.2.s))
def dx(H:List (Int×LK)):(Int×Int)×(Int×Int):=if H.length=0 then((0,0),(0,0))else(fH (H.map eO) (H.length-1),fH (H.map fi) (H.length-1))
def HB(h:Int×LK):Prop:=(Bz 1000 h.2.least/\Bz 1000 h.2.most)/\0<=h.2.s/\h.2.s<=900
@[push_cast] def rC(d:Int×Int):AV:=.agg [decide (d.1<0),dg d.1.natAbs,d.2]
theorem qA{z s:Int}(b:Bz 1000 z)(h0:0<=s)(h1:s<=900):qY (ct z,cH z (0-s)):=by
 have e:=GW (e:=0-s) b;exact⟨(b.div:Bz 1000 (ct z)).mono f',by show -2000<=cH z (0-s);omega,by show cH z (0-s)<=2000;omega⟩
theorem BO(l:List α)(d:α)(k:Nat)(hk:k<l.length):l.take (k+1)=l.take k++[l.getD k d]:=by
 rw[Ko,ed hk];simp[List.getD,hk]
theorem getD_map'{β:Type}(f:α->β)(l:List α)(d:α)(e:β)(k:Nat)(hk:k<l.length):(l.map f).getD k e=f (l.getD k d):=by
 simp[List.getD,hk]
@[push_cast] def ad1:Sp where
 kind:=0
 pre
  |[.sl 14 n cs]=>∃H:List (Int×LK),cs=cE H/\n=H.length/\n<=100/\∀k,k<H.length->HB (H.getD k h0)
  |_=>False
 res
  |[.sl 14 n cs]=>.aU [rC (dx (uH cs)).1,rC (dx (uH cs)).2]
  |_=>.any
theorem LP:aj a0c 57 ad1:=by
 refine sz λargs hp=>?_
 split at hp;rotate_left;cases hp;rename_i n cs;obtain⟨H,rfl,rfl,hn,hB⟩:=hp;rw[AX];have hE:=eF yi aag;have ab:=Dw H;have hlen:=uG H;obtain⟨CS,bb⟩:=nm (cE H);rw[bb]at ab hlen|-;obtain⟨N,hN⟩:=nm (H.length);rw[hN]at hn hB ab hlen|-;refine aB func57 ntmps57 ?_;refine aT ?_;refine aT ?_;refine ai.iG (ι:=Unit) (λ_=>⟨[(0,.sl 14 N CS),(2,.ptr 2 0),(3,.ptr 3 0),(4,.os 24 3 0 N),(5,.os 35 3 0 N)],
  [(24,⟨Z',.c (fL (H.map eO))⟩),(35,⟨Z',.c (fL (H.map fi))⟩),(2,⟨Z',.c [a0a,.ns .u64 [],(0:Int)]⟩),(3,⟨Z',.c [a0a,.ns .u64 [],(0:Int)]⟩)]⟩) ?_ (λ_=>?_)
 .refine aK ?_
  refine ai.bare 24 (.c []) a0b ?_;refine ai.bare 35 (.c []) a0b ?_;refine ai.loop (ι:={k:Nat // k<=N}) (λk=>⟨[(0,.sl 14 N CS),(2,.ptr 2 0),(3,.ptr 3 0),(4,.os 24 3 0 k.1),(5,.os 35 3 0 k.1),(8,.sl 14 N CS),(9,(N:Int)),(10,(k.1:Int))],
   [(24,⟨Z',.c (fL ((H.take k.1).map eO))⟩),(35,⟨Z',.c (fL ((H.take k.1).map fi))⟩),(2,⟨Z',.c [a0a,.ns .u64 [],(0:Int)]⟩),(3,⟨Z',.c [a0a,.ns .u64 [],(0:Int)]⟩)]⟩) (λk=>N-k.1) ⟨0,dU _⟩ ?_ ?_
  .have g1:fL ((H.take 0).map eO)=[]:=rfl
   have g2:fL ((H.take 0).map fi)=[]:=rfl;dsimp only;rw[g1,g2];exact Le.mk a0b
  rintro⟨k,hk⟩;dsimp only
  by_cases hlt:k<N
  .have hb:=hB k hlt
   have ha:=ab k hlt;have hs:=BO H h0 k f';obtain⟨h,eh⟩:=nm (H.getD k h0);rw[eh]at hb ha hs;obtain⟨p,r⟩:=h;obtain⟨⟨bl,bm⟩,s0,s1⟩:=hb;dsimp only at bl bm s0 s1;have e1:fL ((H.take (k+1)).map eO)=fL ((H.take k).map eO)++pB (eO (p,r)):=by rw[hs,FB,ME];rfl
   have e2:fL ((H.take (k+1)).map fi)=fL ((H.take k).map fi)++pB (fi (p,r)):=by rw[hs,FB,ME];rfl
   have l1:=As ((H.take k).map eO);have l2:=As ((H.take k).map fi);rw[fJ,fT,hN,sC hk]at l1 l2;obtain⟨A,hA⟩:=nm (fL ((H.take k).map eO));obtain⟨B,af⟩:=nm (fL ((H.take k).map fi));rw[hA]at e1 l1|-;rw[af]at e2 l2|-;have d1:=qA bl s0 s1;have d2:=qA bm s0 s1;obtain⟨M1,ax⟩:=nm (ct r.least);obtain⟨E1,ao⟩:=nm (cH r.least (0-r.s));obtain⟨M2,ay⟩:=nm (ct r.most);obtain⟨E2,aw⟩:=nm (cH r.most (0-r.s));have a6:fL ((H.take (k+1)).map eO)=A++[.r (.bool (decide (M1<0))),.ns .u64 (dg M1.natAbs),.r (.int .i64 E1)]:=by rw[e1];simp only[eO,pB,ax,ao]
   have a7:fL ((H.take (k+1)).map fi)=B++[.r (.bool (decide (M2<0))),.ns .u64 (dg M2.natAbs),.r (.int .i64 E2)]:=by rw[e2];simp only[fi,pB,ay,aw]
   have a0:List.take 14 (List.drop (k*14) CS)=.r (.int .u64 p)::oz r:=ha;simp only[oz]at a0;obtain⟨ol,bd⟩:=bl.oq f';obtain⟨om,bn⟩:=bm.oq f';have bc:(k:Int)<N:=f';have F1:=iJ.mk (A6 bc a0 ax ao ay aw);clear ab hB ha hs e1 e2 bl bm d1 d2 ax ao ay aw hA af a0;refine an F1.h ?_;refine⟨⟨k+1,f'⟩,?_,N'⟩;dsimp only;rw[a6,a7];exact Le.mk a0b
  .obtain rfl:k=N:=f'
   have ht:H.take k=H:=gG f';rw[ht];clear ab hB;refine an (show¬(k:Int)<k from f') ?_;exact⟨(),Le.mk a0b⟩
 .by_cases h:N=0
  .have hb:dx H=((0,0),(0,0)):=au (by rw[hN];exact h)
   rw[hb];have e0:dg (Int.natAbs 0)=[]:=ky;have ht:((N:Int)==0)=true:=by rw[h];rfl
   clear ab hB;refine an ht ?_;refine aO.mk a0b ?_;simp only[rC,e0]
   rfl
  .have hb:dx H=(fH (H.map eO) (N-1),fH (H.map fi) (N-1)):=by unfold dx;rw[aq (by rw[hN];exact h),hN]
   rw[hb];have ht:((N:Int)==0)=false:=O';have l1:=As (H.map eO);have l2:=As (H.map fi);rw[fJ,hN]at l1 l2;have p1:∃l:List (Int×Int),fL (H.map eO)=fL l/\N=l.length/\(1<=N/\N<=3000)/\∀k,k<l.length->qY (l.getD k (0,0)):=
    ⟨H.map eO,rfl,by rw[fJ,hN],f',λk hk=>by
     have a3:k<N:=by rw[fJ,hN]at hk;exact hk
     rw[getD_map' eO H h0 _ k f'];obtain⟨⟨bl,bm⟩,s0,s1⟩:=hB k a3;exact qA bl s0 s1⟩
   have p2:∃l:List (Int×Int),fL (H.map fi)=fL l/\N=l.length/\(1<=N/\N<=3000)/\∀k,k<l.length->qY (l.getD k (0,0)):=
    ⟨H.map fi,rfl,by rw[fJ,hN],f',λk hk=>by
     have a3:k<N:=by rw[fJ,hN]at hk;exact hk
     rw[getD_map' fi H h0 _ k f'];obtain⟨⟨bl,bm⟩,s0,s1⟩:=hB k a3;exact qA bm s0 s1⟩
   have q1:=GO (H.map eO);have q2:=GO (H.map fi);obtain⟨A,hA⟩:=nm (fL (H.map eO));obtain⟨B,af⟩:=nm (fL (H.map fi));rw[hA]at l1 p1 q1|-;rw[af]at l2 p2 q2|-;obtain⟨m1,a4⟩:=nm (fH (H.map eO) (N-1));obtain⟨m2,a5⟩:=nm (fH (H.map fi) (N-1));rw[a4,a5];obtain⟨a1,a2⟩:=m1;obtain⟨c1,c2⟩:=m2;clear ab hB hb;refine an (A5 ht q1 q2 a4 a5) ?_;exact pL
end
end
section
variable {a b z:Int}
def iO(d:Int×Int):Int:=d.1*2^(d.2+2000).toNat
def DR(d:Int×Int):Prop:=-2000<=d.2/\d.2<=2000
theorem C9:dc a b<0↔a<b:=by unfold dc;repeat' split<;>omega
theorem Vw{c:Int}(hc:0<c):dc (a*c) (b*c)=dc a b:=by
 have h1:a*c<b*c↔a<b:=⟨λh=>lX h (bo hc),λh=>J3 h hc⟩;have h2:b*c<a*c↔b<a:=⟨λh=>lX h (bo hc),λh=>J3 h hc⟩;unfold dc;simp only[h1,h2]
theorem QV{n:Int}(h0:0<=n)(h1:n<=8192):sh n=n.toNat:=by
 unfold sh;have e:(if 8192<n then 8192 else n)=n:=aq f';rw[e];split<;>omega
theorem At{a b:Int×Int}(ha:DR a)(hb:DR b):mg a b=dc (iO a) (iO b):=by
 obtain⟨a1,a2⟩:=a;obtain⟨b1,b2⟩:=b;obtain⟨x1,x2⟩:=ha;obtain⟨y1,y2⟩:=hb;dsimp only at x1 x2 y1 y2;unfold mg iO;dsimp only;have ca:-2000<=ce a1 a2/\ce a1 a2<=2000:=by unfold ce;split<;>omega
 have cb:-2000<=ce b1 b2/\ce b1 b2<=2000:=by unfold ce;split<;>omega
 obtain⟨mn,ab⟩:=nm (min (ce a1 a2) (ce b1 b2));rw[ab];have m1:mn<=ce a1 a2/\mn<=ce b1 b2/\-2000<=mn:=f';rw[QV f' f',QV f' f'];have key:∀z e:Int,-2000<=e->mn<=ce z e->z*2^(ce z e-mn).toNat*2^(mn+2000).toNat=z*2^(e+2000).toNat:=by
  intro z e he hc
  by_cases hz:z=0
  .subst hz;simp
  .have:ce z e=e:=aq hz
   rw[this]at hc|-;rw[mW,<-gk]
   congr 2
   omega
 rw[<-key a1 a2 x1 m1.1,<-key b1 b2 y1 m1.2.1,Vw (cf _)]
theorem GX(z:Int):ct z*2^tz z=z:=by
 by_cases h:z=0
 .subst h;simp[ct]
 .obtain⟨_,_,hd,_⟩:=zp h
  unfold ct;refine JZ ?_;have:((2^tz z:Nat):Int)∣z:=Int.ofNat_dvd_left.2 hd;rwa[kJ]at this
theorem MN{e:Int}(he:-2000<=e):iO (ct z,cH z e)=z*2^(e+2000).toNat:=by
 unfold iO;dsimp only
 by_cases h:z=0
 .subst h;simp[ct]
 .have:cH z e=e+tz z:=aq h
  rw[this,show(e+(tz z:Int)+2000).toNat=tz z+(e+2000).toNat from f',gk,<-mW,GX]
theorem Ay{s:Int}(h1:s<=2000):iO (ct z,cH z (0-s))=wI z s:=by
 rw[MN f'];unfold wI
 congr 2
 omega
theorem D8{l:List (Int×Int)}(h:∀k,k<l.length->DR (l.getD k (0,0))):∀k,k<l.length->(∀j,j<=k->iO (fH l k)<=iO (l.getD j (0,0)))/\∃j,j<=k/\fH l k=l.getD j (0,0):=by
 intro k
 induction k with
 |zero=>
  intro hk;refine⟨λj hj=>?_,0,aM _,rfl⟩;obtain rfl:j=0:=f';exact gu _
 |succ k ih=>
  intro hk;obtain⟨i1,j0,ao,e0⟩:=ih f';have hr:DR (fH l k):=by rw[e0];exact h _ f'
  have hc:=At (h _ hk) hr;simp only[fH];split
  .rename_i af
   rw[hc,C9]at af;refine⟨λj hj=>?_,k+1,aM _,rfl⟩;rcases dQ k j with ab|ab
   .obtain rfl:j=k+1:=f'
    exact gu _
   .exact nO (bo af) (i1 j ab)
  .rename_i af
   rw[hc,C9]at af;refine⟨λj hj=>?_,j0,f',e0⟩;rcases dQ k j with ab|ab
   .obtain rfl:j=k+1:=f'
    omega
   .exact i1 j ab
theorem DA{f m:Nat}{b p:Int}{r:LK}:∀{n:Nat},(p,r)∈aP f m b n↔∃k,k<n/\p=b+k/\r=aX f m (pY (b+k))/\r.gV=Z'
 |0=>by simp[aP]
 |n+1=>by
  simp only[aP,jm,DA (n:=n)];constructor
  .rintro(⟨k,h1,h2,h3,h4⟩|h)
   .exact⟨k,f',h2,h3,h4⟩
   .split at h
    .rename_i hh
     simp only[Cu,db]at h;exact⟨n,f',h.1,h.2,by rw[h.2];exact hh⟩
    .simp at h
  .rintro⟨k,h1,h2,h3,h4⟩
   rcases dQ k n with hk|hk
   .exact .inl ⟨k,hk,h2,h3,h4⟩
   .obtain rfl:k=n:=f'
    right
    rw[au (by rw[<-h3];exact h4)];simp[h2,h3]
theorem NK{f m:Nat}{b:Int}:∀(n i:Nat),i+1<(aP f m b n).length->((aP f m b n).getD i h0).1<((aP f m b n).getD (i+1) h0).1
 |0,i,h=>by simp[aP]at h
 |n+1,i,h=>by
  have ab:∀j,j<(aP f m b n).length->((aP f m b n).getD j h0).1<b+n:=λj hj=>by
   have hm:(aP f m b n).getD j h0∈aP f m b n:=by
    rw[cF,ed hj];exact qg hj
   obtain⟨k,k1,k2,_⟩:=DA.1 (show(((aP f m b n).getD j h0).1,((aP f m b n).getD j h0).2)∈aP f m b n from hm);omega
  have ih:=NK (f:=f) (m:=m) (b:=b) n;simp only[aP]at h|-;split at h
  .rename_i hh
   rw[au hh];rw[aV]at h;simp only[List.length_singleton]at h;rcases dQ (i+1) (aP f m b n).length with h1|h1
   .rw[cF,cF,iK h1,iK f',<-cF,<-cF]
    exact ih i h1
   .have e:i+1=(aP f m b n).length:=f'
    have h2:=ab i f';rw[cF,cF,iK f',jz f',e,<-cF];simpa using h2
  .rename_i hh
   rw[aq hh,jx]at*;exact ih i h
end
structure Cw(f m Y:Nat)(r:LK):Prop where
 uq:Bz 1000 r.lo/\Bz 1000 r.hi
 wide:r.lo<=r.hi/\r.hi-r.lo<=2
 q:161<=r.q/\r.q<=588
 k:r.k=Bc f Y
 s:0<=r.s/\r.s<=600
 lu:0<=r.least/\r.least<=r.most
 pE:Bz 1000 r.least/\Bz 1000 r.most
 holds:∀N,mB N->aW r.q.toNat (r.lo,r.hi) (zq N f Y)
theorem yL{f m Y:Nat}(hY:0<Y)(ab:Y<2^126)(a1:1<=m)(a2:m<=128):Cw f m Y (aX f m Y):=by
 have nk:=tG;have z0:Bz 1000 0:=Bz.small f' f';cases h:kG (cD f 300 Y).1 with
 |false=>
  have e:aX f m Y=⟨(cD f 300 Y).1.1,(cD f 300 Y).1.2,300,(cD f 300 Y).2,0,0,0,0,Z'⟩:=by unfold aX;rw[aq (by rw[h];simp)]
  have b:=Ah (f:=f) (q:=300) f' f' hY ab;obtain⟨N,hN⟩:=nk;have i:=qo (f:=f) (q:=300) f' f' hY ab N hN;rw[e];exact⟨⟨b.1,b.2.1⟩,⟨b.2.2,i.2.1⟩,⟨N',N'⟩,i.2.2,⟨N',N'⟩,⟨N',N'⟩,⟨z0,z0⟩,λN hN=>(qo (f:=f) (q:=300) f' f' hY ab N hN).1⟩
 |true=>
  obtain⟨A,hA⟩:=DW hY ab h;obtain⟨e,k,w⟩:=hA m a1 a2;obtain⟨_,⟨q1,q2⟩,_⟩:=H8 (f:=f) a1 a2 hY ab h;have b:=Ah (f:=f) (q:=kj f m Y) f' f' hY ab;obtain⟨N,hN⟩:=nk;have i:=qo (f:=f) (q:=kj f m Y) f' f' hY ab N hN;obtain⟨p1,p2,p3,p4⟩:=w.uq;have s1:=w.s1;have hb:∀z:Int,0<=z->z<=2^600->Bz 1000 z:=λz z0 z1=>(gP (n:=600) z0 z1).mono f'
  have lu:=w.lf.lu;have l0:=w.lf.l0;refine⟨?_,?_,?_,?_,⟨f',w.s2⟩,⟨l0,lu⟩,⟨hb _ l0 (nO lu w.ub),hb _ (nO l0 lu) w.ub⟩,λN hN=>?_⟩
  .rw[p1,p2];exact⟨b.1,b.2.1⟩
  .rw[p1,p2];exact⟨b.2.2,i.2.1⟩
  .rw[p3];omega
  .rw[p4];exact i.2.2
  .rw[p1,p2,p3,dD]
   exact(qo (f:=f) (q:=kj f m Y) f' f' hY ab N hN).1
section
variable {f M n:Nat}{b:Int}
def qj(b:Int)(n:Nat):Prop:=∀k,k<n->PD (b+k)
theorem yw(hp:qj b n)(a1:1<=M)(a2:M<=128){h:Int×LK}(hm:h∈aP f M b n):Cw f M (pY h.1) h.2/\h.2.gV=Z'/\h.2=aX f M (pY h.1)/\∃k,k<n/\h.1=b+k:=by
 obtain⟨p,r⟩:=h;obtain⟨k,k1,k2,k3,k4⟩:=DA.1 hm;obtain⟨_,y2,y1⟩:=pN (hp k k1);subst k2;exact⟨by rw[k3];exact yL y1 y2 a1 a2,k4,k3,k,k1,rfl⟩
theorem AQ{l:List (Int×LK)}{j:Nat}(hj:j<l.length):l.getD j h0∈l:=by
 rw[cF,ed hj];exact qg hj
theorem AU(hp:qj b n)(a1:1<=M)(a2:M<=128):∀j,j<(aP f M b n).length->HB ((aP f M b n).getD j h0):=by
 intro j hj;obtain⟨w,_⟩:=yw hp a1 a2 (AQ hj);exact⟨w.pE,w.s.1,by have:=w.s.2;omega⟩
theorem Ax{z s:Int}(hz:Bz 1000 z)(h0:0<=s)(h1:s<=900):DR (ct z,cH z (0-s)):=(qA hz h0 h1).2
theorem NG(hp:qj b n)(a1:1<=M)(a2:M<=128):∀j,j<((aP f M b n).map eO).length->DR (((aP f M b n).map eO).getD j (0,0)):=by
 intro j hj;rw[fJ]at hj;rw[getD_map' eO _ h0 _ _ hj];have:=AU (f:=f) hp a1 a2 j hj;exact Ax this.1.1 this.2.1 this.2.2
theorem NH(hp:qj b n)(a1:1<=M)(a2:M<=128):∀j,j<((aP f M b n).map fi).length->DR (((aP f M b n).map fi).getD j (0,0)):=by
 intro j hj;rw[fJ]at hj;rw[getD_map' fi _ h0 _ _ hj];have:=AU (f:=f) hp a1 a2 j hj;exact Ax this.1.2 this.2.1 this.2.2
theorem LQ(hp:qj b n)(a1:1<=M)(a2:M<=128)(hn:0<(aP f M b n).length):
 DR (dx (aP f M b n)).1/\DR (dx (aP f M b n)).2/\(∀h∈aP f M b n,iO (dx (aP f M b n)).1<=wI h.2.least h.2.s/\iO (dx (aP f M b n)).2<=wI h.2.most h.2.s)/\
  (∃h∈aP f M b n,iO (dx (aP f M b n)).1=wI h.2.least h.2.s)/\∃h∈aP f M b n,iO (dx (aP f M b n)).2=wI h.2.most h.2.s:=by
 have e:dx (aP f M b n)=(fH ((aP f M b n).map eO) ((aP f M b n).length-1),fH ((aP f M b n).map fi) ((aP f M b n).length-1)):=aq f';have w1:=NG (f:=f) hp a1 a2;have w2:=NH (f:=f) hp a1 a2;have wb:=AU (f:=f) hp a1 a2;rw[e];obtain⟨p1,j1,q1,r1⟩:=D8 w1 ((aP f M b n).length-1) (by rw[fJ];omega);obtain⟨p2,j2,q2,r2⟩:=D8 w2 ((aP f M b n).length-1) (by rw[fJ];omega);have v1:∀j,j<(aP f M b n).length->iO (((aP f M b n).map eO).getD j (0,0))=wI ((aP f M b n).getD j h0).2.least ((aP f M b n).getD j h0).2.s:=λj hj=>by
  rw[getD_map' eO _ h0 _ _ hj];exact Ay (by have:=(wb j hj).2.2;omega)
 have v2:∀j,j<(aP f M b n).length->iO (((aP f M b n).map fi).getD j (0,0))=wI ((aP f M b n).getD j h0).2.most ((aP f M b n).getD j h0).2.s:=λj hj=>by
  rw[getD_map' fi _ h0 _ _ hj];exact Ay (by have:=(wb j hj).2.2;omega)
 refine⟨by dsimp only;rw[r1];exact w1 _ (by rw[fJ];omega),by dsimp only;rw[r2];exact w2 _ (by rw[fJ];omega),λh hm=>?_,⟨_,AQ (show j1<(aP f M b n).length from f'),?_⟩,_,AQ (show j2<(aP f M b n).length from f'),?_⟩
 .obtain⟨j,hj,ab⟩:=Tc.1 hm
  have he:(aP f M b n).getD j h0=h:=by rw[cF,ed hj,ab];rfl
  have a:=p1 j f';have c:=p2 j f';rw[v1 j hj,he]at a;rw[v2 j hj,he]at c;exact⟨a,c⟩
 .dsimp only;rw[r1];exact v1 _ f'
 .dsimp only;rw[r2];exact v2 _ f'
theorem UM(hp:qj b n)(a1:1<=M)(a2:M<=128)(hn:0<(aP f M b n).length):
 (∀k,k<n->iO (dx (aP f M b n)).1<=wI (aX f 128 (pY (b+k))).most (aX f 128 (pY (b+k))).s)/\
 (∃k,k<n/\wI (aX f 128 (pY (b+k))).least (aX f 128 (pY (b+k))).s<=iO (dx (aP f M b n)).2)/\
 iO (dx (aP f M b n)).1<=iO (dx (aP f M b n)).2/\iO (dx (aP f M b n)).1<2^(2000-M):=by
 obtain⟨_,_,al,⟨h1,m1,e1⟩,h2,m2,e2⟩:=LQ (f:=f) hp a1 a2 hn;have hd:∀h∈aP f M b n,wI h.2.least h.2.s<2^(2000-M):=λh hm=>by
  obtain⟨_,w2,w3,k,k1,k2⟩:=yw hp a1 a2 hm;obtain⟨_,y2,y1⟩:=pN (hp k k1);rw[k2]at w3;have:=Hy (f:=f) y1 y2 a1 a2;rw[<-w3,w2]at this;exact js this.symm
 refine⟨λk hk=>?_,?_,?_,?_⟩
 .obtain⟨_,y2,y1⟩:=pN (hp k hk)
  have cr:=Mu (f:=f) y1 y2 a1 a2 (show 1<=128 from p') (aM _);refine nO ?_ cr;cases hh:(aX f M (pY (b+k))).gV with
  |true=>exact(al (b+k,aX f M (pY (b+k))) (DA.2 ⟨k,hk,rfl,rfl,hh⟩)).1
  |false=>
   have hw:=Hy (f:=f) y1 y2 a1 a2;rw[hh]at hw;have hw:=rK hw.symm;have:=hd h1 m1;rw[e1];omega
 .obtain⟨_,_,w3,k,k1,k2⟩:=yw hp a1 a2 m2
  obtain⟨_,y2,y1⟩:=pN (hp k k1);refine⟨k,k1,?_⟩;rw[e2,w3,k2];exact Mu (f:=f) y1 y2 (show 1<=128 from p') (aM _) a1 a2
 .have a:=(al h2 m2).1
  obtain⟨w,_,_,k,k1,k2⟩:=yw hp a1 a2 m2;rw[e2];refine nO a ?_;unfold wI;exact gj w.lu.2 (bo (cf _))
 .rw[e1];exact hd h1 m1
end
end Go.Hl
