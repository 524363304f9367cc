/- Lemmas for TopSound and TopBracket. -/
import Derived.ProofKit
import Derived.Lib.SmallJoins
import Derived.Test.YtpgglolpkbepjaaGreatTBP
set_option linter.unusedVariables false
set_option linter.unusedSimpArgs false
namespace Go.Hl
open Go.Proofs.Tryz
open Go.Proofs.Tryz renaming prog→a0c
open Option renaming some→T',none→Y'
open Bool renaming true→Z',false→a0a
set_option maxHeartbeats 8000000
set_option maxRecDepth 1000000
section
open Go Go.RowKit Go.Proofs
section
variable {j:JN}{H:List (Int×LK)}{N:Nat}
theorem YT(H:List (Int×LK))(k:Nat)(hk:k<H.length):iE (H.drop k)=pJ (H.getD k h0)++iE (H.drop (k+1)):=by
 rw[sj hk,cF,ed hk]
 rfl
def kZ(l:List (Int×LK)):List AV:=cE (l.map od)
theorem YK(H:List (Int×LK))(k:Nat)(hk:k<H.length):kZ (H.take (k+1))=kZ (H.take k)++ld (od (H.getD k h0)):=by
 unfold kZ;rw[BO H h0 k hk,FB,Hz];simp[cE]
theorem XC(h:Int)(xs:List Int)(h0:0<=h/\h<18446744073709551616):∀k,0<=fW h xs k/\fW h xs k<18446744073709551616
 |0=>h0
 |k+1=>by
  show 0<=qC _ _/\qC _ _<_;unfold qC;rw[eP];omega
structure CX(j:JN)(H:List (Int×LK))(N:Nat)(lo hi:Int×Int)(XS CB BJ TL:List Int)(BL:Nat)(S:Int):Prop where
 x8:B8 XS
 c8:B8 CB
 xl:XS.length=BL+8
 cl:CB.length=BL
 Uj:60<=BL
 b2:BL<=900000
 t8:XS.take 8=[72,65,73,82,67,69,82,84]
 tj:(XS.take 56).drop 8=BJ
 tb:XS.take BL=CB
 td:CB.drop 56=aI (N:Int) 4++(iE H++(iC lo++(iC hi++[])))
 ts:XS.drop BL=TL
 st:aI S 8++[]=TL
 s0:0<=S/\S<18446744073709551616
 sm:fW 14695981039346656037 CB BL=S
 bj:j.bytes=BJ
theorem V1(hN:H.length=N)(hn:N<=100)(hw:∀k,k<H.length->HW (H.getD k h0)):∃CB TL BL S,CX j H N (dx H).1 (dx H).2 (gn j H) CB j.bytes TL BL S:=by
 obtain⟨CB,af⟩:=nm (kv j H);have hl:=Al (j:=j) hw f';have aw:=Gz j H;have ao:j.bytes.length=48:=wo _ _ _ _ _;have ab:ru.length=8:=rfl;have hb:CB=ru++(j.bytes++(aI (N:Int) 4++(iE H++(iC (dx H).1++(iC (dx H).2++[]))))):=by
  rw[<-af];unfold kv pt;rw[hN];simp only[dH,jx]
 have ax:60<=CB.length:=by rw[hb];simp only[aV,ao,ab,cX];omega
 rw[af]at hl aw;have hx:gn j H=CB++aI (fW 14695981039346656037 CB CB.length) 8:=by unfold gn;rw[af]
 have ay:=Mj j H;refine⟨CB,_,CB.length,fW 14695981039346656037 CB CB.length,⟨B8.of ay (by rw[hx,aV,cX];omega),B8.of aw f',by rw[hx,aV,cX],rfl,ax,f',?_,?_,by rw[hx,kM rfl],?_,by rw[hx,jy rfl],by rw[jx],XC _ _ ⟨p',p'⟩ _,rfl,rfl⟩⟩
 .rw[hx,hb,dH,kM ab];rfl
 .rw[hx,hb,dH,dH,<-dH ru,kM (by rw[aV,ab,ao]),jy ab]
 .rw[hb,<-dH ru,jy (by rw[aV,ab,ao])]
theorem Eu(hj:j.ok)(hN:H.length=N)(hn:N<=100)(hw:∀k,k<H.length->HW (H.getD k h0))(d1:xq (dx H).1)(d2:xq (dx H).2):
 aA a0c 10 [.ns .u8 (gn j H)] .cQ (λr R=>∃v,r=.aU [.agg j.cs,.r v,rC (dx H).1,rC (dx H).2,(0:Int)]/\R=kE 47 14 N v (kZ H)):=by
 have hE:=eF NA Mz;obtain⟨i33,j1,j2⟩:=Ze;obtain⟨i47,cv,k1,k2,k3,k4,k5⟩:=Zf;obtain⟨CB,TL,BL,S,cx⟩:=V1 (j:=j) hN hn hw;obtain⟨x8,c8,xl,cl,Uj,b2,t8,tj,tb,td,ts,st,s0,sm,_⟩:=cx;obtain⟨XS,bx⟩:=nm (gn j H);rw[bx]at x8 xl t8 tj tb ts|-;obtain⟨BJ,bt⟩:=nm (j.bytes);have a0:=NY hj;rw[bt]at tj a0;obtain⟨⟨z1,e1⟩,bB⟩:∃d,(dx H).1=d:=⟨_,rfl⟩;obtain⟨⟨z2,e2⟩,bA⟩:∃d,(dx H).2=d:=⟨_,rfl⟩;rw[bB]at td d1|-;rw[bA]at td d2|-;obtain⟨l1,⟨b1,c1⟩,m1,n1⟩:=d1;obtain⟨l2,⟨bH,c2⟩,m2,n2⟩:=d2;dsimp only at l1 b1 c1 m1 n1 l2 bH c2 m2 n2;obtain⟨BD,ay⟩:=nm (CB.drop 56);have a1:B8 BD:=by rw[<-ay];exact c8.kf 56
 have bX:B8 TL:=by rw[<-ts];exact x8.kf BL
 rw[ay]at td;have bw:B8 [72,65,73,82,67,69,82,84]:=by rw[<-t8];exact x8.BM 8
 rw[td]at a1;have ax:B8 (iE H++(iC (z1,e1)++(iC (z2,e2)++[]))):=by
  have:=a1.kf 4;rwa[jy (cX _ 4)]at this
 have bs:B8 (iC (z1,e1)++(iC (z2,e2)++[])):=by
  have:=ax.kf (iE H).length;rwa[jy rfl]at this
 have bU:B8 (iC (z2,e2)++[]):=by
  have:=bs.kf (iC (z1,e1)).length;rwa[jy rfl]at this
 have bL:∀b,aA a0c 29 [.r (.pointer (T' ⟨b,0,Y'⟩)),(8:Int)] (jS b TL) _:=λb=>by
  rw[<-st];exact Bv (b:=b) (s:=8) (n:=S) s0.1 (by
   have h8:(256:Int)^8=18446744073709551616:=p';rw[h8];exact s0.2) f' f' (by rw[st];exact bX)
 have bK:∀b,aA a0c 32 [.r (.pointer (T' ⟨b,0,Y'⟩)),(4:Int),.r (.int .u64 2048)] (jS b BD) _:=λb=>by
  rw[td];exact Bt (b:=b) (s:=4) (n:=(N:Int)) (m:=2048) f' (by
   have h8:(256:Int)^4=4294967296:=p';rw[h8];omega) f' f' f' f' a1
 have ao:∀b,aA a0c 34 [.r (.pointer (T' ⟨b,0,Y'⟩))] _ _:=λb=>Qm (b:=b) (z:=z1) (e:=e1) l1 f' f' m1 n1 bs
 have aw:∀b,aA a0c 34 [.r (.pointer (T' ⟨b,0,Y'⟩))] _ _:=λb=>Qm (b:=b) (z:=z2) (e:=e2) l2 f' f' m2 n2 bU
 unfold rC at ao aw|-;dsimp only at ao aw|-;obtain⟨s1,bP⟩:=nm (decide (z1<0));obtain⟨g1,bM⟩:=nm (dg z1.natAbs);obtain⟨s2,bQ⟩:=nm (decide (z2<0));obtain⟨g2,bN⟩:=nm (dg z2.natAbs);simp only[bP,bM]at ao|-;simp only[bQ,bN]at aw|-;obtain⟨RD,a5⟩:=nm (iC (z1,e1)++(iC (z2,e2)++[]));rw[a5]at ax;simp only[a5]at ao td;rcases j with⟨jF,jE,jA,jB,jM⟩
 unfold JN.cs at a0|-;dsimp only at a0|-;have bV:CB.drop 56=BD:=ay;clear bx bt bB bA ay;refine aA.Gr 11 func10 ntmps10 (λen bu bE=>?_);have bz:∀b,¬en.fp b:=bE;refine cR.seq (aa.region ?_);refine az 1 ?_;refine GL.TK (C:=[.slice Y' 0 0]) j1 j2 rfl rfl rfl rfl p' ?_;refine az 3 ?_;refine GL.nil ?_;refine⟨rfl,?_⟩;show cR _ _ _ _ _ _ _ _;refine cR.abD rfl rfl rfl rfl rfl rfl p' bu (λv0 v1 v2 v3 v4=>?_);refine cR.Vs (T:=ag a0a) (rs:=[.cell 2 24,.cell 3 33,.cell 4 38,.cell 5 38,.cell 6 27]) (ts:=[24,33,38,38,27]) hE.hT results10 rfl rfl ?_;obtain⟨bO,bb⟩:∃e:dK,(⟨en.W,en.X,en.fp,en.sub,en.lt,[u5 #[v0,v1,v2,v3,v4]]⟩:dK)=e:=⟨_,rfl⟩;have b3:∀b,¬bO.fp b:=by rw[<-bb];exact bz
 rw[bb];clear bb bz bu bE;have ca:((BL+8:Nat):Int)-8=(BL:Int):=f';refine a9 (A2 xl ca) ?_;have bR:¬(BL:Int)<60:=f';have b5:8<=XS.length:=f';have b9:(S !=S)=false:=J';have b7:∀m j,(List.replicate m (Y':Option mc)).getD j Y'=none:=λm j=>by
  rw[cF,qe];split<;>rfl
 obtain⟨af,a3⟩:∃L:List Int,[72,65,73,82,67,69,82,84]=L:=⟨_,rfl⟩;rw[a3]at t8 bw;have a4:af.length=8:=by rw[<-a3];rfl
 refine aa.seq (aa.seq (aa.Ji hE.hm ?_));refine jY.cut 10 22 a0a rfl rfl ?_;refine jY.cut 3 15 a0a rfl rfl ?_;refine jY.plain [] [] [] hE gy ?_;simp only[fy,eD];refine jt bR ?_;refine⟨rfl,?_⟩;refine jY.cut 3 15 a0a rfl rfl ?_;refine jY.two 1 2 #[] #[.tmp 17] (List.replicate 3 Y') [] [] [] (aas0:=[]) (aas1:=λr=>[r]) (post0:=λr R'=>∃g,r=.r (.slice (T' ⟨g,0,Y'⟩) 8 8)/\R'=GA.cQ.star (.obj g (.cells (af.map (Value.int .u8)).toArray 5 (0,0)))) (post1:=λr R' r' ab=>∃g,r'=.r (.slice (T' ⟨g,0,Y'⟩) 8 8)/\ab=GA.cQ.star (dE (.slice (T' ⟨g,0,Y'⟩) 8 8) af)) hE rfl rfl rfl (eR.UQ af rfl a4.symm p' p' (by rw[<-a3];rfl)) (λr R' hp=>?_) ⟨_,_,0,rfl,rfl⟩ (λr R' _=>⟨_,_,0,rfl,rfl⟩) gy (λr R' r' ab bd bm=>?_)
 .obtain⟨g,rfl,rfl⟩:=hp
  exact(eR.conv af rfl a4.symm p').mono (λr' ab⟨h1,h2⟩=>⟨g,h1,h2⟩)
 obtain⟨g,rfl,rfl⟩:=bd;obtain⟨g',rfl,rfl⟩:=bm;refine⟨rfl,rfl,?_⟩;simp only[fy,eD,fS,fe,fX,kr,mJ,lK,xB,xC,ck,fl,dF,gO,iv,Nat.reduceAdd];refine jt a0b ?_;refine⟨rfl,?_⟩;refine jY.seq ?_;refine GL.ja (eZ.th (t:=18) (v:=.slice (T' ⟨g',0,Y'⟩) 8 8) (xs:=af) b3 rfl p') ?_;refine fG 4 (A5 x8 bw t8 b5 a4) ?_;refine GL.nil ?_;refine⟨rfl,?_⟩;refine jY.two 4 5 #[.tmp 26] #[.tmp 27,.const (.int .i64 8)] (List.replicate 12 Y') [] [] [] (aas0:=[.agg [.ns .u8 TL]]) (aas1:=λr=>[r,(8:Int)]) (post0:=λr R'=>∃b,r=.r (.pointer (T' ⟨b,0,Y'⟩))/\R'=GA.cQ.star (jS b TL)) (post1:=λr R' r' ab=>r'=.r (.int .u64 S)/\∃b,ab=GA.cQ.star (jS b [])) hE rfl rfl rfl (eR.Ql rfl) (λr R' hp=>?_) ⟨_,_,0,rfl,rfl⟩ (λr R' _=>⟨_,_,rfl,0,rfl⟩) gy (λr R' r' ab bd bm=>?_)
 .obtain⟨b,rfl,rfl⟩:=hp
  exact(eR.call ((bL b).n9 .cQ (GA.le.refl _)) rfl func29 rfl p').mono (λr' ab⟨R1,⟨h1,h2⟩,h3⟩=>⟨h1,b,by rw[h3,h2]⟩)
 obtain⟨b,rfl,rfl⟩:=bd;obtain⟨rfl,b',rfl⟩:=bm;refine⟨rfl,rfl,?_⟩;simp only[fy,eD,fS,fe,fX,kr,mJ,lK,xB,xC,ck,fl,dF,gO,iv,Nat.reduceAdd];refine jt (A7 xl ts tb c8 cl sm b9) ?_;show aa _ _ _ _ _ _ _ _;refine aa.ja eZ.drop ?_;refine gF ?_;have cu:B8 BJ:=by rw[<-tj];exact(x8.BM 56).kf 8
 refine aa.bG ?_;refine fG 4 (A3 xl tb bV) ?_;refine GL.YA (eR.Ql (zs:=BD) rfl) rfl rfl p' rfl rfl (λr R' hp=>?_);obtain⟨b,rfl,rfl⟩:=hp;refine⟨rfl,?_⟩;refine az 1 ?_;refine gN ?_;refine aa.dS (Le.refl _) (GA.AE _) ?_;refine aa.bG ?_;have bT:56<=XS.length:=f';refine fG 2 (A3 xl bT tj) ?_;refine sZ (ag a0a) (jS b BD) a0 (GA.qB _) func31 ?_;refine GL.le (GA.Dk _) ?_;refine az 5 ?_;refine gN ?_;refine aa.seq (aE ?_);refine gF ?_;refine aa.seq (aa.bG ?_);refine az 1 ?_;refine gE (ag a0a) (bK b) func32 ?_;refine az 1 ?_;refine gN ?_;refine aa.block ?_;refine aa.loop (ι:={k:Nat // k<=N}×rh) (λp=>(⟨[(2,.ptr 2 0),(3,.ptr 3 0),(4,.ptr 4 0),(5,.ptr 5 0),(6,.ptr 6 0),(8,.r (.pointer (T' ⟨b,0,Y'⟩))),(53,(N:Int)),(54,(p.1.1:Int))],[(2,⟨Z',.c [(jF:Int),(jE:Int),.r (.int .u64 jA),.r (.int .u64 jB),(jM:Int)]⟩),(3,⟨Z',.c [.r (.slice p.2.1 p.2.2.1 p.2.2.2)]⟩),(4,⟨Z',.c [a0a,.ns .u64 [],(0:Int)]⟩),(5,⟨Z',.c [a0a,.ns .u64 [],(0:Int)]⟩),(6,⟨Z',.c [(0:Int)]⟩)]⟩,(jS b (iE (H.drop p.1.1)++RD)).star (kE 47 14 p.1.1 (.slice p.2.1 p.2.2.1 p.2.2.2) (kZ (H.take p.1.1))))) (λp=>N-p.1.1) (⟨0,dU _⟩,Y',0,0) ?_ ?_ ?_
 .exact Le.mk a0b
 .rw[a5];exact GA.Pb
 rintro⟨⟨k,hk⟩,va,vn,vc⟩;dsimp only
 by_cases hlt:k<N
 .have b6:(k:Int)<N:=f'
  have bc:k<H.length:=f';have a7:=YT H k bc;have bn:=YK H k bc;have bF:=hw k bc;obtain⟨h,eh⟩:=nm (H.getD k h0);rw[eh]at a7 bn bF;rw[a7,dH];have bW:B8 (pJ h++(iE (H.drop (k+1))++RD)):=by
   have e1:iE H=iE (H.take k)++iE (H.drop k):=by
    have:H=H.take k++H.drop k:=(xD k H).symm
    conv=>lhs;rw[this]
    unfold iE;rw[zN]
   rw[e1,dH]at ax;have:=ax.kf (iE (H.take k)).length;rwa[jy rfl,a7,dH]at this
  have a6:(ld (od h)).length=14:=by rw[HE];rfl
  have bD:∀c∈ld (od h),c.one=true:=by
   rw[HE];intro c hc;simp only[Cs,FH,or_false]at hc;rcases hc with rfl|rfl|rfl|rfl|rfl|rfl|rfl|rfl|rfl|rfl|rfl|rfl|rfl|rfl<;>rfl
  have br:=abO (b:=b) bF bW;obtain⟨cc,bY⟩:=nm (ld (od h));rw[bY]at bn a6 bD br;refine a9 b6 ?_;refine aa.seq (gT ?_);refine aa.seq (aa.block ?_);refine aa.Qq 4 2 #[.tmp 57] (List.replicate 4 Y') (λ_=>True) [(3,3)] [] [] (L:=[(28,Ro),(30,Rt)]) hE rfl rfl rfl (eR.call (br.n9 (kE 47 14 k (.slice va vn vc) (kZ (H.take k))) (GA.comm _ _)) rfl func33 rfl p') ⟨_,_,_,⟨rfl,rfl⟩,rfl⟩ (λ_ _ _ _=>trivial) (λ_ _ _ _ _ _ _=>trivial) (λi o x u r _ hk=>by rw[b7]at hk;cases hk) (ki ⟨_,rfl⟩) (λr R' hp=>?_);obtain⟨R1,⟨rfl,rfl⟩,rfl⟩:=hp;refine⟨rfl,?_⟩;simp only[fy,eD,fS,fe,xB,xC,dk,ck,fl,dF,gO,iv,Nat.reduceAdd];refine jt a6 ?_;refine GL.le (GA.comm _ _) ?_;refine GL.K9 (t:=33) (e:=47) (s:=14) (by_:=176) (nn:=k) (m:=1) (v:=.slice va vn vc) (nw:=.c cc) (nc:=cc) underlying33 k1 k2 k3 k4 k5 p' rfl rfl rfl p' rfl rfl (λj=>rfl) (by simp only[aN.len];exact a6) p' bD f' (by simp only[maxLen];omega) (λv'=>?_);refine GL.EA (λcn cr cp ch=>?_);subst ch;refine az 1 ?_;refine gN ?_;refine aa.of (T:=ag a0a) ?_;refine aT ?_;exact⟨(⟨k+1,f'⟩,cn,cr,cp),Le.mk a0b,by rw[bn];exact GA.le.refl _,N'⟩
 have b4:k=N:=f';subst b4;have cd:H.take k=H:=gG f';have b0:iE (H.drop k)++RD=RD:=by rw[vB f'];rfl
 rw[cd,b0];have eJ:¬(k:Int)<k:=f';refine a9 eJ ?_;refine aa.seq (gX ?_);refine aa.dS (σ':=⟨[(2,.ptr 2 0),(3,.ptr 3 0),(4,.ptr 4 0),(5,.ptr 5 0),(6,.ptr 6 0),(8,.r (.pointer (T' ⟨b,0,Y'⟩)))],[(2,⟨Z',.c [(jF:Int),(jE:Int),.r (.int .u64 jA),.r (.int .u64 jB),(jM:Int)]⟩),(3,⟨Z',.c [.r (.slice va vn vc)]⟩),(4,⟨Z',.c [a0a,.ns .u64 [],(0:Int)]⟩),(5,⟨Z',.c [a0a,.ns .u64 [],(0:Int)]⟩),(6,⟨Z',.c [(0:Int)]⟩)]⟩) (Le.mk a0b) (GA.comm _ _) ?_;refine aa.bG ?_;refine az 1 ?_;refine sZ (ag a0a) (kE 47 14 k (.slice va vn vc) (kZ H)) (ao b) (GA.le.refl _) func34 ?_;refine az 1 ?_;refine gN ?_;refine aa.bG ?_;refine az 1 ?_;refine sZ (ag a0a) (kE 47 14 k (.slice va vn vc) (kZ H)) (aw b) (GA.le.refl _) func34 ?_;refine az 1 ?_;refine gN ?_;refine aa.dS (Le.refl _) (GA.mono (GA.le.refl _) (abx b [])) ?_;refine aa.seq (aa.bG ?_);refine az 1 ?_;refine GL.rJ rfl rfl rfl p' rfl ?_;refine GL.rE (gi a0a) rfl rfl rfl p' rfl rfl ?_;refine GL.uR (gi a0a) (i:=0) (c:=.ns .u8 []) rfl rfl rfl p' rfl rfl rfl rfl ?_;refine az 2 ?_;refine gN ?_;refine aa.ja eZ.drop ?_;refine gF ?_;refine aa.seq (aa.of (T:=ag a0a) ?_);refine ai.regionF [(2,2),(3,3),(4,4),(5,5),(6,6)] [] [] hE.hT hE.hS hE.hm (HX ⟨_,rfl⟩ ⟨_,rfl⟩ ⟨_,rfl⟩ ⟨_,rfl⟩ ⟨_,rfl⟩) (mw hE a0b ?_);show aa _ _ _ _ _ _ _ _;refine aa.ret ?_;exact dM.of ⟨_,rfl,rfl⟩ (aO.mk a0b rfl)
end
end
section
open Go Go.RowKit Go.Proofs
def qu(A B:Int):Int:=if A<B/\10<B-A then A+1+(B-A)%10 else B
@[push_cast] def adi:Sp where
 kind:=0
 pre
  |[.agg [.r (.int .i64 _),.r (.int .i64 _),.r (.int .u64 A),.r (.int .u64 B),.r (.int .i64 _)],.r (.int .u64 u)]=>(0<=A/\A<18446744073709551616)/\(0<=B/\B<18446744073709551616)/\u=10
  |_=>False
 res
  |[.agg [.r (.int .i64 F),.r (.int .i64 E),.r (.int .u64 A),.r (.int .u64 B),.r (.int .i64 M)],_]=>.agg [(F:Int),(E:Int),.r (.int .u64 A),.r (.int .u64 (qu A B)),(M:Int)]
  |_=>.any
theorem MB:aj a0c 6 adi:=by
 refine sz λargs hp=>?_
 split at hp;rotate_left;cases hp;rename_i F E A B M u;obtain⟨⟨a0,a1⟩,⟨b0,b1⟩,rfl⟩:=hp;have hE:=env dC;obtain⟨C,hC⟩:=nm (qu A B);simp only[hC];refine aB func6 ntmps6 ?_
 by_cases h1:A<B
 .have w1:IntKind.u64.wrap (B-A)=B-A:=by rw[eP];omega
  by_cases h2:10<B-A
  .have w2:IntKind.u64.wrap (A+1)=A+1:=by rw[eP];omega
   have w3:IntKind.u64.wrap (A+1+(B-A)%10)=C:=by
    rw[<-hC];unfold qu;rw[au ⟨h1,h2⟩,eP];omega
   obtain⟨D,hD⟩:=nm (B-A);rw[hD]at w1 w3 h2;have af:0<=D:=f';obtain⟨q,hq⟩:=nm (D%10);rw[hq]at w3;refine ig ?_;refine ai.seq (ai.seq ?_);refine cy (A4 h1 hD w1 h2) ?_;refine ai.eo rfl ?_;refine ai.regionF [(2,2)] [] [(19,0,2),(22,3,2),(24,5,2),(30,11,2)] hE.hT hE.hS hE.hm (ki ⟨_,rfl⟩) (mw hE (A6 hD w1 w2 w3 hq af) ?_);change ai _ _ _ (.seq _ _) _ _;refine aK ?_;exact pL
  .have ab:C=B:=by rw[<-hC];unfold qu;rw[aq (λh=>h2 h.2)]
   subst ab;refine ig ?_;refine ai.seq (ai.seq ?_);refine cy (A3 h1 w1 h2) ?_;refine aF ?_;refine aK ?_;exact pL
 .have ab:C=B:=by rw[<-hC];unfold qu;rw[aq (λh=>h1 h.1)]
  subst ab;refine ig ?_;refine ai.seq (ai.seq ?_);refine cy h1 ?_;refine aF ?_;refine aK ?_;exact pL
@[push_cast] def aeD:Sp where
 kind:=0
 pre
  |[.agg [.r (.bool b),.ns .u64 x,.r (.bool c),.ns .u64 y,.r (.int .i64 q)],.agg [.r (.bool b'),.ns .u64 x',.r (.bool c'),.ns .u64 y',.r (.int .i64 q')]]=>(b=b'/\x=x'/\c=c'/\y=y'/\q=q')/\Lm x/\Lm y
  |_=>False
 res _:=.r (.bool Z')
theorem acf:aj a0c 56 aeD:=by
 refine sz λargs hp=>?_
 split at hp;rotate_left;cases hp;rename_i b x c y q b' x' c' y' q';obtain⟨⟨rfl,rfl,rfl,rfl,rfl⟩,hx,hy⟩:=hp;have hE:=di agY;refine aB func56 ntmps56 ?_;refine an (A2 hx hy) ?_;refine aO.mk a0b ?_;simp
end
section
open Go Go.RowKit Go.Proofs
@[push_cast] def acX:Sp where
 kind:=0
 pre
  |[.agg [.r (.bool _),.ns .u64 x,.r (.int .i64 e)],.r (.int .i64 M),.r (.bool _)]=>(Lm x/\x.length<600/\-2000<=e/\e<=2000)/\0<=M/\M<=1000
  |_=>False
 res
  |[.agg [.r (.bool b),.ns .u64 x,.r (.int .i64 e)],.r (.int .i64 M),.r (.bool ex)]=>.r (.bool (ur (zv b x,e) M ex))
  |_=>.any
theorem LA:aj a0c 15 acX:=by
 refine sz λargs hp=>?_
 split at hp;rotate_left;cases hp;rename_i b x e M ex;obtain⟨⟨hx,ao,e0,e1⟩,M0,M1⟩:=hp;have hE:=nZ Dc V3 yi qN;have h1:zv a0a (dg (Int.natAbs 1))=1:=cI 1;have f3:(dg (Int.natAbs 1)).length<=1:=yh p';have f1:=gY (n:=Int.natAbs 1) f';have m1:ct 1=1:=GY rfl;have m2:cH 1 (0-M)=0-M:=by unfold cH;rw[show tz 1=0 from rfl];simp
 have c1:ce 1 (0-M)=0-M:=rfl;refine aB func15 ntmps15 ?_;cases ex with
 |false=>
  refine an (A7 h1 f1 f3 m1 m2 hx ao) ?_;exact pL
 |true=>
  have m3:cH 1 (0-M-32)=0-M-32:=by unfold cH;rw[show tz 1=0 from rfl];simp
  have c2:ce 1 (0-M-32)=0-M-32:=rfl;have a4:min (0-M) (0-M-32)=0-M-32:=f';have a1:0-M-(0-M-32)=32:=f';have a6:sh 32=32:=p';have a3:0-M-32-(0-M-32)=0:=f';have a5:sh 0=0:=p';have a0:ur (zv b x,e) M Z'=decide (mg (zv b x,e) (ct 4294967297,cH 4294967297 (0-M-32))<0):=rfl;have ab:cH 4294967297 (0-M-32)=0-M-32:=by unfold cH;rw[show tz 4294967297=0 from rfl];simp
  have af:ct 4294967297=4294967297:=GY rfl;have ay:zv a0a (dg (Int.natAbs 4294967297))=4294967297:=cI 4294967297;have ax:(dg (Int.natAbs 4294967297)).length<=1:=yh p';have aw:=gY (n:=Int.natAbs 4294967297) f';refine ig ?_;refine gl (A5 h1 f1 f3 m1 m2) ?_;refine ai.seq (ai.seq ?_);refine aT ?_;refine ai.eo rfl ?_;refine ai.regionF [(7,7)] [] [] hE.hT hE.hS hE.hm (ki ⟨_,rfl⟩) (mw hE (JP h1 f1 f3 m1 m2 m3 c1 c2 a4 a1 a6 a3 a5 af ab) ?_);change ai _ _ _ (.seq _ _) _ _;rw[a0,af,ab];refine an (A5 ay aw ax hx ao) ?_;exact pL
@[push_cast] def adV:Sp where
 kind:=0
 pre
  |[.agg [.r (.bool b1),.ns .u64 x1,.r (.bool b2),.ns .u64 x2,.r (.int .i64 q)],.agg [.r (.bool b3),.ns .u64 x3,.r (.bool b4),.ns .u64 x4,.r (.int .i64 p)],.r (.int .i64 k)]=>
   ((Lm x1/\x1.length<60)/\(Lm x2/\x2.length<60)/\Lm x3/\Lm x4)/\(0<=q/\q<=700)/\p=700/\k=0/\zv b2 x2-zv b1 x1<=2/\zv b1 x1*2^(700-q).toNat<=zv b4 x4/\zv b3 x3<=zv b2 x2*2^(700-q).toNat
  |_=>False
 res _:=.r (.bool Z')
theorem YW:aj a0c 17 adV:=by
 refine sz λargs hp=>?_
 split at hp;rotate_left;cases hp;rename_i b1 x1 b2 x2 q b3 x3 b4 x4 p k;obtain⟨⟨⟨l1,k1⟩,⟨l2,k2⟩,l3,l4⟩,⟨q0,q1⟩,rfl,rfl,hw,h1,h2⟩:=hp;have hE:=nZ zD qN tR oY;have ab:=dN (b:=b1) l1 (k:=60) f';have af:=dN (b:=b2) l2 (k:=60) f';have ao:sh (700-q)=(700-q).toNat:=ia f' f';rw[<-ao]at h1 h2;have ay:sh (700-q)<=700:=by rw[ao];omega
 have c1:=((ab.shl (sh (700-q))).lz f');have c2:=((af.shl (sh (700-q))).lz f');have c3:=((af.sub ab).lz f');have h4:zv a0a (dg (Int.natAbs 4))=4:=cI 4;have f4:(dg (Int.natAbs 4)).length<=1:=yh p';have aw:=gY (n:=Int.natAbs 4) f';have m1:dc (zv b2 x2-zv b1 x1) 4=-1:=au f';have m2:dc (zv b1 x1*2^sh (700-q)) (zv b4 x4)<=0:=by unfold dc;repeat' split<;>omega
 have m3:dc (zv b3 x3) (zv b2 x2*2^sh (700-q))<=0:=by unfold dc;repeat' split<;>omega
 have z1:=cI (zv b2 x2-zv b1 x1);have z2:=cI (zv b1 x1*2^sh (700-q));have z3:=cI (zv b2 x2*2^sh (700-q));obtain⟨D,hD⟩:=nm (zv b2 x2-zv b1 x1);obtain⟨X,hX⟩:=nm (zv b1 x1*2^sh (700-q));obtain⟨Y,hY⟩:=nm (zv b2 x2*2^sh (700-q));rw[hD]at c3 m1 z1;rw[hX]at c1 m2 z2;rw[hY]at c2 m3 z3;obtain⟨u,hu⟩:=nm (dc X (zv b4 x4));obtain⟨v,hv⟩:=nm (dc (zv b3 x3) Y);rw[hu]at m2;rw[hv]at m3;have ax:0<=700-q:=f';clear h1 h2 hw ab af ao ay;refine aB func17 ntmps17 ?_;refine ig ?_;refine ig ?_;refine gl (A8 hD c3.1 c3.2 h4 f4 aw m1 z1) ?_;refine aH [] [] [] (SJ ax hX hY c1.1 c1.2 c2.1 c2.2 z2 z3 hu hv m2 m3) ?_;refine aK ?_;exact pL
end
section
open Go Go.RowKit Go.Proofs
section
variable {j:JN}{T:Nat}
theorem GA.Xa(A:GA):GA.cQ.star A=A:=GA.eq (GA.AE A) (GA.vU A)
structure KJ(U:Nat)(F0:Int->List Int)where
 k:Nat
 hk:k<=U
 l1:List Bool
 f:Int->List Int
 hl:l1.length=U
 ho:(opens l1 U).length=U-k
 fd:FD f
 low:∀i,i<6->f i=F0 i
theorem Ba(h:nT j.F j.E j.A j.B j.M)(h2:JT j.F j.E j.A j.B j.M):j.ok:=by
 obtain⟨q1,q2,q3,q4,q5,q6⟩:=h;obtain⟨r1,r2,r3,r4,r5⟩:=h2;unfold JN.ok JB;omega
theorem wu(h:nT j.F j.E j.A j.B j.M)(h2:JT j.F j.E j.A j.B j.M)(hT:j.B-j.A=T):qj (jP j.E j.A) T:=λk hk=>by
 obtain⟨q1,q2,q3,q4,q5,q6⟩:=h;obtain⟨r1,r2,r3,r4,r5⟩:=h2;rw[<-NW];exact Bb q2.1 q2.2 f' f'
theorem II{d:Nat}{n:Int}(ab:JT j.F j.E j.A j.B j.M)(a1:JV j.F j.E j.A j.B j.M)(hT:j.B-j.A=T)(bm:0<T)(a3:T<=10)(hn:(n=20/\T=1)\/n=200):
 aA a0c 8 [d,.agg j.cs] (aZ d n (λ_=>Zb) 0) (λr R=>∃v R1,r=.r v/\R=GA.star R1 (dE v (gn j (dj j T)))):=by
 have af:=a1.1;have a5:=Ba af ab;have bF:=wu af ab hT;obtain⟨q1,q2,q3,q4,q5,q6⟩:=id af;obtain⟨r1,r2,r3,r4,r5⟩:=id ab;have a7:nG j.A j.B=true:=fu q3;obtain⟨U,hU⟩:∃U:Nat,(j.B-j.A+4-1)/4=(U:Int):=⟨((j.B-j.A+4-1)/4).toNat,f'⟩;have bw:0<U:=f';have bK:U<=3:=f';have bL:T<=4*U:=f';have bM:4*U<=T+3:=f';have aw:n<=4096:=f';have bE:6+(2*(U:Int)+2)<n:=f';have bd:∀k,k<(dj j T).length->HW ((dj j T).getD k h0):=AW bF f' f';have bH:(dj j T).length<=T:=vY _ _ _ _;have bN:=Al (j:=j) bd f';have bs:(gn j (dj j T)).length=(kv j (dj j T)).length+8:=by unfold gn;rw[aV,cX]
 have bb:=Mj j (dj j T);obtain⟨s1,s2,s3,s4⟩:=afo (j:=j) (U:=U) (T:=T) f' a3;obtain⟨ST,bu⟩:=nm (lP j (List.replicate U a0a) (List.replicate T a0a));have ao:=Hf.save s1 s4;have ax:=afq (j:=j) (d:=d) (n:=n) (f:=λ_=>Zb) (c:=0) ab a1 hT bm a3 hU bE aw p' xi.1 xi.1 (λk=>(Hf k).1) (λk=>Hf.b8 k) xi.2.1 xi.2.1 xi.2.2 xi.2.2 a5 bw f' (B8.of s4 f') (λk=>(ao k).1) (λk=>ao.b8 k);rw[bu]at s1 s2 s3 s4 ao ax;obtain⟨F0,bc⟩:=nm (mP (λ_=>Zb) ST);rw[bc]at ao ax;obtain⟨C,hC⟩:=nm (gn j (dj j T));rw[hC]at bs bb|-;obtain⟨at0,a4⟩:∃a:Int,6+(2*(U:Int)+2)=a:=⟨_,rfl⟩;have bx:((C.length:Int)+512-1)/512<=n-at0:=f';have a0:((0:Int)!=0)=false:=rfl;have hE:=di EP;unfold JN.cs at ax|-;refine aA.body hE func8 ntmps8 results8 (λen=>?_);refine aE ?_;refine aa.bG ?_;refine az 2 ?_;refine gC (ag a0a) ax func23 (λr R' hp=>?_);obtain⟨bf,g1,g2,bl,bp,rfl,rfl⟩:=hp;refine⟨rfl,?_⟩;refine az 5 ?_;refine gN ?_;refine aa.seq (aa.seq (aa.region ?_));refine az 1 ?_;refine GL.Qb (ty:=62) I' rfl rfl rfl p' rfl ?_;refine fG 4 a0 ?_;refine gN ?_;refine gF ?_;refine aa.seq (aE ?_);refine aa.block ?_;refine aa.loop (ι:=KJ U F0 ⊕ KJ U F0) (λp=>match p with
  |.inl p=>(⟨[(0,d),(3,.ptr 3 0),(5,bf),(7,(p.k:Int))],[(3,⟨Z',.c [.r (.int .i64 j.F),.r (.int .i64 j.E),.r (.int .u64 j.A),.r (.int .u64 j.B),.r (.int .i64 j.M)]⟩)]⟩,
   rD (GA.cQ.star (.aJ bp (cZ d 4 6 1 0))) j d bf bl g1 g2 p.l1 (kg (nA j) T p.l1) n p.f 0 (6+2*(p.k:Int)) at0 (p.k:Int) a0a (.pointer (T' ⟨bp,0,Y'⟩)))
  |.inr p=>(⟨[(0,d),(3,.ptr 3 0),(5,bf),(7,((U:Int)+1:Int))],[(3,⟨Z',.c [.r (.int .i64 j.F),.r (.int .i64 j.E),.r (.int .u64 j.A),.r (.int .u64 j.B),.r (.int .i64 j.M)]⟩)]⟩,
   rD (GA.cQ.star (.aJ bp (cZ d 6 6 1 1))) j d bf bl g1 g2 p.l1 (kg (nA j) T p.l1) n (gx (mR p.f at0 C ((C.length+511)/512)) 4 6 1 0 (aI (C.length:Int) 8)) 0 (6+2*(U:Int)) at0 (U:Int) Z' (.pointer (T' ⟨bp,0,Y'⟩))))
  (λp=>match p with|.inl p=>U+1-p.k|.inr _=>0) (.inl ⟨0,dU _,List.replicate U a0a,F0,pe ..,Pt U U (aM _),ao,λ_ _=>rfl⟩) ?_ ?_ ?_
 .exact Le.mk a0b
 .refine GA.le_eq ?_
  have z1:(6:Int)+2*((0:Nat):Int)=6:=rfl;have z2:((0:Nat):Int)=0:=rfl;dsimp only;rw[YH,GA.Xa,z1,z2,<-a4];unfold rD;rw[pe,pe]
  ac_rfl
 rintro(⟨k,hk,l1,f,hl,ho,fd,low⟩|⟨k,hk,l1,f,hl,ho,fd,low⟩)
 .dsimp only
  have bD:(k:Int)<=U:=f';refine aa.seq (a9 (A4 ab a7 hU bD) ?_);refine gT ?_;refine aa.seq (aa.block (aa.bG ?_));refine az 2 ?_;have a6:(kg (nA j) T l1).length=T:=AS _ _ _
  by_cases hlt:k<U
  .refine GL.call (ag a0a) (afu (U:=U) aw f' f' f' f' f' f' ab af hU f' hl (by rw[a6];omega) (by rw[a6];omega) f' f' f' (λi hi=>⟨Bb q2.1 q2.2 f' f',by
    have e:jP j.E (j.A+i*4)+min (j.B-(j.A+i*4)) 4-1=jP j.E (j.A+i*4+min (j.B-(j.A+i*4)) 4-1):=by unfold jP;omega
    rw[e];exact Bb q2.1 q2.2 f' f'⟩)) rfl rfl func25 rfl p' rfl rfl (λt ht=>by cases ht;decide) (λr R' hp=>?_)
   obtain⟨i,x,HL,⟨hi,bB⟩,hx,bt,rfl,rfl⟩:=hp;refine⟨rfl,?_⟩;refine az 5 ?_;refine gN ?_;refine a9 a0 ?_;refine gF ?_;refine aa.of (T:=ag a0a) ?_;refine aT ?_;have bO:=Pw l1 i f' bB U hi;refine⟨.inl ⟨k+1,f',l1.set i Z',gx f (6+2*(k:Int)) at0 1 (k:Int) [(i:Int),0,x],by rw[jC];exact hl,f',fd.app J' (λy hy=>?_),λa ha=>?_⟩,Le.mk a0b,GA.le_eq ?_,N'⟩
   .simp only[Cs,FH,or_false]at hy
    rcases hy with rfl|rfl|rfl<;>omega
   .rw[T3 f']
    exact low a ha
   .dsimp only
    rw[bt,YJ hT f' f',show(6:Int)+2*((k+1:Nat):Int)=6+2*(k:Int)+2 from f',show((k+1:Nat):Int)=(k:Int)+1 from f']
  .obtain rfl:k=U:=f'
   have bn:=Ps l1 k f';have bz:=YG (nA j) T k l1 f' bn;refine gE (ag a0a) (afs (U:=k) a6 a3 bm bz hT ab af a1 a5 aw f' bd (at0:=at0) (by rw[hU];exact a4) (by rw[hC];exact bx) f' hl bn) func25 ?_;refine az 5 ?_;refine gN ?_;refine a9 a0 ?_;refine gF ?_;refine aa.of (T:=ag a0a) ?_;refine aT ?_;refine⟨.inr ⟨k,hk,l1,f,hl,ho,fd,low⟩,Le.mk a0b,GA.le_eq ?_,N'⟩;dsimp only;rw[hC]
 .dsimp only
  have bA:¬(U:Int)+1<=U:=f';have cd:=Vk (g:=f) (at0:=at0) (C:=C) (ST:=ST) (λi hi=>by rw[low i hi,<-bc]) f' s1 f';have ay:FD (gx (mR f at0 C ((C.length+511)/512)) 4 6 1 0 (aI (C.length:Int) 8)):=(fd.pieces bb _).app (by rw[cX];decide) (uM _ _);obtain⟨F,hF⟩:=nm (gx (mR f at0 C ((C.length+511)/512)) 4 6 1 0 (aI (C.length:Int) 8));rw[hF]at cd ay|-;have br:=Vl (j:=j) (d:=d) (N:=C.length) (m:=ST.length) (n:=n) (at0:=at0) (f:=F) (c:=0) (XS:=[]) a5 ab a7 f' aw p' cd.z0 cd.z2 cd.m s1 s2 cd.e (by rw[cd.st];exact s3) (λk=>(ay k).1) (λk=>ay.b8 k) cd.m4 cd.e4 cd.n (by rw[hU];exact a4) f' f';rw[cd.c]at br;refine aa.seq (a9 (A4 ab a7 hU bA) ?_);refine gX ?_;refine aa.bG ?_;refine az 1 ?_;refine pD (ag a0a) ((((GA.cQ.star (.aJ bp (cZ d 6 6 1 1))).star ((cG g2 (kg (nA j) T l1)).star (cG g1 l1))).star (.aJ bl (cZ d (6+2*(U:Int)) at0 1 (U:Int)))).star (.aJ bf (eG j d (bI g1 l1.length) (bI g2 (kg (nA j) T l1).length) Z' a0a 1 (.pointer (T' ⟨bl,0,Y'⟩)) (.pointer (T' ⟨bp,0,Y'⟩))))) br (GA.le_eq (by unfold rD;ac_rfl)) func26 (λr R' hp=>?_);obtain⟨v,rfl,rfl⟩:=hp;refine⟨rfl,?_⟩;refine az 5 ?_;refine gN ?_;refine aE ?_;refine aa.ret ?_;exact dM.of ⟨v,_,rfl,(GA.EN _ _ _).symm⟩ (aO.mk a0b rfl)
end
end
section
open Go Go.RowKit Go.Proofs
section
variable {p:Int}{r:LK}
theorem NJ{f m:Nat}(hr:aX f m (pY p)=r)(hh:r.gV=Z'):aP f m p 1=[(p,r)]:=by
 have e:p+((0:Nat):Int)=p:=vt p;show[]++(if(aX f m (pY (p+((0:Nat):Int)))).gV=Z' then[(p+((0:Nat):Int),aX f m (pY (p+((0:Nat):Int))))]else[])=_;rw[e,hr,au hh]
 rfl
theorem Vm{j:JN}(af:JT j.F j.E j.A j.B j.M)(a4:JV j.F j.E j.A j.B j.M)(hT:j.B-j.A=(1:Nat))(hp:jP j.E j.A=p)(hr:aX j.F.toNat j.M.toNat (pY p)=r)(hh:r.gV=Z'):
 aA a0c 20 [.ns .u8 (gn j [(p,r)])] .cQ (λv _=>v=.r (.int .i64 0)):=by
 have a3:=a4.1;have bE:=Ba a3 af;have ao:=wu a3 af hT;rw[hp]at ao;obtain⟨q1,q2,q3,q4,q5,q6⟩:=id a3;obtain⟨r1,r2,r3,r4,r5⟩:=id af;have hH:=NJ hr hh;have hw:=AW (f:=j.F.toNat) (M:=j.M.toNat) ao f' f';have hd:=Dy (f:=j.F.toNat) (M:=j.M.toNat) ao f' f';have hb:=AU (f:=j.F.toNat) (M:=j.M.toNat) ao f' f';rw[hH]at hw hd hb;have bR:HB (p,r):=hb 0 J';have a5:PD p:=by have:=ao 0 p';rwa[show p+((0:Nat):Int)=p from vt p]at this
 have bn:dx [(p,r)]=(eO (p,r),fi (p,r)):=rfl;have ab:=Eu bE (H:=[(p,r)]) (N:=1) rfl p' hw hd.1 hd.2;have bL:uH (cE [(p,r)])=[(p,r)]:=AX _;obtain⟨_,y2,y1⟩:=pN a5;have a6:=yL (f:=j.F.toNat) (m:=j.M.toNat) y1 y2 f' f';rw[hr]at a6;have a7:=(a6.uq.1.jr p').1;have bb:=(a6.uq.2.jr p').1;rw[bn]at ab hd;obtain⟨XS,bw⟩:=nm (gn j [(p,r)]);rw[bw]at ab|-;obtain⟨CA,bc⟩:=nm (kZ [(p,r)]);rw[bc]at ab;have hE:=Di ET yU look_ok acf LP Dc;rcases j with⟨jF,jE,jA,jB,jM⟩
 unfold JN.cs at ab;dsimp only at af a4 ab hr hp hT q1 q2 q3 q4 q5 q6 r1 r2 r3 r4 r5;have bt:(jE+1023)*4503599627370496+jA=p:=hp;have bK:(jE+1023)*4503599627370496+(jB-1)=p:=by rw[<-bt];omega
 rcases r with⟨lo,hi,q,k,e,s,le,mo,hd⟩
 subst hh;have ay:((0:Int)!=0)=false:=rfl;have bF:(k !=k)=false:=J';have bM:¬p<p:=zH p;have bO:IntKind.u64.wrap (p+1)=p+1:=by rw[eP];unfold PD at a5;omega
 dsimp only at a7 bb;obtain⟨g1,aw⟩:=nm (dg lo.natAbs);obtain⟨g2,ax⟩:=nm (dg hi.natAbs);obtain⟨c1,a0⟩:=nm (decide (lo<0));obtain⟨c2,a1⟩:=nm (decide (hi<0));rw[aw]at a7;rw[ax]at bb;have bu:CA=[.r (.int .u64 p),.r (.bool c1),.ns .u64 g1,.r (.bool c2),.ns .u64 g2,.r (.int .i64 q),.r (.int .i64 k),.r (.int .i64 0),.r (.int .i64 0),.r (.bool a0a),.ns .u64 (dg (Int.natAbs 0)),.r (.bool a0a),.ns .u64 (dg (Int.natAbs 0)),.r (.bool a0a)]:=by
  rw[<-bc,<-aw,<-ax,<-a0,<-a1]
  rfl
 refine aA.sJ hE func20 ntmps20 results20 (λen bN=>?_);have bD:∀b,¬en.fp b:=bN;refine aE ?_;refine aa.seq (aa.region ?_);refine az 1 ?_;refine gC (ag a0a) ab func10 (λr R' hp=>?_);obtain⟨v,rfl,rfl⟩:=hp;refine⟨rfl,?_⟩;refine az 14 ?_;refine gN ?_;refine aa.dS (Le.refl _) (GA.vU _) ?_;refine aa.EA p' (λb cap hv=>?_);subst hv;refine aa.ja (eZ.ab0 30 4 p' p' (λw fp X _ b hb=>absurd hb (bD b)) rfl (gr rfl)) ?_;rw[bu];refine aa.seq (aa.block (a9 ay ?_));refine aa.dz rfl ?_;refine a9 (A3 af a4 ay) ?_;refine gF ?_;refine aa.seq (aa.of (T:=ag a0a) ?_);refine ai.regionF [(3,3)] [] [(33,1,3),(37,5,3)] hE.hT hE.hS hE.hm (ki ⟨_,rfl⟩) (mw hE (A2 bt bK) ?_);show aa _ _ _ _ _ _ _ _;refine aa.seq (aE ?_);refine aa.block ?_;refine aa.loop (ι:=Bool) (λd=>(⟨[(3,.ptr 3 0),(4,.os 30 14 0 1),(5,.ptr 5 0),(6,.ptr 6 0),(8,.r (.int .u64 (if d then p+1 else p))),(9,.r (.int .u64 p)),(41,.os 30 14 0 1),(42,(1:Int)),(43,(if d then 1 else 0:Int))],
  [(
   3,⟨Z',.c [(jF:Int),(jE:Int),.r (.int .u64 jA),.r (.int .u64 jB),(jM:Int)]⟩),(5,⟨Z',.c [decide ((eO (p,⟨lo,hi,q,k,e,s,le,mo,Z'⟩)).1<0),dg (eO (p,⟨lo,hi,q,k,e,s,le,mo,Z'⟩)).1.natAbs,.r (.int .i64 (eO (p,⟨lo,hi,q,k,e,s,le,mo,Z'⟩)).2)]⟩),(6,⟨Z',.c [decide ((fi (p,⟨lo,hi,q,k,e,s,le,mo,Z'⟩)).1<0),dg (fi (p,⟨lo,hi,q,k,e,s,le,mo,Z'⟩)).1.natAbs,.r (.int .i64 (fi (p,⟨lo,hi,q,k,e,s,le,mo,Z'⟩)).2)]⟩),
   (30,⟨Z',.c (if d then[.r (.int .u64 p),c1,g1,c2,g2,(q:Int),(k:Int),(e:Int),(s:Int),decide (le<0),dg le.natAbs,decide (mo<0),dg mo.natAbs,Z']else[.r (.int .u64 p),c1,g1,c2,g2,(q:Int),(k:Int),(0:Int),(0:Int),a0a,dg (Int.natAbs 0),a0a,dg (Int.natAbs 0),a0a])⟩)]⟩,GA.cQ)) (λd=>if d then 0 else 1) a0a ?_ ?_ ?_
 .exact Le.mk a0b
 .exact GA.le.refl _
 intro d;cases d with
 |false=>
  dsimp only;refine aE ?_;refine aa.seq (gT ?_);refine aa.seq (aa.block (aa.of (T:=ag a0a) ?_));refine ig ?_;refine ai.seq (ai.seq ?_);refine cy bM ?_;refine aF ?_;refine gl (vm q1.1 q1.2 a5 q5 q6 hr aw ax a0 a1) ?_;refine ai.seq (ai.seq ?_);refine cy (A4 ay bF a7 bb) ?_;refine aF ?_;refine ai.regionF [(12,12),(11,11),(4,30)] [] [(95,3,11),(92,0,30),(98,6,30),(99,7,30)] hE.hT hE.hS hE.hm (Ou (.inl ⟨_,rfl⟩) (.inl ⟨_,rfl⟩) (.inr (.inl ⟨_,_,_,rfl⟩))) (mw hE bO ?_);show aa _ _ _ _ _ _ _ _;refine aa.of (T:=ag a0a) ?_;refine aT ?_;exact⟨Z',Le.mk a0b,GA.le.refl _,p'⟩
 |true=>
  dsimp only;have bH:([.r (.int .u64 p),c1,g1,c2,g2,(q:Int),(k:Int),(e:Int),(s:Int),decide (le<0),dg le.natAbs,decide (mo<0),dg mo.natAbs,Z']:List AV)=cE [(p,⟨lo,hi,q,k,e,s,le,mo,Z'⟩)]:=by
   rw[<-aw,<-ax,<-a0,<-a1]
   rfl
  have bs:(cE [(p,(⟨lo,hi,q,k,e,s,le,mo,Z'⟩:LK))]).length=14:=rfl;refine aE ?_;refine aa.seq (gX ?_);rw[bH];obtain⟨C,hC⟩:=nm (cE [(p,(⟨lo,hi,q,k,e,s,le,mo,Z'⟩:LK))]);have bA:∃H':List (Int×LK),C=cE H'/\1=H'.length/\True/\∀k,k<H'.length->HB (H'.getD k h0):=⟨_,hC.symm,rfl,a0b,hb⟩;have bB:∃H':List (Int×LK),C=cE H'/\1=H'.length/\∀k,k<H'.length->HB (H'.getD k h0):=⟨_,hC.symm,rfl,hb⟩;have br:dx (uH C)=(eO (p,⟨lo,hi,q,k,e,s,le,mo,Z'⟩),fi (p,⟨lo,hi,q,k,e,s,le,mo,Z'⟩)):=by rw[<-hC,bL,bn]
  rw[hC]at bs|-;obtain⟨D1,bd⟩:=nm (eO (p,⟨lo,hi,q,k,e,s,le,mo,Z'⟩));obtain⟨D2,bm⟩:=nm (fi (p,⟨lo,hi,q,k,e,s,le,mo,Z'⟩));rw[bd,bm]at br hd;rw[bd,bm];obtain⟨z1,e1⟩:=D1;obtain⟨z2,e2⟩:=D2;obtain⟨⟨x1,⟨x2,x3⟩,_⟩,⟨bP,⟨bQ,y3⟩,_⟩⟩:=hd;dsimp only at x1 x2 x3 bP bQ y3|-;have m1:=gY (n:=z1.natAbs) f';have m2:=gY (n:=z2.natAbs) f';have v1:=cI z1;have v2:=cI z2;obtain⟨Z1,bx⟩:=nm (z1*2^sh (ce z1 e1-min (ce z1 e1) (ce z1 e1)));obtain⟨Z2,bz⟩:=nm (z2*2^sh (ce z2 e2-min (ce z2 e2) (ce z2 e2)));have k1:dc Z1 Z1=0:=by unfold dc;rw[aq (zH _),aq (zH _)]
  have k2:dc Z2 Z2=0:=by unfold dc;rw[aq (zH _),aq (zH _)]
  refine aa.of (T:=ag a0a) ?_;refine ai.seq (ai.seq ?_);refine cy (A4 bs bA bB br) ?_;refine gl (A9 m1 m2 v1 v2 bx bz k1 k2 ay) ?_;refine aF ?_;refine ig ?_;refine ai.ret ?_;exact dM.of rfl (aO.mk a0b rfl)
end
end
theorem agy:(aX 1 9 (pY 4611686018427387904)).gV=true:=I'
theorem Sc:tD 1 1 9 0=true:=I'
section
open Go Go.RowKit Go.Proofs
def jW:JN:=⟨1,1,0,1,9⟩
theorem Sb:aA a0c 5 [] .cQ (λr _=>r=.r (.bool Z')):=by
 obtain⟨r,hr⟩:=nm (aX 1 9 (pY 4611686018427387904));have hh:r.gV=true:=by rw[<-hr];exact agy
 have af:JT jW.F jW.E jW.A jW.B jW.M:=by unfold JT jW;decide
 have aw:nT jW.F jW.E jW.A jW.B jW.M:=by unfold nT jW;decide
 have ay:JV jW.F jW.E jW.A jW.B jW.M:=⟨aw,Sc,Sc⟩;have a5:=Ba aw af;have a3:qj 4611686018427387904 1:=wu (j:=jW) (T:=1) aw af rfl;have hH:=NJ hr hh;have hw:=AW (f:=1) (M:=9) a3 p' p';have hd:=Dy (f:=1) (M:=9) a3 p' p';rw[hH]at hw hd;have a4:dj jW 1=[(4611686018427387904,r)]:=hH;have ab:∀d,aA a0c 8 _ _ _:=λd=>II (j:=jW) (d:=d) (n:=20) (T:=1) af ay rfl p' p' (.inl ⟨rfl,rfl⟩)
 simp only[a4]at ab;have a0:=Vm (j:=jW) af ay rfl (by rfl) hr hh;have ao:=Eu a5 (H:=[((4611686018427387904:Int),r)]) (N:=1) rfl p' hw hd.1 hd.2;obtain⟨C,hC⟩:=nm (gn jW [(4611686018427387904,r)]);rw[hC]at a0 ao;simp only[hC]at ab;unfold JN.cs jW at ab ao;dsimp only at ab ao;have ax:((0:Int)==0)=true:=rfl;have hE:=env dC;refine aA.sJ hE func5 ntmps5 results5 (λen a6=>?_);have a1:∀b,¬en.fp b:=a6;refine aE ?_;refine aa.bG ?_;refine gC (ag a0a) (GJ 20 p' p') func9 (λr R' hp=>?_);obtain⟨d,rfl,rfl⟩:=hp;refine⟨rfl,?_⟩;refine az 1 ?_;refine gN ?_;refine aa.seq (aa.seq (aa.region ?_));refine az 1 ?_;refine GL.Qb (ty:=31) I' rfl rfl rfl p' rfl ?_;refine gN ?_;refine gF ?_;refine aa.bG ?_;refine az 2 ?_;refine gC (ag a0a) (ab d) func8 (λr R' hp=>?_);obtain⟨v,R1,rfl,rfl⟩:=hp;refine⟨rfl,?_⟩;refine az 1 ?_;refine gN ?_;refine aa.ja (eZ.th (t:=2) a1 rfl p') ?_;refine aa.bG ?_;refine az 1 ?_;refine pD (ag a0a) R1 ao (GA.qB _) func10 (λr R' hp=>?_);obtain⟨v2,rfl,rfl⟩:=hp;refine⟨rfl,?_⟩;refine az 14 ?_;refine gN ?_;refine aa.ja (eZ.Ht (t:=4) (r:=.sl 14 1 (kZ [(4611686018427387904,r)])) (λw fp X _ b hb=>absurd hb (a1 b)) (λw fp X h=>IV w fp X h) rfl p' rfl) ?_;have hl:(kZ [((4611686018427387904:Int),r)]).length=14:=rfl;refine aa.bG ?_;refine fG 9 (A2 ax hl) ?_;refine GL.guarded rfl ?_;refine pD (ag a0a) R1 a0 (GA.qB _) func20 (λr R' hp=>?_);obtain rfl:=hp;refine⟨rfl,?_⟩;refine fG 3 ax ?_;refine gN ?_;refine aa.ret ?_;exact dM.of rfl (aO.mk a0b rfl)
theorem MA{F E A B M:Int}(ab:JT F E A B M):JT F E A (qu A B) M/\(nT F E A (qu A B) M->qu A B-A<=10):=by
 obtain⟨r1,r2,r3,r4,r5⟩:=ab;unfold qu;split
 .rename_i h
  exact⟨⟨r1,r2,r3,f',r5⟩,λ_=>f'⟩
 .rename_i h
  exact⟨⟨r1,r2,r3,r4,r5⟩,λhJ=>by have:=hJ.2.2.1;omega⟩
end
section
open Go Go.RowKit
theorem ah4{P:Program}{f:FuncId}{fn:Func}{s:ChangeSpec}{c:OpenClaim}(k0:(c.wf (OpenSpec.ofChange s))=Z')(k1:(laidOutB P)=Z')(k2:(mapsRowed P)=Z')(k3:(fn.params.all (P.readableRec ·))=Z')(k4:(namedTie P c.named s.vars)=Z')(k5:((c.stops==[]))=Z')(k6:((P.stops==[]))=Z')(k7:((c.knobs==[]))=Z')(k8:((P.stopKnobs==[]))=Z')(k9:((c.inPlace==P.inPlace f))=Z')(ab:((c.unfollowed==P.unfollowed f))=Z')(af:((c.recurses==P.recurses f))=Z')(ao:((c.named==P.varsNamed f))=Z')(aw:((c.maps==(fn.params.toList++s.plain.varTypes P).any (P.mapsRec ·)))=Z')(ax:((c.ifaces==(fn.params.toList++s.plain.varTypes P).any (P.ifacesRec ·)))=Z')(ay:((c.mapsOut==P.mapsAmong fn.resultTypes.toList))=Z')(a0:((c.loops==(fn.params.toList++s.plain.varTypes P).any (P.loopsFrom ·)))=Z')(a1:((c.wideKeys==(fn.params.toList++s.plain.varTypes P++fn.resultTypes.toList).any (P.wideKeysFrom ·)))=Z')(a3:(s.vars.all (P.varReadable ·))=Z')(a4:(fn.resultTypes.all (λt=>P.readableRec t&&decide (t<P.types.size)))=Z')(a5:((c.ifacesOut==fn.resultTypes.toList.any (P.ifacesRec ·)))=Z')(a6:((c.loopsOut==fn.resultTypes.toList.any (P.loopsFrom ·)))=Z')(a7:((c.plainKeys==P.plainKeys))=Z')(bb:(c.shortTexts.isNone)=Z')(bc:(P.stopsHeard)=Z')(bd:(P.mayEnter)=Z')(bm:((c.lifted==P.liftsFinal))=Z')(bn:((P.make==T' c.make))=Z')(br:((c.kinds==(if c.domain.isEmpty then[]else fn.params.toList.map λt=>match P.underlying t with|some (.int k)=>T' k|_=>Y')))=Z')(bs:((c.pinned==c.pinnedBy))=Z')(bt:((c.veiled==(fn.params.toList++s.plain.varTypes P++fn.resultTypes.toList).any (P.veiledRec ·)))=Z')(bu:(c.veiledFits P fn.params.toList (fn.params.toList++s.plain.varTypes P++fn.resultTypes.toList))=Z'):joinedFacts P f fn s c=true:=by
 unfold joinedFacts;simp only[dG];exact⟨⟨⟨⟨⟨⟨⟨⟨⟨⟨⟨⟨⟨⟨⟨⟨⟨⟨⟨⟨⟨⟨⟨⟨⟨⟨⟨⟨⟨⟨⟨k0,k1⟩,k2⟩,k3⟩,k4⟩,k5⟩,k6⟩,k7⟩,k8⟩,k9⟩,ab⟩,af⟩,ao⟩,aw⟩,ax⟩,ay⟩,a0⟩,a1⟩,a3⟩,a4⟩,a5⟩,a6⟩,a7⟩,bb⟩,bc⟩,bd⟩,bm⟩,bn⟩,br⟩,bs⟩,bt⟩,bu⟩
end
section
open Go Go.RowKit Go.Proofs Go.ChangeShapes Go.WideShapes Go.ChangeAt Go.Joins
section
variable {z:List AV}{X:Nat->Prop}{w:World}
inductive r9(R:AV->Value->Prop):List AV->List Value->Prop
 |nil:r9 R [] []
 |cons {c v cs vs}:R c v->r9 R cs vs->r9 R (c::cs) (v::vs)
theorem Vi{vs:List Value}(h:r9 (RI w X) z vs):∀(j:Nat)(c:AV),z[j]?=T' c->∃u:Value,vs[j]?=T' u/\RI w X c u:=by
 induction h with
 |nil=>intro j c hc;simp at hc
 |cons h _ ih=>
  intro j c hc;cases j with
  |zero=>simp only[uc,aC]at hc;subst hc;exact⟨_,rfl,h⟩
  |succ j=>simpa using ih j c (by simpa using hc)
theorem Mi(vs:Array Value)(h:r9 (RI w X) z vs.toList)(j:Nat)(c:AV)(hc:z[j]?=T' c):∃u:Value,vs[j]?=T' u/\RI w X c u:=by
 obtain⟨u,h1,h2⟩:=Vi h j c hc;exact⟨u,by rwa[zE]at h1,h2⟩
theorem T7{α:Type}{cs:Array α}(h:cs.size=5):∃c0 c1 c2 c3 c4,cs=#[c0,c1,c2,c3,c4]:=by
 obtain⟨l⟩:=cs
 match l,h with
 |[c0,c1,c2,c3,c4],_=>exact⟨c0,c1,c2,c3,c4,rfl⟩
set_option maxRecDepth 100000 in
theorem Vh:a0c.cellsOf 24=5:=I'
theorem wf_i64{n:Int}(h:(Lit.int .i64 n).wf=Z'):-9223372036854775808<=n/\n<9223372036854775808:=by
 simp[Lit.wf,IntKind.min,IntKind.max,IntKind.signed,IntKind.bits]at h;omega
set_option maxRecDepth 100000 in
theorem Vj:a0c.cellsOf 3=1/\a0c.cellsOf 22=1:=⟨I',I'⟩
set_option maxRecDepth 100000 in
theorem Pr{H:Type}{enc:TypeId×Value->H}{W:World}{base:Nat}{v:Value}{d:DataW H}{p:List MemPlace}(hv:Value.okWide a0c W .any base 24 v)
 (h:DataW.Trod enc a0c W 0 (λ_=>Z') Z' 24 v d p):∃F E A B M:Int,v=.agg #[.int .i64 F,.int .i64 E,.int .u64 A,.int .u64 B,.int .i64 M]/\JT F E A B M:=by
 obtain⟨cs,rfl,ab⟩:=okWide_struct underlying24 hv;obtain⟨c0,c1,c2,c3,c4,rfl⟩:=T7 (ab.trans Vh);obtain⟨fuel,hf⟩:=h;obtain⟨xs,n,_,_,_,hlen,hx⟩:=DataW.trod_struct underlying24 hf;obtain⟨o3,af⟩:=Vj
 match xs,hlen with
 |[y0,y1,y2,y3,y4],_=>
  have h0:DataW.trod enc a0c W 0 (λ_=>Z') Z' n 3 ((([c0,c1,c2,c3,c4]:List Value).drop 0).take (a0c.cellsOf 3))=T' y0:=hx 0 _ rfl;have h1:DataW.trod enc a0c W 0 (λ_=>Z') Z' n 3 ((([c0,c1,c2,c3,c4]:List Value).drop 1).take (a0c.cellsOf 3))=T' y1:=hx 1 _ rfl;have h2:DataW.trod enc a0c W 0 (λ_=>Z') Z' n 22 ((([c0,c1,c2,c3,c4]:List Value).drop 2).take (a0c.cellsOf 22))=T' y2:=hx 2 _ rfl;have h3:DataW.trod enc a0c W 0 (λ_=>Z') Z' n 22 ((([c0,c1,c2,c3,c4]:List Value).drop 3).take (a0c.cellsOf 22))=T' y3:=hx 3 _ rfl;have h4:DataW.trod enc a0c W 0 (λ_=>Z') Z' n 3 ((([c0,c1,c2,c3,c4]:List Value).drop 4).take (a0c.cellsOf 3))=T' y4:=hx 4 _ rfl;rw[o3]at h0 h1 h4;rw[af]at h2 h3;obtain⟨F,e0,_,w0⟩:=Cc underlying3 h0;obtain⟨E,e1,_,w1⟩:=Cc underlying3 h1;obtain⟨A,e2,_,w2⟩:=Cc underlying22 h2;obtain⟨B,e3,_,w3⟩:=Cc underlying22 h3;obtain⟨M,e4,_,w4⟩:=Cc underlying3 h4;simp at e0 e1 e2 e3 e4;exact⟨F,E,A,B,M,by rw[e0,e1,e2,e3,e4],wf_i64 w0,wf_i64 w1,wf_u64 w2,wf_u64 w3,wf_i64 w4⟩
end
end
end Go.Hl
