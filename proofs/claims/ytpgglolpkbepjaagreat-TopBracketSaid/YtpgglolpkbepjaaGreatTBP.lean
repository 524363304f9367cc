/- Lemmas for TopSound and TopBracket. -/
import Derived.Test.YtpgglolpkbepjaaGreatTBO
import Derived.Test.YtpgglolpkbepjaaGreatTBK
set_option linter.unusedVariables false
set_option linter.unusedSimpArgs false
namespace Go.Hl
open Go.Proofs.Tryz
open Go.Proofs.Tryz renaming prog→a0c
open Option renaming some→T',none→Y'
open Bool renaming true→Z',false→a0a
set_option maxHeartbeats 8000000
set_option maxRecDepth 100000
section
open Go Go.RowKit Go.Proofs
section
variable {at_ e n nx pick:Int}{f:Int->List Int}{j:JN}{l1 l2:List Bool}{U bf bl c d g1 g2:Nat}
def opens(l:List Bool):Nat->List Int
 |0=>[]
 |k+1=>if l.getD k a0a=Z' then opens l k else opens l k++[(k:Int)]
theorem Iy(l:List Bool):∀(k:Nat)(x:Int),x∈opens l k->∃i:Nat,i<k/\x=i/\l.getD i a0a=a0a
 |0,x,h=>by cases h
 |k+1,x,h=>by
  unfold opens at h;split at h
  .obtain⟨i,h1,h2⟩:=Iy l k x h
   exact⟨i,f',h2⟩
  .rename_i hf
   rcases jm.1 h with h|h
   .obtain⟨i,h1,h2⟩:=Iy l k x h
    exact⟨i,f',h2⟩
   .rw[Cu]at h
    exact⟨k,f',h,by simpa using hf⟩
theorem Bo(l:List Bool):∀k,(opens l k).length<=k
 |0=>aM _
 |k+1=>by
  unfold opens;split
  .have:=Bo l k;omega
  .rw[aV];have:=Bo l k;simp;omega
theorem Pu(l:List Bool):∀k,(∀i,i<k->l.getD i a0a=Z')->opens l k=[]
 |0,_=>rfl
 |k+1,h=>by
  unfold opens;rw[au (h k f')];exact Pu l k (λi hi=>h i f')
theorem VC(l:List Bool)(k:Nat)(t:List Bool)(hk:k<=l.length):(mf l k t).length=l.length:=by
 unfold mf;simp only[aV,fT,j6];omega
def rD(X:GA)(j:JN)(d bf bl g1 g2:Nat)(l1 l2:List Bool)(n:Int)(f:Int->List Int)(c:Nat)(at_ e nx:Int)(pub:Bool)(pb:Value):GA:=
 ((X.star ((cG g2 l2).star (cG g1 l1))).star ((aZ d n f c).star (.aJ bl (cZ d at_ e 1 nx)))).star (.aJ bf (eG j d (bI g1 l1.length) (bI g2 l2.length) pub a0a 1 (.pointer (T' ⟨bl,0,Y'⟩)) pb))
theorem afu{X:GA}{pb:Value}(br:n<=4096)(hc:c<=999000)(ha:0<=at_)(a4:at_+2<=e)(he:e<=n)(bs:0<=nx)(bt:nx<=4096)(a1:JT j.F j.E j.A j.B j.M)(a0:nT j.F j.E j.A j.B j.M)(hU:(j.B-j.A+4-1)/4=(U:Int))(bw:U<=10)(bd:l1.length=U)(bx:((l2.length:Nat):Int)=j.B-j.A)(bm:l2.length<=10)(bz:0<=pick)(bA:pick<1000000)(hop:0<(opens l1 U).length)(bu:∀i:Nat,i<U->PD (jP j.E (j.A+i*4))/\PD (jP j.E (j.A+i*4)+min (j.B-(j.A+i*4)) 4-1)):
 aA a0c 25 [bf,(pick:Int)] (rD X j d bf bl g1 g2 l1 l2 n f c at_ e nx a0a pb)
  (λr R=>∃(i:Nat)(x:Int)(HL:List Bool),(i<U/\l1.getD i a0a=a0a)/\(0<=x/\x<256)/\HL=mv (jP j.E (j.A+i*4)) (aP j.F.toNat j.M.toNat (jP j.E (j.A+i*4)) (min (j.B-(j.A+i*4)) 4).toNat) (aP j.F.toNat j.M.toNat (jP j.E (j.A+i*4)) (min (j.B-(j.A+i*4)) 4).toNat).length/\r=.aU [(1:Int),(0:Int)]/\
   R=rD X j d bf bl g1 g2 (l1.set i Z') (mf l2 (4*i) HL) n (gx f at_ e 1 nx [(i:Int),0,x]) 0 (at_+2) e (nx+1) a0a pb):=by
 have hE:=env dC;have ax:((0:Int)!=0)=false:=rfl;unfold rD eG;refine aA.body hE func25 ntmps25 results25 (λen=>?_);refine aE ?_;refine aa.seq (aa.block (aa.gd dm 0 p' p' rfl rfl (gr rfl) ?_));refine aE ?_;refine aa.dz rfl ?_;refine aE ?_;refine aa.dz rfl (aa.skip ?_);refine⟨_,rfl,?_⟩;show aa _ _ _ _ _ _ _ _;refine aE ?_;obtain⟨FR,af⟩:=nm ([AV.r (Value.int .i64 j.F),.r (.int .i64 j.E),.r (.int .u64 j.A),.r (.int .u64 j.B),.r (.int .i64 j.M),d,.r (bI g1 l1.length),.r (bI g2 l2.length),a0a,a0a,(1:Int),bl,.r pb]);have f6:FR[6]?=T' (.r (bI g1 U)):=by rw[<-af,<-bd];rfl
 rw[af];refine aa.seq (aa.seq (aa.region ?_));refine az 1 ?_;refine GL.rJ rfl rfl rfl p' rfl ?_;refine GL.rE (T:=ag a0a) (e:=6) hE.hT rfl rfl rfl p' rfl rfl ?_;refine GL.uR (T:=ag a0a) (c:=.r (bI g1 U)) hE.hT rfl rfl rfl p' rfl rfl f6 rfl ?_;refine GL.DS (g:=g1) (m:=U) rfl rfl rfl p' rfl ?_;refine az 1 ?_;refine gN ?_;obtain⟨RA,a3⟩:=nm ((X.star (cG g2 l2)).star ((aZ d n f c).star (.aJ bl (cZ d at_ e 1 nx))));have ao:((X.star ((cG g2 l2).star (cG g1 l1))).star ((aZ d n f c).star (.aJ bl (cZ d at_ e 1 nx)))).star (.aJ bf FR)=(RA.star (.aJ bf FR)).star (cG g1 l1):=by rw[<-a3];ac_rfl
 rw[ao];refine aa.dS (Le.bare (id:=37) (con:=.n .i64 []) p' rfl) (GA.le.refl _) (aa.block ?_);refine aa.loop (ι:={k:Nat // k<=U}) (λk=>(⟨[(0,bf),(1,(pick:Int)),(6,.os 37 1 0 (opens l1 k.1).length),(25,.r (bI g1 U)),(26,(U:Int)),(27,(k.1:Int))],[(37,⟨Z',.n .i64 (opens l1 k.1)⟩)]⟩,(RA.star (.aJ bf FR)).star (cG g1 l1))) (λk=>U-k.1) ⟨0,dU _⟩ ?_ ?_ ?_
 .have q1:opens l1 0=[]:=rfl
  exact Le.mk q1
 .exact GA.le.refl _
 rintro⟨k,hk⟩;dsimp only
 by_cases hlt:k<U
 .have bn:(k:Int)<U:=f'
  have ab:=Bo l1 k;have hs:opens l1 (k+1)=if l1.getD k a0a=Z' then opens l1 k else opens l1 k++[(k:Int)]:=rfl
  obtain⟨O,hO⟩:=nm (opens l1 k);rw[hO]at ab hs|-;refine a9 bn ?_;refine aa.seq (gT ?_);refine aa.seq (aa.block (aa.seq (aa.region ?_)));refine az 1 ?_;refine GL.DC (g:=g1) (m:=U) (i:=k) rfl rfl rfl p' rfl rfl hlt ?_;refine GL.H4 (l:=l1) rfl rfl rfl p' rfl f' ?_;refine az 2 ?_;refine gN ?_;cases hd:l1.getD k a0a with
  |true=>
   rw[au hd]at hs;refine aE ?_;refine gF ?_;refine aa.of (T:=ag a0a) ?_;refine aK ?_;exact⟨⟨k+1,f'⟩,Le.mk hs,GA.le.refl _,N'⟩
  |false=>
   rw[aq (by rw[hd];simp)]at hs;refine aE ?_;refine aa.eo rfl (aa.of (T:=ag a0a) ?_);refine aK ?_;show aa _ _ _ _ _ _ _ _;refine aa.of (T:=ag a0a) ?_;refine aK ?_;exact⟨⟨k+1,f'⟩,Le.mk hs,GA.le.refl _,N'⟩
 obtain rfl:U=k:=f';refine a9 (show¬(U:Int)<U from f') ?_;refine aa.seq (gX ?_);have aw:=Iy l1 U;have ab:=Bo l1 U;obtain⟨O,hO⟩:=nm (opens l1 U);rw[hO]at hop aw ab|-;obtain⟨m,hm⟩:=nm (O.length);rw[hm]at hop ab;obtain⟨ix,a7⟩:∃ix:Nat,pick%(m:Int)=ix:=⟨(pick%(m:Int)).toNat,by rw[tY (o5 _ f')]⟩;have bc:ix<m:=by have:=sd pick (show(0:Int)<m from f');omega
 obtain⟨i,hi,a5,a6⟩:=aw O[ix] (qg f');have hg:O.getD ix 0=(i:Int):=by rw[cF,ed f'];exact a5
 refine aE ?_;refine aa.seq (a9 hm ?_);refine a9 (show((0:Int)<m)from f') ?_;refine aa.eo rfl (aa.region ?_);have bb:((ix:Int)+m)%(m:Int)=ix:=by rw[Int.add_emod_right];exact zG f' f'
 refine fG 11 (A5 a7 bb hm hg (show ix<m from bc)) ?_;rw[<-ao,<-af];refine gC (ag a0a) (agm (X:=X) (j:=j) (d:=d) (bf:=bf) (bl:=bl) (g1:=g1) (g2:=g2) (l1:=l1) (l2:=l2) (n:=n) (f:=f) (c:=c) (at_:=at_) (e:=e) (nx:=nx) (pb:=pb) (i:=i) f' f' f' f' bm br hc ha a4 he bs bt a1 a0 f' (bu i hi)) func64 (λr R' hp=>?_);obtain⟨x,HL,hx,ay,rfl,rfl⟩:=hp;refine⟨rfl,?_⟩;refine az 2 ?_;refine gN ?_;refine aa.seq (aa.seq (aa.region ?_));refine az 2 ?_;refine gE (ag a0a) (PM (R:=_) (j:=j) (d:=d) (bf:=bf) (v1:=bI g1 l1.length) (v2:=bI g2 l2.length) (pub:=a0a) (gen:=1) (lg:=.pointer (T' ⟨bl,0,Y'⟩)) (pb:=pb)) func66 ?_;refine fG 1 ax ?_;refine gN ?_;refine gF ?_;refine aE ?_;refine aa.ret ?_;refine dM.of ⟨i,x,HL,⟨hi,a6⟩,hx,ay,rfl,?_⟩ (aO.mk a0b rfl);have e1:(l1.set i Z').length=l1.length:=jC;have e2:(mf l2 (4*i) HL).length=l2.length:=VC _ _ _ f';rw[e1,e2]
 rfl
theorem afs{Y:GA}{bp T:Nat}(hT:l2.length=T)(a7:T<=10)(a6:0<T)(bm:∀k,k<T->l2.getD k a0a=nA j k)(ax:j.B-j.A=T)(a1:JT j.F j.E j.A j.B j.M)(a0:nT j.F j.E j.A j.B j.M)(a3:JV j.F j.E j.A j.B j.M)(a4:j.ok)(br:n<=4096)(hc:c<=1000)(ay:∀k,k<(dj j T).length->HW ((dj j T).getD k h0)){at0:Int}(bb:6+(2*((j.B-j.A+4-1)/4)+2)=at0)(bc:(((gn j (dj j T)).length:Int)+512-1)/512<=n-at0)(bt:U<=10)(bd:l1.length=U)(ao:∀i,i<U->l1.getD i a0a=Z'):
 aA a0c 25 [bf,(pick:Int)] (rD (Y.star (.aJ bp (cZ d 4 6 1 0))) j d bf bl g1 g2 l1 l2 n f c at_ e nx a0a (.pointer (T' ⟨bp,0,Y'⟩)))
  (λr R=>r=.aU [(2:Int),(0:Int)]/\
   R=rD (Y.star (.aJ bp (cZ d 6 6 1 1))) j d bf bl g1 g2 l1 l2 n (gx (mR f at0 (gn j (dj j T)) (((gn j (dj j T)).length+511)/512)) 4 6 1 0 (aI ((gn j (dj j T)).length:Int) 8)) 0 at_ e nx Z' (.pointer (T' ⟨bp,0,Y'⟩))):=by
 have hE:=env dC;have aw:((0:Int)!=0)=false:=rfl;unfold rD eG;refine aA.body hE func25 ntmps25 results25 (λen=>?_);refine aE ?_;refine aa.seq (aa.block (aa.gd dm 0 p' p' rfl rfl (gr rfl) ?_));refine aE ?_;refine aa.dz rfl ?_;refine aE ?_;refine aa.dz rfl (aa.skip ?_);refine⟨_,rfl,?_⟩;show aa _ _ _ _ _ _ _ _;refine aE ?_;obtain⟨FR,ab⟩:=nm ([AV.r (Value.int .i64 j.F),.r (.int .i64 j.E),.r (.int .u64 j.A),.r (.int .u64 j.B),.r (.int .i64 j.M),d,.r (bI g1 l1.length),.r (bI g2 l2.length),a0a,a0a,(1:Int),bl,bp]);have f6:FR[6]?=T' (.r (bI g1 U)):=by rw[<-ab,<-bd];rfl
 rw[ab];refine aa.seq (aa.seq (aa.region ?_));refine az 1 ?_;refine GL.rJ rfl rfl rfl p' rfl ?_;refine GL.rE (T:=ag a0a) (e:=6) hE.hT rfl rfl rfl p' rfl rfl ?_;refine GL.uR (T:=ag a0a) (c:=.r (bI g1 U)) hE.hT rfl rfl rfl p' rfl rfl f6 rfl ?_;refine GL.DS (g:=g1) (m:=U) rfl rfl rfl p' rfl ?_;refine az 1 ?_;refine gN ?_;obtain⟨RA,af⟩:=nm (((Y.star (.aJ bp (cZ d 4 6 1 0))).star (cG g2 l2)).star ((aZ d n f c).star (.aJ bl (cZ d at_ e 1 nx))));have a5:(((Y.star (.aJ bp (cZ d 4 6 1 0))).star ((cG g2 l2).star (cG g1 l1))).star ((aZ d n f c).star (.aJ bl (cZ d at_ e 1 nx)))).star (.aJ bf FR)=(RA.star (.aJ bf FR)).star (cG g1 l1):=by rw[<-af];ac_rfl
 rw[a5];refine aa.dS (Le.bare (id:=37) (con:=.n .i64 []) p' rfl) (GA.le.refl _) (aa.block ?_);refine aa.loop (ι:={k:Nat // k<=U}) (λk=>(⟨[(0,bf),(1,(pick:Int)),(6,.os 37 1 0 (opens l1 k.1).length),(25,.r (bI g1 U)),(26,(U:Int)),(27,(k.1:Int))],[(37,⟨Z',.n .i64 (opens l1 k.1)⟩)]⟩,(RA.star (.aJ bf FR)).star (cG g1 l1))) (λk=>U-k.1) ⟨0,dU _⟩ ?_ ?_ ?_
 .have q1:opens l1 0=[]:=rfl
  exact Le.mk q1
 .exact GA.le.refl _
 rintro⟨k,hk⟩;dsimp only
 by_cases hlt:k<U
 .have bn:(k:Int)<U:=f'
  have bs:=Bo l1 k;have hs:opens l1 (k+1)=if l1.getD k a0a=Z' then opens l1 k else opens l1 k++[(k:Int)]:=rfl
  obtain⟨O,hO⟩:=nm (opens l1 k);rw[hO]at bs hs|-;refine a9 bn ?_;refine aa.seq (gT ?_);refine aa.seq (aa.block (aa.seq (aa.region ?_)));refine az 1 ?_;refine GL.DC (g:=g1) (m:=U) (i:=k) rfl rfl rfl p' rfl rfl hlt ?_;refine GL.H4 (l:=l1) rfl rfl rfl p' rfl f' ?_;refine az 2 ?_;refine gN ?_;cases hd:l1.getD k a0a with
  |true=>
   rw[au hd]at hs;refine aE ?_;refine gF ?_;refine aa.of (T:=ag a0a) ?_;refine aK ?_;exact⟨⟨k+1,f'⟩,Le.mk hs,GA.le.refl _,N'⟩
  |false=>exact absurd (ao k hlt) (by rw[hd];simp)
 obtain rfl:U=k:=f';refine a9 (show¬(U:Int)<U from f') ?_;refine aa.seq (gX ?_);rw[Pu l1 U ao];refine aE ?_;refine aa.seq (aE ?_);refine aE ?_;refine aa.dz rfl (aa.region ?_);refine az 1 ?_;refine GL.le (R':=((((Y.star (cG g1 l1)).star (.aJ bl (cZ d at_ e 1 nx))).star ((aZ d n f c).star (.aJ bp (cZ d 4 6 1 0)))).star (cG g2 l2)).star (.aJ bf (eG j d (bI g1 l1.length) (bI g2 T) a0a a0a 1 (.pointer (T' ⟨bl,0,Y'⟩)) (.pointer (T' ⟨bp,0,Y'⟩))))) (GA.le_eq (by rw[<-af,<-ab,hT];unfold eG;ac_rfl)) ?_;refine gE (ag a0a) (abd (X:=(Y.star (cG g1 l1)).star (.aJ bl (cZ d at_ e 1 nx))) (j:=j) (d:=d) (bf:=bf) (bp:=bp) (g1:=g1) (g2:=g2) (T:=T) (l1:=l1) (l2:=l2) (n:=n) (f:=f) (c:=c) (lg:=.pointer (T' ⟨bl,0,Y'⟩)) hT a7 a6 bm ax a1 a0 a3 a4 br hc ay bb bc) func65 ?_;refine az 1 ?_;refine gN ?_;refine aa.seq (aa.seq (aa.region ?_));refine az 2 ?_;refine gE (ag a0a) (PM (R:=_) (j:=j) (d:=d) (bf:=bf) (v1:=bI g1 l1.length) (v2:=bI g2 T) (pub:=Z') (gen:=1) (lg:=.pointer (T' ⟨bl,0,Y'⟩)) (pb:=.pointer (T' ⟨bp,0,Y'⟩))) func66 ?_;refine fG 1 aw ?_;refine gN ?_;refine gF ?_;refine aE ?_;refine aa.ret ?_;refine dM.of ⟨rfl,?_⟩ (aO.mk a0b rfl);rw[hT];unfold eG
 ac_rfl
end
end
section
open Go Go.RowKit Go.Proofs
@[push_cast] def Ro:Sp where
 kind:=0
 pre
  |[.ns .u8 xs,.ns .u8 ys]=>(B8 xs/\B8 ys)/\xs.take ys.length=ys/\ys.length<=xs.length
  |_=>False
 res _:=.r (.bool Z')
theorem NA:aj a0c 28 Ro:=by
 refine sz λargs hp=>?_
 split at hp;rotate_left;cases hp;rename_i xs ys;obtain⟨⟨hB,ab⟩,h1,h2⟩:=hp;have hE:=di M3;obtain⟨N,hN⟩:=nm (xs.length);obtain⟨M,hM⟩:=nm (ys.length);rw[hM]at h1 h2;rw[hN]at h2;have eJ:¬(N:Int)<M:=f';have af:(M:Int)<=N:=f';have heq:kT ys ys=true:=fu rfl;refine aB func28 ntmps28 ?_;refine an (A6 hN hM af h1 ab heq) ?_;exact aO.mk a0b rfl
@[push_cast] def Rn:Sp where
 kind:=0
 pre
  |[.ns .u8 xs,.ns .u8 ys]=>(B8 xs/\B8 ys)/\xs.take ys.length=ys/\ys.length<=xs.length
  |_=>False
 res
  |[.ns .u8 xs,.ns .u8 ys]=>.aU [.ns .u8 (xs.drop ys.length),Z']
  |_=>.any
theorem VP:aj a0c 72 Rn:=by
 refine sz λargs hp=>?_
 split at hp;rotate_left;cases hp;rename_i xs ys;obtain⟨⟨hB,ab⟩,h1,h2⟩:=hp;have hE:=di NA;obtain⟨M,hM⟩:=nm (ys.length);have hx:=hB.2;obtain⟨N,hN⟩:=nm (xs.length);have ao:M<=N:=f';have af:(xs.take N).drop M=xs.drop M:=by rw[<-hN,pf]
 rw[hM]at h1|-;refine aB func72 ntmps72 ?_;refine an (A5 hB ab h1 hM hN) ?_;refine aO.mk a0b ?_;show AV.aU [.ns .u8 _,_]=_;rw[<-af,<-hN,pf]
theorem On{xs:List Int}(hB:∀x∈xs,0<=x/\x<256)(hl:xs.length<=8):∀k,k<=xs.length->rI xs k=cP (xs.drop (xs.length-k))
 |0,_=>by rw[FP,Cp];rfl
 |k+1,hk=>by
  have ih:=On hB hl k f';have af:xs.length-(k+1)<xs.length:=f';have e1:xs.drop (xs.length-(k+1))=xs[xs.length-(k+1)]::xs.drop (xs.length-k):=by
   rw[sj af]
   congr 2
   omega
  have e2:xs.getD (bk xs.length k) 0=xs[xs.length-(k+1)]:=by
   unfold bk;rw[cF,ed f'];simp only[rf]
   congr 1
   omega
  have ab:=DO (xs:=xs.drop (xs.length-k)) (λx hx=>hB x (Ct hx));have aw:(xs.drop (xs.length-k)).length=k:=by rw[j6];omega
  rw[aw]at ab;have hx:=hB _ (qg af);show bits .or .u64 (IntKind.u64.wrap (rI xs k*256)) (xs.getD (bk xs.length k) 0)=_;rw[ih,e1,e2];obtain⟨V,hV⟩:=nm (cP (xs.drop (xs.length-k)));obtain⟨x,ao⟩:=nm (xs[xs.length-(k+1)]);rw[hV]at ab;rw[ao]at hx;rw[hV,ao];have h7:(256:Int)^k<=256^7:=by
   have:∀k:Nat,k<=7->(256:Int)^k<=256^7:=p';exact this k f'
  have h8:(256:Int)^7=72057594037927936:=p';have hw:IntKind.u64.wrap (V*256)=V*256:=by rw[eP];omega
  rw[hw,IA 8 (V*256) x f' (by show V*256%256=0;omega) f' hx.1 (by show x<256;omega) f'];show V*256+x=x+256*cP (xs.drop (xs.length-k));rw[hV];omega
theorem Om{n:Int}(h0:0<=n){k:Nat}(hk:k<=8):rI (aI n k) k=n%256^k:=by
 have h:=On (xs:=aI n k) (uM n k) (by rw[cX];exact hk) k (by rw[cX];exact aM _);rw[h,cX,sE,fe,DP n h0 k]
def jS(b:Nat)(zs:List Int):GA where
 rel w fp X:=(∀c,fp c↔c=b)/\∃v,w.heap[b]?=T' (.cells #[v] 82 (0,0))/\RI w X (.ns .u8 zs) v
 loc:=λhs hw hX⟨h1,v,h2,h3⟩=>⟨h1,v,by rw[hw b (kn h2) (.inl ((h1 b).2 rfl))];exact h2,h3.cW ⟨hs,λk hk hx=>hw k hk (.inr hx)⟩ hX⟩
 lt:=λ⟨h1,v,h2,_⟩c hc=>by
  have:=(h1 c).1 hc;subst this;exact kn h2
theorem abx(b:Nat)(zs:List Int):(jS b zs).le (.aJ b [.ns .u8 zs]):=λw fp X⟨h1,v,h2,h3⟩=>⟨h1,_,_,h2,aM _,λj c hj=>by
 match j,hj with
 |0,hj=>cases hj;exact⟨v,rfl,h3⟩⟩
theorem abS{b size:Nat}{zs:List Int}(hB:B8 zs)(hs:size<=zs.length)(ax:0<zs.length):
 aA a0c 29 [b,(size:Int)] (jS b zs) (λr R=>r=.r (.int .u64 (rI (zs.take size) size))/\R=jS b (zs.drop size)):=by
 intro w X fp vs hX af ⟨h1,v,h2,h3⟩ hl ha;obtain⟨v0,v1,rfl⟩:=CM hl;obtain rfl:=mG (j:=0) ha rfl rfl;obtain rfl:=mG (j:=1) ha rfl rfl;have a0:=hB.2;cases h3 with
 |ns _ _ ad g off cap hc hadr hcell=>
  obtain⟨rfl,ab⟩:=hadr ax;have ao:∀j,j<zs.length->zs[j]?=T' (zs.getD j 0):=λj hj=>by rw[cF,ed hj];rfl
  have aw:g<w.heap.size:=nW w ⟨g,off+0,Y'⟩ (hcell 0 _ (ao 0 ax));refine(abR (zs:=zs) h2 rfl f' hs hc (λj hj=>hcell j _ (ao j hj)) aw (λj=>?_)).mono λe w'⟨he,⟨o',k1,k2⟩,k3⟩=>?_
  .by_cases hj:j<zs.length
   .exact hB.1 j hj
   .rw[cF,iT f'];simp
  .have ay:g≠b:=λe=>ab (af g ((h1 g).2 e))
   refine⟨_,_,_,fp,he,⟨rfl,rfl⟩,⟨h1,_,k1,?_⟩,RI.r _,λ_ _ h=>h,⟨k3.os,k3.tape,k3.output,k3.size,λk hk hf=>k3.block k hk (λe=>by cases e;exact hf ((h1 _).2 rfl))⟩⟩;have hlen:(zs.drop size).length=zs.length-size:=j6;rw[<-hlen];refine RI.ns .u8 (zs.drop size) _ g o' _ (by rw[hlen];omega) (λhp=>⟨rfl,λhx=>?_⟩) (λi x hx=>?_)
   .rcases hx with hx|hx
    .exact ab hx
    .exact ab (af g hx)
   .have hi:i<(zs.drop size).length:=(iu.1 hx).1
    rw[hlen]at hi;rw[k2 f'];rw[j5]at hx;have:=hcell (size+i) x hx;rw[show off+size+i=off+(size+i)from f'];exact(CG (k3.block g aw (λe=>by cases e;exact ay rfl))).trans this
end
section
open Go Go.RowKit Go.Proofs
theorem Uk{xs:List Int}:aA a0c 71 [.ns .u8 xs] .cQ (λr R=>∃c,r=.r (.func (.func 113) #[] #[.pointer (T' ⟨c,0,Y'⟩)])/\R=GA.aJ c [.ns .u8 xs]):=by
 intro w X fp vs hX af hr hl ha;obtain⟨v0,rfl⟩:=Af hl;have hN:=CK (j:=0) ha rfl rfl;have ab:=hN;cases hN with
 |ns _ _ ad bb oo cap hcap hadr hcell=>
  refine((callsIn_wide (n:=10)).1 (OR ad _ cap w)).mono λe w'⟨he,hw'⟩=>?_
  have b1:Below w.heap.size w w':=by rw[hw'];exact(iX _ _).alloc (aM _) _
  have h1:w'.heap[w.heap.size]?=T' (.cells #[.slice ad xs.length cap] 29 (0,0)):=by rw[hw'];exact World.alloc_heap_new w _
  refine⟨_,_,_,λb=>b=w.heap.size,he,⟨_,rfl,rfl⟩,⟨λ_=>dr,_,_,h1,aM _,λj c hj=>?_⟩,RI.r _,λb hb hx=>f',⟨b1.os,b1.tape,b1.output,b1.size,λb hb _=>b1.block b hb⟩⟩
  match j,hj with
  |0,hj=>cases hj;exact⟨_,rfl,ab.cW ⟨b1.size,λb hb _=>b1.block b hb⟩ (λb hb hx=>hx.elim id (λhx=>f'))⟩
theorem Tz{w:World}{fx:Nat->Prop}{S:List Nat->GA}(hc:∀pre V fp X,(S pre).rel V fp X->∀b,fp b->∃o:Obj,V.heap[b]?=T' o/\o.isCells=Z'):OwnFrom w.heap.size (λ(pre:List Nat)W=>SI w fx (S pre) W):=by
 rintro pre W W' row ⟨fp,h1,h2,h3⟩ hg hr;have aw:∀b,fp b->row≠T' b:=λb hb e=>by
  obtain⟨hB,o,ho,ao⟩:=hr b e;obtain⟨o',af,ab⟩:=hc pre W fp _ h1 b hb;rw[ho]at af;cases af;rw[ao]at ab;cases ab
 refine⟨fp,GA.loc _ hg.size (λb hb hh=>hg.block b hb (λe=>?_)) (λ_ _ h=>h) h1,h2,⟨hg.os.trans h3.os,hg.tape.trans h3.tape,hg.output.trans h3.output,fC h3.size hg.size,λb hb hf=>?_⟩⟩
 .exact hh.elim (λh=>aw b h e.symm) (λh=>h a0b)
 .exact(hg.block b (da hb h3.size) (λe=>by
   obtain⟨hB,_⟩:=hr b e.symm;omega)).trans (h3.block b hb hf)
theorem cR.Xl{P:Program}{n:Nat}{en:dK}{pn:Nat->Option Nat}{R:GA}{σ:St}{Q:Exit->Act->World->Prop}{id:Nat}(h:∀(κ:Ctx)(β:Nat->Option (Nat×Nat))(a:Act)(w:World),κ.nt=n->cK en pn R κ->av κ β σ.get σ.ae a w->Q (.exit id) a w):cR P n en pn (.exit id) Q σ R:=λκ β a w hn hg hC=>wp_exit (h κ β a w hn hg hC)
def NZ(j:JN):List Int:=[j.F,j.E+64,j.A,j.B,j.M]
def gZ(l:List Int)(i:Nat)(x:Int):List AV:=(List.range 5).map λt=>.r (.int .u64 (if t<i then l.getD t 0 else if t=i then x else 0))
theorem Pg(l:List Int)(i:Nat)(x:Int):(gZ l i x).length=5:=by simp[gZ]
theorem aaI(l:List Int)(i:Nat):gZ l i (l.getD i 0)=gZ l (i+1) 0:=by
 unfold gZ;refine FC λt _=>?_
 congr 2
 by_cases h1:t<i
 .rw[au h1,au f']
 .rw[aq h1]
  by_cases h2:t=i
  .subst h2;rw[au rfl,au f']
  .rw[aq h2,aq f']
   split<;>rfl
theorem aaJ(l:List Int)(i:Nat)(x y:Int)(hi:i<5):(gZ l i x).set i (.r (.int .u64 y))=gZ l i y:=by
 have hg:∀(x:Int)(k:Nat),(gZ l i x)[k]?=if k<5 then T' (.r (.int .u64 (if k<i then l.getD k 0 else if k=i then x else 0)))else none:=λx k=>by
  unfold gZ;rw[gv];split
  .rename_i h;rw[Kj h];rfl
  .rename_i h;rw[iT O'];rfl
 refine zM λk=>?_
 rw[qf,Pg,hg,hg]
 by_cases e:i=k
 .subst e
  rw[au rfl,au hi,au hi,aq f',au rfl]
 .rw[aq e]
  by_cases h3:k<i
  .simp only[au h3]
  .simp only[aq h3,aq (λq:k=i=>e q.symm)]
theorem aaH(l:List Int)(i:Nat)(x:Int)(hi:i<5):(gZ l i x)[i]?=T' (.r (.int .u64 x)):=by
 unfold gZ;simp[hi]
theorem Zk(j:JN)(i:Nat)(hi:i<5):((j.bytes.drop 8).take (8*i+8)).drop (8*i)=aI ((NZ j).getD i 0) 8:=by
 have e:j.bytes.drop 8=aI j.F 8++aI (j.E+64) 8++aI j.A 8++aI j.B 8++aI j.M 8:=by
  show(lJ++aI j.F 8++aI (j.E+64) 8++aI j.A 8++aI j.B 8++aI j.M 8).drop 8=_;simp only[dH];exact jy rfl
 rw[e];have hl:∀n,(aI n 8).length=8:=λn=>cX n 8
 match i,hi with
 |0,_=>
  simp only[dH];rw[fe,kM (hl _)]
  rfl
 |1,_=>
  rw[dH,dH,dH,Cv,hl,gG (by rw[hl];decide),jy (hl _),kM (hl _)]
  rfl
 |2,_=>
  rw[dH,dH,Cv,aV,hl,hl,gG (by rw[aV,hl,hl];decide),jy (by rw[aV,hl,hl]),kM (hl _)]
  rfl
 |3,_=>
  rw[dH,Cv,aV,aV,hl,hl,hl,gG (by simp only[aV,hl];decide),jy (by simp only[aV,hl]),kM (hl _)]
  rfl
 |4,_=>
  rw[gG (by simp only[aV,hl];decide),jy (by simp only[aV,hl])]
  rfl
theorem NY{j:JN}(hj:j.ok):aA a0c 31 [.ns .u8 j.bytes] .cQ (λr R=>r=.aU [.agg j.cs,(0:Int)]/\R=.cQ):=by
 have hE:=di VP;obtain⟨f0,f1,e0,e1,a0,a1,b0,b1,m0,m1⟩:=id hj;have hsl:=Zk j;have hXl:j.bytes.length=48:=wo _ _ _ _ _;have hX8:B8 j.bytes:=B8.of (λx hx=>HP x hx) (by rw[hXl];decide);have hXt:j.bytes.take 8=lJ:=by
  show(lJ++aI j.F 8++aI (j.E+64) 8++aI j.A 8++aI j.B 8++aI j.M 8).take 8=lJ;simp only[dH];exact kM rfl
 obtain⟨XS,hXS⟩:=nm (j.bytes);rw[hXS]at hsl hXl hX8 hXt|-;obtain⟨ZS,hZS⟩:=nm (XS.drop 8);rw[hZS]at hsl;have hZl:ZS.length=40:=by rw[<-hZS,j6,hXl]
 refine aA.Gr 11 func31 ntmps31 (λen hDn hrel=>?_);have hen:∀b,¬en.fp b:=hrel;obtain⟨W0,X0,fp0,sub0,lt0,D0⟩:=en;dsimp only at hDn hen;subst hDn;clear hrel;refine gW hE a0b ?_;refine cR.seq (aa.region ?_);refine az 1 ?_;refine GL.H3 lJ rfl rfl rfl rfl rfl rfl p' p' rfl p' p' rfl (λv=>?_);refine GL.ja (eZ.th (t:=13) (v:=v) hen rfl p') ?_;have hJ8:B8 lJ:=B8.of p' p';obtain⟨JL,hJL⟩:=nm (lJ);have hJl:JL.length=8:=by rw[<-hJL];rfl
 rw[hJL]at hXt hJ8|-;refine fG 6 (A6 hX8 hJ8 hJl hXt hXl hZS) ?_;refine GL.nil ⟨rfl,?_⟩;have h40:((40:Int)!=40)=false:=rfl;refine cR.seq (aa.seq (aa.of (T:=ag a0a) ?_));refine cy (A2 hZl h40) ?_;show aa _ _ _ _ _ _ _ _;refine aa.dz rfl (aa.skip ⟨rfl,?_⟩);refine cR.seq (aa.region ?_);refine GL.Gg (T:=ag a0a) hE.hT rfl rfl rfl p' rfl (λb6=>?_);refine GL.nil ⟨rfl,?_⟩;refine cR.EF ?_;refine gW hE a0b ?_;refine cR.block ?_;obtain⟨vs,hvs⟩:=nm (NZ j);rw[hvs]at hsl;have hvb:∀i,i<5->0<=vs.getD i 0/\vs.getD i 0<18446744073709551616:=λi hi=>by
  rw[<-hvs]
  match i,hi with
  |0,_=>exact⟨f0,by show j.F<_;omega⟩
  |1,_=>exact⟨by show 0<=j.E+64;omega,by show j.E+64<_;omega⟩
  |2,_=>exact⟨a0,a1⟩
  |3,_=>exact⟨b0,b1⟩
  |4,_=>exact⟨m0,by show j.M<_;omega⟩
 obtain⟨ZR,hZR⟩:∃ZR:List AV,[AV.r (.int .i64 0),(0:Int),.r (.int .u64 0),.r (.int .u64 0),(0:Int)]=ZR:=⟨_,rfl⟩;have hZRl:ZR.length=5:=by rw[<-hZR];rfl
 refine cR.dS (σ':=⟨[(2,.ptr 2 0),(4,.ns .u8 ZS),(6,b6),(25,((0:Nat):Int))],[(2,⟨Z',.c ZR⟩)]⟩) (R':=(GA.cQ.star (GA.marks [])).star (.aJ b6 (gZ vs 0 0))) (Le.mk hZR) (GA.mono (GA.vU _) (GA.le.refl _)) ?_;refine cR.aa6 (ι:={p:Nat×List Nat // p.1<=5}) (λp=>(⟨W0,X0,fp0,sub0,lt0,p.1.2.map np⟩,(⟨[(2,.ptr 2 0),(4,.ns .u8 ZS),(6,b6),(25,(p.1.1:Int))],[(2,⟨Z',.c ZR⟩)]⟩:St),(GA.cQ.star (GA.marks p.1.2)).star (.aJ b6 (gZ vs p.1.1 0)))) (λp=>5-p.1.1) ⟨(0,[]),dU _⟩ ?_;rintro⟨⟨i,Ds⟩,hi5⟩;dsimp only at hi5|-
 by_cases hlt:i<5
 .have hltI:(i:Int)<5:=f'
  have hsi:=hsl i hlt;obtain⟨vi,hvi⟩:=nm (vs.getD i 0);have hvb2:=hvb i hlt;rw[hvi]at hsi hvb2;obtain⟨LB,hLB⟩:=nm (aI vi 8);rw[hLB]at hsi;have hLBl:LB.length=8:=by rw[<-hLB];exact cX _ _
  refine gW hE hltI ?_;refine cR.seq (aa.eo rfl (aa.skip ⟨rfl,?_⟩));refine cR.EF (cR.block ?_);refine gW hE a0b ?_;refine cR.seq (aa.region ?_);have hti:(8*(i:Int)+8).toNat=8*i+8:=f';refine fG 7 (A4 hti hZl hsi hLBl) ?_;refine pD (ag a0a) _ Uk (GA.qB _) func71 (λr R' hp=>?_);obtain⟨c1,rfl,rfl⟩:=hp;refine⟨rfl,?_⟩;refine GL.nil ⟨rfl,?_⟩;refine cR.block ?_;refine cR.dS (σ':=⟨[(2,.ptr 2 0),(4,.ns .u8 ZS),(6,b6),(7,.ptr 7 0),(25,(i:Int)),(35,.r (.func (.func 113) #[] #[.pointer (T' ⟨c1,0,Y'⟩)]))],[(2,⟨Z',.c ZR⟩),(7,⟨Z',.c [(i:Int)]⟩)]⟩) (Le.mk a0b) (GA.le.refl _) ?_;intro κ β a w hn hg hC;obtain⟨fp,⟨f1,fc,k1,k2,⟨fA,f6,q1,q2,hAm,h6⟩,hc1⟩,gp2,gp3,gp4⟩:=hg.now hC;have e35:a.eval (.tmp 35)=.func (.func 113) #[] #[.pointer (T' ⟨c1,0,Y'⟩)]:=RI.aS (hC.rel 35);have e6:a.eval (.tmp 6)=.pointer (T' ⟨b6,0,Y'⟩):=RI.aS (hC.rel 6);obtain⟨b7,base,hβ7,a7⟩:∃b7 base,β 7=T' (b7,base)/\a.eval (.tmp 7)=.pointer (T' ⟨b7,base+0,Y'⟩):=hC.rel 7 _ rfl;obtain⟨C7,e7,hb7,hb7c⟩:∃C e,w.heap[b7]?=T' (.cells C e (0,0))/\C[base+0]?=T' (.int .i64 (i:Int)):=by
   rcases hC.hp 7 _ rfl with⟨q,_⟩|⟨b,base',C,e,z1,z2,z3,z4,_⟩
   .rw[hβ7]at q;cases q
   .rw[hβ7]at z1
    cases z1;obtain⟨u,y1,y2⟩:=z4 0 _ rfl;exact⟨C,e,z2,by rw[y1,RI.aS y2]⟩
  have hb7X:¬κ.X0 b7:=hC.kq (id:=7) hg.mu rfl hβ7;obtain⟨mc1,Ac1,ec1,hc1h,hc1l,hc1v⟩:=hc1;obtain⟨v1,hv1,rv1⟩:=hc1v 0 _ rfl;obtain⟨bb,oo,cap,rfl,hcap,hbX,hcell⟩:∃bb oo cap,v1=.slice (T' ⟨bb,oo,Y'⟩) LB.length cap/\LB.length<=cap/\¬XG κ β (St.ae ⟨[(2,.ptr 2 0),(4,.ns .u8 ZS),(6,b6),(7,.ptr 7 0),(25,(i:Int)),(35,.r (.func (.func 113) #[] #[.pointer (T' ⟨c1,0,Y'⟩)]))],[(2,⟨Z',.c ZR⟩),(7,⟨Z',.c [(i:Int)]⟩)]⟩) bb/\∀i x,LB[i]?=T' x->w.cell? ⟨bb,oo+i,Y'⟩=T' (.int .u8 x):=by
   cases rv1 with
   |ns _ _ ad b o cap hc ha hh=>
    obtain⟨rfl,hb⟩:=ha f';exact⟨b,o,cap,rfl,hc,hb,hh⟩
  have hget:∀j,j<LB.length->w.cell? ⟨bb,oo+j,Y'⟩=T' (.int .u8 (LB.getD j 0)):=λj hj=>hcell j _ (by rw[cF,ed hj];rfl)
  have hbbl:bb<w.heap.size:=nW w ⟨bb,oo+0,Y'⟩ (hget 0 f');have hf6:∀b,f6 b->fp b:=λb h=>(k1 b).2 (.inl ((q1 b).2 (.inr h)))
  have hfA:∀b,fA b->fp b:=λb h=>(k1 b).2 (.inl ((q1 b).2 (.inl h)))
  have hb7l:b7<w.heap.size:=kn hb7;have hb7x:¬f6 b7:=λh=>hb7X (gp2 b7 (hf6 b7 h))
  have hbbx:∀b,fp b->b≠bb:=λb h e=>hbX (.inl (gp2 bb (by rw[<-e];exact h)))
  have hbb7:b7≠bb:=λe=>hbX (.inr ⟨7,_,base,rfl,by rw[<-e];exact hβ7⟩)
  have hc1f:fp c1:=(k1 c1).2 (.inr ((mc1 c1).2 rfl));have hc1x:¬f1 c1:=λh=>k2 c1 h ((mc1 c1).2 rfl)
  obtain⟨EE,hEE⟩:∃EE:Nat->Int,(λk=>LB.getD (bk LB.length k) 0)=EE:=⟨_,rfl⟩;have hEb:∀k,0<=EE k/\EE k<256:=λk=>by
   rw[<-hEE];show 0<=LB.getD _ 0/\LB.getD _ 0<256;generalize bk LB.length k=q;rw[cF];cases hq:LB[q]? with
   |none=>exact⟨by show(0:Int)<=0;omega,by show(0:Int)<256;omega⟩
   |some x=>
    have hm:=kL hq;rw[<-hLB]at hm;exact uM _ _ x hm
  have hI0:SI w f6 (GA.aJ b6 (gZ vs i (nB EE []))) w:=⟨f6,GA.AP (λc hc=>by
   unfold gZ at hc;obtain⟨t,_,rfl⟩:=mX.1 hc;exact⟨_,rfl⟩) _ _ _ _ h6,λ_ _ h=>h,⟨rfl,rfl,rfl,aM _,λ_ _ _=>rfl⟩⟩
  have hms:a.tmps.size=72:=hC.sz.trans hn;have hlt':=hlt;refine wpIn_wide.1 (IS (n:=11) (α:=Nat) DB p' (gf:=113) (lb:=#[.pointer (T' ⟨c1,0,Y'⟩)]) e35 a0b (enters_of func113 I' rfl)
   (Lu c1 bb oo cap LB f' w (by rw[cell_of_row w c1 0 _ _ _ hc1h];exact hv1) hbbl hget) (λh k=>h.trans k) (DK (gp4 c1 hc1f) hbbl) (iX _ _) (λ_=>rfl)
   (λpre W=>SI w f6 (GA.aJ b6 (gZ vs i (nB EE pre))) W) (λ_ _ _=>False) (Tz (λpre V fp X h b hb=>by
    obtain⟨m1,A,e,m2,_⟩:=h;have:=(m1 b).1 hb;subst this;exact⟨_,m2,rfl⟩)) (λ_ _ _ _ _ h _ _=>h) hI0 (λk t=>((t.setIfInBounds 36 (.int .i64 (bk LB.length k:Nat))).setIfInBounds 37 (.int .u8 (EE k))).setIfInBounds 9 (.int .u8 (EE k))) ?assign ?body ?done ?stop)
  case assign=>
   intro l x W K hK;have hEx:LB.getD (bk LB.length x) 0=EE x:=by rw[<-hEE]
   have hz:∀u v:Value,Array.foldl (λt(x:Nat×Value)=>t.setIfInBounds x.1 x.2) a.tmps (#[36,37].zip #[u,v])=(a.tmps.setIfInBounds 36 u).setIfInBounds 37 v:=λu v=>J'
   show Code.wpIn _ _ _ _ _ {tmps:=Array.foldl (λt(x:Nat×Value)=>t.setIfInBounds x.1 x.2) a.tmps (#[36,37].zip #[_,.int .u8 (LB.getD (bk LB.length x) 0)]),defers:=[]} W;rw[hz,hEx];refine wpIn_region_list (BZ (λ⟨_,_,h⟩=>h) _ _ _ rfl ?_);refine oR (x:=.int .u8 (EE x)) (w':=W) rfl ?_ ?_
   .refine Gi rfl ?_
    show((a.tmps.setIfInBounds 36 _).setIfInBounds 37 _).getD 37 undef=_;simp[iW,hms]
   .exact hK
  case body=>
   rintro l pre x W ⟨fp',hS,hS2,hS3⟩ hlt;obtain⟨PX,hPX⟩:=nm (nB EE pre);rw[hPX]at hS;obtain⟨z,hz⟩:=nm (EE x);have hzb:=hEb x;rw[hz]at hzb|-;have hsn:nB EE (pre++[x])=bits .or .u64 (IntKind.u64.wrap (PX*256)) z:=by rw[HU,hPX,hz]
   have hnat:(gZ vs i PX).getD i .any=.r (.int .u64 PX):=by rw[cF,aaH vs i PX hlt'];rfl
   have hnl:=Pg vs i PX;have hns:=aaJ vs i PX (nB EE (pre++[x])) hlt';rw[hsn]at hns;obtain⟨NV,hNV⟩:=nm (gZ vs i PX);rw[hNV]at hnat hnl hns hS;have hb7W:W.heap[b7]?=T' (.cells C7 e7 (0,0)):=(hS3.block b7 hb7l hb7x).trans hb7;have hn7:¬fp' b7:=λh=>hb7x (hS2 b7 hb7l h)
   have hRb:((GA.obj b7 (.cells C7 e7 (0,0))).star (.aJ b6 NV)).rel W (λb=>b=b7\/fp' b) (λb=>b=b7\/fp' b):=
    ⟨λb=>b=b7,fp',λ_=>dr,λb h h2=>hn7 (by rw[<-h];exact h2),⟨λ_=>dr,hb7W⟩,GA.AP (λc hc=>by
     rw[<-hNV]at hc;unfold gZ at hc;obtain⟨t,_,rfl⟩:=mX.1 hc;exact⟨_,rfl⟩) _ _ _ _ hS⟩
   obtain⟨tm,htm⟩:=nm (((a.tmps.setIfInBounds 36 (.int .i64 (bk LB.length x:Nat))).setIfInBounds 37 (.int .u8 z)).setIfInBounds 9 (.int .u8 z));have t6:tm.getD 6 undef=.pointer (T' ⟨b6,0,Y'⟩):=by rw[<-htm,<-e6];simp[iW,Act.eval]
   have t7:tm.getD 7 undef=.pointer (T' ⟨b7,base+0,Y'⟩):=by rw[<-htm,<-a7];simp[iW,Act.eval]
   have t9:tm.getD 9 undef=.int .u8 z:=by rw[<-htm];simp[iW,hms]
   have tsz:tm.size=72:=by rw[<-htm];simp[hms]
   show Code.wpIn _ _ _ _ _ {tmps:=((a.tmps.setIfInBounds 36 _).setIfInBounds 37 _).setIfInBounds 9 _,defers:=[]} W;rw[htm];obtain⟨hg',hC'⟩:=Nq (n:=72) (fr:=[(6,.r (.pointer (T' ⟨b6,0,Y'⟩))),(7,.r (.pointer (T' ⟨b7,base+0,Y'⟩))),(9,.r (.int .u8 z))]) (a:={tmps:=tm,defers:=[]}) hRb tsz rfl (λt=>by
    by_cases u1:t=6
    .subst u1
     exact⟨rfl,by show RI _ _ (.r _) _;rw[t6];exact RI.r _⟩
    by_cases u2:t=7
    .subst u2
     exact⟨rfl,by show RI _ _ (.r _) _;rw[t7];exact RI.r _⟩
    by_cases u3:t=9
    .subst u3
     exact⟨rfl,by show RI _ _ (.r _) _;rw[t9];exact RI.r _⟩
    have:St.get ⟨[(6,b6),(7,.r (.pointer (T' ⟨b7,base+0,Y'⟩))),(9,.r (.int .u8 z))],[]⟩ t=.any:=by
     simp[St.get,lk,mZ u1,mZ u2,mZ u3]
    rw[this];exact⟨rfl,RI.any _⟩)
   have wz:IntKind.u64.wrap z=z:=by rw[eP];omega
   have hiI:(i:Int)<5:=f';refine(?_:fQ a0c 72 9 l _ (λ_=>Y') _ (λ_ R'=>R'.le ((GA.obj b7 (.cells C7 e7 (0,0))).star (.aJ b6 (gZ vs i (nB EE (pre++[x])))))) _ _) _ _ _ W _ rfl hg' hC' (λ⟨_,_,h⟩=>h) ?_
   .refine fQ.block (fQ.gd dm 6 p' p' rfl rfl (gr rfl) ?_)
    refine fQ.drawn hE.hm (abK [T' (.look (.tmp 7) (.pointer (T' ⟨b7,base+0,Y'⟩)) (.r (.int .i64 (i:Int)))),T' (.look (.tmp 7) (.pointer (T' ⟨b7,base+0,Y'⟩)) (.r (.int .i64 (i:Int)))),Y',Y',Y',Y',Y',Y',Y',Y'] (λV=>V.cell? ⟨b7,base+0,Y'⟩=T' (.int .i64 (i:Int))) [(6,dm)] [] [] (L:=[(72,Rn)]) hE ?_ ?_ (ki ⟨_,rfl⟩) ?_)
    .intro V g X h
     obtain⟨_,h⟩:=h;rw[cell_of_row V b7 (base+0) _ _ _ h];exact hb7c
    .intro i' o x' u r ho hk a w hw hx
     match i',ho,hk with
     |0,ho,hk=>cases ho;cases hk;exact⟨_,oC (gi a0a) rfl rfl hx hw,λ_=>RI.r _⟩
     |1,ho,hk=>cases ho;cases hk;exact⟨_,oC (gi a0a) rfl rfl hx hw,λ_=>RI.r _⟩
     |2,ho,hk=>cases hk
     |3,ho,hk=>cases hk
     |4,ho,hk=>cases hk
     |5,ho,hk=>cases hk
     |6,ho,hk=>cases hk
     |7,ho,hk=>cases hk
     |8,ho,hk=>cases hk
     |9,ho,hk=>cases hk
     |_+10,_,hk=>cases hk
    .simp only[ck,fl,dF,Nat.reduceAdd]
     refine jt (A5 wz hiI hnat hnl hlt') ?_;refine⟨rfl,_,rfl,?_⟩;rw[hsn,<-hns];exact GA.le.refl _
   .intro κ' β' σ' R' a' w' hle hn' hg2 hC2
    obtain⟨fp2,z1,z2,z3,z4⟩:=hg2.now hC2;obtain⟨fo,fs,y1,y2,⟨ho0,ho1⟩,hSG⟩:=hle _ _ _ z1;have hWsz:W.heap.size<=w'.heap.size:=fC hg2.size hC2.aQ.size;have hun:∀b,b<W.heap.size->¬(b=b7\/fp' b)->w'.heap[b]?=W.heap[b]?:=λb hb hf=>by
     rw[hC2.aQ.same hg2.mu ⟨da hb hg2.size,λho=>absurd (hg2.ow b hb ho) hf⟩,hg2.old b hb hf]
    have hS3s:=hS3.size;have hsx:∀b,b<w.heap.size->fs b->f6 b:=λb hb h=>by
     rcases z3 b (da hb hS3s) ((y1 b).2 (.inr h))with h2|h2
     .exact absurd h (y2 b ((ho0 b).2 h2))
     .exact hS2 b hb h2
    refine⟨⟨hWsz,λk o hk ho hc=>?_⟩,⟨?_,?_⟩,fs,GA.AP (λc hc=>by
     unfold gZ at hc;obtain⟨t,_,rfl⟩:=mX.1 hc;exact⟨_,rfl⟩) _ _ _ _ hSG,hsx,⟨?_,?_,?_,fC hS3s hWsz,λb hb hf=>?_⟩⟩
    .rw[hun k (kn ho) (λh=>?_)]
     .exact ho
     .rcases h with rfl|h
      .omega
      .obtain⟨m1,A,e,m2,_⟩:=hS
       have:=(m1 k).1 h;subst this;rw[ho]at m2;cases m2;cases hc
    .refine hun c1 (da (gp4 c1 hc1f) hS3s) (λh=>?_)
     rcases h with rfl|h
     .exact hb7X (gp2 _ hc1f)
     .exact hc1x ((q1 _).2 (.inr (hS2 c1 (gp4 c1 hc1f) h)))
    .refine hun bb (da hbbl hS3s) (λh=>?_)
     rcases h with h|h
     .exact hbb7 h.symm
     .exact hbbx bb (hf6 bb (hS2 bb hbbl h)) rfl
    .exact(hC2.aQ.os.trans hg2.os).trans hS3.os
    .exact(hC2.aQ.tape.trans hg2.tape).trans hS3.tape
    .exact(hC2.aQ.output.trans hg2.output).trans hS3.output
    .by_cases e1:b=b7
     .subst e1;rw[ho1,hb7]
     rw[hun b (da hb hS3s) (λh=>h.elim e1 (λh=>hf (hS2 b hb h))),hS3.block b hb hf]
  case done=>
   rintro D xs W hD rfl ⟨fp',hS,hS2,hS3⟩ hDh;have hval:nB EE (List.range LB.length)=vi:=by
    rw[<-hEE,HT,hLBl,<-hLB,Om hvb2.1 p'];exact zG hvb2.1 (by
     have h8:(256:Int)^8=18446744073709551616:=p';omega)
   have hnx:gZ vs i vi=gZ vs (i+1) 0:=by rw[<-hvi];exact aaI vs i
   rw[hval,hnx]at hS;have hfAl:∀b,fA b->b<w.heap.size:=λb h=>gp4 b (hfA b h)
   have hDf:¬fp' D:=λh=>by
    obtain⟨m1,A,e,m2,_⟩:=hS;have:=(m1 D).1 h;subst this;rw[hDh]at m2;cases m2
   have hAx:∀b,fA b->¬f6 b:=λb h h2=>q2 b h h2
   obtain⟨κ',hn3,hg3,hC3,_⟩:=hg.call (w':=W) (R':=((GA.cQ.star (GA.marks Ds)).star (GA.mark D)).star (.aJ b6 (gZ vs (i+1) 0))) (fp:=fp) (fp':=λb=>(fA b\/b=D)\/fp' b) hC gp2 gp3
    ⟨λb=>fA b\/b=D,fp',λ_=>dr,λb h h2=>(by
     rcases h with h|rfl
     .exact hAx b h (hS2 b (hfAl b h) h2)
     .exact hDf h2),⟨fA,λb=>b=D,λ_=>dr,λb h e=>by have:=hfAl b h;omega,GA.loc _ hS3.size (λb hb hh=>hS3.block b hb (λhx=>by
      rcases hh with hh|hh
      .exact hAx b hh hx
      .exact hh (.inl (gp2 b (hf6 b hx))))) (λb hb hx=>by
      rcases hx with hx|(hx|hx)|hx
      .exact hx
      .exact .inl (gp2 b (hfA b hx))
      .omega
      .exact .inl (gp2 b (hf6 b (hS2 b hb hx)))) hAm,λ_=>dr,hDh⟩,GA.AP (λc hc=>by
     unfold gZ at hc;obtain⟨t,_,rfl⟩:=mX.1 hc;exact⟨_,rfl⟩) _ _ _ _ hS⟩
    (λb hb hx=>by
     rcases hx with(hx|hx)|hx
     .exact hfA b hx
     .omega
     .exact hf6 b (hS2 b hb hx)) ⟨hS3.os,hS3.tape,hS3.output,hS3.size,λb hb hf=>hS3.block b hb (λhx=>hf (hf6 b hx))⟩
   have hC3':av κ' β (St.live ⟨[(2,.ptr 2 0),(4,.ns .u8 ZS),(6,b6),(7,.ptr 7 0),(25,(i:Int)),(35,.r (.func (.func 113) #[] #[.pointer (T' ⟨c1,0,Y'⟩)]))],[(2,⟨Z',.c ZR⟩),(7,⟨Z',.c [(i:Int)]⟩)]⟩).get (St.live ⟨[(2,.ptr 2 0),(4,.ns .u8 ZS),(6,b6),(7,.ptr 7 0),(25,(i:Int)),(35,.r (.func (.func 113) #[] #[.pointer (T' ⟨c1,0,Y'⟩)]))],[(2,⟨Z',.c ZR⟩),(7,⟨Z',.c [(i:Int)]⟩)]⟩).ae a W:=by
    rw[St.iD,St.gm];exact hC3
   obtain⟨hg4,hC4⟩:=hg3.defer hC3' (np D::Ds.map np);have hadf:a.defers=Ds.map np:=hC.gp.trans hg.df;generalize hA4:({a with defers:=np D::Ds.map np}:Act)=a4 at hC4;show Code.wp a0c _ _ {a with defers:=np D::a.defers} W;rw[hadf,hA4];refine wp_mono ((?_:aa a0c 72 ⟨W0,X0,fp0,sub0,lt0,(D::Ds).map np⟩ (λ_=>Y') _ (λe σ' R'=>e=.normal/\Le σ' ⟨[(2,.ptr 2 0),(4,.ns .u8 ZS),(6,b6),(25,((i+1:Nat):Int))],[(2,⟨Z',.c ZR⟩)]⟩/\R'=(GA.cQ.star (GA.marks (D::Ds))).star (.aJ b6 (gZ vs (i+1) 0))) _ ((GA.cQ.star (GA.marks (D::Ds))).star (.aJ b6 (gZ vs (i+1) 0)))) ⟨κ'.nt,κ'.w0,κ'.X0,κ'.mu,κ'.ow,np D::Ds.map np,κ'.bC⟩ β a4 W (hn3.trans hn) (hg4.le (GA.mono (GA.assoc _ _ _) (GA.le.refl _))) hC4) (λe a' w'⟨κ5,σ5,β5,R5,⟨he,hle,hR5⟩,hn5,hg5,hC5⟩=>?_)
   rotate_left
   .subst he
    subst hR5;obtain⟨β6,hC6⟩:=hle κ5 β5 a' w' hC5;exact⟨⟨(i+1,D::Ds),by show i+1<=5;omega⟩,κ5,β6,by show 5-(i+1)<5-i;omega,hn5,hg5,hC6⟩
   clear hg4 hC4 hC3' hC3 hg3 hS hS2 hS3 hcell hget hI0 hg hC;refine aa.of (T:=ag a0a) ?_;refine aK ?_;exact⟨rfl,Le.mk a0b,rfl⟩
  case stop=>
   rintro D c pre W _ _ h;exact h.elim
 obtain rfl:i=5:=f';refine gW hE (show¬((5:Nat):Int)<5 from f') ?_;refine cR.EF (cR.dz rfl (cR.Xl (λκ β a w hn hg hC=>?_)));show Code.wp a0c _ _ a w;refine wp_mono ((?_:aa a0c 72 _ (λ_=>Y') _ (λe σ' R'=>R'=GA.cQ.star (GA.marks Ds)/\dM (ag a0a) [.cell 2 24,.tmp 3] [24,27] (λr R=>r=.aU [.agg j.cs,(0:Int)]/\R=.cQ) e σ'.live .cQ) _ _) κ β a w hn hg hC) (λe a' w'⟨κ5,σ5,β5,R5,⟨hR0,hq⟩,hn5,hg5,hC5⟩=>?_)
 rotate_left
 .subst hR0
  exact Yz (en:=⟨W0,X0,fp0,sub0,lt0,Ds.map np⟩) hE.hT results31 rfl rfl hg5 hC5 hq
 clear hg hC hn;subst hZR;have hE64:∃x,j.E+64=x:=⟨_,rfl⟩;obtain⟨E64,hE64⟩:=hE64;have hnv:gZ vs 5 0=[.r (.int .u64 j.F),.r (.int .u64 E64),.r (.int .u64 j.A),.r (.int .u64 j.B),.r (.int .u64 j.M)]:=by rw[<-hvs,<-hE64];rfl
 rw[hnv];have r2:(2==dm)=false:=rfl;have r4:¬2=dm:=p';have r6:(dm==2)=false:=rfl;have r8:¬dm=2:=p';have hmx:¬65535<(if(if j.F<E64 then E64 else j.F)<j.M then j.M else(if j.F<E64 then E64 else j.F)):=by
  repeat' split
  all_goals omega
 refine aa.seq (aa.seq (aa.gd dm 6 p' p' rfl rfl (gr rfl) ?_));refine aa.of (T:=ag a0a) ?_;refine cy hmx ?_;refine⟨_,rfl,?_⟩;show aa _ _ _ _ _ _ _ _;refine gF ?_;refine aa.dS (σ':=⟨[(2,.ptr 2 0),(6,b6)],[(2,⟨Z',.c [AV.r (.int .i64 0),(0:Int),.r (.int .u64 0),.r (.int .u64 0),(0:Int)]⟩)]⟩) (Le.mk (A2 r2 r4)) (GA.le.refl _) ?_;have wF:IntKind.i64.wrap j.F=j.F:=by rw[qZ];omega
 have wE:IntKind.i64.wrap E64=E64:=by rw[qZ];omega
 have wM:IntKind.i64.wrap j.M=j.M:=by rw[qZ];omega
 have hEm:E64+-64=j.E:=f';refine aa.seq (aa.gd dm 6 p' p' rfl rfl (gr rfl) ?_);refine aa.of (T:=ag a0a) ?_;refine cy (A8 r2 r4 r6 r8 wF wE wM hEm) ?_;refine⟨_,rfl,?_⟩;show aa _ _ _ _ _ _ _ _;refine aa.ja eZ.drop ?_;refine aa.ret ?_;exact⟨rfl,dM.of ⟨rfl,rfl⟩ (aO.mk (A2 r2 r4) rfl)⟩
end
section
open Go Go.RowKit Go.Proofs
def py(f:Int->List Int)(a:Int):Nat->List Int
 |0=>[]
 |k+1=>py f a k++f (a+k)
theorem Me{f:Int->List Int}{a:Int}(hf:∀k,(f k).length=512):∀k,(py f a k).length=512*k
 |0=>rfl
 |k+1=>by
  show(py f a k++f (a+k)).length=_;rw[aV,Me hf k,hf];omega
theorem Vl{j:JN}{d N m:Nat}{n at0:Int}{f:Int->List Int}{c:Nat}{XS:List Int}(hj:j.ok)(a1:JT j.F j.E j.A j.B j.M)(hs:nG j.A j.B=Z')(hn:6<=n)(bb:n<=4096)(hc:c<=999000)
 (bL:cP (((f 0).drop 4).take 8)=0) (bM:cP (((f 2).drop 4).take 8)=1) (hm:cP (((f 2).drop 20).take 8)=m) (bB:m<=512) (bA:48<=m)
 (he:kT ((f 2).take 36) (fO qR 1 0 ((f 3).take m))=Z') (aw:((f 3).take m).take 48=j.bytes) (hf:∀k,(f k).length=512) (hB:∀k,B8 (f k))
 (bz:cP (((f 4).drop 20).take 8)=8) (bt:kT ((f 4).take 36) (fO lN 1 0 ((f 5).take 8))=Z') (hN:cP ((f 5).take 8)=N)
 (a5:6+(2*((j.B-j.A+4-1)/4)+2)=at0) (h0:0<=at0) (bu:(N:Int)<=(n-at0)*512):
 aA a0c 26 [d] (aZ d n f c) (λr R=>∃v,r=.aU [.r v,(0:Int)]/\R=(aZ d n f c).star (dE v ((py f at0 ((N+511)/512)).take N))):=by
 have hE:=di IQ;have a7:=Z9 (b:=d) (c:=c) hn bb f' bL bM hm bB he hf hB;have bc:=aaS (d:=d) (m:=8) bb hc hn p' p' bz bt hf hB;obtain⟨D,hD⟩:=nm ((f 5).take 8);have af:D.length=8:=by rw[<-hD,fT,hf];rfl
 have ab:B8 D:=by
  rw[<-hD];exact(hB 5).BM 8
 rw[hD]at bc hN;obtain⟨YS,a3⟩:=nm ((f 3).take m);have a4:YS.length=m:=by rw[<-a3,fT,hf];omega
 rw[a3]at a7 aw;have bF:¬(m:Int)<48:=f';have ay:=NY hj;obtain⟨BS,bm⟩:=nm (j.bytes);rw[bm]at aw ay;rcases j with⟨F,E,A,B,M⟩
 dsimp only at a1 hs a5;unfold JN.cs at ay;have bK:((8:Int)!=8)=false:=rfl;have bE:((1:Int)==0)=false:=rfl;have ao:8<=D.length:=f';have s0:=mq ab 0 f' ao (P:=1) p';have d0:=ab.1 0 f';have s1:=mq ab 1 f' ao (P:=256) p';have d1:=ab.1 1 f';have s2:=mq ab 2 f' ao (P:=65536) p';have d2:=ab.1 2 f';have s3:=mq ab 3 f' ao (P:=16777216) p';have d3:=ab.1 3 f';have s4:=mq ab 4 f' ao (P:=4294967296) p';have d4:=ab.1 4 f';have s5:=mq ab 5 f' ao (P:=1099511627776) p';have d5:=ab.1 5 f';have s6:=mq ab 6 f' ao (P:=281474976710656) p';have d6:=ab.1 6 f';have s7:=mq ab 7 f' ao (P:=72057594037927936) p';have d7:=ab.1 7 f';have z0:cP (D.take 0)=0:=rfl;rw[z0]at s0;obtain⟨v1,z1⟩:=nm (cP (D.take 1));obtain⟨v2,z2⟩:=nm (cP (D.take 2));obtain⟨v3,z3⟩:=nm (cP (D.take 3));obtain⟨v4,z4⟩:=nm (cP (D.take 4));obtain⟨v5,z5⟩:=nm (cP (D.take 5));obtain⟨v6,z6⟩:=nm (cP (D.take 6));obtain⟨v7,z7⟩:=nm (cP (D.take 7));obtain⟨v8,z8⟩:=nm (cP (D.take 8));have bd:v8=N:=by rw[<-z8,<-hN,gG f']
 obtain⟨c0,y0⟩:=nm (D.getD 0 0);rw[y0]at d0;rw[y0,show 0+1=1 from rfl,z1]at s0;obtain⟨c1,y1⟩:=nm (D.getD 1 0);rw[y1]at d1;rw[y1,z1,show 1+1=2 from rfl,z2]at s1;obtain⟨c2,y2⟩:=nm (D.getD 2 0);rw[y2]at d2;rw[y2,z2,show 2+1=3 from rfl,z3]at s2;obtain⟨c3,y3⟩:=nm (D.getD 3 0);rw[y3]at d3;rw[y3,z3,show 3+1=4 from rfl,z4]at s3;obtain⟨c4,y4⟩:=nm (D.getD 4 0);rw[y4]at d4;rw[y4,z4,show 4+1=5 from rfl,z5]at s4;obtain⟨c5,y5⟩:=nm (D.getD 5 0);rw[y5]at d5;rw[y5,z5,show 5+1=6 from rfl,z6]at s5;obtain⟨c6,y6⟩:=nm (D.getD 6 0);rw[y6]at d6;rw[y6,z6,show 6+1=7 from rfl,z7]at s6;obtain⟨c7,y7⟩:=nm (D.getD 7 0);rw[y7]at d7;rw[y7,z7,show 7+1=8 from rfl,z8]at s7;obtain⟨C0,a0⟩:∃C:List AV,[AV.r (.int .i64 F),(E:Int),.r (.int .u64 A),.r (.int .u64 B),(M:Int)]=C:=⟨_,rfl⟩;have bO:C0.length=5:=by rw[<-a0];rfl
 refine aA.body hE func26 ntmps26 results26 (λen=>?_);refine aE ?_;refine aa.seq (aa.block (aa.bG ?_));refine az 1 ?_;refine gE (ag a0a) (Au d n f c) func67 ?_;refine az 1 ?_;refine gN ?_;refine aa.dz rfl ?_;refine aa.bG ?_;refine az 1 ?_;refine gE (ag a0a) (rB d n f c) func58 ?_;have bH:¬n<6:=f';refine fG 2 bH ?_;refine gN ?_;refine gF ?_;refine aa.bG ?_;refine az 1 ?_;refine gE (ag a0a) a7 func68 ?_;refine az 7 ?_;refine gN ?_;refine aa.seq (a9 (A2 a4 bF) ?_);refine gF ?_;refine aa.bG ?_;refine fG 2 (A3 a4 bA aw) ?_;refine sZ (ag a0a) (aZ d n f c) ay (GA.qB _) func31 ?_;refine GL.le (GA.Dk _) ?_;refine az 6 ?_;refine gN ?_;refine aa.bG ?_;refine az 1 ?_;refine gC (ag a0a) bc func61 (λr R' hp=>?_);obtain⟨bj,rfl,rfl⟩:=hp;refine⟨rfl,GL.ja eZ.drop ?_⟩;refine az 7 ?_;refine gN ?_;refine aa.seq (a9 (A3 af bK bE) ?_);refine gF ?_;refine aE ?_;refine aa.seq (a9 af ?_);refine aa.block ?_;subst a0;refine aa.loop (ι:={k:Nat // k<=8}) (λk=>(⟨[(0,d),(7,.ptr 7 0),(12,.r (.int .u64 (cP (D.take k.1)))),(63,.ns .u8 D),(64,(8:Int)),(65,(k.1:Int))],[(7,⟨Z',.c [(F:Int),(E:Int),.r (.int .u64 A),.r (.int .u64 B),(M:Int)]⟩)]⟩,aZ d n f c)) (λk=>8-k.1) ⟨0,dU _⟩ ?_ ?_ ?_
 .exact Le.mk (show cP []=0 from rfl)
 .exact GA.le.refl _
 rintro⟨k,hk⟩;dsimp only;have br:k=0\/k=1\/k=2\/k=3\/k=4\/k=5\/k=6\/k=7\/k=8:=f';rcases br with rfl|rfl|rfl|rfl|rfl|rfl|rfl|rfl|rfl
 .rw[z0]
  refine aE ?_;refine aa.seq (gT ?_);refine aa.seq (aa.block ?_);refine a9 (A2 af y0) ?_;refine aa.of (T:=ag a0a) ?_;refine cy (A2 y0 s0) ?_;show aa _ _ _ _ _ _ _ _;refine aa.of (T:=ag a0a) ?_;refine aT ?_;exact⟨⟨1,f'⟩,Le.mk z1,GA.le.refl _,N'⟩
 .rw[z1]
  refine aE ?_;refine aa.seq (gT ?_);refine aa.seq (aa.block ?_);refine a9 (A2 af y1) ?_;refine aa.of (T:=ag a0a) ?_;refine cy (A2 y1 s1) ?_;show aa _ _ _ _ _ _ _ _;refine aa.of (T:=ag a0a) ?_;refine aT ?_;exact⟨⟨2,f'⟩,Le.mk z2,GA.le.refl _,N'⟩
 .rw[z2]
  refine aE ?_;refine aa.seq (gT ?_);refine aa.seq (aa.block ?_);refine a9 (A2 af y2) ?_;refine aa.of (T:=ag a0a) ?_;refine cy (A2 y2 s2) ?_;show aa _ _ _ _ _ _ _ _;refine aa.of (T:=ag a0a) ?_;refine aT ?_;exact⟨⟨3,f'⟩,Le.mk z3,GA.le.refl _,N'⟩
 .rw[z3]
  refine aE ?_;refine aa.seq (gT ?_);refine aa.seq (aa.block ?_);refine a9 (A2 af y3) ?_;refine aa.of (T:=ag a0a) ?_;refine cy (A2 y3 s3) ?_;show aa _ _ _ _ _ _ _ _;refine aa.of (T:=ag a0a) ?_;refine aT ?_;exact⟨⟨4,f'⟩,Le.mk z4,GA.le.refl _,N'⟩
 .rw[z4]
  refine aE ?_;refine aa.seq (gT ?_);refine aa.seq (aa.block ?_);refine a9 (A2 af y4) ?_;refine aa.of (T:=ag a0a) ?_;refine cy (A2 y4 s4) ?_;show aa _ _ _ _ _ _ _ _;refine aa.of (T:=ag a0a) ?_;refine aT ?_;exact⟨⟨5,f'⟩,Le.mk z5,GA.le.refl _,N'⟩
 .rw[z5]
  refine aE ?_;refine aa.seq (gT ?_);refine aa.seq (aa.block ?_);refine a9 (A2 af y5) ?_;refine aa.of (T:=ag a0a) ?_;refine cy (A2 y5 s5) ?_;show aa _ _ _ _ _ _ _ _;refine aa.of (T:=ag a0a) ?_;refine aT ?_;exact⟨⟨6,f'⟩,Le.mk z6,GA.le.refl _,N'⟩
 .rw[z6]
  refine aE ?_;refine aa.seq (gT ?_);refine aa.seq (aa.block ?_);refine a9 (A2 af y6) ?_;refine aa.of (T:=ag a0a) ?_;refine cy (A2 y6 s6) ?_;show aa _ _ _ _ _ _ _ _;refine aa.of (T:=ag a0a) ?_;refine aT ?_;exact⟨⟨7,f'⟩,Le.mk z7,GA.le.refl _,N'⟩
 .rw[z7]
  refine aE ?_;refine aa.seq (gT ?_);refine aa.seq (aa.block ?_);refine a9 (A2 af y7) ?_;refine aa.of (T:=ag a0a) ?_;refine cy (A2 y7 s7) ?_;show aa _ _ _ _ _ _ _ _;refine aa.of (T:=ag a0a) ?_;refine aT ?_;exact⟨⟨8,f'⟩,Le.mk (hN.trans bd.symm),GA.le.refl _,N'⟩
 rw[z8,bd];refine aE ?_;refine aa.seq (gX ?_);obtain⟨L,hL⟩:=nm (n-at0);rw[hL]at bu;have bD:(if 0<L then L else 0)=L:=by split<;>omega
 have wL:IntKind.u64.wrap L=L:=by rw[eP];omega
 have bN:IntKind.u64.wrap (L*512)=L*512:=by rw[eP];omega
 have bn:¬L*512<(N:Int):=f';refine a9 (A3 a1 hs a5) ?_;refine aa.seq (aa.bG ?_);refine az 2 ?_;refine gE (ag a0a) (rB d n f c) func58 ?_;refine fG 6 (A5 hL bD wL bN bn) ?_;refine gN ?_;refine gF ?_;refine aa.bG ?_;refine GL.val (.r (.slice Y' 0 0)) rfl (λt ht=>by cases ht;decide) (λκ β a w hn hg hC=>⟨_,rfl,RI.r _⟩) ?_;refine GL.nil ?_;obtain⟨K,hK⟩:=nm ((N+511)/512);rw[hK];have bs:=Me (f:=f) (a:=at0) hf;refine aa.seq (aa.block ?_);refine aa.loop (ι:={k:Nat // k<=K}×Value) (λp=>(⟨[(0,d),(12,.r (.int .u64 (N:Int))),(15,(at0+(p.1.1:Int):Int)),(16,.r p.2)],[]⟩,(aZ d n f c).star (dE p.2 (py f at0 p.1.1)))) (λp=>K-p.1.1) (⟨0,dU _⟩,.slice Y' 0 0) ?_ ?_ ?_
 .exact Le.mk (vt at0)
 .exact GA.aay
 rintro⟨⟨k,hk⟩,u⟩;dsimp only;have ax:=bs k;have wk:IntKind.u64.wrap (512*(k:Int))=512*(k:Int):=by rw[eP];omega
 have a6:((py f at0 k).length:Int)=512*(k:Int):=by rw[ax];omega
 by_cases hlt:k<K
 .have bx:512*(k:Int)<(N:Int):=f'
  refine aa.seq (aa.bG ?_);refine az 1 ?_;refine GL.Ow rfl rfl rfl p' rfl ?_;rw[a6];refine fG 3 (A2 wk bx) ?_;refine gN ?_;refine gT ?_;refine aa.block (aa.bG ?_);refine az 2 ?_;refine pD (ag a0a) (dE u (py f at0 k)) (vT d n f c (at0+(k:Int)) f' f' f') (GA.comm _ _) func69 (λr R' hp=>?_);obtain⟨rfl,rfl⟩:=hp;refine⟨rfl,GL.le (GA.comm _ _) ?_⟩;refine az 5 ?_;refine gN ?_;refine aa.bG ?_;refine az 2 ?_;refine GL.vM (ys:=f (at0+(k:Int))) rfl rfl rfl p' rfl (.inl rfl) (by rw[hf];decide) (by rw[hf,ax];omega) (λv'=>?_);refine az 1 ?_;refine gN ?_;refine aa.of (T:=ag a0a) ?_;refine aT ?_;exact⟨(⟨k+1,f'⟩,v'),Le.mk (show at0+(k:Int)+1=at0+((k+1:Nat):Int)from f'),GA.le.refl _,N'⟩
 have bw:k=K:=f';subst bw;have eJ:¬512*(k:Int)<(N:Int):=f';refine aa.seq (aa.bG ?_);refine az 1 ?_;refine GL.Ow rfl rfl rfl p' rfl ?_;rw[a6];refine fG 3 (A2 wk eJ) ?_;refine gN ?_;refine gX ?_;refine aa.bG ?_;refine az 2 ?_;refine GL.VQ (k:=.u64) (N:=N) rfl rfl rfl p' rfl rfl (by rw[ax];omega) (λv'=>?_);refine az 2 ?_;refine gN ?_;refine aa.ret ?_;exact dM.of ⟨v',rfl,rfl⟩ (aO.mk a0b rfl)
end
section
variable {a e ep i k nx:Int}
def FD(f:Int->List Int):Prop:=∀k,(f k).length=512/\∀x∈f k,0<=x/\x<256
theorem FD.b8{f:Int->List Int}(h:FD f)(k:Int):B8 (f k):=B8.of (h k).2 (by rw[(h k).1];decide)
theorem Hf:FD (λ_=>Zb):=λk=>⟨by simp[Zb],λx hx=>by
 have:x=0:=Kd hx;omega⟩
theorem zw(f:Int->List Int)(i:Int)(xs:List Int):ib f i xs i=xs++List.replicate (512-xs.length) 0:=au rfl
theorem nI{f:Int->List Int}{xs:List Int}(h:k≠i):ib f i xs k=f k:=aq h
theorem FD.wr{f:Int->List Int}{xs:List Int}(h:FD f)(hl:xs.length<=512)(hx:∀x∈xs,0<=x/\x<256):FD (ib f i xs):=λk=>by
 by_cases e:k=i
 .subst e
  rw[zw];refine⟨by rw[aV,pe];omega,λx hm=>?_⟩;rcases jm.1 hm with hm|hm
  .exact hx x hm
  .have:x=0:=Kd hm
   omega
 .rw[nI e]
  exact h k
theorem NB(s:ByteArray)(a b:Int)(data:List Int):∀x∈fO s a b data,0<=x/\x<256:=by
 intro x hx;unfold fO at hx;rcases jm.1 hx with h|h
 .exact HC s a b data x h
 .exact uM _ _ x h
section
variable {f:Int->List Int}{xs:List Int}
theorem FD.save(h:FD f)(hl:xs.length<=512)(hx:∀x∈xs,0<=x/\x<256):FD (mP f xs):=
 ((h.wr J' J').wr hl hx).wr (by rw[yv];decide) (NB _ _ _ _)
theorem FD.app(h:FD f)(hl:xs.length<=512)(hx:∀x∈xs,0<=x/\x<256):FD (gx f a e ep nx xs):=by
 unfold gx;refine FD.wr ?_ (by rw[yv];decide) (NB _ _ _ _);split
 .exact(h.wr hl hx).wr J' J'
 .exact h.wr hl hx
theorem T3(h:k<a):gx f a e ep nx xs k=f k:=by
 unfold gx;rw[nI f'];split
 .rw[nI f',nI f']
 .rw[nI f']
theorem ab8(xs:List Int)(k:Nat):(pO xs k).length<=512:=by unfold pO;rw[fT];omega
theorem ab7{xs:List Int}(hx:∀x∈xs,0<=x/\x<256)(k:Nat):∀x∈pO xs k,0<=x/\x<256:=λx hm=>hx x (Ct (zS hm))
theorem FD.pieces{a:Int}(h:FD f)(hx:∀x∈xs,0<=x/\x<256):∀k,FD (mR f a xs k)
 |0=>h
 |k+1=>(FD.pieces h hx k).wr (ab8 xs k) (ab7 hx k)
theorem Ss{a i:Int}(h:i<a):∀k,mR f a xs k i=f i
 |0=>rfl
 |k+1=>by
  show ib _ _ _ i=_;rw[nI f'];exact Ss h k
theorem Sr{a:Int}:∀(k i:Nat),i<k->mR f a xs k (a+i)=pO xs i++List.replicate (512-(pO xs i).length) 0
 |0,i,h=>f'
 |k+1,i,h=>by
  show ib _ _ _ _=_
  by_cases e:i=k
  .subst e
   exact zw _ _ _
  .rw[nI f']
   exact Sr k i f'
theorem Mg{g:Int->List Int}{a:Int}{K:Nat}(hg:∀i:Nat,i<K->g (a+i)=mR f a xs K (a+i))(hK:512*K<=xs.length+511):∀k,k<=K->py g a k=(xs++List.replicate 512 0).take (512*k)
 |0,_=>by simp[py]
 |k+1,h=>by
  show py g a k++g (a+k)=_;rw[Mg hg hK k f',hg k f',Sr K k f'];have e:512*(k+1)=512*k+512:=f';have hk:512*k<=xs.length:=f';rw[e,List.take_add]
  congr 1
  unfold pO;rw[List.drop_append_of_le_length hk,Cv,fT,j6,Te]
  congr 2
  omega
theorem Vg{g:Int->List Int}(hg:∀i:Nat,i<(xs.length+511)/512->g (a+i)=mR f a xs ((xs.length+511)/512) (a+i)):(py g a ((xs.length+511)/512)).take xs.length=xs:=by
 rw[Mg hg f' _ (aM _),Kr,show min xs.length (512*((xs.length+511)/512))=xs.length from f',kM rfl]
end
theorem RF{L X R:List Int}{m k:Nat}(hL:L.length=m)(hX:X.length=k):((L++(X++R)).drop m).take k=X:=by rw[jy hL,kM hX]
theorem ND{s:ByteArray}{b:Int}{data:List Int}(hs:s.size=4)(h0:0<=a)(h1:a<18446744073709551616)(hd:data.length<=512){S:List Int}(hS:S=fO s a b data++List.replicate (512-(fO s a b data).length) 0):
 cP ((S.drop 4).take 8)=a/\cP ((S.drop 20).take 8)=data.length/\S.take 36=fO s a b data:=by
 have hl:=yv s a b data;rw[hs]at hl;have h4:(jX s).length=4:=by unfold jX;rw[fJ,qX];exact hs
 have h8:(256:Int)^8=18446744073709551616:=p';have ab:S.take 36=fO s a b data:=by rw[hS];exact kM hl
 obtain⟨Z,hZ⟩:=nm (List.replicate (512-(fO s a b data).length) (0:Int));rw[hZ]at hS;obtain⟨F,hF⟩:∃F,fO s a b data=jX s++aI a 8++aI b 8++aI data.length 8++F:=⟨_,rfl⟩;refine⟨?_,?_,ab⟩
 .rw[hS,hF]
  simp only[dH];rw[RF h4 (cX _ _),DP _ h0,h8];omega
 .rw[hS,hF,dH,dH]
  rw[RF (by rw[aV,aV,h4,cX,cX]) (cX _ _),DP _ f',h8];omega
theorem Lt(xs:List Int):kT xs xs=true:=fu rfl
theorem xi:cP ((Zb.drop 4).take 8)=0/\cP ((Zb.drop 20).take 8)=0/\kT (Zb.take 36) (fO lN 1 0 [])=false:=by
 refine⟨p',p',?_⟩
 decide
end
section
open Go Go.RowKit Go.Proofs
section
variable {n:Int}{zs:List Int}{b s:Nat}
@[push_cast] def aeC:Sp where
 kind:=0
 pre
  |[.ns .u64 xs,.ns .u64 ys]=>xs=ys/\xs.length<=1000
  |_=>False
 res _:=.r (.bool Z')
theorem acg:aj a0c 74 aeC:=by
 refine sz λargs hp=>?_
 split at hp;rotate_left;cases hp;rename_i xs ys;obtain⟨rfl,hl⟩:=hp;have hE:=env dC;obtain⟨N,hN⟩:=nm (xs.length);rw[hN]at hl;have aw:((N:Int)!=N)=false:=J';refine aB func74 ntmps74 ?_;refine an (A2 hN aw) ?_;refine ai.loop (ι:={k:Nat // k<=N}) (λk=>⟨[(0,xs),(1,xs),(12,(N:Int)),(13,(k.1:Int))],[]⟩) (λk=>N-k.1) ⟨0,dU _⟩ ?_ ?_
 .exact Le.mk a0b
 rintro⟨k,hk⟩;dsimp only
 by_cases hlt:k<N
 .have ab:(k:Int)<N:=f'
  obtain⟨c,ec⟩:=nm (xs.getD k 0);have af:(c !=c)=false:=J';refine gl ab ?_;refine ai.seq (ai.eo rfl (ai.skip ?_));change ai _ _ _ (.seq _ _) _ _;refine ai.seq (ai.block (ai.seq ?_));refine aT ?_;refine ai.seq ?_;refine ai.regionF [] [] [] hE.hT hE.hS hE.hm gy (mw hE (A4 hN ab ec af) ?_);change ai _ _ _ (.cond _ _ _) _ _;refine aF ?_;refine aT ?_;exact⟨⟨k+1,f'⟩,Le.mk a0b,N'⟩
 have ao:k=N:=f';subst ao;have eJ:¬(k:Int)<k:=f';refine gl eJ ?_;refine ai.seq (ai.dz rfl (ai.exit ?_));change ai _ _ _ (.seq _ _) _ _;refine aK ?_;exact pL
theorem Bv(h0:0<=n)(hn:n<256^s)(hs:s<=8)(ab:0<s)(hB:B8 (aI n s++zs)):
 aA a0c 29 [b,(s:Int)] (jS b (aI n s++zs)) (λr R=>r=.r (.int .u64 n)/\R=jS b zs):=by
 have hl:(aI n s).length=s:=cX n s;have h:=abS (b:=b) (size:=s) hB (by rw[aV,hl];omega) (by rw[aV,hl];omega);rw[kM hl,jy hl,Om h0 hs,zG h0 hn]at h;exact h
theorem Bt{m:Int}(h0:0<=n)(hn:n<256^s)(hs:s<=8)(af:0<s)(hm:n<=m)(ao:n<9223372036854775808)(hB:B8 (aI n s++zs)):
 aA a0c 32 [b,(s:Int),.r (.int .u64 m)] (jS b (aI n s++zs)) (λr R=>r=.r (.int .i64 n)/\R=jS b zs):=by
 have hE:=env dC;have ab:¬m<n:=f';have hw:IntKind.i64.wrap n=n:=by rw[qZ];omega
 refine aA.body hE func32 ntmps32 results32 (λen=>?_);refine aE ?_;refine aa.bG ?_;refine az 2 ?_;refine gE (ag a0a) (Bv (b:=b) h0 hn hs af hB) func29 ?_;refine az 1 ?_;refine gN ?_;refine aa.seq (a9 ab ?_);refine gF ?_;refine a9 hw ?_;refine aa.ret ?_;exact pG
end
end
section
open Go Go.RowKit Go.Proofs
theorem ZQ(ds:List Int)(k:Nat)(hk:k<ds.length):jc (ds.drop k)=aI (ds.getD k 0) 8++jc (ds.drop (k+1)):=by
 rw[sj hk,cF,ed hk]
 rfl
theorem acs(z:Int):0<=oK z/\oK z<2:=by unfold oK;split<;>omega
theorem Wb{B:Nat}(hB:2<=B)(n:Nat):0<(iN B n).length->(iN B n).getD ((iN B n).length-1) 0≠0:=by
 refine Df (C:=λn=>0<(iN B n).length->(iN B n).getD ((iN B n).length-1) 0≠0) hB ?_ ?_ n
 .rw[nY];simp
 .intro n hn ih _
  rw[vS hB hn]
  by_cases h0:n/B=0
  .rw[h0,nY]
   show((n%B:Nat):Int)≠0;have h1:n<B:=(Nat.div_eq_zero_iff.1 h0).resolve_left f';rw[sD h1];omega
  .have ab:0<(iN B (n/B)).length:=ue.2 (λe=>h0 ((MH hB).1 e))
   have h2:=ih ab;obtain⟨l,hl⟩:∃l,(iN B (n/B)).length=l+1:=⟨_,(Tq ab).symm⟩;rw[hl,Ku]at h2;rw[gM,hl,Ku,Cq];exact h2
theorem V9{n:Nat}(h:0<(dg n).length):(dg n).getD ((dg n).length-1) 0≠0:=Wb p' n h
theorem UX(b:Bool):a0c.built 36 [(0,.bool b)]=T' #[.bool b,.slice Y' 0 0]:=by cases b<;>kernel_rfl
theorem Zd:∃i,a0c.info? 22=T' i/\i.zero=T' (.int .u64 0)/\i.size=1/\i.bytes=8:=by
 have h:(a0c.info? 22).bind (·.zero)=T' (.int .u64 0):=I';obtain⟨i,h1,h2⟩:=vE.1 h;have h3:(a0c.info? 22).map (λi=>(i.size,i.bytes))=T' (1,8):=I';rw[h1]at h3;simp only[ft,aC,db]at h3;exact⟨i,h1,h2,h3.1,h3.2⟩
def BU(xs:List Int):List AV:=xs.map λx=>.r (.int .u64 x)
theorem IT{b m:Nat}{z:Int}{zs:List Int}(hz:(dg z.natAbs).length<=m)(hm:(dg z.natAbs).length<=1000)(hB:B8 (iQ z++zs)):
 aA a0c 73 [b,.r (.int .u64 m)] (jS b (iQ z++zs)) (λr R=>r=zi z/\R=jS b zs):=by
 have hE:=env dC;have a1:=gY (n:=z.natAbs) f';have af:=V9 (n:=z.natAbs);have hs:=acs z;have ao:(oK z==(1:Int))=decide (z<0):=by
  unfold oK
  by_cases h:z<0
  .rw[au h,fu h];rfl
  .rw[aq h,lG h];rfl
 have aw:(dg z.natAbs).length=0->decide (z<0)=false:=λh=>by
  have h1:=vR.1 (lY h);exact lG f'
 obtain⟨N,hN⟩:=nm ((dg z.natAbs).length);obtain⟨ng,bx⟩:=nm (decide (z<0));obtain⟨sg,bB⟩:=nm (oK z);unfold zi;unfold iQ at hB|-;rw[hN]at hz hm aw hB af|-;rw[bB]at hB hs ao|-;rw[bx]at aw ao|-;obtain⟨ds,bc⟩:=nm (dg z.natAbs);rw[bc]at hN a1 hB af|-;rw[dH,dH]at hB|-;have ax:B8 (aI (N:Int) 2++(jc ds++zs)):=by
  have:=hB.kf 1;rwa[jy (cX sg 1)]at this
 have ay:B8 (jc ds++zs):=by
  have:=ax.kf 2;rwa[jy (cX _ 2)]at this
 obtain⟨i22,j1,j2,j3,j4⟩:=Zd;refine aA.sJ hE func73 ntmps73 results73 (λen bz=>?_);refine aE ?_;refine aa.bG ?_;refine az 1 ?_;refine gE (ag a0a) (Bt (b:=b) (s:=1) (n:=sg) (m:=1) hs.1 f' f' f' f' f' hB) func32 ?_;refine fG 1 ao ?_;refine GL.val (.agg [ng,.r (.slice Y' 0 0)]) rfl (λt ht=>by cases ht;decide) (λκ β a' w hn hg hC=>?_) ?_
 .have q0:=RI.aS (v:=.bool ng) (hC.rel 9)
  have hb:=run_build (P:=a0c) w 36 #[(0,.bool ng)] _ (UX ng);refine⟨.agg #[.bool ng,.slice Y' 0 0],?_,RI.agg _ _ (λj=>#[Value.bool ng,.slice Y' 0 0].getD j undef) rfl (λj c hj=>?_) (λj c hj=>?_)⟩
  .have e1:a'.eval (.tmp 9)=.bool ng:=q0
   unfold execOp;simp only[lB,fX,kr,e1,cC,hb,cz,cJ]
  .match j,hj with
   |0,hj=>rfl
   |1,hj=>rfl
  .match j,hj with
   |0,hj=>cases hj;exact RI.r _
   |1,hj=>cases hj;exact RI.r _
 refine az 2 ?_;refine gN ?_;refine aa.bG ?_;refine az 2 ?_;refine gE (ag a0a) (Bt (b:=b) (s:=2) (n:=(N:Int)) (m:=(m:Int)) f' f' f' f' f' f' ax) func32 ?_;refine az 1 ?_;refine gN ?_;refine aa.seq (aE ?_);refine aa.block ?_;refine aa.loop (ι:={k:Nat // k<=N}×Value) (λp=>(⟨[(0,b),(4,.ptr 4 0),(5,.ptr 5 0),(6,(N:Int)),(14,(N:Int)),(15,(p.1.1:Int))],[(5,⟨Z',.c [ng,.r p.2]⟩),(4,⟨Z',.c [a0a,.ns .u64 []]⟩)]⟩,(jS b (jc (ds.drop p.1.1)++zs)).star (kE 22 1 p.1.1 p.2 (BU (ds.take p.1.1))))) (λp=>N-p.1.1) (⟨0,dU _⟩,.slice Y' 0 0) ?_ ?_ ?_
 .exact Le.mk a0b
 .exact GA.Pb
 rintro⟨⟨k,hk⟩,u⟩;dsimp only
 by_cases hlt:k<N
 .have bu:(k:Int)<N:=f'
  obtain⟨c,ec⟩:=nm (ds.getD k 0);have hc:0<=c/\c<18446744073709551616:=by
   have hm:c∈ds:=by rw[<-ec,cF,ed f'];exact qg _
   exact a1.1 c hm
  have a7:c<(256:Int)^8:=by
   have h8:(256:Int)^8=18446744073709551616:=p';rw[h8];exact hc.2
  have a3:=BO ds 0 k f';have ab:=ZQ ds k f';rw[ec]at a3 ab;rw[ab,dH];have a4:B8 (aI c 8++(jc (ds.drop (k+1))++zs)):=by
   have h1:jc ds=jc (ds.take k)++jc (ds.drop k):=by
    have:ds=ds.take k++ds.drop k:=(xD k ds).symm
    conv=>lhs;rw[this]
    unfold jc;rw[zN]
   rw[h1,dH]at ay;have:=ay.kf (jc (ds.take k)).length;rwa[jy rfl,ab,dH]at this
  refine a9 bu ?_;refine aa.seq (gT ?_);refine aa.seq (aa.block ?_);have bA:aA a0c 29 [b,(8:Int)] _ _:=Bv (b:=b) (s:=8) (n:=c) hc.1 a7 f' f' a4;refine aa.Qq 5 3 #[.tmp 19,.const (.int .i64 8)] [Y',Y',Y',Y',Y'] (λ_=>True) [(5,5)] [] [(17,0,5)] (L:=[]) hE rfl rfl rfl (eR.call (bA.n9 (kE 22 1 k u (BU (ds.take k))) (GA.comm _ _)) rfl func29 rfl p') ⟨_,_,_,⟨rfl,rfl⟩,rfl⟩ (λ_ _ _ _=>trivial) (λ_ _ _ _ _ _ _=>trivial) (λi o x u r _ hk=>by
   match i,hk with
   |0,hk=>cases hk
   |1,hk=>cases hk
   |2,hk=>cases hk
   |3,hk=>cases hk
   |4,hk=>cases hk
   |i+5,hk=>cases hk) (ki ⟨_,rfl⟩) (λr R' hp=>?_)
  obtain⟨R1,⟨rfl,rfl⟩,rfl⟩:=hp;refine⟨rfl,?_⟩;simp only[fy,eD,fS,fe,dk,ck,fl,dF,gO,iv,Nat.reduceAdd];refine jt a0b ?_;refine GL.le (GA.comm _ _) ?_;refine GL.K9 (t:=34) (e:=22) (s:=1) (by_:=8) (nn:=k) (m:=1) (v:=u) (nw:=.n .u64 [c]) (nc:=[.r (.int .u64 c)]) underlying34 j1 j2 j3 j4 rfl p' rfl rfl rfl p' rfl rfl (λj=>by cases j<;>rfl) rfl p' (by simp[AV.one]) f' (by simp only[maxLen];omega) (λv'=>?_);refine GL.EA (λva vn vc bF=>?_);subst bF;refine az 2 ?_;refine gN ?_;refine aa.of (T:=ag a0a) ?_;refine aT ?_;have bD:BU (ds.take k)++[.r (.int .u64 c)]=BU (ds.take (k+1)):=by rw[a3];simp[BU]
  exact⟨(⟨k+1,f'⟩,.slice va vn vc),Le.mk a0b,by rw[bD];exact GA.le.refl _,N'⟩
 have br:k=N:=f';subst br;have bE:ds.take k=ds:=gG f';have bb:jc (ds.drop k)++zs=zs:=by rw[vB f'];rfl
 rw[bE,bb];have eJ:¬(k:Int)<k:=f';refine a9 eJ ?_;refine aa.seq (gX ?_);refine aa.ja (eZ.Yw (id:=5) (j0:=1) (r:=.ns .u64 ds) (λw fp X h b' a5=>(h.1 b').2 ((bz.1 b').1 a5)) (λw fp X h=>ac0 w fp X h) rfl rfl) ?_;refine aa.dS (σ':=⟨[(4,.ptr 4 0),(5,.ptr 5 0),(6,(k:Int))],[(5,⟨Z',.c [ng,ds]⟩),(4,⟨Z',.c [a0a,.ns .u64 []]⟩)]⟩) (Le.mk a0b) (GA.le.refl _) ?_;refine aa.seq ?_
 by_cases h0:k=0
 .subst h0
  have bw:=aw rfl;subst bw;refine a9 hN ?_;refine gF ?_;refine aE ?_;refine aa.ret ?_;exact pG
 .have bd:(0:Int)<(k:Int):=f'
  have bt:((k:Int)==0)=false:=O';have bH:¬(k=0):=h0;have a0:=af f';have bs:(((k:Int)-1).toNat)=k-1:=f';obtain⟨c,ec⟩:=nm (ds.getD (k-1) 0);rw[ec]at a0;have a6:(c==0)=false:=by simpa using a0
  have bm:(k:Int)-1<(k:Int):=f';have bn:0<=(k:Int)-1:=f';refine a9 (A8 hN bd bt bs ec a6 bm bn) ?_;refine gF ?_;refine aE ?_;refine aa.ret ?_;exact pG
end
section
open Go Go.RowKit Go.Proofs
section
variable {zs:List Int}{b:Nat}
theorem Qm{z e:Int}(hz:(dg z.natAbs).length<62)(h0:-4000<=e)(h1:e<=4000)(hM:ct z=z)(a0:cH z e=e)(hB:B8 (iC (z,e)++zs)):
 aA a0c 34 [b] (jS b (iC (z,e)++zs)) (λr R=>r=rC (z,e)/\R=jS b zs):=by
 have hE:=eF GK acg;have ao:=gY (n:=z.natAbs) f';have ax:=cI z;unfold iC at hB|-;rw[dH]at hB|-;dsimp only at hB|-;have af:B8 (aI (e+65536) 4++zs):=by
  have:=hB.kf (iQ z).length;rwa[jy rfl]at this
 have hint:=IT (b:=b) (m:=65535) (z:=z) f' f' hB;obtain⟨E,ay⟩:=nm (e+65536);rw[ay]at af hint|-;have a1:aA a0c 29 [b,(4:Int)] _ _:=Bv (b:=b) (s:=4) (n:=E) f' (by
  have h8:(256:Int)^4=4294967296:=p';rw[h8];omega) f' f' af
 have hw:IntKind.i64.wrap E=E:=by rw[qZ];omega
 have he:E-65536=e:=f';unfold zi at hint;unfold rC;dsimp only;obtain⟨ng,aw⟩:=nm (decide (z<0));obtain⟨ds,ab⟩:=nm (dg z.natAbs);rw[aw,ab]at hint ax|-;rw[ab]at ao hz;have hle:ds.length<=1000:=f';have e1:(e !=e)=false:=J';have e2:(ng !=ng)=false:=J';refine aA.body hE func34 ntmps34 results34 (λen=>?_);refine aE ?_;refine aa.bG ?_;refine az 1 ?_;refine gE (ag a0a) hint func73 ?_;refine az 3 ?_;refine gN ?_;refine aa.bG ?_;refine az 1 ?_;refine gE (ag a0a) a1 func29 ?_;refine fG 4 (A2 hw he) ?_;refine gN ?_;refine aa.seq ?_;refine a9 (A9 ao hz h0 h1 ax hM a0 aw ab) ?_;refine a9 (A3 e1 e2 hle) ?_;refine gF ?_;refine aE ?_;refine aa.ret ?_;exact pG
def od(h:Int×LK):Int×LK:=(h.1,⟨h.2.lo,h.2.hi,h.2.q,h.2.k,0,0,0,0,a0a⟩)
theorem HE(h:Int×LK):ld (od h)=[.r (.int .u64 h.1),.r (.bool (decide (h.2.lo<0))),.ns .u64 (dg h.2.lo.natAbs),.r (.bool (decide (h.2.hi<0))),.ns .u64 (dg h.2.hi.natAbs),.r (.int .i64 h.2.q),.r (.int .i64 h.2.k),.r (.int .i64 0),.r (.int .i64 0),.r (.bool a0a),.ns .u64 [],.r (.bool a0a),.ns .u64 [],.r (.bool a0a)]:=by
 have h0:dg (0:Int).natAbs=[]:=ky;unfold ld oz od;simp only[h0]
 rfl
theorem abO{h:Int×LK}(hw:HW h)(hB:B8 (pJ h++zs)):
 aA a0c 33 [b] (jS b (pJ h++zs)) (λr R=>r=.agg (ld (od h))/\R=jS b zs):=by
 have hE:=env dC;obtain⟨_,⟨p0,p1⟩,⟨q0,q1⟩,⟨k0,k1⟩,l1,l2⟩:=hw;rw[HE];unfold pJ at hB|-;rw[dH,dH,dH,dH]at hB|-;obtain⟨p,l⟩:=h;dsimp only at p0 p1 q0 q1 k0 k1 l1 l2 hB|-;obtain⟨K,hK⟩:=nm (l.k+65536);obtain⟨q,hq⟩:=nm (l.q);rw[hK,hq]at hB|-;rw[hq]at q0 q1;have aw:K-65536=l.k:=f';obtain⟨k,hk⟩:=nm (l.k);rw[hk]at aw k0 k1 hK|-;have h8:(256:Int)^8=18446744073709551616:=p';have h4:(256:Int)^4=4294967296:=p';have ab:B8 (aI K 4++(aI q 4++(iQ l.lo++(iQ l.hi++zs)))):=by
  have:=hB.kf 8;rwa[jy (cX _ 8)]at this
 have af:B8 (aI q 4++(iQ l.lo++(iQ l.hi++zs))):=by
  have:=ab.kf 4;rwa[jy (cX _ 4)]at this
 have ao:B8 (iQ l.lo++(iQ l.hi++zs)):=by
  have:=af.kf 4;rwa[jy (cX _ 4)]at this
 have a3:B8 (iQ l.hi++zs):=by
  have:=ao.kf (iQ l.lo).length;rwa[jy rfl]at this
 have c1:aA a0c 29 [b,(8:Int)] _ _:=Bv (b:=b) (s:=8) (n:=p) p0 (by rw[h8];omega) f' f' hB;have c2:aA a0c 32 [b,(4:Int),.r (.int .u64 131071)] _ _:=Bt (b:=b) (s:=4) (n:=K) (m:=131071) f' (by rw[h4];omega) f' f' f' f' ab;have c3:aA a0c 32 [b,(4:Int),.r (.int .u64 2048)] _ _:=Bt (b:=b) (s:=4) (n:=q) (m:=2048) f' (by rw[h4];omega) f' f' f' f' af;have c4:aA a0c 73 [b,.r (.int .u64 64)] _ _:=IT (b:=b) (m:=64) (z:=l.lo) f' f' ao;have c5:aA a0c 73 [b,.r (.int .u64 64)] _ _:=IT (b:=b) (m:=64) (z:=l.hi) f' f' a3;unfold zi at c4 c5;obtain⟨n1,a0⟩:=nm (decide (l.lo<0));obtain⟨d1,ax⟩:=nm (dg l.lo.natAbs);obtain⟨n2,a1⟩:=nm (decide (l.hi<0));obtain⟨d2,ay⟩:=nm (dg l.hi.natAbs);rw[a0,ax]at c4|-;rw[a1,ay]at c5|-;refine aA.body hE func33 ntmps33 results33 (λen=>?_);refine aE ?_;refine aa.bG ?_;refine az 1 ?_;refine gE (ag a0a) c1 func29 ?_;refine az 3 ?_;refine gN ?_;refine aa.bG ?_;refine az 1 ?_;refine gE (ag a0a) c2 func32 ?_;refine fG 4 aw ?_;refine gN ?_;refine aa.bG ?_;refine az 1 ?_;refine gE (ag a0a) c3 func32 ?_;refine az 1 ?_;refine gN ?_;refine aa.bG ?_;refine az 1 ?_;refine gE (ag a0a) c4 func73 ?_;refine az 2 ?_;refine gN ?_;refine aa.seq (aa.Qs 2 [(5,5),(3,3)] [] [(23,5,3),(24,6,3)] (L:=[]) hE c5 rfl rfl rfl func73 rfl p' ⟨_,_,rfl,rfl⟩ (qF ⟨_,rfl⟩ ⟨_,rfl⟩) (λr R' hp=>?_));obtain⟨rfl,rfl⟩:=hp;refine⟨rfl,?_⟩;refine jt a0b ?_;show aa _ _ _ _ _ _ _ _;refine aE ?_;refine aa.ret ?_;exact pG
end
end
section
open Go Go.RowKit Go.Proofs
section
variable {post:AV->GA->Prop}{args:Array Operand}{aas:List AV}{rest:List Oper}{d:Nat}{o:Oper}
section
variable {P:Program}{n:Nat}{en:dK}{pn:Nat->Option Nat}{R R0:GA}{σ:St}{ops:Array Oper}{K:St->GA->Prop}
theorem eR.mono{ab:AV->GA->Prop}(h:eR P o args aas R post)(hp:∀r R',post r R'->ab r R'):eR P o args aas R ab:=
 λw X fp a K Q hX af hR ao ha hK=>h w X fp a K Q hX af hR ao ha (λv w' r R' fp' q=>hK v w' r R' fp' (hp r R' q))
theorem eR.Ql{x:Nat}{zs:List Int}(hop:o.op=.box 82 (.tmp x)):eR P o #[.tmp x] [.agg [.ns .u8 zs]] R (λr R'=>∃b,r=.r (.pointer (T' ⟨b,0,Y'⟩))/\R'=R.star (jS b zs)):=by
 intro w X fp a K Q hX ao hR a1 ha hK;obtain⟨u,u1,u2⟩:=ha 0 _ rfl;have hu:a.eval (.tmp x)=u:=by simpa using u1
 cases u2 with
 |agg _ vs f hl hv hr=>
  have a0:vs.size=1:=hl;have h0:=hv 0 _ rfl;have ay:vs=#[f 0]:=by
   apply SO;intro i
   match i with
   |0=>rw[h0];rfl
   |i+1=>rw[qW f'];rfl
  have aw:=hr 0 _ rfl;have ax:(execOp a.eval o).run P w=.ok (.value (.pointer (T' ⟨w.heap.size,0,Y'⟩))) (w.alloc (.cells #[f 0] 82)):=by
   simp[execOp,hop,hu,ay,Instr.box,newVar,newRow,Value.cells]
  have hh:(w.alloc (.cells #[f 0] 82)).heap[w.heap.size]?=T' (.cells #[f 0] 82 (0,0)):=by rw[vL];simp
  have ab:=rq (λ_=>False) w (.cells #[f 0] 82);have af:∀b,b<w.heap.size->(X b\/(fp b\/b=w.heap.size))->X b:=λb hb hx=>hx.elim id (λh=>h.elim (λh=>ao b h) (λe=>f'))
  unfold Oper.wp;rw[ax,KI];refine hK _ _ _ _ (λb=>fp b\/b=w.heap.size) ⟨w.heap.size,rfl,rfl⟩ ⟨fp,λb=>b=w.heap.size,λ_=>dr,λb hb e=>by have:=hX b (ao b hb);omega,R.loc ab.size (λb hb _=>ab.block b hb (λh=>h)) af hR,λ_=>dr,f 0,hh,aw.cW ⟨ab.size,λb hb _=>ab.block b hb (λh=>h)⟩ af⟩ (RI.r _) (λb hb hx=>hx.elim id (λe=>f')) (rq fp w _)
theorem GL.YA(hG:eR P o args aas R post)(ax:o.guard=Y')(aw:o.dst=T' d)(hd:d<n)(hargs:args.toList.map (ev σ.get)=aas)(ay:aas.all AV.im=Z')(k:∀r R',post r R'->r.im=Z'/\GL P n en pn ops rest K (σ.live.put (T' d) r) R'):GL P n en pn ops (o::rest) K σ R:=by
 intro κ β a w Q hn hg hC hQ;obtain⟨fp,g1,g2,g3,g4⟩:=hg.now hC;have ao:∀(j:Nat)(c:AV),aas[j]?=T' c->∃v:Value,(args.map a.eval)[j]?=T' v/\RI w (XG κ β σ.ae) c v:=by
  intro j c hj;rw[<-hargs,gv]at hj;cases hx:args.toList[j]? with
  |none=>rw[hx]at hj;cases hj
  |some x=>
   rw[hx]at hj;simp only[ft,aC]at hj;have ab:c.im=true:=fq.1 ay c (by rw[<-hargs,<-hj];exact Kn (kL hx));have a0:args[j]?=T' x:=by simpa using hx
   refine⟨a.eval x,by rw[Fj,a0];rfl,?_⟩;rw[<-hj]at ab|-;exact(hC.ev x).ri ab
 refine wpList_plain ax (λK' af=>hG w (XG κ β σ.ae) fp a K' Q (λb hb=>hC.qV hb) (λb hb=>.inl (g2 b hb)) g1 (by rw[<-hargs];simp) ao (λv w' r R' fp' k2 k3 k4 k5 k6=>af _ _ ?_));obtain⟨a1,e1,e2,e3,e4⟩:=hg.call hC g2 g3 k3 k5 k6;obtain⟨z1,z2⟩:=k r R' k2;refine z2 a1 β _ w' Q (e1.trans hn) e2 ?_ hQ;rw[St.fh,St.eQ,St.iD,St.gm,aw];exact e3.put (λt' ht=>by cases ht;rw[e1,hn];exact hd) (RV.of z1 (k4.cW (dZ.refl _ _) (λb _ hb=>e4 b hb)))
theorem GL.TK{t:TypeId}{i:TypeInfo}{z:Value}{C:List Value}(hi:P.info? t=T' i)(hz:i.zero=T' z)(ax:z.cells=C.toArray)(hop:o.op=.alloc t)(af:o.guard=Y')(ab:o.dst=T' d)(hd:d<n)(k:GL P n en pn ops rest K (((σ.kill d).g7 d ⟨Z',.c (uZ C)⟩).put (T' d) (.ptr d 0)) R):GL P n en pn ops (o::rest) K σ R:=by
 intro κ β a w Q hn hg hC hQ;have ao:(execOp a.eval o).run P w=.ok (.value (.pointer (T' ⟨w.heap.size,0,Y'⟩))) (w.alloc (.cells C.toArray t)):=by
  rw[<-ax];have aw:(zeroValue t).run P w=.ok z w:=by simp[zeroValue,run_typeInfo hi,hz]
  simp[execOp,hop,Instr.alloc,aw,newVar,Go.newRow]
 obtain⟨ay,h⟩:=hC.made d (by rw[hn];exact hd) C.toArray t (.c (uZ C)) (by simp[aN.len,uZ]) (λj c hj=>by
  obtain⟨v,v1,rfl⟩:=abw hj;exact⟨v,by simpa using v1,RI.r _⟩) (v:=.ptr d 0) (x:=.pointer (T' ⟨w.heap.size,0,Y'⟩)) (λ_ _ _ hb _=>RV.Et hb)
 refine oR (w':=w.alloc (.cells C.toArray t)) af ao ?_;rw[ab];exact k κ ay _ _ Q hn hg h hQ
theorem cR.Vs{T:aL}(hT:cU a0c T){fn:Func}{c:Code}{m:Nat}{rs:List ResultVar}{ts:List TypeId}{v0 v1 v2 v3 v4:Value}(ab:fn.results=rs.toArray)(af:fn.resultTypes=ts.toArray)(hD:en.D=[u5 #[v0,v1,v2,v3,v4]])(h:aa a0c n en (λ_=>Y') c (λe σ' R'=>dM T rs ts post e σ'.live R') σ R):cR a0c n en (λ_=>Y') c (bodyPostM Fence.wide m a0c fn (tV en post)) σ R:=λκ β a w hn hg hC=>
 wp_mono (h κ β a w hn hg hC) λe a' w'⟨κ',σ',β',R',h1,h2,h3,h4⟩=>Yp hT ab af hD h3 h4 h1
end
theorem Ze:∃i,a0c.info? 33=T' i/\i.zero=T' (.slice Y' 0 0):=by
 have h:(a0c.info? 33).bind (·.zero)=T' (.slice Y' 0 0):=I';obtain⟨i,h1,h2⟩:=vE.1 h;exact⟨i,h1,h2⟩
theorem Zf:∃i z,a0c.info? 47=T' i/\i.zero=T' z/\i.size=14/\i.bytes=176/\z.cells.size=14:=by
 have h:(a0c.info? 47).map (λi=>(i.size,i.bytes,(i.zero.map (·.cells.size))))=T' (14,176,T' 14):=I';cases hi:a0c.info? 47 with
 |none=>rw[hi]at h;cases h
 |some i=>
  rw[hi]at h;simp only[ft,aC,db]at h;obtain⟨h1,h2,h3⟩:=h;obtain⟨z,hz,ab⟩:=kR.1 h3;exact⟨i,z,rfl,hz,h1,h2,ab⟩
def xq(d:Int×Int):Prop:=(dg d.1.natAbs).length<62/\(-2000<=d.2/\d.2<=2000)/\ct d.1=d.1/\cH d.1 d.2=d.2
end
end
section
variable {z:Int}
section
variable {f M n:Nat}{b:Int}
theorem YR(hp:qj b n)(a1:1<=M)(a2:M<=128){h:Int×LK}(hm:h∈aP f M b n):HW h:=by
 obtain⟨w,_,_,k,hk,e⟩:=yw hp a1 a2 hm;have pd:=hp k hk;rw[<-e]at pd;obtain⟨_,y2,y1⟩:=pN pd;obtain⟨p1,p2⟩:=pd;have kb:=Oh (f:=f) y2;rw[<-w.k]at kb;have wq:=w.q;have ws:=w.s;have c1:=(w.uq.1.jr p').2;have c2:=(w.uq.2.jr p').2;exact⟨⟨w.pE,ws.1,f'⟩,⟨f',f'⟩,⟨f',f'⟩,⟨f',f'⟩,f',f'⟩
theorem AW(hp:qj b n)(a1:1<=M)(a2:M<=128):∀k,k<(aP f M b n).length->HW ((aP f M b n).getD k h0):=λ_ hk=>YR hp a1 a2 (AQ hk)
theorem agi(h:z≠0):tz (ct z)=0:=by
 have ho:(ct z).natAbs%2=1:=by
  obtain⟨_,h1,_⟩:=zp h;have e:=fV Int.natAbs (GX z);rw[J5,Int.natAbs_pow]at e;rw[<-e]at h1;rwa[show Int.natAbs 2=2 from rfl,Tp _ (l7 _)]at h1
 unfold tz;show rV (_+1) _=0;unfold rV;rw[au ho]
theorem GY{m:Int}(h:tz m=0):ct m=m:=by unfold ct;rw[h];simp
theorem ML{s:Int}(b:Bz 1000 z)(h0:0<=s)(h1:s<=900):xq (ct z,cH z (0-s)):=by
 have d:=qA b h0 h1;have l:=Aw d;refine⟨?_,d.2,?_⟩
 .have h:Bz 1000 (ct z):=b.div
  have:=(h.jr p').2;dsimp only;omega
 .dsimp only
  by_cases hz:z=0
  .subst hz
   exact⟨rfl,rfl⟩
  .have t:=agi hz
   have n0:ct z≠0:=λh=>hz (by rw[<-GX z,h];simp)
   refine⟨GY t,?_⟩;show(if ct z=0 then 0 else _+(tz (ct z):Int))=_;rw[aq n0,t];simp
theorem MK:xq (0,0):=⟨by show(dg 0).length<62;have:=yh (n:=0) p';omega,⟨p',p'⟩,rfl,rfl⟩
theorem Dy(hp:qj b n)(a1:1<=M)(a2:M<=128):xq (dx (aP f M b n)).1/\xq (dx (aP f M b n)).2:=by
 by_cases hn:(aP f M b n).length=0
 .have e:dx (aP f M b n)=((0,0),(0,0)):=au hn
  rw[e];exact⟨MK,MK⟩
 .have e:dx (aP f M b n)=(fH ((aP f M b n).map eO) ((aP f M b n).length-1),fH ((aP f M b n).map fi) ((aP f M b n).length-1)):=aq hn
  have w1:=NG (f:=f) hp a1 a2;have w2:=NH (f:=f) hp a1 a2;have wb:=AU (f:=f) hp a1 a2;obtain⟨_,j1,q1,r1⟩:=D8 w1 ((aP f M b n).length-1) (by rw[fJ];omega);obtain⟨_,j2,q2,r2⟩:=D8 w2 ((aP f M b n).length-1) (by rw[fJ];omega);rw[e];dsimp only;rw[r1,r2,getD_map' eO _ h0 _ _ f',getD_map' fi _ h0 _ _ f'];have b1:=wb j1 f';have b2:=wb j2 f';exact⟨ML b1.1.1 b1.2.1 b1.2.2,ML b2.1.2 b2.2.1 b2.2.2⟩
end
def xV(M:Int)(ex:Bool):Int×Int:=if ex=Z' then(ct 4294967297,cH 4294967297 (0-M-32))else(1,0-M)
theorem UI{M:Int}(h0:0<=M)(h1:M<=1000)(ex:Bool):iO (xV M ex)=2^(2000-M.toNat)+(if ex=Z' then 2^(1968-M.toNat)else 0)/\DR (xV M ex):=by
 obtain⟨m,rfl⟩:∃m:Nat,M=m:=⟨M.toNat,f'⟩;cases ex with
 |false=>
  refine⟨?_,by constructor<;>simp[xV]<;>omega⟩;have e:iO (xV m a0a)=1*2^((0:Int)-m+2000).toNat:=rfl;rw[e,nR,show((0:Int)-m+2000).toNat=2000-(m:Int).toNat from f'];simp
 |true=>
  have e:xV m Z'=(ct 4294967297,cH 4294967297 (0-m-32)):=rfl;have t:tz 4294967297=0:=by rfl
  rw[e];refine⟨?_,?_⟩
  .rw[MN f',show((0:Int)-m-32+2000).toNat=1968-(m:Int).toNat from f',au rfl,show 2000-(m:Int).toNat=(1968-(m:Int).toNat)+32 from f',gk]
   generalize(2:Int)^(1968-(m:Int).toNat)=X;have:(2:Int)^32=4294967296:=p';rw[this];omega
  .have:cH 4294967297 (0-(m:Int)-32)=0-m-32:=by unfold cH;rw[t];simp
   constructor<;>(dsimp only;omega)
def ur(d:Int×Int)(M:Int)(ex:Bool):Bool:=decide (mg d (xV M ex)<0)
theorem Lz{d:Int×Int}{M:Int}{ex:Bool}(hd:DR d)(h0:0<=M)(h1:M<=1000):ur d M ex=decide (iO d<2^(2000-M.toNat)+(if ex=Z' then 2^(1968-M.toNat)else 0)):=by
 obtain⟨b1,b2⟩:=UI h0 h1 ex;unfold ur;rw[At hd b2,b1];exact decide_eq_decide.2 C9
theorem YV{f m Y:Nat}(hY:0<Y)(ab:Y<2^126)(a1:1<=m)(a2:m<=128):
 (aX f m Y).lo*2^(700-(aX f m Y).q).toNat<=(cD f 700 Y).1.2/\(cD f 700 Y).1.1<=(aX f m Y).hi*2^(700-(aX f m Y).q).toNat:=by
 have w:=yL (f:=f) hY ab a1 a2;obtain⟨N,hN⟩:=tG;obtain⟨i1,_,_⟩:=qo (f:=f) (q:=700) p' p' hY ab N hN;have i2:=w.holds N hN;have wq:=w.q;generalize aX f m Y=r at w i2 wq|-;obtain⟨Q,hQ⟩:∃Q:Nat,r.q=Q:=⟨r.q.toNat,f'⟩;rw[hQ]at i2 wq|-;rw[dD]at i2;rw[show((700:Int)-Q).toNat=700-Q from f'];generalize cD f 700 Y=A at i1|-;obtain⟨j1,j2⟩:=i1;obtain⟨k1,k2⟩:=i2;dsimp only at k1 k2;have e:(2:Rat)^700=2^Q*2^(700-Q):=by rw[<-kF];congr 1;omega
 have c0:=two_pos (700-Q);rw[e]at j1 j2;have l1:=cA k1 (cL c0);have l2:=cA k2 (cL c0);constructor
 .refine cj.1 ?_
  rw[cg,cV]
  grind
 .refine cj.1 ?_
  rw[cg,cV]
  grind
end
theorem Pv(l:List Bool)(i:Nat):∀K,K<=i->opens (l.set i Z') K=opens l K
 |0,_=>rfl
 |K+1,h=>by
  show(if(l.set i Z').getD K a0a=Z' then opens (l.set i Z') K else opens (l.set i Z') K++[(K:Int)])=(if l.getD K a0a=Z' then opens l K else opens l K++[(K:Int)]);rw[Pv l i K f'];have:(l.set i Z').getD K a0a=l.getD K false:=by simp[cF,Kk (show i≠K from f')]
  rw[this]
theorem Pw(l:List Bool)(i:Nat)(hi:i<l.length)(hf:l.getD i a0a=a0a):∀K,i<K->(opens (l.set i Z') K).length+1=(opens l K).length
 |0,h=>f'
 |K+1,h=>by
  show(if(l.set i Z').getD K a0a=Z' then opens (l.set i Z') K else opens (l.set i Z') K++[(K:Int)]).length+1=(if l.getD K a0a=Z' then opens l K else opens l K++[(K:Int)]).length
  by_cases e:i=K
  .subst e
   have:(l.set i Z').getD i a0a=true:=by simp[cF,hi]
   rw[au this,aq (by rw[hf];simp),Pv l i i (aM _),aV]
   rfl
  .have:(l.set i Z').getD K a0a=l.getD K false:=by simp[cF,Kk e]
   rw[this];have ih:=Pw l i hi hf K f';split
   .exact ih
   .rw[aV,aV]
    simp only[gM,kK];omega
theorem Ps(l:List Bool):∀K,(opens l K).length=0->∀i,i<K->l.getD i a0a=Z'
 |0,_,i,h=>f'
 |K+1,h,i,hi=>by
  have e:opens l (K+1)=(if l.getD K a0a=Z' then opens l K else opens l K++[(K:Int)]):=rfl;rw[e]at h
  by_cases hd:l.getD K a0a=Z'
  .rw[au hd]at h
   by_cases e:i=K
   .rw[e];exact hd
   .exact Ps l K h i f'
  .rw[aq hd,aV]at h
   simp at h
theorem Pt:∀(U K:Nat),K<=U->(opens (List.replicate U a0a) K).length=K
 |_,0,_=>rfl
 |U,K+1,h=>by
  show(if(List.replicate U a0a).getD K a0a=Z' then _ else opens (List.replicate U a0a) K++[(K:Int)]).length=_;rw[aq (by rw[cF,qe];split<;>simp),aV,Pt U K f']
  rfl
theorem YH(hd:Nat->Bool)(T U:Nat):kg hd T (List.replicate U a0a)=List.replicate T false:=by
 refine Ke (by simp[kg]) λk h1 h2=>?_
 simp only[kg,zQ,zR,List.getElem_replicate];rw[cF,qe];split<;>simp
theorem YG(hd:Nat->Bool)(T U:Nat)(l1:List Bool)(hU:T<=4*U)(h:∀i,i<U->l1.getD i a0a=Z'):∀k,k<T->(kg hd T l1).getD k a0a=hd k:=λk hk=>by
 rw[cF,ed (by rw[AS];exact hk)];simp only[kg,zQ,zR,rf];rw[h (k/4) f',JS]
theorem YJ{j:JN}{T i:Nat}{l1:List Bool}(hT:j.B-j.A=T)(hi:i<l1.length)(ab:4*i<T):
 mf (kg (nA j) T l1) (4*i) (mv (jP j.E (j.A+i*4)) (aP j.F.toNat j.M.toNat (jP j.E (j.A+i*4)) (min (j.B-(j.A+i*4)) 4).toNat) (aP j.F.toNat j.M.toNat (jP j.E (j.A+i*4)) (min (j.B-(j.A+i*4)) 4).toNat).length)=kg (nA j) T (l1.set i Z'):=by
 obtain⟨N,hN⟩:=nm ((min (j.B-(j.A+i*4)) 4).toNat);rw[hN,acq _ _ _ _ f',<-VB (nA j) T i l1 hi ab];refine fV (mf _ _) (FC λq hq=>?_);have af:=j7.1 hq;have d:decide (q<N)=decide (4*i+q<T):=decide_eq_decide.2 f';have e:jP j.E (j.A+i*4)+(q:Int)=jP j.E (j.A+((4*i+q:Nat):Int)):=by unfold jP;omega
 rw[d,e]
 rfl
theorem LH(U:Nat):jH (List.replicate U a0a)=List.replicate ((U+7)/8) 0:=by
 have h:∀(M k:Nat),kU (List.replicate U a0a) M k=List.replicate M 0:=λM k=>by
  induction k with
  |zero=>rfl
  |succ k ih=>
   unfold kU;rw[aq (by rw[cF,qe];split<;>simp)];exact ih
 unfold jH;rw[pe];exact h _ _
theorem afo{j:JN}{U T:Nat}(hU:U<=10)(hT:T<=10):(lP j (List.replicate U a0a) (List.replicate T a0a)).length<=512/\48<=(lP j (List.replicate U a0a) (List.replicate T a0a)).length/\(lP j (List.replicate U a0a) (List.replicate T a0a)).take 48=j.bytes/\∀x∈lP j (List.replicate U a0a) (List.replicate T a0a),0<=x/\x<256:=by
 have hj:j.bytes.length=48:=wo _ _ _ _ _;unfold lP;rw[LH,LH];refine⟨?_,?_,?_,?_⟩
 iterate 2
  .simp only[aV,pe];omega
 .rw[dH,kM hj]
 .intro x hx
  simp only[jm]at hx;rcases hx with(h|h)|h
  .exact HP x h
  all_goals
   have:x=0:=Kd h;omega
section
variable {j:JN}{T U N:Nat}{g:Int->List Int}{at0:Int}{C ST:List Int}
structure SY(F:Int->List Int)(at0:Int)(ST C:List Int):Prop where
 z0:cP (((F 0).drop 4).take 8)=0
 z2:cP (((F 2).drop 4).take 8)=1
 m:cP (((F 2).drop 20).take 8)=ST.length
 e:kT ((F 2).take 36) (fO qR 1 0 ((F 3).take ST.length))=Z'
 st:(F 3).take ST.length=ST
 m4:cP (((F 4).drop 20).take 8)=8
 e4:kT ((F 4).take 36) (fO lN 1 0 ((F 5).take 8))=Z'
 n:cP ((F 5).take 8)=C.length
 c:(py F at0 ((C.length+511)/512)).take C.length=C
theorem Vk(low:∀i,i<6->g i=mP (λ_=>Zb) ST i)(a3:6<=at0)(hs:ST.length<=512)(hc:C.length<100000):
 SY (gx (mR g at0 C ((C.length+511)/512)) 4 6 1 0 (aI (C.length:Int) 8)) at0 ST C:=by
 obtain⟨K,hK⟩:=nm ((C.length+511)/512);obtain⟨W,hW⟩:=nm (mR g at0 C K);have ab:∀i,i<6->W i=mP (λ_=>Zb) ST i:=λi hi=>by rw[<-hW,Ss f'];exact low i hi
 have af:(aI (C.length:Int) 8).length=8:=cX _ _;have hF:∀i,i≠4->i≠5->gx W 4 6 1 0 (aI (C.length:Int) 8) i=W i:=λi h4 h5=>by
  unfold gx;rw[aq p',nI h4,nI f']
 have a1:gx W 4 6 1 0 (aI (C.length:Int) 8) 5=aI (C.length:Int) 8++List.replicate (512-(aI (C.length:Int) 8).length) 0:=by
  unfold gx;rw[aq p',nI p'];exact zw _ _ _
 have a0:gx W 4 6 1 0 (aI (C.length:Int) 8) 4=fO lN 1 0 (aI (C.length:Int) 8)++List.replicate (512-(fO lN 1 0 (aI (C.length:Int) 8)).length) 0:=by
  unfold gx;exact zw _ _ _
 have ax:gx W 4 6 1 0 (aI (C.length:Int) 8) 0=Zb:=by
  rw[hF 0 p' p',ab 0 p'];unfold mP;rw[nI p',nI p',nI p']
 have ay:gx W 4 6 1 0 (aI (C.length:Int) 8) 2=fO qR 1 0 ST++List.replicate (512-(fO qR 1 0 ST).length) 0:=by
  rw[hF 2 p' p',ab 2 p'];exact zw _ _ _
 have aw:(gx W 4 6 1 0 (aI (C.length:Int) 8) 3).take ST.length=ST:=by
  rw[hF 3 p' p',ab 3 p'];unfold mP;rw[nI p',zw];exact kM rfl
 have ao:(gx W 4 6 1 0 (aI (C.length:Int) 8) 5).take 8=aI (C.length:Int) 8:=by rw[a1];exact kM af
 have a2:=ND (s:=qR) rfl p' p' hs ay;have a4:=ND (s:=lN) rfl p' p' (by rw[af];decide) a0;have h8:(256:Int)^8=18446744073709551616:=p';rw[hK,hW];refine⟨by rw[ax];exact xi.1,a2.1,a2.2.1,by rw[aw,a2.2.2];exact Lt _,aw,by rw[a4.2.1,af];rfl,by rw[ao,a4.2.2];exact Lt _,by rw[ao,DP _ f',h8];omega,?_⟩;rw[hK];have:=Vg (f:=g) (xs:=C) (a:=at0) (g:=gx W 4 6 1 0 (aI (C.length:Int) 8)) (λi hi=>by rw[hF _ f' f',hK,hW]);rw[hK]at this;exact this
end
end Go.Hl
