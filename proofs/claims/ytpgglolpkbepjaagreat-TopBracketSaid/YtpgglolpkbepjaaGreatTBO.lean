/- Lemmas for TopSound and TopBracket. -/
import Derived.Test.YtpgglolpkbepjaaGreatTBL
import Derived.Test.YtpgglolpkbepjaaGreatTBN
set_option linter.unusedVariables false
set_option linter.unusedSimpArgs false
namespace Go.Hl
open Go.Proofs.Tryz
open Go.Proofs.Tryz renaming prog→a0c
open Option renaming some→T',none→Y'
open Bool renaming true→Z',false→a0a
open Go Go.RowKit Go.Proofs
set_option maxHeartbeats 8000000
set_option maxRecDepth 100000
section
variable {j:JN}{C:List AV}{b bf bp d:Nat}{X fp:Nat->Prop}{lg:Value}{w:World}
def pQ(b:Nat)(C:List AV)(w:World):Prop:=∃A e,w.heap[b]?=T' (.cells A e (0,0))/\∀(k:Nat)(v:Value),C[k]?=T' (.r v)->A[k]?=T' v
theorem qO{R0:GA}(h:(R0.star (.aJ b C)).rel w fp X):pQ b C w:=by
 obtain⟨f,g,k1,k2,k3,m1,A,e,m2,m3,m4⟩:=h;refine⟨A,e,m2,λk v hk=>?_⟩;obtain⟨u,u1,u2⟩:=m4 k _ hk;rw[u1,RI.aS u2]
theorem Qc(h:(GA.aJ b C).rel w fp X):pQ b C w:=by
 obtain⟨m1,A,e,m2,m3,m4⟩:=h;refine⟨A,e,m2,λk v hk=>?_⟩;obtain⟨u,u1,u2⟩:=m4 k _ hk;rw[u1,RI.aS u2]
theorem vd{A B:GA}(h:(A.star B).rel w fp X):∃f,A.rel w f X:=by
 obtain⟨f,g,_,_,h,_⟩:=h;exact⟨f,h⟩
theorem n8(h:pQ b C w)(k:Nat)(v:Value)(hk:C[k]?=T' (.r v)):w.cell? ⟨b,k,Y'⟩=T' v:=by
 obtain⟨A,e,h1,h2⟩:=h;rw[cell_of_row w b k _ _ _ h1];exact h2 k v hk
theorem He{P:Program}{T:aL}{a:Act}{o:Oper}{x:Operand}{v1 v2:Value}{pub dead:Bool}{gen:Int}{pb:Value}(hT:cU P T)(hop:o.op=.load 24 x)(ht:T.vr 24=T' (T' 5))(hx:a.eval x=.pointer (T' ⟨bf,0,Y'⟩))(hw:pQ bf (eG j d v1 v2 pub dead gen lg pb) w):
 ∃v,(execOp a.eval o).run P w=.ok (.value v) w/\∀X,RI w X (.agg [.r (.int .i64 j.F),.r (.int .i64 j.E),.r (.int .u64 j.A),.r (.int .u64 j.B),.r (.int .i64 j.M)]) v:=by
 have hc:∀(i:Nat)(v:Value),[Value.int .i64 j.F,.int .i64 j.E,.int .u64 j.A,.int .u64 j.B,.int .i64 j.M][i]?=T' v->w.cell? ⟨bf,0+i,Y'⟩=T' v:=λi v hi=>by
  rw[du]
  match i,hi with
  |0,hi=>cases hi;exact n8 hw 0 _ rfl
  |1,hi=>cases hi;exact n8 hw 1 _ rfl
  |2,hi=>cases hi;exact n8 hw 2 _ rfl
  |3,hi=>cases hi;exact n8 hw 3 _ rfl
  |4,hi=>cases hi;exact n8 hw 4 _ rfl
  |_+5,hi=>cases hi
 refine⟨_,ZX hT hop ht rfl hx hc,λX=>RI.agg _ _ (λi=>[Value.int .i64 j.F,.int .i64 j.E,.int .u64 j.A,.int .u64 j.B,.int .i64 j.M].getD i undef) rfl (λi c hi=>?_) (λi c hi=>?_)⟩
 .match i,hi with
  |0,hi=>rfl
  |1,hi=>rfl
  |2,hi=>rfl
  |3,hi=>rfl
  |4,hi=>rfl
  |_+5,hi=>cases hi
 .match i,hi with
  |0,hi=>cases hi;exact RI.r _
  |1,hi=>cases hi;exact RI.r _
  |2,hi=>cases hi;exact RI.r _
  |3,hi=>cases hi;exact RI.r _
  |4,hi=>cases hi;exact RI.r _
  |_+5,hi=>cases hi
def nA(j:JN)(k:Nat):Bool:=(aX j.F.toNat j.M.toNat (pY (jP j.E (j.A+k)))).gV
theorem NW(E A:Int)(k:Nat):jP E (A+k)=jP E A+k:=by unfold jP;omega
theorem ZH{ab:Nat}{N:Int}{g:Nat->Prop}(hr:(GA.aJ ab (lz N 8)).rel w g X)(j:Nat)(c c2:AV)(v:Value)(q1:[AV.r (.pointer (T' ⟨bp,0,Y'⟩)),.ns .u8 (aI N 8)][j]?=T' c)(q2:[AV.r (.pointer (T' ⟨bp,0,Y'⟩)),.r (.slice (T' ⟨ab,0,Y'⟩) 8 8)][j]?=T' c2)(hv:RI w X c2 v):RI w (λb=>X b/\¬g b) c v:=by
 obtain⟨m1,A,e,m2,m3,m4⟩:=hr
 match j,q1,q2 with
 |0,q1,q2=>cases q1;cases q2;rw[RI.aS hv];exact RI.r _
 |1,q1,q2=>
  cases q1;cases q2;rw[RI.aS hv];have hl:=cX N 8;have:(Value.slice (T' ⟨ab,0,Y'⟩) 8 8)=.slice (T' ⟨ab,0,Y'⟩) (aI N 8).length 8:=by rw[hl]
  rw[this];refine RI.ns .u8 (aI N 8) _ ab 0 8 f' (λ_=>⟨rfl,λh=>h.2 ((m1 ab).2 rfl)⟩) (λi x hx=>?_);rw[du,cell_of_row w ab i _ _ _ m2];have hi:(lz N 8)[i]?=T' (.r (.int .u8 x)):=by
   unfold lz;rw[sE,xC,jx,gv,hx]
   rfl
  obtain⟨u,u1,u2⟩:=m4 i _ hi;rw[u1,RI.aS u2]
 |_+2,q1,_=>cases q1
def dj(j:JN)(k:Nat):List (Int×LK):=aP j.F.toNat j.M.toNat (jP j.E j.A) k
theorem Xt(j:JN)(k:Nat):dj j (k+1)=dj j k++(if nA j k=Z' then[(jP j.E (j.A+k),aX j.F.toNat j.M.toNat (pY (jP j.E (j.A+k))))]else[]):=by
 unfold dj nA;rw[NW]
 rfl
theorem abd{X:GA}{g1 g2 T:Nat}{l1 l2:List Bool}{n:Int}{f:Int->List Int}{c:Nat}(hT:l2.length=T)(hT10:T<=10)(hT0:0<T)(hl2:∀k,k<T->l2.getD k a0a=nA j k)(hBA:j.B-j.A=T)(hJT:JT j.F j.E j.A j.B j.M)(hJO:nT j.F j.E j.A j.B j.M)(hJV:JV j.F j.E j.A j.B j.M)(hJok:j.ok)(hn2:n<=4096)(hc:c<=1000)(hHW:∀k,k<(dj j T).length->HW ((dj j T).getD k h0)){at0:Int}(hat0:6+(2*((j.B-j.A+4-1)/4)+2)=at0)(hfit:(((gn j (dj j T)).length:Int)+512-1)/512<=n-at0):
 aA a0c 65 [bf] (((X.star ((aZ d n f c).star (.aJ bp (cZ d 4 6 1 0)))).star (cG g2 l2)).star (.aJ bf (eG j d (bI g1 l1.length) (bI g2 T) a0a a0a 1 lg (.pointer (T' ⟨bp,0,Y'⟩)))))
  (λr R=>r=.r (.int .i64 0)/\R=((X.star ((aZ d n (gx (mR f at0 (gn j (dj j T)) (((gn j (dj j T)).length+511)/512)) 4 6 1 0 (aI ((gn j (dj j T)).length:Int) 8)) 0).star (.aJ bp (cZ d 6 6 1 1)))).star (cG g2 l2)).star (.aJ bf (eG j d (bI g1 l1.length) (bI g2 T) Z' a0a 1 lg (.pointer (T' ⟨bp,0,Y'⟩))))):=by
 have hE:=eF yU look_ok;obtain⟨hF,hEE,hAB,hB,hM⟩:=hJO;obtain⟨_,_,⟨hA0,_⟩,⟨hB0,_⟩,_⟩:=id hJT;unfold eG;refine aA.Gr 11 func65 ntmps65 (λen hDn hrel=>?_);refine gW hE a0b ?_;refine gW hE a0b ?_;have hb0:jP j.E j.A=jP j.E j.A:=rfl;obtain⟨FR,hFR⟩:=nm ([AV.r (Value.int .i64 j.F),.r (.int .i64 j.E),.r (.int .u64 j.A),.r (.int .u64 j.B),.r (.int .i64 j.M),d,.r (bI g1 l1.length),.r (bI g2 T),a0a,a0a,(1:Int),.r lg,bp]);have hFC:eG j d (bI g1 l1.length) (bI g2 T) a0a a0a 1 lg (.pointer (T' ⟨bp,0,Y'⟩))=FR:=hFR;rw[hFR];have f7:FR[7]?=T' (.r (bI g2 T)):=by rw[<-hFR];rfl
 have hperm:(((X.star ((aZ d n f c).star (.aJ bp (cZ d 4 6 1 0)))).star (cG g2 l2)).star (.aJ bf FR)).le (((X.star ((aZ d n f c).star (.aJ bp (cZ d 4 6 1 0)))).star (.aJ bf FR)).star (cG g2 l2)):=GA.swap _ _ _;refine cR.seq (aa.seq (aa.region ?_));refine gS 1 hE a0b ?_;refine GL.rJ rfl rfl rfl p' rfl ?_;refine GL.rE (T:=ag a0a) (e:=7) hE.hT rfl rfl rfl p' rfl rfl ?_;refine GL.uR (T:=ag a0a) (c:=.r (bI g2 T)) hE.hT rfl rfl rfl p' rfl rfl f7 rfl ?_;refine GL.DS (g:=g2) (m:=T) rfl rfl rfl p' rfl ?_;refine gS 1 hE a0b ?_;refine gN ?_;refine aa.dS (Le.bare (id:=61) (con:=.c []) p' rfl) (GA.le.refl _) (aa.block ?_);refine aa.loop (ι:={k:Nat // k<=T}) (λk=>(⟨[(1,.ptr 1 0),(2,.ptr 2 0),(3,.os 61 14 0 (dj j k.1).length),(20,.r (bI g2 T)),(21,(T:Int)),(22,(k.1:Int))],[(2,⟨Z',.c [(0:Int)]⟩),(1,⟨Z',.c [bf]⟩),(61,⟨Z',.c (cE (dj j k.1))⟩)]⟩,((X.star ((aZ d n f c).star (.aJ bp (cZ d 4 6 1 0)))).star (cG g2 l2)).star (.aJ bf FR))) (λk=>T-k.1) ⟨0,dU _⟩ ?_ ?_ ?_
 .have q1:(dj j 0).length=0:=rfl
  have q2:cE (dj j 0)=[]:=rfl;exact Le.mk (A2 q1 q2)
 .exact GA.le.refl _
 rintro⟨k,hk⟩;dsimp only;have cl:=uG (dj j k);have cn:(dj j k).length<=k:=vY _ _ _ _
 by_cases hlt:k<T
 .have hltI:(k:Int)<T:=f'
  have hhd:=hl2 k hlt;have hsucc:=Xt j k;obtain⟨H,hH⟩:=nm (dj j k);rw[hH]at cl cn hsucc|-;obtain⟨CS,hCS⟩:=nm (cE H);obtain⟨cnt,hcnt⟩:=nm (H.length);rw[hCS,hcnt]at cl;rw[hcnt]at cn;rw[hCS,hcnt];refine gR hE hltI ?_;refine aa.seq (gT ?_);refine aa.seq (aa.block (aa.seq (aa.region ?_)));refine gS 1 hE a0b ?_;refine GL.le hperm ?_;refine GL.DC (g:=g2) (m:=T) (i:=k) rfl rfl rfl p' rfl rfl hlt ?_;refine GL.H4 (l:=l2) rfl rfl rfl p' rfl f' ?_;refine GL.le (GA.swap _ _ _) ?_;rw[hhd];refine gS 2 hE a0b ?_;refine gN ?_;refine gR hE a0b ?_;cases hd:nA j k with
  |true=>
   have aK:IntKind.u64.wrap (k:Int)=k:=by rw[eP];omega
   obtain⟨p,hp⟩:=nm ((j.E+1023)*4503599627370496+(j.A+k));have hpj:jP j.E (j.A+k)=p:=hp;have hpd:=Bb (E:=j.E) (i:=j.A+k) hEE.1 hEE.2 f' f';rw[hpj]at hpd hsucc;obtain⟨FF,hFF⟩:=nm (j.F.toNat);obtain⟨MM,hMM⟩:=nm (j.M.toNat);rw[hFF,hMM]at hsucc;obtain⟨r,hr⟩:=nm (aX FF MM (pY p));have hdr:r.gV=true:=by rw[<-hr,<-hFF,<-hMM,<-hpj];exact hd
   rw[hr,au hd]at hsucc;have e2:(dj j (k+1)).length=cnt+1:=by rw[hsucc,aV,hcnt];rfl
   have e4:cE (dj j (k+1))=CS++[.r (.int .u64 p),.r (.bool (decide (r.lo<0))),.ns .u64 (dg r.lo.natAbs),.r (.bool (decide (r.hi<0))),.ns .u64 (dg r.hi.natAbs),.r (.int .i64 r.q),.r (.int .i64 r.k),.r (.int .i64 r.e),.r (.int .i64 r.s),
    .r (.bool (decide (r.least<0))),.ns .u64 (dg r.least.natAbs),.r (.bool (decide (r.most<0))),.ns .u64 (dg r.most.natAbs),.r (.bool r.gV)]:=by rw[hsucc,Hz,hCS];rfl
   have hpz:0<=p:=by have:=hpd.1;omega
   refine aa.eo rfl (aa.seq (aa.Qt [Y',T' (.look (.tmp 28) (.pointer (T' ⟨bf,0,Y'⟩)) (.r (.pointer (T' ⟨bf,0,Y'⟩)))),T' (.look (.tmp 29) (.pointer (T' ⟨bf,0,Y'⟩)) (.r (.pointer (T' ⟨bf,0,Y'⟩)))),T' (.look (.tmp 30) (.pointer (T' ⟨bf,0,Y'⟩)) (.agg [.r (.int .i64 j.F),.r (.int .i64 j.E),.r (.int .u64 j.A),.r (.int .u64 j.B),.r (.int .i64 j.M)])),Y',T' (.look (.tmp 32) (.pointer (T' ⟨bf,0,Y'⟩)) (.r (.pointer (T' ⟨bf,0,Y'⟩)))),T' (.look (.tmp 33) (.pointer (T' ⟨bf,0,Y'⟩)) (.r (.pointer (T' ⟨bf,0,Y'⟩)))),T' (.look (.tmp 34) (.pointer (T' ⟨bf,0,Y'⟩)) (.r (.pointer (T' ⟨bf,2,Y'⟩)))),T' (.look (.tmp 35) (.pointer (T' ⟨bf,2,Y'⟩)) (.r (.int .u64 j.A))),Y',Y',Y',Y',Y'] (pQ bf (eG j d (bI g1 l1.length) (bI g2 T) a0a a0a 1 lg (.pointer (T' ⟨bp,0,Y'⟩)))) [(1,1)] [] [] (L:=[(11,BK),(12,BI)]) hE (λw fp X h=>by rw[hFC];exact qO h) (by
    intro i o x u r ho hk a w hw hx
    match i,ho,hk with
    |0,ho,hk=>cases hk
    |1,ho,hk=>cases ho;cases hk;exact⟨_,uN rfl hx,λ_=>RI.r _⟩
    |2,ho,hk=>cases ho;cases hk;exact⟨_,qI (gi a0a) rfl rfl hx,λ_=>RI.r _⟩
    |3,ho,hk=>cases ho;cases hk;exact He (gi a0a) rfl rfl hx hw
    |4,ho,hk=>cases hk
    |5,ho,hk=>cases ho;cases hk;exact⟨_,uN rfl hx,λ_=>RI.r _⟩
    |6,ho,hk=>cases ho;cases hk;exact⟨_,qI (gi a0a) rfl rfl hx,λ_=>RI.r _⟩
    |7,ho,hk=>cases ho;cases hk;exact⟨_,qI (gi a0a) rfl rfl hx,λ_=>RI.r _⟩
    |8,ho,hk=>cases ho;cases hk;exact⟨_,oC (gi a0a) rfl rfl hx (n8 hw 2 _ rfl),λ_=>RI.r _⟩
    |9,ho,hk=>cases hk
    |10,ho,hk=>cases hk
    |11,ho,hk=>cases hk
    |12,ho,hk=>cases hk
    |13,ho,hk=>cases hk
    |_+14,_,hk=>cases hk
    ) (ki ⟨_,rfl⟩) ?_))
   simp only[ck,fl,dF,Nat.reduceAdd];refine jt (A3 aK hp hpz) ?_;show aa _ _ _ _ _ _ _ _;refine aa.seq (aa.Qt [Y',T' (.look (.tmp 42) (.pointer (T' ⟨bf,0,Y'⟩)) (.r (.pointer (T' ⟨bf,0,Y'⟩)))),T' (.look (.tmp 43) (.pointer (T' ⟨bf,0,Y'⟩)) (.r (.pointer (T' ⟨bf,0,Y'⟩)))),T' (.look (.tmp 44) (.pointer (T' ⟨bf,0,Y'⟩)) (.r (.pointer (T' ⟨bf,0,Y'⟩)))),T' (.look (.tmp 45) (.pointer (T' ⟨bf,0,Y'⟩)) (.r (.int .i64 j.F))),Y',Y',T' (.look (.tmp 48) (.pointer (T' ⟨bf,0,Y'⟩)) (.r (.pointer (T' ⟨bf,0,Y'⟩)))),T' (.look (.tmp 49) (.pointer (T' ⟨bf,0,Y'⟩)) (.r (.pointer (T' ⟨bf,0,Y'⟩)))),T' (.look (.tmp 50) (.pointer (T' ⟨bf,0,Y'⟩)) (.r (.pointer (T' ⟨bf,4,Y'⟩)))),T' (.look (.tmp 51) (.pointer (T' ⟨bf,4,Y'⟩)) (.r (.int .i64 j.M))),Y',Y',Y',Y',Y',Y',Y'] (pQ bf (eG j d (bI g1 l1.length) (bI g2 T) a0a a0a 1 lg (.pointer (T' ⟨bp,0,Y'⟩)))) [(1,1)] [(7,15)] [] (L:=[(11,BK),(12,BI)]) hE (λw fp X h=>by rw[hFC];exact qO h) (by
    intro i o x u r ho hk a w hw hx
    match i,ho,hk with
    |0,ho,hk=>cases hk
    |1,ho,hk=>cases ho;cases hk;exact⟨_,uN rfl hx,λ_=>RI.r _⟩
    |2,ho,hk=>cases ho;cases hk;exact⟨_,qI (gi a0a) rfl rfl hx,λ_=>RI.r _⟩
    |3,ho,hk=>cases ho;cases hk;exact⟨_,qI (gi a0a) rfl rfl hx,λ_=>RI.r _⟩
    |4,ho,hk=>cases ho;cases hk;exact⟨_,oC (gi a0a) rfl rfl hx (n8 hw 0 _ rfl),λ_=>RI.r _⟩
    |5,ho,hk=>cases hk
    |6,ho,hk=>cases hk
    |7,ho,hk=>cases ho;cases hk;exact⟨_,uN rfl hx,λ_=>RI.r _⟩
    |8,ho,hk=>cases ho;cases hk;exact⟨_,qI (gi a0a) rfl rfl hx,λ_=>RI.r _⟩
    |9,ho,hk=>cases ho;cases hk;exact⟨_,qI (gi a0a) rfl rfl hx,λ_=>RI.r _⟩
    |10,ho,hk=>cases ho;cases hk;exact⟨_,oC (gi a0a) rfl rfl hx (n8 hw 4 _ rfl),λ_=>RI.r _⟩
    |11,ho,hk=>cases hk
    |12,ho,hk=>cases hk
    |13,ho,hk=>cases hk
    |14,ho,hk=>cases hk
    |15,ho,hk=>cases hk
    |16,ho,hk=>cases hk
    |17,ho,hk=>cases hk
    |_+18,_,hk=>cases hk
    ) (ki ⟨_,rfl⟩) ?_)
   simp only[ck,fl,dF,Nat.reduceAdd];refine jt (A4 hFF hMM hr hpd) ?_;show aa _ _ _ _ _ _ _ _;refine aa.of (T:=ag a0a) ?_;refine JA hE a0b ?_;show aa _ _ _ _ _ _ _ _;refine aa.of (T:=ag a0a) ?_;refine wk hE a0b ?_;exact⟨⟨k+1,f'⟩,Le.mk (A2 e2 e4),GA.le.refl _,N'⟩
  |false=>
   refine gF ?_;refine aa.of (T:=ag a0a) ?_;refine wk hE a0b ?_;have e1:dj j (k+1)=H:=by rw[hsucc,aq (by rw[hd];simp),jx]
   have e2:(dj j (k+1)).length=cnt:=by rw[e1,hcnt]
   have e3:cE (dj j (k+1))=CS:=by rw[e1,hCS]
   exact⟨⟨k+1,f'⟩,Le.mk (A2 e2 e3),GA.le.refl _,N'⟩
 obtain rfl:T=k:=f';refine gR hE (show¬(T:Int)<T from f') ?_;refine aa.seq (aa.dz rfl (aa.exit ?_));refine⟨rfl,?_⟩;have hE2:=eF V0 IQ;have hJB:JB j.F j.E j.A j.B j.M:=hJok;obtain⟨H,hH⟩:=nm (dj j T);rw[hH]at cl cn hHW hfit|-;have hpar:=AX H;obtain⟨CS,hCS⟩:=nm (cE H);obtain⟨cnt,hcnt⟩:=nm (H.length);have hcw:∃H':List (Int×LK),CS=cE H'/\H'.length=cnt/\cnt<=100/\∀k,k<H'.length->HW (H'.getD k h0):=⟨H,hCS.symm,hcnt,f',hHW⟩;rw[hCS,hcnt]at cl;rw[hCS]at hpar;rw[hCS,hcnt];obtain⟨XS,hXS⟩:=nm (gn ⟨j.F,j.E,j.A,j.B,j.M⟩ H);have hXS':gn j H=XS:=hXS;rw[hXS']at hfit;have hxpos:0<XS.length:=by rw[<-hXS'];unfold gn;rw[aV,cX];omega
 have hxmax:XS.length<=200000:=by
  rw[<-hXS'];unfold gn;rw[aV,cX];have:=Al (j:=j) hHW f';omega
 obtain⟨NX,hNX⟩:=nm (XS.length);rw[hNX]at hfit hxpos hxmax;have h0n:((0:Int)!=0)=false:=rfl;have hat1:8<=at0/\at0<=20:=f';refine cR.seq (aa.region ?_);refine gS 1 hE2 a0b ?_;refine GL.rJ rfl rfl rfl p' rfl ?_;refine GL.rE (T:=ag a0a) (e:=0) hE2.hT rfl rfl rfl p' rfl rfl ?_;refine GL.val (.agg [.r (.int .i64 j.F),.r (.int .i64 j.E),.r (.int .u64 j.A),.r (.int .u64 j.B),.r (.int .i64 j.M)]) rfl (λt ht=>by cases ht;decide) (λκ β a w hn hg hC=>?_) ?_
 .obtain⟨fp,h1,_⟩:=hg.now hC
  have hv:a.eval (.tmp 66)=.pointer (T' ⟨bf,0,Y'⟩):=RI.aS (hC.rel 66);exact(He (gi a0a) rfl rfl hv (by have:=qO h1;rw[<-hFC]at this;exact this)).imp λv h=>⟨h.1,RV.of rfl (h.2 _)⟩
 refine gS 7 hE2 (A5 hJB hcw hpar hXS cl) ?_;refine GL.nil ⟨rfl,?_⟩;refine cR.EF (cR.seq (aa.region ?_));refine gS 1 hE2 a0b ?_;refine GL.rJ rfl rfl rfl p' rfl ?_;refine GL.rE (T:=ag a0a) (e:=0) hE2.hT rfl rfl rfl p' rfl rfl ?_;refine GL.val (.agg [.r (.int .i64 j.F),.r (.int .i64 j.E),.r (.int .u64 j.A),.r (.int .u64 j.B),.r (.int .i64 j.M)]) rfl (λt ht=>by cases ht;decide) (λκ β a w hn hg hC=>?_) ?_
 .obtain⟨fp,h1,_⟩:=hg.now hC
  have hv:a.eval (.tmp 74)=.pointer (T' ⟨bf,0,Y'⟩):=RI.aS (hC.rel 74);exact(He (gi a0a) rfl rfl hv (by have:=qO h1;rw[<-hFC]at this;exact this)).imp λv h=>⟨h.1,RV.of rfl (h.2 _)⟩
 have hspan:nG j.A j.B=true:=fu hAB;refine gS 1 hE2 (A3 hJT hspan hat0) ?_;refine GL.Gg (T:=ag a0a) hE2.hT rfl rfl rfl p' rfl (λb11=>?_);refine GL.Jf (T:=ag a0a) (v:=.int .i64 at0) hE2.hT rfl rfl rfl rfl rfl p' rfl rfl rfl ?_;refine GL.nil ⟨rfl,?_⟩;refine cR.block ?_;refine cR.seq (aa.of (T:=ag a0a) ?_);refine JA hE2 h0n ?_;refine⟨rfl,cR.dz rfl ?_⟩;refine cR.dS (Le.refl _) (R':=(((((X.star (.aJ bp (cZ d 4 6 1 0))).star (cG g2 l2)).star (.aJ bf FR)).star (.aJ b11 [.r (.int .i64 at0)])).star (aZ d n f c))) (GA.le_eq (by show(GA.star (GA.star (GA.star (GA.star X _) _) _) _)=_;ac_rfl)) ?_;have hfitN:¬(n-at0)<((NX:Int)+512-1)/512:=f';refine cR.seq (aa.Qr 9 #[.tmp 105] [Y',Y',Y',Y',Y',Y',T' (.look (.tmp 102) (.pointer (T' ⟨bf,0,Y'⟩)) (.r (.pointer (T' ⟨bf,0,Y'⟩)))),T' (.look (.tmp 103) (.pointer (T' ⟨bf,0,Y'⟩)) (.r (.pointer (T' ⟨bf,5,Y'⟩)))),T' (.look (.tmp 104) (.pointer (T' ⟨bf,5,Y'⟩)) (.r (.pointer (T' ⟨d,0,Y'⟩)))),Y',T' (.look (.tmp 11) (.pointer (T' ⟨b11,0,Y'⟩)) (.r (.int .i64 at0))),Y',Y',Y'] (λw=>pQ bf (eG j d (bI g1 l1.length) (bI g2 T) a0a a0a 1 lg (.pointer (T' ⟨bp,0,Y'⟩))) w/\pQ b11 [(at0:Int)] w) [(1,1)] [] [] (L:=[(104,Rl),(59,EK)]) hE2 (aas:=[.r (.pointer (T' ⟨d,0,Y'⟩))]) rfl (eR.call ((rB d n f c).n9 _ (GA.le.refl _)) rfl func58 rfl p') ⟨_,_,_,⟨rfl,rfl⟩,rfl⟩
  (λw fp X h=>by obtain⟨_,h⟩:=vd h;obtain⟨_,h'⟩:=vd h;exact⟨by rw[hFC];exact qO h',qO h⟩)
  (λr R'⟨R1,_,e⟩w fp X h=>by rw[e]at h;obtain⟨_,h⟩:=vd h;obtain⟨_,h'⟩:=vd h;exact⟨by rw[hFC];exact qO h',qO h⟩) (by
   intro i o x u r ho hk a w hw hx
   match i,ho,hk with
   |0,ho,hk=>cases hk
   |1,ho,hk=>cases hk
   |2,ho,hk=>cases hk
   |3,ho,hk=>cases hk
   |4,ho,hk=>cases hk
   |5,ho,hk=>cases hk
   |6,ho,hk=>cases ho;cases hk;exact⟨_,uN rfl hx,λ_=>RI.r _⟩
   |7,ho,hk=>cases ho;cases hk;exact⟨_,qI (gi a0a) rfl rfl hx,λ_=>RI.r _⟩
   |8,ho,hk=>cases ho;cases hk;exact⟨_,oC (gi a0a) rfl rfl hx (n8 hw.1 5 _ rfl),λ_=>RI.r _⟩
   |9,ho,hk=>cases hk
   |10,ho,hk=>cases ho;cases hk;exact⟨_,oC (gi a0a) rfl rfl hx (n8 hw.2 0 _ rfl),λ_=>RI.r _⟩
   |11,ho,hk=>cases hk
   |12,ho,hk=>cases hk
   |13,ho,hk=>cases hk
   |_+14,_,hk=>cases hk
   ) (ki ⟨_,rfl⟩) (λr R' hp=>?_))
 obtain⟨R1,⟨rfl,rfl⟩,rfl⟩:=hp;refine⟨rfl,?_⟩;simp only[dk,ck,fl,dF,gO,iv,Nat.reduceAdd];refine jt (A2 hNX hfitN) ?_;refine⟨rfl,cR.dz rfl ?_⟩;refine cR.seq (aa.region ?_);refine gS 1 hE2 a0b ?_;refine pD (ag a0a) _ Vn (GA.qB _) func105 (λr R' hp=>?_);obtain⟨c1,c2,rfl,rfl⟩:=hp;refine⟨rfl,?_⟩;refine GL.nil ⟨rfl,?_⟩;refine cR.block ?_;refine cR.dS (σ':=⟨[(1,.ptr 1 0),(2,.ptr 2 0),(9,.ns .u8 XS),(11,b11),(78,.r (.func (.func 141) #[] #[.pointer (T' ⟨c1,0,Y'⟩),.pointer (T' ⟨c2,0,Y'⟩)]))],[(2,⟨Z',.c [(0:Int)]⟩),(1,⟨Z',.c [bf]⟩)]⟩) (Le.mk a0b) (GA.le.refl _) ?_;intro κ β a w hn hg hC;obtain⟨fp,⟨f1,fc,k1,k2,⟨fF,fd,q1,q2,⟨fR,f11,p1,p2,hRF,h11⟩,hdisk⟩,⟨fc1,fc2,r1,r2,hc1,hc2⟩⟩,gp2,gp3,gp4⟩:=hg.now hC;have hbfW:pQ bf FR w:=qO hRF;obtain⟨fY,fb,s1,s2,hY,mb1,Ab,eb,mb2,mb3,mb4⟩:=id hRF;have e78:a.eval (.tmp 78)=.func (.func 141) #[] #[.pointer (T' ⟨c1,0,Y'⟩),.pointer (T' ⟨c2,0,Y'⟩)]:=RI.aS (hC.rel 78);have e11:a.eval (.tmp 11)=.pointer (T' ⟨b11,0,Y'⟩):=RI.aS (hC.rel 11);obtain⟨b1,base,hβ1,a1⟩:∃b1 base,β 1=T' (b1,base)/\a.eval (.tmp 1)=.pointer (T' ⟨b1,base+0,Y'⟩):=hC.rel 1 _ rfl;obtain⟨C1,e1,hb1,hb1c⟩:∃C e,w.heap[b1]?=T' (.cells C e (0,0))/\C[base+0]?=T' (.pointer (T' ⟨bf,0,Y'⟩)):=by
  rcases hC.hp 1 _ rfl with⟨q,_⟩|⟨b,base',C,e,z1,z2,z3,z4,_⟩
  .rw[hβ1]at q;cases q
  .rw[hβ1]at z1
   cases z1;obtain⟨u,y1,y2⟩:=z4 0 _ rfl;exact⟨C,e,z2,by rw[y1,RI.aS y2]⟩
 have hb1X:¬κ.X0 b1:=hC.kq (id:=1) hg.mu rfl hβ1;obtain⟨mc1,Ac1,ec1,hc1h,hc1l,hc1v⟩:=hc1;obtain⟨mc2,Ac2,ec2,hc2h,hc2l,hc2v⟩:=hc2;obtain⟨v1,hv1,rv1⟩:=hc1v 0 _ rfl;obtain⟨v2,hv2,rv2⟩:=hc2v 0 _ rfl;have hv2:Ac2[0]?=T' (.int .i64 512):=by rw[hv2,RI.aS rv2]
 obtain⟨bb,oo,cap,rfl,hcap,hbX,hcell⟩:∃bb oo cap,v1=.slice (T' ⟨bb,oo,Y'⟩) NX cap/\NX<=cap/\¬XG κ β (St.ae ⟨[(1,.ptr 1 0),(2,.ptr 2 0),(9,.ns .u8 XS),(11,b11),(78,.r (.func (.func 141) #[] #[.pointer (T' ⟨c1,0,Y'⟩),.pointer (T' ⟨c2,0,Y'⟩)]))],[(2,⟨Z',.c [(0:Int)]⟩),(1,⟨Z',.c [bf]⟩)]⟩) bb/\∀i x,XS[i]?=T' x->w.cell? ⟨bb,oo+i,Y'⟩=T' (.int .u8 x):=by
  cases rv1 with
  |ns _ _ ad b o cap hc ha hh=>
   obtain⟨rfl,hb⟩:=ha f';rw[hNX]at hc;exact⟨b,o,cap,by rw[hNX],hc,hb,hh⟩
 obtain⟨md,lvd,hD1,hD2⟩:=hdisk;have hfd:∀b,fd b->fp b:=λb h=>(k1 b).2 (.inl ((q1 b).2 (.inr h)))
 have hf11:∀b,f11 b->fp b:=λb h=>(k1 b).2 (.inl ((q1 b).2 (.inl ((p1 b).2 (.inr h)))))
 have hmd:md<w.heap.size:=gp4 md (hfd md ((hD2 md).2 (.inr (.inl rfl))));obtain⟨fx,hfx⟩:∃fx:Nat->Prop,fx=λb=>f11 b\/fd b:=⟨_,rfl⟩
 have x1:∀b,fx b↔f11 b\/fd b:=λb=>by rw[hfx]
 clear hfx;have hfx1:∀b,fx b->f1 b:=λb h=>(q1 b).2 (((x1 b).1 h).imp (λh=>(p1 b).2 (.inr h)) id)
 have hfxp:∀b,fx b->fp b:=λb h=>(k1 b).2 (.inl (hfx1 b h))
 have hfRx:∀b,fR b->¬fx b:=λb h hx=>((x1 b).1 hx).elim (p2 b h) (q2 b ((p1 b).2 (.inl h)))
 have hbfR:fR bf:=(s1 bf).2 (.inr ((mb1 bf).2 rfl));have hfRp:∀b,fR b->fp b:=λb h=>(k1 b).2 (.inl ((q1 b).2 (.inl ((p1 b).2 (.inl h)))))
 have hb1l:b1<w.heap.size:=kn hb1;have hFRc:∀(k:Nat)(v:Value),FR[k]?=T' (.r v)->Ab[k]?=T' v:=λk v hk=>by
  obtain⟨u,u1,u2⟩:=mb4 k _ hk;rw[u1,RI.aS u2]
 have f5:FR[5]?=T' (.r (.pointer (T' ⟨d,0,Y'⟩))):=by rw[<-hFR];rfl
 have hbfl:bf<w.heap.size:=kn mb2;have hb1x:¬fx b1:=λh=>hb1X (gp2 b1 (hfxp b1 h))
 have hb1f:b1≠bf:=λe=>hb1X (gp2 b1 (hfRp b1 (by rw[e];exact hbfR)))
 have hbbl:bb<w.heap.size:=by
  have:0<XS.length:=f';exact nW w ⟨bb,oo+0,Y'⟩ (hcell 0 XS[0] (ed this))
 have hbbx:∀b,fp b->b≠bb:=λb h e=>hbX (.inl (gp2 bb (by rw[<-e];exact h)))
 have hbb1:b1≠bb:=λe=>hbX (.inr ⟨1,_,base,rfl,by rw[<-e];exact hβ1⟩)
 have hc1f:fp c1:=(k1 c1).2 (.inr ((r1 c1).2 (.inl ((mc1 c1).2 rfl))));have hc2f:fp c2:=(k1 c2).2 (.inr ((r1 c2).2 (.inr ((mc2 c2).2 rfl))));have hc1x:¬f1 c1:=λh=>k2 c1 h ((r1 c1).2 (.inl ((mc1 c1).2 rfl)))
 have hc2x:¬f1 c2:=λh=>k2 c2 h ((r1 c2).2 (.inr ((mc2 c2).2 rfl)))
 have hI0:SI w fx (SG b11 d n at0 f XS c md []) w:=by
  refine⟨fx,CE (X:=XG κ β (St.ae ⟨[(1,.ptr 1 0),(2,.ptr 2 0),(9,.ns .u8 XS),(11,b11),(78,.r (.func (.func 141) #[] #[.pointer (T' ⟨c1,0,Y'⟩),.pointer (T' ⟨c2,0,Y'⟩)]))],[(2,⟨Z',.c [(0:Int)]⟩),(1,⟨Z',.c [bf]⟩)]⟩)) ⟨f11,fd,x1,λb h1 h2=>q2 b ((p1 b).2 (.inr h1)) h2,?_,lvd,hD1,hD2⟩,λ_ _ h=>h,⟨rfl,rfl,rfl,aM _,λ_ _ _=>rfl⟩⟩;have:at0+(([]:List Nat).length:Int)=at0:=J';rw[this];exact h11
 have hms:a.tmps.size=142:=hC.sz.trans hn;refine wpIn_wide.1 (IS (n:=11) (α:=Nat) DB p' (gf:=141) (lb:=#[.pointer (T' ⟨c1,0,Y'⟩),.pointer (T' ⟨c2,0,Y'⟩)]) e78 a0b (enters_of func141 I' rfl)
  (Vp c1 c2 bb oo cap NX hxpos f' hcap w (by rw[cell_of_row w c1 0 _ _ _ hc1h];exact hv1) (by rw[cell_of_row w c2 0 _ _ _ hc2h];exact hv2)) (λh k=>h.trans k) (DK (gp4 c1 hc1f) (gp4 c2 hc2f)) (iX _ _) (λ_=>rfl)
  (λpre W=>SI w fx (SG b11 d n at0 f XS c md pre) W) (λ_ _ _=>False) (Ty hmd) (λ_ _ _ _ _ h _ _=>h) hI0 (λk t=>(t.setIfInBounds 79 (.slice (T' ⟨bb,oo+512*k,Y'⟩) (min 512 (NX-512*k)) (min 512 (NX-512*k)))).setIfInBounds 12 (.slice (T' ⟨bb,oo+512*k,Y'⟩) (min 512 (NX-512*k)) (min 512 (NX-512*k)))) ?assign ?body ?done ?stop)
 case assign=>
  intro l x W K hK;have hz:∀u:Value,Array.foldl (λt(x:Nat×Value)=>t.setIfInBounds x.1 x.2) a.tmps (#[79].zip #[u])=a.tmps.setIfInBounds 79 u:=λu=>J'
  show Code.wpIn _ _ _ _ _ {tmps:=Array.foldl (λt(x:Nat×Value)=>t.setIfInBounds x.1 x.2) a.tmps (#[79].zip #[_]),defers:=[]} W;rw[hz];refine wpIn_region_list (BZ (λ⟨_,_,h⟩=>h) _ _ _ rfl ?_);refine oR (x:=.slice (T' ⟨bb,oo+512*x,Y'⟩) (min 512 (NX-512*x)) (min 512 (NX-512*x))) (w':=W) rfl ?_ ?_
  .refine Gi rfl ?_
   show(a.tmps.setIfInBounds 79 _).getD 79 undef=_;simp[iW,hms]
  .exact hK
 case body=>
  rintro l pre x W ⟨fp',hS,hS2,hS3⟩ hlt;obtain⟨PC,hPC⟩:=nm (pO XS x);have hPl:PC.length=min 512 (NX-512*x):=by rw[<-hPC];unfold pO;rw[fT,j6,hNX]
  obtain⟨PL,hPL⟩:=nm (pre.length);rw[hPL]at hlt;obtain⟨AT,hAT⟩:=nm (at0+(PL:Int));have hATn:0<=AT/\AT<n:=f';obtain⟨fF',hF'⟩:=nm (zu f at0 XS pre);have hSe:SG b11 d n at0 f XS c md pre=(GA.aJ b11 [.r (.int .i64 AT)]).star (sP d n fF' (c+PL) md):=by unfold SG;rw[hPL,hAT,hF']
  have hSn:SG b11 d n at0 f XS c md (pre++[x])=(GA.aJ b11 [.r (.int .i64 (AT+1))]).star (sP d n (ib fF' AT PC) (c+PL+1) md):=by
   unfold SG;rw[Sq,hPL,hF',hAT,hPC,aV,hPL];have e1:at0+((PL+[x].length:Nat):Int)=AT+1:=by simp only[gM,kK];omega
   rw[e1]
   rfl
  have hfpx:∀b,b<w.heap.size->fp' b->fx b:=hS2;have hb1W:W.heap[b1]?=T' (.cells C1 e1 (0,0)):=(hS3.block b1 hb1l hb1x).trans hb1;have hbfW':W.heap[bf]?=T' (.cells Ab eb (0,0)):=(hS3.block bf hbfl (hfRx bf hbfR)).trans mb2;have hn1:¬fp' b1:=λh=>hb1x (hS2 b1 hb1l h)
  have hnf:¬fp' bf:=λh=>hfRx bf hbfR (hS2 bf hbfl h)
  obtain⟨RO,hRO⟩:=nm ((GA.obj b1 (.cells C1 e1 (0,0))).star (GA.obj bf (.cells Ab eb (0,0))));have hROr:∀(V:World)(g X:Nat->Prop),RO.rel V g X->V.heap[b1]?=T' (.cells C1 e1 (0,0))/\V.heap[bf]?=T' (.cells Ab eb (0,0))/\∀b,g b↔b=b1\/b=bf:=by
   intro V g X h;rw[<-hRO]at h;obtain⟨ga,gb,y1,y2,⟨y3,y4⟩,y5,y6⟩:=h;exact⟨y4,y6,λb=>(y1 b).trans (or_congr (y3 b) (y5 b))⟩
  have hRb:(RO.star ((GA.aJ b11 [(AT:Int)]).star (sP d n fF' (c+PL) md))).rel W (λb=>(b=b1\/b=bf)\/fp' b) (λb=>(b=b1\/b=bf)\/fp' b):=by
   rw[<-hSe];refine⟨λb=>b=b1\/b=bf,fp',λ_=>dr,λb h h2=>?_,?_,CE hS⟩
   .rcases h with rfl|rfl
    .exact hn1 h2
    .exact hnf h2
   .rw[<-hRO]
    exact⟨λb=>b=b1,λb=>b=bf,λ_=>dr,λb h h2=>hb1f (h.symm.trans h2),⟨λ_=>dr,hb1W⟩,⟨λ_=>dr,hbfW'⟩⟩
  have hbW:W.heap[bb]?=w.heap[bb]?:=hS3.block bb hbbl (λh=>hbbx bb (hfxp bb h) rfl);have hpc:RI W (λb=>(b=b1\/b=bf)\/fp' b) (.ns .u8 PC) (.slice (T' ⟨bb,oo+512*x,Y'⟩) (min 512 (NX-512*x)) (min 512 (NX-512*x))):=by
   rw[<-hPl];refine RI.ns .u8 PC _ bb (oo+512*x) PC.length (aM _) (λ_=>⟨rfl,?_⟩) (λi y hy=>?_)
   .rintro((h|h)|h)
    .exact hbb1 h.symm
    .exact hbbx bf (hfRp bf hbfR) h.symm
    .exact hbbx bb (hfxp bb (hS2 bb hbbl h)) rfl
   .have hi:XS[512*x+i]?=T' y:=by
     rw[<-hPC]at hy;unfold pO at hy;rw[ic]at hy;split at hy
     .rw[j5]at hy;exact hy
     .cases hy
    have:=hcell (512*x+i) y hi;rw[show oo+512*x+i=oo+(512*x+i)from f'];exact(CG hbW).trans this
  obtain⟨tm,htm⟩:=nm ((a.tmps.setIfInBounds 79 (.slice (T' ⟨bb,oo+512*x,Y'⟩) (min 512 (NX-512*x)) (min 512 (NX-512*x)))).setIfInBounds 12 (.slice (T' ⟨bb,oo+512*x,Y'⟩) (min 512 (NX-512*x)) (min 512 (NX-512*x))));have t1:tm.getD 1 undef=.pointer (T' ⟨b1,base+0,Y'⟩):=by
   rw[<-htm,<-a1];simp[iW,Act.eval]
  have t11:tm.getD 11 undef=.pointer (T' ⟨b11,0,Y'⟩):=by
   rw[<-htm,<-e11];simp[iW,Act.eval]
  have t12:tm.getD 12 undef=.slice (T' ⟨bb,oo+512*x,Y'⟩) (min 512 (NX-512*x)) (min 512 (NX-512*x)):=by
   rw[<-htm];simp[iW,hms]
  have tsz:tm.size=142:=by rw[<-htm];simp[hms]
  show Code.wpIn _ _ _ _ _ {tmps:=(a.tmps.setIfInBounds 79 _).setIfInBounds 12 _,defers:=[]} W;rw[htm];obtain⟨hg',hC'⟩:=Nq (n:=142) (fr:=[(1,.r (.pointer (T' ⟨b1,base+0,Y'⟩))),(11,.r (.pointer (T' ⟨b11,0,Y'⟩))),(12,.ns .u8 PC)]) (a:={tmps:=tm,defers:=[]}) hRb tsz rfl (λt=>by
   by_cases u1:t=1
   .subst u1
    exact⟨rfl,by show RI _ _ (.r _) _;rw[t1];exact RI.r _⟩
   by_cases u2:t=11
   .subst u2
    exact⟨rfl,by show RI _ _ (.r _) _;rw[t11];exact RI.r _⟩
   by_cases u3:t=12
   .subst u3
    exact⟨rfl,by show RI _ _ (.ns _ _) _;rw[t12];exact hpc⟩
   have:St.get ⟨[(1,.r (.pointer (T' ⟨b1,base+0,Y'⟩))),(11,b11),(12,.ns .u8 PC)],[]⟩ t=.any:=by
    simp[St.get,lk,mZ u1,mZ u2,mZ u3]
   rw[this];exact⟨rfl,RI.any _⟩)
  refine(?_:fQ a0c 142 9 l _ (λ_=>Y') _ (λ_ R'=>R'.le (RO.star (SG b11 d n at0 f XS c md (pre++[x])))) _ _) _ _ _ W _ rfl hg' hC' (λ⟨_,_,h⟩=>h) ?_
  .refine fQ.block (fQ.seq (fQ.seq (fQ.drawn hE.hm (Ew 6 #[.tmp 83,.tmp 84,.tmp 85] [T' (.look (.tmp 1) (.pointer (T' ⟨b1,base+0,Y'⟩)) (.r (.pointer (T' ⟨bf,0,Y'⟩)))),T' (.look (.tmp 80) (.pointer (T' ⟨bf,0,Y'⟩)) (.r (.pointer (T' ⟨bf,0,Y'⟩)))),T' (.look (.tmp 81) (.pointer (T' ⟨bf,0,Y'⟩)) (.r (.pointer (T' ⟨bf,5,Y'⟩)))),T' (.look (.tmp 82) (.pointer (T' ⟨bf,5,Y'⟩)) (.r (.pointer (T' ⟨d,0,Y'⟩)))),T' (.look (.tmp 11) (.pointer (T' ⟨b11,0,Y'⟩)) (.r (.int .i64 AT))),Y',Y',Y'] (λV=>V.cell? ⟨b1,base+0,Y'⟩=T' (.pointer (T' ⟨bf,0,Y'⟩))/\pQ bf FR V/\pQ b11 [(AT:Int)] V) [] [] [] (L:=[(11,BK),(12,BI)]) hE (aas:=[.r (.pointer (T' ⟨d,0,Y'⟩)),.r (.int .i64 AT),.ns .u8 PC]) rfl
    (eR.call ((Wp d n fF' (c+PL) md AT PC hATn.1 hATn.2 f' f').n9 (RO.star (.aJ b11 [(AT:Int)])) (GA.Ag _ _ _)) rfl func106 rfl p') ⟨_,_,_,⟨rfl,rfl⟩,rfl⟩ ?_ ?_ ?_ gy (λr R' hp=>?_)))))
   .intro V g X h
    obtain⟨ga,gb,y1,y2,hro,hrest⟩:=h;obtain⟨z1,z2,z3⟩:=hROr V ga X hro;obtain⟨_,hp⟩:=vd hrest;exact⟨by rw[cell_of_row V b1 (base+0) _ _ _ z1];exact hb1c,⟨Ab,eb,z2,hFRc⟩,Qc hp⟩
   .rintro r R' ⟨R1,_,rfl⟩ V g X h
    obtain⟨_,h⟩:=vd h;obtain⟨ga,gb,y1,y2,hro,hp⟩:=h;obtain⟨z1,z2,z3⟩:=hROr V ga X hro;exact⟨by rw[cell_of_row V b1 (base+0) _ _ _ z1];exact hb1c,⟨Ab,eb,z2,hFRc⟩,Qc hp⟩
   .intro i o x u r ho hk a w hw hx
    match i,ho,hk with
    |0,ho,hk=>cases ho;cases hk;exact⟨_,oC (gi a0a) rfl rfl hx hw.1,λ_=>RI.r _⟩
    |1,ho,hk=>cases ho;cases hk;exact⟨_,uN rfl hx,λ_=>RI.r _⟩
    |2,ho,hk=>cases ho;cases hk;exact⟨_,qI (gi a0a) rfl rfl hx,λ_=>RI.r _⟩
    |3,ho,hk=>cases ho;cases hk;exact⟨_,oC (gi a0a) rfl rfl hx (n8 hw.2.1 5 _ f5),λ_=>RI.r _⟩
    |4,ho,hk=>cases ho;cases hk;exact⟨_,oC (gi a0a) rfl rfl hx (n8 hw.2.2 0 _ rfl),λ_=>RI.r _⟩
    |5,ho,hk=>cases hk
    |6,ho,hk=>cases hk
    |7,ho,hk=>cases hk
    |_+8,_,hk=>cases hk
   .obtain⟨R1,⟨rfl,rfl⟩,rfl⟩:=hp
    refine⟨rfl,?_⟩;simp only[dk,ck,fl,dF,gO,iv,Nat.reduceAdd];refine jt a0b ?_;refine⟨rfl,?_⟩;refine fQ.seq (fQ.region ?_);refine gS 2 hE h0n ?_;refine GL.nil ?_;refine fQ.dz rfl (fQ.skip ?_);refine fQ.region ?_;refine GL.le (GA.swap _ _ _) ?_;refine GL.uR (T:=ag a0a) (c:=.r (.int .i64 AT)) hE.hT rfl rfl rfl p' rfl rfl rfl rfl ?_;refine gS 1 hE a0b ?_;refine GL.Jf (T:=ag a0a) (v:=.int .i64 (AT+1)) hE.hT rfl rfl rfl rfl rfl Nat.one_pos rfl rfl rfl ?_;refine GL.nil ?_;rw[hSn];refine GA.le_eq ?_;show GA.star (GA.star RO _) (GA.aJ b11 [(AT+1:Int)])=_
    ac_rfl
  .intro κ' β' σ' R' a' w' hle hn' hg2 hC2
   obtain⟨fp2,z1,z2,z3,z4⟩:=hg2.now hC2;obtain⟨fo,fs,y1,y2,hro,hSG⟩:=hle _ _ _ z1;obtain⟨ho1,ho2,ho3⟩:=hROr _ _ _ hro;have hWsz:W.heap.size<=w'.heap.size:=fC hg2.size hC2.aQ.size;have hun:∀b,b<W.heap.size->¬((b=b1\/b=bf)\/fp' b)->w'.heap[b]?=W.heap[b]?:=λb hb hf=>by
    rw[hC2.aQ.same hg2.mu ⟨da hb hg2.size,λho=>absurd (hg2.ow b hb ho) hf⟩,hg2.old b hb hf]
   have hS3s:=hS3.size;have hsx:∀b,b<w.heap.size->fs b->fx b:=λb hb h=>by
    rcases z3 b (da hb hS3s) ((y1 b).2 (.inr h))with h2|h2
    .exact absurd h (y2 b ((ho3 b).2 h2))
    .exact hS2 b hb h2
   refine⟨⟨hWsz,λk o hk ho hc=>?_⟩,⟨?_,?_⟩,fs,CE hSG,hsx,⟨?_,?_,?_,fC hS3s hWsz,λb hb hf=>?_⟩⟩
   .rw[hun k (kn ho) (λh=>?_)]
    .exact ho
    .rcases h with(rfl|rfl)|h
     .omega
     .omega
     .rcases FY hS k h with rfl|⟨o',ho',hc'⟩
      .omega
      .rw[ho]at ho';cases ho';rw[hc]at hc';cases hc'
   .refine hun c1 (da (gp4 c1 hc1f) hS3s) (λh=>?_)
    rcases h with(rfl|rfl)|h
    .exact hb1X (gp2 _ hc1f)
    .exact hc1x ((q1 _).2 (.inl ((p1 _).2 (.inl hbfR))))
    .exact hc1x (hfx1 c1 (hS2 c1 (gp4 c1 hc1f) h))
   .refine hun c2 (da (gp4 c2 hc2f) hS3s) (λh=>?_)
    rcases h with(rfl|rfl)|h
    .exact hb1X (gp2 _ hc2f)
    .exact hc2x ((q1 _).2 (.inl ((p1 _).2 (.inl hbfR))))
    .exact hc2x (hfx1 c2 (hS2 c2 (gp4 c2 hc2f) h))
   .exact(hC2.aQ.os.trans hg2.os).trans hS3.os
   .exact(hC2.aQ.tape.trans hg2.tape).trans hS3.tape
   .exact(hC2.aQ.output.trans hg2.output).trans hS3.output
   .by_cases e1:b=b1
    .subst e1;rw[ho1,hb1]
    by_cases e2:b=bf
    .subst e2;rw[ho2,mb2]
    rw[hun b (da hb hS3s) (λh=>h.elim (λh=>h.elim e1 e2) (λh=>hf (hS2 b hb h))),hS3.block b hb hf]
 case done=>
  rintro D xs W hD rfl ⟨fp',hS,hS2,hS3⟩ hDh;obtain⟨NC,hNC⟩:=nm ((NX+511)/512);rw[hNC]at hS;obtain⟨ff,hff⟩:=nm (mR f at0 XS NC);have hSe:SG b11 d n at0 f XS c md (List.range NC)=(GA.aJ b11 [.r (.int .i64 (at0+(NC:Int)))]).star (sP d n ff (c+NC) md):=by unfold SG;rw[So,xx,hff]
  have hNC2:NC<=400:=f';have hfRl:∀b,fR b->b<w.heap.size:=λb h=>gp4 b (hfRp b h)
  have hDf:¬fp' D:=λh=>by
   rcases FY hS D h with rfl|⟨o',ho',hc'⟩
   .omega
   .rw[hDh]at ho';cases ho';cases hc'
  have hXD:∀b,b<w.heap.size->XG κ β (St.ae ⟨[(1,.ptr 1 0),(2,.ptr 2 0),(9,.ns .u8 XS),(11,b11),(78,.r (.func (.func 141) #[] #[.pointer (T' ⟨c1,0,Y'⟩),.pointer (T' ⟨c2,0,Y'⟩)]))],[(2,⟨Z',.c [(0:Int)]⟩),(1,⟨Z',.c [bf]⟩)]⟩) b\/((fR b\/fp' b)\/b=D)->XG κ β (St.ae ⟨[(1,.ptr 1 0),(2,.ptr 2 0),(9,.ns .u8 XS),(11,b11),(78,.r (.func (.func 141) #[] #[.pointer (T' ⟨c1,0,Y'⟩),.pointer (T' ⟨c2,0,Y'⟩)]))],[(2,⟨Z',.c [(0:Int)]⟩),(1,⟨Z',.c [bf]⟩)]⟩) b:=λb hb hx=>by
   rcases hx with hx|(hx|hx)|hx
   .exact hx
   .exact .inl (gp2 b (hfRp b hx))
   .exact .inl (gp2 b (hfxp b (hS2 b hb hx)))
   .omega
  obtain⟨κ',hn3,hg3,hC3,_⟩:=hg.call (w':=W) (R':=(((((X.star ((GA.aJ bp (cZ d 4 6 1 0)))).star (cG g2 l2)).star (.aJ bf FR)).star (SG b11 d n at0 f XS c md (List.range NC))).star (GA.mark D))) (fp:=fp) (fp':=λb=>(fR b\/fp' b)\/b=D) hC gp2 gp3
   ⟨λb=>fR b\/fp' b,λb=>b=D,λ_=>dr,λb h e=>(by
    subst e;rcases h with h|h
    .have:=hfRl b h;omega
    .exact hDf h),⟨fR,fp',λ_=>dr,λb h h2=>hfRx b h (hS2 b (hfRl b h) h2),GA.loc _ hS3.size (λb hb hh=>hS3.block b hb (λhx=>by
     rcases hh with hh|hh
     .exact hfRx b hh hx
     .exact hh (.inl (gp2 b (hfxp b hx))))) hXD hRF,CE hS⟩,λ_=>dr,hDh⟩
   (λb hb hx=>by
    rcases hx with(hx|hx)|hx
    .exact hfRp b hx
    .exact hfxp b (hS2 b hb hx)
    .omega) ⟨hS3.os,hS3.tape,hS3.output,hS3.size,λb hb hf=>hS3.block b hb (λhx=>hf (hfxp b hx))⟩
  have hC3':av κ' β (St.live ⟨[(1,.ptr 1 0),(2,.ptr 2 0),(9,.ns .u8 XS),(11,b11),(78,.r (.func (.func 141) #[] #[.pointer (T' ⟨c1,0,Y'⟩),.pointer (T' ⟨c2,0,Y'⟩)]))],[(2,⟨Z',.c [(0:Int)]⟩),(1,⟨Z',.c [bf]⟩)]⟩).get (St.live ⟨[(1,.ptr 1 0),(2,.ptr 2 0),(9,.ns .u8 XS),(11,b11),(78,.r (.func (.func 141) #[] #[.pointer (T' ⟨c1,0,Y'⟩),.pointer (T' ⟨c2,0,Y'⟩)]))],[(2,⟨Z',.c [(0:Int)]⟩),(1,⟨Z',.c [bf]⟩)]⟩).ae a W:=by
   rw[St.iD,St.gm];exact hC3
  obtain⟨hg4,hC4⟩:=hg3.defer hC3' [{target:=.collected D,args:=#[]}];have hadf:a.defers=[]:=hC.gp.trans (hg.df.trans hDn);have hDle:en.W.heap.size<=D:=fC (fC hg.size hC.aQ.size) hD;rw[hSe]at hg4;generalize hA4:({a with defers:=[{target:=.collected D,args:=#[]}]}:Act)=a4 at hC4;show Code.wp a0c _ _ {a with defers:={target:=.collected D,args:=#[]}::a.defers} W;rw[hadf,hA4];refine wp_mono ((?_:aa a0c 142 _ (λ_=>Y') _ (λe σ' R'=>∃R0,R'=R0.star (GA.mark D)/\dM (ag a0a) [.cell 2 27] [27] (λr R=>r=.r (.int .i64 0)/\R=((X.star ((aZ d n (gx ff 4 6 1 0 (aI (NX:Int) 8)) 0).star (.aJ bp (cZ d 6 6 1 1)))).star (cG g2 l2)).star (.aJ bf (eG j d (bI g1 l1.length) (bI g2 T) Z' a0a 1 lg (.pointer (T' ⟨bp,0,Y'⟩))))) e σ'.live R0) _ _) ⟨κ'.nt,κ'.w0,κ'.X0,κ'.mu,κ'.ow,[{target:=.collected D,args:=#[]}],κ'.bC⟩ β a4 W (hn3.trans hn) hg4 hC4) (λe a' w'⟨κ5,σ5,β5,R5,⟨R0,hR0,hq⟩,hn5,hg5,hC5⟩=>?_)
  rotate_left
  .subst hR0
   rw[hXS',hNX,hNC,hff];exact Yy (en:=⟨en.W,en.X,en.fp,en.sub,en.lt,[{target:=.collected D,args:=#[]}]⟩) hE.hT results65 rfl rfl hDle hg5 hC5 hq
  clear hg4 hC4 hC3' hC3 hg3 hXD hDf hS hS2 hS3 hcell hc1v hc2v mb4 hFRc hI0 hg hC;have f12:FR[12]?=T' (.r (.pointer (T' ⟨bp,0,Y'⟩))):=by rw[<-hFR];rfl
  have hFl:FR.length=13:=by rw[<-hFR];rfl
  have hFC2:eG j d (bI g1 l1.length) (bI g2 T) Z' a0a 1 lg (.pointer (T' ⟨bp,0,Y'⟩))=FR.set 8 (.r (.bool Z')):=by rw[<-hFR];rfl
  rw[hFC2];refine aa.dS (σ':=⟨[(1,.ptr 1 0),(2,.ptr 2 0),(9,.ns .u8 XS)],[(2,⟨Z',.c [(0:Int)]⟩),(1,⟨Z',.c [bf]⟩)]⟩) (R':=(((((X.star (cG g2 l2)).star (GA.mark D)).star (aZ d n ff (c+NC))).star (.aJ bp (cZ d 4 6 1 0))).star (.aJ bf FR)).star (.aJ b11 [(at0+(NC:Int):Int)])) (Le.mk a0b)
   ((GA.le_eq (B:=(((((X.star (cG g2 l2)).star (GA.mark D)).star (.aJ bp (cZ d 4 6 1 0))).star (.aJ bf FR)).star (.aJ b11 [.r (.int .i64 (at0+(NC:Int)))])).star (sP d n ff (c+NC) md)) (by ac_rfl)).trans ((GA.mono (GA.le.refl _) (Wc d n ff (c+NC) md)).trans (GA.le_eq (by ac_rfl)))) ?_
  refine aa.ja eZ.drop ?_;refine aa.seq (aa.seq (aa.region ?_));refine gS 1 hE a0b ?_;refine GL.rJ rfl rfl rfl p' rfl ?_;refine GL.rE (T:=ag a0a) (e:=5) hE.hT rfl rfl rfl p' rfl rfl ?_;refine GL.uR (T:=ag a0a) (c:=.r (.pointer (T' ⟨d,0,Y'⟩))) hE.hT rfl rfl rfl p' rfl rfl f5 rfl ?_;refine sZ (ag a0a) ((((X.star (cG g2 l2)).star (GA.mark D)).star (.aJ bp (cZ d 4 6 1 0))).star (.aJ bf FR)) (GI d n ff (c+NC) f') (GA.le_eq (by ac_rfl)) func107 ?_;refine gS 1 hE a0b ?_;refine gN ?_;refine gR hE h0n ?_;refine gF ?_;refine aa.bG ?_;refine GL.Gg (T:=ag a0a) hE.hT rfl rfl rfl p' rfl (λb15=>?_);refine GL.nil ?_;obtain⟨RQ,hRQ⟩:=nm (((((X.star (cG g2 l2)).star (GA.mark D)).star (.aJ bp (cZ d 4 6 1 0))).star (.aJ bf FR)).star (aZ d n ff 0));rw[hRQ];refine aa.seq (gR hE a0b ?_);refine aa.block ?_;refine aa.loop (ι:={k:Nat // k<=8}) (λk=>(⟨[(1,.ptr 1 0),(2,.ptr 2 0),(9,.ns .u8 XS),(15,b15),(118,(k.1:Int))],[(2,⟨Z',.c [(0:Int)]⟩),(1,⟨Z',.c [bf]⟩)]⟩,RQ.star (.aJ b15 (lz NX k.1)))) (λk=>8-k.1) ⟨0,dU _⟩ ?_ ?_ ?_
  .exact Le.mk a0b
  .exact GA.le.refl _
  rintro⟨k,hk8⟩;dsimp only
  by_cases hlt8:k<8
  .have hltI:(k:Int)<8:=f'
   have hlz:=aa9 (NX:Int) k hlt8;have hll:=aa8 (NX:Int) k hk8;obtain⟨LZ,hLZ⟩:=nm (lz NX k);rw[hLZ]at hlz hll|-;obtain⟨y,hy⟩:=nm ((NX:Int)/256^k%256);rw[hy]at hlz;have hy2:IntKind.u8.wrap ((NX:Int).fdiv (2^(8*k)))=y:=by
    rw[Ck,lW _ (bo (jl p')),wrap_u8];exact hy
   refine gR hE hltI ?_;refine aa.seq (gT ?_);refine aa.seq (aa.block (gR hE a0b ?_));refine aa.gd dm 15 p' p' rfl rfl (gr rfl) ?_;refine aa.of (T:=ag a0a) ?_;refine JA hE (A4 hNX hy2 hll hltI) ?_;refine⟨_,rfl,?_⟩;show aa _ _ _ _ _ _ _ _;have r1:(1==dm)=false:=rfl;have r2:(2==dm)=false:=rfl;have r3:¬1=dm:=p';have r4:¬2=dm:=p';refine aa.dS (σ':=⟨[(1,.ptr 1 0),(2,.ptr 2 0),(9,.ns .u8 XS),(15,b15),(118,(k:Int))],[(2,⟨Z',.c [(0:Int)]⟩),(1,⟨Z',.c [bf]⟩)]⟩) (Le.mk (A4 r1 r2 r3 r4)) (GA.le.refl _) ?_;refine aa.of (T:=ag a0a) ?_;refine wk hE a0b ?_;exact⟨⟨k+1,f'⟩,Le.mk a0b,by dsimp only;rw[<-hlz];exact GA.le.refl _,N'⟩
  obtain rfl:k=8:=f';refine gR hE (show¬((8:Nat):Int)<8 from f') ?_;refine aa.seq (gX ?_);have hB8:B8 (aI (NX:Int) 8):=B8.of (uM _ _) (by rw[cX];decide);refine aa.dS (Le.refl _) (R':=((((X.star (cG g2 l2)).star (GA.mark D)).star (.aJ bf FR)).star (((aZ d n ff 0).star (.aJ bp (cZ d 4 6 1 0))).star (.aJ b15 (lz NX 8))))) (GA.le_eq (by rw[<-hRQ];ac_rfl)) ?_;refine aa.seq (aa.Qr 5 #[.tmp 133,.tmp 134] [Y',T' (.look (.tmp 130) (.pointer (T' ⟨bf,0,Y'⟩)) (.r (.pointer (T' ⟨bf,0,Y'⟩)))),T' (.look (.tmp 131) (.pointer (T' ⟨bf,0,Y'⟩)) (.r (.pointer (T' ⟨bf,12,Y'⟩)))),T' (.look (.tmp 132) (.pointer (T' ⟨bf,12,Y'⟩)) (.r (.pointer (T' ⟨bp,0,Y'⟩)))),T' (.look (.tmp 15) (.pointer (T' ⟨b15,0,Y'⟩)) (.r (.slice (T' ⟨b15,0,Y'⟩) 8 8))),Y',Y'] (λw=>pQ bf FR w) [(1,1)] [] [] (L:=[(11,BK),(12,BI)]) hE (aas:=[.r (.pointer (T' ⟨bp,0,Y'⟩)),.r (.slice (T' ⟨b15,0,Y'⟩) 8 8)]) rfl
   (eR.call (((La (bj:=bp) (d:=d) (n:=n) (f:=ff) (c:=0) (a:=4) (e:=6) (ep:=1) (nx:=0) (xs:=aI (NX:Int) 8) hn2 p' (by rw[cX];decide) (by rw[cX];decide) hB8 p' p' f' p' p' p' p').ZG (B:=.aJ b15 (lz NX 8)) (args2:=[.r (.pointer (T' ⟨bp,0,Y'⟩)),.r (.slice (T' ⟨b15,0,Y'⟩) 8 8)]) rfl
    (λr R'⟨e1,e2⟩=>⟨by rw[e1];rfl,by rw[e2];exact GA.XI (Dg _ _ _ _) (Zl _ _ _ _ _ _)⟩)
    (λw g X hr j' c c2 v q1 q2 hv=>ZH hr j' c c2 v q1 q2 hv)).n9 _ (GA.le.refl _)) rfl func103 rfl p') ⟨_,_,_,⟨_,⟨rfl,rfl⟩,rfl⟩,rfl⟩
   (λw fp X h=>by obtain⟨_,h⟩:=vd h;exact qO h) (λr R'⟨R1,_,e⟩w fp X h=>by rw[e]at h;obtain⟨_,h⟩:=vd h;exact qO h) (by
    intro i o x u r ho hk a w hw hx
    match i,ho,hk with
    |0,ho,hk=>cases hk
    |1,ho,hk=>cases ho;cases hk;exact⟨_,uN rfl hx,λ_=>RI.r _⟩
    |2,ho,hk=>cases ho;cases hk;exact⟨_,qI (gi a0a) rfl rfl hx,λ_=>RI.r _⟩
    |3,ho,hk=>cases ho;cases hk;exact⟨_,oC (gi a0a) rfl rfl hx (n8 hw 12 _ f12),λ_=>RI.r _⟩
    |4,ho,hk=>cases ho;cases hk;exact⟨_,ZV rfl hx,λ_=>RI.r _⟩
    |5,ho,hk=>cases hk
    |6,ho,hk=>cases hk
    |_+7,_,hk=>cases hk) (ki ⟨_,rfl⟩) (λr R' hp=>?_))
  obtain⟨R1,⟨R2,⟨rfl,rfl⟩,rfl⟩,rfl⟩:=hp;refine⟨rfl,?_⟩;simp only[dk,ck,fl,dF,gO,iv,Nat.reduceAdd];refine jt a0b ?_;show aa _ _ _ _ _ _ _ _;refine aa.dS (Le.refl _) (R':=((((X.star (cG g2 l2)).star (GA.mark D)).star ((aZ d n (gx ff 4 6 1 0 (aI (NX:Int) 8)) 0).star (.aJ bp (cZ d (4+2) 6 1 (0+1))))).star (.aJ bf FR)).star (.aJ b15 (lz NX 8))) (GA.le_eq (by ac_rfl)) ?_;refine aa.ja eZ.drop ?_;have h0e:((0:Int)==0)=true:=rfl;refine aa.bG ?_;refine gS 3 hE h0e ?_;refine GL.rJ rfl rfl rfl p' rfl ?_;refine GL.rE (T:=ag a0a) (e:=8) hE.hT rfl rfl rfl p' rfl rfl ?_;refine GL.Jf (T:=ag a0a) (v:=.bool Z') hE.hT rfl rfl rfl rfl rfl f' rfl rfl rfl ?_;refine GL.nil ?_;refine gR hE a0b ?_;refine aa.dS (Le.refl _) (R':=(((X.star ((aZ d n (gx ff 4 6 1 0 (aI (NX:Int) 8)) 0).star (.aJ bp (cZ d 6 6 1 1)))).star (cG g2 l2)).star (.aJ bf (FR.set 8 (.r (.bool Z'))))).star (GA.mark D)) (GA.le_eq (by show GA.star (GA.star (GA.star (GA.star X _) _) (GA.star _ (GA.aJ bp (cZ d 6 6 1 1)))) _=_;ac_rfl)) ?_;refine aa.ret ?_;exact⟨_,rfl,dM.of ⟨rfl,rfl⟩ (aO.mk a0b rfl)⟩
 case stop=>
  rintro D c pre W _ _ h;exact h.elim
end
end Go.Hl
