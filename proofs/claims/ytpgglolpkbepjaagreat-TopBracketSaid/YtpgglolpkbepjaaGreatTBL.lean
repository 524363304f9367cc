/- Lemmas for TopSound and TopBracket. -/
import Derived.Deep.RegionHeld
import Derived.Test.YtpgglolpkbepjaaGreatTBJ
set_option linter.unusedVariables false
set_option linter.unusedSimpArgs false
namespace Go.Hl
open Go.Proofs.Tryz
open Go.Proofs.Tryz renaming prog→a0c
open Option renaming some→T',none→Y'
open Bool renaming true→Z',false→a0a
open Go Go.RowKit Go.Proofs
set_option maxHeartbeats 8000000
set_option maxRecDepth 100000
section
variable {a:Act}{d t:Nat}
def mf(l:List Bool)(k:Nat)(t:List Bool):List Bool:=l.take k++(t.take (l.length-k))++l.drop (k+(t.take (l.length-k)).length)
theorem iP(v:Value)(h:d<a.tmps.size):(a.put (T' d) v).eval (.tmp d)=v:=by
 simp[Act.put,Act.eval,iW,h]
theorem bZ(v:Value)(h:d≠t):(a.put (T' d) v).eval (.tmp t)=a.eval (.tmp t):=by
 simp[Act.put,Act.eval,iW,h]
theorem kY{v:Value}(h:a.eval (.tmp t)=v)(hh:t<a.tmps.size):a.tmps[t]'hh=v:=by
 have:a.tmps.getD t undef=v:=h;simpa[iW,hh]using this
theorem size_put(a:Act)(d:Option Nat)(v:Value):(a.put d v).tmps.size=a.tmps.size:=by
 cases d<;>simp[Act.put]
theorem abF{j:JN}{bf g1 g2:Nat}{l1 l2:List Bool}{pub dead:Bool}{gen:Int}{lg pb:Value}{i:Nat}{x:Int}(hx:0<=x/\x<256)(hi:i<l1.length)(e9:l1.length<=10)(e8:4*i<l2.length)(fb:l2.length<=10):
 aA a0c 63 [bf,.ns .u8 [(i:Int),0,x]] (((cG g2 l2).star (cG g1 l1)).star (.aJ bf (eG j d (bI g1 l1.length) (bI g2 l2.length) pub dead gen lg pb)))
  (λr R=>r=.aU []/\R=((cG g2 (mf l2 (4*i) (nH x))).star (cG g1 (l1.set i Z'))).star (.aJ bf (eG j d (bI g1 l1.length) (bI g2 l2.length) pub dead gen lg pb))):=by
 have hE:=di RK;have dA:bits .or .i64 (i:Int) 0=(i:Int):=by
  have h:∀i:Nat,i<10->bits .or .i64 (i:Int) 0=(i:Int):=M';exact h i f'
 have wi:IntKind.i64.wrap (i:Int)=i:=by rw[qZ];omega
 unfold eG;refine aA.body hE func63 ntmps63 results63 (λen=>?_);refine aa.seq (aE ?_);refine gF ?_;refine aa.seq (aa.of (T:=ag a0a) ?_);refine ai.regionF [] [] [] hE.hT hE.hS hE.hm gy (an (A2 dA wi) ?_);show aa _ _ _ _ _ _ _ _;refine aa.seq (aa.gd dm 0 p' p' rfl rfl (gr rfl) ?_);refine aa.region ?_;refine az 5 ?_;refine GL.DS (g:=g1) (m:=l1.length) rfl rfl rfl p' rfl ?_;refine fG 1 (show(i:Int)<l1.length from f') ?_;refine GL.nil ?_;refine⟨_,rfl,?_⟩;show aa _ _ _ _ _ _ _ _;refine aa.eo rfl (aa.seq (aa.gd dm 0 p' p' rfl rfl (gr rfl) (aa.region ?_)));refine az 5 ?_;refine GL.DC (g:=g1) (m:=l1.length) (i:=i) rfl rfl rfl p' rfl rfl hi ?_;refine GL.afv (i:=i) rfl rfl rfl rfl hi ?_;refine GL.nil ?_;refine⟨_,rfl,?_⟩;show aa _ _ _ _ _ _ _ _;refine aa.dS (σ':=⟨[(0,bf),(1,.ns .u8 [(i:Int),0,x]),(4,(i:Int))],[]⟩) (Le.mk a0b) (GA.le.refl _) ?_;intro κ β a w hn hg hC;obtain⟨fp,⟨f,q,k1,k2,⟨f2,f1,r1,r2,a5,cu⟩,m1,A,e,m2,m3,m4⟩,y2,y3,y4⟩:=hg.now hC;have a0:a.eval (.tmp 0)=.pointer (T' ⟨bf,0,Y'⟩):=RI.aS (hC.rel 0);have a4:a.eval (.tmp 4)=.int .i64 (i:Int):=RI.aS (hC.rel 4);have br:RI w (XG κ β _) (.ns .u8 [(i:Int),0,x]) (a.eval (.tmp 1)):=hC.rel 1;obtain⟨bx,ox,cx,a1,e7,dd,bH⟩:∃bx ox cx,a.eval (.tmp 1)=.slice (T' ⟨bx,ox,Y'⟩) 3 cx/\3<=cx/\¬XG κ β (St.ae _) bx/\w.cell? ⟨bx,ox+2,Y'⟩=T' (.int .u8 x):=by
  obtain⟨v1,eg⟩:=nm (a.eval (.tmp 1));rw[eg]at br|-;cases br with
  |ns _ _ ad b o cap hc ha hh=>
   obtain⟨rfl,hb⟩:=ha J';exact⟨b,o,cap,rfl,hc,hb,hh 2 x rfl⟩
 have bt:w.heap[bf]?=T' (.cells A e (0,0)):=m2;have cp:A[7]?=T' (bI g2 l2.length):=by
  obtain⟨u,p1,p2⟩:=m4 7 _ rfl;rw[p1,RI.aS p2]
 have bD:w.heap[g2]?=T' (.cells (l2.map Value.bool).toArray 4 (0,0)):=a5.2;have ds:bx≠g2:=λh=>dd (.inl (y2 bx ((k1 bx).2 (.inl ((r1 bx).2 (.inl ((a5.1 bx).2 h)))))))
 have c4:bx<w.heap.size:=nW w ⟨bx,ox+2,Y'⟩ bH;have bF:=hC.sz.trans hn;refine wp_mono (Q:=λe a' w'=>e=.normal/\a'.tmps.size=42/\a'.defers=a.defers/\w'.heap[g2]?=T' (.cells ((mf l2 (4*i) (nH x)).map Value.bool).toArray 4 (0,0))/\lU (λc=>c=g2) w w') ?_ ?_
 rotate_left
 .rintro e' a' w' ⟨rfl,s1,s2,s3,s4⟩
  have bA:fp g2:=(k1 g2).2 (.inl ((r1 g2).2 (.inl ((a5.1 g2).2 rfl))));have cv:XG κ β (St.ae ⟨[(0,bf),(1,.ns .u8 [(i:Int),0,x]),(4,(i:Int))],[]⟩) g2:=.inl (y2 g2 bA);have bE:∀(P:Nat->Prop),¬P g2->∀c,c<w.heap.size->P c\/¬XG κ β (St.ae ⟨[(0,bf),(1,.ns .u8 [(i:Int),0,x]),(4,(i:Int))],[]⟩) c->w'.heap[c]?=w.heap[c]?:=λP hP c hc hh=>s4.block c hc (λh=>by
   subst h;exact hh.elim hP (λh=>h cv))
  have bs:∀c,c<w.heap.size->XG κ β (St.ae ⟨[(0,bf),(1,.ns .u8 [(i:Int),0,x]),(4,(i:Int))],[]⟩) c\/fp c->XG κ β (St.ae ⟨[(0,bf),(1,.ns .u8 [(i:Int),0,x]),(4,(i:Int))],[]⟩) c:=λc _ hx=>hx.elim id (λh=>.inl (y2 c h))
  have hp:=(GA.aJ bf _).loc s4.size (bE q (λh=>k2 g2 ((r1 g2).2 (.inl ((a5.1 g2).2 rfl))) h)) bs ⟨m1,A,e,m2,m3,m4⟩;have ea:=(cG g1 _).loc s4.size (bE f1 (λh=>r2 g2 ((a5.1 g2).2 rfl) h)) bs cu;obtain⟨e6,h1,h2,h3,h4⟩:=hg.call (w':=w') (R':=((cG g2 (mf l2 (4*i) (nH x))).star (cG g1 (l1.set i Z'))).star (.aJ bf (eG j d (bI g1 l1.length) (bI g2 l2.length) pub dead gen lg pb))) (fp':=fp) hC y2 y3 ⟨f,q,k1,k2,⟨f2,f1,r1,r2,⟨a5.1,s3⟩,ea⟩,hp⟩ (λc _ hx=>hx) ⟨s4.os,s4.tape,s4.output,s4.size,λc hc hf=>s4.block c hc (λh=>hf (by subst h;exact bA))⟩;have bm:=h3.drop (G':=λ_=>Y') (λ_=>.inr rfl);refine⟨e6,⟨[],[]⟩,β,_,?_,h1.trans hn,h2,⟨s1.trans (h1.trans hn).symm,λu=>RI.any _,by rw[s2,hC.gp,hg.df,h2.df],λid ae hi=>(by cases hi),λi j b c x y _ hx=>(by cases hx),bm.aQ,bm.x0,bm.bC⟩⟩;show dM _ _ _ _ _ _ _;exact pG
 refine wp_region_held_drew (S:=λw'=>w'.heap[bf]?=w.heap[bf]?/\w'.heap[bx]?=w.heap[bx]?) mixed ⟨rfl,rfl⟩ (λhS=>?_);refine wpAnyH_take (i:=0) (v:=.pointer (T' ⟨bf,0,Y'⟩)) rfl I' I' I' (λc a w h=>(by cases h.1)) (.inl ⟨rfl,λw0 ab=>?_⟩) hS ?_
 .go_simp
  simp only[kY a0]
  try go_simp
 obtain⟨b0,af⟩:=nm (a.put (T' 31) (.pointer (T' ⟨bf,0,Y'⟩)));have bK:b0.tmps.size=42:=by rw[<-af,size_put];exact bF
 have bU:b0.defers=a.defers:=by rw[<-af];rfl
 have eS:b0.eval (.tmp 31)=.pointer (T' ⟨bf,0,Y'⟩):=by rw[<-af];exact iP _ (by rw[bF];decide)
 have ei:b0.eval (.tmp 1)=.slice (T' ⟨bx,ox,Y'⟩) 3 cx:=by rw[<-af,bZ _ p'];exact a1
 have ej:b0.eval (.tmp 4)=.int .i64 (i:Int):=by rw[<-af,bZ _ p'];exact a4
 show wpAnyH _ _ _ _ _ _ _ (a.put (T' 31) (.pointer (T' ⟨bf,0,Y'⟩))) _;rw[af];clear af;refine wpAnyH_take (i:=1) (v:=.pointer (T' ⟨bf,0,Y'⟩)) rfl I' I' I' (λc a w h=>(by cases h.1)) (.inl ⟨rfl,λw0 ab=>?_⟩) hS ?_
 .go_simp
  simp only[kY eS]
  try go_simp
 obtain⟨b1,ao⟩:=nm (b0.put (T' 32) (.pointer (T' ⟨bf,0,Y'⟩)));have bL:b1.tmps.size=42:=by rw[<-ao,size_put];exact bK
 have bV:b1.defers=a.defers:=by rw[<-ao];exact bU
 have eU:b1.eval (.tmp 32)=.pointer (T' ⟨bf,0,Y'⟩):=by rw[<-ao];exact iP _ (by rw[bK];decide)
 have ek:b1.eval (.tmp 1)=.slice (T' ⟨bx,ox,Y'⟩) 3 cx:=by rw[<-ao,bZ _ p'];exact ei
 have er:b1.eval (.tmp 4)=.int .i64 (i:Int):=by rw[<-ao,bZ _ p'];exact ej
 show wpAnyH _ _ _ _ _ _ _ (b0.put (T' 32) (.pointer (T' ⟨bf,0,Y'⟩))) _;rw[ao];clear ao;refine wpAnyH_take (i:=2) (v:=.pointer (T' ⟨bf,7,Y'⟩)) rfl I' I' I' (λc a w h=>(by cases h.1)) (.inl ⟨rfl,λw0 ab=>?_⟩) hS ?_
 .go_simp
  simp only[kY eU]
  try go_simp
 obtain⟨b2,aw⟩:=nm (b1.put (T' 33) (.pointer (T' ⟨bf,7,Y'⟩)));have bM:b2.tmps.size=42:=by rw[<-aw,size_put];exact bL
 have bW:b2.defers=a.defers:=by rw[<-aw];exact bV
 have eV:b2.eval (.tmp 33)=.pointer (T' ⟨bf,7,Y'⟩):=by rw[<-aw];exact iP _ (by rw[bL];decide)
 have ew:b2.eval (.tmp 1)=.slice (T' ⟨bx,ox,Y'⟩) 3 cx:=by rw[<-aw,bZ _ p'];exact ek
 have ey:b2.eval (.tmp 4)=.int .i64 (i:Int):=by rw[<-aw,bZ _ p'];exact er
 show wpAnyH _ _ _ _ _ _ _ (b1.put (T' 33) (.pointer (T' ⟨bf,7,Y'⟩))) _;rw[aw];clear aw;refine wpAnyH_take (i:=3) (v:=bI g2 l2.length) rfl I' I' I' (λc a w h=>(by cases h.1)) (.inl ⟨rfl,λw0 ab=>?_⟩) hS ?_
 .have c7:w0.cell? ⟨bf,7,Y'⟩=T' (bI g2 l2.length):=by rw[cell_of_row w0 bf 7 _ _ _ (ab.1.trans bt)];exact cp
  go_simp
  simp only[kY eV]
  try go_simp
 obtain⟨b3,ax⟩:=nm (b2.put (T' 34) (bI g2 l2.length));have bN:b3.tmps.size=42:=by rw[<-ax,size_put];exact bM
 have bX:b3.defers=a.defers:=by rw[<-ax];exact bW
 have eX:b3.eval (.tmp 34)=bI g2 l2.length:=by rw[<-ax];exact iP _ (by rw[bM];decide)
 have eA:b3.eval (.tmp 1)=.slice (T' ⟨bx,ox,Y'⟩) 3 cx:=by rw[<-ax,bZ _ p'];exact ew
 have eB:b3.eval (.tmp 4)=.int .i64 (i:Int):=by rw[<-ax,bZ _ p'];exact ey
 show wpAnyH _ _ _ _ _ _ _ (b2.put (T' 34) (bI g2 l2.length)) _;rw[ax];clear ax;refine wpAnyH_take (i:=4) (v:=.int .i64 (i:Int)) rfl I' I' I' (λc a w h=>(by cases h.1)) (.inl ⟨rfl,λw0 ab=>?_⟩) hS ?_
 .go_simp
  simp only[kY eB]
  try go_simp
 obtain⟨b4,ay⟩:=nm (b3.put (T' 35) (.int .i64 (i:Int)));have bO:b4.tmps.size=42:=by rw[<-ay,size_put];exact bN
 have bY:b4.defers=a.defers:=by rw[<-ay];exact bX
 have eY:b4.eval (.tmp 35)=.int .i64 (i:Int):=by rw[<-ay];exact iP _ (by rw[bN];decide)
 have eC:b4.eval (.tmp 1)=.slice (T' ⟨bx,ox,Y'⟩) 3 cx:=by rw[<-ay,bZ _ p'];exact eA
 have eE:b4.eval (.tmp 34)=bI g2 l2.length:=by rw[<-ay,bZ _ p'];exact eX
 show wpAnyH _ _ _ _ _ _ _ (b3.put (T' 35) (.int .i64 (i:Int))) _;rw[ay];clear ay;refine wpAnyH_take (i:=5) (v:=.int .i64 (4*(i:Int))) rfl I' I' I' (λc a w h=>(by cases h.1)) (.inl ⟨rfl,λw0 ab=>?_⟩) hS ?_
 .go_simp
  simp only[kY eY]
  try go_simp
  rw[qZ];omega
 obtain⟨b5,a3⟩:=nm (b4.put (T' 36) (.int .i64 (4*(i:Int))));have bP:b5.tmps.size=42:=by rw[<-a3,size_put];exact bO
 have ca:b5.defers=a.defers:=by rw[<-a3];exact bY
 have e0:b5.eval (.tmp 36)=.int .i64 (4*(i:Int)):=by rw[<-a3];exact iP _ (by rw[bO];decide)
 have eH:b5.eval (.tmp 1)=.slice (T' ⟨bx,ox,Y'⟩) 3 cx:=by rw[<-a3,bZ _ p'];exact eC
 have eI:b5.eval (.tmp 34)=bI g2 l2.length:=by rw[<-a3,bZ _ p'];exact eE
 show wpAnyH _ _ _ _ _ _ _ (b4.put (T' 36) (.int .i64 (4*(i:Int)))) _;rw[a3];clear a3;refine wpAnyH_take (i:=6) (v:=.slice (T' ⟨g2,4*i,Y'⟩) (l2.length-4*i) (l2.length-4*i)) rfl I' I' I' (λc a w h=>(by cases h.1)) (.inl ⟨rfl,λw0 ab=>?_⟩) hS ?_
 .go_simp
  simp only[kY eI,kY e0]
  try go_simp
  simp only[bI]
  go_simp
  have e4:(4*(i:Int)).toNat=4*i:=f';rw[au ⟨f',f'⟩,e4,aq f']
 obtain⟨b6,a7⟩:=nm (b5.put (T' 37) (.slice (T' ⟨g2,4*i,Y'⟩) (l2.length-4*i) (l2.length-4*i)));have bQ:b6.tmps.size=42:=by rw[<-a7,size_put];exact bP
 have cc:b6.defers=a.defers:=by rw[<-a7];exact ca
 have e1:b6.eval (.tmp 37)=.slice (T' ⟨g2,4*i,Y'⟩) (l2.length-4*i) (l2.length-4*i):=by rw[<-a7];exact iP _ (by rw[bP];decide)
 have eK:b6.eval (.tmp 1)=.slice (T' ⟨bx,ox,Y'⟩) 3 cx:=by rw[<-a7,bZ _ p'];exact eH
 show wpAnyH _ _ _ _ _ _ _ (b5.put (T' 37) (.slice (T' ⟨g2,4*i,Y'⟩) (l2.length-4*i) (l2.length-4*i))) _;rw[a7];clear a7;refine wpAnyH_take (i:=7) (v:=.slice (T' ⟨bx,ox,Y'⟩) 3 cx) rfl I' I' I' (λc a w h=>(by cases h.1)) (.inl ⟨rfl,λw0 ab=>?_⟩) hS ?_
 .go_simp
  simp only[kY eK]
  try go_simp
 obtain⟨b7,bb⟩:=nm (b6.put (T' 38) (.slice (T' ⟨bx,ox,Y'⟩) 3 cx));have bR:b7.tmps.size=42:=by rw[<-bb,size_put];exact bQ
 have cd:b7.defers=a.defers:=by rw[<-bb];exact cc
 have e2:b7.eval (.tmp 38)=.slice (T' ⟨bx,ox,Y'⟩) 3 cx:=by rw[<-bb];exact iP _ (by rw[bQ];decide)
 have eL:b7.eval (.tmp 37)=.slice (T' ⟨g2,4*i,Y'⟩) (l2.length-4*i) (l2.length-4*i):=by rw[<-bb,bZ _ p'];exact e1
 show wpAnyH _ _ _ _ _ _ _ (b6.put (T' 38) (.slice (T' ⟨bx,ox,Y'⟩) 3 cx)) _;rw[bb];clear bb;refine wpAnyH_take (i:=8) (v:=.slice (T' ⟨bx,ox+2,Y'⟩) 1 (cx-2)) rfl I' I' I' (λc a w h=>(by cases h.1)) (.inl ⟨rfl,λw0 ab=>?_⟩) hS ?_
 .go_simp
  simp only[kY e2]
  try go_simp
  omega
 obtain⟨b8,bc⟩:=nm (b7.put (T' 39) (.slice (T' ⟨bx,ox+2,Y'⟩) 1 (cx-2)));have bT:b8.tmps.size=42:=by rw[<-bc,size_put];exact bR
 have ch:b8.defers=a.defers:=by rw[<-bc];exact cd
 have e3:b8.eval (.tmp 39)=.slice (T' ⟨bx,ox+2,Y'⟩) 1 (cx-2):=by rw[<-bc];exact iP _ (by rw[bR];decide)
 have eM:b8.eval (.tmp 37)=.slice (T' ⟨g2,4*i,Y'⟩) (l2.length-4*i) (l2.length-4*i):=by rw[<-bc,bZ _ p'];exact eL
 show wpAnyH _ _ _ _ _ _ _ (b7.put (T' 39) (.slice (T' ⟨bx,ox+2,Y'⟩) 1 (cx-2))) _;rw[bc];clear bc;have hG:aA a0c 97 [.ns .u8 [x],(4:Int)] .cQ (λr R=>r=.sl 1 4 ((nH x).map ij)/\R=.cQ):=aA.of func97 rfl p' ((RK [.ns .u8 [x],(4:Int)] hx).1 rfl) .cQ;have c0:bf≠g2:=λh=>k2 g2 ((r1 g2).2 (.inl ((a5.1 g2).2 rfl))) ((m1 g2).2 h.symm)
 have c3:bf<w.heap.size:=kn bt;have c9:g2<w.heap.size:=kn bD;refine wpAnyH_ready (rs:=[9]) I' J' (AllReadyH.cons rfl (λK hK=>?_) AllReadyH.nil);refine Eq.mpr (au (by rfl)) ?_;unfold Oper.wp;rw[yd _ rfl rfl,pR func97 rfl p'];have hargs:(#[Operand.tmp 39,Operand.const (Value.int .i64 4)].map b8.eval)=#[.slice (T' ⟨bx,ox+2,Y'⟩) 1 (cx-2),.int .i64 4]:=by
  simp only[lB,fX,kr,e3]
  rfl
 rw[hargs];refine(hG w.drew (λ_=>False) (λ_=>False) _ (λ_ h=>h.elim) (λ_ h=>h) (λ_ h=>h) rfl (λjj c hj=>?_)).mono λe' w1⟨v,r,R1,fp1,n1,⟨n2,_⟩,_,n4,_,n6⟩=>?_
 .match jj,hj with
  |0,hj=>
   cases hj;exact⟨_,rfl,RI.ns .u8 [x] (T' ⟨bx,ox+2,Y'⟩) bx (ox+2) (cx-2) O' (λ_=>⟨rfl,λh=>h⟩) (λjj y hy=>by
    match jj,hy with
    |0,hy=>cases hy;exact bH)⟩
  |1,hj=>cases hj;exact⟨_,rfl,RI.r _⟩
 subst n1 n2;obtain⟨tb,to,tc,rfl,fc,ee⟩:∃tb to tc,v=.slice (T' ⟨tb,to,Y'⟩) 4 tc/\4<=tc/\∀jj y,((nH x).map Value.bool)[jj]?=T' y->w1.cell? ⟨tb,to+jj,Y'⟩=T' y:=by
  cases n4 with
  |sl _ _ _ ad b o cap f hc hl ha hh hr=>
   obtain⟨rfl,_⟩:=ha (by simp[nH]);refine⟨b,o,cap,rfl,hc,λjj y hy=>?_⟩;rw[gv]at hy;obtain⟨t,ht,rfl⟩:=kR.1 hy;have h1:((nH x).map ij)[jj]?=T' (ij t):=by rw[gv,ht];rfl
   rw[hh jj _ h1,RI.aS (hr jj _ h1)]
 have bB:w1.heap[g2]?=T' (.cells (l2.map Value.bool).toArray 4 (0,0)):=(n6.block g2 c9 (λh=>h)).trans bD;have bu:w1.heap[bf]?=w.heap[bf]?:=n6.block bf c3 (λh=>h);have bw:w1.heap[bx]?=w.heap[bx]?:=n6.block bx c4 (λh=>h);refine hK.out _ _ ⟨bu,bw⟩ (λ_=>?_);obtain⟨b9,bd⟩:=nm (b8.put (T' 40) (.slice (T' ⟨tb,to,Y'⟩) 4 tc));have eh:b9.tmps.size=42:=by rw[<-bd,size_put];exact bT
 have cn:b9.defers=a.defers:=by rw[<-bd];exact ch
 have e5:b9.eval (.tmp 40)=.slice (T' ⟨tb,to,Y'⟩) 4 tc:=by rw[<-bd];exact iP _ (by rw[bT];decide)
 have eN:b9.eval (.tmp 37)=.slice (T' ⟨g2,4*i,Y'⟩) (l2.length-4*i) (l2.length-4*i):=by rw[<-bd,bZ _ p'];exact eM
 show wpAnyH _ _ _ _ _ _ _ (b8.put (T' 40) (.slice (T' ⟨tb,to,Y'⟩) 4 tc)) _;rw[bd];clear bd;refine wpAnyH_ready (rs:=[10]) I' J' (AllReadyH.cons rfl (λK2 cr=>?_) AllReadyH.nil);refine Eq.mpr (au (by rfl)) ?_;unfold Oper.wp;have ef:(nH x).length=4:=rfl;obtain⟨cs,cE⟩:=nm (((nH x).take (l2.length-4*i)).map Value.bool);have c5:cs.length=Nat.min 4 (l2.length-4*i):=by rw[<-cE,fJ,fT,ef];exact Ky _ _
 have bz:=λty=>run_copy_row (P:=a0c) w1 72 72 ty 4 g2 (4*i) (l2.length-4*i) (l2.length-4*i) ⟨tb,to,Y'⟩ 4 tc (l2.map Value.bool).toArray 4 cs underlying72 HG bB c5
  (λjj y hy=>by
   rw[ji];refine ee jj y ?_;rw[<-cE,List.map_take]at hy;rw[ic]at hy;split at hy
   .exact hy
   .cases hy)
  (by have:Nat.min 4 (l2.length-4*i)<=l2.length-4*i:=Nat.min_le_right _ _;simp;omega)
  (λy hy=>by rw[<-cE]at hy;obtain⟨t,_,rfl⟩:=mX.1 hy;rfl)
 obtain⟨w2,a6⟩:=nm (w1.setRow g2 ((l2.map Value.bool).toArray.toList.take (4*i)++cs++(l2.map Value.bool).toArray.toList.drop (4*i+cs.length)).toArray);have eb:((l2.map Value.bool).toArray.toList.take (4*i)++cs++(l2.map Value.bool).toArray.toList.drop (4*i+cs.length)).toArray=((mf l2 (4*i) (nH x)).map Value.bool).toArray:=by
  rw[<-cE];simp[mf]
 have c6:w2.heap[g2]?=T' (.cells ((mf l2 (4*i) (nH x)).map Value.bool).toArray 4 (0,0)):=by
  rw[<-a6,eb];exact setRow_heap w1 g2 _ _ 4 _ bB
 have bn:∀c,c≠g2->w2.heap[c]?=w1.heap[c]?:=λc hc=>by
  rw[<-a6];exact setRow_other w1 g2 _ _ hc
 have cw:lU (λc=>c=g2) w w2:=⟨by rw[<-a6];exact n6.os,by rw[<-a6];exact n6.tape,by rw[<-a6];exact n6.output,by rw[<-a6];exact fC n6.size (FM (setRow_size w1 g2 _).symm),λc hc dv=>(bn c dv).trans (n6.block c hc (λh=>h))⟩;rw[a6]at bz;have ec:∀o:Oper,o.op=.call ⟨.builtin .copy,#[.tmp 37,.tmp 40],#[72,72]⟩->(execOp b9.eval o).run a0c w1=.ok (.value (goInt cs.length)) w2:=λo hop=>by
  unfold execOp;simp only[hop,resolve,invoke,builtin,cC,cJ,cz,lB,fX,kr,e5,eN,bz]
 rw[ec _ rfl];show K2 (b9.put (T' 41) (goInt cs.length)) w2;exact cr.out _ _ ⟨(bn bf c0).trans bu,(bn bx ds).trans bw⟩ (λ_=>wpAnyH_done I' ⟨rfl,(size_put _ _ _).trans eh,cn,c6,cw⟩ _)
end
theorem PM{R:GA}{j:JN}{d bf:Nat}{v1 v2:Value}{pub:Bool}{gen:Int}{lg pb:Value}:
 aA a0c 66 [bf,(0:Int)] (R.star (.aJ bf (eG j d v1 v2 pub a0a gen lg pb))) (λr R'=>r=.r (.int .i64 0)/\R'=R.star (.aJ bf (eG j d v1 v2 pub a0a gen lg pb))):=by
 have hE:=env dC;have af:((0:Int)!=0)=false:=rfl;have ab:((0:Int)!=5)=true:=rfl;unfold eG;refine aA.LJ hE func66 ntmps66 results66 (λen=>?_);refine aE ?_;refine a9 (A2 af ab) ?_;refine aE ?_;refine aa.ret ?_;exact⟨_,rfl,dM.of ⟨rfl,rfl⟩ (aO.mk a0b rfl)⟩
section
variable {b:Act}{m t:Nat}{o:Oper}{w:World}
theorem UT(F E A B M:Int)(d g1 g2 n1 n2:Nat):a0c.built 128 [(0,.agg #[.int .i64 F,.int .i64 E,.int .u64 A,.int .u64 B,.int .i64 M]),(1,.pointer (T' ⟨d,0,Y'⟩)),(2,.slice (T' ⟨g1,0,Y'⟩) n1 n1),(3,.slice (T' ⟨g2,0,Y'⟩) n2 n2)]=
 T' #[.int .i64 F,.int .i64 E,.int .u64 A,.int .u64 B,.int .i64 M,.pointer (T' ⟨d,0,Y'⟩),.slice (T' ⟨g1,0,Y'⟩) n1 n1,.slice (T' ⟨g2,0,Y'⟩) n2 n2,.bool a0a,.bool a0a,.int .i64 0,.pointer Y',.pointer Y']:=I'
theorem aaj(m:Nat)(k:IntKind)(hm:m<=1000)(w:World):(Instr.makeSlice 72 (.int k m) (.int k m)).run a0c w=.ok (.slice (T' ⟨w.heap.size,0,Y'⟩) m m) (w.alloc (.cells ((List.replicate m a0a).map Value.bool).toArray 4 (0,0))):=by
 have h4:(a0c.info? 4).bind (·.zero)=T' (.bool a0a):=I';obtain⟨i4,j1,j2⟩:=vE.1 h4;have j3:i4.size=1:=by have:=HG;rw[j1]at this;simpa using this
 have j4:i4.bytes=1:=by
  have h:(a0c.info? 4).map (·.bytes)=T' 1:=I';rw[j1]at h;simpa using h
 have hr:=run_make (P:=a0c) w 72 4 i4 (.bool a0a) underlying72 j1 j2 k k m m f' (gu _) (by rw[j4];omega) f';rw[hr,j3];have e:madeCells (Value.bool a0a).cells ((m:Int).toNat*1)=((List.replicate m a0a).map Value.bool).toArray:=by
  apply Array.ext
  .simp[size_madeCells]
  .intro jj h1 h2
   simp[madeCells,Value.cells];rw[KA];rfl
 rw[e];simp
theorem D7{k:IntKind}(hop:o.op=.makeSlice 72 (.tmp t) (.tmp t))(hv:b.eval (.tmp t)=.int k m)(hm:m<=1000):
 (execOp b.eval o).run a0c w=.ok (.value (.slice (T' ⟨w.heap.size,0,Y'⟩) m m)) (w.alloc (.cells ((List.replicate m a0a).map Value.bool).toArray 4 (0,0))):=by
 unfold execOp;simp only[hop,hv,cC,aaj m k hm,cz,cJ]
theorem D5(w:World):Below w.heap.size w (w.alloc (.cells ((List.replicate m a0a).map Value.bool).toArray 4 (0,0))):=(iX _ _).alloc (aM _) _
def Ng(F E A B M:Int)(d g1 g2 n1 n2:Nat):Array Value:=#[.int .i64 F,.int .i64 E,.int .u64 A,.int .u64 B,.int .i64 M,.pointer (T' ⟨d,0,Y'⟩),.slice (T' ⟨g1,0,Y'⟩) n1 n1,.slice (T' ⟨g2,0,Y'⟩) n2 n2,.bool a0a,.bool a0a,.int .i64 0,.pointer Y',.pointer Y']
theorem Uz{F E A B M:Int}{d g1 g2 n1 n2:Nat}(hop:o.op=.build 128 #[(0,.tmp 24),(1,.tmp 25),(2,.tmp 27),(3,.tmp 33)])(h1:b.eval (.tmp 24)=.agg [Value.int .i64 F,.int .i64 E,.int .u64 A,.int .u64 B,.int .i64 M].toArray)(h2:b.eval (.tmp 25)=.pointer (T' ⟨d,0,Y'⟩))(h3:b.eval (.tmp 27)=.slice (T' ⟨g1,0,Y'⟩) n1 n1)(h4:b.eval (.tmp 33)=.slice (T' ⟨g2,0,Y'⟩) n2 n2):
 (execOp b.eval o).run a0c w=.ok (.value (.agg (Ng F E A B M d g1 g2 n1 n2))) w:=by
 have hb:=run_build (P:=a0c) w 128 #[(0,.agg #[.int .i64 F,.int .i64 E,.int .u64 A,.int .u64 B,.int .i64 M]),(1,.pointer (T' ⟨d,0,Y'⟩)),(2,.slice (T' ⟨g1,0,Y'⟩) n1 n1),(3,.slice (T' ⟨g2,0,Y'⟩) n2 n2)] _ (UT F E A B M d g1 g2 n1 n2);unfold execOp;simp only[hop,lB,fX,kr,h1,h2,h3,h4,cC,hb,cz,cJ]
 rfl
theorem UK{CS:Array Value}(hop:o.op=.box 128 (.tmp t))(hv:b.eval (.tmp t)=.agg CS):
 (execOp b.eval o).run a0c w=.ok (.value (.pointer (T' ⟨w.heap.size,0,Y'⟩))) (w.alloc (.cells CS 128 (0,0))):=by
 simp[execOp,hop,hv,Instr.box,newVar,newRow,Value.cells]
theorem Gi{v:Value}(hop:o.op=.assign (.tmp t))(hv:b.eval (.tmp t)=v):(execOp b.eval o).run a0c w=.ok (.value v) w:=by
 simp[execOp,hop,hv]
end
theorem afq{j:JN}{d:Nat}{n:Int}{f:Int->List Int}{c U T:Nat}(hJT:JT j.F j.E j.A j.B j.M)(hJV:JV j.F j.E j.A j.B j.M)(hT:j.B-j.A=T)(hT0:0<T)(hT1:T<=10)(hU:(j.B-j.A+4-1)/4=(U:Int))(hn:6+(2*(U:Int)+2)<n)(hn2:n<=4096)(hc:c<999000)
 (hz0:cP (((f 0).drop 4).take 8)=0) (hz2:cP (((f 2).drop 4).take 8)=0) (hf:∀k,(f k).length=512) (hB:∀k,B8 (f k))
 (hm4:cP (((f 4).drop 20).take 8)=(0:Nat)) (hm6:cP (((f 6).drop 20).take 8)=(0:Nat)) (hne4:kT ((f 4).take 36) (fO lN 1 0 [])=a0a) (hne6:kT ((f 6).take 36) (fO lN 1 0 [])=a0a)
 (hjok:j.ok) (hU0:0<U) (hU1:U<=10) (hS8:B8 (lP j (List.replicate U a0a) (List.replicate T a0a))) (hf':∀k,(mP f (lP j (List.replicate U a0a) (List.replicate T a0a)) k).length=512) (hB':∀k,B8 (mP f (lP j (List.replicate U a0a) (List.replicate T a0a)) k)):
 aA a0c 23 [d,.agg j.cs] (aZ d n f c) (λr R=>∃bf g1 g2 bl bp,r=.aU [.r (.pointer (T' ⟨bf,0,Y'⟩)),(0:Int)]/\
  R=(((((cG g1 (List.replicate U a0a)).star (cG g2 (List.replicate T a0a))).star (.aJ bl (cZ d 6 (6+(2*(U:Int)+2)) 1 0))).star ((aZ d n (mP f (lP j (List.replicate U a0a) (List.replicate T a0a))) 0).star (.aJ bp (cZ d 4 6 1 0)))).star
   (.aJ bf (eG j d (bI g1 U) (bI g2 T) a0a a0a 1 (.pointer (T' ⟨bl,0,Y'⟩)) (.pointer (T' ⟨bp,0,Y'⟩)))))):=by
 have hE:=nZ EP ET IQ Q0;have hsp:nG j.A j.B=true:=by
  obtain⟨⟨_,_,h,_⟩,_⟩:=hJV;exact fu h
 have h0n:((0:Int)!=0)=false:=rfl;have hrest:¬n<=6+(2*(U:Int)+2):=f';unfold JN.cs;refine aA.body hE func23 ntmps23 results23 (λen=>?_);refine aE ?_;refine a9 (A3 hJT hsp hU) ?_;refine aa.seq (aa.block (a9 (A3 hJT hJV h0n) ?_));refine aa.dz rfl ?_;refine aa.seq (aa.yZ 1 [(3,3)] [] [] (L:=[(24,Jc),(7,Jd),(59,EK),(62,Jb)]) hE (rB d n f c) rfl rfl rfl func58 rfl p' ⟨_,_,rfl,rfl⟩ (ki ⟨_,rfl⟩) (λr R' hp=>?_));obtain⟨rfl,rfl⟩:=hp;refine⟨rfl,?_⟩;refine jt (A4 hJT hsp hU hrest) ?_;show aa _ _ _ _ _ _ _ _;refine gF ?_;refine aa.seq ?_;refine aa.dS (σ':=⟨[(0,d),(3,.ptr 3 0),(6,(U:Int))],[(3,⟨Z',.c [.r (.int .i64 j.F),.r (.int .i64 j.E),.r (.int .u64 j.A),.r (.int .u64 j.B),.r (.int .i64 j.M)]⟩)]⟩) (Le.mk a0b) (GA.le.refl _) ?_;intro κ β a w hn hg hC;have a0:a.eval (.tmp 0)=.pointer (T' ⟨d,0,Y'⟩):=RI.aS (hC.rel 0);have a6:a.eval (.tmp 6)=.int .i64 (U:Int):=RI.aS (hC.rel 6);obtain⟨jb,base,hβ,a3⟩:∃jb base,β 3=T' (jb,base)/\a.eval (.tmp 3)=.pointer (T' ⟨jb,base+0,Y'⟩):=hC.rel 3 _ rfl;rw[kN]at a3;obtain⟨C,e,hjb,hjl,hjc⟩:∃C e,w.heap[jb]?=T' (.cells C e (0,0))/\base+5<=C.size/\∀(k:Nat)(v:Value),[(Value.int .i64 j.F),.int .i64 j.E,.int .u64 j.A,.int .u64 j.B,.int .i64 j.M][k]?=T' v->C[base+k]?=T' v:=by
  rcases hC.hp 3 _ rfl with⟨q,_⟩|⟨b,base',C,e,q1,q2,q3,q4,_⟩
  .rw[hβ]at q;cases q
  .rw[hβ]at q1
   cases q1;refine⟨C,e,q2,q3,λk v hk=>?_⟩
   match k,hk with
   |0,hk=>cases hk;obtain⟨u,p1,p2⟩:=q4 0 _ rfl;rw[p1,RI.aS p2]
   |1,hk=>cases hk;obtain⟨u,p1,p2⟩:=q4 1 _ rfl;rw[p1,RI.aS p2]
   |2,hk=>cases hk;obtain⟨u,p1,p2⟩:=q4 2 _ rfl;rw[p1,RI.aS p2]
   |3,hk=>cases hk;obtain⟨u,p1,p2⟩:=q4 3 _ rfl;rw[p1,RI.aS p2]
   |4,hk=>cases hk;obtain⟨u,p1,p2⟩:=q4 4 _ rfl;rw[p1,RI.aS p2]
 have hjlt:jb<w.heap.size:=kn hjb;have hsz:=hC.sz.trans hn;have hwT:IntKind.u64.wrap (j.B-j.A)=(T:Int):=by rw[eP,hT];omega
 refine wp_mono (Q:=λe' a' w'=>e'=.normal/\a'.tmps.size=a.tmps.size/\a'.defers=a.defers/\a'.eval (.tmp 0)=.pointer (T' ⟨d,0,Y'⟩)/\a'.eval (.tmp 6)=.int .i64 (U:Int)/\∃bf g1 g2,a'.eval (.tmp 7)=.pointer (T' ⟨bf,0,Y'⟩)/\(w'.heap[g1]?=T' (.cells ((List.replicate U a0a).map Value.bool).toArray 4 (0,0))/\w'.heap[g2]?=T' (.cells ((List.replicate T a0a).map Value.bool).toArray 4 (0,0))/\w'.heap[bf]?=T' (.cells #[.int .i64 j.F,.int .i64 j.E,.int .u64 j.A,.int .u64 j.B,.int .i64 j.M,.pointer (T' ⟨d,0,Y'⟩),.slice (T' ⟨g1,0,Y'⟩) U U,.slice (T' ⟨g2,0,Y'⟩) T T,.bool a0a,.bool a0a,.int .i64 0,.pointer Y',.pointer Y'] 128 (0,0)))/\(w.heap.size<=g1/\w.heap.size<=g2/\w.heap.size<=bf/\g1≠g2/\g1≠bf/\g2≠bf)/\Below w.heap.size w w') ?_ ?_
 rotate_left
 .rintro e' a' w' ⟨rfl,s1,s2,s3,s4,bf,g1,g2,s5,⟨m1,m2,m3⟩,⟨l1,l2,l3,d1,d2,d3⟩,hb⟩
  obtain⟨fp,p1,y2,y3,y4⟩:=hg.now hC;have p2:(aZ d n f c).rel w' fp (λ_=>True):=Dg _ _ _ _ _ _ _ _ ((aZ d n f c).loc (X':=λb=>XG κ β (λ_=>Y') b) hb.size (λb hlt _=>hb.block b hlt) (λb _ hx=>(by
   rcases hx with hx|⟨_,_,_,q,_⟩
   .exact .inl hx
   .cases q)) p1)
  obtain⟨κ',h1,h2,h3,h4⟩:=hg.call (w':=w') (R':=(((cG g1 (List.replicate U a0a)).star (cG g2 (List.replicate T a0a))).star (aZ d n f c)).star (.aJ bf (eG j d (bI g1 U) (bI g2 T) a0a a0a 0 (.pointer Y') (.pointer Y')))) (fp':=λb=>((b=g1\/b=g2)\/fp b)\/b=bf) hC y2 y3
   ⟨λb=>(b=g1\/b=g2)\/fp b,λb=>b=bf,λ_=>dr,λb hx e=>by
    subst e;rcases hx with(e|e)|hx
    .exact d2 e.symm
    .exact d3 e.symm
    .have:=y4 b hx;omega,
    ⟨λb=>b=g1\/b=g2,fp,λ_=>dr,λb hx hf=>by
     have:=y4 b hf;rcases hx with e|e<;>omega,⟨λb=>b=g1,λb=>b=g2,λ_=>dr,λb e1 e2=>d1 (e1.symm.trans e2),⟨λ_=>dr,m1⟩,⟨λ_=>dr,m2⟩⟩,Dg _ _ _ _ _ _ _ _ p2⟩,
    ⟨λ_=>dr,_,128,m3,aM _,λk c hk=>by
     match k,hk with
     |0,hk=>cases hk;exact⟨_,rfl,RI.r _⟩
     |1,hk=>cases hk;exact⟨_,rfl,RI.r _⟩
     |2,hk=>cases hk;exact⟨_,rfl,RI.r _⟩
     |3,hk=>cases hk;exact⟨_,rfl,RI.r _⟩
     |4,hk=>cases hk;exact⟨_,rfl,RI.r _⟩
     |5,hk=>cases hk;exact⟨_,rfl,RI.r _⟩
     |6,hk=>cases hk;exact⟨_,rfl,RI.r _⟩
     |7,hk=>cases hk;exact⟨_,rfl,RI.r _⟩
     |8,hk=>cases hk;exact⟨_,rfl,RI.r _⟩
     |9,hk=>cases hk;exact⟨_,rfl,RI.r _⟩
     |10,hk=>cases hk;exact⟨_,rfl,RI.r _⟩
     |11,hk=>cases hk;exact⟨_,rfl,RI.r _⟩
     |12,hk=>cases hk;exact⟨_,rfl,RI.r _⟩⟩⟩
   (λb hlt hx=>by
    rcases hx with((e|e)|hx)|e
    .omega
    .omega
    .exact hx
    .omega) ⟨hb.os,hb.tape,hb.output,hb.size,λb hlt _=>hb.block b hlt⟩
  have hcd:=h3.drop (G':=λ_=>Y') (λ_=>.inr rfl);refine⟨κ',⟨[(0,d),(6,(U:Int)),(7,.r (.pointer (T' ⟨bf,0,Y'⟩)))],[]⟩,β,_,?_,h1.trans hn,h2,⟨s1.trans (hC.sz.trans h1.symm),λu=>?_,by rw[s2,hC.gp,hg.df,h2.df],λid ae hi=>(by cases hi),λi j b c x y _ hx=>(by cases hx),hcd.aQ,hcd.x0,hcd.bC⟩⟩
  rotate_left
  .by_cases u0:u=0
   .subst u0
    show RI _ _ (.r _) _;rw[show a'.tmps.getD 0 undef=_ from s3];exact RI.r _
   by_cases u6:u=6
   .subst u6
    show RI _ _ (.r _) _;rw[show a'.tmps.getD 6 undef=_ from s4];exact RI.r _
   by_cases u7:u=7
   .subst u7
    show RI _ _ (.r _) _;rw[show a'.tmps.getD 7 undef=_ from s5];exact RI.r _
   have:St.get ⟨[(0,d),(6,(U:Int)),(7,.r (.pointer (T' ⟨bf,0,Y'⟩)))],[]⟩ u=.any:=by
    simp[St.get,lk,mZ u0,mZ u6,mZ u7]
   rw[this];exact RI.any _
  show aa _ _ _ _ _ _ _ _;have len1:(List.replicate U a0a).length=U:=pe ..;have len2:(List.replicate T a0a).length=T:=pe ..;obtain⟨L1,hL1⟩:=nm (List.replicate U a0a);obtain⟨L2,hL2⟩:=nm (List.replicate T a0a);rw[hL1]at len1 hS8 hf' hB'|-;rw[hL2]at len2 hS8 hf' hB'|-;obtain⟨F',hF'⟩:=nm (mP f (lP j L1 L2));have f4:F' 4=f 4:=by rw[<-hF'];simp[mP,ib]
  have f6:F' 6=f 6:=by rw[<-hF'];simp[mP,ib]
  rw[hF']at hf' hB'|-;refine aa.dS (Le.refl _) (R':=vW j d bf g1 g2 L1 L2 n f c a0a a0a 0 (.pointer Y') (.pointer Y')) (by unfold vW;rw[len1,len2];exact GA.le.refl _) ?_;refine aa.seq (aa.seq (aa.region ?_));refine az 1 ?_;refine gE (ag a0a) (aa0 f' hn2 f' hz0 hz2 hf hB hjok f' f' f' f' hS8) func60 ?_;refine az 1 ?_;refine GL.nil ?_;unfold vW eG;rw[len1,len2,hF'];show aa _ _ _ _ _ _ _ _;refine a9 h0n ?_;refine gF ?_;refine aE ?_;refine aa.seq (aa.gd dm 7 p' p' rfl rfl (gr rfl) ?_);have hop1:=(Pp (d:=d) (n:=n) (f:=F') (c:=0) (a:=6) (s:=2*(U:Int)+2) (ep:=1) hn2 p' p' f' f' p' p' (by rw[f6];exact hm6) (by rw[f6];exact hne6) hf' hB').n9 ((cG g1 L1).star (cG g2 L2)) (GA.le.refl _);refine aa.Qs 8 [] [] [] (L:=[(24,Jc),(7,Jd),(59,EK),(62,Jb)]) hE hop1 rfl rfl rfl func61 rfl p' ⟨_,_,_,⟨0,rfl,rfl⟩,rfl⟩ gy (λr R' hp=>?_);obtain⟨R1,⟨bl,rfl,rfl⟩,rfl⟩:=hp;refine⟨rfl,?_⟩;refine jt (show 0<=(U:Int)/\(U:Int)<=1000 from f') ?_;refine⟨_,rfl,?_⟩;show aa _ _ _ _ _ _ _ _;refine aa.seq (aE ?_);refine aa.block ?_;refine aa.loop (ι:=Unit) (λ_=>(⟨[(0,d),(7,.r (.pointer (T' ⟨bf,0,Y'⟩))),(57,(0:Int)),(58,(0:Int))],[]⟩,(((cG g1 L1).star (cG g2 L2)).star ((aZ d n F' 0).star (.aJ bl (cZ d 6 (6+(2*(U:Int)+2)) 1 0)))).star (.aJ bf (eG j d (bI g1 U) (bI g2 T) a0a a0a 1 (.pointer (T' ⟨bl,0,Y'⟩)) (.pointer Y'))))) (λ_=>0) () ?_ ?_ ?_
  .exact Le.mk a0b
  .exact GA.le.refl _
  intro _;unfold eG;refine aE ?_;refine aa.seq (gX ?_);refine aa.seq (aa.gd dm 7 p' p' rfl rfl (gr rfl) (aa.region ?_));refine az 2 ?_;refine GL.C4 (ag a0a) (((cG g1 L1).star (cG g2 L2)).star (.aJ bl (cZ d 6 (6+(2*(U:Int)+2)) 1 0))) (Pp (d:=d) (n:=n) (f:=F') (c:=0) (a:=4) (s:=2) (ep:=1) hn2 p' p' p' f' p' p' (by rw[f4];exact hm4) (by rw[f4];exact hne4) hf' hB')
   ((GA.mono (GA.le.refl _) (GA.comm _ _)).trans (GA.Ag _ _ _)) rfl rfl func61 rfl p' rfl rfl (λt ht=>by cases ht;decide) (λr R' hp=>?_)
  obtain⟨bp,rfl,rfl⟩:=hp;refine⟨rfl,?_⟩;refine az 8 ?_;refine GL.nil ?_;refine⟨_,rfl,?_⟩;show aa _ _ _ _ _ _ _ _;refine aa.seq (aa.gd dm 7 p' p' rfl rfl (gr rfl) ?_);refine aa.of (T:=ag a0a) ?_;refine aT ?_;refine⟨_,rfl,?_⟩;show aa _ _ _ _ _ _ _ _;refine aE ?_;refine aa.ret ?_;refine dM.of ⟨bf,g1,g2,bl,bp,rfl,?_⟩ (aO.mk a0b rfl)
  rfl
 refine wp_region_held_drew (S:=λw'=>w'.heap[jb]?=w.heap[jb]?) mixed rfl (λhS=>?_);have hszA:a.tmps.size=a.tmps.size:=rfl;refine wpAnyH_take (i:=0) (v:=.agg [Value.int .i64 j.F,.int .i64 j.E,.int .u64 j.A,.int .u64 j.B,.int .i64 j.M].toArray) rfl I' I' I' (λc a w h=>(by cases h.1)) (yieldsIf_load_mid I' 24 (.tmp 3) rfl jb base a3 _ _ (λw' h jj y hy=>by rw[cell_of_row w' jb (base+jj) _ _ _ (h.trans hjb)];exact hjc jj y hy) underlying24 rfl I') hS ?_;obtain⟨b0,eb0⟩:=nm (a.put (T' 24) (.agg [Value.int .i64 j.F,.int .i64 j.E,.int .u64 j.A,.int .u64 j.B,.int .i64 j.M].toArray));have sb0:b0.tmps.size=a.tmps.size:=by rw[<-eb0,size_put]
 have db0:b0.defers=a.defers:=by rw[<-eb0];rfl
 have vb0:b0.eval (.tmp 24)=.agg [Value.int .i64 j.F,.int .i64 j.E,.int .u64 j.A,.int .u64 j.B,.int .i64 j.M].toArray:=by rw[<-eb0];exact iP _ (by rw[hsz];decide)
 have ub0_3:b0.eval (.tmp 3)=.pointer (T' ⟨jb,base,Y'⟩):=by rw[<-eb0,bZ _ p'];exact a3
 have ub0_0:b0.eval (.tmp 0)=.pointer (T' ⟨d,0,Y'⟩):=by rw[<-eb0,bZ _ p'];exact a0
 have ub0_6:b0.eval (.tmp 6)=.int .i64 (U:Int):=by rw[<-eb0,bZ _ p'];exact a6
 show wpAnyH _ _ _ _ _ _ _ (a.put (T' 24) (.agg [Value.int .i64 j.F,.int .i64 j.E,.int .u64 j.A,.int .u64 j.B,.int .i64 j.M].toArray)) _;rw[eb0];clear eb0;refine wpAnyH_take (i:=1) (v:=.pointer (T' ⟨d,0,Y'⟩)) rfl I' I' I' (λc a w h=>(by cases h.1)) (.inl ⟨rfl,λw0 hw0=>?_⟩) hS ?_
 .go_simp
  simp only[kY ub0_0]
  try go_simp
 obtain⟨b1,eb1⟩:=nm (b0.put (T' 25) (.pointer (T' ⟨d,0,Y'⟩)));have sb1:b1.tmps.size=a.tmps.size:=by rw[<-eb1,size_put];exact sb0
 have db1:b1.defers=a.defers:=by rw[<-eb1];exact db0
 have vb1:b1.eval (.tmp 25)=.pointer (T' ⟨d,0,Y'⟩):=by rw[<-eb1];exact iP _ (by rw[sb0];rw[hsz];decide)
 have ub1_3:b1.eval (.tmp 3)=.pointer (T' ⟨jb,base,Y'⟩):=by rw[<-eb1,bZ _ p'];exact ub0_3
 have ub1_0:b1.eval (.tmp 0)=.pointer (T' ⟨d,0,Y'⟩):=by rw[<-eb1,bZ _ p'];exact ub0_0
 have ub1_6:b1.eval (.tmp 6)=.int .i64 (U:Int):=by rw[<-eb1,bZ _ p'];exact ub0_6
 have ub1_24:b1.eval (.tmp 24)=.agg [Value.int .i64 j.F,.int .i64 j.E,.int .u64 j.A,.int .u64 j.B,.int .i64 j.M].toArray:=by rw[<-eb1,bZ _ p'];exact vb0
 show wpAnyH _ _ _ _ _ _ _ (b0.put (T' 25) (.pointer (T' ⟨d,0,Y'⟩))) _;rw[eb1];clear eb1;refine wpAnyH_take (i:=2) (v:=.int .i64 (U:Int)) rfl I' I' I' (λc a w h=>(by cases h.1)) (.inl ⟨rfl,λw0 hw0=>?_⟩) hS ?_
 .go_simp
  simp only[kY ub1_6]
  try go_simp
 obtain⟨b2,eb2⟩:=nm (b1.put (T' 26) (.int .i64 (U:Int)));have sb2:b2.tmps.size=a.tmps.size:=by rw[<-eb2,size_put];exact sb1
 have db2:b2.defers=a.defers:=by rw[<-eb2];exact db1
 have vb2:b2.eval (.tmp 26)=.int .i64 (U:Int):=by rw[<-eb2];exact iP _ (by rw[sb1];rw[hsz];decide)
 have ub2_3:b2.eval (.tmp 3)=.pointer (T' ⟨jb,base,Y'⟩):=by rw[<-eb2,bZ _ p'];exact ub1_3
 have ub2_0:b2.eval (.tmp 0)=.pointer (T' ⟨d,0,Y'⟩):=by rw[<-eb2,bZ _ p'];exact ub1_0
 have ub2_6:b2.eval (.tmp 6)=.int .i64 (U:Int):=by rw[<-eb2,bZ _ p'];exact ub1_6
 have ub2_24:b2.eval (.tmp 24)=.agg [Value.int .i64 j.F,.int .i64 j.E,.int .u64 j.A,.int .u64 j.B,.int .i64 j.M].toArray:=by rw[<-eb2,bZ _ p'];exact ub1_24
 have ub2_25:b2.eval (.tmp 25)=.pointer (T' ⟨d,0,Y'⟩):=by rw[<-eb2,bZ _ p'];exact vb1
 show wpAnyH _ _ _ _ _ _ _ (b1.put (T' 26) (.int .i64 (U:Int))) _;rw[eb2];clear eb2;refine wpAnyH_take (i:=4) (v:=.pointer (T' ⟨jb,base+3,Y'⟩)) rfl I' I' I' (λc a w h=>(by cases h.1)) (.inl ⟨rfl,λw0 hw0=>?_⟩) hS ?_
 .go_simp
  simp only[kY ub2_3]
  try go_simp
 obtain⟨b3,eb3⟩:=nm (b2.put (T' 28) (.pointer (T' ⟨jb,base+3,Y'⟩)));have sb3:b3.tmps.size=a.tmps.size:=by rw[<-eb3,size_put];exact sb2
 have db3:b3.defers=a.defers:=by rw[<-eb3];exact db2
 have vb3:b3.eval (.tmp 28)=.pointer (T' ⟨jb,base+3,Y'⟩):=by rw[<-eb3];exact iP _ (by rw[sb2];rw[hsz];decide)
 have ub3_3:b3.eval (.tmp 3)=.pointer (T' ⟨jb,base,Y'⟩):=by rw[<-eb3,bZ _ p'];exact ub2_3
 have ub3_0:b3.eval (.tmp 0)=.pointer (T' ⟨d,0,Y'⟩):=by rw[<-eb3,bZ _ p'];exact ub2_0
 have ub3_6:b3.eval (.tmp 6)=.int .i64 (U:Int):=by rw[<-eb3,bZ _ p'];exact ub2_6
 have ub3_24:b3.eval (.tmp 24)=.agg [Value.int .i64 j.F,.int .i64 j.E,.int .u64 j.A,.int .u64 j.B,.int .i64 j.M].toArray:=by rw[<-eb3,bZ _ p'];exact ub2_24
 have ub3_25:b3.eval (.tmp 25)=.pointer (T' ⟨d,0,Y'⟩):=by rw[<-eb3,bZ _ p'];exact ub2_25
 have ub3_26:b3.eval (.tmp 26)=.int .i64 (U:Int):=by rw[<-eb3,bZ _ p'];exact vb2
 show wpAnyH _ _ _ _ _ _ _ (b2.put (T' 28) (.pointer (T' ⟨jb,base+3,Y'⟩))) _;rw[eb3];clear eb3;refine wpAnyH_take (i:=5) (v:=.int .u64 j.B) rfl I' I' I' (λc a w h=>(by cases h.1)) (.inl ⟨rfl,λw0 hw0=>?_⟩) hS ?_
 .have c7:w0.cell? ⟨jb,base+3,Y'⟩=T' (.int .u64 j.B):=by rw[cell_of_row w0 jb (base+3) _ _ _ (hw0.trans hjb)];exact hjc 3 _ rfl
  go_simp
  simp only[kY vb3]
  try go_simp
 obtain⟨b4,eb4⟩:=nm (b3.put (T' 29) (.int .u64 j.B));have sb4:b4.tmps.size=a.tmps.size:=by rw[<-eb4,size_put];exact sb3
 have db4:b4.defers=a.defers:=by rw[<-eb4];exact db3
 have vb4:b4.eval (.tmp 29)=.int .u64 j.B:=by rw[<-eb4];exact iP _ (by rw[sb3];rw[hsz];decide)
 have ub4_3:b4.eval (.tmp 3)=.pointer (T' ⟨jb,base,Y'⟩):=by rw[<-eb4,bZ _ p'];exact ub3_3
 have ub4_0:b4.eval (.tmp 0)=.pointer (T' ⟨d,0,Y'⟩):=by rw[<-eb4,bZ _ p'];exact ub3_0
 have ub4_6:b4.eval (.tmp 6)=.int .i64 (U:Int):=by rw[<-eb4,bZ _ p'];exact ub3_6
 have ub4_24:b4.eval (.tmp 24)=.agg [Value.int .i64 j.F,.int .i64 j.E,.int .u64 j.A,.int .u64 j.B,.int .i64 j.M].toArray:=by rw[<-eb4,bZ _ p'];exact ub3_24
 have ub4_25:b4.eval (.tmp 25)=.pointer (T' ⟨d,0,Y'⟩):=by rw[<-eb4,bZ _ p'];exact ub3_25
 have ub4_26:b4.eval (.tmp 26)=.int .i64 (U:Int):=by rw[<-eb4,bZ _ p'];exact ub3_26
 show wpAnyH _ _ _ _ _ _ _ (b3.put (T' 29) (.int .u64 j.B)) _;rw[eb4];clear eb4;refine wpAnyH_take (i:=6) (v:=.pointer (T' ⟨jb,base+2,Y'⟩)) rfl I' I' I' (λc a w h=>(by cases h.1)) (.inl ⟨rfl,λw0 hw0=>?_⟩) hS ?_
 .go_simp
  simp only[kY ub4_3]
  try go_simp
 obtain⟨b5,eb5⟩:=nm (b4.put (T' 30) (.pointer (T' ⟨jb,base+2,Y'⟩)));have sb5:b5.tmps.size=a.tmps.size:=by rw[<-eb5,size_put];exact sb4
 have db5:b5.defers=a.defers:=by rw[<-eb5];exact db4
 have vb5:b5.eval (.tmp 30)=.pointer (T' ⟨jb,base+2,Y'⟩):=by rw[<-eb5];exact iP _ (by rw[sb4];rw[hsz];decide)
 have ub5_0:b5.eval (.tmp 0)=.pointer (T' ⟨d,0,Y'⟩):=by rw[<-eb5,bZ _ p'];exact ub4_0
 have ub5_6:b5.eval (.tmp 6)=.int .i64 (U:Int):=by rw[<-eb5,bZ _ p'];exact ub4_6
 have ub5_24:b5.eval (.tmp 24)=.agg [Value.int .i64 j.F,.int .i64 j.E,.int .u64 j.A,.int .u64 j.B,.int .i64 j.M].toArray:=by rw[<-eb5,bZ _ p'];exact ub4_24
 have ub5_25:b5.eval (.tmp 25)=.pointer (T' ⟨d,0,Y'⟩):=by rw[<-eb5,bZ _ p'];exact ub4_25
 have ub5_26:b5.eval (.tmp 26)=.int .i64 (U:Int):=by rw[<-eb5,bZ _ p'];exact ub4_26
 have ub5_29:b5.eval (.tmp 29)=.int .u64 j.B:=by rw[<-eb5,bZ _ p'];exact vb4
 show wpAnyH _ _ _ _ _ _ _ (b4.put (T' 30) (.pointer (T' ⟨jb,base+2,Y'⟩))) _;rw[eb5];clear eb5;refine wpAnyH_take (i:=7) (v:=.int .u64 j.A) rfl I' I' I' (λc a w h=>(by cases h.1)) (.inl ⟨rfl,λw0 hw0=>?_⟩) hS ?_
 .have c7:w0.cell? ⟨jb,base+2,Y'⟩=T' (.int .u64 j.A):=by rw[cell_of_row w0 jb (base+2) _ _ _ (hw0.trans hjb)];exact hjc 2 _ rfl
  go_simp
  simp only[kY vb5]
  try go_simp
 obtain⟨b6,eb6⟩:=nm (b5.put (T' 31) (.int .u64 j.A));have sb6:b6.tmps.size=a.tmps.size:=by rw[<-eb6,size_put];exact sb5
 have db6:b6.defers=a.defers:=by rw[<-eb6];exact db5
 have vb6:b6.eval (.tmp 31)=.int .u64 j.A:=by rw[<-eb6];exact iP _ (by rw[sb5];rw[hsz];decide)
 have ub6_0:b6.eval (.tmp 0)=.pointer (T' ⟨d,0,Y'⟩):=by rw[<-eb6,bZ _ p'];exact ub5_0
 have ub6_6:b6.eval (.tmp 6)=.int .i64 (U:Int):=by rw[<-eb6,bZ _ p'];exact ub5_6
 have ub6_24:b6.eval (.tmp 24)=.agg [Value.int .i64 j.F,.int .i64 j.E,.int .u64 j.A,.int .u64 j.B,.int .i64 j.M].toArray:=by rw[<-eb6,bZ _ p'];exact ub5_24
 have ub6_25:b6.eval (.tmp 25)=.pointer (T' ⟨d,0,Y'⟩):=by rw[<-eb6,bZ _ p'];exact ub5_25
 have ub6_26:b6.eval (.tmp 26)=.int .i64 (U:Int):=by rw[<-eb6,bZ _ p'];exact ub5_26
 have ub6_29:b6.eval (.tmp 29)=.int .u64 j.B:=by rw[<-eb6,bZ _ p'];exact ub5_29
 show wpAnyH _ _ _ _ _ _ _ (b5.put (T' 31) (.int .u64 j.A)) _;rw[eb6];clear eb6;refine wpAnyH_take (i:=8) (v:=.int .u64 (T:Int)) rfl I' I' I' (λc a w h=>(by cases h.1)) (.inl ⟨rfl,λw0 hw0=>?_⟩) hS ?_
 .go_simp
  simp only[kY ub6_29,kY vb6]
  try go_simp
  rw[eP];omega
 obtain⟨b7,eb7⟩:=nm (b6.put (T' 32) (.int .u64 (T:Int)));have sb7:b7.tmps.size=a.tmps.size:=by rw[<-eb7,size_put];exact sb6
 have db7:b7.defers=a.defers:=by rw[<-eb7];exact db6
 have vb7:b7.eval (.tmp 32)=.int .u64 (T:Int):=by rw[<-eb7];exact iP _ (by rw[sb6];rw[hsz];decide)
 have ub7_0:b7.eval (.tmp 0)=.pointer (T' ⟨d,0,Y'⟩):=by rw[<-eb7,bZ _ p'];exact ub6_0
 have ub7_6:b7.eval (.tmp 6)=.int .i64 (U:Int):=by rw[<-eb7,bZ _ p'];exact ub6_6
 have ub7_24:b7.eval (.tmp 24)=.agg [Value.int .i64 j.F,.int .i64 j.E,.int .u64 j.A,.int .u64 j.B,.int .i64 j.M].toArray:=by rw[<-eb7,bZ _ p'];exact ub6_24
 have ub7_25:b7.eval (.tmp 25)=.pointer (T' ⟨d,0,Y'⟩):=by rw[<-eb7,bZ _ p'];exact ub6_25
 have ub7_26:b7.eval (.tmp 26)=.int .i64 (U:Int):=by rw[<-eb7,bZ _ p'];exact ub6_26
 show wpAnyH _ _ _ _ _ _ _ (b6.put (T' 32) (.int .u64 (T:Int))) _;rw[eb7];clear eb7;refine wpAnyH_ready (rs:=[3,9]) I' J' (AllReadyH.cons rfl (λK hK=>?oa) (AllReadyH.cons rfl (λK hK=>?ob) AllReadyH.nil))
 case' oa=>
  refine Eq.mpr (au (by rfl)) ?_;unfold Oper.wp;rw[D7 rfl ub7_26 f'];show K (b7.put (T' 27) _) _;have n1:=D5 (m:=U) w.drew;have hG1:=World.alloc_heap_new w.drew (.cells ((List.replicate U a0a).map Value.bool).toArray 4 (0,0));obtain⟨w1,hw1⟩:=nm (w.drew.alloc (.cells ((List.replicate U a0a).map Value.bool).toArray 4 (0,0)));have hs1:w.drew.heap.size<w1.heap.size:=by rw[<-hw1];exact kn (World.alloc_heap_new w.drew _)
  rw[hw1]at n1 hG1|-;clear hw1;refine hK.out _ _ (n1.block jb hjlt) (λ_=>?_);obtain⟨g1,hgx⟩:=nm (w.drew.heap.size);have hgw:w.heap.size=g1:=hgx;rw[hgx]at hG1 hs1|-;obtain⟨b8,eb8⟩:=nm (b7.put (T' 27) (.slice (T' ⟨g1,0,Y'⟩) U U));have sb8:b8.tmps.size=a.tmps.size:=by rw[<-eb8,size_put];exact sb7
  have db8:b8.defers=a.defers:=by rw[<-eb8];exact db7
  have vb8:b8.eval (.tmp 27)=.slice (T' ⟨g1,0,Y'⟩) U U:=by rw[<-eb8];exact iP _ (by rw[sb7,hsz];decide)
  have ub8_0:=(bZ (a:=b7) (d:=27) (t:=0) (.slice (T' ⟨g1,0,Y'⟩) U U) p').trans ub7_0;rw[eb8]at ub8_0;have ub8_6:=(bZ (a:=b7) (d:=27) (t:=6) (.slice (T' ⟨g1,0,Y'⟩) U U) p').trans ub7_6;rw[eb8]at ub8_6;have ub8_24:=(bZ (a:=b7) (d:=27) (t:=24) (.slice (T' ⟨g1,0,Y'⟩) U U) p').trans ub7_24;rw[eb8]at ub8_24;have ub8_25:=(bZ (a:=b7) (d:=27) (t:=25) (.slice (T' ⟨g1,0,Y'⟩) U U) p').trans ub7_25;rw[eb8]at ub8_25;have ub8_32:=(bZ (a:=b7) (d:=27) (t:=32) (.slice (T' ⟨g1,0,Y'⟩) U U) p').trans vb7;rw[eb8]at ub8_32;show wpAnyH _ _ _ _ _ _ _ (b7.put (T' 27) (.slice (T' ⟨g1,0,Y'⟩) U U)) _;rw[eb8];clear eb8;refine wpAnyH_ready (rs:=[9]) I' J' (AllReadyH.cons rfl (λK2 hK2=>?_) AllReadyH.nil);refine Eq.mpr (au (by rfl)) ?_;unfold Oper.wp;rw[D7 rfl ub8_32 f'];show K2 (b8.put (T' 33) _) _;have n2:=D5 (m:=T) w1;have hG2:=World.alloc_heap_new w1 (.cells ((List.replicate T a0a).map Value.bool).toArray 4 (0,0));obtain⟨w9,hw2⟩:=nm (w1.alloc (.cells ((List.replicate T a0a).map Value.bool).toArray 4 (0,0)));rw[hw2]at n2 hG2|-;clear hw2;refine hK2.out _ _ ((n2.block jb f').trans (n1.block jb hjlt)) (λ_=>?_);obtain⟨g2,hgy⟩:=nm (w1.heap.size);have z13:g1≠g2:=f';have z11:w.heap.size<=g1:=f';have z12:w.heap.size<=g2:=f';have hGx:w9.heap[g1]?=_:=(n2.block g1 hs1).trans hG1;have z14:Below w.heap.size w w9:=⟨n2.os.trans n1.os,n2.tape.trans n1.tape,n2.output.trans n1.output,fC n1.size n2.size,λk hk=>(n2.block k (da hk n1.size)).trans (n1.block k hk)⟩;rw[hgy]at hG2|-;obtain⟨b9,eb9⟩:=nm (b8.put (T' 33) (.slice (T' ⟨g2,0,Y'⟩) T T));have z1:b9.tmps.size=a.tmps.size:=by rw[<-eb9,size_put];exact sb8
  have z2:b9.defers=a.defers:=by rw[<-eb9];exact db8
  have z3:b9.eval (.tmp 0)=.pointer (T' ⟨d,0,Y'⟩):=by rw[<-eb9,bZ _ p'];exact ub8_0
  have z4:b9.eval (.tmp 6)=.int .i64 (U:Int):=by rw[<-eb9,bZ _ p'];exact ub8_6
  have z5:=(bZ (a:=b8) (d:=33) (t:=24) (.slice (T' ⟨g2,0,Y'⟩) T T) p').trans ub8_24;have z6:=(bZ (a:=b8) (d:=33) (t:=25) (.slice (T' ⟨g2,0,Y'⟩) T T) p').trans ub8_25;rw[eb9]at z5 z6;have hvy:b9.eval (.tmp 33)=.slice (T' ⟨g2,0,Y'⟩) T T:=by rw[<-eb9];exact iP _ (by rw[sb8,hsz];decide)
  have hvx:b9.eval (.tmp 27)=.slice (T' ⟨g1,0,Y'⟩) U U:=by rw[<-eb9,bZ _ p'];exact vb8
  show wpAnyH _ _ _ _ _ _ _ (b8.put (T' 33) (.slice (T' ⟨g2,0,Y'⟩) T T)) _;rw[eb9];clear eb9;have z7:=hvx;have z8:=hvy;have z9:=hGx;have z10:=hG2;clear hvx hvy hGx hG2
 case' ob=>
  refine Eq.mpr (au (by rfl)) ?_;unfold Oper.wp;rw[D7 rfl vb7 f'];show K (b7.put (T' 33) _) _;have n1:=D5 (m:=T) w.drew;have hG1:=World.alloc_heap_new w.drew (.cells ((List.replicate T a0a).map Value.bool).toArray 4 (0,0));obtain⟨w1,hw1⟩:=nm (w.drew.alloc (.cells ((List.replicate T a0a).map Value.bool).toArray 4 (0,0)));have hs1:w.drew.heap.size<w1.heap.size:=by rw[<-hw1];exact kn (World.alloc_heap_new w.drew _)
  rw[hw1]at n1 hG1|-;clear hw1;refine hK.out _ _ (n1.block jb hjlt) (λ_=>?_);obtain⟨g2,hgx⟩:=nm (w.drew.heap.size);have hgw:w.heap.size=g2:=hgx;rw[hgx]at hG1 hs1|-;obtain⟨b8,eb8⟩:=nm (b7.put (T' 33) (.slice (T' ⟨g2,0,Y'⟩) T T));have sb8:b8.tmps.size=a.tmps.size:=by rw[<-eb8,size_put];exact sb7
  have db8:b8.defers=a.defers:=by rw[<-eb8];exact db7
  have vb8:b8.eval (.tmp 33)=.slice (T' ⟨g2,0,Y'⟩) T T:=by rw[<-eb8];exact iP _ (by rw[sb7,hsz];decide)
  have ub8_0:=(bZ (a:=b7) (d:=33) (t:=0) (.slice (T' ⟨g2,0,Y'⟩) T T) p').trans ub7_0;rw[eb8]at ub8_0;have ub8_6:=(bZ (a:=b7) (d:=33) (t:=6) (.slice (T' ⟨g2,0,Y'⟩) T T) p').trans ub7_6;rw[eb8]at ub8_6;have ub8_24:=(bZ (a:=b7) (d:=33) (t:=24) (.slice (T' ⟨g2,0,Y'⟩) T T) p').trans ub7_24;rw[eb8]at ub8_24;have ub8_25:=(bZ (a:=b7) (d:=33) (t:=25) (.slice (T' ⟨g2,0,Y'⟩) T T) p').trans ub7_25;rw[eb8]at ub8_25;have ub8_26:=(bZ (a:=b7) (d:=33) (t:=26) (.slice (T' ⟨g2,0,Y'⟩) T T) p').trans ub7_26;rw[eb8]at ub8_26;show wpAnyH _ _ _ _ _ _ _ (b7.put (T' 33) (.slice (T' ⟨g2,0,Y'⟩) T T)) _;rw[eb8];clear eb8;refine wpAnyH_ready (rs:=[3]) I' J' (AllReadyH.cons rfl (λK2 hK2=>?_) AllReadyH.nil);refine Eq.mpr (au (by rfl)) ?_;unfold Oper.wp;rw[D7 rfl ub8_26 f'];show K2 (b8.put (T' 27) _) _;have n2:=D5 (m:=U) w1;have hG2:=World.alloc_heap_new w1 (.cells ((List.replicate U a0a).map Value.bool).toArray 4 (0,0));obtain⟨w9,hw2⟩:=nm (w1.alloc (.cells ((List.replicate U a0a).map Value.bool).toArray 4 (0,0)));rw[hw2]at n2 hG2|-;clear hw2;refine hK2.out _ _ ((n2.block jb f').trans (n1.block jb hjlt)) (λ_=>?_);obtain⟨g1,hgy⟩:=nm (w1.heap.size);have z13:g1≠g2:=f';have z11:w.heap.size<=g1:=f';have z12:w.heap.size<=g2:=f';have hGx:w9.heap[g2]?=_:=(n2.block g2 hs1).trans hG1;have z14:Below w.heap.size w w9:=⟨n2.os.trans n1.os,n2.tape.trans n1.tape,n2.output.trans n1.output,fC n1.size n2.size,λk hk=>(n2.block k (da hk n1.size)).trans (n1.block k hk)⟩;rw[hgy]at hG2|-;obtain⟨b9,eb9⟩:=nm (b8.put (T' 27) (.slice (T' ⟨g1,0,Y'⟩) U U));have z1:b9.tmps.size=a.tmps.size:=by rw[<-eb9,size_put];exact sb8
  have z2:b9.defers=a.defers:=by rw[<-eb9];exact db8
  have z3:b9.eval (.tmp 0)=.pointer (T' ⟨d,0,Y'⟩):=by rw[<-eb9,bZ _ p'];exact ub8_0
  have z4:b9.eval (.tmp 6)=.int .i64 (U:Int):=by rw[<-eb9,bZ _ p'];exact ub8_6
  have z5:=(bZ (a:=b8) (d:=27) (t:=24) (.slice (T' ⟨g1,0,Y'⟩) U U) p').trans ub8_24;have z6:=(bZ (a:=b8) (d:=27) (t:=25) (.slice (T' ⟨g1,0,Y'⟩) U U) p').trans ub8_25;rw[eb9]at z5 z6;have hvy:b9.eval (.tmp 27)=.slice (T' ⟨g1,0,Y'⟩) U U:=by rw[<-eb9];exact iP _ (by rw[sb8,hsz];decide)
  have hvx:b9.eval (.tmp 33)=.slice (T' ⟨g2,0,Y'⟩) T T:=by rw[<-eb9,bZ _ p'];exact vb8
  show wpAnyH _ _ _ _ _ _ _ (b8.put (T' 27) (.slice (T' ⟨g1,0,Y'⟩) U U)) _;rw[eb9];clear eb9;have z7:=hvy;have z8:=hvx;have z9:=hG2;have z10:=hGx;clear hvx hvy hGx hG2
 all_goals
  have hS9:w9.heap[jb]?=w.heap[jb]?:=z14.block jb hjlt;refine wpAnyH_ready (rs:=[10]) I' J' (AllReadyH.cons rfl (λK3 hK3=>?_) AllReadyH.nil);refine Eq.mpr (au (by rfl)) ?_;unfold Oper.wp;rw[Uz rfl z5 z6 z7 z8];show K3 (b9.put (T' 34) _) _;refine hK3.out _ _ hS9 (λ_=>?_);obtain⟨FA,hFA⟩:=nm (Ng j.F j.E j.A j.B j.M d g1 g2 U T);rw[hFA];obtain⟨ba,eba⟩:=nm (b9.put (T' 34) (.agg FA));have x1:ba.tmps.size=a.tmps.size:=by rw[<-eba,size_put];exact z1
  have x2:ba.defers=a.defers:=by rw[<-eba];exact z2
  have x3:ba.eval (.tmp 34)=.agg FA:=by rw[<-eba];exact iP _ (by rw[z1,hsz];decide)
  have x4:ba.eval (.tmp 0)=.pointer (T' ⟨d,0,Y'⟩):=by rw[<-eba,bZ _ p'];exact z3
  have x5:ba.eval (.tmp 6)=.int .i64 (U:Int):=by rw[<-eba,bZ _ p'];exact z4
  show wpAnyH _ _ _ _ _ _ _ (b9.put (T' 34) (.agg FA)) _;rw[eba];clear eba;refine wpAnyH_ready (rs:=[11]) I' J' (AllReadyH.cons rfl (λK4 hK4=>?_) AllReadyH.nil);refine Eq.mpr (au (by rfl)) ?_;unfold Oper.wp;rw[UK rfl x3];show K4 (ba.put (T' 35) _) _;have n3:Below w9.heap.size w9 (w9.alloc (.cells FA 128 (0,0))):=(iX _ _).alloc (aM _) _;have hG3:=World.alloc_heap_new w9 (.cells FA 128 (0,0));obtain⟨wz,hwz⟩:=nm (w9.alloc (.cells FA 128 (0,0)));rw[hwz]at n3 hG3|-;clear hwz;have hl9:w.heap.size<=w9.heap.size:=z14.size;refine hK4.out _ _ ((n3.block jb f').trans hS9) (λ_=>?_);have q1:g1<w9.heap.size:=kn z9;have q2:g2<w9.heap.size:=kn z10;have hg1z:=(n3.block g1 q1).trans z9;have hg2z:=(n3.block g2 q2).trans z10;have hbz:Below w.heap.size w wz:=⟨n3.os.trans z14.os,n3.tape.trans z14.tape,n3.output.trans z14.output,fC hl9 n3.size,λk hk=>(n3.block k f').trans (z14.block k hk)⟩;obtain⟨bf,hbf⟩:=nm (w9.heap.size);rw[hbf]at hG3 q1 q2 hl9|-;obtain⟨bb,ebb⟩:=nm (ba.put (T' 35) (.pointer (T' ⟨bf,0,Y'⟩)));have t1:bb.tmps.size=a.tmps.size:=by rw[<-ebb,size_put];exact x1
  have t2:bb.defers=a.defers:=by rw[<-ebb];exact x2
  have t3:bb.eval (.tmp 35)=.pointer (T' ⟨bf,0,Y'⟩):=by rw[<-ebb];exact iP _ (by rw[x1,hsz];decide)
  have t4:bb.eval (.tmp 0)=.pointer (T' ⟨d,0,Y'⟩):=by rw[<-ebb,bZ _ p'];exact x4
  have t5:bb.eval (.tmp 6)=.int .i64 (U:Int):=by rw[<-ebb,bZ _ p'];exact x5
  show wpAnyH _ _ _ _ _ _ _ (ba.put (T' 35) (.pointer (T' ⟨bf,0,Y'⟩))) _;rw[ebb];clear ebb;refine wpAnyH_ready (rs:=[12]) I' J' (AllReadyH.cons rfl (λK5 hK5=>?_) AllReadyH.nil);refine Eq.mpr (au (by rfl)) ?_;unfold Oper.wp;rw[Gi rfl t3];show K5 (bb.put (T' 7) _) _;refine hK5.out _ _ ((n3.block jb f').trans hS9) (λ_=>wpAnyH_done I' ⟨rfl,(size_put _ _ _).trans t1,t2,(bZ _ p').trans t4,(bZ _ p').trans t5,bf,g1,g2,iP _ (by rw[t1,hsz];decide),⟨hg1z,hg2z,by rw[hG3,<-hFA];rfl⟩,⟨z11,z12,hl9,z13,f',f'⟩,hbz⟩ _)
def mv(b:Int)(H:List (Int×LK)):Nat->List Bool
 |0=>List.replicate 4 a0a
 |k+1=>(mv b H k).set ((H.getD k h0).1-b).toNat Z'
theorem zd(b:Int)(H:List (Int×LK)):∀k,(mv b H k).length=4
 |0=>rfl
 |k+1=>by rw[mv,jC,zd b H k]
theorem Dz(f m:Nat)(b:Int):∀(n:Nat)(h:Int×LK),h∈aP f m b n->∃q:Nat,q<n/\h=(b+q,aX f m (pY (b+q)))/\h.2.gV=Z'
 |0,h,hh=>by cases hh
 |n+1,h,hh=>by
  simp only[aP,jm]at hh;rcases hh with hh|hh
  .obtain⟨q,q1,q2⟩:=Dz f m b n h hh
   exact⟨q,f',q2⟩
  .split at hh
   .rename_i hd
    rw[Cu]at hh;subst hh;exact⟨n,f',rfl,hd⟩
   .cases hh
theorem YU(f m:Nat)(b:Int)(n q:Nat)(hq:q<n)(hh:(aX f m (pY (b+q))).gV=Z'):(b+q,aX f m (pY (b+q)))∈aP f m b n:=by
 induction n with
 |zero=>exact absurd hq (Nat.not_lt_zero _)
 |succ n ih=>
  have hs:aP f m b (n+1)=aP f m b n++(if(aX f m (pY (b+n))).gV=Z' then[(b+n,aX f m (pY (b+n)))]else[]):=rfl;rw[hs,jm]
  by_cases e:q=n
  .right
   rw[e]at hh|-;rw[au hh];exact Cu.2 rfl
  .exact .inl (ih f')
theorem QO(b:Int)(H:List (Int×LK))(q:Nat)(hq:q<4):∀k,(∀i,i<k->∃r:Nat,r<4/\(H.getD i h0).1=b+r)->((mv b H k).getD q a0a=Z'↔∃i,i<k/\(H.getD i h0).1=b+q)
 |0,_=>by
  refine⟨λh=>?_,λ⟨i,h,_⟩=>f'⟩;exfalso
  match q,hq,h with
  |0,_,h=>cases h
  |1,_,h=>cases h
  |2,_,h=>cases h
  |3,_,h=>cases h
 |k+1,hin=>by
  have ih:=QO b H q hq k (λi hi=>hin i f');obtain⟨r,hr,er⟩:=hin k f';have hl:=zd b H k;rw[mv,er,show(b+(r:Int)-b).toNat=r from f',cF,qf]
  by_cases e:r=q
  .subst e
   rw[au rfl,au f'];exact⟨λ_=>⟨k,f',er⟩,λ_=>rfl⟩
  .rw[aq e,<-cF,ih]
   refine⟨λ⟨i,h1,h2⟩=>⟨i,f',h2⟩,λ⟨i,h1,h2⟩=>?_⟩
   by_cases ei:i=k
   .subst ei;rw[er]at h2;omega
   .exact⟨i,f',h2⟩
theorem acq(f m:Nat)(b:Int)(n:Nat)(hn:n<=4):mv b (aP f m b n) (aP f m b n).length=(List.range 4).map λ(q:Nat)=>decide (q<n)&&(aX f m (pY (b+q))).gV:=by
 refine Ke (by rw[zd];simp) λq h1 h2=>?_
 have hq:q<4:=by rw[zd]at h1;exact h1
 have af:∀i,i<(aP f m b n).length->∃r:Nat,r<4/\((aP f m b n).getD i h0).1=b+r:=λi hi=>by
  have ab:(aP f m b n).getD i h0∈aP f m b n:=by rw[cF,ed hi];exact qg _
  obtain⟨r,r1,r2,_⟩:=Dz _ _ _ _ _ ab;exact⟨r,f',by rw[r2]⟩
 have hg:=QO b (aP f m b n) q hq _ af;rw[cF,ed h1,rf]at hg;rw[Bool.eq_iff_iff,hg];simp only[zQ,zR,dG,yg];refine⟨λ⟨i,i1,i2⟩=>?_,λ⟨q1,q2⟩=>?_⟩
 .have ab:(aP f m b n).getD i h0∈aP f m b n:=by rw[cF,ed i1];exact qg _
  obtain⟨r,r1,r2,r3⟩:=Dz _ _ _ _ _ ab;rw[r2]at i2 r3;dsimp only at i2 r3;have:r=q:=f';subst this;exact⟨r1,r3⟩
 .obtain⟨i,i1,i2⟩:=List.getElem_of_mem (YU f m b n q q1 q2)
  exact⟨i,i1,by rw[cF,ed i1,i2];rfl⟩
theorem Uv(l:List Bool)(h:l.length=4):∃x,jH l=[x]/\(0<=x/\x<256)/\nH x=l:=by
 match l,h with
 |[a,b,c,d],_=>exact(by decide:∀a b c d:Bool,jH [a,b,c,d]=[(jH [a,b,c,d]).headD 0]/\(0<=(jH [a,b,c,d]).headD 0/\(jH [a,b,c,d]).headD 0<256)/\nH ((jH [a,b,c,d]).headD 0)=[a,b,c,d]) a b c d|>λh=>⟨_,h⟩
def kg(hd:Nat->Bool)(T:Nat)(l1:List Bool):List Bool:=(List.range T).map λk=>l1.getD (k/4) a0a&&hd k
theorem AS(hd:Nat->Bool)(T:Nat)(l1:List Bool):(kg hd T l1).length=T:=by simp[kg]
theorem VB(hd:Nat->Bool)(T i:Nat)(l1:List Bool)(hi:i<l1.length)(hT:4*i<T):mf (kg hd T l1) (4*i) ((List.range 4).map λq=>decide (4*i+q<T)&&hd (4*i+q))=kg hd T (l1.set i Z'):=by
 have hl:=AS hd T l1;unfold mf;refine Ke ?_ λk h1 h2=>?_
 .simp only[aV,fT,j6,hl,fJ,xx,AS]
  omega
 .have hk:k<T:=by rw[AS]at h2;exact h2
  have hr:(kg hd T (l1.set i Z'))[k]=((l1.set i Z').getD (k/4) a0a&&hd k):=by simp only[kg,zQ,zR]
  rw[hr,cF,qf];have hb:∀h,(kg hd T l1)[k]'h=(l1.getD (k/4) a0a&&hd k):=λh=>by simp only[kg,zQ,zR]
  by_cases c1:k<4*i
  .rw[aq f',Kl (by simp only[aV,fT,hl,fJ,xx];omega),Kl (by simp only[fT,hl];omega),List.getElem_take,hb,cF]
  by_cases c2:k<4*i+4
  .rw[au f',au f',Kl (by simp only[aV,fT,hl,fJ,xx];omega),Tb (by simp only[fT,hl];omega),List.getElem_take]
   simp only[zQ,zR,fT,hl,rf,JS];rw[show min (4*i) T=4*i from f',show 4*i+(k-4*i)=k from f',fu hk,JS]
  .rw[aq f',Tb (by simp only[aV,fT,hl,fJ,xx];omega),List.getElem_drop]
   simp only[aV,fT,hl,fJ,xx];have e:4*i+min (T-4*i) 4+(k-(min (4*i) T+min (T-4*i) 4))=k:=f';simp only[e];rw[hb,cF]
theorem agm{X:GA}{j:JN}{d bf bl g1 g2:Nat}{l1 l2:List Bool}{n:Int}{f:Int->List Int}{c:Nat}{at_ e nx:Int}{pb:Value}{i:Nat}(bR:i<10)(bt:i<l1.length)(bx:l1.length<=10)(bu:4*i<l2.length)(bz:l2.length<=10)(bD:n<=4096)(hc:c<=999000)(ha:0<=at_)(bn:at_+2<=e)(he:e<=n)(bE:0<=nx)(bF:nx<=4096)(bm:JT j.F j.E j.A j.B j.M)(ay:nT j.F j.E j.A j.B j.M)(hi:(i:Int)<(j.B-j.A+4-1)/4)
 (a4:PD (jP j.E (j.A+i*4))/\PD (jP j.E (j.A+i*4)+min (j.B-(j.A+i*4)) 4-1)):
 aA a0c 64 [bf,(i:Int)] (((X.star ((cG g2 l2).star (cG g1 l1))).star ((aZ d n f c).star (.aJ bl (cZ d at_ e 1 nx)))).star (.aJ bf (eG j d (bI g1 l1.length) (bI g2 l2.length) a0a a0a 1 (.pointer (T' ⟨bl,0,Y'⟩)) pb)))
  (λr R=>∃x HL,(0<=x/\x<256)/\HL=mv (jP j.E (j.A+i*4)) (aP j.F.toNat j.M.toNat (jP j.E (j.A+i*4)) (min (j.B-(j.A+i*4)) 4).toNat) (aP j.F.toNat j.M.toNat (jP j.E (j.A+i*4)) (min (j.B-(j.A+i*4)) 4).toNat).length/\r=.r (.int .i64 0)/\
   R=((X.star ((cG g2 (mf l2 (4*i) HL)).star (cG g1 (l1.set i Z')))).star ((aZ d n (gx f at_ e 1 nx [(i:Int),0,x]) 0).star (.aJ bl (cZ d (at_+2) e 1 (nx+1))))).star (.aJ bf (eG j d (bI g1 l1.length) (bI g2 l2.length) a0a a0a 1 (.pointer (T' ⟨bl,0,Y'⟩)) pb))):=by
 have hE:=iZ agn Xy Nh;have bL:nG j.A j.B=true:=fu ay.2.2.1;obtain⟨hF,bd,bP,hB,hM⟩:=ay;obtain⟨b,hb⟩:=nm (jP j.E (j.A+i*4));obtain⟨m,hm⟩:=nm (min (j.B-(j.A+i*4)) 4);rw[hb,hm]at a4;have bB:1<=m/\m<=4:=f';have aw:((0:Int)!=0)=false:=rfl;unfold eG;refine aA.body hE func64 ntmps64 results64 (λen=>?_);refine aE ?_;refine aa.seq (aa.gd dm 0 p' p' rfl rfl (gr rfl) ?_);refine aa.of (T:=ag a0a) ?_;refine cy (A8 bm bL bd hB (show 0<=(i:Int)from f') hi hb hm) ?_;refine⟨_,rfl,?_⟩;show aa _ _ _ _ _ _ _ _;obtain⟨HS,af⟩:=nm (aP j.F.toNat j.M.toNat b m.toNat);refine aa.seq (aa.gd dm 0 p' p' rfl rfl (gr rfl) ?_);refine aa.of (T:=ag a0a) ?_;refine ai.regionF [] [] [] hE.hT hE.hS hE.hm gy (an (A5 hF a4 bB hM af) ?_);refine⟨_,rfl,?_⟩;show aa _ _ _ _ _ _ _ _;refine aa.seq (a9 aw ?_);refine gF ?_;refine aE ?_;obtain⟨N,hN⟩:=nm (HS.length);have bw:∀k,k<N->∃q:Nat,q<4/\(HS.getD k h0).1=b+q:=λk hk=>by
  have a1:HS.getD k h0∈HS:=by rw[cF,ed f'];exact qg _
  rw[<-af]at a1;obtain⟨q,q1,q2,_⟩:=Dz _ _ _ _ _ a1;refine⟨q,f',?_⟩;rw[<-af,q2]
 have ao:=Dw HS;have hlen:=uG HS;obtain⟨CS,bc⟩:=nm (cE HS);rw[bc]at ao hlen|-;rw[hN]at ao hlen|-;refine aa.seq (aE ?_);refine aa.block ?_;refine aa.loop (ι:={k:Nat // k<=N}) (λk=>(⟨[(0,bf),(1,(i:Int)),(5,.r (.int .u64 b)),(10,.os 44 1 0 4),(45,.sl 14 N CS),(46,(N:Int)),(47,(k.1:Int))],[(44,⟨Z',.c ((mv b HS k.1).map ij)⟩)]⟩,(((X.star ((cG g2 l2).star (cG g1 l1))).star ((aZ d n f c).star (.aJ bl (cZ d at_ e 1 nx)))).star (.aJ bf (eG j d (bI g1 l1.length) (bI g2 l2.length) a0a a0a 1 (.pointer (T' ⟨bl,0,Y'⟩)) pb))))) (λk=>N-k.1) ⟨0,dU _⟩ ?_ ?_ ?_
 .have hr:(mv b HS 0).map ij=List.replicate 4 (AV.r (.bool a0a)):=rfl
  have a6:(44==dm)=false:=rfl;have a7:¬44=dm:=p';exact Le.mk (A3 hr a6 a7)
 .exact GA.le.refl _
 rintro⟨k,hk⟩;unfold eG;dsimp only
 by_cases hlt:k<N
 .have ha:=ao k hlt
  obtain⟨q,bH,hq⟩:=bw k hlt;have hs:mv b HS (k+1)=(mv b HS k).set ((HS.getD k h0).1-b).toNat true:=rfl;obtain⟨h,eh⟩:=nm (HS.getD k h0);rw[eh]at ha hq hs;obtain⟨p,r⟩:=h;dsimp only at hq hs;have a3:p-b=(q:Int):=f';rw[a3,dD]at hs;have ab:=zd b HS k;obtain⟨Y,hY⟩:=nm (mv b HS k);rw[hY]at hs ab|-;have bK:(mv b HS (k+1)).map ij=(Y.map ij).set q (.r (.bool Z')):=by rw[hs,List.map_set];rfl
  have bO:(Y.map ij).length=4:=by rw[fJ,ab]
  have a0:List.take 14 (List.drop (k*14) CS)=.r (.int .u64 p)::oz r:=ha;simp only[oz]at a0;have bQ:N<=4:=by rw[<-hN,<-af];have:=vY j.F.toNat j.M.toNat b m.toNat;omega
  have bA:(k:Int)<N:=f';have bM:IntKind.u64.wrap (q:Int)=q:=by rw[eP];omega
  refine aa.of (T:=ag a0a) ?_;refine an (A6 bA a0 a3 bM bO bH) ?_;exact⟨⟨k+1,f'⟩,Le.mk bK,GA.le.refl _,N'⟩
 obtain rfl:k=N:=f';refine a9 (show¬(k:Int)<k from f') ?_;refine aa.seq (gX ?_);have ab:=zd b HS k;obtain⟨HL,ax⟩:=nm (mv b HS k);rw[ax]at ab|-;obtain⟨x,hx,a5,bN⟩:=Uv HL ab;have br:=xW HL;have q2:∃l:List Bool,HL.map ij=l.map ij/\4=l.length/\l.length<=10/\0<l.length:=⟨HL,rfl,ab.symm,f',f'⟩;have bs:(HL.map ij).length=4:=by rw[fJ,ab]
 have w1:IntKind.u8.wrap (i:Int)=i:=by rw[J9];omega
 have w2:IntKind.u8.wrap ((i:Int)/256)=0:=by rw[J9];omega
 refine a9 (A6 w1 w2 br hx q2 bs) ?_;have bb:B8 [(i:Int),0,x]:=B8.of (λy hy=>by
  simp only[Cs,FH,or_false]at hy;rcases hy with rfl|rfl|rfl<;>omega) J'
 refine aa.seq (aa.seq (aa.gd dm 0 p' p' rfl rfl (gr rfl) (aa.region ?_)));refine az 5 ?_;show GL _ _ _ _ _ _ _ _ _;refine GL.freeze (T:=ag a0a) (.tmp 13) a0b ?_;refine GL.freeze (T:=ag a0a) (.tmp 71) a0b ?_;refine sZ (ag a0a) (X.star ((cG g2 l2).star (cG g1 l1))) (La (xs:=[(i:Int),0,x]) bD hc J' J' bb ha bn he p' p' bE bF) (GA.le.refl _) func103 ?_;refine az 1 ?_;refine GL.nil ?_;refine⟨_,rfl,?_⟩;show aa _ _ _ _ _ _ _ _;refine a9 aw ?_;refine gF ?_;refine aa.bG ?_;refine az 2 ?_;refine sZ (ag a0a) (X.star ((aZ d n (gx f at_ e 1 nx [(i:Int),0,x]) 0).star (.aJ bl (cZ d (at_+2) e 1 (nx+1))))) (abF (l1:=l1) (l2:=l2) a5 bt bx bu bz) (GA.le_eq (by ac_rfl)) func63 ?_ (hop:=rfl) (hargs:=rfl);refine gN ?_;refine aE ?_;refine aa.dS (Le.refl _) (GA.le_eq (B:=((X.star ((cG g2 (mf l2 (4*i) HL)).star (cG g1 (l1.set i Z')))).star ((aZ d n (gx f at_ e 1 nx [(i:Int),0,x]) 0).star (.aJ bl (cZ d (at_+2) e 1 (nx+1))))).star (.aJ bf (eG j d (bI g1 l1.length) (bI g2 l2.length) a0a a0a 1 (.pointer (T' ⟨bl,0,Y'⟩)) pb))) (by rw[bN];unfold eG;ac_rfl)) ?_;refine aa.ret ?_;exact dM.of ⟨x,HL,a5,by rw[hb,hm,af,hN];exact ax.symm,rfl,rfl⟩ (aO.mk a0b rfl)
section
variable {xs:List Int}{α:Type}
theorem aA.ex{P:Program}{f:FuncId}{args:List AV}{A:α->GA}{post:AV->GA->Prop}(h:∀a,aA P f args (A a) post):aA P f args (GA.ex A) post:=
 λw X fp vs hX ab⟨a,hr⟩hl ha=>h a w X fp vs hX ab hr hl ha
theorem GA.G9{A:α->GA}(a:α):(A a).le (GA.ex A):=λ_ _ _ h=>⟨a,h⟩
abbrev rh:=Option Addr×Nat×Nat
def qU(b:Nat)(xs:List Int):GA:=GA.ex λp:rh=>(dE (.slice p.1 p.2.1 p.2.2) xs).star (.aJ b [.r (.slice p.1 p.2.1 p.2.2)])
theorem eR.append{R0:GA}{o:Oper}{x y:Nat}{v:Value}{ys:List Int}(hop:o.op=.call ⟨.builtin .append,#[.tmp x,.tmp y],#[29,29]⟩)(ay:0<ys.length)(hl:xs.length+ys.length<=1000000000):
 eR a0c o #[.tmp x,.tmp y] [.r v,.ns .u8 ys] (R0.star (dE v xs)) (λr R'=>∃p:rh,r=.r (.slice p.1 p.2.1 p.2.2)/\R'=R0.star (dE (.slice p.1 p.2.1 p.2.2) (xs++ys))):=by
 intro w X fp a K Q hX ab ⟨f,g,k1,k2,k3,k4,k5⟩ hsz ha hK;obtain⟨u0,e0,r0⟩:=ha 0 _ rfl;obtain⟨u1,e1,r1⟩:=ha 1 _ rfl;have r0:=RI.aS r0;subst r0;have e0:a.eval (.tmp x)=u0:=by simpa using e0
 have e1:a.eval (.tmp y)=u1:=by simpa using e1
 cases r1 with
 |ns _ _ ad b oo cap hc hb hh=>
  obtain⟨rfl,a1⟩:=hb ay;obtain⟨v',w',p1,p2,p3,p4⟩:=QG (ty:=o.type) (ad:=⟨b,oo,Y'⟩) (c:=cap) k4 hl (λj u hj=>by
   rw[Addr.add_mid];simp only[cM,gv,kR]at hj;obtain⟨z,hz,rfl⟩:=hj;exact hh j z hz)
  have a0:(execOp a.eval o).run a0c w=.ok (.value v') w':=by
   simp only[execOp,hop,resolve,invoke,builtin,cC,cJ,cz,lB,fX,kr,e0,e1,p1]
  unfold Oper.wp;rw[a0];obtain⟨q,hq⟩:∃q:rh,v'=.slice q.1 q.2.1 q.2.2:=by
   rcases p2 with⟨e,_⟩|⟨g,cap,_,_,e,_⟩
   .exact⟨(Y',0,0),e⟩
   .exact⟨(T' ⟨g,0,Y'⟩,_,cap),e⟩
  have ax:=R0.lt k3;have aw:lU fp w w':=⟨p3.os,p3.tape,p3.output,p3.size,λj hj hf=>p3.block j hj (λe=>hf ((k1 j).2 (.inr ((k5 j).2 e.symm))))⟩;have ao:∀j,f j->u0.ownBlock≠T' j:=λj hj e=>k2 j hj ((k5 j).2 e)
  have af:∀j,v'.ownBlock=T' j->j<w.heap.size->u0.ownBlock=T' j:=λj e hj=>by
   rcases p4 with p4|p4
   .rw[<-p4];exact e
   .rw[p4]at e;cases e;omega
  refine hK v' w' (.r v') (R0.star (dE v' (xs++ys))) (λj=>f j\/v'.ownBlock=T' j) ⟨q,by rw[hq],by rw[hq]⟩ ⟨f,λj=>v'.ownBlock=T' j,λ_=>dr,λj hj e=>ao j hj (af j e (ax j hj)),R0.loc p3.size (λj hj hh=>p3.block j hj (λe=>by
   rcases hh with hh|hh
   .exact ao j hh e.symm
   .exact hh (ab j ((k1 j).2 (.inr ((k5 j).2 e.symm)))))) (λj hj hx=>by
   rcases hx with hx|hx|hx
   .exact hx
   .exact ab j ((k1 j).2 (.inl hx))
   .exact ab j ((k1 j).2 (.inr ((k5 j).2 (af j hx hj))))) k3,p2,λ_=>dr⟩ (RI.r _) (λj hj hx=>?_) aw
  rcases hx with hx|hx
  .exact(k1 j).2 (.inl hx)
  .exact(k1 j).2 (.inr ((k5 j).2 (af j hx hj)))
theorem aaA{m i:Nat}{k:mc}(h:(List.replicate m (Y':Option mc)).getD i Y'=T' k):False:=by
 rw[cF,qe]at h;split at h<;>cases h
theorem tQ{b:Nat}{n:Int}{s:Nat}(h0:0<=n)(h1:n<18446744073709551616)(hs:s<=8)(hl:xs.length<=100000000):
 aA a0c 137 [b,.r (.int .u64 n),(s:Int)] (qU b xs) (λr R=>r=.aU []/\R=qU b (xs++aI n s)):=by
 have hE:=env dC;have hw:∀k,(xs++aI n k).length=xs.length+k:=λk=>by rw[aV,cX]
 refine(aA.ex (λ⟨a0,n0,c0⟩=>?_:∀p:rh,aA a0c 137 _ ((dE (.slice p.1 p.2.1 p.2.2) xs).star (.aJ b [.r (.slice p.1 p.2.1 p.2.2)])) (λr R=>r=.aU []/\∃p:rh,R=(GA.cQ.star (dE (.slice p.1 p.2.1 p.2.2) (xs++aI n s))).star (.aJ b [.r (.slice p.1 p.2.1 p.2.2)])))).le (GA.le.refl _) (λr R'⟨q1,v',q2⟩=>⟨_,by rw[q2];exact(GA.mono (GA.AE _) (GA.le.refl _)).trans (GA.G9 (A:=λp:rh=>(dE (.slice p.1 p.2.1 p.2.2) (xs++aI n s)).star (.aJ b [.r (.slice p.1 p.2.1 p.2.2)])) v'),q1,rfl⟩);dsimp only;refine aA.body hE func137 ntmps137 results137 (λen=>?_);refine aE ?_;refine aa.block ?_;refine aa.loop (ι:={k:Nat // k<=s}×rh) (λp=>(⟨[(0,b),(1,.r (.int .u64 n)),(7,(s:Int)),(8,(p.1.1:Int))],[]⟩,(GA.cQ.star (dE (.slice p.2.1 p.2.2.1 p.2.2.2) (xs++aI n p.1.1))).star (.aJ b [.r (.slice p.2.1 p.2.2.1 p.2.2.2)]))) (λp=>s-p.1.1) (⟨0,dU _⟩,(a0,n0,c0)) ?_ ?_ ?_
 .exact Le.mk a0b
 .have:aI n 0=[]:=rfl
  rw[this,jx];exact GA.mono (GA.vU _) (GA.le.refl _)
 rintro⟨⟨k,hk⟩,⟨a1,n1,c1⟩⟩;dsimp only
 by_cases hlt:k<s
 .have aw:(k:Int)<s:=f'
  obtain⟨y,hy⟩:=nm (IntKind.u8.wrap (n/256^k));have ab:xs++aI n (k+1)=xs++aI n k++[y]:=by rw[yE,dH,<-hy,wrap_u8]
  have ax:IntKind.u8.wrap (n.fdiv (2^(8*k)))=y:=by
   rw[Ck,lW _ (bo (jl p'))];exact hy
  have ao:=hw k;obtain⟨XS,af⟩:=nm (xs++aI n k);rw[af]at ab ao|-;refine a9 aw ?_;refine aa.seq (gT ?_);refine aa.seq (aa.block (aE ?_));refine aa.gd dm 0 p' p' rfl rfl (gr rfl) ?_;refine aa.abJ 11 #[.tmp 15,.tmp 21] (List.replicate 15 Y') (λ_=>True) [] [] [] (L:=[]) (aas:=[.r (.slice a1 n1 c1),.ns .u8 [y]]) hE rfl (eR.append (R0:=.cQ) (xs:=XS) rfl Nat.one_pos (by show _+1<=_;omega)) ⟨_,_,(a1,n1,c1),rfl,rfl⟩ (λ_ _ _ _=>trivial) (λ_ _ _ _ _ _ _=>trivial) (λi o x u r _ hk=>(aaA hk).elim) gy (λr R' hp=>?_);obtain⟨⟨a2,n2,c2⟩,rfl,rfl⟩:=hp;refine⟨rfl,?_⟩;simp only[dk,ck,fl,dF,xB,xC,gO,iv,Nat.reduceAdd];refine jt ax ?_;refine⟨_,rfl,?_⟩;show aa _ _ _ _ _ _ _ _;refine aa.of (T:=ag a0a) ?_;refine aK ?_;exact⟨(⟨k+1,f'⟩,(a2,n2,c2)),Le.mk a0b,by rw[<-ab];exact GA.le.refl _,N'⟩
 obtain rfl:k=s:=f';refine a9 (show¬(k:Int)<k from f') ?_;refine aa.seq (aa.dz rfl (aa.exit ?_));simp only[pZ,Cd,↓reduceIte];exact dM.of ⟨rfl,(a1,n1,c1),rfl⟩ (aO.mk a0b rfl)
end
def oK(z:Int):Int:=if z<0 then 1 else 0
def jc(l:List Int):List Int:=l.flatMap λx=>aI x 8
def iQ(z:Int):List Int:=aI (oK z) 1++aI ((dg z.natAbs).length:Int) 2++jc (dg z.natAbs)
theorem Oy(l:List Int):(jc l).length=8*l.length:=by
 induction l with
 |nil=>rfl
 |cons x l ih=>
  have:jc (x::l)=aI x 8++jc l:=rfl;rw[this,aV,ih,cX,gM];omega
theorem ZT(l:List Int)(k:Nat)(hk:k<l.length):jc (l.take (k+1))=jc (l.take k)++aI (l.getD k 0) 8:=by
 rw[BO l 0 k hk];unfold jc;rw[zN];simp
theorem DF(z:Int):(iQ z).length=3+8*(dg z.natAbs).length:=by
 unfold iQ;rw[aV,aV,cX,cX,Oy]
theorem Jz{b:Nat}{xs:List Int}{z:Int}(hz:(dg z.natAbs).length<=1000)(hl:xs.length<=50000000):
 aA a0c 139 [b,zi z] (qU b xs) (λr R=>r=.aU []/\R=qU b (xs++iQ z)):=by
 have hE:=di Ff;have af:=gY (n:=z.natAbs) f';obtain⟨N,hN⟩:=nm ((dg z.natAbs).length);have hs:0<=oK z/\oK z<2:=by unfold oK;split<;>omega
 obtain⟨sg,ab⟩:=nm (oK z);rw[ab]at hs;rw[hN]at hz;unfold zi;refine aA.body hE func139 ntmps139 results139 (λen=>?_);refine aE ?_;refine a9 (A2 af hN) ?_;refine aE ?_;refine aa.iG (ι:=Unit) (λ_=>(⟨[(0,b),(3,.ptr 3 0),(4,.r (.int .u64 sg))],[(3,⟨Z',.c [decide (z<0),dg z.natAbs]⟩)]⟩,qU b xs)) ?_ (λ_=>?_)
 .by_cases hneg:z<0
  .have h1:decide (z<0)=true:=fu hneg
   have h2:sg=1:=by rw[<-ab];unfold oK;rw[au hneg]
   refine a9 h1 ?_;refine aa.eo rfl (aa.of (T:=ag a0a) ?_);refine aK ?_;subst h2;exact⟨(),Le.mk h1,GA.le.refl _⟩
  .have h1:decide (z<0)=false:=lG hneg
   have h2:sg=0:=by rw[<-ab];unfold oK;rw[aq hneg]
   refine a9 h1 ?_;refine aa.dz rfl (aa.skip ?_);subst h2;exact⟨(),Le.mk h1,GA.le.refl _⟩
 dsimp only;refine aa.bG ?_;refine az 2 ?_;refine gC (ag a0a) (tQ (b:=b) (xs:=xs) (n:=sg) (s:=1) f' f' f' f') func137 (λr R' hp=>?_);obtain⟨rfl,rfl⟩:=hp;refine⟨rfl,GL.nil ?_⟩;refine aa.bG ?_;refine fG 5 hN ?_;refine gC (ag a0a) (tQ (b:=b) (n:=(N:Int)) (s:=2) f' f' f' (by rw[aV,cX];omega)) func137 (λr R' hp=>?_);obtain⟨rfl,rfl⟩:=hp;refine⟨rfl,GL.nil ?_⟩;obtain⟨ys,ao⟩:=nm (xs++aI sg 1++aI (N:Int) 2);have a1:ys.length=xs.length+3:=by rw[<-ao,aV,aV,cX,cX]
 have a0:xs++iQ z=ys++jc (dg z.natAbs):=by unfold iQ;rw[ab,hN,<-ao];simp only[dH]
 rw[a0];rw[ao];refine a9 hN ?_;refine aa.block ?_;obtain⟨ds,ay⟩:=nm (dg z.natAbs);rw[ay]at hN af|-;refine aa.loop (ι:={k:Nat // k<=N}) (λk=>(⟨[(0,b),(21,ds),(22,(N:Int)),(23,(k.1:Int))],[]⟩,qU b (ys++jc (ds.take k.1)))) (λk=>N-k.1) ⟨0,dU _⟩ ?_ ?_ ?_
 .exact Le.mk a0b
 .have:jc (ds.take 0)=[]:=rfl
  dsimp only;rw[this,jx];exact GA.le.refl _
 rintro⟨k,hk⟩;dsimp only
 by_cases hlt:k<N
 .have aw:(k:Int)<N:=f'
  obtain⟨c,ec⟩:=nm (ds.getD k 0);have hc:0<=c/\c<18446744073709551616:=by
   have hm:c∈ds:=by rw[<-ec,cF,ed f'];exact qg _
   have:=af.1 c hm;exact this
  have ax:=ZT ds k f';rw[ec]at ax;refine a9 aw ?_;refine aa.seq (gT ?_);refine aa.seq (aa.block (a9 (A3 hN aw ec) ?_));refine aa.region ?_;refine az 2 ?_;refine gC (ag a0a) (tQ (b:=b) (n:=c) (s:=8) hc.1 hc.2 f' (by rw[aV,Oy,fT];omega)) func137 (λr R' hp=>?_);obtain⟨rfl,rfl⟩:=hp;refine⟨rfl,GL.nil ?_⟩;show aa _ _ _ _ _ _ _ _;refine aa.of (T:=ag a0a) ?_;refine aK ?_;exact⟨⟨k+1,f'⟩,Le.mk a0b,by dsimp only;rw[ax,dH];exact GA.le.refl _,N'⟩
 obtain rfl:k=N:=f';refine a9 (show¬(k:Int)<k from f') ?_;refine aa.seq (aa.dz rfl (aa.exit ?_));simp only[pZ,Cd,↓reduceIte];exact dM.of ⟨rfl,by rw[gG f']⟩ (aO.mk a0b rfl)
section
variable {xs:List Int}
def iC(d:Int×Int):List Int:=iQ d.1++aI (d.2+65536) 4
theorem GV(d:Int×Int):(iC d).length=7+8*(dg d.1.natAbs).length:=by
 unfold iC;rw[aV,DF,cX];omega
theorem R9{b:Nat}{d:Int×Int}(hz:(dg d.1.natAbs).length<=1000)(hl:xs.length<=40000000)(h0:-65536<=d.2)(h1:d.2<=65536):
 aA a0c 140 [b,rC d] (qU b xs) (λr R=>r=.aU []/\R=qU b (xs++iC d)):=by
 have hE:=env dC;obtain⟨z,e⟩:=d;dsimp only at hz h0 h1;have hN:=DF z;obtain⟨E,ab⟩:=nm (e+65536);have he:0<=E/\E<18446744073709551616:=f';have hw:IntKind.u64.wrap E=E:=by rw[eP];omega
 have ao:-9223372036854775808<=E/\E<9223372036854775808:=f';have af:xs++iC (z,e)=xs++iQ z++aI E 4:=by unfold iC;dsimp only;rw[ab,dH]
 rw[af];unfold rC;refine aA.body hE func140 ntmps140 results140 (λen=>?_);refine aE ?_;refine aa.bG ?_;refine az 3 ?_;refine gC (ag a0a) (Jz (b:=b) (xs:=xs) (z:=z) hz f') func139 (λr R' hp=>?_);obtain⟨rfl,rfl⟩:=hp;refine⟨rfl,GL.nil ?_⟩;refine aa.region ?_;refine fG 5 (A2 ab hw) ?_;refine gC (ag a0a) (tQ (b:=b) (n:=E) (s:=4) he.1 he.2 f' (by rw[aV];omega)) func137 (λr R' hp=>?_);obtain⟨rfl,rfl⟩:=hp;refine⟨rfl,GL.nil ?_⟩;exact pG
theorem VN{v:Value}(hB:B8 xs):aA a0c 30 [.r v] (dE v xs) (λr R=>r=.r (.int .u64 (fW 14695981039346656037 xs xs.length))/\R=dE v xs):=by
 refine aA.PU (args':=[.ns .u8 xs]) func30 rfl p' ((Mz [.ns .u8 xs] hB).1 rfl) rfl rfl (λw X fp hr hX j c c' hj ab v' hv=>?_)
 match j,hj,ab with
 |0,hj,ab=>
  cases hj;cases ab;rw[RI.aS hv];exact hr.1.ri (λk hk hx=>hx.2 ((hr.2 k).2 hk))
end
section
variable {j:JN}{H:List (Int×LK)}
def ru:List Int:=[72,65,73,82,67,69,82,84]
def pJ(h:Int×LK):List Int:=aI h.1 8++aI (h.2.k+65536) 4++aI h.2.q 4++iQ h.2.lo++iQ h.2.hi
def iE(H:List (Int×LK)):List Int:=H.flatMap pJ
def pt(j:JN)(H:List (Int×LK)):List Int:=ru++j.bytes++aI (H.length:Int) 4
def kv(j:JN)(H:List (Int×LK)):List Int:=pt j H++iE H++iC (dx H).1++iC (dx H).2
def gn(j:JN)(H:List (Int×LK)):List Int:=kv j H++aI (fW 14695981039346656037 (kv j H) (kv j H).length) 8
def HW(h:Int×LK):Prop:=HB h/\(0<=h.1/\h.1<18446744073709551616)/\(0<=h.2.q/\h.2.q<=2048)/\(-65536<=h.2.k/\h.2.k<65536)/\(dg h.2.lo.natAbs).length<60/\(dg h.2.hi.natAbs).length<60
theorem yC(n:Int)(k:Nat):∀x∈aI n k,0<=x/\x<256:=uM n k
theorem HO(z:Int):∀x∈iQ z,0<=x/\x<256:=by
 intro x hx;unfold iQ jc at hx;simp only[jm,FG]at hx;rcases hx with(h|h)|⟨y,_,h⟩<;>exact yC _ _ x h
theorem MP(d:Int×Int):∀x∈iC d,0<=x/\x<256:=by
 intro x hx;unfold iC at hx;rcases jm.1 hx with h|h
 .exact HO _ x h
 .exact yC _ _ x h
theorem YP(h:Int×LK):∀x∈pJ h,0<=x/\x<256:=by
 intro x hx;unfold pJ at hx;simp only[jm]at hx;rcases hx with(((h|h)|h)|h)|h
 iterate 3
  .exact yC _ _ x h
 .exact HO _ x h
 .exact HO _ x h
theorem YQ{h:Int×LK}(hw:HW h):(pJ h).length<=1000:=by
 obtain⟨_,_,_,_,h1,h2⟩:=hw;unfold pJ;simp only[aV,cX,DF];omega
theorem NF(H:List (Int×LK))(k:Nat)(hk:k<H.length):iE (H.take (k+1))=iE (H.take k)++pJ (H.getD k h0):=by
 rw[BO H h0 k hk];unfold iE;rw[zN];simp
theorem Dx(H:List (Int×LK))(h:∀k,k<H.length->HW (H.getD k h0)):∀k,k<=H.length->(iE (H.take k)).length<=1000*k
 |0,_=>by simp[iE]
 |k+1,hk=>by
  rw[NF H k f',aV];have:=Dx H h k f';have:=YQ (h k f');omega
theorem LR(h:∀k,k<H.length->HB (H.getD k h0)):qY (dx H).1/\qY (dx H).2:=by
 have hz:qY (0,0):=⟨(Bz.small (z:=0) p' p':Bz 5 0).mono p',p',p'⟩;unfold dx;split
 .exact⟨hz,hz⟩
 .rename_i ab
  refine⟨If (λk hk=>?_) _ (by rw[fJ];omega),If (λk hk=>?_) _ (by rw[fJ];omega)⟩
  .rw[fJ]at hk
   rw[getD_map' eO H h0 (0,0) k hk];obtain⟨⟨b1,b2⟩,s1,s2⟩:=h k hk;exact qA b1 s1 s2
  .rw[fJ]at hk
   rw[getD_map' fi H h0 (0,0) k hk];obtain⟨⟨b1,b2⟩,s1,s2⟩:=h k hk;exact qA b2 s1 s2
theorem Aw{d:Int×Int}(h:qY d):(dg d.1.natAbs).length<=62:=by
 have:=(Bz.oq h.1 p').2;omega
theorem HP{f e a b m:Int}:∀x∈oh f e a b m,0<=x/\x<256:=by
 intro x hx;have hj:∀x∈lJ,0<=x/\x<256:=p';unfold oh tu at hx;simp only[jm]at hx;rcases hx with((((h|h)|h)|h)|h)|h
 .exact hj x h
 all_goals exact yC _ _ x h
theorem L9(j:JN)(H:List (Int×LK)):(pt j H).length=60:=by
 unfold pt JN.bytes;rw[aV,aV,wo,cX]
 rfl
theorem U5(j:JN)(H:List (Int×LK)):∀x∈pt j H,0<=x/\x<256:=by
 intro x hx;have hj:∀x∈ru,0<=x/\x<256:=p';unfold pt JN.bytes at hx;simp only[jm]at hx;rcases hx with(h|h)|h
 .exact hj x h
 .exact HP x h
 .exact yC _ _ x h
theorem Al(h:∀k,k<H.length->HW (H.getD k h0))(hn:H.length<=100):(kv j H).length<=60+1000*H.length+1100:=by
 have hb:=LR (H:=H) (λk hk=>(h k hk).1);have h1:=Aw hb.1;have h2:=Aw hb.2;have h3:=Dx H h H.length (aM _);rw[gG (aM _)]at h3;unfold kv;rw[aV,aV,aV,L9,GV,GV];omega
theorem Gz(j:JN)(H:List (Int×LK)):∀x∈kv j H,0<=x/\x<256:=by
 intro x hx;unfold kv at hx;simp only[jm]at hx;rcases hx with((h|h)|h)|h
 .exact U5 j H x h
 .unfold iE at h
  obtain⟨y,_,hy⟩:=FG.1 h;exact YP y x hy
 .exact MP _ x h
 .exact MP _ x h
theorem Mj(j:JN)(H:List (Int×LK)):∀x∈gn j H,0<=x/\x<256:=by
 intro x hx;unfold gn at hx;rcases jm.1 hx with h|h
 .exact Gz j H x h
 .exact yC _ _ x h
theorem aa.Nu{P:Program}{n:Nat}{en:dK}{pn:Nat->Option Nat}{c:Code}{Q:Exit->St->GA->Prop}{σ:St}{α:Type}{A:α->GA}(h:∀a,aa P n en pn c Q σ (A a)):aa P n en pn c Q σ (GA.ex A):=λκ β a w hn hg hC=>by
 obtain⟨fp,⟨x,h1⟩,h2,h3⟩:=hg.fp;exact h x κ β a w hn ⟨hg.mu,hg.df,hg.bC,⟨fp,h1,h2,h3⟩,hg.nJ,hg.oS,hg.ow,hg.old,hg.os,hg.tape,hg.output,hg.size⟩ hC
theorem VZ{N:Nat}(hJ:j.ok)(hN:H.length=N)(hn:N<=100)(hw:∀k,k<H.length->HW (H.getD k h0)):
 aA a0c 104 [.agg j.cs,.sl 14 N (cE H)] .cQ (λr R=>r=.aU [.ns .u8 (gn j H),(0:Int)]/\R=.cQ):=by
 have hE:=iZ L4 Vv LP;have bE:JB j.F j.E j.A j.B j.M:=hJ;have hb:=LR (H:=H) (λk hk=>(hw k hk).1);have bc:=wo j.F j.E j.A j.B j.M;unfold JN.cs;refine aA.sJ hE func104 ntmps104 results104 (λen bN=>?_);have bH:∀b,¬en.fp b:=bN;refine aE ?_;refine aa.seq (a9 (show¬(N:Int)>2048 from f') ?_);refine gF ?_;refine aa.bG ?_;refine GL.H3 ru rfl rfl rfl rfl rfl rfl p' p' rfl p' p' rfl (λu=>?_);refine fG 2 bE ?_;refine GL.vM (ys:=oh j.F j.E j.A j.B j.M) rfl rfl rfl p' rfl (.inl rfl) f' (by rw[bc];decide) (λv'=>?_);refine GL.abZ (λa0 n0 c0 e0=>?_);subst e0;refine az 1 ?_;refine GL.Gs (d:=20) (t:=224) (x:=.tmp 19) (C:=[.r (.slice a0 n0 c0)]) rfl rfl rfl p' rfl (λbw=>?_);refine az 1 ?_;refine GL.nil ?_;refine aa.dS (Le.refl _) (R':=qU bw (ru++oh j.F j.E j.A j.B j.M)) ((GA.mono (GA.AE _) (GA.le.refl _)).trans (GA.G9 (A:=λp:rh=>(dE (.slice p.1 p.2.1 p.2.2) (ru++oh j.F j.E j.A j.B j.M)).star (.aJ bw [.r (.slice p.1 p.2.1 p.2.2)])) (a0,n0,c0))) ?_;have wN:IntKind.u64.wrap (N:Int)=N:=by rw[eP];omega
 refine aa.bG ?_;refine fG 4 wN ?_;refine gC (ag a0a) (tQ (b:=bw) (n:=(N:Int)) (s:=4) f' f' f' (by rw[aV,bc];decide)) func137 (λr R' hp=>?_);obtain⟨rfl,rfl⟩:=hp;refine⟨rfl,GL.nil ?_⟩;have bK:ru++oh j.F j.E j.A j.B j.M++aI (N:Int) 4=pt j H:=by unfold pt JN.bytes;rw[hN]
 rw[bK];have af:=Dw H;have hlen:=uG H;have a6:∃H':List (Int×LK),cE H=cE H'/\N=H'.length/\N<=100/\∀k,k<H'.length->HB (H'.getD k h0):=⟨H,rfl,hN.symm,hn,λk hk=>(hw k hk).1⟩;have br:=AX H;obtain⟨CS,bD⟩:=nm (cE H);rw[bD]at af hlen a6 br|-;rw[hN]at af hlen;have bP:=L9 j H;refine aa.seq (aE ?_);refine aa.block ?_;refine aa.loop (ι:={k:Nat // k<=N}) (λk=>(⟨[(1,.sl 14 N CS),(6,bw),(26,.sl 14 N CS),(27,(N:Int)),(28,(k.1:Int))],[]⟩,qU bw (pt j H++iE (H.take k.1)))) (λk=>N-k.1) ⟨0,dU _⟩ ?_ ?_ ?_
 .exact Le.mk a0b
 .have:iE (H.take 0)=[]:=rfl
  dsimp only;rw[this,jx];exact GA.le.refl _
 rintro⟨k,hk⟩;dsimp only
 by_cases hlt:k<N
 .have ha:=af k hlt
  have bt:=hw k f';have bs:=NF H k f';have bd:=Dx H hw k f';obtain⟨h,eh⟩:=nm (H.getD k h0);rw[eh]at ha bt bs;obtain⟨p,r⟩:=h;obtain⟨bQ,⟨p0,p1⟩,⟨q0,q1⟩,⟨k0,k1⟩,bz,bb⟩:=bt;dsimp only at p0 p1 q0 q1 k0 k1 bz bb;have a5:List.take 14 (List.drop (k*14) CS)=.r (.int .u64 p)::oz r:=ha;simp only[oz]at a5;have l1:=gY (n:=r.lo.natAbs) f';have l2:=gY (n:=r.hi.natAbs) f';have bm:(k:Int)<N:=f';obtain⟨YS,aw⟩:=nm (pt j H++iE (H.take k));have bO:YS.length<=60+1000*k:=by rw[<-aw,aV];omega
  have bn:pt j H++iE (H.take (k+1))=YS++aI p 8++aI (r.k+65536) 4++aI r.q 4++iQ r.lo++iQ r.hi:=by
   rw[bs,<-aw];unfold pJ;simp only[dH]
  rw[aw];have w1:IntKind.u64.wrap (r.k+65536)=r.k+65536:=by rw[eP];omega
  have w2:IntKind.u64.wrap r.q=r.q:=by rw[eP];omega
  obtain⟨KE,a1⟩:=nm (r.k+65536);rw[a1]at w1 bn;have n1:=DF r.lo;refine a9 bm ?_;refine aa.seq (gT ?_);refine aa.seq (aa.block (a9 (A3 bm a5 hlen) ?_));refine aa.seq (a9 (A4 l1 l2 bz bb) ?_);refine gF ?_;refine aa.bG ?_;refine az 3 ?_;refine GL.call (ag a0a) (tQ (b:=bw) (n:=p) (s:=8) p0 p1 f' f') rfl rfl func137 rfl p' rfl rfl (λt ht=>by cases ht;decide) (λr' R' hp=>?_);obtain⟨rfl,rfl⟩:=hp;refine⟨rfl,GL.nil ?_⟩;refine aa.bG ?_;refine fG 6 (A2 a1 w1) ?_;refine GL.call (ag a0a) (tQ (b:=bw) (n:=KE) (s:=4) f' f' f' (by simp only[aV,cX];omega)) rfl rfl func137 rfl p' rfl rfl (λt ht=>by cases ht;decide) (λr' R' hp=>?_);obtain⟨rfl,rfl⟩:=hp;refine⟨rfl,GL.nil ?_⟩;refine aa.bG ?_;refine fG 6 w2 ?_;refine GL.call (ag a0a) (tQ (b:=bw) (n:=r.q) (s:=4) f' f' f' (by simp only[aV,cX];omega)) rfl rfl func137 rfl p' rfl rfl (λt ht=>by cases ht;decide) (λr' R' hp=>?_);obtain⟨rfl,rfl⟩:=hp;refine⟨rfl,GL.nil ?_⟩;refine aa.bG ?_;refine az 5 ?_;refine GL.call (ag a0a) (Jz (b:=bw) (z:=r.lo) f' (by simp only[aV,cX];omega)) rfl rfl func139 rfl p' rfl rfl (λt ht=>by cases ht;decide) (λr' R' hp=>?_);obtain⟨rfl,rfl⟩:=hp;refine⟨rfl,GL.nil ?_⟩;refine aa.region ?_;refine az 5 ?_;refine GL.call (ag a0a) (Jz (b:=bw) (z:=r.hi) f' (by simp only[aV,cX];omega)) rfl rfl func139 rfl p' rfl rfl (λt ht=>by cases ht;decide) (λr' R' hp=>?_);obtain⟨rfl,rfl⟩:=hp;refine⟨rfl,GL.nil ?_⟩;show aa _ _ _ _ _ _ _ _;refine aa.of (T:=ag a0a) ?_;refine aK ?_;exact⟨⟨k+1,f'⟩,Le.mk a0b,by dsimp only;rw[bn];exact GA.le.refl _,N'⟩
 obtain rfl:k=N:=f';refine a9 (show¬(k:Int)<k from f') ?_;refine aa.seq (gX ?_);rw[gG (by omega:H.length<=k)];have bd:=Dx H hw k f';rw[gG (by omega:H.length<=k)]at bd;clear af;obtain⟨⟨d1,d2⟩,ab⟩:∃d,dx H=d:=⟨_,rfl⟩;have bu:=Aw hb.1;have bx:=Aw hb.2;obtain⟨⟨_,y1,y2⟩,⟨_,y3,y4⟩⟩:=hb;rw[ab]at bu bx y1 y2 y3 y4;obtain⟨m1,e1⟩:=d1;obtain⟨m2,e2⟩:=d2;dsimp only at bu bx y1 y2 y3 y4;have x1:(dx H).1.1=m1:=by rw[ab]
 have x2:(dx H).1.2=e1:=by rw[ab]
 have x3:(dx H).2.1=m2:=by rw[ab]
 have x4:(dx H).2.2=e2:=by rw[ab]
 have a7:kv j H=pt j H++iE H++iC (m1,e1)++iC (m2,e2):=by unfold kv;rw[ab]
 have bA:=GV (m1,e1);dsimp only at bA;have ao:=Hk (h:=14695981039346656037) p' p' (kv j H) (kv j H).length;have ay:B8 (kv j H):=B8.of (Gz j H) (by have:=Al (j:=j) hw f';omega);have bF:=Al (j:=j) hw f';have ax:gn j H=kv j H++aI (fW 14695981039346656037 (kv j H) (kv j H).length) 8:=rfl;obtain⟨CB,bB⟩:=nm (kv j H);rw[bB]at a7 ao ay bF ax;obtain⟨S,hS⟩:=nm (fW 14695981039346656037 CB CB.length);rw[hS]at ao ax;refine a9 (A6 a6 br x1 x2 x3 x4) ?_;refine aa.seq (aa.seq (aa.of (T:=ag a0a) ?_));have bM:¬4000<(if e1<e2 then e2 else e1):=by split<;>omega
 have bL:¬(if e2<e1 then e2 else e1)< -4000:=by split<;>omega
 refine cy (A2 bM bL) ?_;show aa _ _ _ _ _ _ _ _;refine gF ?_;refine aa.bG ?_;refine az 2 ?_;refine GL.call (ag a0a) (R9 (b:=bw) (d:=(m1,e1)) N' (by rw[aV];omega) N' N') rfl rfl func140 rfl p' rfl rfl (λt ht=>by cases ht;decide) (λr' R' hp=>?_);obtain⟨rfl,rfl⟩:=hp;refine⟨rfl,GL.nil ?_⟩;refine aa.bG ?_;refine az 2 ?_;refine GL.call (ag a0a) (R9 (b:=bw) (d:=(m2,e2)) N' (by simp only[aV];omega) N' N') rfl rfl func140 rfl p' rfl rfl (λt ht=>by cases ht;decide) (λr' R' hp=>?_);obtain⟨rfl,rfl⟩:=hp;refine⟨rfl,GL.nil ?_⟩;rw[<-a7];refine aa.Nu λ⟨a3,n3,c3⟩=>?_
 dsimp only;refine aa.bG ?_;refine az 2 ?_;refine GL.rJ rfl rfl rfl p' rfl ?_;refine GL.rE (T:=ag a0a) (e:=0) hE.hT rfl rfl rfl p' rfl rfl ?_;refine GL.uR (T:=ag a0a) (c:=.r (.slice a3 n3 c3)) hE.hT rfl rfl rfl p' rfl rfl rfl rfl ?_;refine GL.C4 (ag a0a) (.aJ bw [.r (.slice a3 n3 c3)]) (VN (v:=.slice a3 n3 c3) ay) (GA.comm _ _) rfl rfl func30 rfl p' rfl rfl (λt ht=>by cases ht;decide) (λr' R' hp=>?_);obtain⟨rfl,rfl⟩:=hp;rw[hS];refine⟨rfl,?_⟩;refine GL.le (R':=qU bw CB) ((GA.comm _ _).trans (GA.G9 (A:=λp:rh=>(dE (.slice p.1 p.2.1 p.2.2) CB).star (.aJ bw [.r (.slice p.1 p.2.1 p.2.2)])) (a3,n3,c3))) ?_;refine GL.call (ag a0a) (tQ (b:=bw) (n:=S) (s:=8) ao.1 ao.2 f' f') rfl rfl func137 rfl p' rfl rfl (λt ht=>by cases ht;decide) (λr' R' hp=>?_);obtain⟨rfl,rfl⟩:=hp;refine⟨rfl,GL.nil ?_⟩;rw[<-ax];refine aa.Nu λ⟨a4,n4,c4⟩=>?_
 dsimp only;refine aa.bG ?_;refine az 1 ?_;refine GL.rJ rfl rfl rfl p' rfl ?_;refine GL.rE (T:=ag a0a) (e:=0) hE.hT rfl rfl rfl p' rfl rfl ?_;refine GL.uR (T:=ag a0a) (c:=.r (.slice a4 n4 c4)) hE.hT rfl rfl rfl p' rfl rfl rfl rfl ?_;refine GL.ja eZ.drop ?_;refine GL.le (GA.vU _) ?_;refine GL.ja (eZ.th (t:=101) (v:=.slice a4 n4 c4) bH rfl p') ?_;refine az 2 ?_;refine GL.nil ?_;refine aa.ret ?_;exact pG
@[push_cast] def Rl:Sp where
 kind:=0
 pre
  |[.agg [.r (.int .i64 F),.r (.int .i64 E),.r (.int .u64 A),.r (.int .u64 B),.r (.int .i64 M)],.sl 14 n cs]=>JB F E A B M/\∃H:List (Int×LK),cs=cE H/\H.length=n/\n<=100/\∀k,k<H.length->HW (H.getD k h0)
  |_=>False
 res
  |[.agg [.r (.int .i64 F),.r (.int .i64 E),.r (.int .u64 A),.r (.int .u64 B),.r (.int .i64 M)],.sl 14 _ cs]=>.aU [.ns .u8 (gn ⟨F,E,A,B,M⟩ (uH cs)),(0:Int)]
  |_=>.any
theorem V0:aj a0c 104 Rl:=by
 refine sz λargs hp=>?_
 split at hp;rotate_left;cases hp;rename_i F E A B M n cs;obtain⟨hJ,H,rfl,h1,h2,h3⟩:=hp;rw[AX];exact dh.wU func104 rfl p' ((VZ (j:=⟨F,E,A,B,M⟩) hJ h1 h2 h3).le (GA.le.refl _) (λr R' h=>⟨_,GA.le.refl _,h.1⟩))
end
end Go.Hl
