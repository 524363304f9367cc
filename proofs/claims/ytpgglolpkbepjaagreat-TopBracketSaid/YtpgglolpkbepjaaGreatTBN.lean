/- Lemmas for TopSound and TopBracket. -/
import Derived.Test.YtpgglolpkbepjaaGreatTBM
import Derived.Test.YtpgglolpkbepjaaGreatTBJ
set_option linter.unusedVariables false
set_option linter.unusedSimpArgs false
namespace Go.Hl
open Go.Proofs.Tryz
open Go.Proofs.Tryz renaming prog→a0c
open Option renaming some→T',none→Y'
open Bool renaming true→Z',false→a0a
open Go Go.RowKit Go.Proofs
set_option maxHeartbeats 8000000
set_option maxRecDepth 100000
section
variable {at0 n:Int}{f:Int->List Int}{XS:List Int}{k:List Nat}{ab c d md:Nat}{X fp:Nat->Prop}{w:World}
theorem Vn{xs:List Int}:aA a0c 105 [.ns .u8 xs,(512:Int)] .cQ (λr R=>∃c1 c2,r=.r (.func (.func 141) #[] #[.pointer (T' ⟨c1,0,Y'⟩),.pointer (T' ⟨c2,0,Y'⟩)])/\R=(GA.aJ c1 [.ns .u8 xs]).star (.aJ c2 [(512:Int)])):=by
 intro w X fp vs hX af hr hl ha;obtain⟨v0,v1,rfl⟩:=CM hl;obtain rfl:=mG (j:=1) ha rfl rfl;have hN:=CK (j:=0) ha rfl rfl;have ab:=hN;cases hN with
 |ns _ _ ad bb oo cap hcap hadr hcell=>
  refine((callsIn_wide (n:=10)).1 (aah ad _ cap w)).mono λe w'⟨he,hw'⟩=>?_
  have b1:Below w.heap.size w w':=by rw[hw'];exact((iX _ _).alloc (aM _) _).alloc J' _
  have h1:w'.heap[w.heap.size]?=T' (.cells #[.slice ad xs.length cap] 29 (0,0)):=by
   rw[hw',xn _ _ _ J'];exact World.alloc_heap_new w _
  have h2:w'.heap[w.heap.size+1]?=T' (.cells #[.int .i64 512] 3 (0,0)):=by
   rw[hw'];have:=World.alloc_heap_new (w.alloc (.cells #[.slice ad xs.length cap] 29)) (.cells #[.int .i64 512] 3);rwa[World.size_alloc]at this
  refine⟨_,_,_,λb=>b=w.heap.size\/b=w.heap.size+1,he,⟨_,_,rfl,rfl⟩,⟨λb=>b=w.heap.size,λb=>b=w.heap.size+1,λ_=>dr,λb e1 e2=>f',⟨λ_=>dr,_,_,h1,aM _,λj c hj=>?_⟩,⟨λ_=>dr,_,_,h2,aM _,λj c hj=>?_⟩⟩,RI.r _,λb hb hx=>f',⟨b1.os,b1.tape,b1.output,b1.size,λb hb _=>b1.block b hb⟩⟩
  .match j,hj with
   |0,hj=>cases hj;exact⟨_,rfl,ab.cW ⟨b1.size,λb hb _=>b1.block b hb⟩ (λb hb hx=>hx.elim id (λhx=>f'))⟩
  .match j,hj with
   |0,hj=>cases hj;exact⟨_,rfl,RI.r _⟩
def sP(b:Nat)(n:Int)(f:Int->List Int)(c m:Nat):GA where
 rel w fp _:=∃lv,JW w b n f c m lv/\∀k,fp k↔k=b\/k=m\/lv.ownBlock=T' k
 loc:=by
  rintro w w' fp X X' hs hw hX ⟨lv,⟨h1,es,clock,F,L,h2,h3,h4,h5⟩,h6⟩;refine⟨lv,⟨?_,es,clock,F,L,?_,h3,PO h4 (λk hk=>hw k (tH h4 hk).1 (.inl ((h6 k).2 (.inr (.inr hk))))),h5⟩,h6⟩
  .rw[hw b (jO h1) (.inl ((h6 b).2 (.inl rfl)))];exact h1
  .rw[hw m (jO h2) (.inl ((h6 m).2 (.inr (.inl rfl))))];exact h2
 lt:=by
  rintro w fp X ⟨lv,⟨h1,es,clock,F,L,h2,h3,h4,h5⟩,h6⟩ k hk;rcases(h6 k).1 hk with rfl|rfl|h
  .exact jO h1
  .exact jO h2
  .exact(tH h4 h).1
theorem Wc(b:Nat)(n:Int)(f:Int->List Int)(c m:Nat):(sP b n f c m).le (aZ b n f c):=λ_ _ _⟨lv,h⟩=>⟨m,lv,h⟩
theorem Wp(b:Nat)(n:Int)(f:Int->List Int)(c m:Nat)(i:Int)(xs:List Int)(h0:0<=i)(hn:i<n)(hc:c<=1000000)(hx:xs.length<=512):aA a0c 106 [b,(i:Int),.ns .u8 xs] (sP b n f c m) (λr R=>r=.r (.int .i64 0)/\R=sP b n (ib f i xs) (c+1) m):=by
 intro w X fp vs hX ay hr hl ha;obtain⟨v0,v1,v2,rfl⟩:=Lg hl;obtain rfl:=mG (j:=0) ha rfl rfl;obtain rfl:=mG (j:=1) ha rfl rfl;have hN:=CK (j:=2) ha rfl rfl;obtain⟨lv,⟨h1,es,clock,F,L,h2,h3,h4,h5,h7,h8,h9⟩,h6⟩:=hr;cases hN with
 |ns _ _ ad bb oo cap hcap hadr hcell=>
  have ao:lv.ownBlock≠T' b:=λe=>by
   obtain⟨_,C,hC⟩:=tH h4 e;rw[h1]at hC;cases hC
  have aw:lv.ownBlock≠T' m:=λe=>by
   obtain⟨_,C,hC⟩:=tH h4 e;rw[h2]at hC;cases hC
  have af:b≠m:=λe=>by subst e;rw[h1]at h2;cases h2
  refine(Sw (l:=xs) h1 h0 hn hx rfl (λj v hj=>?_) h4 f' ao).mono λe w'⟨he,lv',k1,k2,k3,k4,k5,k6,k7,k8⟩=>⟨_,_,_,λk=>k=b\/k=m\/lv'.ownBlock=T' k,he,⟨rfl,rfl⟩,⟨lv',⟨k1,es,clock,F,L++[(i,xs++List.replicate (512-xs.length) 0)],?_,h3,by simpa using k2,by simpa using h5,R4 L _ O' h7,λk=>?_,h9⟩,λk=>dr⟩,RI.r _,λk hk hh=>?_,⟨k4,k5,k6,k7,λk hk hf=>k8 k hk (λe=>hf ((h6 k).2 (.inl e))) (λe=>hf ((h6 k).2 (.inr (.inr e))))⟩⟩
  .simp only[cM,gv,kR]at hj
   obtain⟨x,ab,rfl⟩:=hj;have ax:0<xs.length:=by have:=(iu.1 ab).1;omega
   exact⟨bb,oo,(hadr ax).1,hcell j x ab⟩
  .rw[k8 m (jO h2) (λe=>af e.symm) aw];exact h2
  .rw[yK]
   simp only[h8]
   rfl
  .rcases hh with rfl|rfl|hh
   .exact(h6 _).2 (.inl rfl)
   .exact(h6 _).2 (.inr (.inl rfl))
   .rcases k3 with k3|⟨g,k3,k9⟩
    .exact(h6 _).2 (.inr (.inr (by rw[<-k3];exact hh)))
    .rw[k3]at hh;cases hh;omega
def pO(xs:List Int)(k:Nat):List Int:=(xs.drop (512*k)).take 512
def mR(f:Int->List Int)(a:Int)(xs:List Int):Nat->Int->List Int
 |0=>f
 |k+1=>ib (mR f a xs k) (a+k) (pO xs k)
def Su(f:Int->List Int)(a:Int)(XS:List Int):List Nat->Int->List Int
 |[]=>f
 |x::r=>ib (Su f a XS r) (a+(r.length:Int)) (pO XS x)
def zu(f:Int->List Int)(a:Int)(XS:List Int)(pre:List Nat):Int->List Int:=Su f a XS pre.reverse
theorem Sq(f:Int->List Int)(a:Int)(XS:List Int)(pre:List Nat)(x:Nat):zu f a XS (pre++[x])=ib (zu f a XS pre) (a+(pre.length:Int)) (pO XS x):=by
 unfold zu;have e:(pre++[x]).reverse=x::pre.reverse:=J';rw[e];show ib _ (a+(pre.reverse.length:Int)) _=_;rw[List.length_reverse]
theorem So(f:Int->List Int)(a:Int)(XS:List Int):∀k,zu f a XS (List.range k)=mR f a XS k
 |0=>rfl
 |k+1=>by rw[xz,Sq,So f a XS k,xx];rfl
def SG(ab d:Nat)(n at0:Int)(f:Int->List Int)(XS:List Int)(c md:Nat)(pre:List Nat):GA:=(GA.aJ ab [.r (.int .i64 (at0+(pre.length:Int)))]).star (sP d n (zu f at0 XS pre) (c+pre.length) md)
theorem CE{X':Nat->Prop}(h:(SG ab d n at0 f XS c md k).rel w fp X):(SG ab d n at0 f XS c md k).rel w fp X':=by
 obtain⟨f1,f2,h1,h2,⟨m1,A,e,m2,m3,m4⟩,h4⟩:=h;refine⟨f1,f2,h1,h2,⟨m1,A,e,m2,m3,λj c hj=>?_⟩,h4⟩
 match j,hj with
 |0,hj=>
  cases hj;obtain⟨v,v1,v2⟩:=m4 0 _ rfl;exact⟨v,v1,by rw[RI.aS v2];exact RI.r _⟩
theorem FY(h:(SG ab d n at0 f XS c md k).rel w fp X)(b:Nat)(hb:fp b):b=md\/∃o:Obj,w.heap[b]?=T' o/\o.isCells=true:=by
 obtain⟨f1,f2,h1,h2,⟨m1,A,e,m2,m3,m4⟩,lv,⟨q1,es,clock,F,L,q2,q3,q4,q5⟩,q6⟩:=h;rcases(h1 b).1 hb with h|h
 .have:=(m1 b).1 h
  subst this;exact .inr ⟨_,m2,rfl⟩
 .rcases(q6 b).1 h with rfl|rfl|h
  .exact .inr ⟨_,q1,rfl⟩
  .exact .inl rfl
  .obtain⟨_,C,hC⟩:=tH q4 h
   exact .inr ⟨_,hC,rfl⟩
def SI(w:World)(fx:Nat->Prop)(S:GA)(W:World):Prop:=∃fp,S.rel W fp (λ_=>True)/\(∀b,b<w.heap.size->fp b->fx b)/\lU fx w W
theorem Ty{fx:Nat->Prop}(hm:md<w.heap.size):OwnFrom w.heap.size (λ(pre:List Nat)W=>SI w fx (SG ab d n at0 f XS c md pre) W):=by
 rintro pre W W' row ⟨fp,h1,h2,h3⟩ hg hr;have aw:∀b,fp b->row≠T' b:=λb hb e=>by
  obtain⟨hB,o,ho,hc⟩:=hr b e;rcases FY h1 b hb with rfl|⟨o',ao,af⟩
  .omega
  .rw[ho]at ao;cases ao;rw[hc]at af;cases af
 have ax:=(SG ab d n at0 f XS c md pre).lt h1;refine⟨fp,GA.loc _ hg.size (λb hb hh=>hg.block b hb (λe=>?_)) (λ_ _ h=>h) h1,h2,⟨hg.os.trans h3.os,hg.tape.trans h3.tape,hg.output.trans h3.output,fC h3.size hg.size,λb hb hf=>?_⟩⟩
 .exact hh.elim (λh=>aw b h e.symm) (λh=>h a0b)
 .exact(hg.block b (da hb h3.size) (λe=>by
   obtain⟨hB,_⟩:=hr b e.symm;omega)).trans (h3.block b hb hf)
theorem Nq{R:GA}{W:World}{n:Nat}{fr:List (Nat×AV)}{a:Act}(hR:R.rel W fp fp)(af:a.tmps.size=n)(hd:a.defers=[])(ab:∀t,((⟨fr,[]⟩:St).get t).im=Z'/\RI W fp ((⟨fr,[]⟩:St).get t) (a.tmps.getD t undef)):
 cK ⟨W,fp,fp,λ_ h=>h,R.lt hR,[]⟩ (λ_=>Y') R ⟨n,W,fp,Y',λ_=>False,[],λ_=>Y'⟩/\av ⟨n,W,fp,Y',λ_=>False,[],λ_=>Y'⟩ (λ_=>Y') (⟨fr,[]⟩:St).get (⟨fr,[]⟩:St).ae a W:=by
 refine⟨⟨rfl,rfl,rfl,⟨fp,R.loc (aM _) (λ_ _ _=>rfl) (λb _ hx=>hx.elim id (λh=>h.elim)) hR,λ_ h=>h,λ_ _ h=>h⟩,λ_ h=>.inl h,λ_ h _=>h,λ_ _ h=>h.elim,λ_ _ _=>rfl,rfl,rfl,rfl,aM _⟩,
  ⟨af,λt=>?_,hd,λid ae hi=>(by cases hi),λi j b c x y _ hx=>(by cases hx),⟨rfl,rfl,rfl,aM _,λ_ _ _=>rfl,λ_ _ _ hm=>(by cases hm)⟩,λb hb=>⟨R.lt hR b hb,λh=>h.elim⟩,λ_ _ h=>(by cases h)⟩⟩
 refine RV.of (ab t).1 ((ab t).2.cW (dZ.refl _ _) (λb _ hb=>?_));rcases hb with hb|⟨_,_,_,q,_⟩
 .exact hb
 .cases q
end
section
variable {B:GA}{b:Nat}
theorem aA.ZG{P:Program}{f:FuncId}{args args2:List AV}{R:GA}{post:AV->GA->Prop}(h:aA P f args R post)(hl:args2.length=args.length)(a1:∀r R',post r R'->r.flat=Z'/\R'.free)(ay:∀(w:World)(g X:Nat->Prop),B.rel w g X->∀(j:Nat)(c c2:AV)(v:Value),args[j]?=T' c->args2[j]?=T' c2->RI w X c2 v->RI w (λb=>X b/\¬g b) c v):aA P f args2 (R.star B) (λr R'=>∃R1,post r R1/\R'=R1.star B):=by
 intro w X fp vs hX ao ⟨f1,g1,h1,h2,h3,h4⟩ hlen ha;have af:∀b,f1 b->X b/\¬g1 b:=λb hb=>⟨ao b ((h1 b).2 (.inl hb)),h2 b hb⟩
 refine(h w (λb=>X b/\¬g1 b) f1 vs (λb hb=>hX b hb.1) af (R.loc (aM _) (λ_ _ _=>rfl) (λb _ hb=>hb.1) h3) (hlen.trans hl) (λj c hj=>?_)).mono λe w'⟨v,r,R',fp',k1,k2,k3,k4,k5,k6⟩=>?_
 .have aw:j<args2.length:=by rw[hl];exact(iu.1 hj).1
  obtain⟨v,v1,v2⟩:=ha j args2[j] (ed aw);exact⟨v,v1,ay w g1 X h4 j c _ v hj (ed aw) v2⟩
 .obtain⟨p1,p2⟩:=a1 r R' k2
  have ax:=B.lt h4;refine⟨v,r,R'.star B,λb=>fp' b\/g1 b,k1,⟨R',k2,rfl⟩,⟨fp',g1,λ_=>dr,λb hb ab=>h2 b (k5 b (ax b ab) hb) ab,p2 _ _ _ _ k3,B.loc k6.size (λb hb hh=>k6.block b hb (λhf=>hh.elim (λab=>h2 b hf ab) (λhx=>hx (af b hf).1))) (λb hb hx=>?_) h4⟩,Hj p1 k4,λb a0 hb=>(h1 b).2 (hb.imp (k5 b a0) id),⟨k6.os,k6.tape,k6.output,k6.size,λb hb hn=>k6.block b hb (λhf=>hn ((h1 b).2 (.inl hf)))⟩⟩;rcases hx with hx|hx|hx
  .exact hx
  .exact(af b (k5 b hb hx)).1
  .exact ao b ((h1 b).2 (.inr hx))
theorem GA.XI{A:GA}(h:A.free)(k:B.free):(A.star B).free:=λw fp X X'⟨f,g,h1,h2,h3,h4⟩=>⟨f,g,h1,h2,h w f X X' h3,k w g X X' h4⟩
theorem GA.AP{C:List AV}(h:∀c∈C,∃v,c=.r v):(GA.aJ b C).free:=λw fp X X'⟨m1,A,e,m2,m3,m4⟩=>⟨m1,A,e,m2,m3,λj c hj=>by
 obtain⟨v,v1,v2⟩:=m4 j c hj;obtain⟨u,rfl⟩:=h c (kL hj);exact⟨v,v1,by rw[RI.aS v2];exact RI.r _⟩⟩
theorem Zl(b d:Nat)(a e ep nx:Int):(GA.aJ b (cZ d a e ep nx)).free:=GA.AP (λc hc=>by
 unfold cZ at hc;simp only[Cs,FH,or_false]at hc;rcases hc with h|h|h|h|h|h<;>exact⟨_,h⟩)
theorem ZV{a:Act}{w:World}{o:Oper}{x:Operand}(hop:o.op=.slice 189 x Y' Y' Y')(hx:a.eval x=.pointer (T' ⟨b,0,Y'⟩)):(execOp a.eval o).run a0c w=.ok (.value (.slice (T' ⟨b,0,Y'⟩) 8 8)) w:=by
 have hu:a0c.underlying 189=T' (.array (a0c.arrayLen 189) (a0c.elem 189)):=I';have hl:a0c.arrayLen 189=8:=I';have he:a0c.elem 189=5:=I';obtain⟨i5,j1,j2,j3,j4⟩:=AY;have hs:(sizeOf 5).run a0c w=.ok 1 w:=by rw[run_sizeOf j1,j3]
 have hr:=run_sliceAt_array_all (P:=a0c) w 189 ⟨b,0,Y'⟩ hu;rw[hl,he,hs]at hr;unfold execOp;simp only[hop,hx,FU,cC,hr,cz,cJ,slicedAt];simp[ji]
def lz(n:Int)(k:Nat):List AV:=(aI n k++List.replicate (8-k) 0).map λx=>.r (.int .u8 x)
theorem aa9(n:Int)(k:Nat)(hk:k<8):(lz n k).set k (.r (.int .u8 (n/256^k%256)))=lz n (k+1):=by
 unfold lz;rw[<-List.map_set,yE,dH]
 congr 1
 rw[List.set_append_right _ _ (by rw[cX];omega),cX,sE];obtain⟨m,hm⟩:∃m,8-k=m+1:=⟨7-k,f'⟩;have ab:8-(k+1)=m:=f';rw[hm,ab]
 rfl
theorem aa8(n:Int)(k:Nat)(hk:k<=8):(lz n k).length=8:=by
 unfold lz;rw[fJ,aV,cX,pe];omega
end
end Go.Hl
