/- Lemmas for TopSound and TopBracket. -/
import Derived.Test.YtpgglolpkbepjaaGreatTAP
set_option linter.unusedVariables false
set_option linter.unusedSimpArgs false
namespace Go.Hl
open Option renaming some→T',none→Y'
open Bool renaming true→Z',false→a0a
open Go Go.RowKit Go.Proofs
section
variable {x y:Code}{fn:Func}{f:FuncId}{args:List AV}{l:List Oper}{b base t:Nat}{ι:Type}{ae:cq}
theorem kn{w:World}{o:Obj}(h:w.heap[b]?=T' o):b<w.heap.size:=by
 rcases dQ b w.heap.size with h'|h'
 .exact h'
 .simp[qW h']at h
structure GA where
 rel:World->(Nat->Prop)->(Nat->Prop)->Prop
 loc:∀{w w':World}{fp X X':Nat->Prop},w.heap.size<=w'.heap.size->(∀b,b<w.heap.size->fp b\/¬X b->w'.heap[b]?=w.heap[b]?)->(∀b,b<w.heap.size->X' b->X b)->rel w fp X->rel w' fp X'
 lt:∀{w:World}{fp X:Nat->Prop},rel w fp X->∀b,fp b->b<w.heap.size
def GA.cQ:GA:=⟨λ_ fp _=>∀b,¬fp b,λ_ _ _ h=>h,λh b hb=>absurd hb (h b)⟩
def GA.star(A B:GA):GA where
 rel w fp X:=∃f g:Nat->Prop,(∀b,fp b↔f b\/g b)/\(∀b,f b->¬g b)/\A.rel w f X/\B.rel w g X
 loc:=λhs hw hX⟨f,g,h1,h2,h3,h4⟩=>⟨f,g,h1,h2,A.loc hs (λb hb hh=>hw b hb (hh.imp (λhf=>(h1 b).2 (.inl hf)) id)) hX h3,B.loc hs (λb hb hh=>hw b hb (hh.imp (λhf=>(h1 b).2 (.inr hf)) id)) hX h4⟩
 lt:=λ⟨f,g,h1,_,h3,h4⟩b hb=>((h1 b).1 hb).elim (A.lt h3 b) (B.lt h4 b)
def GA.aJ(b:Nat)(C:List AV):GA where
 rel w fp X:=(∀c,fp c↔c=b)/\∃A e,w.heap[b]?=T' (.cells A e (0,0))/\C.length<=A.size/\∀(j:Nat)(c:AV),C[j]?=T' c->∃v:Value,A[j]?=T' v/\RI w X c v
 loc:=λhs hw hX⟨h1,A,e,h2,h3,h4⟩=>⟨h1,A,e,by rw[hw b (kn h2) (.inl ((h1 b).2 rfl))];exact h2,h3,λj c hj=>by
  obtain⟨v,v1,v2⟩:=h4 j c hj;exact⟨v,v1,v2.cW ⟨hs,λk hk hx=>hw k hk (.inr hx)⟩ hX⟩⟩
 lt:=λ⟨h1,A,e,h2,_⟩c hc=>by
  have:=(h1 c).1 hc;subst this;exact kn h2
def GA.obj(b:Nat)(o:Obj):GA where
 rel w fp _:=(∀c,fp c↔c=b)/\w.heap[b]?=T' o
 loc:=λ_ hw _⟨h1,h2⟩=>⟨h1,by rw[hw b (kn h2) (.inl ((h1 b).2 rfl))];exact h2⟩
 lt:=λ⟨h1,h2⟩c hc=>by
  have:=(h1 c).1 hc;subst this;exact kn h2
def GA.ex{α:Type}(A:α->GA):GA where
 rel w fp X:=∃a,(A a).rel w fp X
 loc:=λhs hw hX⟨a,h⟩=>⟨a,(A a).loc hs hw hX h⟩
 lt:=λ⟨a,h⟩=>(A a).lt h
def GA.le(A B:GA):Prop:=∀w fp X,A.rel w fp X->B.rel w fp X
theorem GA.le.refl(A:GA):A.le A:=λ_ _ _ h=>h
theorem GA.le.trans{A B C:GA}(h:A.le B)(k:B.le C):A.le C:=λw fp X x=>k w fp X (h w fp X x)
theorem GA.comm(A B:GA):(A.star B).le (B.star A):=λ_ _ _⟨f,g,h1,h2,h3,h4⟩=>⟨g,f,λb=>(h1 b).trans Or.comm,λb hb hf=>h2 b hf hb,h4,h3⟩
theorem GA.assoc(A B C:GA):((A.star B).star C).le (A.star (B.star C)):=λ_ _ _⟨f,g,h1,h2,⟨p,q,k1,k2,k3,k4⟩,h4⟩=>
 ⟨p,λb=>q b\/g b,λb=>by rw[h1 b,k1 b,or_assoc],λb hb hh=>hh.elim (k2 b hb) (h2 b ((k1 b).2 (.inl hb))),k3,q,g,λ_=>dr,λb hb=>h2 b ((k1 b).2 (.inr hb)),k4,h4⟩
theorem GA.Ag(A B C:GA):(A.star (B.star C)).le ((A.star B).star C):=λ_ _ _⟨f,g,h1,h2,h3,p,q,k1,k2,k3,k4⟩=>
 ⟨λb=>f b\/p b,q,λb=>by rw[h1 b,k1 b,or_assoc],λb hb hq=>hb.elim (λhf=>h2 b hf ((k1 b).2 (.inr hq))) (λhp=>k2 b hp hq),⟨f,p,λ_=>dr,λb hf hp=>h2 b hf ((k1 b).2 (.inl hp)),h3,k3⟩,k4⟩
theorem GA.mono{A A' B B':GA}(h:A.le A')(k:B.le B'):(A.star B).le (A'.star B'):=λw _ X⟨f,g,h1,h2,h3,h4⟩=>⟨f,g,h1,h2,h w f X h3,k w g X h4⟩
theorem GA.qB(A:GA):A.le (A.star .cQ):=λ_ fp _ h=>⟨fp,λ_=>False,λb=>J',λ_ _ h=>h,h,λ_ h=>h⟩
theorem GA.Dk(A:GA):(A.star .cQ).le A:=λw fp X⟨f,g,h1,_,h3,h4⟩=>by
 have:fp=f:=funext λb=>propext (by rw[h1 b];simp[h4 b])
 rw[this];exact h3
theorem GA.vU(A:GA):A.le (GA.cQ.star A):=(GA.qB A).trans (GA.comm _ _)
theorem GA.AE(A:GA):(GA.cQ.star A).le A:=(GA.comm _ _).trans (GA.Dk A)
theorem GA.swap(A B C:GA):((A.star B).star C).le ((A.star C).star B):=(GA.assoc A B C).trans ((GA.mono (GA.le.refl A) (GA.comm B C)).trans (GA.Ag A C B))
structure lU(fp:Nat->Prop)(w w':World):Prop where
 os:w'.os=w.os
 tape:w'.tape=w.tape
 output:w'.output=w.output
 size:w.heap.size<=w'.heap.size
 block:∀k,k<w.heap.size->¬fp k->w'.heap[k]?=w.heap[k]?
def aA(P:Program)(f:FuncId)(args:List AV)(R:GA)(post:AV->GA->Prop):Prop:=
 ∀(w:World)(X fp:Nat->Prop)(vs:Array Value),(∀b,X b->b<w.heap.size)->(∀b,fp b->X b)->R.rel w fp X->vs.size=args.length->
  (∀(j:Nat)(c:AV),args[j]?=T' c->∃v:Value,vs[j]?=T' v/\RI w X c v)->
  Calls P f vs w λe w'=>∃v r R' fp',e=.returned v/\post r R'/\R'.rel w' fp' (λb=>X b\/fp' b)/\RI w' (λb=>X b\/fp' b) r v/\(∀b,b<w.heap.size->fp' b->fp b)/\lU fp w w'
theorem aA.le{P:Program}{R R2:GA}{post af:AV->GA->Prop}(h:aA P f args R post)(hR:R2.le R)(hp:∀r R',post r R'->∃ab,R'.le ab/\af r ab):aA P f args R2 af:=by
 intro w X fp vs hX ao hr hl ha;refine(h w X fp vs hX ao (hR w fp X hr) hl ha).mono λe w'⟨v,r,R',fp',h1,h2,h3,h4,h5,h6⟩=>?_
 obtain⟨ab,k1,k2⟩:=hp r R' h2;exact⟨v,r,ab,fp',h1,k2,k1 _ _ _ h3,h4,h5,h6⟩
theorem aA.frame{P:Program}{R:GA}{post:AV->GA->Prop}(h:aA P f args R post)(F:GA):aA P f args (R.star F) (λr R'=>∃R1,post r R1/\R'=R1.star F):=by
 intro w X fp vs hX ab ⟨f1,g1,h1,h2,h3,h4⟩ hl ha;refine(h w X f1 vs hX (λb hb=>ab b ((h1 b).2 (.inl hb))) h3 hl ha).mono λe w'⟨v,r,R',fp',k1,k2,k3,k4,k5,k6⟩=>?_
 have ao:=F.lt h4;have aw:∀b,b<w.heap.size->X b\/(fp' b\/g1 b)->X b:=λb hb hx=>by
  rcases hx with hx|hx|hx
  .exact hx
  .exact ab b ((h1 b).2 (.inl (k5 b hb hx)))
  .exact ab b ((h1 b).2 (.inr hx))
 have hg:F.rel w' g1 (λb=>X b\/(fp' b\/g1 b)):=F.loc k6.size (λb hb hh=>k6.block b hb (λhf=>hh.elim (λaf=>h2 b hf af) (λhx=>hx (ab b ((h1 b).2 (.inl hf)))))) aw h4;have k3:R'.rel w' fp' (λb=>X b\/(fp' b\/g1 b)):=R'.loc (aM _) (λ_ _ _=>rfl) (λb _ hx=>by
  rcases hx with hx|hx|hx
  .exact .inl hx
  .exact .inr hx
  .exact .inl (ab b ((h1 b).2 (.inr hx)))) k3
 refine⟨v,r,R'.star F,λb=>fp' b\/g1 b,k1,⟨R',k2,rfl⟩,⟨fp',g1,λ_=>dr,λb hb af=>h2 b (k5 b (ao b af) hb) af,k3,hg⟩,?_,λb ax hb=>(h1 b).2 (hb.imp (k5 b ax) id),⟨k6.os,k6.tape,k6.output,k6.size,λb hb hn=>k6.block b hb (λhf=>hn ((h1 b).2 (.inl hf)))⟩⟩;refine k4.cW (dZ.refl _ _) (λb _ hb=>?_);rcases hb with hb|hb|hb
 .exact .inl hb
 .exact .inr hb
 .exact .inl (ab b ((h1 b).2 (.inr hb)))
theorem aA.of{P:Program}{c:Code}{r:AV}(hf:P.funcs[f]?=T' fn)(hb:fn.body=T' c)(af:(fn.name== "runtime.NumGoroutine")=a0a)(h:dh P f args r)(R:GA):aA P f args R (λr' R'=>r'=r/\R'=R):=by
 intro w X fp vs hX ab hr hl ha;rcases h w X vs hX hl ha with⟨v,h1,h2⟩|⟨h1,h2⟩
 .rw[pR hf hb af]at h1;cases h1
 .refine h2.mono λe w'⟨v,k1,k2,k3⟩=>?_
  refine⟨v,r,R,fp,k1,⟨rfl,rfl⟩,R.loc k3.size (λb hb _=>k3.block b hb) (λb _ hb=>hb.elim id (ab b)) hr,k2.cW (dZ.refl _ _) (λb _ hb=>hb.elim id (ab b)),λ_ _ h=>h,⟨k3.os,k3.tape,k3.output,k3.size,λb hb _=>k3.block b hb⟩⟩
section
variable {P:Program}{T:aL}{S:FuncId->Option Sp}{κ:Ctx}{β:Nat->Option (Nat×Nat)}{F:Nat->AV}{G G':Nat->Option cq}{a:Act}{w w':World}{n:Nat}
theorem av.mM(h:av κ β F G a w)(af:κ.mu=Y'){id:Nat}(hG:G id=T' ae)(ab:β id=T' (b,base)):¬κ.tq b/\id≠κ.nt/\b<w.heap.size:=by
 refine⟨?_,?_,(h.hp id ae hG).lt ab⟩
 all_goals
  rcases h.hp id ae hG with h1|⟨b',ao,C,e,h1,h2,h3,h4,h5⟩
  .rw[ab]at h1;cases h1.1
  .rw[ab]at h1
   simp only[aC,db]at h1;obtain⟨rfl,rfl⟩:=h1;rcases h5 with h5|⟨lo,hi,h5,_⟩
   .first|exact h5.1|exact h5.2
   .rw[af]at h5;cases h5
theorem av.kq(h:av κ β F G a w)(ab:κ.mu=Y'){id:Nat}(hG:G id=T' ae)(af:β id=T' (b,base)):¬κ.X0 b:=
 λhx=>(h.mM ab hG af).1 (h.x0 b hx)
theorem av.wZ(h:av κ β F G a w)(ab:κ.mu=Y'){X':Nat->Prop}(hG:∀i,G' i=G i\/G' i=Y')(hk:∀b,b<w.heap.size->¬κ.X0 b->w'.heap[b]?=w.heap[b]?)(a0:w.heap.size<=w'.heap.size)
 (hX:∀b,X' b->b<w'.heap.size) (aw:∀b,b<w.heap.size->X' b->XG κ β G b) (ax:∀id base ae b,G' id=T' ae->β id=T' (b,base)->¬X' b):
 av ⟨κ.nt,w',X',Y',λb=>∃id base ae,G' id=T' ae/\β id=T' (b,base),κ.df,κ.bC⟩ β F G' a w':=by
 have hs:∀i b,G' i=T' b->G i=T' b:=λi b hi=>by
  rcases hG i with e|e
  .rw[<-e];exact hi
  .rw[e]at hi;cases hi
 have ao:dZ (XG κ β G) w w':=⟨a0,λb hb hx=>hk b hb (λh0=>hx (.inl h0))⟩;have af:∀b,b<w.heap.size->XG ⟨κ.nt,w',X',Y',λb=>∃id base ae,G' id=T' ae/\β id=T' (b,base),κ.df,κ.bC⟩ β G' b->XG κ β G b:=by
  intro b hb hx;rcases hx with hx|⟨i,c,base,g1,g2⟩
  .exact aw b hb hx
  .exact .inr ⟨i,c,base,hs i _ g1,g2⟩
 refine⟨h.sz,λt=>?_,h.gp,λi ae hi=>?_,λi j b c x y ay hx hy=>h.sep i j b c x y ay (hs i x hx) (hs j y hy),⟨rfl,rfl,rfl,aM _,λ_ _ _=>rfl,λ_ _ _ hm=>(by cases hm)⟩,λb hb=>⟨hX b hb,λ⟨id,base,ae,q1,q2⟩=>absurd hb (ax id base ae b q1 q2)⟩,h.bC⟩
 .have ht:=h.rel t
  generalize F t=v at*;cases v with
  |os i s off len=>
   obtain⟨ad,cap,h1,h2,h3⟩:=ht;refine⟨ad,cap,h1,h2,λae hb=>?_⟩;rcases h3 ae (hs i ae hb)with h3|⟨b,base,C,e,q1,q2,q3,q4⟩
   .exact .inl h3
   .have q:=h.mM ab (hs i ae hb) q1
    exact .inr ⟨b,base,C,e,q1,q2,by rw[hk b q.2.2 (h.kq ab (hs i ae hb) q1)];exact q3,q4⟩
  |ptr i off=>exact λae hb=>ht ae (hs i ae hb)
  |_=>exact RI.cW ao af ht
 .rcases h.hp i ae (hs i ae hi)with h6|⟨b,base,C,e,h1,h2,h3,h4,h5⟩
  .exact .inl h6
  .have q:=h.mM ab (hs i ae hi) h1
   refine .inr ⟨b,base,C,e,h1,by rw[hk b q.2.2 (h.kq ab (hs i ae hi) h1)];exact h2,h3,λj c hj=>?_,.inl ⟨λho=>?_,q.2.1⟩⟩
   .obtain⟨v,hv,hr⟩:=h4 j c hj
    exact⟨v,hv,hr.cW ao af⟩
   .obtain⟨lo,a1,hm⟩:=ho.2 ⟨i,base,ae,hi,h1⟩
    cases hm
structure dK where
 W:World
 X:Nat->Prop
 fp:Nat->Prop
 sub:∀b,fp b->X b
 lt:∀b,X b->b<W.heap.size
 D:List Deferred
structure cK(en:dK)(pn:Nat->Option Nat)(R:GA)(κ:Ctx):Prop where
 mu:κ.mu=Y'
 df:κ.df=en.D
 bC:κ.bC=pn
 fp:∃fp,R.rel κ.w0 fp (λb=>κ.X0 b\/κ.ow b)/\(∀b,fp b->κ.X0 b)/\∀b,b<en.W.heap.size->fp b->en.fp b
 nJ:∀b,en.X b->κ.X0 b\/∃id,pn id=T' b
 oS:∀b,κ.X0 b->b<en.W.heap.size->en.X b
 ow:∀b,b<en.W.heap.size->κ.ow b->en.fp b
 old:∀b,b<en.W.heap.size->¬en.fp b->κ.w0.heap[b]?=en.W.heap[b]?
 os:κ.w0.os=en.W.os
 tape:κ.w0.tape=en.W.tape
 output:κ.w0.output=en.W.output
 size:en.W.heap.size<=κ.w0.heap.size
variable {en:dK}{pn:Nat->Option Nat}{R:GA}{σ:St}
theorem cK.le{R':GA}(h:cK en pn R κ)(k:R.le R'):cK en pn R' κ:=by
 obtain⟨fp,h1,h2,h3⟩:=h.fp;exact⟨h.mu,h.df,h.bC,⟨fp,k _ _ _ h1,h2,h3⟩,h.nJ,h.oS,h.ow,h.old,h.os,h.tape,h.output,h.size⟩
theorem xp.same(h:xp κ w)(ab:κ.mu=Y')(hb:κ.tq b):w.heap[b]?=κ.w0.heap[b]?:=h.old b hb (λlo hi e=>by rw[ab]at e;cases e)
theorem cK.now(h:cK en pn R κ)(hC:av κ β F G a w):∃fp,R.rel w fp (XG κ β G)/\(∀b,fp b->κ.X0 b)/\(∀b,b<en.W.heap.size->fp b->en.fp b)/\∀b,fp b->b<w.heap.size:=by
 obtain⟨fp,h1,h2,h3⟩:=h.fp;have h4:R.rel w fp (XG κ β G):=R.loc hC.aQ.size (λb hb hh=>by
  rcases hh with hh|hh
  .exact hC.aQ.same h.mu (hC.x0 b (h2 b hh))
  .exact hC.aQ.same h.mu ⟨hb,λho=>absurd (.inr ho) hh⟩) (λb hb hx=>by
  rcases hx with hx|⟨id,c,base,q1,q2⟩
  .exact .inl hx
  .exact .inr (lr λab=>(hC.mM h.mu q1 q2).1 ⟨hb,λho=>absurd ho ab⟩)) h1
 exact⟨fp,h4,h2,h3,R.lt h4⟩
def cN(G:Nat->Option cq):Nat->Option cq:=λi=>match G i with
 |some ⟨Z',c⟩=>T' ⟨Z',c⟩
 |_=>Y'
theorem iR{G:Nat->Option cq}{i:Nat}{b:cq}(h:cN G i=T' b):G i=T' b/\∃c,b=⟨Z',c⟩:=by
 unfold cN at h;split at h
 .rename_i c e
  cases h;exact⟨e,c,rfl⟩
 .cases h
theorem nD(G:Nat->Option cq)(i:Nat):cN G i=G i\/cN G i=none:=by
 unfold cN;split
 .rename_i c e;exact .inl e.symm
 .exact .inr rfl
def qG:List (Nat×cq)->List (Nat×cq)
 |[]=>[]
 |(i,⟨Z',c⟩)::l=>(i,⟨Z',c⟩)::qG l
 |(i,⟨a0a,_⟩)::l=>del (qG l) i
def St.live(σ:St):St:=⟨σ.fr,qG σ.hp⟩
theorem yJ:∀(l:List (Nat×cq))(i:Nat),lk (qG l) i=cN (lk l) i
 |[],_=>rfl
 |(k,⟨Z',c⟩)::l,i=>by
  have ih:=yJ l i;simp only[qG,lk,cN]at ih|-
  by_cases e:k=i
  .simp[e]
  .simp only[aq e];exact ih
 |(k,⟨a0a,c⟩)::l,i=>by
  have ih:=yJ l i;simp only[qG,nC,cN,lk]at ih|-
  by_cases e:k=i
  .simp[e]
  .simp only[aq e];exact ih
theorem St.iD(σ:St):σ.live.get=σ.get:=rfl
theorem St.gm(σ:St):σ.live.ae=cN σ.ae:=by
 funext i
 exact yJ σ.hp i
attribute [push_cast] St.live qG
theorem cK.call(h:cK en pn R κ)(hC:av κ β F G a w){R':GA}{fp fp':Nat->Prop}(h1:∀b,fp b->κ.X0 b)(h2:∀b,b<en.W.heap.size->fp b->en.fp b)(k3:R'.rel w' fp' (λb=>XG κ β G b\/fp' b))(k5:∀b,b<w.heap.size->fp' b->fp b)(k6:lU fp w w'):
 ∃ao,ao.nt=κ.nt/\cK en pn R' ao/\av ao β F (cN G) a w'/\(∀b,XG ao β (cN G) b->XG κ β G b\/fp' b):=by
 have ab:=R'.lt k3;have af:en.W.heap.size<=w.heap.size:=fC h.size hC.aQ.size;have ay:∀id base ae b,cN G id=T' ae->β id=T' (b,base)->¬(κ.X0 b\/fp' b):=by
  intro id base ae b q1 q2 hx;have q1:=(iR q1).1;have q:=hC.mM h.mu q1 q2;rcases hx with hx|hx
  .exact hC.kq h.mu q1 q2 hx
  .exact hC.kq h.mu q1 q2 (h1 b (k5 b q.2.2 hx))
 have aw:=hC.wZ (G':=cN G) (w':=w') (X':=λb=>κ.X0 b\/fp' b) h.mu (nD G) (λb hb hx=>k6.block b hb (λhf=>hx (h1 b hf))) k6.size
  (λb hb=>hb.elim (λh0=>da (da (hC.x0 b h0).1 hC.aQ.size) k6.size) (ab b)) (λb hb hx=>.inl (hx.elim id (λhf=>h1 b (k5 b hb hf)))) ay
 have ax:R'.rel w' fp' (λb=>(κ.X0 b\/fp' b)\/∃id base ae,cN G id=T' ae/\β id=T' (b,base)):=R'.loc (aM _) (λ_ _ _=>rfl) (λb _ hx=>by
  rcases hx with(hx|hx)|⟨id,base,ae,q1,q2⟩
  .exact .inl (.inl hx)
  .exact .inr hx
  .obtain⟨q1,c,rfl⟩:=iR q1
   exact .inl (.inr ⟨id,c,base,q1,q2⟩)) k3
 refine⟨⟨κ.nt,w',λb=>κ.X0 b\/fp' b,Y',λb=>∃id base ae,cN G id=T' ae/\β id=T' (b,base),κ.df,κ.bC⟩,rfl,⟨rfl,h.df,h.bC,⟨fp',ax,λb hb=>.inr hb,λb hb hf=>h2 b hb (k5 b (da hb af) hf)⟩,λb hb=>(h.nJ b hb).imp .inl id,λb hb ab=>?_,λb hb⟨id,base,ae,q1,q2⟩=>?_,λb hb hf=>?_,?_,?_,?_,fC af k6.size⟩,aw,λb hx=>?_⟩
 .rcases hb with hb|hb
  .exact h.oS b hb ab
  .exact h.oS b (h1 b (k5 b (da ab af) hb)) ab
 .have q:=hC.mM h.mu (iR q1).1 q2
  refine h.ow b hb (lr λhn=>q.1 ⟨da hb h.size,λho=>absurd ho hn⟩)
 .have e1:w'.heap[b]?=w.heap[b]?:=k6.block b (da hb af) (λa0=>hf (h2 b hb a0))
  have e2:w.heap[b]?=κ.w0.heap[b]?:=hC.aQ.same h.mu ⟨da hb h.size,λho=>absurd (h.ow b hb ho) hf⟩;show w'.heap[b]?=_;rw[e1,e2,h.old b hb hf]
 .show w'.os=_
  rw[k6.os,hC.aQ.os,h.os]
 .show w'.tape=_
  rw[k6.tape,hC.aQ.tape,h.tape]
 .show w'.output=_
  rw[k6.output,hC.aQ.output,h.output]
 .rcases hx with(hx|hx)|⟨id,c,base,q1,q2⟩
  .exact .inl (.inl hx)
  .exact .inr hx
  .exact .inl (.inr ⟨id,c,base,(iR q1).1,q2⟩)
def aa(P:Program)(n:Nat)(en:dK)(pn:Nat->Option Nat)(c:Code)(Q:Exit->St->GA->Prop)(σ:St)(R:GA):Prop:=
 ∀(κ:Ctx)(β:Nat->Option (Nat×Nat))(a:Act)(w:World),κ.nt=n->cK en pn R κ->av κ β σ.get σ.ae a w->
  c.wp P (λe a' w'=>∃ab σ' af R',Q e σ' R'/\ab.nt=n/\cK en pn R' ab/\av ab af σ'.get σ'.ae a' w') a w
def GL(P:Program)(n:Nat)(en:dK)(pn:Nat->Option Nat)(ops:Array Oper)(os:List Oper)(K:St->GA->Prop)(σ:St)(R:GA):Prop:=
 ∀(κ:Ctx)(β:Nat->Option (Nat×Nat))(a:Act)(w:World)(Q:Exit->Act->World->Prop),κ.nt=n->cK en pn R κ->av κ β σ.get σ.ae a w->
  (∀ab af σ' R' a' w',K σ' R'->ab.nt=n->cK en pn R' ab->av ab af σ'.get σ'.ae a' w'->Q .normal a' w')->wpList P ops Q os a w
variable {c:Code}{Q:Exit->St->GA->Prop}{ops:Array Oper}{K:St->GA->Prop}
theorem aa.of(h:ai P T n c (λe σ'=>Q e σ' R) σ):aa P n en pn c Q σ R:=λκ β a w hn hg hC=>
 wp_mono (h κ β a w hn (λ_=>hg.mu) hC) λ_ _ _⟨σ',β',h1,h2⟩=>⟨κ,σ',β',R,h1,hn,hg,h2⟩
theorem aa.mono{Q':Exit->St->GA->Prop}(h:aa P n en pn c Q σ R)(hq:∀e σ R,Q e σ R->Q' e σ R):aa P n en pn c Q' σ R:=λκ β a w hn hg hC=>
 wp_mono (h κ β a w hn hg hC) λe _ _⟨κ',σ',β',R',h1,h2⟩=>⟨κ',σ',β',R',hq e σ' R' h1,h2⟩
theorem aa.dS{σ':St}{R':GA}(hl:Le σ σ')(hR:R.le R')(h:aa P n en pn c Q σ' R'):aa P n en pn c Q σ R:=λκ β a w hn hg hC=>by
 obtain⟨ab,h'⟩:=hl κ β a w hC;exact h κ ab a w hn (hg.le hR) h'
theorem aa.skip(h:Q .normal σ R):aa P n en pn .skip Q σ R:=λκ β _ _ hn hg hC=>wp_skip ⟨κ,σ,β,R,h,hn,hg,hC⟩
theorem aa.exit{id:Nat}(h:Q (.exit id) σ R):aa P n en pn (.exit id) Q σ R:=λκ β _ _ hn hg hC=>wp_exit ⟨κ,σ,β,R,h,hn,hg,hC⟩
theorem aa.ret(h:Q .ret σ R):aa P n en pn .ret Q σ R:=λκ β _ _ hn hg hC=>wp_ret ⟨κ,σ,β,R,h,hn,hg,hC⟩
def pZ(next:St->GA->Prop)(Q:Exit->St->GA->Prop):Exit->St->GA->Prop
 |.normal,σ,R=>next σ R
 |e,σ,R=>Q e σ R
def Cd(id:Nat)(Q:Exit->St->GA->Prop):Exit->St->GA->Prop
 |.exit id',σ,R=>if id'=id then Q .normal σ R else Q (.exit id') σ R
 |e,σ,R=>Q e σ R
theorem aa.seq(h:aa P n en pn x (pZ (aa P n en pn y Q) Q) σ R):aa P n en pn (.seq x y) Q σ R:=by
 intro κ β a w hn hg hC;refine wp_seq (wp_mono (h κ β a w hn hg hC) λe a' w'⟨κ',σ',β',R',h1,h2,h3,h4⟩=>?_);cases e with
 |normal=>exact h1 κ' β' a' w' h2 h3 h4
 |_=>exact⟨κ',σ',β',R',h1,h2,h3,h4⟩
theorem aa.block{id:Nat}(h:aa P n en pn c (Cd id Q) σ R):aa P n en pn (.block id c) Q σ R:=by
 intro κ β a w hn hg hC;refine wp_block (wp_mono (h κ β a w hn hg hC) λe a' w'⟨κ',σ',β',R',h1,h2,h3,h4⟩=>?_);cases e with
 |exit id'=>
  simp only[Cd,Exit.inBlock]at h1|-;split
  .rename_i e;rw[au e]at h1;exact⟨κ',σ',β',R',h1,h2,h3,h4⟩
  .rename_i e;rw[aq e]at h1;exact⟨κ',σ',β',R',h1,h2,h3,h4⟩
 |_=>exact⟨κ',σ',β',R',h1,h2,h3,h4⟩
theorem aa.eo(hb:σ.get t=.r (.bool Z'))(h:aa P n en pn x Q σ R):aa P n en pn (.cond (.tmp t) x y) Q σ R:=by
 intro κ β a w hn hg hC;have hr:=hC.rel t;rw[hb]at hr;exact wp_cond_split (t:=Z') (RI.aS hr) (λ_=>h κ β a w hn hg hC) (λh=>by cases h)
theorem aa.dz(hb:σ.get t=.r (.bool a0a))(h:aa P n en pn y Q σ R):aa P n en pn (.cond (.tmp t) x y) Q σ R:=by
 intro κ β a w hn hg hC;have hr:=hC.rel t;rw[hb]at hr;exact wp_cond_split (t:=a0a) (RI.aS hr) (λh=>by cases h) (λ_=>h κ β a w hn hg hC)
theorem aa.loop(st:ι->St×GA)(μ:ι->Nat)(ab:ι)(ax:Le σ (st ab).1)(hR:R.le (st ab).2)(round:∀i,aa P n en pn c (pZ (λσ' R'=>∃j,Le σ' (st j).1/\R'.le (st j).2/\μ j<μ i) Q) (st i).1 (st i).2):aa P n en pn (.loop c) Q σ R:=by
 intro κ β a w hn hg hC;obtain⟨a0,ao⟩:=ax κ β a w hC;refine JF (λi a w=>∃κ β,κ.nt=n/\cK en pn (st i).2 κ/\av κ β (st i).1.get (st i).1.ae a w) μ ab ⟨κ,a0,hn,hg.le hR,ao⟩ (λi a w⟨κ,β,hn,hg,hC⟩=>?_);refine wp_mono (round i κ β a w hn hg hC) λe a' w'⟨κ',σ',β',R',h1,h2,h3,h4⟩=>?_
 cases e with
 |normal=>
  obtain⟨j,hl,hr,aw⟩:=h1;obtain⟨ay,h5⟩:=hl κ' β' a' w' h4;exact⟨j,⟨κ',ay,h2,h3.le hr,h5⟩,aw⟩
 |_=>exact⟨κ',σ',β',R',h1,h2,h3,h4⟩
theorem aa.iG(J:ι->St×GA)(h1:aa P n en pn x (pZ (λσ R=>∃i,Le σ (J i).1/\R.le (J i).2) Q) σ R)(h2:∀i,aa P n en pn y Q (J i).1 (J i).2):aa P n en pn (.seq x y) Q σ R:=
 .seq (h1.mono λe σ' R' h=>by
  cases e with
  |normal=>obtain⟨i,hi,hr⟩:=h;exact(h2 i).dS hi hr
  |_=>exact h)
theorem aa.region{id:Nat}(h:GL P n en pn l.toArray l (λσ R=>Q .normal σ R) σ R):aa P n en pn (.region id l.toArray a0a) Q σ R:=by
 intro κ β a w hn hg hC;refine wp_region_list ?_;have:=h κ β a w (λe a' w'=>∃ab σ' af R',Q e σ' R'/\ab.nt=n/\cK en pn R' ab/\av ab af σ'.get σ'.ae a' w') hn hg hC (λab af σ' R' a' w' h1 h2 h3 h4=>⟨ab,σ',af,R',h1,h2,h3,h4⟩);simpa using this
theorem aa.bG{id:Nat}(h:GL P n en pn l.toArray l (λσ R=>aa P n en pn y Q σ R) σ R):aa P n en pn (.seq (.region id l.toArray a0a) y) Q σ R:=.seq (.region h)
theorem GL.nil(h:K σ R):GL P n en pn ops [] K σ R:=λκ β a w Q hn hg hC hQ=>wpList_nil (hQ κ β σ R a w h hn hg hC)
theorem GL.gB(k:Nat){l1 l2:List Oper}(hE:Env P T S)(h1:l.take k=l1)(h2:l.drop k=l2)(h:et T S ops l1 (λσ'=>GL P n en pn ops l2 K σ' R) σ)(hd:iz l1.toArray n=true:=by kernel_rfl):GL P n en pn ops l K σ R:=by
 intro κ β a w Q hn hg hC hQ;have e:l=l1++l2:=by rw[<-h1,<-h2,xD]
 rw[e];exact agC hE hg.mu hC (by rw[hn];exact hd) h (λσ' af a' w' hk ab=>hk κ af a' w' Q hn hg ab hQ)
theorem GL.call{o:Oper}{rest:List Oper}{c:Code}{args:Array Operand}{ts:Array TypeId}{args':List AV}{post:AV->GA->Prop}(T:aL)(hG:aA P f args' R post)(hop:o.op=.call ⟨.value (.func f),args,ts⟩)(ab:o.guard=Y')(hf:P.funcs[f]?=T' fn)(hb:fn.body=T' c)(ao:(fn.name== "runtime.NumGoroutine")=a0a)(hargs:cS T σ.get args.toList ts.toList=args')(af:args'.all AV.im=Z')(hd:∀t,o.dst=T' t->t<n)(k:∀r R',post r R'->r.im=Z'/\GL P n en pn ops rest K (σ.live.put o.dst r) R'):GL P n en pn ops (o::rest) K σ R:=by
 intro κ β a w Q hn hg hC hQ;subst hargs;obtain⟨fp,g1,g2,g3,g4⟩:=hg.now hC;obtain⟨q1,q2⟩:=um (T:=T) hC args.toList ts.toList af;have hlen:∀(xs:List Operand)(ts:List TypeId),(cS T σ.get xs ts).length=xs.length:=by
  intro xs
  induction xs with
  |nil=>intro ts;cases ts<;>rfl
  |cons x xs ih=>intro ts;cases ts<;>simp[cS,ih]
 refine Sj hop ab hf hb ao ?_;refine(hG w (XG κ β σ.ae) fp (args.map a.eval) (λb hb=>hC.qV hb) (λb hb=>.inl (g2 b hb)) g1 (by simp[hlen]) (λj c hj=>?_)).mono λe w'⟨v,r,R',fp',k1,k2,k3,k4,k5,k6⟩=>?_
 .obtain⟨v,v1,v2⟩:=q2 j c hj
  exact⟨v,by simpa using v1,v2⟩
 .obtain⟨aw,h1,h2,h3,h4⟩:=hg.call hC g2 g3 k3 k5 k6
  obtain⟨m1,m2⟩:=k r R' k2;refine⟨v,k1,m2 aw β _ w' Q (h1.trans hn) h2 ?_ hQ⟩;rw[St.fh,St.eQ,St.iD,St.gm];refine h3.put (λt ht=>by rw[h1,hn];exact hd t ht) (RV.of m1 (k4.cW (dZ.refl _ _) (λb _ hb=>h4 b hb)))
end
end
def wY(id b:Nat):List (Nat×AV)->List (Nat×AV)
 |[]=>[]
 |(t,.ptr i off)::l=>(if i=id then(t,.r (.pointer (T' ⟨b,off,Y'⟩)))else(t,.ptr i off))::wY id b l
 |(t,v)::l=>(t,if v.refs id=Z' then .any else v)::wY id b l
def rN(id b:Nat):AV->AV
 |.ptr i off=>if i=id then .r (.pointer (T' ⟨b,off,Y'⟩))else .ptr i off
 |v=>if v.refs id=Z' then .any else v
theorem OB(id b:Nat):∀(l:List (Nat×AV))(t:Nat),lk (wY id b l) t=(lk l t).map (rN id b)
 |[],_=>rfl
 |(k,v)::l,t=>by
  have ih:=OB id b l t;cases v with
  |ptr i off=>
   simp only[wY]
   by_cases e:i=id
   .simp only[au e,lk]
    split
    .simp[rN,e]
    .exact ih
   .simp only[aq e,lk]
    split
    .simp[rN,e]
    .exact ih
  |_=>
   simp only[wY,lk];split
   .simp[rN]
   .exact ih
def St.close(σ:St)(id b:Nat):St:=⟨wY id b σ.fr,del (qG σ.hp) id⟩
attribute [push_cast] wY St.close AV.refs
def uZ(C:List Value):List AV:=C.map .r
theorem Yt(σ:St)(id b t:Nat):(σ.close id b).get t=rN id b (σ.get t):=by
 simp only[St.close,St.get,OB];cases lk σ.fr t with
 |none=>simp[rN,AV.refs]
 |some v=>rfl
theorem Gq(σ:St)(id b:Nat):(σ.close id b).ae=aD (cN σ.ae) id none:=by
 funext u
 simp only[St.close,St.ae,nC,aD,yJ]
 rfl
section
variable {P:Program}{T:aL}{S:FuncId->Option Sp}{κ:Ctx}{β:Nat->Option (Nat×Nat)}{F:Nat->AV}{G G':Nat->Option cq}{a:Act}{w w':World}{n:Nat}
variable {en:dK}{pn:Nat->Option Nat}{R R':GA}{σ σ':St}
def eZ(n:Nat)(en:dK)(pn:Nat->Option Nat)(σ:St)(R:GA)(σ':St)(R':GA):Prop:=
 ∀(κ:Ctx)(β:Nat->Option (Nat×Nat))(a:Act)(w:World),κ.nt=n->cK en pn R κ->av κ β σ.get σ.ae a w->∃ab af,ab.nt=n/\cK en pn R' ab/\av ab af σ'.get σ'.ae a w
theorem eZ.of(h:Le σ σ')(k:R.le R'):eZ n en pn σ R σ' R':=λκ β a w hn hg hC=>by
 obtain⟨ab,h'⟩:=h κ β a w hC;exact⟨κ,ab,hn,hg.le k,h'⟩
theorem aa.ja{c:Code}{Q:Exit->St->GA->Prop}(hl:eZ n en pn σ R σ' R')(h:aa P n en pn c Q σ' R'):aa P n en pn c Q σ R:=λκ β a w hn hg hC=>by
 obtain⟨af,ab,h1,h2,h3⟩:=hl κ β a w hn hg hC;exact h af ab a w h1 h2 h3
theorem GL.ja{ops:Array Oper}{os:List Oper}{K:St->GA->Prop}(hl:eZ n en pn σ R σ' R')(h:GL P n en pn ops os K σ' R'):GL P n en pn ops os K σ R:=λκ β a w Q hn hg hC hQ=>by
 obtain⟨af,ab,h1,h2,h3⟩:=hl κ β a w hn hg hC;exact h af ab a w Q h1 h2 h3 hQ
theorem abw{C:List Value}{j:Nat}{c:AV}(h:(uZ C)[j]?=T' c):∃v,C[j]?=T' v/\c=.r v:=by
 simp only[uZ,gv]at h;cases hj:C[j]? with
 |none=>rw[hj]at h;cases h
 |some v=>rw[hj]at h;cases h;exact⟨v,rfl,rfl⟩
theorem eZ.close{id b:Nat}{C:List AV}(hp:pn id=T' b)(hb:σ.ae id=T' ⟨Z',.c C⟩):eZ n en pn σ R (σ.close id b) (R.star (.aJ b C)):=by
 intro κ β a w hn hg hC;have ab:β id=T' (b,0):=(hC.bC id b (by rw[hg.bC];exact hp)).2.2;have ao:=hC.mM hg.mu hb ab;have a4:=hC.kq hg.mu hb ab;obtain⟨fp,g1,g2,g3,g4⟩:=hg.now hC;have a5:en.W.heap.size<=w.heap.size:=fC hg.size hC.aQ.size;have a1:∀i,aD (cN σ.ae) id Y' i=σ.ae i\/aD (cN σ.ae) id Y' i=none:=λi=>by
  by_cases e:id=i
  .subst e;exact .inr (eu _ _ _)
  .rw[bS _ _ e];exact nD _ _
 have aw:∀i ae,aD (cN σ.ae) id Y' i=T' ae->id≠i/\σ.ae i=T' ae/\∃c,ae=⟨Z',c⟩:=λi ae q1=>by
  have hi:id≠i:=by intro e;subst e;rw[eu]at q1;cases q1
  rw[bS _ _ hi]at q1;obtain⟨q2,c,q3⟩:=iR q1;exact⟨hi,q2,c,q3⟩
 have a3:∀c,(κ.X0 c\/c=b)->c<w.heap.size:=λc hc=>hc.elim (λh0=>da (hC.x0 c h0).1 hC.aQ.size) (λe=>e▸ao.2.2)
 have h1:∀t,RV κ β σ.ae w (rN id b (σ.get t)) (a.tmps.getD t undef):=by
  intro t;have ht:=hC.rel t;generalize σ.get t=v at*;cases v with
  |ptr i off=>
   simp only[rN];split
   .rename_i e
    subst e;obtain⟨b',base,q1,q2⟩:=ht _ hb;rw[ab]at q1;simp only[aC,db]at q1;obtain⟨rfl,rfl⟩:=q1;rw[q2,du];exact RI.r _
   .exact ht
  |os i s off len=>
   simp only[rN];split
   .exact RI.any _
   .exact ht
  |_=>simpa[rN,AV.refs]using ht
 have a0:av κ β (σ.close id b).get σ.ae a w:=⟨hC.sz,λt=>by rw[Yt];exact h1 t,hC.gp,hC.hp,hC.sep,hC.aQ,hC.x0,hC.bC⟩;have ax:=a0.wZ (G':=aD (cN σ.ae) id Y') (w':=w) (X':=λc=>κ.X0 c\/c=b) hg.mu a1 (λ_ _ _=>rfl) (aM _) a3
  (λc hc hx=>hx.elim .inl (λe=>by subst e;exact .inr ⟨id,_,0,hb,ab⟩)) (λi base ae c q1 q2 hx=>by
   obtain⟨hi,q1,_⟩:=aw i ae q1;rcases hx with hx|hx
   .exact hC.kq hg.mu q1 q2 hx
   .subst hx;exact hC.sep i id c base ae _ (λe=>hi e.symm) q1 hb q2 0 ab)
 rw[<-Gq]at ax;have ay:∀c,((κ.X0 c\/c=b)\/∃i base ae,(σ.close id b).ae i=T' ae/\β i=T' (c,base))->XG κ β σ.ae c:=by
  intro c hx;rcases hx with(hx|hx)|⟨i,base,ae,q1,q2⟩
  .exact .inl hx
  .subst hx;exact .inr ⟨id,_,0,hb,ab⟩
  .rw[Gq]at q1
   obtain⟨_,q1,con,rfl⟩:=aw i ae q1;exact .inr ⟨i,con,base,q1,q2⟩
 refine⟨⟨κ.nt,w,λc=>κ.X0 c\/c=b,Y',λc=>∃i base ae,(σ.close id b).ae i=T' ae/\β i=T' (c,base),κ.df,κ.bC⟩,β,hn,⟨rfl,hg.df,hg.bC,⟨λc=>fp c\/c=b,⟨fp,λc=>c=b,λ_=>dr,λc hc e=>a4 (e▸g2 c hc),R.loc (aM _) (λ_ _ _=>rfl) (λc _ hx=>ay c hx) g1,λ_=>dr,?_⟩,λc hc=>hc.imp (g2 c) (λe=>e),λc hc hx=>?_⟩,λc hc=>(hg.nJ c hc).imp .inl (λe=>e),λc hc hl=>?_,λc hc⟨i,base,ae,q1,q2⟩=>?_,λc hc hf=>?_,hC.aQ.os.trans hg.os,hC.aQ.tape.trans hg.tape,hC.aQ.output.trans hg.output,a5⟩,ax⟩
 .rcases hC.hp id _ hb with h3|⟨b2,a6,C2,e,h3,h4,h5,h6,h7⟩
  .rw[ab]at h3;cases h3.1
  .rw[ab]at h3
   simp only[aC,db]at h3;obtain⟨rfl,rfl⟩:=h3;refine⟨C2,e,h4,by simpa[aN.len]using h5,λj c hj=>?_⟩;obtain⟨v,v1,v2⟩:=h6 j c (by simpa[aN.val]using hj);rw[du]at v1;exact⟨v,v1,v2.cW (dZ.refl _ _) (λc _ hx=>ay c hx)⟩
 .rcases hx with hx|hx
  .exact g3 c hc hx
  .subst hx
   exact hg.ow c hc (lr λaf=>ao.1 ⟨da hc hg.size,λho=>absurd ho af⟩)
 .rcases hc with hc|hc
  .exact hg.oS c hc hl
  .subst hc
   exact en.sub c (hg.ow c hl (lr λaf=>ao.1 ⟨da hl hg.size,λho=>absurd ho af⟩))
 .rw[Gq]at q1
  obtain⟨hi,q1,_⟩:=aw i ae q1;have q:=hC.mM hg.mu q1 q2;exact hg.ow c hc (lr λaf=>q.1 ⟨da hc hg.size,λho=>absurd ho af⟩)
 .show w.heap[c]?=_
  rw[hC.aQ.same hg.mu ⟨da hc hg.size,λho=>absurd (hg.ow c hc ho) hf⟩,hg.old c hc hf]
def rL(σ:St)(id t:Nat)(C:List AV):St:=⟨(t,.ptr id 0)::del σ.fr t,(id,⟨Z',.c C⟩)::del (qG σ.hp) id⟩
attribute [push_cast] rL
def mN(pn:Nat->Option Nat)(id b:Nat):Nat->Option Nat:=λi=>if i=id then T' b else pn i
theorem Pq{id b t:Nat}{C:List AV}{κ:Ctx}{β:Nat->Option (Nat×Nat)}{a:Act}{w:World}(bu:1000000<=id)(bw:κ.nt<id)(bD:∀i b',pn i=T' b'->i≠id->pn i=κ.bC i)(bz:∀i b',κ.bC i=T' b'->i=id->b'=b)(ht:σ.get t=.r (.pointer (T' ⟨b,0,Y'⟩)))(hr:∀u,(σ.get u).refs id=a0a)
 (br:cK en κ.bC (R.star (.aJ b C)) κ) (hC:av κ β σ.get σ.ae a w):∃a4 af,a4.nt=κ.nt/\cK en (mN κ.bC id b) R a4/\av a4 af (rL σ id t C).get (rL σ id t C).ae a w:=by
 have hg:=br;obtain⟨fp,⟨f,g,k1,k2,k3,k4,A,e,k5,k6,k7⟩,g2,g3,g4⟩:=hg.now hC;have a1:κ.X0 b:=g2 b ((k1 b).2 (.inr ((k4 b).2 rfl)));have bA:en.W.heap.size<=w.heap.size:=fC hg.size hC.aQ.size;have bB:=kn k5;have bn:∀i,aD (cN σ.ae) id Y' i=σ.ae i\/aD (cN σ.ae) id Y' i=none:=λi=>by
  by_cases e:id=i
  .subst e;exact .inr (eu _ _ _)
  .rw[bS _ _ e];exact nD _ _
 have ax:=hC.drop bn;have a0:=ax.wZ (G':=aD (cN σ.ae) id Y') (w':=w) (X':=λc=>κ.X0 c) hg.mu (λ_=>.inl rfl) (λ_ _ _=>rfl) (aM _) (λc h0=>da (hC.x0 c h0).1 hC.aQ.size)
  (λc _ hx=>.inl hx) (λi base ae c q1 q2=>ax.kq hg.mu q1 q2)
 have bc:∀i ae base,aD (cN σ.ae) id Y' i=T' ae->β i≠T' (b,base):=λi ae base q1 q2=>ax.kq hg.mu q1 q2 a1
 obtain⟨af,ao,ab⟩:∃af:Nat->Option (Nat×Nat),af id=T' (b,0)/\∀i,id≠i->af i=β i:=⟨aD β id (T' (b,0)),eu _ _ _,λi hi=>bS _ _ hi⟩;have a5:∀c,XG ⟨κ.nt,w,λc=>κ.X0 c/\c≠b,Y',λc=>∃i base ae,aD (aD (cN σ.ae) id Y') id (T' ⟨Z',.c C⟩) i=T' ae/\af i=T' (c,base),κ.df,mN κ.bC id b⟩ af (aD (aD (cN σ.ae) id Y') id (T' ⟨Z',.c C⟩)) c->
  XG ⟨κ.nt,w,λc=>κ.X0 c,Y',λc=>∃i base ae,aD (cN σ.ae) id Y' i=T' ae/\β i=T' (c,base),κ.df,κ.bC⟩ β (aD (cN σ.ae) id Y') c:=by
  intro c hx;rcases hx with hx|⟨i,cn,base,q1,q2⟩
  .exact .inl hx.1
  .by_cases ei:id=i
   .subst ei
    rw[ao]at q2;simp only[aC,db]at q2;exact .inl (q2.1▸a1)
   .rw[bS _ _ ei]at q1
    rw[ab i ei]at q2;exact .inr ⟨i,cn,base,q1,q2⟩
 have bd:∀c,XG ⟨κ.nt,w,λc=>κ.X0 c,Y',λc=>∃i base ae,aD (cN σ.ae) id Y' i=T' ae/\β i=T' (c,base),κ.df,κ.bC⟩ β (aD (cN σ.ae) id Y') c->XG κ β σ.ae c:=by
  intro c hx;rcases hx with hx|⟨i,cn,base,q1,q2⟩
  .exact .inl hx
  .have hi:id≠i:=by intro e;subst e;rw[eu]at q1;cases q1
   rw[bS _ _ hi]at q1;exact .inr ⟨i,cn,base,(iR q1).1,q2⟩
 have a7:∀v x,RI w (XG ⟨κ.nt,w,λc=>κ.X0 c,Y',λc=>∃i base ae,aD (cN σ.ae) id Y' i=T' ae/\β i=T' (c,base),κ.df,κ.bC⟩ β (aD (cN σ.ae) id Y')) v x->RI w (XG ⟨κ.nt,w,λc=>κ.X0 c/\c≠b,Y',λc=>∃i base ae,aD (aD (cN σ.ae) id Y') id (T' ⟨Z',.c C⟩) i=T' ae/\af i=T' (c,base),κ.df,mN κ.bC id b⟩ af (aD (aD (cN σ.ae) id Y') id (T' ⟨Z',.c C⟩))) v x:=
  λv x h=>h.cW (dZ.refl _ _) (λc _ hx=>a5 c hx)
 have bm:(rL σ id t C).ae=aD (aD (cN σ.ae) id Y') id (T' ⟨Z',.c C⟩):=by
  funext u
  simp only[rL,St.ae,lk,nC,aD,yJ]
  rfl
 have bs:∀u,(rL σ id t C).get u=if t=u then .ptr id 0 else σ.get u:=by
  intro u;simp only[rL,St.get,lk,nC]
  by_cases e:t=u
  .simp[e]
  .simp[e]
 refine⟨⟨κ.nt,w,λc=>κ.X0 c/\c≠b,Y',λc=>∃i base ae,aD (aD (cN σ.ae) id Y') id (T' ⟨Z',.c C⟩) i=T' ae/\af i=T' (c,base),κ.df,mN κ.bC id b⟩,af,rfl,⟨rfl,hg.df,rfl,⟨f,R.loc (aM _) (λ_ _ _=>rfl) (λc _ hx=>?_) k3,λc hc=>⟨g2 c ((k1 c).2 (.inl hc)),λe=>k2 c hc ((k4 c).2 e)⟩,λc hc hx=>g3 c hc ((k1 c).2 (.inl hx))⟩,λc hc=>?_,λc hc hl=>hg.oS c hc.1 hl,λc hc⟨i,base,ae,q1,q2⟩=>?_,λc hc hf=>?_,hC.aQ.os.trans hg.os,hC.aQ.tape.trans hg.tape,hC.aQ.output.trans hg.output,bA⟩,?_⟩
 .rcases hx with hx|⟨i,base,ae,q1,q2⟩
  .exact .inl hx.1
  .by_cases ei:id=i
   .subst ei
    rw[ao]at q2;simp only[aC,db]at q2;exact .inl (q2.1▸a1)
   .rw[bS _ _ ei]at q1
    rw[ab i ei]at q2;rw[bS _ _ ei]at q1;obtain⟨q1,c',rfl⟩:=iR q1;exact .inr ⟨i,c',base,q1,q2⟩
 .rcases hg.nJ c hc with h|⟨i,h⟩
  .by_cases e:c=b
   .subst e;exact .inr ⟨id,by simp[mN]⟩
   .exact .inl ⟨h,e⟩
  .by_cases ei:i=id
   .exact .inr ⟨id,by rw[bz i c h ei];simp[mN]⟩
   .exact .inr ⟨i,by simp[mN,ei,h]⟩
 .by_cases ei:id=i
  .subst ei
   rw[ao]at q2;simp only[aC,db]at q2;exact g3 c hc ((k1 c).2 (.inr ((k4 c).2 q2.1.symm)))
  .rw[bS _ _ ei]at q1
   rw[ab i ei]at q2;have q:=ax.mM hg.mu q1 q2;exact hg.ow c hc (lr λbx=>q.1 ⟨da hc hg.size,λho=>absurd ho bx⟩)
 .show w.heap[c]?=_
  rw[hC.aQ.same hg.mu ⟨da hc hg.size,λho=>absurd (hg.ow c hc ho) hf⟩,hg.old c hc hf]
 .rw[bm]
  refine⟨hC.sz,λu=>?_,hC.gp,λi ae hi=>?_,λi j c base x y a6 hx hy ay d aw=>?_,⟨rfl,rfl,rfl,aM _,λ_ _ _=>rfl,λ_ _ _ hm=>(by cases hm)⟩,λc hc=>⟨da (hC.x0 c hc.1).1 hC.aQ.size,λ⟨i,base,ae,q1,q2⟩=>?_⟩,λi b' hp=>?_⟩
  .rw[bs]
   by_cases e:t=u
   .rw[au e]
    have hv:=hC.rel u;rw[<-e,ht]at hv;rw[<-e,RI.aS hv];intro ae _;exact⟨b,0,ao,rfl⟩
   .rw[aq e]
    have hv:=a0.rel u;have bb:=hr u;generalize σ.get u=v at*;cases v with
    |os i s off len=>
     have e1:id≠i:=by intro e;subst e;simp[AV.refs]at bb
     obtain⟨ad,cap,h1,h2,h3⟩:=hv;refine⟨ad,cap,h1,h2,λae hb=>?_⟩;rw[bS _ _ e1]at hb;rw[ab i e1];exact h3 ae hb
    |ptr i off=>
     have e1:id≠i:=by intro e;subst e;simp[AV.refs]at bb
     intro ae hb;rw[bS _ _ e1]at hb;rw[ab i e1];exact hv ae hb
    |_=>exact a7 _ _ hv
  .by_cases e1:id=i
   .subst e1
    rw[eu]at hi;simp only[aC]at hi;subst hi;refine .inr ⟨b,0,A,e,ao,k5,by simpa[aN.len]using k6,λj c hj=>?_,.inl ⟨λho=>?_,by show id≠κ.nt;omega⟩⟩
    .obtain⟨v,v1,v2⟩:=k7 j c (by simpa[aN.val]using hj)
     refine⟨v,by rw[du];exact v1,v2.cW (dZ.refl _ _) (λc _ hx=>bd c (a5 c hx))⟩
    .obtain⟨lo,bt,hm⟩:=ho.2 ⟨id,0,_,eu _ _ _,ao⟩
     cases hm
   .rw[bS _ _ e1]at hi
    rcases a0.hp i ae hi with h6|⟨b1,base,C1,e',h1,h2,h3,h4,h5⟩
    .exact .inl ⟨(ab i e1).trans h6.1,h6.2⟩
    .refine .inr ⟨b1,base,C1,e',(ab i e1).trans h1,h2,h3,λj c hj=>?_,.inl ⟨λho=>?_,(a0.mM rfl hi h1).2.1⟩⟩
     .obtain⟨v,hv,hr⟩:=h4 j c hj
      exact⟨v,hv,a7 _ _ hr⟩
     .obtain⟨lo,bt,hm⟩:=ho.2 ⟨i,base,ae,by rw[bS _ _ e1];exact hi,(ab i e1).trans h1⟩
      cases hm
  .by_cases e1:id=i
   .subst e1
    have e2:id≠j:=a6;rw[bS _ _ e2]at hy;rw[ao]at ay;rw[ab j e2]at aw;simp only[aC,db]at ay;obtain⟨rfl,rfl⟩:=ay;exact bc j y d hy aw
   .rw[bS _ _ e1]at hx
    rw[ab i e1]at ay
    by_cases e2:id=j
    .subst e2
     rw[ao]at aw;simp only[aC,db]at aw;obtain⟨rfl,rfl⟩:=aw;exact bc i x base hx ay
    .rw[bS _ _ e2]at hy
     rw[ab j e2]at aw;exact ax.sep i j c base x y a6 hx hy ay d aw
  .by_cases e1:id=i
   .subst e1
    rw[ao]at q2;simp only[aC,db]at q2;exact absurd q2.1.symm hc.2
   .rw[bS _ _ e1]at q1
    rw[ab i e1]at q2;exact absurd hc.1 (ax.kq hg.mu q1 q2)
  .have a3:(if i=id then T' b else κ.bC i)=T' b':=hp
   split at a3
   .rename_i e1
    subst e1;cases a3;exact⟨bu,bw,ao⟩
   .rename_i e1
    have h:=hC.bC i b' a3;exact⟨h.1,h.2.1,by rw[ab i (λe=>e1 e.symm)];exact h.2.2⟩
end
end Go.Hl
