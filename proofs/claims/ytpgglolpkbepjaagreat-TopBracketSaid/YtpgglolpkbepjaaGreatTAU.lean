/- Lemmas for TopSound and TopBracket. -/
import Derived.Test.YtpgglolpkbepjaaGreatTAT
set_option linter.unusedVariables false
set_option linter.unusedSimpArgs false
namespace Go.Hl
open Option renaming some→T',none→Y'
open Bool renaming true→Z',false→a0a
open Go Go.RowKit
set_option maxHeartbeats 4000000
section
open Go.Proofs
section
variable {post:AV->GA->Prop}{c:Code}{fn:Func}{f:FuncId}{l:List (Nat×AV)}{C args:List AV}{rest:List Oper}{rs:List ResultVar}{ts:List TypeId}{b d:Nat}{o:Oper}{x:Operand}{t:TypeId}
section
variable {P:Program}{T:aL}{S:FuncId->Option Sp}{κ:Ctx}{β:Nat->Option (Nat×Nat)}{F:Nat->AV}{G G':Nat->Option cq}{a:Act}{w w':World}{n:Nat}
variable {en:dK}{pn:Nat->Option Nat}{R R':GA}{σ σ':St}{ops:Array Oper}{K:St->GA->Prop}
theorem GL.val(v:AV)(ab:o.guard=Y')(hd:∀t,o.dst=T' t->t<n)(af:∀(κ:Ctx)(β:Nat->Option (Nat×Nat))(a:Act)(w:World),κ.nt=n->cK en pn R κ->av κ β σ.get σ.ae a w->∃x,(execOp a.eval o).run P w=.ok (.value x) w/\RV κ β σ.ae w v x)(k:GL P n en pn ops rest K (σ.put o.dst v) R):GL P n en pn ops (o::rest) K σ R:=by
 intro κ β a w Q hn hg hC hQ;obtain⟨x,h1,h2⟩:=af κ β a w hn hg hC;refine oR ab h1 (k κ β _ w Q hn hg ?_ hQ);rw[St.fh,St.eQ];exact hC.put (λt ht=>by rw[hn];exact hd t ht) h2
theorem vL(w:World)(o:Obj):(w.alloc o).heap=w.heap.push o:=rfl
theorem rq(fp:Nat->Prop)(w:World)(o:Obj):lU fp w (w.alloc o):=
 ⟨rfl,rfl,rfl,by rw[vL];simp,λk hk _=>by rw[vL,Array.getElem?_push_lt hk,sc hk]⟩
theorem GL.box{C:List Value}(hop:o.op=.box t x)(aw:o.guard=Y')(ao:o.dst=T' d)(hd:d<n)(hx:(ev σ.get x).cells=T' (uZ C))(k:∀b,GL P n en pn ops rest K (σ.live.put (T' d) (.r (.pointer (T' ⟨b,0,Y'⟩)))) (R.star (.obj b (.cells C.toArray t (0,0))))):GL P n en pn ops (o::rest) K σ R:=by
 intro κ β a w Q hn hg hC hQ;obtain⟨fp,g1,g2,g3,g4⟩:=hg.now hC;obtain⟨c1,c2⟩:=RI.cells ((hC.ev x).ri (AV.sO hx)) hx;have af:(a.eval x).cells=C.toArray:=by
  apply SO;intro j;rcases dQ j C.length with h|h
  .obtain⟨v,v1,v2⟩:=c2 j (.r C[j]) (by simp[uZ,h])
   rw[v1,RI.aS v2];simp[h]
  .rw[qW (by rw[c1];simpa[uZ]using h)]
   simp[h]
 have ax:(execOp a.eval o).run P w=.ok (.value (.pointer (T' ⟨w.heap.size,0,Y'⟩))) (w.alloc (.cells C.toArray t)):=by
  simp[execOp,hop,Instr.box,newVar,newRow,af]
 have hh:(w.alloc (.cells C.toArray t)).heap[w.heap.size]?=T' (.cells C.toArray t (0,0)):=by rw[vL];simp
 have ab:=rq (λ_=>False) w (.cells C.toArray t);obtain⟨ay,h1,h2,h3,h4⟩:=hg.call (w':=w.alloc (.cells C.toArray t)) (R':=R.star (.obj w.heap.size (.cells C.toArray t (0,0)))) (fp':=λb=>fp b\/b=w.heap.size) hC g2 g3
  ⟨fp,λb=>b=w.heap.size,λ_=>dr,λb hb e=>by have:=g4 b hb;omega,R.loc ab.size (λb hb _=>ab.block b hb (λh=>h)) (λb hb hx=>hx.elim id (λh=>h.elim (λh=>.inl (g2 b h)) (λe=>f'))) g1,λ_=>dr,hh⟩
  (λb hb hx=>hx.elim (λe=>e) (λe=>f')) (rq fp w _)
 refine oR (w':=w.alloc (.cells C.toArray t)) aw ax (k w.heap.size ay β _ _ Q (h1.trans hn) h2 ?_ hQ);rw[St.fh,St.eQ,St.iD,St.gm,ao];exact h3.put (λt' ht=>by cases ht;rw[h1,hn];exact hd) (RI.r _)
theorem GL.Gs(hop:o.op=.box t x)(ao:o.guard=Y')(af:o.dst=T' d)(hd:d<n)(hx:(ev σ.get x).cells=T' C)(k:∀b,GL P n en pn ops rest K (σ.live.put (T' d) (.r (.pointer (T' ⟨b,0,Y'⟩)))) (R.star (.aJ b C))):GL P n en pn ops (o::rest) K σ R:=by
 intro κ β a w Q hn hg hC hQ;obtain⟨fp,g1,g2,g3,g4⟩:=hg.now hC;obtain⟨c1,c2⟩:=RI.cells ((hC.ev x).ri (AV.sO hx)) hx;obtain⟨A,hA⟩:=nm ((a.eval x).cells);rw[hA]at c1 c2;have aw:(execOp a.eval o).run P w=.ok (.value (.pointer (T' ⟨w.heap.size,0,Y'⟩))) (w.alloc (.cells A t)):=by
  simp[execOp,hop,Instr.box,newVar,newRow,hA]
 have hh:(w.alloc (.cells A t)).heap[w.heap.size]?=T' (.cells A t (0,0)):=by rw[vL];simp
 have ab:=rq (λ_=>False) w (.cells A t);have hX:∀b,b<w.heap.size->XG κ β σ.ae b\/(fp b\/b=w.heap.size)->XG κ β σ.ae b:=λb hb hx=>hx.elim id (λh=>h.elim (λh=>.inl (g2 b h)) (λe=>f'))
 obtain⟨ax,h1,h2,h3,h4⟩:=hg.call (w':=w.alloc (.cells A t)) (R':=R.star (.aJ w.heap.size C)) (fp':=λb=>fp b\/b=w.heap.size) hC g2 g3
  ⟨fp,λb=>b=w.heap.size,λ_=>dr,λb hb e=>by have:=g4 b hb;omega,R.loc ab.size (λb hb _=>ab.block b hb (λh=>h)) hX g1,λ_=>dr,A,t,hh,by rw[c1];exact aM _,λj c hj=>by
   obtain⟨v,v1,v2⟩:=c2 j c hj;exact⟨v,v1,v2.cW ⟨ab.size,λb hb _=>ab.block b hb (λh=>h)⟩ hX⟩⟩
  (λb hb hx=>hx.elim (λe=>e) (λe=>f')) (rq fp w _)
 refine oR (w':=w.alloc (.cells A t)) ao aw (k w.heap.size ax β _ _ Q (h1.trans hn) h2 ?_ hQ);rw[St.fh,St.eQ,St.iD,St.gm,af];exact h3.put (λt' ht=>by cases ht;rw[h1,hn];exact hd) (RI.r _)
def dM(T:aL)(rs:List ResultVar)(ts:List TypeId)(post:AV->GA->Prop)(e:Exit)(σ:St)(R:GA):Prop:=
 (e=.normal\/e=.ret)/\(gL T σ rs ts).1/\post (oneOf (gL T σ rs ts).2.2) R
theorem Ns(hD:en.D=[])(hT:cU P T){e:Exit}(hg:cK en pn R κ)(hC:av κ β σ.get σ.ae a w)(h:dM T fn.results.toList fn.resultTypes.toList post e σ R)(aw:∀id b,pn id=T' b->∀w fp X,R.rel w fp X->fp b):
 bodyPost P fn (λe w'=>∃v r R' fp',e=.returned v/\post r R'/\R'.rel w' fp' (λb=>en.X b\/fp' b)/\RI w' (λb=>en.X b\/fp' b) r v/\(∀b,b<en.W.heap.size->fp' b->en.fp b)/\lU en.fp en.W w') e a w:=by
 obtain⟨he,h1,h2⟩:=h;obtain⟨v,v1,v2⟩:=Ex hT (λ_=>hg.mu) hC h1 rfl;obtain⟨fp,g1,g2,g3,g4⟩:=hg.now hC;have ab:∀b,en.X b\/fp b->κ.X0 b:=λb hb=>by
  rcases hb with hb|hb
  .rcases hg.nJ b hb with h|⟨id,h⟩
   .exact h
   .exact g2 b (aw id b h w fp _ g1)
  .exact g2 b hb
 have ao:∀b,b<w.heap.size->en.X b\/fp b->XG κ β σ.ae b:=λb _ hb=>.inl (ab b hb)
 have key:a.defers=[]/\∃v,(results fn a.tmps).run P w=.ok v w/\∃af r R' fp',Ending.returned v=.returned af/\post r R'/\R'.rel w fp' (λb=>en.X b\/fp' b)/\RI w (λb=>en.X b\/fp' b) r af/\(∀b,b<en.W.heap.size->fp' b->en.fp b)/\lU en.fp en.W w:=by
  refine⟨hC.gp.trans (hg.df.trans hD),v,v1,v,_,R,fp,rfl,h2,R.loc (aM _) (λ_ _ _=>rfl) ao g1,?_,g3,⟨hC.aQ.os.trans hg.os,hC.aQ.tape.trans hg.tape,hC.aQ.output.trans hg.output,fC hg.size hC.aQ.size,λb hb hf=>?_⟩⟩
  .refine v2.cW (dZ.refl _ _) (λb ax hb=>?_)
   exact ab b hb
  .rw[hC.aQ.same hg.mu ⟨da hb hg.size,λho=>absurd (hg.ow b hb ho) hf⟩,hg.old b hb hf]
 rcases he with rfl|rfl
 .exact key
 .exact key
theorem aA.body(hE:Env P T S)(hf:P.funcs[f]?=T' fn)(ao:fn.ntmps=n)(aw:fn.results=rs.toArray)(h:∀en,aa P n en (λ_=>Y') c (dM T rs ts post) ⟨l,[]⟩ R)(hb:fn.body=T' c:=by rfl)(ax:fn.resultTypes=ts.toArray:=by rfl)(af:args.all AV.im=true:=by rfl)(hn:args.length<=n:=by simp)(hl:gA 0 args=l:=by rfl):aA P f args R post:=by
 subst hl;subst ao;intro w X fp vs hX ab hr hlen ha;refine calls_of_wp hf hb ?_;have hC:=Ap (n:=fn.ntmps) af hn hX hlen ha;have hg:cK ⟨w,X,fp,ab,hX,[]⟩ (λ_=>Y') R ⟨fn.ntmps,w,X,Y',λ_=>False,[],λ_=>Y'⟩:=
  ⟨rfl,rfl,rfl,⟨fp,GA.loc _ (aM _) (λ_ _ _=>rfl) (λb _ hx=>hx.elim id (λh=>h.elim)) hr,ab,λ_ _ h=>h⟩,λ_ h=>.inl h,λ_ h _=>h,λ_ _ h=>h.elim,λ_ _ _=>rfl,rfl,rfl,rfl,aM _⟩
 refine wp_mono (h _ _ _ _ w rfl hg hC) λe a' w'⟨κ',σ',β',R',h1,hn',hg',hC'⟩=>?_
 refine Ns rfl hE.hT hg' hC' ?_ (λ_ _ e=>by cases e);rw[aw,ax];exact h1
theorem aA.sJ(hE:Env P T S)(hf:P.funcs[f]?=T' fn)(ao:fn.ntmps=n)(aw:fn.results=rs.toArray)(h:∀en:dK,R.rel en.W en.fp en.X->aa P n en (λ_=>Y') c (dM T rs ts post) ⟨l,[]⟩ R)(hb:fn.body=T' c:=by rfl)(ax:fn.resultTypes=ts.toArray:=by rfl)(af:args.all AV.im=true:=by rfl)(hn:args.length<=n:=by simp)(hl:gA 0 args=l:=by rfl):aA P f args R post:=by
 subst hl;subst ao;intro w X fp vs hX ab hr hlen ha;refine calls_of_wp hf hb ?_;have hC:=Ap (n:=fn.ntmps) af hn hX hlen ha;have hg:cK ⟨w,X,fp,ab,hX,[]⟩ (λ_=>Y') R ⟨fn.ntmps,w,X,Y',λ_=>False,[],λ_=>Y'⟩:=
  ⟨rfl,rfl,rfl,⟨fp,GA.loc _ (aM _) (λ_ _ _=>rfl) (λb _ hx=>hx.elim id (λh=>h.elim)) hr,ab,λ_ _ h=>h⟩,λ_ h=>.inl h,λ_ h _=>h,λ_ _ h=>h.elim,λ_ _ _=>rfl,rfl,rfl,rfl,aM _⟩
 refine wp_mono (h ⟨w,X,fp,ab,hX,[]⟩ hr _ _ _ w rfl hg hC) λe a' w'⟨κ',σ',β',R',h1,hn',hg',hC'⟩=>?_
 refine Ns rfl hE.hT hg' hC' ?_ (λ_ _ e=>by cases e);rw[aw,ax];exact h1
def dm:Nat:=1000000
def JX(id b:Nat)(Q:Exit->St->GA->Prop)(e:Exit)(σ:St)(R:GA):Prop:=∃C',σ.ae id=T' ⟨Z',.c C'⟩/\Q e (σ.close id b) (R.star (.aJ b C'))
theorem QY{id:Nat}(aw:pn id=Y')(hn:κ.nt=n)(hg:cK en (mN pn id b) R κ)(hC:av κ β σ.get σ.ae a w)(hb:σ.ae id=T' ⟨Z',.c C⟩):
 ∃ab ao,ab.nt=n/\cK en pn (R.star (.aJ b C)) ab/\av ab ao (σ.close id b).get (σ.close id b).ae a w:=by
 obtain⟨ab,ao,h1,h2,h3⟩:=eZ.close (n:=n) (en:=en) (pn:=mN pn id b) (R:=R) (id:=id) (b:=b) (by simp[mN]) hb κ β a w hn hg hC;refine⟨⟨ab.nt,ab.w0,ab.X0,ab.mu,ab.ow,ab.df,pn⟩,ao,h1,⟨h2.mu,h2.df,rfl,h2.fp,λc hc=>?_,h2.oS,h2.ow,h2.old,h2.os,h2.tape,h2.output,h2.size⟩,⟨h3.sz,h3.rel,h3.gp,h3.hp,h3.sep,⟨h3.aQ.os,h3.aQ.tape,h3.aQ.output,h3.aQ.size,h3.aQ.old,h3.aQ.Bj⟩,h3.x0,λi b' hp=>?_⟩⟩
 .rcases h2.nJ c hc with h|⟨i,h⟩
  .exact .inl h
  .unfold mN at h
   split at h
   .cases h
    obtain⟨fp,⟨f,g,k1,k2,k3,k4,_⟩,m2,m3⟩:=h2.fp;exact .inl (m2 _ ((k1 _).2 (.inr ((k4 _).2 rfl))))
   .exact .inr ⟨i,h⟩
 .have af:pn i=T' b':=hp
  refine h3.bC i b' ?_;rw[h2.bC];unfold mN;split
  .rename_i e;subst e;rw[aw]at af;cases af
  .exact af
theorem aa.gd{Q:Exit->St->GA->Prop}(id t:Nat)(hi:1000000<=id)(a0:n<id)(af:pn id=Y')(ht:σ.get t=.r (.pointer (T' ⟨b,0,Y'⟩)))(hr:∀u,(σ.get u).refs id=a0a)(h:aa P n en (mN pn id b) c (JX id b Q) (rL σ id t C) R):aa P n en pn c Q σ (R.star (.aJ b C)):=by
 intro κ β a w hn hg hC;have ab:=hg;rw[<-hg.bC]at ab;obtain⟨ax,ao,h1,h2,h3⟩:=Pq (pn:=pn) (t:=t) (C:=C) (id:=id) hi f' (λi b' _ _=>by rw[hg.bC]) (λi b' hh e=>by rw[e,hg.bC,af]at hh;cases hh) ht hr ab hC;rw[hg.bC]at h2;refine wp_mono (h ax ao a w (h1.trans hn) h2 h3) λe a' w'⟨κ2,σ2,β2,R2,⟨C',q0,q1⟩,q2,q3,q4⟩=>?_
 obtain⟨ay,aw,p1,p2,p3⟩:=QY af q2 q3 q4 q0;exact⟨ay,_,aw,_,q1,p1,p2,p3⟩
theorem abH(id:Nat)(args:List AV)(ab:args.all AV.im=Z')(l:List (Nat×cq))(u:Nat):(St.get ⟨gA 0 args,l⟩ u).refs id=false:=by
 simp only[St.get,DU,dU,if_true,FP];cases hc:args[u]? with
 |none=>rfl
 |some c=>
  have:=fq.1 ab c (kL hc);cases hr:c.refs id with
  |false=>simpa using hr
  |true=>rw[yY hr]at this;cases this
theorem aA.LJ(hE:Env P T S)(hf:P.funcs[f]?=T' fn)(ax:fn.ntmps=n)(ay:fn.results=rs.toArray)(h:∀en,aa P n en (mN (λ_=>Y') dm b) c (JX dm b (dM T rs ts post)) ⟨(0,.ptr dm 0)::l,[(dm,⟨Z',.c C⟩)]⟩ R)(hb:fn.body=T' c:=by rfl)(a0:fn.resultTypes=ts.toArray:=by rfl)(ao:args.all AV.im=true:=by rfl)(hn:args.length+1<=n:=by simp)(aw:n<dm:=by decide)(hl:gA 1 args=l:=by rfl):aA P f (.r (.pointer (T' ⟨b,0,Y'⟩))::args) (R.star (.aJ b C)) post:=by
 have ab:(AV.r (.pointer (T' ⟨b,0,Y'⟩))::args).all AV.im=true:=by simp[AV.im,ao]
 refine aA.body hE hf ax ay (λen=>?_) hb a0 ab (by simpa using hn) rfl;refine aa.gd dm 0 p' aw rfl rfl (abH dm _ ab []) ?_;have af:∀(l:List AV)(k:Nat),0<k->del (gA k l) 0=gA k l:=by
  intro l
  induction l with
  |nil=>intro k _;rfl
  |cons v l ih=>
   intro k hk;simp only[gA,del];rw[aq f',ih (k+1) f']
 have hop:rL ⟨gA 0 (.r (.pointer (T' ⟨b,0,Y'⟩))::args),[]⟩ dm 0 C=⟨(0,.ptr dm 0)::l,[(dm,⟨Z',.c C⟩)]⟩:=by
  subst hl;show(⟨(0,.ptr dm 0)::del (gA 1 args) 0,[(dm,⟨Z',.c C⟩)]⟩:St)=_;rw[af args 1 p']
 rw[hop];exact h en
end
end
end
section
open Go.Proofs
section
variable {r:AV}{post:AV->GA->Prop}{fs:Array Field}{l:Array Oper}{args:Array Operand}{ts:Array TypeId}{C:Array Value}{c:Code}{fn:Func}{f:FuncId}{args':List AV}{l2 rest:List Oper}{rs:List ResultVar}{b k:Nat}{fz:Nat×Nat}{o:Oper}{e s:TypeId}{i:TypeInfo}
theorem ac4{P:Program}{w:World}{o:Nat}(hw:w.heap[b]?=T' (.cells C e fz))(he:P.cellsOf e=0):(byteOf ⟨b,o,Y'⟩).run P w=.ok 0 w:=by
 have hs:w.shape? b=T' (e,C.size):=by simp[World.shape?,hw]
 simp[byteOf,noView,viewAt,run_program,hs,he]
theorem acd{P:Program}{w:World}(hw:w.heap[b]?=T' (.cells C e fz))(he:P.cellsOf e=0){f:Field}(hs:P.underlying s=T' (.struct fs))(hf:fs[k]?=T' f)(hi:P.info? f.type=T' i)(h0:i.size=0)(ho:f.offset=0)(hb:f.byteOffset=0):
 (Instr.fieldAt s (.pointer (T' ⟨b,0,Y'⟩)) k).run P w=.ok (.pointer (T' ⟨b,0,Y'⟩)) w:=by
 simp[Instr.fieldAt,run_underlying hs,hf,Instr.sureAddr,fieldPlace,run_sizeOf hi,h0,partAt,ac4 hw he,ho,hb]
theorem ace{P:Program}{w:World}{t:TypeId}{d:TypeDesc}(ht:P.underlying t=T' d)(hd:nh d=Z')(hi:P.info? t=T' i)(h0:i.size=0):(Instr.loadAt t (.pointer (T' ⟨b,0,Y'⟩))).run P w=.ok (.agg #[]) w:=by
 simp[Instr.loadAt,Instr.sureAddr,loadVar,ED ht hd,run_sizeOf hi,h0,loadCells,loadCellsFrom]
section
variable {P:Program}{κ:Ctx}{β:Nat->Option (Nat×Nat)}{a:Act}{w:World}{n:Nat}{en:dK}{pn:Nat->Option Nat}{R R0:GA}{σ:St}{ops:Array Oper}{K:St->GA->Prop}
theorem cK.obj{o:Obj}(hg:cK en pn (R0.star (.obj b o)) κ)(hC:av κ β σ.get σ.ae a w):w.heap[b]?=T' o:=by
 obtain⟨fp,⟨f,g,k1,k2,k3,k4,k5⟩,_⟩:=hg.now hC;exact k5
theorem GL.agP{x d:Nat}{f:Field}(hop:o.op=.fieldAddr s (.tmp x) k)(af:o.guard=Y')(ab:o.dst=T' d)(hd:d<n)(hx:σ.get x=.r (.pointer (T' ⟨b,0,Y'⟩)))(he:P.cellsOf e=0)(hs:P.underlying s=T' (.struct fs))(hf:fs[k]?=T' f)(hi:P.info? f.type=T' i)(h0:i.size=0)(ho:f.offset=0)(hb:f.byteOffset=0)(kk:GL P n en pn ops rest K (σ.put (T' d) (.r (.pointer (T' ⟨b,0,Y'⟩)))) (R0.star (.obj b (.cells C e fz)))):GL P n en pn ops (o::rest) K σ (R0.star (.obj b (.cells C e fz))):=by
 refine GL.val (.r (.pointer (T' ⟨b,0,Y'⟩))) af (λt ht=>by rw[ab]at ht;cases ht;exact hd) (λκ β a w hn hg hC=>⟨_,?_,RI.r _⟩) (by rw[ab];exact kk);have hv:=hC.rel x;rw[hx]at hv;have hv:=RI.aS hv;have e1:a.eval (.tmp x)=.pointer (T' ⟨b,0,Y'⟩):=hv;simp only[execOp,hop,e1,cC,acd (hg.obj hC) he hs hf hi h0 ho hb,cz,cJ]
theorem GL.agS{t:TypeId}{x d:Nat}{D:TypeDesc}(hop:o.op=.load t (.tmp x))(af:o.guard=Y')(ab:o.dst=T' d)(hd:d<n)(hx:σ.get x=.r (.pointer (T' ⟨b,0,Y'⟩)))(ht:P.underlying t=T' D)(hD:nh D=Z')(hi:P.info? t=T' i)(h0:i.size=0)(kk:GL P n en pn ops rest K (σ.put (T' d) (.agg [])) R):GL P n en pn ops (o::rest) K σ R:=by
 refine GL.val (.agg []) af (λt ht=>by rw[ab]at ht;cases ht;exact hd) (λκ β a w hn hg hC=>⟨.agg #[],?_,RI.agg [] #[] (λ_=>undef) rfl (λj c hj=>by cases hj) (λj c hj=>by cases hj)⟩) (by rw[ab];exact kk);have hv:=hC.rel x;rw[hx]at hv;have hv:=RI.aS hv;have e1:a.eval (.tmp x)=.pointer (T' ⟨b,0,Y'⟩):=hv;simp only[execOp,hop,e1,cC,ace ht hD hi h0,cz,cJ]
theorem dM.of{T:aL}{ts:List TypeId}{e:Exit}(k:post r R)(h:aO T rs ts r e σ):dM T rs ts post e σ R:=⟨h.1,h.2.1,by rw[h.2.2];exact k⟩
theorem pG{T:aL}{ts:List TypeId}{e:Exit}(k:post r R:=by exact⟨rfl,rfl⟩)(h:aO T rs ts r e σ:=by exact pL):dM T rs ts post e σ R:=dM.of k h
theorem dh.wU{args:List AV}(hf:P.funcs[f]?=T' fn)(hb:fn.body=T' c)(ab:(fn.name== "runtime.NumGoroutine")=a0a)(h:aA P f args .cQ (λr' _=>r'=r)):dh P f args r:=by
 intro w X vs hX hl hr;refine .inr ⟨pR hf hb ab vs w,?_⟩;refine(h w X (λ_=>False) vs hX (λ_ h=>h.elim) (λ_ h=>h) hl hr).mono λe w'⟨v,r',R',fp',h1,h2,_,h4,h5,h6⟩=>?_
 subst h2;exact⟨v,h1,h4.cW (dZ.refl _ _) (λ_ _ hb=>.inl hb),⟨h6.os,h6.tape,h6.output,h6.size,λk hk=>h6.block k hk (λh=>h)⟩⟩
end
section
variable {P:Program}{T:aL}{S:FuncId->Option Sp}{n id t:Nat}{en:dK}{pn:Nat->Option Nat}{R R1:GA}{σ σ1:St}{F:Prop}{x y:Code}{Q Q1:Exit->St->GA->Prop}{ops:Array Oper}{K:St->GA->Prop}
theorem gR{b:Bool}(hE:Env P T S)(E:F)(k:aa P n en pn y Q σ1 R)(h:F->Im P T S (aa P n en pn y Q σ1 R) (ai P T n (.region id l b) (λe σ'=>pZ (aa P n en pn y Q) Q e σ' R) σ):=by(intro E;exact Im.wR E)):aa P n en pn (.seq (.region id l b) y) Q σ R:=
 aa.seq (aa.of (h E hE k))
theorem gS{l:List Oper}(m:Nat)(hE:Env P T S)(E:F)(k:GL P n en pn ops l2 K σ1 R)(h2:l.drop m=l2:=by(simp only[fS,fe];rfl))(h:F->Im P T S (GL P n en pn ops l2 K σ1 R) (et T S ops (l.take m) (λσ'=>GL P n en pn ops l2 K σ' R) σ):=by(intro E;simp only[fy,eD];exact Im.wK E))(hd:iz (l.take m).toArray n=true:=by kernel_rfl):GL P n en pn ops l K σ R:=
 GL.gB m hE rfl h2 (h E hE k) hd
theorem aE{b:Bool}(k:aa P n en pn y Q σ1 R)(hE:Env P T S:=by assumption)(h:Im P T S (aa P n en pn y Q σ1 R) (ai P T n (.region id l b) (λe σ'=>pZ (aa P n en pn y Q) Q e σ' R) σ):=by exact Im.wR a0b):aa P n en pn (.seq (.region id l b) y) Q σ R:=
 aa.seq (aa.of (h hE k))
theorem a9{b:Bool}(E:F)(k:aa P n en pn y Q σ1 R)(hE:Env P T S:=by assumption)(h:F->Im P T S (aa P n en pn y Q σ1 R) (ai P T n (.region id l b) (λe σ'=>pZ (aa P n en pn y Q) Q e σ' R) σ):=by(intro E;exact Im.wR E)):aa P n en pn (.seq (.region id l b) y) Q σ R:=
 aa.seq (aa.of (h E hE k))
theorem az{l:List Oper}(m:Nat)(k:GL P n en pn ops l2 K σ1 R)(hE:Env P T S:=by assumption)(h2:l.drop m=l2:=by(simp only[fS,fe];rfl))(h:Im P T S (GL P n en pn ops l2 K σ1 R) (et T S ops (l.take m) (λσ'=>GL P n en pn ops l2 K σ' R) σ):=by(simp only[fy,eD];exact Im.wK a0b))(hd:iz (l.take m).toArray n=true:=by kernel_rfl):GL P n en pn ops l K σ R:=
 GL.gB m hE rfl h2 (h hE k) hd
theorem fG{l:List Oper}(m:Nat)(E:F)(k:GL P n en pn ops l2 K σ1 R)(hE:Env P T S:=by assumption)(h2:l.drop m=l2:=by(simp only[fS,fe];rfl))(h:F->Im P T S (GL P n en pn ops l2 K σ1 R) (et T S ops (l.take m) (λσ'=>GL P n en pn ops l2 K σ' R) σ):=by(intro E;simp only[fy,eD];exact Im.wK E))(hd:iz (l.take m).toArray n=true:=by kernel_rfl):GL P n en pn ops l K σ R:=
 GL.gB m hE rfl h2 (h E hE k) hd
theorem gN(k:aa P n en pn y Q σ R)(h:aa P n en pn y Q σ R->K σ R:=by exact λr=>r):GL P n en pn ops [] K σ R:=GL.nil (h k)
theorem gF(k:aa P n en pn y Q1 σ R1)(hb:σ.get t=.r (.bool a0a):=by rfl)(h:aa P n en pn y Q1 σ R1->Q .normal σ R:=by exact λr=>r):aa P n en pn (.cond (.tmp t) x .skip) Q σ R:=aa.dz hb (aa.skip (h k))
theorem gT(k:aa P n en pn y Q1 σ R1)(hb:σ.get t=.r (.bool Z'):=by rfl)(h:aa P n en pn y Q1 σ R1->Q .normal σ R:=by exact λr=>r):aa P n en pn (.cond (.tmp t) .skip x) Q σ R:=aa.eo hb (aa.skip (h k))
theorem gX(k:aa P n en pn y Q1 σ R1)(hb:σ.get t=.r (.bool a0a):=by rfl)(h:aa P n en pn y Q1 σ R1->Q (.exit id) σ R:=by exact λr=>r):aa P n en pn (.cond (.tmp t) x (.exit id)) Q σ R:=aa.dz hb (aa.exit (h k))
theorem gC(T:aL)(hG:aA P f args' R post)(hf:P.funcs[f]?=T' fn)(k:∀r R',post r R'->r.im=Z'/\GL P n en pn ops rest K (σ.live.put o.dst r) R')(hop:o.op=.call ⟨.value (.func f),args,ts⟩:=by rfl)(ab:o.guard=none:=by rfl)(hb:fn.body=T' c:=by rfl)(ao:(fn.name== "runtime.NumGoroutine")=false:=by decide)(hargs:cS T σ.get args.toList ts.toList=args':=by rfl)(af:args'.all AV.im=true:=by rfl)(hd:∀t,o.dst=T' t->t<n:=by(intro t ht;cases ht;decide)):GL P n en pn ops (o::rest) K σ R:=
 GL.call T hG hop ab hf hb ao hargs af hd k
theorem gE{a:AV}{B:GA}(T:aL)(hG:aA P f args' R (λr R'=>r=a/\R'=B))(hf:P.funcs[f]?=T' fn)(k:GL P n en pn ops rest K (σ.live.put o.dst a) B)(hi:a.im=true:=by rfl)(hop:o.op=.call ⟨.value (.func f),args,ts⟩:=by rfl)(ab:o.guard=none:=by rfl)(hb:fn.body=T' c:=by rfl)(ao:(fn.name== "runtime.NumGoroutine")=false:=by decide)(hargs:cS T σ.get args.toList ts.toList=args':=by rfl)(af:args'.all AV.im=true:=by rfl)(hd:∀t,o.dst=T' t->t<n:=by(intro t ht;cases ht;decide)):GL P n en pn ops (o::rest) K σ R:=
 GL.call T hG hop ab hf hb ao hargs af hd (λr R' hp=>by obtain⟨rfl,rfl⟩:=hp;exact⟨hi,k⟩)
end
end
end
section
open Go.Proofs
section
variable {args:Array Operand}{ts:Array TypeId}{Q:Exit->Act->World->Prop}{fn:Func}{f:FuncId}{s:NS}{i0:Nat}{o0:Oper}{A:Prop}{sp:Sp}
def Jm(R A:Prop):Prop:=R->A
section
variable {T:aL}{S:FuncId->Option Sp}{ops:Array Oper}{o:Oper}{os:List Oper}{K:St->Prop}{σ σ0 σ1 σ':St}{R p:Prop}{t j:Nat}{b c:Bool}{v:Value}
theorem Jm.refl:Jm A A:=λh=>h
theorem Jm.Ej(k:Jm R (K σ)):Jm R (cY T S ops [] K σ):=k
theorem Jm.Ei(hg:o.guard=Y')(h:dJ T S o σ=(p,σ1))(hp:p)(k:Jm R (cY T S ops os K σ1)):Jm R (cY T S ops (o::os) K σ):=by
 intro r;exact cY.step hg h hp (k r)
theorem Jm.En(hg:o.guard=T' (j,b))(ht:(ops[j]?).bind (·.dst)=T' t)(hb:σ.get t=.r (.bool b))(h:dJ T S o (σ.put (T' t) (.r (.bool b)))=(p,σ1))(hp:p)(k:Jm R (cY T S ops os K σ1)):Jm R (cY T S ops (o::os) K σ):=by
 intro r;simp only[cY,jh,hg,ht,hb,h];exact⟨λ_=>⟨hp,k r⟩,λe=>(by cases b<;>cases e)⟩
theorem Jm.Ek(hg:o.guard=T' (j,b))(ht:(ops[j]?).bind (·.dst)=T' t)(hb:σ.get t=.r (.bool c))(hc:c= !b)(hs:(σ.put (T' t) (.r (.bool (!b)))).put o.dst (.r undef)=σ1)(k:Jm R (cY T S ops os K σ1)):Jm R (cY T S ops (o::os) K σ):=by
 intro r;subst hc;subst hs;simp only[cY,jh,hg,ht,hb];exact⟨λe=>(by cases b<;>cases e),λ_=>k r⟩
theorem Jm.El(hg:o.guard=T' (j,b))(ht:(ops[j]?).bind (·.dst)=T' t)(hb:σ.get t=.r v)(hc:uu v=Y')(hs:σ.put o.dst (.r undef)=σ1)(k:Jm R (cY T S ops os K σ1)):Jm R (cY T S ops (o::os) K σ):=by
 intro r;subst hs;simp only[cY,jh,hg,ht,hb];split
 .rename_i e;cases e;cases hc
 .exact k r
 .rename_i e;exact(e v rfl).elim
theorem Jm.Em(hg:o.guard=T' (j,b))(ht:(ops[j]?).bind (·.dst)=Y')(k:Jm R (cY T S ops os K (σ.put o.dst (.r undef)))):Jm R (cY T S ops (o::os) K σ):=by
 intro r;simp only[cY,jh,hg,ht];exact k r
end
section
theorem jt{R F:Prop}(E:F)(k:R)(h:F->Jm R A:=by
 (intro E;(repeat(first|((with_reducible apply Jm.Ei);rfl;exact Im.sR E;exact Im.pF E)|((with_reducible apply Jm.En);rfl;rfl;exact Im.sR E;exact Im.sR E;exact Im.pF E)|((with_reducible apply Jm.Ek);rfl;rfl;exact Im.sR E;rfl;exact Im.sR E)|((with_reducible apply Jm.El);rfl;rfl;exact Im.sR E;rfl;exact Im.sR E)|((with_reducible apply Jm.Em);rfl;rfl)|with_reducible apply Jm.Ej));exact Jm.refl)):A:=h E k
end
def iH(args:List AV)(r:AV):Sp:=⟨0,λxs=>xs=args,λ_=>r⟩
attribute [push_cast] iH
def nX(f:FuncId):Op->Bool
 |.call ⟨.value (.func g),_,_⟩=>g==f
 |_=>a0a
def pP:Op->Bool
 |.call ⟨.value (.func _),_,_⟩=>Z'
 |.call ⟨.value _,_,_⟩=>a0a
 |.call ⟨.invoke _ _,_,_⟩=>a0a
 |_=>Z'
def Po(f:FuncId)(i0:Nat)(l:List Oper):Bool:=(List.range l.length).all λi=>match l[i]? with
 |some o=>pP o.op&&(if i=i0 then nX f o.op else !nX f o.op)
 |none=>Z'
section
variable {P:Program}{T:aL}{L:List (Nat×Sp)}{κ:Ctx}{β:Nat->Option (Nat×Nat)}{F:Nat->AV}{G:Nat->Option cq}{a:Act}{w:World}{ops:Array Oper}{cs al:List (Nat×Nat)}{fd:List (Nat×Nat×Nat)}{n:Nat}{en:dK}{pn:Nat->Option Nat}{R:GA}{σ:St}
theorem abv{o:Oper}(h1:pP o.op=Z')(h2:nX f o.op=a0a):qv T (be ((f,sp)::L)) F G o=qv T (be L) F G o:=by
 unfold qv;cases hop:o.op<;>try rfl
 .rename_i c
  obtain⟨callee,args,ts⟩:=c;simp only[hop]at h1 h2;cases callee with
  |builtin b=>cases b<;>rfl
  |invoke r m=>simp[pP]at h1
  |value x=>
   cases x with
   |func g=>
    have hg:f≠g:=by
     simp only[nX,mH,ne_eq]at h2;exact λe=>h2 e.symm
    simp only[ev,mI,be,lk,aq hg]
   |_=>simp[pP]at h1
theorem AD{o:Oper}(h1:pP o.op=Z')(h2:nX f o.op=a0a):aY T (be ((f,sp)::L)) ops o s=aY T (be L) ops o s:=by
 have hq:∀F G,qd T (be ((f,sp)::L)) F G o=qd T (be L) F G o:=λF G=>by
  unfold qd;rw[abv h1 h2]
 unfold aY;split
 .rfl
 .rfl
 .cases hop:o.op<;>simp only[hq]
def Lv(G:Nat->Option cq):Prop:=∀i b,G i=T' b->∃c,b=⟨Z',c⟩
theorem DZ(h:Lv G):cN G=G:=by
 funext i
 unfold cN;cases hi:G i with
 |none=>rfl
 |some b=>obtain⟨c,rfl⟩:=h i b hi;rfl
theorem Bg(G:Nat->Option cq):Lv (cN G):=λ_ _ h=>(iR h).2
theorem Lv.step{S:FuncId->Option Sp}{o:Oper}(h:Lv s.2):Lv (dw o.dst (aY T S ops o s).2 s).2:=by
 have key:∀e:Ef,(∀id c,e=.lQ id c->∃c',c=⟨Z',c'⟩)->Lv (dw o.dst e s).2:=by
  intro e he;cases e with
  |put v=>exact h
  |all z=>
   simp only[dw];cases o.dst with
   |none=>exact h
   |some d=>
    intro i b hi;simp only[aD]at hi;split at hi
    .cases hi;exact⟨_,rfl⟩
    .exact h i b hi
  |lQ id c=>
   intro i b hi;simp only[dw,aD]at hi;split at hi
   .cases hi;exact he id c rfl
   .exact h i b hi
 refine key _ (λid c e=>?_);unfold aY at e;split at e
 .cases e
 .cases e
 .split at e
  .split at e<;>cases e
  .split at e
   .split at e
    .split at e
     .cases e;exact⟨_,rfl⟩
     .cases e
    .cases e
   .cases e
  .cases e
theorem Ev(ab:∀j oj,ops[j]?=T' oj->∀e∈oj.after,Region.binds .any e=Z'->e.on<j){l:Array Bool}(aw:l.size=ops.size):∀(k i:Nat)(o:Oper),i<=k->ops[i]?=T' o->l.getD i Z'=a0a->Region.ready .any ops l≠[]
 |k,i,o,hk,ho,hu=>by
  by_cases h:∀e∈o.after,Region.binds .any e=Z'->l.getD e.on a0a=Z'
  .intro hn
   have:i∈Region.ready .any ops l:=mem_ready.2 ⟨hu,o,ho,h⟩;rw[hn]at this;cases this
  .have h:∃e,e∈o.after/\Region.binds .any e=Z'/\l.getD e.on a0a≠true:=lr λhc=>h λe he hb=>lr λhx=>hc ⟨e,he,hb,hx⟩
   obtain⟨e,he,hb,hx⟩:=h;have ay:=ab i o ho e he hb;have ax:i<ops.size:=(ir.1 ho).1;have ao:e.on<ops.size:=f'
   match k with
   |0=>omega
   |k+1=>
    refine Ev ab aw k e.on ops[e.on] f' (by simp[ao]) ?_;have af:e.on<l.size:=f';simp only[Array.getD,dif_pos af]at hx|-;simpa using hx
theorem Sd{S:FuncId->Option Sp}(hT:cU P T)(hS:bh P (be L))(ax:okF cs al fd ops=Z')(ay:∀i o,ops[i]?=T' o->pP o.op=Z'/\(i≠i0->nX f o.op=a0a)){Qf:NS->Prop}(hd:∀(i:Nat)(o:Oper),ops[i]?=T' o->∀t,o.dst=T' t->t<κ.nt)(hQ:∀s ao a' w',Qf s->av κ ao s.1 s.2 a' w'->Q .normal a' w')(ab:S=be ((f,sp)::L)):
 ∀(fuel:Nat)(l:Array Bool)(s:NS)(β:Nat->Option (Nat×Nat))(a:Act)(w:World),l.getD i0 Z'=Z'->av κ β s.1 s.2 a w->Inv ops l s->po T S ops .any Qf fuel l s->wpAny P .any ops Q fuel l a w
 |0,l,s,β,a,w,_,hC,_,h=>⟨h.1,hQ s β a w h.2 hC⟩
 |fuel+1,l,s,β,a,w,h0,hC,hinv,h=>by
  refine⟨λh0=>hQ s β a w (h.1 h0) hC,λi hi=>?_⟩;obtain⟨af,o,ho,_⟩:=mem_ready.1 hi;have aw:i≠i0:=λe=>by subst e;rw[h0]at af;cases af
  obtain⟨h1,h2⟩:=h.2 i hi o ho;obtain⟨p1,p2⟩:=ay i o ho;rw[ab,AD p1 (p2 aw)]at h1 h2;rw[<-ab]at h2;exact yp hT hS hC ho h1 (hinv i o ho af) (hd i o ho) (λao a' w' hc=>Sd hT hS ax ay hd hQ ab fuel _ _ ao a' w' (by rw[getD_set_ne Z' aw];exact h0) hc (nS.step ax hinv ho h1) h2)
theorem JD{c:Code}{args':List AV}{post:AV->GA->Prop}(hT:cU P T)(hS:bh P (be L))(ao:okF cs al fd ops=Z')(h0:ops[i0]?=T' o0)(hop:o0.op=.call ⟨.value (.func f),args,ts⟩)(ay:o0.guard=Y')(a0:∀i o,ops[i]?=T' o->pP o.op=Z'/\(i≠i0->nX f o.op=a0a))(hG:aA P f args' R post)(hf:P.funcs[f]?=T' fn)(hb:fn.body=T' c)(a4:(fn.name== "runtime.NumGoroutine")=a0a)(ab:∃r R',post r R'){Qf:AV->GA->NS->Prop}(hd:∀(i:Nat)(o:Oper),ops[i]?=T' o->∀t,o.dst=T' t->t<n)(hQ:∀r R' s af aw a' w',Qf r R' s->af.nt=n->cK en pn R' af->av af aw s.1 s.2 a' w'->Q .normal a' w')(hn:κ.nt=n)(hg:cK en pn R κ):
 ∀(fuel:Nat)(l:Array Bool)(s:NS)(β:Nat->Option (Nat×Nat))(a:Act)(w:World),l.size=ops.size->l.getD i0 Z'=a0a->Lv s.2->av κ β s.1 s.2 a w->Inv ops l s->
  (∀r R',post r R'->r.im=Z'/\po T (be ((f,iH args' r)::L)) ops .any (Qf r R') fuel l s)->wpAny P .any ops Q fuel l a w
 |fuel,l,s,β,a,w,hsz,hun0,hlv,hC,hinv,h=>by
  have a6:Region.ready .any ops l≠[]:=Ev (λj oj hj=>yS ao hj) hsz i0 i0 o0 (aM _) h0 hun0;obtain⟨r1,R1,ax⟩:=ab
  match fuel with
  |0=>exact absurd (h r1 R1 ax).2.1 a6
  |fuel+1=>
   refine⟨λe=>absurd e a6,λi hi=>?_⟩;obtain⟨bt,o,ho,_⟩:=mem_ready.1 hi
   by_cases ab:i=i0
   .subst ab
    rw[h0]at ho;simp only[aC]at ho;subst ho;obtain⟨m1,m2⟩:=(h r1 R1 ax).2.2 i hi o0 h0;have bd:gw ops s.1 o0=T' true:=by unfold gw;rw[ay]
    have hq:∀r,qv T (be ((f,iH args' r)::L)) s.1 s.2 o0=((iH args' r).kind=0/\(cS T s.1 args.toList ts.toList).all AV.im=Z'/\cS T s.1 args.toList ts.toList++[]=args',r):=λr=>by
     simp only[qv,hop,ev,mI,be,lk,if_true,iH]
    have a3:∀r,aY T (be ((f,iH args' r)::L)) ops o0 s=((qd T (be ((f,iH args' r)::L)) s.1 s.2 o0).1,.put (qd T (be ((f,iH args' r)::L)) s.1 s.2 o0).2):=λr=>by
     unfold aY;simp only[bd,hop]
    have a5:∀r,qd T (be ((f,iH args' r)::L)) s.1 s.2 o0=((qv T (be ((f,iH args' r)::L)) s.1 s.2 o0).1/\(comes o0.op=Z'->(qv T (be ((f,iH args' r)::L)) s.1 s.2 o0).2.im=Z'),(qv T (be ((f,iH args' r)::L)) s.1 s.2 o0).2):=λr=>by
     unfold qd;simp only[hop]
    have br:(cS T s.1 args.toList ts.toList).all AV.im=Z'/\cS T s.1 args.toList ts.toList=args':=by
     rw[a3,a5,hq]at m1;obtain⟨⟨_,m3,m4⟩,_⟩:=m1;rw[jx]at m4;exact⟨m3,m4⟩
    obtain⟨bm,hargs⟩:=br;subst hargs;obtain⟨fp,g1,g2,g3,g4⟩:=hg.now hC;obtain⟨q1,q2⟩:=um (T:=T) hC args.toList ts.toList bm;unfold wpOp;simp only[h0];have hw:Region.wanted o0 (yielded ops a.tmps)=true:=by simp[Region.wanted,ay]
    rw[hw,au rfl];refine .inl ?_;unfold Oper.wp;rw[yd o0 hop rfl,pR hf hb a4];refine(hG w (XG κ β s.2) fp (args.map a.eval) (λb hb=>hC.qV hb) (λb hb=>.inl (g2 b hb)) g1 (by simp[q1]) (λj c hj=>?_)).mono λe w'⟨v,r,R',fp',k1,k2,k3,k4,k5,k6⟩=>?_
    .obtain⟨v,v1,v2⟩:=q2 j c hj
     exact⟨v,by simpa using v1,v2⟩
    .subst k1
     obtain⟨af,e1,e2,e3,e4⟩:=hg.call hC g2 g3 k3 k5 k6;obtain⟨n1,n2⟩:=h r R' k2;obtain⟨n3,n4⟩:=n2.2 i hi o0 h0;have a1:dw o0.dst (aY T (be ((f,iH (cS T s.1 args.toList ts.toList) r)::L)) ops o0 s).2 s=(iq s.1 o0.dst r,s.2):=by
      rw[a3,a5,hq]
      rfl
     rw[a1]at n4;rw[DZ hlv]at e3 e4;have bb:=e3.put (d:=o0.dst) (λt ht=>by rw[e1,hn];exact hd i o0 h0 t ht) (RV.of n1 (k4.cW (dZ.refl _ _) (λb _ hb=>e4 b hb)));refine Sd (κ:=af) hT hS ao (f:=f) (sp:=iH (cS T s.1 args.toList ts.toList) r) a0 (λj o ho t ht=>by rw[e1,hn];exact hd j o ho t ht) (λs' aw a' w' bs bc=>hQ r R' s' af aw a' w' bs (e1.trans hn) e2 bc) rfl fuel _ _ β _ w' ?_ bb ?_ n4
     .have bn:i<ops.size:=(ir.1 h0).1
      simp[Array.getD,hsz,bn]
     .have:=nS.step (T:=T) (S:=be ((f,iH (cS T s.1 args.toList ts.toList) r)::L)) ao hinv h0 n3
      rw[a1]at this;exact this
   .obtain⟨p1,p2⟩:=a0 i o ho
    have a7:(aY T (be L) ops o s).1:=by
     have:=((h r1 R1 ax).2.2 i hi o ho).1;rw[AD p1 (p2 ab)]at this;exact this
    exact yp hT hS hC ho a7 (hinv i o ho bt) (λt ht=>by rw[hn];exact hd i o ho t ht) (λaw a' w' hc=>JD hT hS ao h0 hop ay a0 hG hf hb a4 ⟨r1,R1,ax⟩ hd hQ hn hg fuel _ _ aw a' w' (by simpa using hsz) (by rw[getD_set_ne Z' ab];exact hun0) (Lv.step hlv) hc (nS.step ao hinv ho a7) (λr R' hp=>by
     obtain⟨n1,n2⟩:=h r R' hp;refine⟨n1,?_⟩;have:=(n2.2 i hi o ho).2;rw[AD p1 (p2 ab)]at this;exact this))
theorem aa.yZ(i0:Nat)(cs al:List (Nat×Nat))(fd:List (Nat×Nat×Nat)){id:Nat}{l:List Oper}{Q:Exit->St->GA->Prop}{c:Code}{args':List AV}{post:AV->GA->Prop}(hE:Env P T (be L))(hG:aA P f args' R post)(h0:l.toArray[i0]?=T' o0)(hop:o0.op=.call ⟨.value (.func f),args,ts⟩)(a1:o0.guard=Y')(hf:P.funcs[f]?=T' fn)(hb:fn.body=T' c)(bb:(fn.name== "runtime.NumGoroutine")=a0a)(af:∃r R',post r R')(a5:∀p i,lk cs p=T' i->dL i ((a8 l σ.live).get p))(h:∀r R',post r R'->r.im=Z'/\cY T (be ((f,iH args' r)::L)) l.toArray l (λσ'=>Q .normal σ' R') (a8 l σ.live))(bd:Po f i0 l=true:=by kernel_rfl)(hd:iz l.toArray n=true:=by kernel_rfl)(aw:okF cs al fd l.toArray=true:=by kernel_rfl):aa P n en pn (.region id l.toArray Z') Q σ R:=by
 intro κ β a w hn hg hC;refine wp_region_any hE.hm ?_;have a0:∀(i:Nat)(o:Oper),l.toArray[i]?=T' o->∀t,o.dst=T' t->t<n:=by
  intro i o ho t ht;have:=lS.1 hd o (nK ho);rw[ht]at this;simpa using this
 have bm:∀i o,l.toArray[i]?=T' o->pP o.op=Z'/\(i≠i0->nX f o.op=a0a):=by
  intro i o ho;have a6:i<l.length:=by simpa using(ir.1 ho).1
  have h1:=fq.1 bd i (j7.2 a6);have bc:l[i]?=T' o:=by simpa using ho
  simp only[bc,dG]at h1;refine⟨h1.1,λaf=>?_⟩;have h2:=h1.2;rw[aq af]at h2;simpa using h2
 have ay:av κ β σ.live.get σ.live.ae a w:=by
  rw[St.iD,St.gm];exact hC.drop (nD _)
 have ax:av κ β (a8 l σ.live).get (a8 l σ.live).ae a {w with drawn:=w.drawn+1}:=(rv l σ.live ay).below (sQ w);have hinv:Inv l.toArray (Array.replicate l.toArray.size a0a) ((a8 l σ.live).get,(a8 l σ.live).ae):=by
  intro i o ho _ hA d hd u;exact yX l σ.live o (by simpa using nK ho) hA d hd u
 have a7:Lv (a8 l σ.live).ae:=by
  have hb:∀(l:List Oper)(σ:St),Lv σ.ae->Lv (a8 l σ).ae:=by
   intro l
   induction l with
   |nil=>intro σ h;exact h
   |cons o l ih=>
    intro σ h;simp only[a8];split
    .exact ih _ (λi b hi=>by
      simp only[St.kill,St.ae,nC]at hi;split at hi
      .cases hi
      .exact h i b hi)
    .exact ih _ h
  exact hb l _ (by rw[St.gm];exact Bg _)
 have a3:i0<l.length:=by simpa using(ir.1 h0).1
 have:=JD (P:=P) (κ:=κ) (en:=en) (pn:=pn) (n:=n) hE.hT hE.hS aw h0 hop a1 bm hG hf hb bb af (Qf:=λr R' s=>∃σ',Q .normal σ' R'/\s=(σ'.get,σ'.ae)) a0
  (Q:=λe a' w'=>∃ab σ' ao R',Q e σ' R'/\ab.nt=n/\cK en pn R' ab/\av ab ao σ'.get σ'.ae a' w')
  (λr R' s ab ao a' w'⟨σ',q1,q2⟩q3 q4 q5=>⟨ab,σ',ao,R',q1,q3,q4,by rw[q2]at q5;exact q5⟩) hn hg l.length (Array.replicate l.toArray.size a0a) _ β a {w with drawn:=w.drawn+1} J' (by simp[Array.getD,a3]) a7 ax hinv
  (λr R' hp=>by
   obtain⟨h1,h2⟩:=h r R' hp;refine⟨h1,?_⟩;exact xP (T:=T) (ops:=l.toArray) aw (K:=λσ'=>Q .normal σ' R') l 0 (Array.replicate l.toArray.size a0a) (a8 l σ.live) J' J' f'
    (λj _ hj=>by
     have a4:j<l.length:=by simpa using hj
     simp[Array.getD,a4]) hinv ⟨a5,λp i hp hl=>by
     rcases dQ i l.toArray.size with h'|h'
     .simp[Array.getD]at hl
     .simp[Array.getD]at hl,λp i b hp hl=>by
     rcases dQ i l.toArray.size with h'|h'
     .simp[Array.getD]at hl
     .simp[Array.getD]at hl⟩ h2)
 simpa using this
def AV.flat:AV->Bool
 |.r _=>Z'
 |.any=>Z'
 |.agg cs=>cs.all λc=>match c with|.r _=>Z'|.any=>Z'|_=>a0a
 |.aU cs=>cs.all λc=>match c with|.r _=>Z'|.any=>Z'|.agg ds=>ds.all (λd=>match d with|.r _=>Z'|.any=>Z'|_=>a0a)|_=>a0a
 |_=>a0a
theorem Hj{X X':Nat->Prop}{r:AV}{v:Value}(h:r.flat=Z')(hr:RI w X r v):RI w X' r v:=by
 have h1:∀(c:AV)(v:Value),(match c with|.r _=>Z'|.any=>Z'|_=>a0a)=Z'->RI w X c v->RI w X' c v:=by
  intro c v hc hr;cases hr with
  |any=>exact .any _
  |r=>exact .r _
  |_=>cases hc
 cases hr with
 |any=>exact .any _
 |r=>exact .r _
 |agg cs vs f hl h2 h3=>exact .agg cs vs f hl h2 (λj c hj=>h1 c _ (fq.1 h c (kL hj)) (h3 j c hj))
 |aU cs vs f hl h2 h3=>
  refine .aU cs vs f hl h2 (λj c hj=>?_);have hc:=fq.1 h c (kL hj);have hr:=h3 j c hj;generalize f j=u at hr;cases hr with
  |any=>exact .any _
  |r=>exact .r _
  |agg cs vs f hl h2 h3=>exact .agg cs vs f hl h2 (λj c hj=>h1 c _ (fq.1 hc c (kL hj)) (h3 j c hj))
  |_=>cases hc
 |_=>cases h
theorem aA.PU{c:Code}{args args':List AV}{r:AV}(hf:P.funcs[f]?=T' fn)(hb:fn.body=T' c)(aw:(fn.name== "runtime.NumGoroutine")=a0a)(h:dh P f args' r)(hl:args.length=args'.length)(hr:r.flat=Z')(hR:∀w X fp,R.rel w fp X->(∀b,fp b->X b)->∀(j:Nat)(c c':AV),args[j]?=T' c->args'[j]?=T' c'->∀v,RI w X c v->RI w (λb=>X b/\¬fp b) c' v):aA P f args R (λr' R'=>r'=r/\R'=R):=by
 intro w X fp vs hX ab ao hlen ha;rcases h w (λb=>X b/\¬fp b) vs (λb hb=>hX b hb.1) f' (λj c' hj=>by
  have af:j<args.length:=by have:=(iu.1 hj).1;omega
  obtain⟨v,v1,v2⟩:=ha j args[j] (by simp[af]);exact⟨v,v1,hR w X fp ao ab j _ c' (by simp[af]) hj v v2⟩)with⟨v,h1,h2⟩|⟨h1,h2⟩
 .rw[pR hf hb aw]at h1;cases h1
 .refine h2.mono λe w'⟨v,k1,k2,k3⟩=>?_
  exact⟨v,r,R,fp,k1,⟨rfl,rfl⟩,R.loc k3.size (λb hb _=>k3.block b hb) (λb _ hb=>hb.elim id (ab b)) ao,Hj hr k2,λ_ _ h=>h,⟨k3.os,k3.tape,k3.output,k3.size,λb hb _=>k3.block b hb⟩⟩
end
end
end
def GA.free(R:GA):Prop:=∀w fp X X',R.rel w fp X->R.rel w fp X'
def vX(σ:St)(t:Nat)(cs:List AV):St:=⟨(t,.vp cs)::del (σ.fr.map λp=>(p.1,if p.2.im then p.2 else .any)) t,[]⟩
def AM(σ:St):St:=⟨σ.fr.map λp=>(p.1,if p.2.flat then p.2 else .any),[]⟩
attribute [push_cast] vX AM AV.flat
theorem OA(f:AV->AV)(l:List (Nat×AV))(t:Nat):lk (l.map λp=>(p.1,f p.2)) t=(lk l t).map f:=by
 induction l with
 |nil=>rfl
 |cons p l ih=>
  obtain⟨k,v⟩:=p;simp only[fX,lk];split
  .rfl
  .exact ih
theorem Yu(σ:St)(t:Nat):(AM σ).get t=if(σ.get t).flat then σ.get t else .any:=by
 unfold AM St.get;rw[OA (λv=>if v.flat then v else .any)];cases lk σ.fr t with
 |none=>rfl
 |some v=>rfl
theorem Yv(σ:St)(t:Nat)(cs:List AV)(u:Nat):(vX σ t cs).get u=if u=t then .vp cs else if(σ.get u).im then σ.get u else .any:=by
 unfold vX St.get;simp only[lk]
 by_cases h:u=t
 .subst h;simp
 .rw[aq (λe=>h e.symm),aq h,nC,aq (λe=>h e.symm),OA (λv=>if v.im then v else .any)]
  cases lk σ.fr u with
  |none=>rfl
  |some v=>rfl
theorem XA{v:AV}(h:v.flat=Z'):v.im=true:=by
 cases v<;>first|rfl|(simp[AV.flat]at h)
section
variable {P:Program}{n:Nat}{en:dK}{pn:Nat->Option Nat}{R A:GA}{σ:St}
theorem aa.frozen{c:Code}{Q:Exit->St->GA->Prop}{b t:Nat}{cs:List AV}(bm:∀id,pn id=Y')(ht:σ.get t=.r (.pointer (T' ⟨b,0,Y'⟩)))
 (bn:∀w fp X X',A.rel w fp X->(∀c,X' c->¬fp c)->RI w X' (.vp cs) (.pointer (T' ⟨b,0,Y'⟩)))
 (h:∀ab,aa P n ab (λ_=>Y') c (λe σ' R'=>R'.free/\Q e (AM σ') (R'.star A)) (vX σ t cs) R):aa P n en pn c Q σ (R.star A):=by
 intro κ β a w hn hg hC;obtain⟨fp,⟨f,g,k1,k2,k3,k4⟩,g2,g3,g4⟩:=hg.now hC;have ay:∀b,XG κ β σ.ae b->b<w.heap.size:=λb hb=>hC.qV hb
 have aw:∀b,f b->XG κ β σ.ae b:=λb hb=>.inl (g2 b ((k1 b).2 (.inl hb)))
 obtain⟨X',eX⟩:∃X':Nat->Prop,X'=λb=>XG κ β σ.ae b/\¬g b:=⟨_,rfl⟩
 have x1:∀b,X' b->XG κ β σ.ae b/\¬g b:=λb hb=>by rw[eX]at hb;exact hb
 have x2:∀b,XG κ β σ.ae b->¬g b->X' b:=λb h1 h2=>by rw[eX];exact⟨h1,h2⟩
 have ab:∃ab:dK,ab.W=w/\ab.X=X'/\ab.fp=f/\ab.D=en.D:=⟨⟨w,X',f,λb hb=>x2 b (aw b hb) (k2 b hb),λb hb=>ay b (x1 b hb).1,en.D⟩,rfl,rfl,rfl,rfl⟩;obtain⟨ab,e1,e2,e3,e4⟩:=ab;have bc:cK ab (λ_=>Y') R ⟨n,w,X',Y',λ_=>False,en.D,λ_=>Y'⟩:=
  ⟨rfl,e4.symm,rfl,⟨f,R.loc (aM _) (λ_ _ _=>rfl) (λb _ hx=>hx.elim (λhx=>(x1 b hx).1) (λh=>h.elim)) k3,λb hb=>x2 b (aw b hb) (k2 b hb),λb _ hb=>by rw[e3];exact hb⟩,
   λb hb=>.inl (by rw[e2]at hb;exact hb),λb hb _=>by rw[e2];exact hb,λ_ _ h=>h.elim,λ_ _ _=>by rw[e1],by rw[e1],by rw[e1],by rw[e1],by rw[e1];exact aM _⟩
 have a0:∀b,XG ⟨n,w,X',Y',λ_=>False,en.D,λ_=>Y'⟩ (λ_=>Y') (vX σ t cs).ae b->X' b:=λb hb=>by
  rcases hb with hb|⟨_,_,_,q,_⟩
  .exact hb
  .cases q
 have a7:av ⟨n,w,X',Y',λ_=>False,en.D,λ_=>Y'⟩ (λ_=>Y') (vX σ t cs).get (vX σ t cs).ae a w:=by
  refine⟨hC.sz.trans hn,λu=>?_,hC.gp.trans hg.df,λid ae hi=>(by cases hi),λi j b c x y _ hx=>(by cases hx),⟨rfl,rfl,rfl,aM _,λ_ _ _=>rfl,λ_ _ _ hm=>(by cases hm)⟩,λb hb=>⟨ay b (x1 b hb).1,λh=>h.elim⟩,λ_ _ h=>(by cases h)⟩;rw[Yv];split
  .rename_i e
   subst e;have hv:=hC.rel u;rw[ht]at hv;have hv:=RI.aS hv;rw[hv];exact RV.of rfl (bn w g _ _ k4 (λc hc=>(x1 c (a0 c hc)).2))
  .split
   .rename_i ao
    refine RV.of ao (((hC.rel u).ri ao).cW (dZ.refl _ _) (λb _ hb=>(x1 b (a0 b hb)).1))
   .exact RI.any _
 refine wp_mono (h ab _ _ a w rfl bc a7) λe a' w'⟨κ',σ',β',R',⟨hfree,hq⟩,hn',hg',hC'⟩=>?_
 obtain⟨fp',m1,m2,m3,m4⟩:=hg'.now hC';rw[e1]at m3;rw[e3]at m3;have a5:w.heap.size<=w'.heap.size:=by have:=fC hg'.size hC'.aQ.size;rw[e1]at this;exact this
 have a6:∀b,b<w.heap.size->¬f b->w'.heap[b]?=w.heap[b]?:=λb hb hf=>by
  have ax:b<ab.W.heap.size:=by rw[e1];exact hb
  have a3:¬ab.fp b:=by rw[e3];exact hf
  rw[hC'.aQ.same hg'.mu ⟨da ax hg'.size,λho=>absurd (hg'.ow b ax ho) a3⟩,hg'.old b ax a3,e1]
 have bb:lU fp w w':=⟨by rw[hC'.aQ.os,hg'.os,e1],by rw[hC'.aQ.tape,hg'.tape,e1],by rw[hC'.aQ.output,hg'.output,e1],a5,λb hb hf=>a6 b hb (λh=>hf ((k1 b).2 (.inl h)))⟩;obtain⟨br,h1,h2,h3,h4⟩:=hg.call (w':=w') (R':=R'.star A) (fp':=λb=>fp' b\/g b) hC g2 g3
  ⟨fp',g,λ_=>dr,λb hb af=>by
   have bd:b<w.heap.size:=A.lt k4 b af;exact k2 b (m3 b bd hb) af,hfree _ _ _ _ m1,A.loc a5 (λb hb hh=>a6 b hb (λhf=>hh.elim (λaf=>k2 b hf af) (λhx=>hx (aw b hf)))) (λb hb hx=>hx.elim id (λhx=>hx.elim (λh=>aw b (m3 b hb h)) (λaf=>.inl (g2 b ((k1 b).2 (.inr af)))))) k4⟩
  (λb hb hx=>(k1 b).2 (hx.imp (m3 b hb) id)) bb
 have a1:=h3.drop (G':=λ_=>Y') (λ_=>.inr rfl);refine⟨br,AM σ',β,R'.star A,hq,h1.trans hn,h2,⟨hC'.sz.trans (hn'.trans (h1.trans hn).symm),λu=>?_,?_,λid ae hi=>(by cases hi),λi j b c x y _ hx=>(by cases hx),a1.aQ,a1.x0,λid b hp=>?_⟩⟩
 .rw[Yu]
  split
  .rename_i a4
   have ao:(σ'.get u).im=true:=XA a4;exact RV.of ao (Hj a4 ((hC'.rel u).ri ao))
  .exact RI.any _
 .rw[hC'.gp,hg'.df,h2.df,e4]
 .rw[h2.bC,bm]at hp;cases hp
end
end Go.Hl
