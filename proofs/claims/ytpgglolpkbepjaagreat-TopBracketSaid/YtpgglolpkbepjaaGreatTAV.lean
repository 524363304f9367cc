/- Lemmas for TopSound and TopBracket. -/
import Derived.Test.YtpgglolpkbepjaaGreatTAU
set_option linter.unusedVariables false
set_option linter.unusedSimpArgs false
namespace Go.Hl
open Option renaming some→T',none→Y'
open Bool renaming true→Z',false→a0a
open Go Go.RowKit
set_option maxHeartbeats 4000000
section
variable {P:Program}{T:aL}{L:List (Nat×Sp)}{κ:Ctx}{β:Nat->Option (Nat×Nat)}{F:Nat->AV}{G:Nat->Option cq}{a:Act}{w:World}{ops:Array Oper}{cs al:List (Nat×Nat)}{fd:List (Nat×Nat×Nat)}{n:Nat}{en:dK}{pn:Nat->Option Nat}{R:GA}{σ:St}
theorem aa.Qs(i0:Nat)(cs al:List (Nat×Nat))(fd:List (Nat×Nat×Nat)){id:Nat}{l:List Oper}{Q:Exit->St->GA->Prop}{f:FuncId}{fn:Func}{c:Code}{args':List AV}{post:AV->GA->Prop}{o0:Oper}{args:Array Operand}{ts:Array TypeId}(hE:Env P T (be L))
 (hG:aA P f args' R post) (h0:l.toArray[i0]?=T' o0) (hop:o0.op=.call ⟨.value (.func f),args,ts⟩) (af:o0.guard=Y') (hf:P.funcs[f]?=T' fn) (hb:fn.body=T' c) (bn:(fn.name== "runtime.NumGoroutine")=a0a) (ay:∃r R',post r R')
 (a3:∀p i,lk cs p=T' i->dL i ((a8 l σ.live).get p))
 (h:∀r R',post r R'->r.im=Z'/\cY T (be ((f,iH args' r)::L)) l.toArray l (λσ'=>Q .normal σ' R') (a8 l σ.live))
 (bs:Po f i0 (cT l)=true:=by kernel_rfl) (hd:iz (cT l).toArray n=true:=by kernel_rfl) (a4:okF cs al fd (cT l).toArray=true:=by kernel_rfl):aa P n en pn (.region id l.toArray Z') Q σ R:=by
 intro κ β a w hn hg hC;refine wp_region_any hE.hm (EX _ _ _ _ (Cl.start _ _) ?_);have aw:a8 (cT l) σ.live=a8 l σ.live:=C8 (jo l.toArray) (λo=>⟨rfl,rfl⟩) l σ.live;have ao:(cT l).toArray[i0]?=T' (jo l.toArray o0):=by rw[uo,h0];rfl
 have a0:(jo l.toArray o0).op=.call ⟨.value (.func f),args,ts⟩:=hop;have ax:(jo l.toArray o0).guard=none:=af;have h':∀r R',post r R'->r.im=Z'/\cY T (be ((f,iH args' r)::L)) (cT l).toArray (cT l) (λσ'=>Q .normal σ' R') (a8 (cT l) σ.live):=λr R' hp=>⟨(h r R' hp).1,by rw[aw];exact uX l l _ (h r R' hp).2⟩
 rw[<-aw]at a3;rw[<-Gl];clear h h0 hop af aw;generalize jo l.toArray o0=o0 at ao a0 ax;generalize cT l=l at*;have h:=h';have h0:=ao;have hop:=a0;have af:=ax;clear h' ao a0 ax;have a7:∀(i:Nat)(o:Oper),l.toArray[i]?=T' o->∀t,o.dst=T' t->t<n:=by
  intro i o ho t ht;have:=lS.1 hd o (nK ho);rw[ht]at this;simpa using this
 have bt:∀i o,l.toArray[i]?=T' o->pP o.op=Z'/\(i≠i0->nX f o.op=a0a):=by
  intro i o ho;have bd:i<l.length:=by simpa using(ir.1 ho).1
  have h1:=fq.1 bs i (j7.2 bd);have br:l[i]?=T' o:=by simpa using ho
  simp only[br,dG]at h1;refine⟨h1.1,λay=>?_⟩;have h2:=h1.2;rw[aq ay]at h2;simpa using h2
 have a6:av κ β σ.live.get σ.live.ae a w:=by
  rw[St.iD,St.gm];exact hC.drop (nD _)
 have a5:av κ β (a8 l σ.live).get (a8 l σ.live).ae a {w with drawn:=w.drawn+1}:=(rv l σ.live a6).below (sQ w);have hinv:Inv l.toArray (Array.replicate l.toArray.size a0a) ((a8 l σ.live).get,(a8 l σ.live).ae):=by
  intro i o ho _ hA d hd u;exact yX l σ.live o (by simpa using nK ho) hA d hd u
 have bm:Lv (a8 l σ.live).ae:=by
  have hb:∀(l:List Oper)(σ:St),Lv σ.ae->Lv (a8 l σ).ae:=by
   intro l
   induction l with
   |nil=>intro σ h;exact h
   |cons o l ih=>
    intro σ h;simp only[a8];split
    .exact ih _ (λi b hi=>by
      simp only[St.kill,St.ae,nC]at hi;split at hi
      .cases hi
      .exact h i b hi)
    .exact ih _ h
  exact hb l _ (by rw[St.gm];exact Bg _)
 have bb:i0<l.length:=by simpa using(ir.1 h0).1
 have:=JD (P:=P) (κ:=κ) (en:=en) (pn:=pn) (n:=n) hE.hT hE.hS a4 h0 hop af bt hG hf hb bn ay (Qf:=λr R' s=>∃σ',Q .normal σ' R'/\s=(σ'.get,σ'.ae)) a7
  (Q:=λe a' w'=>∃ab σ' a1 R',Q e σ' R'/\ab.nt=n/\cK en pn R' ab/\av ab a1 σ'.get σ'.ae a' w')
  (λr R' s ab a1 a' w'⟨σ',q1,q2⟩q3 q4 q5=>⟨ab,σ',a1,R',q1,q3,q4,by rw[q2]at q5;exact q5⟩) hn hg l.length (Array.replicate l.toArray.size a0a) _ β a {w with drawn:=w.drawn+1} J' (by simp[Array.getD,bb]) bm a5 hinv
  (λr R' hp=>by
   obtain⟨h1,h2⟩:=h r R' hp;refine⟨h1,?_⟩;exact xP (T:=T) (ops:=l.toArray) a4 (K:=λσ'=>Q .normal σ' R') l 0 (Array.replicate l.toArray.size a0a) (a8 l σ.live) J' J' f'
    (λj _ hj=>by
     have bc:j<l.length:=by simpa using hj
     simp[Array.getD,bc]) hinv ⟨a3,λp i hp hl=>by
     rcases dQ i l.toArray.size with h'|h'
     .simp[Array.getD]at hl
     .simp[Array.getD]at hl,λp i b hp hl=>by
     rcases dQ i l.toArray.size with h'|h'
     .simp[Array.getD]at hl
     .simp[Array.getD]at hl⟩ h2)
 simpa using this
end
section
variable {A B:GA}
theorem GA.eq(h:A.le B)(k:B.le A):A=B:=by
 have e:A.rel=B.rel:=funext λw=>funext λfp=>funext λX=>propext ⟨h w fp X,k w fp X⟩
 cases A;cases B;cases e;rfl
theorem GA.afp(A B:GA):A.star B=B.star A:=GA.eq (GA.comm A B) (GA.comm B A)
theorem GA.EN(A B C:GA):(A.star B).star C=A.star (B.star C):=GA.eq (GA.assoc A B C) (GA.Ag A B C)
instance:Std.Commutative GA.star:=⟨GA.afp⟩
instance:Std.Associative GA.star:=⟨GA.EN⟩
theorem GA.le_eq(h:A=B):A.le B:=h▸GA.le.refl A
end
section
variable {r:AV}{post:AV->GA->Prop}{a:Act}{K:Act->World->Prop}{args:Array Operand}{Q:Exit->Act->World->Prop}{S:FuncId->Option Sp}{aas:List AV}{l:List Oper}{s:NS}{i id:Nat}{o o0:Oper}{w:World}{W:World->Prop}
inductive mc
 |look (x:Operand) (u:Value) (r:AV)
 |spec (args:Array Operand) (args':List AV) (r:AV)
abbrev Tw:=List (Option mc)
def fl(i:Nat)(o:Oper):Option mc->Oper
 |none=>o
 |some (.look x _ _)=>{o with op:=.call ⟨.value (.func (800000+i)),#[x],#[]⟩}
 |some (.spec args _ _)=>{o with op:=.call ⟨.value (.func (800000+i)),args,#[]⟩}
def ck:Nat->List Oper->Tw->List Oper
 |_,[],_=>[]
 |_,o::os,[]=>o::os
 |i,o::os,k::ks=>fl i o k::ck (i+1) os ks
def dF:Nat->Tw->List (Nat×Sp)->List (Nat×Sp)
 |_,[],L=>L
 |i,Y'::ks,L=>dF (i+1) ks L
 |i,T' (.look _ u r)::ks,L=>(800000+i,iH [.r u] r)::dF (i+1) ks L
 |i,T' (.spec _ aas r)::ks,L=>(800000+i,iH aas r)::dF (i+1) ks L
def mc.sp:mc->Sp
 |.look _ u r=>iH [.r u] r
 |.spec _ aas r=>iH aas r
theorem tO:∀(l:List Oper)(ks:Tw)(i j:Nat),(ck i l ks)[j]?=(l[j]?).map λo=>fl (i+j) o (ks.getD j Y')
 |[],ks,i,j=>by simp[ck]
 |o::os,[],i,j=>by
  have:∀o:Oper,fl (i+j) o Y'=o:=λ_=>rfl
  simp[ck,this]
 |o::os,k::ks,i,0=>by simp[ck]
 |o::os,k::ks,i,j+1=>by
  simp only[ck,Ki,Cq];rw[tO os ks (i+1) j];rw[show i+1+j=i+(j+1)from f']
theorem ve:∀(l:List Oper)(ks:Tw)(i:Nat),(ck i l ks).length=l.length
 |[],_,_=>rfl
 |o::os,[],_=>rfl
 |o::os,k::ks,i=>by simp only[ck,gM,ve os ks (i+1)]
theorem BQ(i:Nat)(o:Oper)(k:Option mc):(fl i o k).dst=o.dst:=by rcases k with _|k;rfl;cases k<;>rfl
theorem Jn(i:Nat)(o:Oper)(k:Option mc):(fl i o k).after=o.after:=by rcases k with _|k;rfl;cases k<;>rfl
theorem zo:∀(ks:Tw)(i j:Nat)(L:List (Nat×Sp))(k:mc),ks.getD j Y'=T' k->lk (dF i ks L) (800000+(i+j))=T' k.sp
 |[],i,j,L,k,h=>by simp at h
 |k'::ks,i,0,L,k,h=>by
  simp only[Kh]at h;subst h;cases k<;>simp[dF,lk,mc.sp]
 |k'::ks,i,j+1,L,k,h=>by
  simp only[Cq]at h;have ih:=zo ks (i+1) j L k h;rw[show i+1+j=i+(j+1)from f']at ih;rcases k' with _|k'
  .exact ih
  .cases k'<;>(simp only[dF,lk];rw[aq f'];exact ih)
def tx:Op->Bool
 |.call ⟨.value (.func g),_,_⟩=>decide (g<800000)
 |o=>pP o
theorem yM{o:Op}(h:tx o=Z'):pP o=Z'/\∀g,800000<=g->nX g o=false:=by
 unfold tx at h;split at h
 .rename_i g _ _
  refine⟨rfl,λg' hg=>?_⟩;have:=js h;simp only[nX,mH];exact λe=>absurd this (KD.2 (e▸hg))
 .rename_i ab
  refine⟨h,λg' hg=>?_⟩;unfold nX;split
  .exact(ab _ _ _ rfl).elim
  .rfl
def mc.res:mc->AV
 |.look _ _ r=>r
 |.spec _ _ r=>r
def mc.A1:mc->Bool
 |.look _ _ _=>Z'
 |.spec _ _ _=>a0a
def vf(l:List Oper)(ks:Tw)(i0:Option Nat):Bool:=(List.range l.length).all λi=>match l[i]? with
 |some o=>(match ks.getD i Y' with
  |none=>tx o.op&& !(i0==T' i)
  |some k=>o.guard.isNone&&(k.A1&&k.res.im||i0==T' i))
 |none=>Z'
section
variable {P:Program}{T:aL}{L:List (Nat×Sp)}{κ:Ctx}{ops ops':Array Oper}{ks:Tw}{cs al:List (Nat×Nat)}{fd:List (Nat×Nat×Nat)}{n:Nat}{en:dK}{pn:Nat->Option Nat}{R:GA}{σ:St}
theorem sU(h1:pP o.op=Z')(h2:∀g,800000<=g->nX g o.op=a0a):∀(ks:Tw)(i:Nat),aY T (be (dF i ks L)) ops o s=aY T (be L) ops o s
 |[],_=>rfl
 |none::ks,i=>sU h1 h2 ks (i+1)
 |some (.look x u r)::ks,i=>by
  rw[dF,AD h1 (h2 _ (Nat.le_add_right _ _))];exact sU h1 h2 ks (i+1)
 |some (.spec x u r)::ks,i=>by
  rw[dF,AD h1 (h2 _ (Nat.le_add_right _ _))];exact sU h1 h2 ks (i+1)
structure j9(ops ops':Array Oper)(ks:Tw):Prop where
 get:∀j,ops'[j]?=(ops[j]?).map λo=>fl j o (ks.getD j Y')
 size:ops'.size=ops.size
theorem j9.of(l:List Oper)(ks:Tw):j9 l.toArray (ck 0 l ks).toArray ks:=
 ⟨λj=>by simpa using tO l ks 0 j,by simp[ve]⟩
theorem j9.ready(h:j9 ops ops' ks)(li:Array Bool):Region.ready .any ops li=Region.ready .any ops' li:=by
 unfold Region.ready;rw[h.size];refine List.filter_congr λj _=>?_
 rw[h.get j];cases hj:ops[j]? with
 |none=>rfl
 |some o=>simp only[ft,Jn]
theorem j9.yielded(h:j9 ops ops' ks)(tm:Array Value):yielded ops tm=yielded ops' tm:=by
 funext j
 unfold Go.yielded;rw[h.get j];cases ops[j]? with
 |none=>rfl
 |some o=>simp only[ft,Option.bind_some,BQ]
theorem j9.wpOp(h:j9 ops ops' ks)(hi:ks.getD i Y'=Y')(k:wpOp P ops' Q i K a w):wpOp P ops Q i K a w:=by
 unfold Go.wpOp at k|-;rw[h.get i,hi]at k;rw[h.yielded];cases ho:ops[i]? with
 |none=>rw[ho]at k;exact k
 |some o=>rw[ho]at k;exact k
theorem AB(hS:S (800000+i)=T' (iH aas r))(ab:o.guard=Y'):
 aY T S ops' {o with op:=.call ⟨.value (.func (800000+i)),args,#[]⟩} s=((((0:Nat)=0/\(cS T s.1 args.toList []).all AV.im=Z'/\cS T s.1 args.toList []++[]=aas)/\(comes (.call ⟨.value (.func (800000+i)),args,#[]⟩)=Z'->r.im=Z')),.put r):=by
 have af:gw ops' s.1 {o with op:=.call ⟨.value (.func (800000+i)),args,#[]⟩}=T' true:=by unfold gw;simp only[ab]
 unfold aY;rw[af];show((qd T S s.1 s.2 _).1,Ef.put (qd T S s.1 s.2 _).2)=_;have ao:qd T S s.1 s.2 {o with op:=.call ⟨.value (.func (800000+i)),args,#[]⟩}=(((0:Nat)=0/\(cS T s.1 args.toList []).all AV.im=Z'/\cS T s.1 args.toList []++[]=aas)/\(comes (.call ⟨.value (.func (800000+i)),args,#[]⟩)=Z'->r.im=Z'),r):=by
  unfold qd;simp only[qv,ev,mI,hS,iH]
 rw[ao]
theorem OK(hr:j9 ops ops' ks){β:Nat->Option (Nat×Nat)}{x:Operand}{u:Value}(hS:S (800000+i)=T' (iH [.r u] r))(ho:ops[i]?=T' o)(ab:o.guard=Y')(af:r.im=Z')(ao:∀(a:Act)(w:World),W w->a.eval x=u->∃v,(execOp a.eval o).run P w=.ok (.value v) w/\∀X,RI w X r v)(hW:W w)(hC:av κ β s.1 s.2 a w)(hd:∀t,o.dst=T' t->t<κ.nt)(h1:(aY T S ops' (fl i o (T' (.look x u r))) s).1)(hK:∀a',av κ β (dw o.dst (aY T S ops' (fl i o (T' (.look x u r))) s).2 s).1 (dw o.dst (aY T S ops' (fl i o (T' (.look x u r))) s).2 s).2 a' w->K a' w):wpOp P ops Q i K a w:=by
 unfold fl at h1 hK;rw[AB hS ab]at h1 hK;obtain⟨⟨_,_,he⟩,_⟩:=h1;rw[jx]at he;have he:[ev s.1 x]=[.r u]:=he;rw[zL]at he;have hv:=hC.ev x;rw[he.1]at hv;obtain⟨v,v1,v2⟩:=ao a w hW (RI.aS hv);unfold Go.wpOp;simp only[ho];have hw:Region.wanted o (yielded ops a.tmps)=true:=by simp[Region.wanted,ab]
 rw[hw,au rfl];refine .inl ?_;unfold Oper.wp;rw[v1];exact hK _ (hC.put hd (RV.of af (v2 _)))
theorem xg{E:List (Nat×Sp)}{dn:Nat->Prop}(hr:j9 ops ops' ks)(hT:cU P T)(hS:bh P (be L))(aw:okF cs al fd ops'=Z')(hd:∀(i:Nat)(o:Oper),ops[i]?=T' o->∀t,o.dst=T' t->t<κ.nt)(hE:∀i k,ks.getD i Y'=T' k->be E (800000+i)=T' k.sp)(ax:∀i o,ops[i]?=T' o->ks.getD i Y'=Y'->∀s:NS,aY T (be E) ops' o s=aY T (be L) ops' o s)(af:∀i o k,ops[i]?=T' o->ks.getD i Y'=T' k->o.guard=Y'/\((k.A1=Z'/\k.res.im=Z')\/dn i))(ay:∀i o x u r,ops[i]?=T' o->ks.getD i Y'=T' (.look x u r)->∀(a:Act)(w:World),W w->a.eval x=u->∃v,(execOp a.eval o).run P w=.ok (.value v) w/\∀X,RI w X r v)(hW:∀(s:NS)(β:Nat->Option (Nat×Nat))(a:Act)(w:World),av κ β s.1 s.2 a w->W w){Qf:NS->Prop}(hQ:∀s a1 a' w',Qf s->av κ a1 s.1 s.2 a' w'->Q .normal a' w'):
 ∀(fuel:Nat)(l:Array Bool)(s:NS)(β:Nat->Option (Nat×Nat))(a:Act)(w:World),(∀i,dn i->l.getD i Z'=Z')->av κ β s.1 s.2 a w->Inv ops' l s->po T (be E) ops' .any Qf fuel l s->wpAny P .any ops Q fuel l a w
 |0,l,s,β,a,w,_,hC,_,h=>⟨by rw[hr.ready];exact h.1,hQ s β a w h.2 hC⟩
 |fuel+1,l,s,β,a,w,hdn,hC,hinv,h=>by
  refine⟨λh0=>hQ s β a w (h.1 (by rw[<-hr.ready];exact h0)) hC,λi hi=>?_⟩;rw[hr.ready]at hi;obtain⟨a0,o',ab,_⟩:=mem_ready.1 hi;obtain⟨h1,h2⟩:=h.2 i hi o' ab;have hg:=hr.get i;rw[ab]at hg;cases ho:ops[i]? with
  |none=>rw[ho]at hg;cases hg
  |some o=>
   rw[ho]at hg;simp only[ft,aC]at hg;have ao:¬dn i:=λhh=>by rw[hdn i hh]at a0;cases a0
   have a4:∀j,dn j->(l.setIfInBounds i Z').getD j Z'=true:=λj hj=>by
    rw[getD_set_ne Z' (λe=>ao (by rw[e];exact hj))];exact hdn j hj
   have a6:=λ(q:(aY T (be E) ops' o' s).1)=>nS.step aw hinv ab q
   cases hk:ks.getD i Y' with
   |none=>
    rw[hk]at hg;have hg:o'=o:=hg;subst hg;have he:=ax i o' ho hk s;refine hr.wpOp hk ?_;have a3:=h1;rw[he]at a3;refine yp hT hS hC ab a3 (hinv i o' ab a0) (hd i o' ho) (λa1 a' w' hc=>?_);rw[<-he]at hc;exact xg hr hT hS aw hd hE ax af ay hW hQ fuel _ _ a1 a' w' a4 hc (a6 h1) h2
   |some k=>
    rw[hk]at hg;subst hg;obtain⟨g1,g2⟩:=af i o k ho hk;cases k with
    |spec _ _ _=>exact(g2.elim (λh=>by cases h.1) ao).elim
    |look x u r=>
     refine OK hr (hE i _ hk) ho g1 (g2.elim (λh=>h.2) (λh=>absurd h ao)) (ay i o x u r ho hk) (hW s β a w hC) hC (hd i o ho) h1 (λa' hc=>?_);have a5:=a6 h1;rw[BQ]at a5 h2;exact xg hr hT hS aw hd hE ax af ay hW hQ fuel _ _ β a' w a4 hc a5 h2
theorem vg{i0:Option Nat}(h:vf l ks i0=Z')(ho:l.toArray[i]?=T' o):(ks.getD i Y'=Y'->tx o.op=Z'/\i0≠T' i)/\∀k,ks.getD i Y'=T' k->o.guard=Y'/\((k.A1=Z'/\k.res.im=Z')\/i0=T' i):=by
 have ab:i<l.length:=by simpa using(ir.1 ho).1
 have af:l[i]?=T' o:=by simpa using ho
 have h1:=fq.1 h i (j7.2 ab);simp only[af]at h1;refine⟨λe=>by rw[e]at h1;simpa using h1,λk e=>?_⟩;rw[e]at h1;simpa using h1
theorem yA(l:List Oper)(σ:St):Inv l.toArray (Array.replicate l.toArray.size a0a) ((a8 l σ).get,(a8 l σ).ae):=by
 intro i o ho _ hA d hd u;exact yX l σ o (by simpa using nK ho) hA d hd u
theorem Ac{σ:St}{K:St->Prop}(ao:okF cs al fd l.toArray=Z')(af:∀p i,lk cs p=T' i->dL i ((a8 l σ).get p))(h:cY T S l.toArray l K (a8 l σ)):
 po T S l.toArray .any (λs=>∃σ',K σ'/\s=(σ'.get,σ'.ae)) l.length (Array.replicate l.toArray.size a0a) ((a8 l σ).get,(a8 l σ).ae):=
 xP (T:=T) (ops:=l.toArray) ao (K:=K) l 0 (Array.replicate l.toArray.size a0a) (a8 l σ) J' J' f'
  (λj _ hj=>by
   have ab:j<l.length:=by simpa using hj
   simp[Array.getD,ab]) (yA l σ) ⟨af,λp i hp hl=>by
   rcases dQ i l.toArray.size with h'|h'
   .simp[Array.getD]at hl
   .simp[Array.getD]at hl,λp i b hp hl=>by
   rcases dQ i l.toArray.size with h'|h'
   .simp[Array.getD]at hl
   .simp[Array.getD]at hl⟩ h
theorem aa.Qt(ks:Tw)(W:World->Prop)(cs al:List (Nat×Nat))(fd:List (Nat×Nat×Nat)){Q:Exit->St->GA->Prop}(hE:Env P T (be L))(ay:∀w fp X,R.rel w fp X->W w)(a3:∀i o x u r,l.toArray[i]?=T' o->ks.getD i Y'=T' (.look x u r)->∀(a:Act)(w:World),W w->a.eval x=u->∃v,(execOp a.eval o).run P w=.ok (.value v) w/\∀X,RI w X r v)(a1:∀p i,lk cs p=T' i->dL i ((a8 (ck 0 l ks) σ).get p))(h:cY T (be (dF 0 ks L)) (ck 0 l ks).toArray (ck 0 l ks) (λσ'=>Q .normal σ' R) (a8 (ck 0 l ks) σ))(ab:vf l ks Y'=true:=by kernel_rfl)(hd:iz l.toArray n=true:=by kernel_rfl)(aw:okF cs al fd (ck 0 l ks).toArray=true:=by kernel_rfl):aa P n en pn (.region id l.toArray Z') Q σ R:=by
 intro κ β a w hn hg hC;refine wp_region_any hE.hm ?_;have a0:∀(i:Nat)(o:Oper),l.toArray[i]?=T' o->∀t,o.dst=T' t->t<κ.nt:=by
  intro i o ho t ht;have:=lS.1 hd o (nK ho);rw[ht]at this;rw[hn];simpa using this
 have ax:av κ β (a8 (ck 0 l ks) σ).get (a8 (ck 0 l ks) σ).ae a {w with drawn:=w.drawn+1}:=(rv _ σ hC).below (sQ w);have:=xg (P:=P) (κ:=κ) (W:=W) (E:=dF 0 ks L) (dn:=λ_=>False) (j9.of l ks) hE.hT hE.hS aw a0 (λi k hk=>by have:=zo ks 0 i L k hk;rw[du]at this;exact this)
  (λi o ho hk s=>by
   obtain⟨q1,q2⟩:=yM ((vg ab ho).1 hk).1;exact sU q1 q2 ks 0) (λi o k ho hk=>⟨((vg ab ho).2 k hk).1,((vg ab ho).2 k hk).2.imp (λh=>h) (λh=>by cases h)⟩) a3 (λs β a w hc=>by
   obtain⟨fp,g1,_⟩:=hg.now hc;exact ay w fp _ g1) (Q:=λe a' w'=>∃ao σ' af R',Q e σ' R'/\ao.nt=n/\cK en pn R' ao/\av ao af σ'.get σ'.ae a' w')
  (λs af a' w'⟨σ',h1,h2⟩h3=>⟨κ,σ',af,R,h1,hn,hg,by rw[h2]at h3;exact h3⟩) (ck 0 l ks).length (Array.replicate (ck 0 l ks).toArray.size a0a) _ β a {w with drawn:=w.drawn+1} (λ_ h=>h.elim) ax (yA _ σ) (Ac aw a1 h)
 rw[ve]at this;simpa[ve]using this
def eR(P:Program)(o:Oper)(args:Array Operand)(aas:List AV)(R:GA)(post:AV->GA->Prop):Prop:=
 ∀(w:World)(X fp:Nat->Prop)(a:Act)(K:Act->World->Prop)(Q:Exit->Act->World->Prop),(∀b,X b->b<w.heap.size)->(∀b,fp b->X b)->R.rel w fp X->args.size=aas.length->(∀(j:Nat)(c:AV),aas[j]?=T' c->∃v:Value,(args.map a.eval)[j]?=T' v/\RI w X c v)->
  (∀v w' r R' fp',post r R'->R'.rel w' fp' (λb=>X b\/fp' b)->RI w' (λb=>X b\/fp' b) r v->(∀b,b<w.heap.size->fp' b->fp b)->lU fp w w'->K (a.put o.dst v) w')->Oper.wp P o a w K Q
theorem eR.call{f:FuncId}{fn:Func}{c:Code}{ts:Array TypeId}(hG:aA P f aas R post)(hop:o.op=.call ⟨.value (.func f),args,ts⟩)(hf:P.funcs[f]?=T' fn)(hb:fn.body=T' c)(af:(fn.name== "runtime.NumGoroutine")=a0a):eR P o args aas R post:=by
 intro w X fp a K Q hX ab hR ao ha hK;unfold Oper.wp;rw[yd o hop rfl,pR hf hb af];refine(hG w X fp (args.map a.eval) hX ab hR (by simpa using ao) ha).mono λe w'⟨v,r,R',fp',k1,k2,k3,k4,k5,k6⟩=>?_
 subst k1;exact hK v w' r R' fp' k2 k3 k4 k5 k6
theorem vN(F:Nat->AV):∀xs:List Operand,cS T F xs []=xs.map (ev F)
 |[]=>rfl
 |x::xs=>by simp only[cS,fX,vN F xs]
theorem JC(ks:AV->Tw)(hr:∀r,j9 ops ops' (ks r))(hT:cU P T)(hS:bh P (be L))(aw:okF cs al fd ops'=Z'){i0:Nat}(h0:ops[i0]?=T' o0)(a6:∀r,(ks r).getD i0 Y'=T' (.spec args aas r))(bn:∀r r' j,j≠i0->(ks r).getD j Y'=(ks r').getD j Y')(a4:o0.guard=Y')(a7:∀r i o,ops[i]?=T' o->(ks r).getD i Y'=Y'->tx o.op=Z')(hG:eR P o0 args aas R post)(ao:∃r R',post r R')(a5:∀r i o k,ops[i]?=T' o->(ks r).getD i Y'=T' k->o.guard=Y'/\((k.A1=Z'/\k.res.im=Z')\/i=i0))(bb:∀r' i o x u r,ops[i]?=T' o->(ks r').getD i Y'=T' (.look x u r)->∀(a:Act)(w:World),W w->a.eval x=u->∃v,(execOp a.eval o).run P w=.ok (.value v) w/\∀X,RI w X r v)(bd:∀w fp X,R.rel w fp X->W w)(bm:∀r R',post r R'->∀w fp X,R'.rel w fp X->W w){Qf:AV->GA->NS->Prop}(hd:∀(i:Nat)(o:Oper),ops[i]?=T' o->∀t,o.dst=T' t->t<n)(hQ:∀r R' s ay a3 a' w',Qf r R' s->ay.nt=n->cK en pn R' ay->av ay a3 s.1 s.2 a' w'->Q .normal a' w')(hn:κ.nt=n)(hg:cK en pn R κ):
 ∀(fuel:Nat)(l:Array Bool)(s:NS)(β:Nat->Option (Nat×Nat))(a:Act)(w:World),l.size=ops'.size->l.getD i0 Z'=a0a->Lv s.2->av κ β s.1 s.2 a w->Inv ops' l s->
  (∀r R',post r R'->r.im=Z'/\po T (be (dF 0 (ks r) L)) ops' .any (Qf r R') fuel l s)->wpAny P .any ops Q fuel l a w
 |fuel,l,s,β,a,w,hsz,hun0,hlv,hC,hinv,h=>by
  obtain⟨r1,R1,ax⟩:=ao;have a0:ops'[i0]?=T' (fl i0 o0 (T' (.spec args aas r1))):=by rw[(hr r1).get,h0,a6];rfl
  have bx:Region.ready .any ops' l≠[]:=Ev (λj oj hj=>yS aw hj) hsz i0 i0 _ (aM _) a0 hun0;have br:∀r i k,(ks r).getD i Y'=T' k->be (dF 0 (ks r) L) (800000+i)=T' k.sp:=λr i k hk=>by
   have:=zo (ks r) 0 i L k hk;rw[du]at this;exact this
  match fuel with
  |0=>exact absurd (h r1 R1 ax).2.1 bx
  |fuel+1=>
   refine⟨λe=>absurd (by rw[<-(hr r1).ready];exact e) bx,λi hi=>?_⟩;rw[(hr r1).ready]at hi;obtain⟨bL,o',af,_⟩:=mem_ready.1 hi;have ab:=(hr r1).get i;rw[af]at ab;cases ho:ops[i]? with
   |none=>rw[ho]at ab;cases ab
   |some o=>
   rw[ho]at ab;simp only[ft,aC]at ab
   by_cases ao:i=i0
   .subst ao
    rw[h0]at ho;simp only[aC]at ho;subst ho;clear ab af;have bt:∀r,aY T (be (dF 0 (ks r) L)) ops' (fl i o0 (T' (.spec args aas r1))) s=_:=λr=>AB (T:=T) (ops':=ops') (s:=s) (i:=i) (o:=o0) (args:=args) (aas:=aas) (r:=r) (br r i _ (a6 r)) a4
    obtain⟨m1,m2⟩:=(h r1 R1 ax).2.2 i hi _ a0;rw[bt]at m1;obtain⟨⟨_,m3,m4⟩,_⟩:=m1;rw[jx]at m4;obtain⟨fp,g1,g2,g3,g4⟩:=hg.now hC;have bD:∀(j:Nat)(c:AV),aas[j]?=T' c->∃v:Value,(args.map a.eval)[j]?=T' v/\RI w (XG κ β s.2) c v:=by
     intro j c hj;rw[<-m4,vN,gv]at hj;cases hx:args.toList[j]? with
     |none=>rw[hx]at hj;cases hj
     |some x=>
      rw[hx]at hj;simp only[ft,aC]at hj;have bw:c.im=true:=by
       rw[vN]at m3;exact fq.1 m3 c (by rw[<-hj];exact Kn (kL hx))
      have bM:args[j]?=T' x:=by simpa using hx
      refine⟨a.eval x,by rw[Fj,bM];rfl,?_⟩;rw[<-hj]at bw|-;exact(hC.ev x).ri bw
    have bK:args.size=aas.length:=by rw[<-m4,vN];simp
    unfold Go.wpOp;simp only[h0];have hw:Region.wanted o0 (yielded ops a.tmps)=true:=by simp[Region.wanted,a4]
    rw[hw,au rfl];refine .inl (hG w (XG κ β s.2) fp a _ _ (λb hb=>hC.qV hb) (λb hb=>.inl (g2 b hb)) g1 bK bD (λv w' r R' fp' k2 k3 k4 k5 k6=>?_));obtain⟨ay,e1,e2,e3,e4⟩:=hg.call hC g2 g3 k3 k5 k6;obtain⟨n1,n2⟩:=h r R' k2;obtain⟨n3,n4⟩:=n2.2 i hi _ a0;have bs:dw (fl i o0 (T' (.spec args aas r1))).dst (aY T (be (dF 0 (ks r) L)) ops' (fl i o0 (T' (.spec args aas r1))) s).2 s=(iq s.1 o0.dst r,s.2):=by
     rw[bt]
     rfl
    rw[bs]at n4;rw[DZ hlv]at e3 e4;have bA:=e3.put (d:=o0.dst) (λt ht=>by rw[e1,hn];exact hd i o0 h0 t ht) (RV.of n1 (k4.cW (dZ.refl _ _) (λb _ hb=>e4 b hb)));refine xg (κ:=ay) (W:=W) (E:=dF 0 (ks r) L) (dn:=λj=>j=i) (hr r) hT hS aw (λj o ho t ht=>by rw[e1,hn];exact hd j o ho t ht) (br r) (λj o ho hk s=>?_) (a5 r) (bb r) (λs β a w hc=>?_) (λs' a3 a' w' bF bB=>hQ r R' s' ay a3 a' w' bF (e1.trans hn) e2 bB) fuel _ _ β _ w' (λj hj=>?_) bA ?_ n4
    .obtain⟨q3,q4⟩:=yM (a7 r j o ho hk)
     exact sU q3 q4 (ks r) 0
    .obtain⟨fp,g1,_⟩:=e2.now hc
     exact bm r R' k2 w fp _ g1
    .subst hj
     have bE:j<ops'.size:=(ir.1 a0).1;simp[Array.getD,hsz,bE]
    .have:=nS.step (T:=T) (S:=be (dF 0 (ks r) L)) aw hinv a0 n3
     rw[bs]at this;exact this
   .have bz:(l.setIfInBounds i Z').getD i0 Z'=false:=by rw[getD_set_ne Z' ao];exact hun0
    cases hk:(ks r1).getD i Y' with
    |none=>
     rw[hk]at ab;have ab:o'=o:=ab;subst ab;obtain⟨p3,p4⟩:=yM (a7 r1 i o' ho hk);have he:∀r,aY T (be (dF 0 (ks r) L)) ops' o' s=aY T (be L) ops' o' s:=λr=>sU p3 p4 (ks r) 0
     have a1:(aY T (be L) ops' o' s).1:=by
      have:=((h r1 R1 ax).2.2 i hi o' af).1;rw[he]at this;exact this
     refine(hr r1).wpOp hk ?_;exact yp hT hS hC af a1 (hinv i o' af bL) (λt ht=>by rw[hn];exact hd i o' ho t ht) (λa3 a' w' hc=>JC ks hr hT hS aw h0 a6 bn a4 a7 hG ⟨r1,R1,ax⟩ a5 bb bd bm hd hQ hn hg fuel _ _ a3 a' w' (by simpa using hsz) bz (Lv.step hlv) hc (nS.step aw hinv af a1) (λr R' hp=>by
      obtain⟨n1,n2⟩:=h r R' hp;refine⟨n1,?_⟩;have:=(n2.2 i hi o' af).2;rw[he]at this;exact this))
    |some k=>
     rw[hk]at ab;subst ab;obtain⟨g1,g2⟩:=a5 r1 i o k ho hk;cases k with
     |spec _ _ _=>exact(g2.elim (λh=>by cases h.1) ao).elim
     |look x u v=>
      have a1:=λr R'(hp:post r R')=>((h r R' hp).2.2 i hi _ af).1
      have bc:∀r,be (dF 0 (ks r) L) (800000+i)=T' (iH [.r u] v):=λr=>br r i (.look x u v) (by rw[bn r r1 i ao];exact hk)
      have bH:∀r,aY T (be (dF 0 (ks r) L)) ops' (fl i o (T' (.look x u v))) s=aY T (be (dF 0 (ks r1) L)) ops' (fl i o (T' (.look x u v))) s:=λr=>by
       unfold fl;rw[AB (bc r) g1,AB (bc r1) g1]
      refine OK (hr r1) (bc r1) ho g1 (g2.elim (λh=>h.2) (λh=>absurd h ao)) (bb r1 i o x u v ho hk) ?_ hC (λt ht=>by rw[hn];exact hd i o ho t ht) (a1 r1 R1 ax) (λa' hc=>?_)
      .obtain⟨fp,g1,_⟩:=hg.now hC
       exact bd w fp _ g1
      .have bu:=nS.step aw hinv af (a1 r1 R1 ax)
       rw[BQ]at bu;refine JC ks hr hT hS aw h0 a6 bn a4 a7 hG ⟨r1,R1,ax⟩ a5 bb bd bm hd hQ hn hg fuel _ _ β a' w (by simpa using hsz) bz ?_ hc bu (λr R' hp=>?_)
       .have:=Lv.step (T:=T) (S:=be (dF 0 (ks r1) L)) (ops:=ops') (o:=fl i o (T' (.look x u v))) hlv
        rw[BQ]at this;exact this
       .obtain⟨n1,n2⟩:=h r R' hp
        refine⟨n1,?_⟩;have:=(n2.2 i hi _ af).2;rw[bH,BQ]at this;exact this
def dk(ks:Tw)(i0:Nat)(args:Array Operand)(aas:List AV)(r:AV):Tw:=ks.set i0 (T' (.spec args aas r))
theorem rU{ks:Tw}{i0:Nat}(h:i0<ks.length)(j:Nat):(dk ks i0 args aas r).getD j Y'=if j=i0 then T' (.spec args aas r)else ks.getD j none:=by
 unfold dk;rw[cF,qf]
 by_cases e:i0=j
 .subst e;simp[h]
 .rw[aq e,aq (λq=>e q.symm),cF]
theorem RM(args:Array Operand)(aas:List AV)(r r':AV):∀(l:List Oper)(ks:Tw)(i i0:Nat),ck i l (dk ks i0 args aas r)=ck i l (dk ks i0 args aas r')
 |[],ks,i,i0=>rfl
 |o::os,[],i,i0=>by simp[dk]
 |o::os,k::ks,i,0=>by simp[dk,ck,fl]
 |o::os,k::ks,i,i0+1=>by
  have:=RM args aas r r' os ks (i+1) i0;simp only[dk,gO,ck]at this|-;rw[this]
theorem Ew(i0:Nat)(args:Array Operand)(ks:Tw)(W:World->Prop)(cs al:List (Nat×Nat))(fd:List (Nat×Nat×Nat)){Q:Exit->St->GA->Prop}(hE:Env P T (be L))(h0:l.toArray[i0]?=T' o0)(hG:eR P o0 args aas R post)(bs:∃r R',post r R')(a7:∀w fp X,R.rel w fp X->W w)(bb:∀r R',post r R'->∀w fp X,R'.rel w fp X->W w)(bt:∀i o x u r,l.toArray[i]?=T' o->ks.getD i Y'=T' (.look x u r)->∀(a:Act)(w:World),W w->a.eval x=u->∃v,(execOp a.eval o).run P w=.ok (.value v) w/\∀X,RI w X r v)(a1:∀p i,lk cs p=T' i->dL i ((a8 (ck 0 l (dk ks i0 args aas (.any))) σ.live).get p))(h:∀r R',post r R'->r.im=Z'/\cY T (be (dF 0 (dk ks i0 args aas r) L)) (ck 0 l (dk ks i0 args aas (.any))).toArray (ck 0 l (dk ks i0 args aas (.any))) (λσ'=>Q .normal σ' R') (a8 (ck 0 l (dk ks i0 args aas (.any))) σ.live))(af:i0<ks.length:=by simp)(a0:o0.guard=none:=by rfl)(a3:vf l (dk ks i0 args [] .any) (T' i0)=true:=by kernel_rfl)(hd:iz l.toArray n=true:=by kernel_rfl)(aw:okF cs al fd (ck 0 l (dk ks i0 args aas (.any))).toArray=true:=by kernel_rfl):∀(κ:Ctx)(β:Nat->Option (Nat×Nat))(a:Act)(w:World),κ.nt=n->cK en pn R κ->av κ β σ.get σ.ae a w->wpAny P .any l.toArray (λe a' w'=>∃ab σ' ao R',Q e σ' R'/\ab.nt=n/\cK en pn R' ab/\av ab ao σ'.get σ'.ae a' w') l.toArray.size (Array.replicate l.toArray.size a0a) a {w with drawn:=w.drawn+1}:=by
 intro κ β a w hn hg hC;have bc:∀(i:Nat)(o:Oper),l.toArray[i]?=T' o->∀t,o.dst=T' t->t<n:=by
  intro i o ho t ht;have:=lS.1 hd o (nK ho);rw[ht]at this;simpa using this
 have bd:∀ax r r' j,(dk ks i0 args ax r).getD j Y'=Y'↔(dk ks i0 args [] r').getD j Y'=none:=λax r r' j=>by
  rw[rU af,rU af];split<;>simp
 have a6:av κ β σ.live.get σ.live.ae a w:=by
  rw[St.iD,St.gm];exact hC.drop (nD _)
 have hlen:∀r,(ck 0 l (dk ks i0 args aas r)).length=l.length:=λr=>ve _ _ _
 have ay:∀r,j9 l.toArray (ck 0 l (dk ks i0 args aas (.any))).toArray (dk ks i0 args aas r):=λr=>by rw[RM args aas .any r];exact j9.of l _
 obtain⟨l',bn⟩:=nm (ck 0 l (dk ks i0 args aas (.any)));have hlen:=hlen .any;rw[bn]at a1 h aw ay hlen;have a5:av κ β (a8 l' σ.live).get (a8 l' σ.live).ae a {w with drawn:=w.drawn+1}:=(rv _ σ.live a6).below (sQ w);have br:Lv (a8 l' σ.live).ae:=by
  have hb:∀(l:List Oper)(σ:St),Lv σ.ae->Lv (a8 l σ).ae:=by
   intro l
   induction l with
   |nil=>intro σ h;exact h
   |cons o l ih=>
    intro σ h;simp only[a8];split
    .exact ih _ (λi b hi=>by
      simp only[St.kill,St.ae,nC]at hi;split at hi
      .cases hi
      .exact h i b hi)
    .exact ih _ h
  exact hb _ _ (by rw[St.gm];exact Bg _)
 have bm:i0<l.length:=by simpa using(ir.1 h0).1
 have a4:∀r i o,l.toArray[i]?=T' o->((dk ks i0 args aas r).getD i Y'=Y'->tx o.op=Z')/\∀k,(dk ks i0 args aas r).getD i Y'=T' k->o.guard=Y'/\((k.A1=Z'/\k.res.im=Z')\/i=i0):=λr i o ho=>by
  refine⟨λhk=>((vg a3 ho).1 ((bd aas r .any i).1 hk)).1,λk hk=>?_⟩;rw[rU af]at hk
  by_cases e:i=i0
  .subst e
   refine⟨?_,.inr rfl⟩;rw[h0]at ho;cases ho;exact a0
  .rw[aq e]at hk
   have:=(vg a3 ho).2 k (by rw[rU af,aq e];exact hk);exact⟨this.1,.inl (this.2.elim (λh=>h) (λq=>absurd (Option.some.inj q).symm e))⟩
 have:=JC (P:=P) (κ:=κ) (en:=en) (pn:=pn) (n:=n) (W:=W) (λr=>dk ks i0 args aas r) ay hE.hT hE.hS aw h0 (λr=>by rw[rU af,au rfl]) (λr r' j hj=>by rw[rU af,rU af,aq hj,aq hj]) a0 (λr i o ho hk=>(a4 r i o ho).1 hk) hG bs (λr i o k ho hk=>(a4 r i o ho).2 k hk)
  (λr' i o x u r ho hk=>by
   rw[rU af]at hk;split at hk
   .cases hk
   .exact bt i o x u r ho hk) a7 bb (Qf:=λr R' s=>∃σ',Q .normal σ' R'/\s=(σ'.get,σ'.ae)) bc
  (Q:=λe a' w'=>∃ab σ' ao R',Q e σ' R'/\ab.nt=n/\cK en pn R' ab/\av ab ao σ'.get σ'.ae a' w')
  (λr R' s ab ao a' w'⟨σ',q1,q2⟩q3 q4 q5=>⟨ab,σ',ao,R',q1,q3,q4,by rw[q2]at q5;exact q5⟩) hn hg l'.length (Array.replicate l'.toArray.size a0a) _ β a {w with drawn:=w.drawn+1} J' (by simp[Array.getD,hlen,bm]) br a5 (yA _ σ.live)
  (λr R' hp=>by
   obtain⟨h1,h2⟩:=h r R' hp;exact⟨h1,Ac aw a1 h2⟩)
 rw[hlen]at this;simpa[hlen]using this
theorem aa.Qr(i0:Nat)(args:Array Operand)(ks:Tw)(W:World->Prop)(cs al:List (Nat×Nat))(fd:List (Nat×Nat×Nat)){Q:Exit->St->GA->Prop}(hE:Env P T (be L))(h0:l.toArray[i0]?=T' o0)(hG:eR P o0 args aas R post)(ay:∃r R',post r R')(ab:∀w fp X,R.rel w fp X->W w)(af:∀r R',post r R'->∀w fp X,R'.rel w fp X->W w)(a3:∀i o x u r,l.toArray[i]?=T' o->ks.getD i Y'=T' (.look x u r)->∀(a:Act)(w:World),W w->a.eval x=u->∃v,(execOp a.eval o).run P w=.ok (.value v) w/\∀X,RI w X r v)(ax:∀p i,lk cs p=T' i->dL i ((a8 (ck 0 l (dk ks i0 args aas (.any))) σ.live).get p))(h:∀r R',post r R'->r.im=Z'/\cY T (be (dF 0 (dk ks i0 args aas r) L)) (ck 0 l (dk ks i0 args aas (.any))).toArray (ck 0 l (dk ks i0 args aas (.any))) (λσ'=>Q .normal σ' R') (a8 (ck 0 l (dk ks i0 args aas (.any))) σ.live))(aw:i0<ks.length:=by simp)(ao:o0.guard=none:=by rfl)(a1:vf l (dk ks i0 args [] .any) (T' i0)=true:=by kernel_rfl)(hd:iz l.toArray n=true:=by kernel_rfl)(a0:okF cs al fd (ck 0 l (dk ks i0 args aas (.any))).toArray=true:=by kernel_rfl):aa P n en pn (.region id l.toArray Z') Q σ R:=by
 intro κ β a w hn hg hC;exact wp_region_any hE.hm (Ew i0 args ks W cs al fd hE h0 hG ay ab af a3 ax h aw ao a1 hd a0 κ β a w hn hg hC)
theorem age(l:List Oper)(ks:Tw):ck 0 (cT l) ks=cT (ck 0 l ks):=by
 refine zM λj=>?_
 have e1:(cT l)[j]?=(l[j]?).map (jo l.toArray):=by simp[cT]
 have e2:(cT (ck 0 l ks))[j]?=((ck 0 l ks)[j]?).map (jo (ck 0 l ks).toArray):=by simp[cT]
 rw[tO,e1,e2,tO];cases l[j]? with
 |none=>rfl
 |some o=>
  simp only[ft,du];have hA:rn (ck 0 l ks).toArray (fl j o (ks.getD j Y'))=rn l.toArray o:=by
   unfold rn;rw[Jn]
   congr 1
   refine fV (λf=>List.flatMap f _) (funext λe=>?_);have:=(j9.of l ks).get e.on;rw[this];cases l.toArray[e.on]? with
   |none=>rfl
   |some o'=>simp only[ft,Jn]
  have h1:∀k:Option mc,fl j (jo l.toArray o) k={fl j o k with after:=(rn l.toArray o).toArray}:=λk=>by
   rcases k with _|k
   .rfl
   .cases k<;>rfl
  rw[h1];unfold jo;rw[hA]
theorem eR.congr{o':Oper}(h:eR P o args aas R post)(h1:o'.op=o.op)(h2:o'.dst=o.dst)(h3:o'.type=o.type)(h4:o'.pos=o.pos):eR P o' args aas R post:=by
 intro w X fp a K Q hX ab hR af ha hK;have:=h w X fp a K Q hX ab hR af ha (by rw[<-h2];exact hK);cases o;cases o';cases h1;cases h2;cases h3;cases h4;exact this
theorem aa.abJ(i0:Nat)(args:Array Operand)(ks:Tw)(W:World->Prop)(cs al:List (Nat×Nat))(fd:List (Nat×Nat×Nat)){Q:Exit->St->GA->Prop}(hE:Env P T (be L))(h0:l.toArray[i0]?=T' o0)(hG:eR P o0 args aas R post)(a4:∃r R',post r R')(ax:∀w fp X,R.rel w fp X->W w)(ay:∀r R',post r R'->∀w fp X,R'.rel w fp X->W w)(a7:∀i o x u r,l.toArray[i]?=T' o->ks.getD i Y'=T' (.look x u r)->∀(a:Act)(w:World),W w->a.eval x=u->∃v,(execOp a.eval o).run P w=.ok (.value v) w/\∀X,RI w X r v)(a3:∀p i,lk cs p=T' i->dL i ((a8 (ck 0 l (dk ks i0 args aas (.any))) σ.live).get p))(h:∀r R',post r R'->r.im=Z'/\cY T (be (dF 0 (dk ks i0 args aas r) L)) (ck 0 l (dk ks i0 args aas (.any))).toArray (ck 0 l (dk ks i0 args aas (.any))) (λσ'=>Q .normal σ' R') (a8 (ck 0 l (dk ks i0 args aas (.any))) σ.live))(af:i0<ks.length:=by simp)(a0:o0.guard=none:=by rfl)(a6:vf l (dk ks i0 args [] .any) (T' i0)=true:=by kernel_rfl)(hd:iz l.toArray n=true:=by kernel_rfl)(a5:okF cs al fd (cT (ck 0 l (dk ks i0 args [] (.any)))).toArray=true:=by kernel_rfl):aa P n en pn (.region id l.toArray Z') Q σ R:=by
 have bb:∀(l:List Oper)(r r':AV)(ao:List AV),ck 0 l (dk ks i0 args aas r)=ck 0 l (dk ks i0 args ao r'):=λl r r' ao=>by
  refine zM λj=>?_
  rw[tO,tO,rU af,rU af];split<;>rfl
 have ab:ck 0 (cT l) (dk ks i0 args aas .any)=cT (ck 0 l (dk ks i0 args aas .any)):=age l _;have aw:a8 (cT (ck 0 l (dk ks i0 args aas .any))) σ.live=a8 (ck 0 l (dk ks i0 args aas .any)) σ.live:=C8 (jo _) (λo=>⟨rfl,rfl⟩) _ σ.live;have hop:∀i o,(cT l).toArray[i]?=T' o->∃o',l.toArray[i]?=T' o'/\o=jo l.toArray o':=λi o ho=>by
  rw[uo]at ho;cases h:l.toArray[i]? with
  |none=>rw[h]at ho;cases ho
  |some o'=>rw[h]at ho;cases ho;exact⟨o',h,rfl⟩
 intro κ β a w hn hg hC;refine wp_region_any hE.hm (EX _ _ _ _ (Cl.start _ _) ?_);have key:=Ew (P:=P) (T:=T) (L:=L) (n:=n) (en:=en) (pn:=pn) (R:=R) (σ:=σ) (Q:=Q) i0 args ks W cs al fd (l:=cT l) (o0:=jo l.toArray o0) (post:=post) (aas:=aas) hE (by rw[uo,h0];rfl) (hG.congr rfl rfl rfl rfl) a4 ax ay (λi o x u r ho hk a w hw hx=>by
  obtain⟨o',q1,rfl⟩:=hop i o ho;obtain⟨v,v1,v2⟩:=a7 i o' x u r q1 hk a w hw hx;exact⟨v,by rw[<-v1];rfl,v2⟩) (by rw[ab,aw];exact a3) (λr R' hp=>⟨(h r R' hp).1,by rw[ab,aw];exact uX _ _ _ (h r R' hp).2⟩) af a0
  (by
   refine fq.2 λi hi=>?_
   have a1:i<l.length:=by simpa[cT]using hi
   have h1:=fq.1 a6 i (j7.2 a1);have e1:(cT l)[i]?=(l[i]?).map (jo l.toArray):=by simp[cT]
   rw[e1];cases ho:l[i]? with
   |none=>rfl
   |some o=>rw[ho]at h1;exact h1)
  (by
   refine lS.2 λo ho=>?_
   obtain⟨i,hi⟩:=Array.getElem?_of_mem ho;obtain⟨o',q1,rfl⟩:=hop i o hi;exact lS.1 hd o' (nK q1)) (by rw[ab,bb l .any .any []];exact a5) κ β a w hn hg hC
 rw[show l.toArray.size=(cT l).toArray.size from(Gl l).symm];simpa using key
end
end
end Go.Hl
