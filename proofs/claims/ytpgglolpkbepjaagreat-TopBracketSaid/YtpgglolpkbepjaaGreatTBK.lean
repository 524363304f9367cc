/- Lemmas for TopSound and TopBracket. -/
import Derived.Test.YtpgglolpkbepjaaGreatTBJ
set_option linter.unusedVariables false
set_option linter.unusedSimpArgs false
namespace Go.Hl
open Go.Proofs.Tryz
open Go.Proofs.Tryz renaming prog→a0c
open Option renaming some→T',none→Y'
open Bool renaming true→Z',false→a0a
open Go Go.RowKit
set_option maxHeartbeats 8000000
set_option maxRecDepth 100000
section
open Go.Proofs
section
variable {li:Array Bool}{i j:Nat}{o:Oper}
def xR(l:List Oper):Bool:=(List.range l.length).all λi=>match l[i]? with
 |some o=>o.guard.isNone&&o.after.all (λe=> !Region.binds .any e||decide (e.on<i))
 |none=>Z'
theorem Fs{l:List Oper}(h:Cl l.toArray li):Cl (cT l).toArray li:=by
 intro i o ho hi e he hb;rw[uo]at ho;cases hl:l.toArray[i]? with
 |none=>rw[hl]at ho;cases ho
 |some o0=>
  rw[hl]at ho;cases ho;have ab:e∈rn l.toArray o0:=by simpa[jo]using he
  unfold rn at ab;rcases jm.1 ab with h1|h1
  .exact h i o0 hl hi e (by simpa using h1) hb
  .obtain⟨e',h2,h3⟩:=FG.1 h1
   obtain⟨h4,h5⟩:=FE.1 h2;have h6:=h i o0 hl hi e' (by simpa using h4) h5;split at h3
   .rename_i o' af
    exact h _ o' af h6 e (by simpa using h3) hb
   .cases h3
theorem Qn{l:List Oper}(h:Cl l.toArray li)(j:Nat):j∈Region.ready .any l.toArray li↔j∈Region.ready .any (cT (cT (cT l))).toArray li:=
 (yW h j).trans ((yW (Fs h) j).trans (yW (Fs (Fs h)) j))
def Aj(l:List Oper)(m:Nat):Bool:=(List.range l.length).all λi=>decide (i<m)||match(cT (cT (cT l)))[i]? with
 |some o=>(List.range i).all λj=>o.after.any λe=>Region.binds .any e&&decide (e.on=j)
 |none=>Z'
section
variable {P:Program}{l:List Oper}{m:Nat}{Q Q1:Exit->Act->World->Prop}
theorem uE(h1:li.getD j Z'=a0a)(h2:li.getD j a0a=Z'):False:=by
 simp only[Array.getD]at h1 h2;split at h1<;>simp_all
theorem Ai(h:xR l=Z')(ho:l.toArray[i]?=T' o):o.guard=Y'/\∀e∈o.after,Region.binds .any e=Z'->e.on<i:=by
 have ab:l[i]?=T' o:=by simpa using ho
 have af:i<l.length:=(iu.1 ab).1;have h1:=fq.1 h i (j7.2 af);simp only[ab,dG]at h1;refine⟨by simpa using h1.1,λe he hb=>?_⟩;have:=lS.1 h1.2 e he;rw[hb]at this;simpa using this
theorem Lx(h:Aj l m=Z')(hi:m<=i)(hc:Cl l.toArray li)(hr:i∈Region.ready .any l.toArray li):∀j,j<i->li.getD j a0a=true:=by
 have ay:=(Qn hc i).1 hr;obtain⟨_,o,ho,he⟩:=mem_ready.1 ay;have af:(cT (cT (cT l)))[i]?=T' o:=by simpa using ho
 have aw:i<l.length:=by
  have:=(iu.1 af).1;simpa[cT]using this
 have h1:=fq.1 h i (j7.2 aw);have ax:¬i<m:=f';simp only[af,ax,decide_false,Fl]at h1;intro j hj;have h2:=fq.1 h1 j (j7.2 hj);obtain⟨e,ao,ab⟩:=JR.1 h2;simp only[dG,yg]at ab;rw[<-ab.2];exact he e ao ab.1
theorem Py{a:Act}{w:World}{K:Act->World->Prop}(hE:∀e a w,e≠.normal->Q1 e a w->Q e a w)(h:o.wp P a w K Q1\/(o.asks P a w/\LetsOut Q1)):o.wp P a w K Q\/(o.asks P a w/\LetsOut Q):=by
 have hl:LetsOut Q1->LetsOut Q:=λ⟨a,w,h⟩=>⟨a,w,hE _ a w J' h⟩
 refine h.imp (λh=>?_) (λh=>⟨h.1,hl h.2⟩);unfold Oper.wp Oper.upon at h|-;split at h
 iterate 3
  .exact h
 .refine h.mono λe w' hh=>?_
  cases e with
  |returned v=>exact hh
  |panicked c=>exact hE _ _ _ J' hh
  |outgrown=>exact hl hh
 .exact h
 .exact hE _ _ _ J' h
 .exact h.elim
theorem Qo(hb:xR l=Z')(hj:j<l.length)(ao:li.getD j Z'=a0a)(af:∀i,i<j->li.getD i a0a=Z'):j∈Region.ready .any l.toArray li:=by
 have ho:l.toArray[j]?=T' l[j]:=by simp[hj]
 exact mem_ready.2 ⟨ao,_,ho,λe he ab=>af _ ((Ai hb ho).2 e he ab)⟩
theorem EZ(hb:xR l=Z')(aw:Aj l m=Z'):∀(r x k:Nat)(li:Array Bool)(a:Act)(w:World),k+r=l.length->m<=k->li.size=l.length->Cl l.toArray li->(∀j,j<k->li.getD j a0a=Z')->(∀j,k<=j->j<l.length->li.getD j Z'=a0a)->wpList P l.toArray Q (l.drop k) a w->wpAny P .any l.toArray Q (r+x) li a w
 |0,x,k,li,a,w,hk,hm,hsz,hc,hd,hu,h=>by
  have hn:Region.ready .any l.toArray li=[]:=vC.2 λj hj=>by
   obtain⟨q1,o,q2,_⟩:=mem_ready.1 hj;have ab:j<l.length:=by simpa using(ir.1 q2).1
   exact uE q1 (hd j f')
  rw[vB f']at h;exact wpAny_done hn h _
 |r+1,x,k,li,a,w,hk,hm,hsz,hc,hd,hu,h=>by
  have ao:k<l.length:=f';have ax:k∈Region.ready .any l.toArray li:=Qo hb ao (hu k (aM _) ao) hd;rw[show r+1+x=(r+x)+1 from f'];refine⟨(λe=>by rw[e]at ax;cases ax),λi hi=>?_⟩;obtain⟨q1,o,q2,_⟩:=mem_ready.1 hi;have af:i<l.length:=by simpa using(ir.1 q2).1
  have a1:k<=i:=nV λab=>uE q1 (hd i ab)
  have ay:i=k:=Kw (nV λab=>uE (hu k (aM _) ao) (Lx aw f' hc hi k ab)) a1;subst ay;rw[sj af]at h;have ho:l.toArray[i]?=T' l[i]:=by simp[af]
  have hg:=(Ai hb ho).1;unfold wpOp;simp only[ho];unfold wpList at h;have hw:∀tm,Region.wanted l[i] tm=true:=λtm=>by simp[Region.wanted,hg]
  rw[hw,au rfl]at h|-;refine h.imp (λh=>FT (λa' w' hh=>?_) h) (λh=>h);refine EZ hb aw r x (i+1) _ a' w' f' f' (by simpa using hsz) (hc.step hi) (λj hj=>?_) (λj hj a0=>?_) hh
  .by_cases e:i=j
   .subst e;simp[Array.getD,hsz,af]
   .rw[getD_set_ne a0a e];exact hd j f'
  .rw[getD_set_ne Z' f'];exact hu j f' a0
theorem DQ{p:Nat->Prop}:∀n,p n->∃j,p j/\∀i,i<j->¬p i:=by
 intro n
 induction n using Nat.strongRecOn with
 |_ n ih=>
  intro h
  by_cases hx:∃i,i<n/\p i
  .obtain⟨i,h1,h2⟩:=hx
   exact ih i h1 h2
  .exact⟨n,h,λi hi hp=>hx ⟨i,hi,hp⟩⟩
theorem agA(hb:xR l=Z')(af:Aj l m=Z')(hm:m<=l.length)(hN:∀a w,Q1 .normal a w->wpList P l.toArray Q (l.drop m) a w)(hE:∀e a w,e≠.normal->Q1 e a w->Q e a w):
 ∀(f:Nat)(d li:Array Bool)(a:Act)(w:World),d.size=m->li.size=l.length->Cl l.toArray li->(∀j,j<m->li.getD j a0a=d.getD j a0a/\li.getD j Z'=d.getD j Z')->(∀j,m<=j->j<l.length->li.getD j Z'=a0a)->
  wpAny P .any (l.take m).toArray Q1 f d a w->wpAny P .any l.toArray Q (f+(l.length-m)) li a w:=by
 have ao:∀i,i<m->(l.take m).toArray[i]?=l.toArray[i]?:=λi hi=>by
  simp[hi]
 have a6:∀(i:Nat)(o:Oper),(l.take m).toArray[i]?=T' o->i<m:=λi o h=>by
  have:=(ir.1 h).1;simp at this;omega
 intro f
 induction f with
 |zero=>
  intro d li a w hd hl hc hJ hU h
  by_cases hx:∃j,j<m/\li.getD j Z'=a0a
  .exfalso
   obtain⟨j1,ax⟩:=hx;obtain⟨j,⟨h1,h2⟩,h3⟩:=DQ (p:=λj=>j<m/\li.getD j Z'=a0a) j1 ax;have ho:l.toArray[j]?=T' (l[j]'(f')):=by simp[show j<l.length from f']
   have:j∈Region.ready .any (l.take m).toArray d:=mem_ready.2 ⟨by rw[<-(hJ j h1).2];exact h2,_,by rw[ao j h1];exact ho,λe he ab=>by
    have h4:=(Ai hb ho).2 e he ab;rw[<-(hJ e.on f').1];have h5:=h3 e.on h4;have h6:li.getD e.on Z'=true:=by
     cases hh:li.getD e.on Z' with
     |true=>rfl
     |false=>exact absurd ⟨f',hh⟩ h5
    have h7:e.on<li.size:=f';simp only[Array.getD,h7,dite_true]at h6|-;exact h6⟩
   rw[h.1]at this;cases this
  .have:=EZ (Q:=Q) (P:=P) hb af (l.length-m) 0 m li a w f' (aM _) hl hc (λj hj=>by
    have h6:li.getD j Z'=true:=by
     cases hh:li.getD j Z' with
     |true=>rfl
     |false=>exact absurd ⟨j,hj,hh⟩ hx
    have h7:j<li.size:=f';simp only[Array.getD,h7,dite_true]at h6|-;exact h6) hU (hN a w h.2)
   rw[du];exact this
 |succ f ih=>
  intro d li a w hd hl hc hJ hU h
  by_cases hx:∃j,j<m/\li.getD j Z'=a0a
  .obtain⟨j1,ax⟩:=hx
   obtain⟨j,⟨h1,h2⟩,h3⟩:=DQ (p:=λj=>j<m/\li.getD j Z'=a0a) j1 ax;have a3:∀i,i<j->li.getD i a0a=true:=λi hi=>by
    have h6:li.getD i Z'=true:=by
     cases hh:li.getD i Z' with
     |true=>rfl
     |false=>exact absurd ⟨f',hh⟩ (h3 i hi)
    have h7:i<li.size:=f';simp only[Array.getD,h7,dite_true]at h6|-;exact h6
   have a1:=Qo hb f' h2 a3;rw[show f+1+(l.length-m)=(f+(l.length-m))+1 from f'];refine⟨(λe=>by rw[e]at a1;cases a1),λi hi=>?_⟩;have aw:i<m:=Nat.lt_of_not_le λhle=>uE h2 (Lx af hle hc hi j f')
   obtain⟨q1,o,q2,q3⟩:=mem_ready.1 hi;have a4:i∈Region.ready .any (l.take m).toArray d:=mem_ready.2 ⟨by rw[<-(hJ i aw).2];exact q1,o,by rw[ao i aw];exact q2,λe he ab=>by
    have h4:=(Ai hb q2).2 e he ab;rw[<-(hJ e.on f').1];exact q3 e he ab⟩
   have hk:=h.2 i a4;unfold wpOp at hk|-;rw[ao i aw]at hk;simp only[q2]at hk|-;have hg:=(Ai hb q2).1;have hw:∀tm,Region.wanted o tm=true:=λtm=>by simp[Region.wanted,hg]
   rw[hw,au rfl]at hk|-;refine Py hE (hk.imp (λhk=>FT (λa' w' hh=>?_) hk) (λh=>h));refine ih _ _ a' w' (by simpa using hd) (by simpa using hl) (hc.step hi) (λk ay=>?_) (λk ay a5=>?_) hh
   .by_cases e:i=k
    .subst e
     have e1:i<li.size:=f';have e2:i<d.size:=f';simp[Array.getD,e1,e2]
    .rw[getD_set_ne a0a e,getD_set_ne Z' e,getD_set_ne a0a e,getD_set_ne Z' e]
     exact hJ k ay
   .rw[getD_set_ne Z' f'];exact hU k ay a5
  .have hq:Q1 .normal a w:=h.1 (vC.2 λj hj=>by
    obtain⟨q1,o,q2,_⟩:=mem_ready.1 hj;have a0:=a6 j o q2;exact hx ⟨j,a0,by rw[(hJ j a0).2];exact q1⟩)
   have:=EZ (Q:=Q) (P:=P) hb af (l.length-m) (f+1) m li a w f' (aM _) hl hc (λj hj=>by
    have h6:li.getD j Z'=true:=by
     cases hh:li.getD j Z' with
     |true=>rfl
     |false=>exact absurd ⟨j,hj,hh⟩ hx
    have h7:j<li.size:=f';simp only[Array.getD,h7,dite_true]at h6|-;exact h6) hU (hN a w hq)
   rw[q8 (f+1)];exact this
end
section
variable {P:Program}{T:aL}{L:List (Nat×Sp)}{n:Nat}{en:dK}{pn:Nat->Option Nat}{R:GA}{σ:St}
theorem aa.Qq(m i0:Nat)(args:Array Operand)(ks:Tw)(W:World->Prop)(cs al:List (Nat×Nat))(fd:List (Nat×Nat×Nat)){id:Nat}{l l1 l2:List Oper}{Q:Exit->St->GA->Prop}{aas:List AV}{post:AV->GA->Prop}{o0:Oper}(hE:Env P T (be L))(e1:l.take m=l1)(e2:l.drop m=l2)
 (h0:l1.toArray[i0]?=T' o0) (hG:eR P o0 args aas R post) (a5:∃r R',post r R') (ao:∀w fp X,R.rel w fp X->W w) (aw:∀r R',post r R'->∀w fp X,R'.rel w fp X->W w)
 (bb:∀i o x u r,l1.toArray[i]?=T' o->ks.getD i Y'=T' (.look x u r)->∀(a:Act)(w:World),W w->a.eval x=u->∃v,(execOp a.eval o).run P w=.ok (.value v) w/\∀X,RI w X r v)
 (a4:∀p i,lk cs p=T' i->dL i ((a8 (ck 0 l1 (dk ks i0 args aas (.any))) σ.live).get p))
 (h:∀r R',post r R'->r.im=Z'/\cY T (be (dF 0 (dk ks i0 args aas r) L)) (ck 0 l1 (dk ks i0 args aas (.any))).toArray (ck 0 l1 (dk ks i0 args aas (.any))) (λσ'=>GL P n en pn l.toArray l2 (λσ R=>Q .normal σ R) σ' R') (a8 (ck 0 l1 (dk ks i0 args aas (.any))) σ.live))
 (a1:i0<ks.length:=by simp) (ay:o0.guard=none:=by rfl) (a7:vf l1 (dk ks i0 args [] .any) (T' i0)=true:=by kernel_rfl) (hd:iz l1.toArray n=true:=by kernel_rfl) (a6:okF cs al fd (ck 0 l1 (dk ks i0 args aas (.any))).toArray=true:=by kernel_rfl)
 (hb:xR l=true:=by kernel_rfl) (ax:Aj l m=true:=by kernel_rfl) (hm:m<=l.length:=by simp):aa P n en pn (.region id l.toArray Z') Q σ R:=by
 intro κ β a w hn hg hC;refine wp_region_any hE.hm ?_;subst e1;subst e2;have key:=Ew (P:=P) (T:=T) (L:=L) (n:=n) (en:=en) (pn:=pn) (R:=R) (σ:=σ) (Q:=pZ (λσ' R'=>GL P n en pn l.toArray (l.drop m) (λσ R=>Q .normal σ R) σ' R') Q) i0 args ks W cs al fd (l:=l.take m) hE h0 hG a5 ao aw bb a4 h a1 ay a7 hd a6 κ β a w hn hg hC;have a3:(l.take m).toArray.size=m:=O';have:=agA (P:=P) (Q:=λe a' w'=>∃ab σ' af R',Q e σ' R'/\ab.nt=n/\cK en pn R' ab/\av ab af σ'.get σ'.ae a' w') hb ax hm (λa w⟨ab,σ',af,R',q1,q2,q3,q4⟩=>q1 ab af a w _ q2 q3 q4 (λbd bc bm R2 a2 w2 k1 k2 k3 k4=>⟨bd,bm,bc,R2,k1,k2,k3,k4⟩)) (λe a w he⟨ab,σ',af,R',q1,q2⟩=>⟨ab,σ',af,R',by cases e<;>first|exact absurd rfl he|exact q1,q2⟩)
  _ _ (Array.replicate l.toArray.size a0a) a _ O' J' (Cl.start _ _) (λj hj=>?_) (λj hj a0=>?_) key
 .have e:(l.take m).toArray.size+(l.length-m)=l.toArray.size:=by rw[a3];simp;omega
  rw[e]at this;exact this
 .have h1:j<l.length:=f'
  have h2:j<min m l.length:=f';simp[Array.getD,h1,h2]
  try omega
 .simp[Array.getD,a0]
end
end
end
section
open Go.Proofs
section
variable {cs:List AV}{vs:List Value}{m s:Nat}{e:TypeId}{v:Value}{w:World}
theorem ab2{w':World}{n:Nat}(h:w.ownsRow 0 e s v n vs)(hk:∀k,v.ownBlock=T' k->w'.heap[k]?=w.heap[k]?):w'.ownsRow 0 e s v n vs:=by
 refine⟨h.1,h.2.imp id (λ⟨g,cap,cur,q1,q0,q2,r⟩=>⟨g,cap,cur,q1,q0,?_,r⟩)⟩;rw[hk g (by rw[q1];rfl)];exact q2
theorem PQ{n:Nat}(h:w.ownsRow 0 e s v n vs){k:Nat}(hk:v.ownBlock=T' k):k<w.heap.size:=by
 rcases h.2 with⟨h,_⟩|⟨g,cap,cur,q1,q0,q2,r⟩
 .rw[h]at hk;cases hk
 .rw[q1]at hk;cases hk;exact jO q2
def kE(e:TypeId)(s n:Nat)(v:Value)(cs:List AV):GA where
 rel w fp X:=(∃vs:List Value,w.ownsRow 0 e s v n vs/\cs.length=n*s/\∀(j:Nat)(c:AV),cs[j]?=T' c->∃u,vs[j]?=T' u/\RI w X c u)/\∀k,fp k↔v.ownBlock=T' k
 loc:=λhs hw hX⟨⟨vs,h1,h2,h3⟩,h4⟩=>⟨⟨vs,ab2 h1 (λk hk=>hw k (PQ h1 hk) (.inl ((h4 k).2 hk))),h2,λj c hj=>by
  obtain⟨u,u1,u2⟩:=h3 j c hj;exact⟨u,u1,u2.cW ⟨hs,λk hk hx=>hw k hk (.inr hx)⟩ hX⟩⟩,h4⟩
 lt:=λ⟨⟨vs,h1,_⟩,h4⟩k hk=>PQ h1 ((h4 k).1 hk)
section
variable {P:Program}{T:aL}{n:Nat}{en:dK}{pn:Nat->Option Nat}{R R0:GA}{σ:St}{ops:Array Oper}{K:St->GA->Prop}
theorem GA.Pb:R.le (R.star (kE e s 0 (.slice Y' 0 0) [])):=λw fp X h=>
 ⟨fp,λ_=>False,λ_=>J',λ_ _ h=>h,h,⟨[],⟨J',.inl ⟨rfl,rfl⟩⟩,J',λj c hj=>by simp at hj⟩,λ_=>by simp[Value.ownBlock]⟩
theorem GL.K9{o:Oper}{rest:List Oper}{d x y:Nat}{t:TypeId}{by_ nn:Nat}{i:TypeInfo}{z:Value}{nw:aN}{nc:List AV}(ht:P.underlying t=T' (.slice e))(hi:P.info? e=T' i)(hz:i.zero=T' z)(bu:i.size=s)(a6:i.bytes=by_)(bA:z.cells.size=s)(aw:0<s)(hop:o.op=.call ⟨.builtin .append,#[.tmp x,.tmp y],#[t,t]⟩)(bd:o.guard=Y')(bb:o.dst=T' d)(hd:d<n)(hx:σ.get x=.r v)(hy:BW σ.ae s (σ.get y)=T' (nw,m))(ao:∀j,nw.val j=nc[j]?)(hlen:nw.len=m*s)(hm:0<m)(br:∀c∈nc,c.one=Z')(hl:(nn+m)*by_<=140737488355328)(bn:nn+m<=maxLen)(k:∀v',GL P n en pn ops rest K (σ.live.put (T' d) (.r v')) (R0.star (kE e s (nn+m) v' (cs++nc)))):GL P n en pn ops (o::rest) K σ (R0.star (kE e s nn v cs)):=by
 intro κ β a w Q hn hg hC hQ;obtain⟨fp,⟨f,g,k1,k2,k3,⟨vs,k4,k5,k6⟩,k7⟩,g2,g3,g4⟩:=hg.now hC;obtain⟨ad,cap,bz,bx⟩:=Jv hC (hC.rel y) hy aw hlen;have bs:0<nw.len:=by rw[hlen];exact xF hm aw
 obtain⟨yb,yo,rfl,a7⟩:=bx bs;have a4:nc.length=m*s:=by
  rw[<-hlen];refine Kw (nV λh=>?_) (nV λh=>?_)
  .have h1:nw.val nw.len=T' nc[nw.len]:=by rw[ao];simp[h]
   exact absurd (aN.ES h1) (FN _)
  .obtain⟨c,hc⟩:=aN.zt h
   rw[ao,iT (aM _)]at hc;cases hc
 obtain⟨us,ax,ay⟩:=BV (n:=nc.length) (P:=λj v=>w.cell? ⟨yb,yo+j,Y'⟩=T' v/\∀c,nc[j]?=T' c->RI w (XG κ β σ.ae) c v) (λj hj=>by
  obtain⟨v,v1,v2⟩:=a7 j nc[j] (by rw[ao];simp[hj]);exact⟨v,v1,λc hc=>by rw[ed hj]at hc;cases hc;exact v2⟩)
 have af:=hC.rel x;rw[hx]at af;have af:=RI.aS af;have a5:∀j,(⟨yb,yo,Y'⟩:Addr).add j=⟨yb,yo+j,Y'⟩:=λj=>Addr.add_mid _ _ _
 obtain⟨v',w',r1,r2,r3,_,r4⟩:=run_append_own_at (P:=P) (w:=w) 0 t o.type e i z s by_ ht hi hz bu a6 bA aw v nn vs k4 ⟨yb,yo,Y'⟩ m cap us (by rw[ax,a4]) (λj u hj=>by rw[a5];exact(ay j u hj).1) (λu hu=>by
  obtain⟨j,hj⟩:=Cr hu;have bm:j<nc.length:=by rw[<-ax];exact(iu.1 hj).1
  exact((ay j u hj).2 _ (ed bm)).one (br _ (qg _))) bn hl (dU _)
 have bt:(execOp a.eval o).run P w=.ok (.value v') w':=by
  have e1:a.eval (.tmp x)=v:=af;have e2:a.eval (.tmp y)=.slice (T' ⟨yb,yo,Y'⟩) m cap:=bz;simp only[execOp,hop,resolve,invoke,builtin,cC,cJ,cz,lB,fX,kr,e1,e2,r1]
 have bc:=R0.lt k3;have hb:lU fp w w':=⟨r3.os,r3.tape,r3.output,r3.size,λj hj hf=>r3.block j hj (λe=>hf ((k1 j).2 (.inr ((k7 j).2 e.symm))))⟩;have a0:∀j,f j->v.ownBlock≠T' j:=λj hj e=>k2 j hj ((k7 j).2 e)
 have ab:∀j,v'.ownBlock=T' j->j<w.heap.size->v.ownBlock=T' j:=λj e hj=>by
  rcases r4 with r4|r4
  .rw[<-r4];exact e
  .rw[r4]at e;cases e;omega
 have a3:dZ (XG κ β σ.ae) w w':=⟨r3.size,λb hb hx=>r3.block b hb (λe=>hx (.inl (g2 b ((k1 b).2 (.inr ((k7 b).2 e.symm))))))⟩;obtain⟨bB,h1,h2,h3,h4⟩:=hg.call (w':=w') (R':=R0.star (kE e s (nn+m) v' (cs++nc))) (fp':=λj=>f j\/v'.ownBlock=T' j) hC g2 g3
  ⟨f,λj=>v'.ownBlock=T' j,λ_=>dr,λj hj e=>a0 j hj (ab j e (bc j hj)),R0.loc r3.size (λj hj hh=>r3.block j hj (λe=>by
   rcases hh with hh|hh
   .exact a0 j hh e.symm
   .exact hh (.inl (g2 j ((k1 j).2 (.inr ((k7 j).2 e.symm))))))) (λj hj hx=>by
   rcases hx with hx|hx|hx
   .exact hx
   .exact .inl (g2 j ((k1 j).2 (.inl hx)))
   .exact .inl (g2 j ((k1 j).2 (.inr ((k7 j).2 (ab j hx hj)))))) k3,⟨⟨vs++us,r2,by rw[aV,k5,a4,pg],λj c hj=>by
    have hX:∀b,b<w.heap.size->(XG κ β σ.ae b\/(f b\/v'.ownBlock=T' b))->XG κ β σ.ae b:=λb hb hx=>by
     rcases hx with hx|hx|hx
     .exact hx
     .exact .inl (g2 b ((k1 b).2 (.inl hx)))
     .exact .inl (g2 b ((k1 b).2 (.inr ((k7 b).2 (ab b hx hb)))))
    have bw:vs.length=cs.length:=by rw[k4.1,k5]
    by_cases hlt:j<cs.length
    .rw[iK hlt]at hj
     obtain⟨u,u1,u2⟩:=k6 j c hj;exact⟨u,by rw[iK f'];exact u1,u2.cW a3 hX⟩
    .rw[jz f']at hj
     have a1:j-cs.length<us.length:=by rw[ax];exact(iu.1 hj).1
     refine⟨us[j-cs.length],by rw[jz f',bw];simp[a1],?_⟩;exact((ay _ _ (ed a1)).2 c hj).cW a3 hX⟩,λ_=>dr⟩⟩
  (λj hj hx=>by
   rcases hx with hx|hx
   .exact(k1 j).2 (.inl hx)
   .exact(k1 j).2 (.inr ((k7 j).2 (ab j hx hj)))) hb
 refine oR (w':=w') bd bt (k v' bB β _ _ Q (h1.trans hn) h2 ?_ hQ);rw[St.fh,St.eQ,St.iD,St.gm,bb];exact h3.put (λt' ht=>by cases ht;rw[h1,hn];exact hd) (RI.r _)
theorem eZ.Ht{A:GA}{t:Nat}{r:AV}(aw:∀w fp X,R.rel w fp X->∀b,en.fp b->fp b)(hA:∀w fp X,A.rel w fp X->(∀k,fp k↔v.ownBlock=T' k)/\∀X',(∀b,b<w.heap.size->X' b->X b)->(∀k,v.ownBlock=T' k->¬X' k)->RI w X' r v)(ht:σ.get t=.r v)(a4:t<n)(ax:r.im=Z'):eZ n en pn σ (R.star A) (σ.live.put (T' t) r) R:=by
 intro κ β a w hn hg hC;obtain⟨fp,⟨f,g,k1,k2,k3,k4⟩,g2,g3,g4⟩:=hg.now hC;obtain⟨k5,k6⟩:=hA w g _ k4;have a3:en.W.heap.size<=w.heap.size:=fC hg.size hC.aQ.size;have a0:∀b,v.ownBlock=T' b->en.W.heap.size<=b:=λb hb=>nV λay=>k2 b (aw w f _ k3 b (g3 b ay ((k1 b).2 (.inr ((k5 b).2 hb))))) ((k5 b).2 hb)
 have ao:=hC.wZ (G':=cN σ.ae) (w':=w) (X':=λc=>κ.X0 c/\v.ownBlock≠T' c) hg.mu (nD _) (λ_ _ _=>rfl) (aM _) (λc h0=>da (hC.x0 c h0.1).1 hC.aQ.size)
  (λc _ hx=>.inl hx.1) (λi base ae c q1 q2 hx=>hC.kq hg.mu (iR q1).1 q2 hx.1)
 have af:∀c,XG ⟨κ.nt,w,λc=>κ.X0 c/\v.ownBlock≠T' c,Y',λb=>∃id base ae,cN σ.ae id=T' ae/\β id=T' (b,base),κ.df,κ.bC⟩ β (cN σ.ae) c->XG κ β σ.ae c/\v.ownBlock≠T' c:=by
  intro c hx;rcases hx with hx|⟨i,cn,base,q1,q2⟩
  .exact⟨.inl hx.1,hx.2⟩
  .refine⟨.inr ⟨i,cn,base,(iR q1).1,q2⟩,λe=>?_⟩
   exact hC.kq hg.mu (iR q1).1 q2 (g2 c ((k1 c).2 (.inr ((k5 c).2 e))))
 refine⟨⟨κ.nt,w,λc=>κ.X0 c/\v.ownBlock≠T' c,Y',λb=>∃id base ae,cN σ.ae id=T' ae/\β id=T' (b,base),κ.df,κ.bC⟩,β,hn,⟨rfl,hg.df,hg.bC,⟨f,R.loc (aM _) (λ_ _ _=>rfl) (λc _ hx=>?_) k3,λc hc=>⟨g2 c ((k1 c).2 (.inl hc)),λe=>k2 c hc ((k5 c).2 e)⟩,λc hc hx=>g3 c hc ((k1 c).2 (.inl hx))⟩,λc hc=>?_,λc hc hl=>hg.oS c hc.1 hl,λc hc⟨i,base,ae,q1,q2⟩=>?_,λc hc hf=>?_,hC.aQ.os.trans hg.os,hC.aQ.tape.trans hg.tape,hC.aQ.output.trans hg.output,a3⟩,?_⟩
 .rcases hx with hx|⟨i,base,ae,q1,q2⟩
  .exact .inl hx.1
  .obtain⟨q1,c',rfl⟩:=iR q1
   exact .inr ⟨i,c',base,q1,q2⟩
 .rcases hg.nJ c hc with h|h
  .exact .inl ⟨h,λe=>by
    have:=a0 c e;have:=en.lt c hc;omega⟩
  .exact .inr h
 .have q:=hC.mM hg.mu (iR q1).1 q2
  exact hg.ow c hc (lr λa1=>q.1 ⟨da hc hg.size,λho=>absurd ho a1⟩)
 .show w.heap[c]?=_
  rw[hC.aQ.same hg.mu ⟨da hc hg.size,λho=>absurd (hg.ow c hc ho) hf⟩,hg.old c hc hf]
 .rw[St.fh,St.eQ,St.iD,St.gm]
  have ab:=hC.rel t;rw[ht]at ab;have ab:=RI.aS ab;refine ao.Bu ?_;rw[ab];exact RV.of ax (k6 _ (λb hb hx=>(af b hx).1) (λk hk hx=>(af k hx).2 hk))
theorem ac0{k:IntKind}{xs:List Int}(w:World)(fp X:Nat->Prop)(h:(kE e 1 m v (xs.map λx=>.r (.int k x))).rel w fp X):(∀k,fp k↔v.ownBlock=T' k)/\∀X',(∀b,b<w.heap.size->X' b->X b)->(∀k,v.ownBlock=T' k->¬X' k)->RI w X' (.ns k xs) v:=by
 obtain⟨⟨vs,h1,h2,h3⟩,h4⟩:=h;refine⟨h4,λX' hX hn=>?_⟩;have ab:xs.length=m:=by simpa using h2
 rcases h1.2 with⟨rfl,hm⟩|⟨g,cap,cur,rfl,_,q2,q4,q5,q6,q7⟩
 .have:xs=[]:=lY f'
  subst this;exact RI.ns k [] Y' 0 0 0 (aM _) (λh=>by simp at h) (λi x hx=>by simp at hx)
 .rw[<-ab]
  refine RI.ns k xs _ g 0 cap f' (λ_=>⟨rfl,hn g rfl⟩) (λi x hx=>?_);obtain⟨u,u1,u2⟩:=h3 i (.r (.int k x)) (by simp[hx]);have hi:i<xs.length:=(iu.1 hx).1;rw[du,cell_of_row w g i cur _ _ q2];rw[<-q7,ic,au f']at u1;rw[RI.aS u2]at u1;simpa using u1
theorem IV(w:World)(fp X:Nat->Prop)(h:(kE e s m v cs).rel w fp X):(∀k,fp k↔v.ownBlock=T' k)/\∀X',(∀b,b<w.heap.size->X' b->X b)->(∀k,v.ownBlock=T' k->¬X' k)->RI w X' (.sl s m cs) v:=by
 obtain⟨⟨vs,h1,h2,h3⟩,h4⟩:=h;refine⟨h4,λX' hX hn=>?_⟩;rcases h1.2 with⟨rfl,hm⟩|⟨g,cap,cur,rfl,_,q2,q4,q5,q6,q7⟩
 .have:cs=[]:=lY (by rw[h2,hm,FQ])
  subst this;subst hm;exact RI.sl s 0 [] Y' 0 0 0 (λ_=>undef) (aM _) J' (λh=>by simp at h) (λi x hx=>by simp at hx) (λi x hx=>by simp at hx)
 .refine RI.sl s m cs _ g 0 cap (λj=>vs.getD j undef) q4 h2 (λ_=>⟨rfl,hn g rfl⟩) (λi c hc=>?_) (λi c hc=>?_)
  .obtain⟨u,u1,u2⟩:=h3 i c hc
   have hi:i<cs.length:=(iu.1 hc).1;rw[du,cell_of_row w g i cur _ _ q2];rw[cF,u1];rw[<-q7,ic,au f']at u1;simpa using u1
  .obtain⟨u,u1,u2⟩:=h3 i c hc
   rw[cF,u1];exact u2.cW (dZ.refl _ _) hX
end
end
end
section
open Go.Proofs
section
variable {C:List AV}{id:Nat}{v:Value}
theorem av.abE{κ:Ctx}{β:Nat->Option (Nat×Nat)}{F:Nat->AV}{G:Nat->Option cq}{a:Act}{w:World}(h:av κ β F G a w){C':List AV}(hG:G id=T' ⟨Z',.c C⟩)(hl:C'.length=C.length)(hC:∀(j:Nat)(c':AV),C'[j]?=T' c'->∀c,C[j]?=T' c->∀v,RI w (XG κ β G) c v->RI w (XG κ β G) c' v):
 av κ β F (aD G id (T' ⟨Z',.c C'⟩)) a w:=by
 obtain⟨G',af⟩:=nm (aD G id (T' ⟨Z',.c C'⟩));have aw:G' id=T' ⟨Z',.c C'⟩:=by rw[<-af,eu]
 have ao:∀i,id≠i->G' i=G i:=λi hi=>by rw[<-af,bS _ _ hi]
 have hex:∀i ae,G' i=T' ae->∃ab,G i=T' ab/\(ae.wr=Z'->ab.wr=Z'):=λi ae hb=>by
  by_cases e:id=i
  .subst e;exact⟨_,hG,λ_=>rfl⟩
  .rw[ao i e]at hb;exact⟨ae,hb,λh=>h⟩
 have hx:XG κ β G'=XG κ β G:=funext λb=>propext ⟨λhh=>by
  rcases hh with hh|⟨i,c,base,q1,q2⟩
  .exact .inl hh
  .obtain⟨⟨wr,c0⟩,q3,q4⟩:=hex i _ q1
   have:=q4 rfl;simp only at this;subst this;exact .inr ⟨i,c0,base,q3,q2⟩,λhh=>by
  rcases hh with hh|⟨i,c,base,q1,q2⟩
  .exact .inl hh
  .by_cases e:id=i
   .subst e;exact .inr ⟨id,_,base,aw,q2⟩
   .exact .inr ⟨i,c,base,by rw[ao i e];exact q1,q2⟩⟩
 rw[af];refine⟨h.sz,λt=>?_,h.gp,λi ae hb=>?_,λi j b c x y ay hi hj hb d=>?_,h.aQ,h.x0,h.bC⟩
 .have ht:=h.rel t
  generalize F t=v at*;generalize a.tmps.getD t undef=x at*;cases v with
  |os i s off len=>
   obtain⟨ad,cap,q1,q2,q3⟩:=ht;refine⟨ad,cap,q1,q2,λae hb=>?_⟩;obtain⟨ab,q4,_⟩:=hex i ae hb;exact q3 ab q4
  |ptr i off=>
   intro ae hb;obtain⟨ab,q4,_⟩:=hex i ae hb;exact ht ab q4
  |_=>
   show RI w (XG κ β G') _ _;rw[hx];exact ht
 .by_cases e:id=i
  .subst e
   rw[aw]at hb;cases hb;rcases h.hp id _ hG with⟨q1,q2⟩|⟨b,base,A,e,q1,q2,q3,q4,q5⟩
   .exact .inl ⟨q1,by simp only[aN.len]at q2|-;omega⟩
   .refine .inr ⟨b,base,A,e,q1,q2,by simp only[aN.len]at q3|-;omega,λj c hj=>?_,by simpa[aN.len,hl]using q5⟩
    simp only[aN.val]at hj;have ax:j<C.length:=by rw[<-hl];exact(iu.1 hj).1
    obtain⟨v,v1,v2⟩:=q4 j C[j] (by simp[aN.val,ax]);exact⟨v,v1,by rw[hx];exact hC j c hj _ (ed ax) v v2⟩
  .rw[ao i e]at hb
   have:=h.hp i ae hb;unfold mV at this|-;rw[hx];exact this
 .obtain⟨x0,q1,_⟩:=hex i x hi
  obtain⟨y0,q2,_⟩:=hex j y hj;exact h.sep i j b c x0 y0 ay q1 q2 hb d
section
variable {P:Program}{T:aL}{n:Nat}{en:dK}{pn:Nat->Option Nat}{R R0:GA}{σ:St}{ops:Array Oper}{K:St->GA->Prop}
theorem eZ.Yw{A:GA}{j0:Nat}{r:AV}(ao:∀w fp X,R.rel w fp X->∀b,en.fp b->fp b)(hA:∀w fp X,A.rel w fp X->(∀k,fp k↔v.ownBlock=T' k)/\∀X',(∀b,b<w.heap.size->X' b->X b)->(∀k,v.ownBlock=T' k->¬X' k)->RI w X' r v)(hb:cN σ.ae id=T' ⟨Z',.c C⟩)(hj:C[j0]?=T' (.r v)):eZ n en pn σ (R.star A) (σ.live.g7 id ⟨Z',.c (C.set j0 r)⟩) R:=by
 intro κ β a w hn hg hC;obtain⟨fp,⟨f,g,k1,k2,k3,k4⟩,g2,g3,g4⟩:=hg.now hC;obtain⟨k5,k6⟩:=hA w g _ k4;have a0:en.W.heap.size<=w.heap.size:=fC hg.size hC.aQ.size;have ax:∀b,v.ownBlock=T' b->en.W.heap.size<=b:=λb hb=>nV λaw=>k2 b (ao w f _ k3 b (g3 b aw ((k1 b).2 (.inr ((k5 b).2 hb))))) ((k5 b).2 hb)
 have af:=hC.wZ (G':=cN σ.ae) (w':=w) (X':=λc=>κ.X0 c/\v.ownBlock≠T' c) hg.mu (nD _) (λ_ _ _=>rfl) (aM _) (λc h0=>da (hC.x0 c h0.1).1 hC.aQ.size)
  (λc _ hx=>.inl hx.1) (λi base ae c q1 q2 hx=>hC.kq hg.mu (iR q1).1 q2 hx.1)
 have ab:∀c,XG ⟨κ.nt,w,λc=>κ.X0 c/\v.ownBlock≠T' c,Y',λb=>∃id base ae,cN σ.ae id=T' ae/\β id=T' (b,base),κ.df,κ.bC⟩ β (cN σ.ae) c->XG κ β σ.ae c/\v.ownBlock≠T' c:=by
  intro c hx;rcases hx with hx|⟨i,cn,base,q1,q2⟩
  .exact⟨.inl hx.1,hx.2⟩
  .refine⟨.inr ⟨i,cn,base,(iR q1).1,q2⟩,λe=>?_⟩
   exact hC.kq hg.mu (iR q1).1 q2 (g2 c ((k1 c).2 (.inr ((k5 c).2 e))))
 refine⟨⟨κ.nt,w,λc=>κ.X0 c/\v.ownBlock≠T' c,Y',λb=>∃id base ae,cN σ.ae id=T' ae/\β id=T' (b,base),κ.df,κ.bC⟩,β,hn,⟨rfl,hg.df,hg.bC,⟨f,R.loc (aM _) (λ_ _ _=>rfl) (λc _ hx=>?_) k3,λc hc=>⟨g2 c ((k1 c).2 (.inl hc)),λe=>k2 c hc ((k5 c).2 e)⟩,λc hc hx=>g3 c hc ((k1 c).2 (.inl hx))⟩,λc hc=>?_,λc hc hl=>hg.oS c hc.1 hl,λc hc⟨i,base,ae,q1,q2⟩=>?_,λc hc hf=>?_,hC.aQ.os.trans hg.os,hC.aQ.tape.trans hg.tape,hC.aQ.output.trans hg.output,a0⟩,?_⟩
 .rcases hx with hx|⟨i,base,ae,q1,q2⟩
  .exact .inl hx.1
  .obtain⟨q1,c',rfl⟩:=iR q1
   exact .inr ⟨i,c',base,q1,q2⟩
 .rcases hg.nJ c hc with h|h
  .exact .inl ⟨h,λe=>by
    have:=ax c e;have:=en.lt c hc;omega⟩
  .exact .inr h
 .have q:=hC.mM hg.mu (iR q1).1 q2
  exact hg.ow c hc (lr λay=>q.1 ⟨da hc hg.size,λho=>absurd ho ay⟩)
 .show w.heap[c]?=_
  rw[hC.aQ.same hg.mu ⟨da hc hg.size,λho=>absurd (hg.ow c hc ho) hf⟩,hg.old c hc hf]
 .rw[St.nz,St.nj,St.iD,St.gm]
  refine af.abE hb J' (λk c' hk c hc u hu=>?_);rw[qf]at hk;split at hk
  .rename_i e
   subst e;rw[hj]at hc;cases hc;split at hk
   .cases hk
    rw[RI.aS hu];exact k6 _ (λb hb hx=>(ab b hx).1) (λk hk hx=>(ab k hx).2 hk)
   .cases hk
  .rw[hc]at hk;cases hk;exact hu
theorem GL.EA{rest:List Oper}{e:TypeId}{s m:Nat}{cs:List AV}(k:∀a n' c,v=.slice a n' c->GL P n en pn ops rest K σ (R.star (kE e s m v cs))):GL P n en pn ops rest K σ (R.star (kE e s m v cs)):=by
 intro κ β a w Q hn hg hC hQ;obtain⟨fp,⟨f,g,k1,k2,k3,⟨vs,k4,_⟩,k5⟩,g2,g3,g4⟩:=hg.now hC;rcases k4.2 with⟨e,_⟩|⟨gg,cap,_,e,_⟩
 .exact k _ _ _ e κ β a w Q hn hg hC hQ
 .exact k _ _ _ e κ β a w Q hn hg hC hQ
end
end
end
section
open Go.Proofs
section
variable {a:Act}{K:Act->World->Prop}{li:Array Bool}{b:Bool}{i t:Nat}{o:Oper}{w:World}
def CN(l:List Oper):Bool:=(List.range l.length).all λi=>match l[i]? with
 |some o=>(match o.guard with|none=>Z'|some (j,_)=>decide (j<i))&&o.after.all (λe=> !Region.binds .any e||decide (e.on<i))
 |none=>Z'
def Gm(l:List Oper)(m:Nat):Bool:=(List.range l.length).all λi=>decide (i<m)||match(cT (cT (cT l)))[i]? with
 |some o=>(List.range m).all λj=>o.after.any λe=>Region.binds .any e&&decide (e.on=j)
 |none=>Z'
def Dq(l:List Oper)(m t:Nat)(b:Bool):Bool:=(List.range l.length).all λi=>decide (i<m)||match l[i]? with
 |some o=>decide (o.dst≠T' t)&&(match o.guard with|none=>Z'|some (j,want)=>decide (want=b)&&decide ((l[j]?).bind (·.dst)=T' t))
 |none=>Z'
def mJ(m:Nat)(o:Oper):Oper:={o with after:=((o.after.toList.filter λe=>Region.binds .any e&&decide (m<=e.on)).map λe=>{e with on:=e.on-m}).toArray,guard:=Y'}
section
variable {P:Program}{l:List Oper}{m:Nat}{Q Q1:Exit->Act->World->Prop}
theorem CO(h:CN l=Z')(ho:l.toArray[i]?=T' o):(∀j b,o.guard=T' (j,b)->j<i)/\∀e∈o.after,Region.binds .any e=Z'->e.on<i:=by
 have ab:l[i]?=T' o:=by simpa using ho
 have af:i<l.length:=(iu.1 ab).1;have h1:=fq.1 h i (j7.2 af);simp only[ab,dG]at h1;refine⟨λj b hg=>by have:=h1.1;simp only[hg]at this;simpa using this,λe he hb=>?_⟩;have:=lS.1 h1.2 e he;rw[hb]at this;simpa using this
theorem Up(h:Gm l m=Z')(hi:m<=i)(hc:Cl l.toArray li)(hr:i∈Region.ready .any l.toArray li):∀j,j<m->li.getD j a0a=true:=by
 have ay:=(Qn hc i).1 hr;obtain⟨_,o,ho,he⟩:=mem_ready.1 ay;have af:(cT (cT (cT l)))[i]?=T' o:=by simpa using ho
 have aw:i<l.length:=by
  have:=(iu.1 af).1;simpa[cT]using this
 have h1:=fq.1 h i (j7.2 aw);have ax:¬i<m:=f';simp only[af,ax,decide_false,Fl]at h1;intro j hj;have h2:=fq.1 h1 j (j7.2 hj);obtain⟨e,ao,ab⟩:=JR.1 h2;simp only[dG,yg]at ab;rw[<-ab.2];exact he e ao ab.1
theorem Yq(h:Dq l m t b=Z')(hi:m<=i)(ho:l.toArray[i]?=T' o)(ha:a.tmps[t]?=T' (.bool b)):o.dst≠T' t/\Region.wanted o (yielded l.toArray a.tmps)=true:=by
 have ab:l[i]?=T' o:=by simpa using ho
 have af:i<l.length:=(iu.1 ab).1;have h1:=fq.1 h i (j7.2 af);have ao:¬i<m:=f';simp only[ab,ao,decide_false,Fl,dG,yg]at h1;refine⟨h1.1,?_⟩;unfold Region.wanted;cases hg:o.guard with
 |none=>rfl
 |some p=>
  obtain⟨j,want⟩:=p;have h2:=h1.2;simp only[hg,dG,yg]at h2;obtain⟨rfl,h3⟩:=h2;have h4:(l.toArray[j]?).bind (·.dst)=T' t:=by simpa using h3
  show(yielded l.toArray a.tmps j==T' want)=Z';unfold yielded;rw[h4];simp[ha]
theorem aaT{G:Act->Prop}(hG:∀(d:List Deferred)(v:Value),G ({a with defers:=d}.put o.dst v))(h:o.wp P a w K Q):o.wp P a w (λa' w'=>G a'/\K a' w') Q:=by
 have ab:∀v,G (a.put o.dst v):=λv=>hG a.defers v
 unfold Oper.wp Oper.upon at h|-;split at h
 iterate 2
  .exact⟨ab _,h⟩
 .exact⟨hG _ _,h⟩
 .refine h.mono λe w' hh=>?_
  cases e with
  |returned v=>exact⟨ab _,hh⟩
  |panicked c=>exact hh
  |outgrown=>exact hh
 .exact h.mono λv w' hh=>⟨ab _,hh⟩
 .exact h
 .exact h.elim
theorem VO:((mJ m o).wp P a w K Q\/((mJ m o).asks P a w/\LetsOut Q))↔(o.wp P a w K Q\/(o.asks P a w/\LetsOut Q)):=by
 cases o;exact dr
theorem Sg(a0:Dq l m t b=Z')(hm:m<=l.length):∀(f:Nat)(d li:Array Bool)(a:Act)(w:World),d.size=l.length-m->li.size=l.length->(∀j,j<m->li.getD j a0a=Z')->(∀k,li.getD (m+k) a0a=d.getD k a0a/\li.getD (m+k) Z'=d.getD k Z')->a.tmps[t]?=T' (.bool b)->
 wpAny P .any ((l.drop m).map (mJ m)).toArray Q f d a w->wpAny P .any l.toArray Q f li a w:=by
 have ax:∀k,((l.drop m).map (mJ m)).toArray[k]?=(l.toArray[m+k]?).map (mJ m):=λk=>J'
 have aw:∀(d li:Array Bool),(∀j,j<m->li.getD j a0a=Z')->(∀k,li.getD (m+k) a0a=d.getD k a0a/\li.getD (m+k) Z'=d.getD k Z')->∀k,m+k∈Region.ready .any l.toArray li↔k∈Region.ready .any ((l.drop m).map (mJ m)).toArray d:=by
  intro d li hd hJ k;rw[mem_ready,mem_ready,ax,(hJ k).2];refine and_congr_right λ_=>⟨?_,?_⟩
  .rintro⟨o,ho,he⟩
   refine⟨mJ m o,by rw[ho];rfl,λe ao hb=>?_⟩;have:e∈((o.after.toList.filter λe=>Region.binds .any e&&decide (m<=e.on)).map λe=>{e with on:=e.on-m}):=by simpa[mJ]using ao
   obtain⟨e0,h1,rfl⟩:=mX.1 this;obtain⟨h2,h3⟩:=FE.1 h1;simp only[dG,yg]at h3;have:=he e0 (by simpa using h2) h3.1;rw[<-(hJ (e0.on-m)).1,Tl h3.2];exact this
  .rintro⟨o',af,he⟩
   cases ho:l.toArray[m+k]? with
   |none=>rw[ho]at af;cases af
   |some o=>
    rw[ho]at af;cases af;refine⟨o,rfl,λe ao hb=>?_⟩
    by_cases ab:e.on<m
    .exact hd _ ab
    .have h4:{e with on:=e.on-m}∈(mJ m o).after:=by
      simp only[mJ,List.mem_toArray];exact mX.2 ⟨e,FE.2 ⟨by simpa using ao,by simp[hb];omega⟩,rfl⟩
     have:=he _ h4 hb;rw[<-(hJ (e.on-m)).1,Tl f']at this;exact this
 intro f
 induction f with
 |zero=>
  intro d li a w hd hl h0 hJ ha h;refine⟨vC.2 λi hi=>?_,h.2⟩;have ay:m<=i:=nV λab=>uE (mem_ready.1 hi).1 (h0 i ab)
  obtain⟨k,rfl⟩:∃k,i=m+k:=⟨i-m,f'⟩;have:=(aw d li h0 hJ k).1 hi;rw[h.1]at this;cases this
 |succ f ih=>
  intro d li a w hd hl h0 hJ ha h;refine⟨λe=>h.1 (vC.2 λk hk=>?_),λi hi=>?_⟩
  .have:=(aw d li h0 hJ k).2 hk
   rw[e]at this;cases this
  .have ay:m<=i:=nV λab=>uE (mem_ready.1 hi).1 (h0 i ab)
   obtain⟨k,rfl⟩:∃k,i=m+k:=⟨i-m,f'⟩;have a3:=(aw d li h0 hJ k).1 hi;have hk:=h.2 k a3;obtain⟨q1,o,q2,q3⟩:=mem_ready.1 hi;have a4:m+k<l.length:=by simpa using(ir.1 q2).1
   obtain⟨g1,g2⟩:=Yq a0 ay q2 ha;unfold wpOp at hk|-;rw[ax,q2]at hk;simp only[q2,ft]at hk|-;have hw:∀y,Region.wanted (mJ m o) y=true:=λy=>rfl
   rw[hw,au rfl]at hk;rw[g2,au rfl];have a1:=VO.1 hk;refine a1.imp (λhk=>FT (λa' w' hh=>?_) (aaT (G:=λa'=>a'.tmps[t]?=T' (.bool b)) (λds v=>?_) hk)) (λh=>h)
   .refine ih _ _ a' w' (by simpa using hd) (by simpa using hl) (λj hj=>?_) (λk'=>?_) hh.1 hh.2
    .rw[getD_set_ne a0a f'];exact h0 j hj
    .by_cases e:k=k'
     .subst e
      have e1:m+k<li.size:=f';have e2:k<d.size:=f';simp[Array.getD,e1,e2]
     .rw[getD_set_ne a0a (show m+k≠m+k' from f'),getD_set_ne Z' (show m+k≠m+k' from f'),getD_set_ne a0a e,getD_set_ne Z' e]
      exact hJ k'
   .cases hdst:o.dst with
    |none=>exact ha
    |some t'=>
     have:t'≠t:=λe=>g1 (by rw[hdst,e])
     show(a.tmps.setIfInBounds t' v)[t]?=_;rw[Cb this];exact ha
theorem abB(hb:CN l=Z'){j:Nat}(hj:j<l.length)(ao:li.getD j Z'=a0a)(af:∀i,i<j->li.getD i a0a=Z'):j∈Region.ready .any l.toArray li:=by
 have ho:l.toArray[j]?=T' l[j]:=by simp[hj]
 exact mem_ready.2 ⟨ao,_,ho,λe he ab=>af _ ((CO hb ho).2 e he ab)⟩
theorem Se{ops:Array Oper}:∀(f x:Nat)(li:Array Bool)(a:Act)(w:World),wpAny P .any ops Q f li a w->wpAny P .any ops Q (f+x) li a w
 |0,x,li,a,w,h=>wpAny_done h.1 h.2 _
 |f+1,x,li,a,w,h=>by
  rw[show f+1+x=(f+x)+1 from f'];exact⟨h.1,λi hi=>wpOp_mono (λa w hh=>Se f x _ a w hh) (h.2 i hi)⟩
theorem agz{tg:Nat}{bg:Bool}(hb:CN l=Z')(hbar:Gm l m=Z')(hgd:Dq l m tg bg=Z')(hm:m<=l.length)(hN:∀a w,Q1 .normal a w->a.tmps[tg]?=T' (.bool bg)/\wpAny P .any ((l.drop m).map (mJ m)).toArray Q (l.length-m) (Array.replicate (l.length-m) a0a) a w)(hE:∀e a w,e≠.normal->Q1 e a w->Q e a w):
 ∀(f:Nat)(d li:Array Bool)(a:Act)(w:World),d.size=m->li.size=l.length->Cl l.toArray li->(∀j,j<m->li.getD j a0a=d.getD j a0a/\li.getD j Z'=d.getD j Z')->(∀j,m<=j->j<l.length->li.getD j Z'=a0a)->
  wpAny P .any (l.take m).toArray Q1 f d a w->wpAny P .any l.toArray Q (f+(l.length-m)) li a w:=by
 have hget:∀i,i<m->(l.take m).toArray[i]?=l.toArray[i]?:=λi hi=>by
  simp[hi]
 have hlt:∀(i:Nat)(o:Oper),(l.take m).toArray[i]?=T' o->i<m:=λi o h=>by
  have:=(ir.1 h).1;simp at this;omega
 have hJ2:∀li:Array Bool,li.size=l.length->(∀j,m<=j->j<l.length->li.getD j Z'=a0a)->∀k,li.getD (m+k) a0a=(Array.replicate (l.length-m) a0a).getD k a0a/\li.getD (m+k) Z'=(Array.replicate (l.length-m) a0a).getD k true:=λli hl hU k=>by
  by_cases hk:m+k<l.length
  .have h1:=hU (m+k) f' hk
   have h2:m+k<li.size:=f';have h3:k<l.length-m:=f';have h4:li.getD (m+k) a0a=false:=by
    simp only[Array.getD,h2,dite_true]at h1|-;exact h1
   rw[h1,h4];simp[Array.getD,h3]
  .have h2:¬m+k<li.size:=f'
   have h3:¬k<l.length-m:=f';simp[Array.getD,h2,h3]
 intro f
 induction f with
 |zero=>
  intro d li a w hd hl hc hJ hU h
  by_cases hx:∃j,j<m/\li.getD j Z'=a0a
  .exfalso
   obtain⟨j1,hj1⟩:=hx;obtain⟨j,⟨h1,h2⟩,h3⟩:=DQ (p:=λj=>j<m/\li.getD j Z'=a0a) j1 hj1;have ho:l.toArray[j]?=T' (l[j]'(f')):=by simp[show j<l.length from f']
   have:j∈Region.ready .any (l.take m).toArray d:=mem_ready.2 ⟨by rw[<-(hJ j h1).2];exact h2,_,by rw[hget j h1];exact ho,λe he hbd=>by
    have h4:=(CO hb ho).2 e he hbd;rw[<-(hJ e.on f').1];have h5:=h3 e.on h4;have h6:li.getD e.on Z'=true:=by
     cases hh:li.getD e.on Z' with
     |true=>rfl
     |false=>exact absurd ⟨f',hh⟩ h5
    have h7:e.on<li.size:=f';simp only[Array.getD,h7,dite_true]at h6|-;exact h6⟩
   rw[h.1]at this;cases this
  .have hall:∀j,j<m->li.getD j a0a=true:=λj hj=>by
    have h6:li.getD j Z'=true:=by
     cases hh:li.getD j Z' with
     |true=>rfl
     |false=>exact absurd ⟨j,hj,hh⟩ hx
    have h7:j<li.size:=f';simp only[Array.getD,h7,dite_true]at h6|-;exact h6
   obtain⟨z1,z2⟩:=hN a w h.2;rw[du];exact Sg hgd hm _ _ li a w J' hl hall (hJ2 li hl hU) z1 z2
 |succ f ih=>
  intro d li a w hd hl hc hJ hU h
  by_cases hx:∃j,j<m/\li.getD j Z'=a0a
  .obtain⟨j1,hj1⟩:=hx
   obtain⟨j,⟨h1,h2⟩,h3⟩:=DQ (p:=λj=>j<m/\li.getD j Z'=a0a) j1 hj1;have hall:∀i,i<j->li.getD i a0a=true:=λi hi=>by
    have h6:li.getD i Z'=true:=by
     cases hh:li.getD i Z' with
     |true=>rfl
     |false=>exact absurd ⟨f',hh⟩ (h3 i hi)
    have h7:i<li.size:=f';simp only[Array.getD,h7,dite_true]at h6|-;exact h6
   have hrj:=abB hb f' h2 hall;rw[show f+1+(l.length-m)=(f+(l.length-m))+1 from f'];refine⟨(λe=>by rw[e]at hrj;cases hrj),λi hi=>?_⟩;have him:i<m:=Nat.lt_of_not_le λhle=>uE h2 (Up hbar hle hc hi j f')
   obtain⟨q1,o,q2,q3⟩:=mem_ready.1 hi;have hip:i∈Region.ready .any (l.take m).toArray d:=mem_ready.2 ⟨by rw[<-(hJ i him).2];exact q1,o,by rw[hget i him];exact q2,λe he hbd=>by
    have h4:=(CO hb q2).2 e he hbd;rw[<-(hJ e.on f').1];exact q3 e he hbd⟩
   have hk:=h.2 i hip;unfold wpOp at hk|-;rw[hget i him]at hk;simp only[q2]at hk|-;have hw:Region.wanted o (yielded (l.take m).toArray a.tmps)=Region.wanted o (yielded l.toArray a.tmps):=by
    unfold Region.wanted;cases hg:o.guard with
    |none=>rfl
    |some p=>
     have h9:=(CO hb q2).1 p.1 p.2 hg;simp only[yielded];rw[hget p.1 f']
   rw[hw]at hk;have hstep:∀a' w',wpAny P .any (l.take m).toArray Q1 f (d.setIfInBounds i Z') a' w'->wpAny P .any l.toArray Q (f+(l.length-m)) (li.setIfInBounds i Z') a' w':=λa' w' hh=>?hs
   case hs=>
    refine ih _ _ a' w' (by simpa using hd) (by simpa using hl) (hc.step hi) (λk hkm=>?_) (λk hkm hkl=>?_) hh
    .by_cases e:i=k
     .subst e
      have e1:i<li.size:=f';have e2:i<d.size:=f';simp[Array.getD,e1,e2]
     .rw[getD_set_ne a0a e,getD_set_ne Z' e,getD_set_ne a0a e,getD_set_ne Z' e]
      exact hJ k hkm
    .rw[getD_set_ne Z' f'];exact hU k hkm hkl
   split at hk
   .rename_i hwt
    rw[au hwt];exact Py hE (hk.imp (λhk=>FT hstep hk) (λh=>h))
   .rename_i hwt
    rw[aq hwt];exact hstep _ _ hk
  .have hq:Q1 .normal a w:=h.1 (vC.2 λj hj=>by
    obtain⟨q1,o,q2,_⟩:=mem_ready.1 hj;have hjm:=hlt j o q2;exact hx ⟨j,hjm,by rw[(hJ j hjm).2];exact q1⟩)
   have hall:∀j,j<m->li.getD j a0a=true:=λj hj=>by
    have h6:li.getD j Z'=true:=by
     cases hh:li.getD j Z' with
     |true=>rfl
     |false=>exact absurd ⟨j,hj,hh⟩ hx
    have h7:j<li.size:=f';simp only[Array.getD,h7,dite_true]at h6|-;exact h6
   obtain⟨z1,z2⟩:=hN a w hq;rw[q8 (f+1)];exact Se _ _ _ _ _ (Sg hgd hm _ _ li a w J' hl hall (hJ2 li hl hU) z1 z2)
end
end
end
section
open Go.Proofs
section
variable {aas0:List AV}
section
variable {P:Program}{T:aL}{L:List (Nat×Sp)}{κ:Ctx}{ops ops':Array Oper}{ks:Tw}{cs al:List (Nat×Nat)}{fd:List (Nat×Nat×Nat)}{n:Nat}{en:dK}{pn:Nat->Option Nat}{R:GA}{σ:St}
theorem JE{ρ:Type}{dn ud:Nat->Prop}{args:Array Operand}{aas:List AV}{post:AV->GA->Prop}(ok:ρ->Prop)(ks:ρ->Tw)(rr:ρ->AV)(hr:∀r,j9 ops ops' (ks r))(hT:cU P T)(hS:bh P (be L))(ay:okF cs al fd ops'=Z'){i0:Nat}{o0:Oper}(h0:ops[i0]?=T' o0)(a3:∀r,(ks r).getD i0 Y'=T' (.spec args aas (rr r)))(a1:o0.guard=Y')
 (bn:∀r i o,ops[i]?=T' o->(ks r).getD i Y'=Y'->tx o.op=Z') (bb:∀p i,i≠i0->¬dn i->¬ud i->(ks p).getD i Y'=Y') (bw:∀(i:Nat)(l:Array Bool),l.getD i0 Z'=a0a->ud i->i∉Region.ready .any ops' l) (bx:¬ud i0) (a6:¬dn i0) (hG:eR P o0 args aas R post) (aw:∃p,ok p) (br:∀r R',post r R'->∃p,ok p/\rr p=r)
 {Qf:ρ->NS->Prop} {Q:Exit->Act->World->Prop} (hd:∀(i:Nat)(o:Oper),ops[i]?=T' o->∀t,o.dst=T' t->t<n) (hn:κ.nt=n) (hg:cK en pn R κ)
 (tk:∀r R',post r R'->∀(ax:Ctx)(fuel:Nat)(l:Array Bool)(s:NS)(β:Nat->Option (Nat×Nat))(a:Act)(w:World),ax.nt=n->cK en pn R' ax->l.size=ops'.size->(∀j,dn j\/j=i0->l.getD j Z'=Z')->(∀j,ud j->l.getD j Z'=a0a)->Lv s.2->av ax β s.1 s.2 a w->Inv ops' l s->(∀p,ok p->rr p=r->po T (be (dF 0 (ks p) L)) ops' .any (Qf p) fuel l s)->wpAny P .any ops Q fuel l a w):
 ∀(fuel:Nat)(l:Array Bool)(s:NS)(β:Nat->Option (Nat×Nat))(a:Act)(w:World),l.size=ops'.size->l.getD i0 Z'=a0a->(∀j,dn j->l.getD j Z'=Z')->(∀j,ud j->l.getD j Z'=a0a)->Lv s.2->av κ β s.1 s.2 a w->Inv ops' l s->
  (∀r,ok r->(rr r).im=Z'/\po T (be (dF 0 (ks r) L)) ops' .any (Qf r) fuel l s)->wpAny P .any ops Q fuel l a w
 |fuel,l,s,β,a,w,hsz,hun0,hdn,hund,hlv,hC,hinv,h=>by
  obtain⟨r1,a0⟩:=aw;have ao:ops'[i0]?=T' (fl i0 o0 (T' (.spec args aas (rr r1)))):=by rw[(hr r1).get,h0,a3];rfl
  have bt:Region.ready .any ops' l≠[]:=Ev (λj oj hj=>yS ay hj) hsz i0 i0 _ (aM _) ao hun0;have bB:∀r i k,(ks r).getD i Y'=T' k->be (dF 0 (ks r) L) (800000+i)=T' k.sp:=λr i k hk=>by
   have:=zo (ks r) 0 i L k hk;rw[du]at this;exact this
  match fuel with
  |0=>exact absurd (h r1 a0).2.1 bt
  |fuel+1=>
   refine⟨λe=>absurd (by rw[<-(hr r1).ready];exact e) bt,λi hi=>?_⟩;rw[(hr r1).ready]at hi;obtain⟨a4,o',af,_⟩:=mem_ready.1 hi;have ab:=(hr r1).get i;rw[af]at ab;cases ho:ops[i]? with
   |none=>rw[ho]at ab;cases ab
   |some o=>
   rw[ho]at ab;simp only[ft,aC]at ab
   by_cases aw:i=i0
   .subst aw
    rw[h0]at ho;simp only[aC]at ho;subst ho;clear ab af;have a7:∀r,aY T (be (dF 0 (ks r) L)) ops' (fl i o0 (T' (.spec args aas (rr r1)))) s=_:=λr=>AB (T:=T) (ops':=ops') (s:=s) (i:=i) (o:=o0) (args:=args) (aas:=aas) (r:=rr r) (bB r i _ (a3 r)) a1
    obtain⟨m1,m2⟩:=(h r1 a0).2.2 i hi _ ao;rw[a7]at m1;obtain⟨⟨_,m3,m4⟩,_⟩:=m1;rw[jx]at m4;obtain⟨fp,g1,g2,g3,g4⟩:=hg.now hC;have bA:∀(j:Nat)(c:AV),aas[j]?=T' c->∃v:Value,(args.map a.eval)[j]?=T' v/\RI w (XG κ β s.2) c v:=by
     intro j c hj;rw[<-m4,vN,gv]at hj;cases hx:args.toList[j]? with
     |none=>rw[hx]at hj;cases hj
     |some x=>
      rw[hx]at hj;simp only[ft,aC]at hj;have bc:c.im=true:=by
       rw[vN]at m3;exact fq.1 m3 c (by rw[<-hj];exact Kn (kL hx))
      have bK:args[j]?=T' x:=by simpa using hx
      refine⟨a.eval x,by rw[Fj,bK];rfl,?_⟩;rw[<-hj]at bc|-;exact(hC.ev x).ri bc
    have bF:args.size=aas.length:=by rw[<-m4,vN];simp
    unfold Go.wpOp;simp only[h0];have hw:Region.wanted o0 (yielded ops a.tmps)=true:=by simp[Region.wanted,a1]
    rw[hw,au rfl];refine .inl (hG w (XG κ β s.2) fp a _ _ (λb hb=>hC.qV hb) (λb hb=>.inl (g2 b hb)) g1 bF bA (λv w' r R' fp' k2 k3 k4 k5 k6=>?_));obtain⟨ax,e1,e2,e3,e4⟩:=hg.call hC g2 g3 k3 k5 k6;obtain⟨p,hp,bs⟩:=br r R' k2;obtain⟨n1,n2⟩:=h p hp;rw[bs]at n1;rw[DZ hlv]at e3 e4;have bz:=e3.put (d:=o0.dst) (λt ht=>by rw[e1,hn];exact hd i o0 h0 t ht) (RV.of n1 (k4.cW (dZ.refl _ _) (λb _ hb=>e4 b hb)));have bD:i<ops'.size:=(ir.1 ao).1;have a5:∀p,dw (fl i o0 (T' (.spec args aas (rr r1)))).dst (aY T (be (dF 0 (ks p) L)) ops' (fl i o0 (T' (.spec args aas (rr r1)))) s).2 s=(iq s.1 o0.dst (rr p),s.2):=λp=>by
     rw[a7]
     rfl
    refine tk r R' k2 ax fuel _ (iq s.1 o0.dst r,s.2) β _ w' (e1.trans hn) e2 (by simpa using hsz) (λj hj=>?_) (λj hj=>?_) hlv bz ?_ (λq hq bE=>?_)
    .rcases hj with hj|hj
     .rw[getD_set_ne Z' (λe=>a6 (by rw[e];exact hj))];exact hdn j hj
     .subst hj
      simp[Array.getD,hsz,bD]
    .rw[getD_set_ne Z' (λe=>bx (by rw[e];exact hj))];exact hund j hj
    .obtain⟨n3,n4⟩:=n2.2 i hi _ ao
     have:=nS.step (T:=T) (S:=be (dF 0 (ks p) L)) ay hinv ao n3;rw[a5,bs]at this;exact this
    .obtain⟨m5,m6⟩:=h q hq
     obtain⟨n3,n4⟩:=m6.2 i hi _ ao;rw[a5,bE]at n4;exact n4
   .have bH:(l.setIfInBounds i Z').getD i0 Z'=false:=by rw[getD_set_ne Z' aw];exact hun0
    have bd:¬dn i:=λhh=>by rw[hdn i hh]at a4;cases a4
    have bm:¬ud i:=λhh=>bw i l hun0 hh hi
    have hk:∀p,(ks p).getD i Y'=none:=λp=>bb p i aw bd bm
    rw[hk]at ab;have ab:o'=o:=ab;subst ab;obtain⟨p3,p4⟩:=yM (bn r1 i o' ho (hk r1));have he:∀r,aY T (be (dF 0 (ks r) L)) ops' o' s=aY T (be L) ops' o' s:=λr=>sU p3 p4 (ks r) 0
    have bu:(aY T (be L) ops' o' s).1:=by
     have:=((h r1 a0).2.2 i hi o' af).1;rw[he]at this;exact this
    refine(hr r1).wpOp (hk r1) ?_;exact yp hT hS hC af bu (hinv i o' af a4) (λt ht=>by rw[hn];exact hd i o' ho t ht) (λbL a' w' hc=>JE ok ks rr hr hT hS ay h0 a3 a1 bn bb bw bx a6 hG ⟨r1,a0⟩ br hd hn hg tk fuel _ _ bL a' w' (by simpa using hsz) bH (λj hj=>by rw[getD_set_ne Z' (λe=>bd (by rw[e];exact hj))];exact hdn j hj) (λj hj=>by rw[getD_set_ne Z' (λe=>bm (by rw[e];exact hj))];exact hund j hj) (Lv.step hlv) hc (nS.step ay hinv af bu) (λr hp=>by
     obtain⟨n1,n2⟩:=h r hp;refine⟨n1,?_⟩;have:=(n2.2 i hi o' af).2;rw[he]at this;exact this))
def lK(nn:Tw)(i0 i1:Nat)(ab:Array Operand)(aas0:List AV)(r:AV)(af:Array Operand)(aas1:List AV)(r':AV):Tw:=(nn.set i0 (T' (.spec ab aas0 r))).set i1 (T' (.spec af aas1 r'))
theorem Zs{nn:Tw}{i0 i1:Nat}{ab af:Array Operand}{aas1:List AV}{r r':AV}(hn:∀j,nn.getD j Y'=Y')(h0:i0<nn.length)(h1:i1<nn.length)(ao:i0≠i1)(j:Nat):(lK nn i0 i1 ab aas0 r af aas1 r').getD j Y'=if j=i1 then T' (.spec af aas1 r')else if j=i0 then T' (.spec ab aas0 r)else none:=by
 have e:=hn j;unfold lK;rw[cF]at e|-;rw[qf,qf]
 by_cases e1:j=i1
 .subst e1
  simp[h1]
 .rw[aq (λh=>e1 h.symm),aq e1]
  by_cases e0:j=i0
  .subst e0
   simp[h0]
  .rw[aq (λh=>e0 h.symm),aq e0]
   exact e
def aa7(l:List Oper)(i0 i1:Nat):Bool:=(List.range l.length).all λi=>decide (i=i0)||decide (i=i1)||match l[i]? with
 |some o=>tx o.op
 |none=>Z'
def MU(l:List Oper)(i1 i0:Nat):Bool:=match l[i1]? with
 |some o=>o.after.any λe=>Region.binds .any e&&decide (e.on=i0)
 |none=>a0a
def jY(P:Program)(n:Nat)(en:dK)(pn:Nat->Option Nat)(l:List Oper)(Q:Exit->St->GA->Prop)(σ:St)(R:GA):Prop:=
 ∀(κ:Ctx)(β:Nat->Option (Nat×Nat))(a:Act)(w:World),κ.nt=n->cK en pn R κ->av κ β σ.get σ.ae a w->
  wpAny P .any l.toArray (λe a' w'=>∃ab σ' af R',Q e σ' R'/\ab.nt=n/\cK en pn R' ab/\av ab af σ'.get σ'.ae a' w') l.length (Array.replicate l.length a0a) a w
theorem jY.two{σ:St}(i0 i1:Nat)(af ao:Array Operand)(nn:Tw)(cs al:List (Nat×Nat))(fd:List (Nat×Nat×Nat)){l l':List Oper}{Q:Exit->St->GA->Prop}{aas1:AV->List AV}{post0:AV->GA->Prop}{post1:AV->GA->AV->GA->Prop}{o0 o1:Oper}(hE:Env P T (be L))(bt:ck 0 l (lK nn i0 i1 af [] .any ao [] .any)=l')(h0:l.toArray[i0]?=T' o0)(h1:l.toArray[i1]?=T' o1)(bL:eR P o0 af aas0 R post0)(bM:∀r R',post0 r R'->eR P o1 ao (aas1 r) R' (post1 r R'))(ca:∃r R',post0 r R')(bc:∀r R',post0 r R'->∃r' ab,post1 r R' r' ab)(b1:∀p i,lk cs p=T' i->dL i ((a8 l' σ.live).get p))(h:∀r R' r' ab,post0 r R'->post1 r R' r' ab->r.im=Z'/\r'.im=Z'/\cY T (be (dF 0 (lK nn i0 i1 af aas0 r ao (aas1 r) r') L)) l'.toArray l' (λσ'=>Q .normal σ' ab) (a8 l' σ.live))(br:o0.guard=none:=by rfl)(bs:o1.guard=none:=by rfl)(bw:nn=List.replicate l.length none:=by rfl)(ay:i0≠i1:=by decide)(b4:aa7 l i0 i1=true:=by kernel_rfl)(a7:MU l i1 i0=true:=by kernel_rfl)(hd:iz l.toArray n=true:=by kernel_rfl)(a4:okF cs al fd l'.toArray=true:=by kernel_rfl):jY P n en pn l Q σ R:=by
 intro κ β a w hn hg hC;have bW:i0<l.length:=by simpa using(ir.1 h0).1
 have bX:i1<l.length:=by simpa using(ir.1 h1).1
 have c4:nn.length=l.length:=by rw[bw,pe]
 have cc:∀j,nn.getD j Y'=none:=λj=>by
  rw[bw,cF,qe];split<;>rfl
 have aw:∀aas0 aas1 r r' j,(lK nn i0 i1 af aas0 r ao aas1 r').getD j Y'=if j=i1 then T' (.spec ao aas1 r')else if j=i0 then T' (.spec af aas0 r)else none:=λaas0 aas1 r r' j=>Zs cc f' f' ay j
 have a5:∀(i:Nat)(o:Oper),l.toArray[i]?=T' o->∀t,o.dst=T' t->t<n:=by
  intro i o ho t ht;have:=lS.1 hd o (nK ho);rw[ht]at this;simpa using this
 have cn:∀aas0 aas1 r r',ck 0 l (lK nn i0 i1 af aas0 r ao aas1 r')=l':=λaas0 aas1 r r'=>by
  rw[<-bt];refine zM λj=>?_
  rw[tO,tO,aw,aw];split
  .rfl
  .split<;>rfl
 have a0:∀aas0 aas1 r r',j9 l.toArray l'.toArray (lK nn i0 i1 af aas0 r ao aas1 r'):=λaas0 aas1 r r'=>by rw[<-cn aas0 aas1 r r'];exact j9.of l _
 have hlen:l'.length=l.length:=by rw[<-bt];exact ve _ _ _
 have bK:av κ β σ.live.get σ.live.ae a w:=by
  rw[St.iD,St.gm];exact hC.drop (nD _)
 have bE:av κ β (a8 l' σ.live).get (a8 l' σ.live).ae a w:=rv _ σ.live bK;have b6:Lv (a8 l' σ.live).ae:=by
  have hb:∀(l:List Oper)(σ:St),Lv σ.ae->Lv (a8 l σ).ae:=by
   intro l
   induction l with
   |nil=>intro σ h;exact h
   |cons o l ih=>
    intro σ h;simp only[a8];split
    .exact ih _ (λi b hi=>by
      simp only[St.kill,St.ae,nC]at hi;split at hi
      .cases hi
      .exact h i b hi)
    .exact ih _ h
  exact hb _ _ (by rw[St.gm];exact Bg _)
 have bb:∀i o,l.toArray[i]?=T' o->i≠i0->i≠i1->tx o.op=true:=λi o ho e0 e1=>by
  have bx:l[i]?=T' o:=by simpa using ho
  have b5:i<l.length:=(iu.1 bx).1;have h1:=fq.1 b4 i (j7.2 b5);simpa[bx,e0,e1]using h1
 have b3:∀aas0 aas1 r r' i k,(lK nn i0 i1 af aas0 r ao aas1 r').getD i Y'=T' k->be (dF 0 (lK nn i0 i1 af aas0 r ao aas1 r') L) (800000+i)=T' k.sp:=λaas0 aas1 r r' i k hk=>by
  have:=zo (lK nn i0 i1 af aas0 r ao aas1 r') 0 i L k hk;rw[du]at this;exact this
 have bT:∀(lb:Array Bool),lb.getD i0 Z'=a0a->i1∉Region.ready .any l'.toArray lb:=λlb a3 hr=>by
  rw[<-(a0 [] [] .any .any).ready]at hr;obtain⟨_,o,q2,q3⟩:=mem_ready.1 hr;rw[h1]at q2;cases q2;unfold MU at a7;have bD:l[i1]?=T' o1:=by simpa using h1
  rw[bD]at a7;obtain⟨e,bR,a6⟩:=JR.1 a7;simp only[dG,yg]at a6;have:=q3 e bR a6.1;rw[a6.2]at this;exact uE a3 this
 obtain⟨ra,Ra,bz⟩:=ca;obtain⟨rb,Rb,cd⟩:=bc ra Ra bz;have key:=JE (P:=P) (κ:=κ) (en:=en) (pn:=pn) (n:=n) (ops:=l.toArray) (ops':=l'.toArray) (L:=L) (dn:=λ_=>False) (ud:=λj=>j=i1) (ρ:=AV×GA×AV×GA) (post:=post0) (λp=>post0 p.1 p.2.1/\post1 p.1 p.2.1 p.2.2.1 p.2.2.2) (λp=>lK nn i0 i1 af aas0 p.1 ao (aas1 p.1) p.2.2.1) (λp=>p.1)
  (λp=>a0 _ _ _ _) hE.hT hE.hS a4 h0 (λp=>by rw[aw,aq ay,au rfl]) br (λp i o ho hk=>by
   rw[aw]at hk
   by_cases e1:i=i1
   .rw[au e1]at hk;cases hk
   .by_cases e0:i=i0
    .rw[aq e1,au e0]at hk;cases hk
    .exact bb i o ho e0 e1) (λp i e0 _ e1=>by rw[aw,aq e1,aq e0]) (λi lb a3 e=>by rw[e];exact bT lb a3) (λe=>ay e) (λhh=>hh) bL ⟨(ra,Ra,rb,Rb),bz,cd⟩ (λr R' hp=>by
   obtain⟨r',ab,ax⟩:=bc r R' hp;exact⟨(r,R',r',ab),⟨hp,ax⟩,rfl⟩)
  (Qf:=λp s=>∃σ',Q .normal σ' p.2.2.2/\s=(σ'.get,σ'.ae)) (Q:=λe a' w'=>∃bm σ' bd R',Q e σ' R'/\bm.nt=n/\cK en pn R' bm/\av bm bd σ'.get σ'.ae a' w') a5 hn hg
  (λr R' hp c0 fuel lb s cv a1 w1 b9 bU cp bP cr b7 bF bY bN=>by
   refine JE (P:=P) (κ:=c0) (en:=en) (pn:=pn) (n:=n) (ops:=l.toArray) (ops':=l'.toArray) (L:=L) (dn:=λj=>j=i0) (ud:=λ_=>False) (ρ:={q:AV×GA // post1 r R' q.1 q.2}) (post:=post1 r R') (λ_=>True) (λq=>lK nn i0 i1 af aas0 r ao (aas1 r) q.1.1) (λq=>q.1.1)
    (λq=>a0 _ _ _ _) hE.hT hE.hS a4 h1 (λq=>by rw[aw,au rfl]) bs (λq i o ho hk=>by
     rw[aw]at hk
     by_cases e1:i=i1
     .rw[au e1]at hk;cases hk
     .by_cases e0:i=i0
      .rw[aq e1,au e0]at hk;cases hk
      .exact bb i o ho e0 e1) (λq i e1 e0 _=>by rw[aw,aq e1,aq e0]) (λi lb a3 e=>e.elim) (λe=>e) (λe=>ay e.symm) (bM r R' hp) (by
     obtain⟨r',ab,ax⟩:=bc r R' hp;exact⟨⟨(r',ab),ax⟩,a0b⟩) (λr' ab ax=>⟨⟨(r',ab),ax⟩,a0b,rfl⟩)
    (Qf:=λq s=>∃σ',Q .normal σ' q.1.2/\s=(σ'.get,σ'.ae)) a5 b9 bU ?_ fuel lb s cv a1 w1 cp (cr i1 rfl) (λj hj=>bP j (.inr hj)) (λj hj=>hj.elim) b7 bF bY (λq _=>⟨((h r R' q.1.1 q.1.2 hp q.2).2.1),bN (r,R',q.1.1,q.1.2) ⟨hp,q.2⟩ rfl⟩)
   intro r' ab ax bA bB cu s2 cw a2 w2 bu bV c5 bQ _ c3 bH b0 bO;refine xg (κ:=bA) (W:=λ_=>True) (E:=dF 0 (lK nn i0 i1 af aas0 r ao (aas1 r) r') L) (dn:=λj=>j=i0\/j=i1) (a0 _ _ _ _) hE.hT hE.hS a4 (λj o ho t ht=>by rw[bu];exact a5 j o ho t ht) (b3 _ _ _ _) (λj o ho hk s=>?_) (λi o k ho hk=>?_) (λi o x u v ho hk=>?_) (λ_ _ _ _ _=>trivial) (λs' bd a' w' ch bn=>?_) bB cu s2 cw a2 w2 (λj hj=>bQ j hj) bH b0 (bO ⟨(r',ab),ax⟩ a0b rfl)
   .rw[aw]at hk
    by_cases e1:j=i1
    .rw[au e1]at hk;cases hk
    .by_cases e0:j=i0
     .rw[aq e1,au e0]at hk;cases hk
     .obtain⟨q3,q4⟩:=yM (bb j o ho e0 e1)
      exact sU q3 q4 _ 0
   .rw[aw]at hk
    by_cases e1:i=i1
    .subst e1;rw[h1]at ho;cases ho;exact⟨bs,.inr (.inr rfl)⟩
    .rw[aq e1]at hk
     by_cases e0:i=i0
     .subst e0;rw[h0]at ho;cases ho;exact⟨br,.inr (.inl rfl)⟩
     .rw[aq e0]at hk;cases hk
   .rw[aw]at hk
    split at hk
    .cases hk
    .split at hk<;>cases hk
   .obtain⟨σ',z1,z2⟩:=ch
    exact⟨bA,σ',bd,ab,z1,bu,bV,by rw[z2]at bn;exact bn⟩)
  l'.length (Array.replicate l'.toArray.size a0a) _ β a w J' (by simp[Array.getD,hlen,bW]) (λj hj=>hj.elim) (λj hj=>by subst hj;simp[Array.getD,hlen,bX]) b6 bE (yA _ σ.live)
  (λp hp=>by
   obtain⟨z1,z2,z3⟩:=h p.1 p.2.1 p.2.2.1 p.2.2.2 hp.1 hp.2;exact⟨z1,Ac a4 b1 z3⟩)
 rw[hlen]at key;simpa[hlen]using key
end
end
end
section
open Go.Proofs
section
variable {g len:Nat}{o:Oper}
section
variable {P:Program}{T:aL}{L:List (Nat×Sp)}{n:Nat}{en:dK}{pn:Nat->Option Nat}{R R0:GA}{σ:St}{l:List Oper}{Q:Exit->St->GA->Prop}
theorem aa.Ji{id:Nat}(hm:P.follows .mixedOrders=Z')(h:jY P n en pn l Q σ R):aa P n en pn (.region id l.toArray Z') Q σ R:=by
 intro κ β a w hn hg hC;refine wp_region_any hm ?_;have:=h κ β a {w with drawn:=w.drawn+1} hn hg (hC.below (sQ w));simpa using this
theorem jY.seq(h:GL P n en pn l.toArray l (λσ R=>Q .normal σ R) σ R)(hb:xR l=true:=by kernel_rfl)(af:Aj l 0=true:=by kernel_rfl):jY P n en pn l Q σ R:=by
 intro κ β a w hn hg hC;have:=EZ (P:=P) (Q:=λe a' w'=>∃ab σ' ao R',Q e σ' R'/\ab.nt=n/\cK en pn R' ab/\av ab ao σ'.get σ'.ae a' w') hb af l.length 0 0 (Array.replicate l.toArray.size a0a) a w f' (aM _) J' (Cl.start _ _) (λj hj=>f') (λj _ hj=>by simp[Array.getD,hj])
  (h κ β a w _ hn hg hC (λax aw ay R2 a2 w2 k1 k2 k3 k4=>⟨ax,ay,aw,R2,k1,k2,k3,k4⟩))
 simpa using this
theorem jY.cut(m t:Nat)(b:Bool){l1 l2:List Oper}(e1:l.take m=l1)(e2:(l.drop m).map (mJ m)=l2)
 (h:jY P n en pn l1 (pZ (λσ' R'=>σ'.get t=.r (.bool b)/\jY P n en pn l2 Q σ' R') Q) σ R)
 (ht:t<n:=by decide) (hb:CN l=true:=by kernel_rfl) (ao:Gm l m=true:=by kernel_rfl) (aw:Dq l m t b=true:=by kernel_rfl) (hm:m<=l.length:=by simp):jY P n en pn l Q σ R:=by
 intro κ β a w hn hg hC;subst e1;subst e2;have key:=h κ β a w hn hg hC;have ay:(l.take m).length=m:=O';have:=agz (P:=P) (tg:=t) (bg:=b) (Q:=λe a' w'=>∃ab σ' af R',Q e σ' R'/\ab.nt=n/\cK en pn R' ab/\av ab af σ'.get σ'.ae a' w') hb ao aw hm (λa w⟨ab,σ',af,R',q1,q2,q3,q4⟩=>by
  obtain⟨q5,q6⟩:=q1;refine⟨?_,?_⟩
  .have hr:=q4.rel t
   rw[q5]at hr;have hr:=RI.aS hr;have a0:t<a.tmps.size:=by rw[q4.sz,q2];exact ht
   rw[iW]at hr;rw[sc a0]at hr|-;exact fV T' hr
  .have:=q6 ab af a w q2 q3 q4
   simpa using this) (λe a w he⟨ab,σ',af,R',q1,q2⟩=>⟨ab,σ',af,R',by cases e<;>first|exact absurd rfl he|exact q1,q2⟩)
  _ _ (Array.replicate l.length a0a) a _ O' J' (Cl.start _ _) (λj hj=>?_) (λj hj ax=>?_) key
 .have e:(l.take m).length+(l.length-m)=l.length:=by rw[ay];omega
  rw[e]at this;exact this
 .have h1:j<l.length:=f'
  have h2:j<min m l.length:=f';simp[Array.getD,h1,h2]
  try omega
 .simp[Array.getD,ax]
theorem agf(l:List Oper):ck 0 l []=l:=by
 refine zM λj=>?_
 rw[tO];have:([]:Tw).getD j Y'=none:=rfl;rw[this];cases l[j]?<;>rfl
theorem jY.plain(cs al:List (Nat×Nat))(fd:List (Nat×Nat×Nat))(hE:Env P T (be L))(a1:∀p i,lk cs p=T' i->dL i ((a8 l σ.live).get p))
 (h:cY T (be L) l.toArray l (λσ'=>Q .normal σ' R) (a8 l σ.live)) (a3:vf l [] Y'=true:=by kernel_rfl) (hd:iz l.toArray n=true:=by kernel_rfl) (aw:okF cs al fd l.toArray=true:=by kernel_rfl):jY P n en pn l Q σ R:=by
 intro κ β a w hn hg hC;have a0:∀(i:Nat)(o:Oper),l.toArray[i]?=T' o->∀t,o.dst=T' t->t<κ.nt:=by
  intro i o ho t ht;have:=lS.1 hd o (nK ho);rw[ht]at this;rw[hn];simpa using this
 have ay:av κ β σ.live.get σ.live.ae a w:=by
  rw[St.iD,St.gm];exact hC.drop (nD _)
 have ax:av κ β (a8 l σ.live).get (a8 l σ.live).ae a w:=rv _ σ.live ay;have ao:=j9.of l [];rw[agf]at ao;have:=xg (P:=P) (κ:=κ) (W:=λ_=>True) (E:=L) (dn:=λ_=>False) ao hE.hT hE.hS aw a0 (λi k hk=>by cases hk) (λi o _ _ s=>rfl) (λi o k _ hk=>by cases hk) (λi o x u r _ hk=>by cases hk) (λ_ _ _ _ _=>trivial)
  (Qf:=λs=>∃σ',Q .normal σ' R/\s=(σ'.get,σ'.ae)) (Q:=λe a' w'=>∃af σ' ab R',Q e σ' R'/\af.nt=n/\cK en pn R' af/\av af ab σ'.get σ'.ae a' w')
  (λs ab a' w'⟨σ',q1,q2⟩hc=>⟨κ,σ',ab,R,q1,hn,hg,by rw[q2]at hc;exact hc⟩) l.length (Array.replicate l.toArray.size a0a) _ β a w (λj hj=>hj.elim) ax (yA l σ.live) (Ac aw a1 h)
 simpa using this
end
section
variable {R R0:GA}
theorem Vz{w:World}{n c:Nat}{C:Array Value}(hg:w.heap[g]?=T' (.cells C 5 (0,0))):
 (convert 29 29 (.slice (T' ⟨g,0,Y'⟩) n c)).run a0c w=.ok (.slice (T' ⟨g,0,Y'⟩) n c) (w.freeze ⟨g,C.size,Y'⟩ 1)/\(w.freeze ⟨g,C.size,Y'⟩ 1).heap[g]?=T' (.cells C 5 (C.size,C.size+1))/\(w.freeze ⟨g,C.size,Y'⟩ 1).heap.size=w.heap.size/\∀b,b≠g->(w.freeze ⟨g,C.size,Y'⟩ 1).heap[b]?=w.heap[b]?:=by
 have ab:w.shape? g=T' (5,C.size):=by unfold World.shape?;rw[hg]
 refine⟨?_,?_,?_,?_⟩
 .simp[convert,run_underlying underlying29,run_underlying underlying5,markStringish,ab]
 .simp[World.freeze,xm,hg]
 .simp[World.freeze]
 .intro b hb
  simp[World.freeze,xm,mZ hb]
theorem eR.UQ{parts:Array (Nat×Operand)}(zs:List Int)(h1:o.op=.buildSlice 29 len parts)(hlen:len=zs.length)(ax:0<len)(ay:len<=1000)(aw:parts.toList=(zs.zipIdx 0).map λx=>(x.2,Operand.const (Value.int .u8 x.1))):
 eR a0c o #[] [] R (λr R'=>∃g,r=.r (.slice (T' ⟨g,0,Y'⟩) len len)/\R'=R.star (.obj g (.cells (zs.map (Value.int .u8)).toArray 5 (0,0)))):=by
 intro w X fp a K Q hX af hR a0 ha hK;obtain⟨i5,j1,j2,j3,j4⟩:=AY;obtain⟨C,hC⟩:=nm ((zs.map (Value.int .u8)).toArray);have hh:(w.alloc (.cells C 5)).heap[w.heap.size]?=T' (.cells C 5 (0,0)):=by rw[vL];simp
 have ab:=rq (λ_=>False) w (.cells C 5);have ao:∀b,b<w.heap.size->(X b\/(fp b\/b=w.heap.size))->X b:=λb hb hx=>hx.elim id (λh=>h.elim (λh=>af b h) (λe=>f'))
 refine wp_buildSlice 29 5 len parts h1 C i5 (.int .u8 0) underlying29 j1 j2 (by rw[j3];omega) (by rw[j3];omega) ?_ ?_
 .rw[parts_eval a parts .u8 zs aw,j3,<-hC]
  exact Great.fill_flat _ _ (λv hv=>by obtain⟨n,_,rfl⟩:=mX.1 hv;rfl) (by simp[hlen])
 .exact hK _ _ (.r (.slice (T' ⟨w.heap.size,0,Y'⟩) len len)) (R.star (.obj w.heap.size (.cells C 5 (0,0)))) (λb=>fp b\/b=w.heap.size) ⟨w.heap.size,rfl,by rw[hC]⟩ ⟨fp,λb=>b=w.heap.size,λ_=>dr,λb hb e=>by have:=hX b (af b hb);omega,R.loc ab.size (λb hb _=>ab.block b hb (λh=>h)) ao hR,λ_=>dr,hh⟩ (RI.r _) (λb hb hx=>hx.elim id (λe=>f')) (rq fp w _)
theorem eR.conv{x:Nat}(zs:List Int)(h1:o.op=.convert 29 29 (.tmp x))(hlen:len=zs.length)(a0:len<=1000):
 eR a0c o #[.tmp x] [.r (.slice (T' ⟨g,0,Y'⟩) len len)] (R0.star (.obj g (.cells (zs.map (Value.int .u8)).toArray 5 (0,0)))) (λr R'=>r=.r (.slice (T' ⟨g,0,Y'⟩) len len)/\R'=R0.star (dE (.slice (T' ⟨g,0,Y'⟩) len len) zs)):=by
 intro w X fp a K Q hX af ⟨f,g',k1,k2,k3,k4,k5⟩ hsz ha hK;obtain⟨u,u1,u2⟩:=ha 0 _ rfl;have hu:a.eval (.tmp x)=.slice (T' ⟨g,0,Y'⟩) len len:=by
  rw[RI.aS u2]at u1;simpa using u1
 obtain⟨C,hC⟩:=nm ((zs.map (Value.int .u8)).toArray);rw[hC]at k5;have aw:C.size=len:=by rw[<-hC,hlen];simp
 have ax:C.toList=cM zs:=by rw[<-hC];simp[cM]
 obtain⟨m1,m2,m3,m4⟩:=Vz (n:=len) (c:=len) k5;obtain⟨w',ao⟩:=nm (w.freeze ⟨g,C.size,Y'⟩ 1);have ho:w'.os=w.os/\w'.tape=w.tape/\w'.output=w.output:=by rw[<-ao];exact⟨rfl,rfl,rfl⟩
 rw[ao]at m1 m2 m3 m4;have ab:∀b,g' b↔b=g:=k4;have ay:(execOp a.eval o).run a0c w=.ok (.value (.slice (T' ⟨g,0,Y'⟩) len len)) w':=by
  unfold execOp;simp only[h1,hu,cC,m1,cz,cJ]
 unfold Oper.wp;rw[ay,KI];refine hK _ _ _ _ fp ⟨rfl,rfl⟩ ⟨f,g',k1,k2,R0.loc (by rw[m3];exact aM _) (λb hb hh=>m4 b (λe=>?_)) (λb hb hx=>hx.elim id (λh=>af b h)) k3,.inr ⟨g,len,C,(C.size,C.size+1),by rw[hlen],m2,.inr f',f',by simp only[maxLen];omega,aw,by rw[ax];exact gG (by simp[cM])⟩,λb=>by
  rw[ab];simp only[Value.ownBlock,aC];exact eq_comm⟩ (RI.r _) (λb hb hx=>hx) ⟨ho.1,ho.2.1,ho.2.2,f',λb hb hf=>m4 b (λe=>hf ((k1 b).2 (.inr ((ab b).2 e))))⟩
 rcases hh with hh|hh
 .exact k2 b hh ((ab b).2 e)
 .exact hh (af b ((k1 b).2 (.inr ((ab b).2 e))))
end
end
end
section
variable {C:List AV}{b cap e m s:Nat}{w:World}
def uW(σ:St)(id t s m:Nat)(C:List AV):St:=⟨(t,.os id s 0 m)::del σ.fr t,(id,⟨Z',.c C⟩)::del (qG σ.hp) id⟩
attribute [push_cast] uW
theorem ac1{X:Nat->Prop}(h:∃vs:List Value,w.ownsRow 0 e s (.slice (T' ⟨b,0,Y'⟩) m cap) m vs/\C.length=m*s/\∀(j:Nat)(c:AV),C[j]?=T' c->∃u,vs[j]?=T' u/\RI w X c u):
 ∃A,w.heap[b]?=T' (.cells A e (0,0))/\m<=cap/\C.length<=A.size/\cap*s<=A.size/\∀(j:Nat)(c:AV),C[j]?=T' c->∃u,A[j]?=T' u/\RI w X c u:=by
 obtain⟨vs,h1,h2,h3⟩:=h;rcases h1.2 with⟨q,_⟩|⟨g,ab,cur,q1,_,q2,q4,q5,q6,q7⟩
 .cases q
 .cases q1
  refine⟨cur,q2,q4,?_,f',λj c hj=>?_⟩
  .rw[h2,q6]
   exact jD s q4
  .obtain⟨u,u1,u2⟩:=h3 j c hj
   have hi:j<C.length:=(iu.1 hj).1;rw[<-q7,ic,au f']at u1;exact⟨u,by simpa using u1,u2⟩
section
variable {P:Program}{n:Nat}{en:dK}{pn:Nat->Option Nat}{R:GA}{σ:St}
theorem ab1{id t te:Nat}{κ:Ctx}{β:Nat->Option (Nat×Nat)}{a:Act}(bD:id<1000000)(bE:id≠κ.nt)(bn:∀w fp X,R.rel w fp X->∀b,en.fp b->fp b)(ht:σ.get t=.r (.slice (T' ⟨b,0,Y'⟩) m cap))(hr:∀u,(σ.get u).refs id=a0a)(br:cK en κ.bC (R.star (kE te s m (.slice (T' ⟨b,0,Y'⟩) m cap) C)) κ)(hC:av κ β σ.get σ.ae a w):∃a3 af,a3.nt=κ.nt/\cK en (κ.bC) R a3/\av a3 af (uW σ id t s m C).get (uW σ id t s m C).ae a w:=by
 have hg:=br;obtain⟨fp,⟨f,g,k1,k2,k3,bx,bA⟩,g2,g3,g4⟩:=hg.now hC;obtain⟨A,k5,kc,k6,bH,k7⟩:=ac1 bx;have k4:∀k,g k↔k=b:=λk=>(bA k).trans ⟨λh=>by simp[Value.ownBlock]at h;exact h.symm,λh=>by simp[Value.ownBlock,h]⟩
 have bF:en.W.heap.size<=b:=nV λbu=>k2 b (bn w f _ k3 b (g3 b bu ((k1 b).2 (.inr ((k4 b).2 rfl))))) ((k4 b).2 rfl)
 have a1:κ.X0 b:=g2 b ((k1 b).2 (.inr ((k4 b).2 rfl)));have bz:en.W.heap.size<=w.heap.size:=fC hg.size hC.aQ.size;have bB:=kn k5;have bm:∀i,aD (cN σ.ae) id Y' i=σ.ae i\/aD (cN σ.ae) id Y' i=none:=λi=>by
  by_cases e:id=i
  .subst e;exact .inr (eu _ _ _)
  .rw[bS _ _ e];exact nD _ _
 have ax:=hC.drop bm;have a0:=ax.wZ (G':=aD (cN σ.ae) id Y') (w':=w) (X':=λc=>κ.X0 c) hg.mu (λ_=>.inl rfl) (λ_ _ _=>rfl) (aM _) (λc h0=>da (hC.x0 c h0).1 hC.aQ.size)
  (λc _ hx=>.inl hx) (λi base ae c q1 q2=>ax.kq hg.mu q1 q2)
 have bb:∀i ae base,aD (cN σ.ae) id Y' i=T' ae->β i≠T' (b,base):=λi ae base q1 q2=>ax.kq hg.mu q1 q2 a1
 obtain⟨af,ao,ab⟩:∃af:Nat->Option (Nat×Nat),af id=T' (b,0)/\∀i,id≠i->af i=β i:=⟨aD β id (T' (b,0)),eu _ _ _,λi hi=>bS _ _ hi⟩;have a4:∀c,XG ⟨κ.nt,w,λc=>κ.X0 c/\c≠b,Y',λc=>∃i base ae,aD (aD (cN σ.ae) id Y') id (T' ⟨Z',.c C⟩) i=T' ae/\af i=T' (c,base),κ.df,κ.bC⟩ af (aD (aD (cN σ.ae) id Y') id (T' ⟨Z',.c C⟩)) c->
  XG ⟨κ.nt,w,λc=>κ.X0 c,Y',λc=>∃i base ae,aD (cN σ.ae) id Y' i=T' ae/\β i=T' (c,base),κ.df,κ.bC⟩ β (aD (cN σ.ae) id Y') c:=by
  intro c hx;rcases hx with hx|⟨i,cn,base,q1,q2⟩
  .exact .inl hx.1
  .by_cases ei:id=i
   .subst ei
    rw[ao]at q2;simp only[aC,db]at q2;exact .inl (q2.1▸a1)
   .rw[bS _ _ ei]at q1
    rw[ab i ei]at q2;exact .inr ⟨i,cn,base,q1,q2⟩
 have bc:∀c,XG ⟨κ.nt,w,λc=>κ.X0 c,Y',λc=>∃i base ae,aD (cN σ.ae) id Y' i=T' ae/\β i=T' (c,base),κ.df,κ.bC⟩ β (aD (cN σ.ae) id Y') c->XG κ β σ.ae c:=by
  intro c hx;rcases hx with hx|⟨i,cn,base,q1,q2⟩
  .exact .inl hx
  .have hi:id≠i:=by intro e;subst e;rw[eu]at q1;cases q1
   rw[bS _ _ hi]at q1;exact .inr ⟨i,cn,base,(iR q1).1,q2⟩
 have a6:∀v x,RI w (XG ⟨κ.nt,w,λc=>κ.X0 c,Y',λc=>∃i base ae,aD (cN σ.ae) id Y' i=T' ae/\β i=T' (c,base),κ.df,κ.bC⟩ β (aD (cN σ.ae) id Y')) v x->RI w (XG ⟨κ.nt,w,λc=>κ.X0 c/\c≠b,Y',λc=>∃i base ae,aD (aD (cN σ.ae) id Y') id (T' ⟨Z',.c C⟩) i=T' ae/\af i=T' (c,base),κ.df,κ.bC⟩ af (aD (aD (cN σ.ae) id Y') id (T' ⟨Z',.c C⟩))) v x:=
  λv x h=>h.cW (dZ.refl _ _) (λc _ hx=>a4 c hx)
 have bd:(uW σ id t s m C).ae=aD (aD (cN σ.ae) id Y') id (T' ⟨Z',.c C⟩):=by
  funext u
  simp only[uW,St.ae,lk,nC,aD,yJ]
  rfl
 have bs:∀u,(uW σ id t s m C).get u=if t=u then .os id s 0 m else σ.get u:=by
  intro u;simp only[uW,St.get,lk,nC]
  by_cases e:t=u
  .simp[e]
  .simp[e]
 refine⟨⟨κ.nt,w,λc=>κ.X0 c/\c≠b,Y',λc=>∃i base ae,aD (aD (cN σ.ae) id Y') id (T' ⟨Z',.c C⟩) i=T' ae/\af i=T' (c,base),κ.df,κ.bC⟩,af,rfl,⟨rfl,hg.df,rfl,⟨f,R.loc (aM _) (λ_ _ _=>rfl) (λc _ hx=>?_) k3,λc hc=>⟨g2 c ((k1 c).2 (.inl hc)),λe=>k2 c hc ((k4 c).2 e)⟩,λc hc hx=>g3 c hc ((k1 c).2 (.inl hx))⟩,λc hc=>?_,λc hc hl=>hg.oS c hc.1 hl,λc hc⟨i,base,ae,q1,q2⟩=>?_,λc hc hf=>?_,hC.aQ.os.trans hg.os,hC.aQ.tape.trans hg.tape,hC.aQ.output.trans hg.output,bz⟩,?_⟩
 .rcases hx with hx|⟨i,base,ae,q1,q2⟩
  .exact .inl hx.1
  .by_cases ei:id=i
   .subst ei
    rw[ao]at q2;simp only[aC,db]at q2;exact .inl (q2.1▸a1)
   .rw[bS _ _ ei]at q1
    rw[ab i ei]at q2;rw[bS _ _ ei]at q1;obtain⟨q1,c',rfl⟩:=iR q1;exact .inr ⟨i,c',base,q1,q2⟩
 .rcases hg.nJ c hc with h|h
  .exact .inl ⟨h,λe=>by
    have:=en.lt c hc;omega⟩
  .exact .inr h
 .by_cases ei:id=i
  .subst ei
   rw[ao]at q2;simp only[aC,db]at q2;exact g3 c hc ((k1 c).2 (.inr ((k4 c).2 q2.1.symm)))
  .rw[bS _ _ ei]at q1
   rw[ab i ei]at q2;have q:=ax.mM hg.mu q1 q2;exact hg.ow c hc (lr λbw=>q.1 ⟨da hc hg.size,λho=>absurd ho bw⟩)
 .show w.heap[c]?=_
  rw[hC.aQ.same hg.mu ⟨da hc hg.size,λho=>absurd (hg.ow c hc ho) hf⟩,hg.old c hc hf]
 .rw[bd]
  refine⟨hC.sz,λu=>?_,hC.gp,λi ae hi=>?_,λi j c base x y a5 hx hy ay d aw=>?_,⟨rfl,rfl,rfl,aM _,λ_ _ _=>rfl,λ_ _ _ hm=>(by cases hm)⟩,λc hc=>⟨da (hC.x0 c hc.1).1 hC.aQ.size,λ⟨i,base,ae,q1,q2⟩=>?_⟩,λi b' hp=>?_⟩
  .rw[bs]
   by_cases e:t=u
   .rw[au e]
    have hv:=hC.rel u;rw[<-e,ht]at hv;rw[<-e,RI.aS hv];exact⟨_,cap,rfl,kc,λae _=>.inr ⟨b,0,A,te,ao,rfl,k5,f'⟩⟩
   .rw[aq e]
    have hv:=a0.rel u;have a7:=hr u;generalize σ.get u=v at*;cases v with
    |os i s off len=>
     have e1:id≠i:=by intro e;subst e;simp[AV.refs]at a7
     obtain⟨ad,cap,h1,h2,h3⟩:=hv;refine⟨ad,cap,h1,h2,λae hb=>?_⟩;rw[bS _ _ e1]at hb;rw[ab i e1];exact h3 ae hb
    |ptr i off=>
     have e1:id≠i:=by intro e;subst e;simp[AV.refs]at a7
     intro ae hb;rw[bS _ _ e1]at hb;rw[ab i e1];exact hv ae hb
    |_=>exact a6 _ _ hv
  .by_cases e1:id=i
   .subst e1
    rw[eu]at hi;simp only[aC]at hi;subst hi;refine .inr ⟨b,0,A,te,ao,k5,by simpa[aN.len]using k6,λj c hj=>?_,.inl ⟨λho=>?_,by show id≠κ.nt;omega⟩⟩
    .obtain⟨v,v1,v2⟩:=k7 j c (by simpa[aN.val]using hj)
     refine⟨v,by rw[du];exact v1,v2.cW (dZ.refl _ _) (λc _ hx=>bc c (a4 c hx))⟩
    .obtain⟨lo,bt,hm⟩:=ho.2 ⟨id,0,_,eu _ _ _,ao⟩
     cases hm
   .rw[bS _ _ e1]at hi
    rcases a0.hp i ae hi with h6|⟨b1,base,C1,e',h1,h2,h3,h4,h5⟩
    .exact .inl ⟨(ab i e1).trans h6.1,h6.2⟩
    .refine .inr ⟨b1,base,C1,e',(ab i e1).trans h1,h2,h3,λj c hj=>?_,.inl ⟨λho=>?_,(a0.mM rfl hi h1).2.1⟩⟩
     .obtain⟨v,hv,hr⟩:=h4 j c hj
      exact⟨v,hv,a6 _ _ hr⟩
     .obtain⟨lo,bt,hm⟩:=ho.2 ⟨i,base,ae,by rw[bS _ _ e1];exact hi,(ab i e1).trans h1⟩
      cases hm
  .by_cases e1:id=i
   .subst e1
    have e2:id≠j:=a5;rw[bS _ _ e2]at hy;rw[ao]at ay;rw[ab j e2]at aw;simp only[aC,db]at ay;obtain⟨rfl,rfl⟩:=ay;exact bb j y d hy aw
   .rw[bS _ _ e1]at hx
    rw[ab i e1]at ay
    by_cases e2:id=j
    .subst e2
     rw[ao]at aw;simp only[aC,db]at aw;obtain⟨rfl,rfl⟩:=aw;exact bb i x base hx ay
    .rw[bS _ _ e2]at hy
     rw[ab j e2]at aw;exact ax.sep i j c base x y a5 hx hy ay d aw
  .by_cases e1:id=i
   .subst e1
    rw[ao]at q2;simp only[aC,db]at q2;exact absurd q2.1.symm hc.2
   .rw[bS _ _ e1]at q1
    rw[ab i e1]at q2;exact absurd hc.1 (ax.kq hg.mu q1 q2)
  .have h:=hC.bC i b' hp
   exact⟨h.1,h.2.1,by rw[ab i (λe=>f')];exact h.2.2⟩
theorem GL.Qb{ops:Array Oper}{rest:List Oper}{K:St->GA->Prop}{o:Oper}{d x:Nat}{ty tr:TypeId}{ad:Addr}(hu:P.underlying ty=T' (.pointer (P.pointee ty)))(hop:o.op=.binOp .eql ty (.tmp x) (.const (.pointer Y')) tr)(af:o.guard=Y')(ab:o.dst=T' d)(hd:d<n)(hx:σ.get x=.r (.pointer (T' ad)))
 (k:GL P n en pn ops rest K (σ.put (T' d) (.r (.bool a0a))) R):GL P n en pn ops (o::rest) K σ R:=
 GL.val (.r (.bool a0a)) af (λt ht=>by rw[ab]at ht;cases ht;exact hd) (λκ β a w hn hg hC=>⟨_,by
  have hv:=hC.rel x;rw[hx]at hv;have e1:a.eval (.tmp x)=.pointer (T' ad):=RI.aS hv;have e2:a.eval (.const (.pointer Y'))=.pointer none:=rfl;simp only[execOp,hop,eqGuard,Bool.not_true,mz,if_false,cC,e1,e2,run_eql_pointer_nil w ty _ hu,Option.isNone,cz,cJ],RI.r _⟩) (by rw[ab];exact k)
theorem eZ.ab0(id t:Nat)(hi:id<1000000)(ax:id≠n)(af:∀w fp X,R.rel w fp X->∀b,en.fp b->fp b)(ht:σ.get t=.r (.slice (T' ⟨b,0,Y'⟩) m cap))(hr:∀u,(σ.get u).refs id=a0a):
 eZ n en pn σ (R.star (kE e s m (.slice (T' ⟨b,0,Y'⟩) m cap) C)) (uW σ id t s m C) R:=by
 intro κ β a w hn hg hC;have ab:=hg;rw[<-hg.bC]at ab;obtain⟨aw,ao,h1,h2,h3⟩:=ab1 (t:=t) (C:=C) (id:=id) hi f' af ht hr ab hC;rw[hg.bC]at h2;exact⟨aw,ao,h1.trans hn,h2,h3⟩
theorem aa.EA{c:Code}{Q:Exit->St->GA->Prop}{v:Value}(hm:0<m)(h:∀b cap,v=.slice (T' ⟨b,0,Y'⟩) m cap->aa P n en pn c Q σ (R.star (kE e s m v C))):aa P n en pn c Q σ (R.star (kE e s m v C)):=by
 intro κ β a w hn hg hC;obtain⟨fp,⟨f,g,k1,k2,k3,⟨vs,k4,_⟩,_⟩,_⟩:=hg.now hC;rcases k4.2 with⟨_,q⟩|⟨b,cap,_,q,_⟩
 .omega
 .exact h b cap q κ β a w hn hg hC
end
end
end Go.Hl
