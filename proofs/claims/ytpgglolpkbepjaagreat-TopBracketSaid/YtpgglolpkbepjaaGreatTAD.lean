/- Lemmas for TopSound and TopBracket. -/
import Derived.Test.YtpgglolpkbepjaaGreatTAC
set_option linter.unusedVariables false
set_option linter.unusedSimpArgs false
namespace Go.Hl
open Option renaming some→T',none→Y'
open Bool renaming true→Z',false→a0a
open Go Go.RowKit
section
variable {v:AV}{id:Nat}{F:Nat->AV}{o x y:Oper}{d:Option Nat}
abbrev NS:=(Nat->AV)×(Nat->Option cq)
def kA:Op->Bool|.alloc _=>Z'|_=>a0a
def kB:Op->Bool|.store _ _ _=>Z'|_=>a0a
def uF:Op->Bool
 |.load _ _|.fieldAddr _ _ _|.indexAddr _ _ _|.nilCheck _|.alloc _|.store _ _ _=>a0a
 |_=>Z'
def gw(ops:Array Oper)(F:Nat->AV)(o:Oper):Option Bool:=
 match o.guard with
 |none=>T' Z'
 |some (j,want)=>match(ops[j]?).bind (·.dst)with
  |none=>T' a0a
  |some t=>match F t with
   |.r (.bool b)=>T' (b==want)
   |.r _=>T' a0a
   |_=>Y'
inductive Ef where
 |put (v:AV)
 |all (z:List AV)
 |lQ (id:Nat) (c:cq)
def dw(d:Option Nat)(e:Ef)(s:NS):NS:=
 match e with
 |.put v=>(iq s.1 d v,s.2)
 |.all z=>match d with
  |some d=>(aD s.1 d (.ptr d 0),aD s.2 d (T' ⟨Z',.c z⟩))
  |none=>s
 |.lQ id c=>(s.1,aD s.2 id (T' c))
def aY(T:aL)(S:FuncId->Option Sp)(ops:Array Oper)(o:Oper)(s:NS):Prop×Ef:=
 match gw ops s.1 o with
 |none=>(False,.put .any)
 |some a0a=>(True,.put (.r undef))
 |some Z'=>match o.op with
  |.alloc t=>match T.zr t with
   |some z=>(o.dst.isSome=Z',.all z)
   |none=>(False,.put .any)
  |.store t p v=>match ev s.1 p,(ev s.1 v).cells with
   |.ptr id off,T' vs=>match s.2 id with
    |some ⟨Z',con⟩=>match con.wW off vs with
     |some con'=>(o.dst=Y'/\off+vs.length<=con.len/\(T.vr t=T' Y'/\vs.length=1\/T.vr t=T' (T' vs.length)),.lQ id ⟨Z',con'⟩)
     |none=>(False,.put .any)
    |_=>(False,.put .any)
   |_,_=>(False,.put .any)
  |_=>((qd T S s.1 s.2 o).1,.put (qd T S s.1 s.2 o).2)
def Ae(ops:Array Oper)(x y:Oper):Bool:=
 x.apart ops y&& !(kB x.op&&(kB y.op|| !uF y.op))&& !(kB y.op&& !uF x.op)
section
variable {P:Program}{T:aL}{S:FuncId->Option Sp}{κ:Ctx}{β:Nat->Option (Nat×Nat)}{F F':Nat->AV}{G G':Nat->Option cq}{a:Act}{w:World}{X:Nat->Prop}{ops:Array Oper}{md:Region.Mode}
theorem Jt{t:Nat}(h:∀e,d=T' e->e≠t):iq F d v t=F t:=by
 cases d with
 |none=>rfl
 |some e=>exact bS _ _ (h e rfl)
theorem RR{e:Option Nat}{u:AV}(h:∀x,d=T' x->e≠T' x):iq (iq F d u) e v=iq (iq F e v) d u:=by
 cases d with
 |none=>rfl
 |some x=>
  cases e with
  |none=>rfl
  |some y=>
   have ab:x≠y:=λe=>h x rfl (by rw[e])
   funext t
   simp only[iq,aD]
   by_cases h1:y=t
   .by_cases h2:x=t
    .omega
    .rw[au h1,aq h2,au h1]
   .by_cases h2:x=t<;>simp[h1,h2]
theorem G5{x:Operand}(h:∀e,d=T' e->x≠.tmp e):ev (iq F d v) x=ev F x:=by
 cases x with
 |tmp t=>exact Jt (λe he=>λh'=>h e he (by rw[h']))
 |_=>rfl
theorem Hv(h:∀e,d=T' e->e∉o.looksAt ops):gw ops (iq F d v) o=gw ops F o:=by
 unfold gw;cases hg:o.guard with
 |none=>rfl
 |some p=>
  obtain⟨j,want⟩:=p;simp only;cases ht:(ops[j]?).bind (·.dst)with
  |none=>rfl
  |some t=>
   simp only;rw[Jt (λe he e'=>h e he (by subst e';simp[Oper.looksAt,hg,ht]))]
theorem H9{e:Nat}(h:e∉o.looksAt ops):∀x∈o.op.operands,x≠.tmp e:=by
 intro x hx he;subst he;apply h;unfold Oper.looksAt;refine List.mem_append_left _ (List.mem_filterMap.2 ⟨.tmp e,by simpa using hx,rfl⟩)
theorem Qh(h:∀e,d=T' e->e∉o.looksAt ops):qd T S (iq F d v) G o=qd T S F G o:=by
 refine IK o (λx hx=>G5 (λe he=>H9 (h e he) x hx)) (λ_ _ _ _=>rfl)
theorem abu(h:uF o.op=Z'):qv T S F G o=qv T S F G' o:=by
 unfold qv;cases hop:o.op<;>simp only[hop,uF,mz]at h<;>rfl
theorem abq(h:uF o.op=Z'):qd T S F G o=qd T S F G' o:=by
 unfold qd;rw[abu (G':=G') h]
theorem YF{d:Nat}(h:d∉o.looksAt ops):gw ops (aD F d v) o=gw ops F o:=
 Hv (d:=T' d) (λe he=>by cases he;exact h)
theorem AH{x:Operand}(h:(ev F x).refs id=Z'):∃u,(F u).refs id=true:=by
 cases x with
 |tmp t=>exact⟨t,h⟩
 |const v=>
  have:=yY h;simp only[ev]at this;rw[Pl v]at this;cases this
 |global g=>simp[ev,AV.refs]at h
 |func f=>simp[ev,AV.refs]at h
theorem abo{d:Nat}{b:Option cq}{s:NS}(hd:d∉o.looksAt ops)(hr:∀u,(s.1 u).refs d=a0a):
 qd T S (aD s.1 d v) (aD s.2 d b) o=qd T S s.1 s.2 o:=by
 have he:∀x∈o.op.operands,ev (aD s.1 d v) x=ev s.1 x:=λx hx=>G5 (d:=T' d) (λe he=>by cases he;exact H9 hd x hx)
 refine IK o he (λx hx id ab=>?_);rw[he x hx]at ab;refine bS _ _ (λe=>?_);subst e;obtain⟨u,hu⟩:=AH ab;rw[hr u]at hu;cases hu
theorem Az{s s':NS}(hg:gw ops s'.1 o=gw ops s.1 o)(hq:kA o.op=a0a->kB o.op=a0a->qd T S s'.1 s'.2 o=qd T S s.1 s.2 o)(ho:kB o.op=Z'->(∀x∈o.op.operands,ev s'.1 x=ev s.1 x)/\∀id,(∃p∈o.op.operands,(ev s.1 p).refs id=Z')->s'.2 id=s.2 id):
 aY T S ops o s'=aY T S ops o s:=by
 unfold aY;rw[hg];cases gw ops s.1 o with
 |none=>rfl
 |some b=>
  cases b
  .rfl
  .simp only
   cases hop:o.op<;>simp only[hop,kA,kB]at hq ho|-<;>try(rw[hq a0b a0b])
   rename_i t p v;obtain⟨h1,h2⟩:=ho a0b;rw[h1 p (by simp[Op.operands]),h1 v (by simp[Op.operands])];have h3:=λid h=>h2 id ⟨p,by simp[Op.operands],h⟩
   generalize ev s.1 p=pv at*;cases pv with
   |ptr id off=>
    cases(ev s.1 v).cells with
    |none=>rfl
    |some vs=>simp only;rw[h3 id (by simp[AV.refs])]
   |_=>rfl
theorem W8{s:NS}(hp:(aY T S ops o s).1)(h:(aY T S ops o s).2=.put v)(hr:v.refs id=Z'):∃u,(s.1 u).refs id=true:=by
 unfold aY at hp h;split at h
 iterate 2
  .simp only[Ef.put.injEq]at h;subst h;simp[AV.refs]at hr
 .rename_i hg
  simp only[hg]at hp;cases hop:o.op<;>simp only[hop]at hp h
  case alloc t=>split at h<;>simp at h<;>(subst h;simp[AV.refs]at hr)
  case store t p x=>
   split at h
   .split at h
    .split at h
     .simp at h
     .simp only[Ef.put.injEq]at h;subst h;simp[AV.refs]at hr
    .simp only[Ef.put.injEq]at h;subst h;simp[AV.refs]at hr
   .simp only[Ef.put.injEq]at h;subst h;simp[AV.refs]at hr
  all_goals
   simp only[Ef.put.injEq]at h;subst h;obtain⟨x,_,hx⟩:=abr o hp hr;exact AH hx
theorem yl{s:NS}{z:List AV}(h:(aY T S ops o s).2=.all z):kA o.op=true:=by
 unfold aY at h;split at h
 .simp at h
 .simp at h
 .cases hop:o.op<;>simp only[hop,kA]at h|-
  case store t p x=>
   split at h
   .split at h
    .split at h<;>simp at h
    .simp at h
   .simp at h
  all_goals simp at h
theorem ym{s:NS}{c:cq}(h:(aY T S ops o s).2=.lQ id c):kB o.op=Z'/\∃p∈o.op.operands,(ev s.1 p).refs id=true:=by
 unfold aY at h;split at h
 .simp at h
 .simp at h
 .cases hop:o.op<;>simp only[hop,kB]at h|-
  case alloc t=>split at h<;>simp at h
  case store t p x=>
   split at h
   .rename_i id' off vs e1 e2
    split at h
    .split at h
     .simp only[Ef.lQ.injEq]at h
      refine⟨a0b,p,by simp[Op.operands],?_⟩;rw[e1,<-h.1];simp[AV.refs]
     .simp at h
    .simp at h
   .simp at h
  all_goals simp at h
def m7(o:Oper)(s:NS):Prop:=kA o.op=Z'->∀d,o.dst=T' d->∀u,(s.1 u).refs d=a0a
theorem K7(ab:Ae ops x y=Z'):(∀d,x.dst=T' d->d∉y.looksAt ops)/\(∀d,x.dst=T' d->y.dst≠T' d)/\(∀d,y.dst=T' d->d∉x.looksAt ops)/\
 (kB x.op=Z'->kB y.op=a0a/\uF y.op=Z')/\(kB y.op=Z'->uF x.op=Z'):=by
 simp only[Ae,dG,Fm,SW,SX,Bool.not_eq_false']at ab;obtain⟨⟨ab,h1⟩,h2⟩:=ab;obtain⟨a1,a2,a3⟩:=KH ab;refine⟨a1,a2,a3,λh=>?_,λh=>?_⟩
 .rcases h1 with h1|h1
  .rw[h1]at h;cases h
  .exact h1
 .rcases h2 with h2|h2
  .rw[h2]at h;cases h
  .exact h2
theorem GZ{s:NS}{e:Ef}(hl:∀d,y.dst=T' d->d∉x.looksAt ops)(he:(aY T S ops y s).2=e)(hs:kB y.op=Z'->kB x.op=a0a/\uF x.op=Z')(hn:m7 y s):
 aY T S ops x (dw y.dst e s)=aY T S ops x s:=by
 have ab:∀(v:AV)(d:Option Nat),d=y.dst->∀q∈x.op.operands,ev (iq s.1 d v) q=ev s.1 q:=λv d hd q hq=>G5 (λe he=>by subst hd;exact H9 (hl e he) q hq)
 cases e with
 |put v=>
  refine Az (Hv hl) (λ_ _=>Qh hl) (λ_=>⟨ab v _ rfl,λ_ _=>rfl⟩)
 |all z=>
  have hA:=yl he;simp only[dw];cases hd:y.dst with
  |none=>rfl
  |some d=>
   have ao:=hn hA d hd;have af:=hl d hd;simp only;refine Az (YF af) (λ_ _=>abo af ao) (λ_=>⟨ab (.ptr d 0) (T' d) hd.symm,λid⟨p,_,hr⟩=>?_⟩);obtain⟨u,hu⟩:=AH hr;refine bS _ _ (λe=>?_);subst e;rw[ao u]at hu;cases hu
 |lQ id c=>
  obtain⟨hS,_⟩:=ym he;obtain⟨h1,h2⟩:=hs hS;refine Az rfl (λ_ _=>abq h2) (λh=>?_);rw[h1]at h;cases h
theorem TY{s:NS}(ax:Ae ops x y=Z')(hx:m7 x s)(hy:m7 y s):
 dw x.dst (aY T S ops x s).2 (dw y.dst (aY T S ops y s).2 s)=dw y.dst (aY T S ops y s).2 (dw x.dst (aY T S ops x s).2 s):=by
 obtain⟨a1,a2,a3,a4,a5⟩:=K7 ax;have ab:∀{α:Type}(f:Nat->α)(d e:Nat)(u v:α),d≠e->aD (aD f e v) d u=aD (aD f d u) e v:=by
  intro α f d e u v ao
  funext t
  simp only[aD]
  by_cases h1:d=t
  .by_cases h2:e=t
   .omega
   .rw[au h1,aq h2,au h1]
  .by_cases h2:e=t<;>simp[h1,h2]
 generalize hex:(aY T S ops x s).2=ex;generalize hey:(aY T S ops y s).2=ey;have af:∀d e,x.dst=T' d->y.dst=T' e->d≠e:=λd e hd he ay=>a2 d hd (by rw[he,ay])
 cases ex with
 |put v=>
  cases ey with
  |put u=>simp only[dw];rw[RR (λd hd=>λh=>a2 d h hd|>.elim)]
  |all z=>
   simp only[dw];cases hd:y.dst with
   |none=>rfl
   |some e=>
    simp only;have:iq (aD s.1 e (.ptr e 0)) x.dst v=aD (iq s.1 x.dst v) e (.ptr e 0):=by
     cases hd2:x.dst with
     |none=>rfl
     |some d=>exact ab _ _ _ _ _ (af d e hd2 hd)
    rw[this]
  |lQ id c=>rfl
 |all z=>
  have hA:=yl hex;cases ey with
  |put u=>
   simp only[dw];cases hd:x.dst with
   |none=>rfl
   |some d=>
    simp only;have:iq (aD s.1 d (.ptr d 0)) y.dst u=aD (iq s.1 y.dst u) d (.ptr d 0):=by
     cases hd2:y.dst with
     |none=>rfl
     |some e=>exact ab _ _ _ _ _ (mZ (af d e hd hd2))
    rw[this]
  |all z'=>
   simp only[dw];cases hd:x.dst with
   |none=>rfl
   |some d=>
    cases hd2:y.dst with
    |none=>rfl
    |some e=>
     simp only;rw[ab _ _ _ _ _ (af d e hd hd2),ab _ _ _ _ _ (af d e hd hd2)]
  |lQ id c=>
   obtain⟨hS,p,_,hr⟩:=ym hey;simp only[dw];cases hd:x.dst with
   |none=>rfl
   |some d=>
    simp only;obtain⟨u,hu⟩:=AH hr;have ao:d≠id:=by
     intro e;subst e;rw[hx hA d hd u]at hu;cases hu
    rw[ab _ _ _ _ _ ao]
 |lQ id c=>
  obtain⟨hS,p,_,hr⟩:=ym hex;cases ey with
  |put u=>rfl
  |all z'=>
   have hA:=yl hey;simp only[dw];cases hd:y.dst with
   |none=>rfl
   |some d=>
    simp only;obtain⟨u,hu⟩:=AH hr;have ao:d≠id:=by
     intro e;subst e;rw[hy hA d hd u]at hu;cases hu
    rw[ab _ _ _ _ _ (mZ ao)]
  |lQ id' c'=>
   obtain⟨aw,_⟩:=ym hey;have:=(a4 hS).1;rw[aw]at this;cases this
theorem aaC{s:NS}(hp:(aY T S ops x s).1)(hn:m7 o s)(hd:∀d,x.dst=T' d->o.dst≠T' d):m7 o (dw x.dst (aY T S ops x s).2 s):=by
 intro hA d ab u;have h0:=hn hA d ab;generalize hex:(aY T S ops x s).2=ex;cases ex with
 |put v=>
  simp only[dw];cases hxd:x.dst with
  |none=>exact h0 u
  |some e=>
   simp only[iq,aD];split
   .cases hv:v.refs d with
    |false=>rfl
    |true=>
     obtain⟨u',af⟩:=W8 hp hex hv;rw[h0 u']at af;cases af
   .exact h0 u
 |all z=>
  simp only[dw];cases hxd:x.dst with
  |none=>exact h0 u
  |some e=>
   simp only[aD];split
   .have:e≠d:=λh=>hd e hxd (by rw[ab,h])
    simp[AV.refs,this]
   .exact h0 u
 |lQ id c=>exact h0 u
end
end
end Go.Hl
