/- Lemmas for TopSound and TopBracket. -/
import Derived.Orders
import Derived.Test.YtpgglolpkbepjaaGreatTAB
set_option linter.unusedVariables false
set_option linter.unusedSimpArgs false
namespace Go.Hl
open Option renaming some→T',none→Y'
open Bool renaming true→Z',false→a0a
open Go Go.RowKit
section
variable {x:AV}{id:Nat}{t:TypeId}
def sM(T:aL)(F:Nat->AV)(t:TypeId)(len:Nat)(parts:List (Nat×Operand)):Prop×AV:=
 match T.sl t with
 |some (_,s,_)=>
  match T.nk t with
  |some k=>match qM k (parts.map λp=>ev F p.2)with
   |some xs=>(pS 0 parts=Z'/\parts.length=len/\len*s<=16777216,.ns k xs)
   |none=>(False,.any)
  |none=>match qs (parts.map λp=>ev F p.2)with
   |some cs=>(pS 0 parts=Z'/\parts.length=len/\len*s<=16777216/\cs.length=len*s/\
    ((parts.map λp=>ev F p.2).all λv=>match v.cells with|some c=>c.length==s|none=>a0a)=Z',.sl s len cs)
   |none=>(False,.any)
 |none=>(False,.any)
def comes:Op->Bool
 |.load _ _=>Z'
 |.extract _ _=>Z'
 |.call _=>Z'
 |_=>a0a
def qd(T:aL)(S:FuncId->Option Sp)(F:Nat->AV)(G:Nat->Option cq)(o:Oper):Prop×AV:=
 match o.op with
 |.buildSlice t n ps=>sM T F t n ps.toList
 |_=>((qv T S F G o).1/\(comes o.op=Z'->(qv T S F G o).2.im=Z'),(qv T S F G o).2)
section
variable {P:Program}{T:aL}{S:FuncId->Option Sp}{κ:Ctx}{β:Nat->Option (Nat×Nat)}{F F':Nat->AV}{G G':Nat->Option cq}{a:Act}{w:World}{X:Nat->Prop}
theorem CL:∀(xs:List Operand)(ts:List TypeId),(∀x∈xs,ev F x=ev F' x)->cS T F xs ts=cS T F' xs ts
 |[],ts,_=>by cases ts<;>rfl
 |x::xs,[],h=>by simp only[cS];rw[h x (.head _),CL xs [] (λy hy=>h y (.tail _ hy))]
 |x::xs,t::ts,h=>by simp only[cS];rw[h x (.head _),CL xs ts (λy hy=>h y (.tail _ hy))]
theorem VR{lo hi mx:Option Operand}(h1:∀y∈lo.toList,ev F y=ev F' y)(h2:∀y∈hi.toList,ev F y=ev F' y)(h3:∀y∈mx.toList,ev F y=ev F' y):
 gJ T t x (lo.map λv=>dI (ev F v)) (hi.map λv=>dI (ev F v)) (mx.map λv=>dI (ev F v))=
 gJ T t x (lo.map λv=>dI (ev F' v)) (hi.map λv=>dI (ev F' v)) (mx.map λv=>dI (ev F' v)):=by
 congr 1
 .cases lo with
  |none=>rfl
  |some y=>simp[h1 y J']
 .cases hi with
  |none=>rfl
  |some y=>simp[h2 y J']
 .cases mx with
  |none=>rfl
  |some y=>simp[h3 y J']
theorem Y7{i:AV}(h:∀id,x.refs id=Z'->G id=G' id):idx T G t x i=idx T G' t x i:=by
 unfold idx;cases T.sl t with
 |none=>
  simp only;cases T.ar t with
  |none=>rfl
  |some n=>
   cases dI i with
   |none=>rfl
   |some m=>
    cases x with
    |ptr id off=>
     simp only;rw[h id (by simp[AV.refs])]
    |_=>rfl
 |some q=>
  cases dI i with
  |none=>rfl
  |some n=>
   cases x with
   |os id s off len=>
    simp only;rw[h id (by simp[AV.refs])]
   |_=>rfl
theorem abt(o:Oper)(h:∀x∈o.op.operands,ev F x=ev F' x)(hG:∀x∈o.op.operands,∀id,(ev F x).refs id=Z'->G id=G' id):
 qv T S F G o=qv T S F' G' o:=by
 unfold qv;cases hop:o.op<;>simp only[hop,Op.operands]at h hG|-
 case move x=>rw[h x J']
 case assign x=>rw[h x J']
 case pick c x y=>rw[h c J',h x J',h y J']
 case load t x=>
  have e:=h x J';have g:=hG x J';rw[<-e];generalize ev F x=v at*;cases v with
  |ptr id off=>simp only;rw[g id (by simp[AV.refs])]
  |_=>rfl
 case nilCheck x=>
  have e:=h x J';have g:=hG x J';rw[<-e];generalize ev F x=v at*;cases v with
  |ptr id off=>simp only;rw[g id (by simp[AV.refs])]
  |_=>rfl
 case binOp op t x y ty=>rw[h x J',h y J']
 case unOp op t x=>rw[h x J']
 case convert s d x=>rw[h x J']
 case fieldAddr s x f=>
  have e:=h x J';have g:=hG x J';rw[<-e];generalize ev F x=v at*;cases T.fo s f with
  |none=>rfl
  |some d=>
   cases v with
   |ptr id off=>simp only;rw[g id (by simp[AV.refs])]
   |_=>rfl
 case field s x f=>rw[h x J']
 case indexAddr t x i=>
  rw[<-h x J',<-h i J'];exact Y7 (λid hid=>hG x J' id hid)
 case index t x i=>rw[h x J',h i J']
 case slice t x lo hi mx=>
  rw[h x J'];exact VR (λy hy=>h y (by simp at hy|-;simp[hy])) (λy hy=>h y (by simp at hy|-;simp[hy])) (λy hy=>h y (by simp at hy|-;simp[hy]))
 case extract x i=>rw[h x J']
 case build t ps=>
  have:(ps.toList.map λp=>(p.1,ev F p.2))=(ps.toList.map λp=>(p.1,ev F' p.2)):=
   FC λp hp=>by rw[h p.2 (by simp;exact⟨p.1,by simpa using hp⟩)]
  rw[this]
 case makeInterface t x=>rw[h x J']
 case call c=>
  obtain⟨callee,args,ts⟩:=c;cases callee with
  |invoke r m=>
   simp only[Call.operands]at h|-;rw[h r J',CL args.toList ts.toList (λx hx=>h x (by simp;exact .inr (by simpa using hx)))]
  |value f=>
   simp only[Call.operands]at h|-;rw[h f J',CL args.toList ts.toList (λx hx=>h x (by simp;exact .inr (by simpa using hx)))]
  |builtin b=>
   simp only[Call.operands]at h|-;have hx:∀x∈args.toList,ev F x=ev F' x:=λx hx=>h x (by simpa using hx)
   cases b<;>try rfl
   .simp only
    split
    .rename_i x t e1 e2;rw[hx x (by rw[e1];simp)]
    .rfl
   .simp only
    split
    .rename_i x y e1;rw[hx x (by rw[e1];simp),hx y (by rw[e1];simp)]
    .rename_i x y z e1;rw[hx x (by rw[e1];simp),hx y (by rw[e1];simp),hx z (by rw[e1];simp)]
    .rfl
   .simp only
    split
    .rename_i x y e1;rw[hx x (by rw[e1];simp),hx y (by rw[e1];simp)]
    .rfl
theorem IK(o:Oper)(h:∀x∈o.op.operands,ev F x=ev F' x)(hG:∀x∈o.op.operands,∀id,(ev F x).refs id=Z'->G id=G' id):
 qd T S F G o=qd T S F' G' o:=by
 unfold qd;rw[abt o h hG];cases hop:o.op<;>try rfl
 case buildSlice t n ps=>
  simp only[hop,Op.operands]at h|-;unfold sM;have:(ps.toList.map λp=>ev F p.2)=(ps.toList.map λp=>ev F' p.2):=
   FC λp hp=>by rw[h p.2 (by simp;exact⟨p.1,by simpa using hp⟩)]
  rw[this]
theorem yY{v:AV}(h:v.refs id=Z'):v.im=false:=by
 cases v<;>simp_all[AV.refs,AV.im]
theorem abr(o:Oper)(hp:(qd T S F G o).1)(hr:(qd T S F G o).2.refs id=Z'):∃x∈o.op.operands,(ev F x).refs id=true:=by
 unfold qd at hp hr;cases hop:o.op<;>simp only[hop]at hp hr
 case buildSlice t n ps=>
  exfalso;unfold sM at hr;split at hr
  .split at hr
   iterate 2
    .split at hr<;>simp[AV.refs]at hr
  .simp[AV.refs]at hr
 all_goals
  have hc:=hp.2;have hq:=hp.1;simp only[comes]at hc
 case load=>have:=hc a0b;rw[yY hr]at this;cases this
 case extract=>have:=hc a0b;rw[yY hr]at this;cases this
 case call=>have:=hc a0b;rw[yY hr]at this;cases this
 all_goals(unfold qv at hr hq;simp only[hop]at hr hq<;>simp only[Op.operands])
 case move x=>exact⟨x,J',hr⟩
 case assign x=>exact⟨x,J',hr⟩
 case pick c x y=>
  split at hr
  .rename_i t _
   cases t
   .exact⟨y,J',hr⟩
   .exact⟨x,J',hr⟩
  .simp[AV.refs]at hr
 case nilCheck x=>
  refine⟨x,J',?_⟩;split at hr
  iterate 2
   .simp[AV.refs]at hr
  .rename_i i off e2;rw[e2];simpa[AV.refs]using hr
  .simp[AV.refs]at hr
 case binOp op t x y ty=>
  exfalso;unfold bin at hr;split at hr<;>(try split at hr)<;>simp[AV.refs]at hr
 case unOp op t x=>
  exfalso;unfold un at hr;split at hr<;>simp[AV.refs]at hr
 case convert s d x=>split at hr<;>simp[AV.refs]at hr
 case fieldAddr s x f=>
  refine⟨x,J',?_⟩;split at hr
  .simp[AV.refs]at hr
  .split at hr
   .rename_i i off e2
    rw[e2];simpa[AV.refs]using hr
   iterate 2
    .simp[AV.refs]at hr
 case field s x f=>split at hr<;>simp[AV.refs]at hr
 case indexAddr t x i=>
  refine⟨x,J',?_⟩;unfold idx at hr;split at hr
  .split at hr
   .split at hr
    .rename_i e2;rw[e2];simpa[AV.refs]using hr
    .simp[AV.refs]at hr
   .simp[AV.refs]at hr
  .split at hr
   .simp[AV.refs]at hr
   .split at hr
    iterate 2
     .simp[AV.refs]at hr
    .rename_i e2;rw[e2];simpa[AV.refs]using hr
    .simp[AV.refs]at hr
 case index t x i=>
  split at hr
  .simp[AV.refs]at hr
  .rename_i e1 e2
   rw[e1,e2]at hq;exact absurd (yY hr) (by rw[hq.2.2.2];simp)
  .simp[AV.refs]at hr
 case slice t x lo hi mx=>
  refine⟨x,J',?_⟩;unfold gJ at hr;simp only at hr;split at hr
  iterate 2
   .split at hr<;>simp[AV.refs]at hr
  .rename_i e2;rw[e2];simpa[AV.refs]using hr
  .split at hr<;>simp[AV.refs]at hr
  .simp[AV.refs]at hr
 case makeInterface t x=>
  exfalso;unfold wJ at hr;split at hr<;>simp[AV.refs]at hr
 case build t ps=>
  exfalso;split at hr
  .split at hr<;>simp[AV.refs]at hr
  .simp[AV.refs]at hr
 all_goals(simp[AV.refs]at hr)
end
end
end Go.Hl
