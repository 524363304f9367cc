/- Lemmas for TopSound and TopBracket. -/
import Derived.Test.YtpgglolpkbepjaaGreatTAG
set_option linter.unusedVariables false
set_option linter.unusedSimpArgs false
namespace Go.Hl
open Option renaming some→T',none→Y'
open Bool renaming true→Z',false→a0a
open Go Go.RowKit
section
variable {x y:Code}{f:FuncId}{t:Nat}{P:Program}{sp:Sp}
def Du(ops:Array Oper):List Oper->List (Option (Option Nat×Bool))
 |[]=>[]
 |o::os=>(match o.guard with|none=>Y'|some (j,want)=>T' ((ops[j]?).bind (·.dst),want))::Du ops os
def Nz(g:Option (Option Nat×Bool))(σ:St)(yes no:St->Prop):Prop:=
 match g with
 |none=>yes σ
 |some (Y',_)=>no σ
 |some (T' t,want)=>match σ.get t with
  |.r (.bool b)=>(b=want->yes (σ.put (T' t) (.r (.bool want))))/\(b= !want->no (σ.put (T' t) (.r (.bool (!want)))))
  |.r _=>no σ
  |_=>False
def Bp(T:aL)(S:FuncId->Option Sp):List Oper->List (Option (Option Nat×Bool))->(St->Prop)->St->Prop
 |[],_,K,σ=>K σ
 |_::_,[],_,_=>False
 |o::os,g::gs,K,σ=>Nz g σ (λσ=>(dO T S o σ).1/\Bp T S os gs K (dO T S o σ).2) (λσ=>Bp T S os gs K (σ.put o.dst (.r undef)))
theorem AV.ZM(v:AV):AV.leq v v=True:=eq_true (.inr (.inr rfl))
theorem AV.ZL(i s:Nat):AV.leq .dt (.os i s 0 0)=True:=eq_true (.inr (.inl ⟨rfl,.inl ⟨i,s,rfl⟩⟩))
theorem AV.ZK(k:IntKind):AV.leq .dt (.ns k [])=True:=eq_true (.inr (.inl ⟨rfl,.inr ⟨k,rfl⟩⟩))
theorem AV.ZJ(v:AV):AV.leq v .any=True:=eq_true (.inl rfl)
def aO(T:aL)(rs:List ResultVar)(ts:List TypeId)(r:AV)(e:Exit)(σ:St):Prop:=
 (e=.normal\/e=.ret)/\(gL T σ rs ts).1/\oneOf (gL T σ rs ts).2.2=r
def be(l:List (Nat×Sp)):FuncId->Option Sp:=λf=>lk l f
def aj(P:Program)(f:FuncId)(sp:Sp):Prop:=∀args,sp.pre args->
 (sp.kind=0->dh P f args (sp.res args))/\(sp.kind=1->nM P f args (sp.res args))/\(sp.kind=2->nU P f args (sp.res args))
theorem bh.nil:bh P (be []):=λf sp h=>by cases h
theorem bh.cons{l:List (Nat×Sp)}(h:aj P f sp)(k:bh P (be l)):bh P (be ((f,sp)::l)):=by
 intro g ab hg;simp only[be,lk]at hg;split at hg
 .rename_i e;subst e;cases hg;exact h
 .exact k g ab hg
theorem aj.zero(hk:sp.kind=0)(h:∀args,sp.pre args->dh P f args (sp.res args)):aj P f sp:=
 λargs hp=>⟨λ_=>h args hp,λe=>(by rw[hk]at e;cases e),λe=>(by rw[hk]at e;cases e)⟩
theorem sz{pre:List AV->Prop}{res:List AV->AV}(h:∀args,pre args->dh P f args (res args)):aj P f ⟨0,pre,res⟩:=aj.zero rfl h
theorem aj.one(hk:sp.kind=1)(h:∀args,sp.pre args->nM P f args (sp.res args)):aj P f sp:=
 λargs hp=>⟨λe=>(by rw[hk]at e;cases e),λ_=>h args hp,λe=>(by rw[hk]at e;cases e)⟩
theorem aj.two(hk:sp.kind=2)(h:∀args,sp.pre args->nU P f args (sp.res args)):aj P f sp:=
 λargs hp=>⟨λe=>(by rw[hk]at e;cases e),λe=>(by rw[hk]at e;cases e),λ_=>h args hp⟩
theorem dh.of{T:aL}(hT:cU P T){fn:Func}{c:Code}{args:List AV}{r:AV}{n:Nat}{rs:List ResultVar}{ts:List TypeId}(hf:P.funcs[f]?=T' fn)(hb:fn.body=T' c)(af:(fn.name== "runtime.NumGoroutine")=a0a)(ao:fn.ntmps=n)(aw:fn.results.toList=rs)(ax:fn.resultTypes.toList=ts)(ab:args.all AV.im=Z')(hn:args.length<=n)(h:ai P T n c (aO T rs ts r) ⟨gA 0 args,[]⟩):dh P f args r:=by
 subst ao;subst aw;subst ax;exact dh.intro hT hf hb af ab hn h
section
variable {P:Program}{T:aL}{S:FuncId->Option Sp}{n:Nat}{Q:Exit->St->Prop}{σ:St}
theorem agt(ops:Array Oper)(o:Oper)(σ:St)(yes no:St->Prop):
 jh ops o σ yes no=Nz (match o.guard with|none=>Y'|some (j,want)=>T' ((ops[j]?).bind (·.dst),want)) σ yes no:=by
 unfold jh;cases o.guard with
 |none=>rfl
 |some p=>
  obtain⟨j,want⟩:=p;simp only;cases(ops[j]?).bind (·.dst)with
  |none=>rfl
  |some t=>rfl
theorem Iz(ops:Array Oper){K:St->Prop}:∀(l:List Oper)(σ:St),et T S ops l K σ=Bp T S l (Du ops l) K σ
 |[],_=>rfl
 |o::l,σ=>by
  simp only[et,Du,Bp,agt,Iz ops l]
theorem ai.Mr{b:Bool}(hb:σ.get t=.r (.bool b))(h:ai P T n (if b then x else y) Q σ):ai P T n (.cond (.tmp t) x y) Q σ:=by
 have ab:∀{c:Code},ai P T n c Q σ->ai P T n c Q (σ.put (T' t) (.r (.bool b))):=by
  intro c h κ β a w hn hm hC;refine h κ β a w hn hm ?_;have e:(σ.put (T' t) (.r (.bool b))).get=σ.get:=by
   rw[St.fh]
   funext u
   simp only[iq,aD];split
   .rename_i e;subst e;exact hb.symm
   .rfl
  rw[e,St.eQ]at hC;exact hC
 refine ai.cond hb (λe=>?_) (λe=>?_)
 .subst e;exact ab h
 .subst e;exact ab h
theorem ai.eo(hb:σ.get t=.r (.bool Z'))(h:ai P T n x Q σ):ai P T n (.cond (.tmp t) x y) Q σ:=.Mr hb h
theorem ai.dz(hb:σ.get t=.r (.bool a0a))(h:ai P T n y Q σ):ai P T n (.cond (.tmp t) x y) Q σ:=.Mr hb h
variable {K:St->Prop}{o:Oper}{os:List Oper}{gs:List (Option (Option Nat×Bool))}{t:Nat}{b:Bool}{p:Prop}{σ1 σ':St}
end
end
end Go.Hl
