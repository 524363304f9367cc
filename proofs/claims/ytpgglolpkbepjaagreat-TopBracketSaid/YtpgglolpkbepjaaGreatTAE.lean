/- Lemmas for TopSound and TopBracket. -/
import Derived.Test.YtpgglolpkbepjaaGreatTAD
set_option linter.unusedVariables false
set_option linter.unusedSimpArgs false
namespace Go.Hl
open Option renaming some→T',none→Y'
open Bool renaming true→Z',false→a0a
open Go Go.RowKit
section
variable {Q:Exit->Act->World->Prop}{o:Oper}{σ:St}{K no yes:St->Prop}
def jh(ops:Array Oper)(o:Oper)(σ:St)(yes no:St->Prop):Prop:=
 match o.guard with
 |none=>yes σ
 |some (j,want)=>match(ops[j]?).bind (·.dst)with
  |none=>no σ
  |some t=>match σ.get t with
   |.r (.bool b)=>(b=want->yes (σ.put (T' t) (.r (.bool want))))/\(b= !want->no (σ.put (T' t) (.r (.bool (!want)))))
   |.r _=>no σ
   |_=>False
def et(T:aL)(S:FuncId->Option Sp)(ops:Array Oper):List Oper->(St->Prop)->St->Prop
 |[],K,σ=>K σ
 |o::os,K,σ=>jh ops o σ (λσ=>(dO T S o σ).1/\et T S ops os K (dO T S o σ).2) (λσ=>et T S ops os K (σ.put o.dst (.r undef)))
def dJ(T:aL)(S:FuncId->Option Sp)(o:Oper)(σ:St):Prop×St:=
 match o.op with
 |.alloc t=>match o.dst,T.zr t with
  |some d,T' z=>(True,(σ.g7 d ⟨Z',.c z⟩).put (T' d) (.ptr d 0))
  |_,_=>(False,σ)
 |.store t p v=>(o.dst=Y'/\(oN T σ t (ev σ.get p) (ev σ.get v)).1,(oN T σ t (ev σ.get p) (ev σ.get v)).2)
 |_=>((qd T S σ.get σ.ae o).1,σ.put o.dst (qd T S σ.get σ.ae o).2)
def cY(T:aL)(S:FuncId->Option Sp)(ops:Array Oper):List Oper->(St->Prop)->St->Prop
 |[],K,σ=>K σ
 |o::os,K,σ=>jh ops o σ (λσ=>(dJ T S o σ).1/\cY T S ops os K (dJ T S o σ).2) (λσ=>cY T S ops os K (σ.put o.dst (.r undef)))
def a8:List Oper->St->St
 |[],σ=>σ
 |o::os,σ=>match kA o.op,o.dst with
  |true,T' d=>a8 os (σ.kill d)
  |_,_=>a8 os σ
def iz(ops:Array Oper)(n:Nat):Bool:=ops.all λo=>match o.dst with|some d=>decide (d<n)|none=>Z'
def uu:Value->Option Bool
 |.bool b=>T' b
 |_=>Y'
section
variable {P:Program}{T:aL}{S:FuncId->Option Sp}{κ:Ctx}{β:Nat->Option (Nat×Nat)}{F F':Nat->AV}{G G':Nat->Option cq}{a:Act}{w:World}{X:Nat->Prop}{ops:Array Oper}{md:Region.Mode}
theorem tI(σ:St)(t:Nat)(v:AV)(h:σ.get t=v):(σ.put (T' t) v).get=σ.get/\(σ.put (T' t) v).ae=σ.ae:=by
 refine⟨?_,St.eQ _ _ _⟩;rw[St.fh]
 funext u
 simp only[iq,aD];split
 .rename_i e;subst e;exact h.symm
 .rfl
theorem Fb{tmps:Array Value}{j t:Nat}(ht:(ops[j]?).bind (·.dst)=T' t){v:Value}(hv:tmps.getD t undef=v):
 yielded ops tmps j=uu v:=by
 unfold yielded;rw[ht];simp only[Option.bind_some]
 by_cases hlt:t<tmps.size
 .have e:tmps[t]?=T' v:=by
   rw[sc hlt];rw[<-hv];simp[Array.getD,hlt]
  rw[e];cases v<;>rfl
 .have e:tmps[t]?=none:=O'
  have:v=undef:=by rw[<-hv];simp[Array.getD,hlt]
  rw[e,this]
  rfl
theorem YD(h:av κ β σ.get σ.ae a w)(hg:jh ops o σ yes no):
 (Region.wanted o (yielded ops a.tmps)=Z'/\∃σ',σ'.get=σ.get/\σ'.ae=σ.ae/\yes σ')\/
 (Region.wanted o (yielded ops a.tmps)=a0a/\∃σ',σ'.get=σ.get/\σ'.ae=σ.ae/\no σ'):=by
 unfold jh at hg;unfold Region.wanted;cases hgd:o.guard with
 |none=>simp only[hgd]at hg|-;exact .inl ⟨a0b,σ,rfl,rfl,hg⟩
 |some p=>
  obtain⟨j,want⟩:=p;simp only[hgd]at hg|-;cases ht:(ops[j]?).bind (·.dst)with
  |none=>
   simp only[ht]at hg;have:yielded ops a.tmps j=none:=by unfold yielded;rw[ht];rfl
   rw[this];exact .inr ⟨rfl,σ,rfl,rfl,hg⟩
  |some t=>
   simp only[ht]at hg;have hr:=h.rel t;split at hg
   .rename_i b hb
    rw[hb]at hr;have hv:=RI.aS hr;rw[Fb ht hv];simp only[uu]
    by_cases hbw:b=want
    .refine .inl ⟨by simp[hbw],_,?_,?_,hg.1 hbw⟩
     .exact(tI σ t _ (by rw[hb,hbw])).1
     .exact(tI σ t _ (by rw[hb,hbw])).2
    .have ab:b= !want:=by cases b<;>cases want<;>simp_all
     refine .inr ⟨by simp[ab],_,?_,?_,hg.2 ab⟩
     .exact(tI σ t _ (by rw[hb,ab])).1
     .exact(tI σ t _ (by rw[hb,ab])).2
   .rename_i v af hb
    rw[hb]at hr;have hv:=RI.aS hr;rw[Fb ht hv];refine .inr ⟨?_,σ,rfl,rfl,hg⟩;cases v<;>first|rfl|exact(af _ rfl).elim
   .exact False.elim hg
theorem Sn{K:Act->World->Prop}(h:ER P κ σ a o.dst ((execOp a.eval o).run P w))(hK:∀β' a' w',av κ β' σ.get σ.ae a' w'->K a' w'):o.wp P a w K Q:=by
 unfold Oper.wp;generalize(execOp a.eval o).run P w=r at*;cases r with
 |halt _ _=>exact False.elim h
 |ok n w'=>
  cases n<;>try(exact False.elim h)
  case value x=>obtain⟨β',hc⟩:=h;exact hK _ _ _ hc
  case skip=>obtain⟨β',hc⟩:=h;exact hK _ _ _ hc
  case enter f vs=>
   refine Fp h (λe w''⟨v,he,β',hc⟩=>?_);subst he;exact hK _ _ _ hc
theorem wV(hT:cU P T)(hS:bh P S)(ab:T.mu=a0a->κ.mu=Y'){tail:List Oper}(hQ:∀σ ao a' w',K σ->av κ ao σ.get σ.ae a' w'->wpList P ops Q tail a' w'):
 ∀(l:List Oper)(σ:St)(β:Nat->Option (Nat×Nat))(a:Act)(w:World),(∀o∈l,∀t,o.dst=T' t->t<κ.nt)->et T S ops l K σ->av κ β σ.get σ.ae a w->wpList P ops Q (l++tail) a w
 |[],σ,β,a,w,_,h,hC=>hQ σ β a w h hC
 |o::l,σ,β,a,w,hd,h,hC=>by
  rw[pc];unfold wpList;simp only[et]at h;rcases YD hC h with⟨hw,σ',e1,e2,h1,h2⟩|⟨hw,σ',e1,e2,h2⟩
  .rw[hw,au rfl]
   rw[<-e1,<-e2]at hC;exact .inl (Sn (afl hT hS ab hC o (hd o (.head _)) h1) (λao a' w' hc=>wV hT hS ab hQ l _ ao a' w' (λo' af=>hd o' (.tail _ af)) h2 hc))
  .rw[hw,aq J']
   refine wV hT hS ab hQ l _ β (a.put o.dst undef) w (λo' af=>hd o' (.tail _ af)) h2 ?_;rw[St.fh,St.eQ,e1,e2];exact hC.put (hd o (.head _)) (RI.r _)
theorem aaU(hT:cU P T)(hS:bh P S)(af:T.mu=a0a->κ.mu=Y')(hQ:∀σ ab a' w',K σ->av κ ab σ.get σ.ae a' w'->Q .normal a' w')(l:List Oper)(σ:St)(β:Nat->Option (Nat×Nat))(a:Act)(w:World)(hd:∀o∈l,∀t,o.dst=T' t->t<κ.nt)(h:et T S ops l K σ)(hC:av κ β σ.get σ.ae a w):wpList P ops Q l a w:=by
 have:=wV (tail:=[]) hT hS af (Q:=Q) (K:=K) (λσ ab a' w' h1 h2=>by unfold wpList;exact hQ σ ab a' w' h1 h2) l σ β a w hd h hC;rwa[jx]at this
def po(T:aL)(S:FuncId->Option Sp)(ops:Array Oper)(md:Region.Mode)(Qf:NS->Prop):Nat->Array Bool->NS->Prop
 |0,l,s=>Region.ready md ops l=[]/\Qf s
 |n+1,l,s=>(Region.ready md ops l=[]->Qf s)/\
  ∀i∈Region.ready md ops l,∀o,ops[i]?=T' o->(aY T S ops o s).1/\po T S ops md Qf n (l.setIfInBounds i Z') (dw o.dst (aY T S ops o s).2 s)
def Inv(ops:Array Oper)(l:Array Bool)(s:NS):Prop:=∀i o,ops[i]?=T' o->l.getD i Z'=a0a->m7 o s
theorem YE(hg:jh ops o σ yes no):
 (gw ops σ.get o=T' Z'/\∃σ',σ'.get=σ.get/\σ'.ae=σ.ae/\yes σ')\/(gw ops σ.get o=T' a0a/\∃σ',σ'.get=σ.get/\σ'.ae=σ.ae/\no σ'):=by
 unfold jh at hg;unfold gw;cases hgd:o.guard with
 |none=>simp only[hgd]at hg|-;exact .inl ⟨a0b,σ,rfl,rfl,hg⟩
 |some p=>
  obtain⟨j,want⟩:=p;simp only[hgd]at hg|-;cases ht:(ops[j]?).bind (·.dst)with
  |none=>simp only[ht]at hg|-;exact .inr ⟨a0b,σ,rfl,rfl,hg⟩
  |some t=>
   simp only[ht]at hg|-;split at hg
   .rename_i b hb
    simp only[hb]
    by_cases hbw:b=want
    .refine .inl ⟨by simp[hbw],_,?_,?_,hg.1 hbw⟩
     .exact(tI σ t _ (by rw[hb,hbw])).1
     .exact(tI σ t _ (by rw[hb,hbw])).2
    .have ab:b= !want:=by cases b<;>cases want<;>simp_all
     refine .inr ⟨by simp[ab],_,?_,?_,hg.2 ab⟩
     .exact(tI σ t _ (by rw[hb,ab])).1
     .exact(tI σ t _ (by rw[hb,ab])).2
   .rename_i v af hb
    simp only[hb];refine .inr ⟨?_,σ,rfl,rfl,hg⟩
    trivial
   .exact False.elim hg
theorem afm(hg:gw ops σ.get o=T' Z')(h:(dJ T S o σ).1):
 (aY T S ops o (σ.get,σ.ae)).1/\((dJ T S o σ).2.get,(dJ T S o σ).2.ae)=dw o.dst (aY T S ops o (σ.get,σ.ae)).2 (σ.get,σ.ae):=by
 unfold dJ aY at*;simp only[hg];cases hop:o.op<;>simp only[hop]at h|-<;>try(exact⟨h,by simp only[dw,St.fh,St.eQ]⟩)
 case alloc t=>
  cases hd:o.dst with
  |none=>simp[hd]at h
  |some d=>
   cases hz:T.zr t with
   |none=>simp[hd,hz]at h
   |some z=>
    simp only[dw];refine⟨rfl,?_⟩;rw[St.fh,St.eQ,St.nz,St.nj]
    rfl
 case store t p v=>
  obtain⟨h1,h2⟩:=h;unfold oN at h2|-;split at h2
  .rename_i id off vs e1 e2
   split at h2
   .rename_i con e3
    split at h2
    .rename_i con' e4
     have e3':σ.ae id=T' ⟨Z',con⟩:=e3;simp only[e1,e2,e3',e4];refine⟨⟨h1,h2⟩,?_⟩;simp only[dw,St.nz,St.nj]
    .exact False.elim h2
   .exact False.elim h2
  .exact False.elim h2
end
end
end Go.Hl
