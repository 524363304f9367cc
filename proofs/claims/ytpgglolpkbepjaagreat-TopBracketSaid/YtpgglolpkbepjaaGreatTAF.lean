/- Lemmas for TopSound and TopBracket. -/
import Derived.Test.YtpgglolpkbepjaaGreatTAE
set_option linter.unusedVariables false
set_option linter.unusedSimpArgs false
namespace Go.Hl
open Option renaming some→T',none→Y'
open Bool renaming true→Z',false→a0a
open Go Go.RowKit
section
variable {K:Act->World->Prop}{b:Bool}{c x y:Code}{Q:Exit->Act->World->Prop}{id:Nat}{o:Oper}
section
variable {P:Program}{T:aL}{S:FuncId->Option Sp}{κ:Ctx}{β:Nat->Option (Nat×Nat)}{F F':Nat->AV}{G G':Nat->Option cq}{a:Act}{w:World}{X:Nat->Prop}{ops:Array Oper}{md:Region.Mode}
theorem Hu(h:av κ β F G a w)(hg:gw ops F o=T' b):Region.wanted o (yielded ops a.tmps)=b:=by
 unfold gw at hg;unfold Region.wanted;cases hgd:o.guard with
 |none=>simp only[hgd,aC]at hg|-;exact hg
 |some p=>
  obtain⟨j,want⟩:=p;simp only[hgd]at hg|-;cases ht:(ops[j]?).bind (·.dst)with
  |none=>
   simp only[ht,aC]at hg;have:yielded ops a.tmps j=none:=by unfold yielded;rw[ht];rfl
   rw[this,<-hg]
   rfl
  |some t=>
   simp only[ht]at hg;have hr:=h.rel t;split at hg
   .rename_i b' hb
    rw[hb]at hr;have hv:=RI.aS hr;rw[Fb ht hv];simp only[uu];simp only[aC]at hg;rw[<-hg];cases b'<;>cases want<;>rfl
   .rename_i v ab hb
    rw[hb]at hr;have hv:=RI.aS hr;rw[Fb ht hv];simp only[aC]at hg;rw[<-hg];have:uu v=none:=by cases v<;>first|rfl|exact(ab _ rfl).elim
    rw[this]
    rfl
   .cases hg
theorem UO(hT:cU P T)(h:av κ β F G a w){t:TypeId}{len:Nat}{parts:List (Nat×Operand)}(hp:(sM T F t len parts).1):
 ∃x w',(Instr.buildSlice t len (parts.map λp=>(p.1,a.eval p.2)).toArray).run P w=.ok x w'/\Below w.heap.size w w'/\RI w' (XG κ β G) (sM T F t len parts).2 x/\(sM T F t len parts).2.im=true:=by
 have a3:∀(j:Nat)(v:AV),(parts.map λp=>ev F p.2)[j]?=T' v->∃u:Value,(parts.map λp=>a.eval p.2)[j]?=T' u/\(v.im=Z'->RI w (XG κ β G) v u):=by
  intro j v hj;rw[gv]at hj|-;cases hq:parts[j]? with
  |none=>rw[hq]at hj;cases hj
  |some p=>
   rw[hq]at hj;simp only[ft,aC]at hj;subst hj;exact⟨_,rfl,λa5=>(h.ev p.2).ri a5⟩
 have ay:(parts.map λp=>(p.1,a.eval p.2)).flatMap (λp=>p.2.cells.toList)=(parts.map λp=>a.eval p.2).flatMap λu=>u.cells.toList:=by
  simp[List.flatMap_map]
 have ao:∀(C:Array Value)(e:TypeId),Below w.heap.size w (w.alloc (.cells C e)):=λC e=>(iX _ _).alloc (aM _) _
 have a0:¬XG κ β G w.heap.size:=λhx=>by have:=h.qV hx;omega
 have ax:∀(C:Array Value)(e:TypeId)(j:Nat),(w.alloc (.cells C e)).cell? ⟨w.heap.size,0+j,Y'⟩=C[j]?:=λC e j=>by
  rw[du,World.cell?_alloc_new]
 unfold sM at*;split at hp
 .rename_i e s by_ h1
  cases hk:T.nk t with
  |some k=>
   simp only[hk]at hp|-;cases hn:qM k (parts.map λp=>ev F p.2)with
   |none=>simp[hn]at hp
   |some xs=>
    simp only[hn]at hp|-;obtain⟨g1,g2,g3⟩:=hp;obtain⟨q1,q2⟩:=Ip _ _ hn;obtain⟨e',a7,i',r1,r2,r3⟩:=hT.nk _ _ hk;rw[h1]at r1;simp only[aC,db]at r1;obtain⟨rfl,rfl,rfl⟩:=r1;have a4:∀(j:Nat)(x:Int),xs[j]?=T' x->(parts.map λp=>a.eval p.2)[j]?=T' (.int k x):=by
     intro j x hx;obtain⟨u,k1,k2⟩:=a3 j _ (q2 j x hx);rw[k1,RI.aS (k2 rfl)]
    have a6:xs.length=len:=by rw[q1,<-g2];simp
    have af:∀(j:Nat)(p:Nat×Value),(parts.map λp=>(p.1,a.eval p.2))[j]?=T' p->p.1=j/\p.2.cells.size=1/\p.2.cells.toList=[p.2]:=by
     intro j p hp;rw[gv]at hp;cases hq:parts[j]? with
     |none=>rw[hq]at hp;cases hp
     |some q=>
      rw[hq]at hp;simp only[ft,aC]at hp;subst hp;have hj:j<xs.length:=by
       rw[q1];simp;rcases dQ j parts.length with h'|h'
       .exact h'
       .simp[iT h']at hq
      have e9:=a4 j xs[j] (by simp[hj]);rw[gv,hq]at e9;simp only[ft,aC]at e9;have e8:=BA _ _ g1 j q hq;refine⟨by simpa using e8,?_,?_⟩<;>simp[e9,Value.cells]
    obtain⟨C,k1,k2,k3⟩:=CW (P:=P) hT h1 (vals:=parts.map λp=>(p.1,a.eval p.2)) (by simpa using g2) g3 (λj p hp=>⟨(af j p hp).1,(af j p hp).2.1⟩) w;refine⟨_,_,k1,ao _ _,?_,rfl⟩;have a1:=RI.ns (w:=w.alloc (.cells C e)) (X:=XG κ β G) k xs (T' ⟨w.heap.size,0,Y'⟩) w.heap.size 0 len f' (λ_=>⟨rfl,a0⟩) (λj x hx=>by
     rw[ax,k3,ay,Nk]
     .exact a4 j x hx
     .intro u hu
      obtain⟨j',ab⟩:=Cr hu;rw[gv]at ab;cases hq:parts[j']? with
      |none=>rw[hq]at ab;cases ab
      |some q=>
       rw[hq]at ab;simp only[ft,aC]at ab;subst ab;exact(af j' (q.1,a.eval q.2) (by simp[hq])).2.2)
    rw[a6]at a1;exact a1
  |none=>
   simp only[hk]at hp|-;cases hn:qs (parts.map λp=>ev F p.2)with
   |none=>simp[hn]at hp
   |some cs=>
    simp only[hn]at hp|-;obtain⟨g1,g2,g3,g5,g4⟩:=hp;obtain⟨q1,q2⟩:=GF (w:=w) (X:=XG κ β G) _ _ hn (parts.map λp=>a.eval p.2) J' a3;have af:∀(j:Nat)(p:Nat×Value),(parts.map λp=>(p.1,a.eval p.2))[j]?=T' p->p.1=j/\p.2.cells.size=s:=by
     intro j p hp;rw[gv]at hp;cases hq:parts[j]? with
     |none=>rw[hq]at hp;cases hp
     |some q=>
      rw[hq]at hp;simp only[ft,aC]at hp;subst hp;have h9:=BA _ _ g1 j q hq;refine⟨by simpa using h9,?_⟩;have h8:=fq.1 g4 (ev F q.2) (mX.2 ⟨q,kL hq,rfl⟩);cases hc:(ev F q.2).cells with
      |none=>simp[hc]at h8
      |some c=>
       simp only[hc,fU]at h8;obtain⟨m1,_⟩:=RI.cells ((h.ev q.2).ri (AV.sO hc)) hc;simp only;omega
    obtain⟨C,k1,k2,k3⟩:=CW (P:=P) hT h1 (vals:=parts.map λp=>(p.1,a.eval p.2)) (by simpa using g2) g3 af w;refine⟨_,_,k1,ao _ _,?_,rfl⟩;have hex:∀j:Nat,∃u:Value,∀c:AV,cs[j]?=T' c->C[j]?=T' u/\RI w (XG κ β G) c u:=by
     intro j;cases hj:cs[j]? with
     |none=>exact⟨undef,λc hc=>by cases hc⟩
     |some c=>
      obtain⟨u,m1,m2⟩:=q2 j c hj;exact⟨u,λc' aw=>by simp only[aC]at aw;subst aw;exact⟨by rw[k3,ay];exact m1,m2⟩⟩
    obtain⟨f,hf⟩:=vo hex;have hk:=ao C e;exact RI.sl s len cs _ w.heap.size 0 len f (aM _) g5 (λ_=>⟨rfl,a0⟩) (λj c hj=>by rw[ax];exact(hf j c hj).1)
     (λj c hj=>(hf j c hj).2.cW ⟨hk.size,λb hb _=>hk.block b hb⟩ (λ_ _ hx=>hx))
 .exact False.elim hp
theorem abp(hT:cU P T)(hS:bh P S)(h:av κ β F G a w)(o:Oper)(hp:(qd T S F G o).1)(hd:∀t,o.dst=T' t->t<κ.nt)(hK:∀β' a' w',av κ β' (iq F o.dst (qd T S F G o).2) G a' w'->K a' w'):o.wp P a w K Q:=by
 unfold Oper.wp
 by_cases hbs:∃t n ps,o.op=.buildSlice t n ps
 .obtain⟨t,n,ps,hop⟩:=hbs
  unfold qd at hp hK;simp only[hop]at hp hK;obtain⟨x,w',h1,h2,h3,h4⟩:=UO (P:=P) hT h hp;have e:(ps.map λx=>(x.1,a.eval x.2))=(ps.toList.map λp=>(p.1,a.eval p.2)).toArray:=by
   apply mU;simp
  have hrun:(execOp a.eval o).run P w=.ok (.value x) w':=by
   simp only[execOp,hop,cC,e,h1,cz,cJ]
  rw[hrun];exact hK _ _ _ ((h.below h2).put hd (.of h4 h3))
 .have hq:(qd T S F G o)=((qv T S F G o).1/\(comes o.op=Z'->(qv T S F G o).2.im=Z'),(qv T S F G o).2):=by
   unfold qd;cases hop:o.op<;>first|rfl|exact absurd ⟨_,_,_,hop⟩ hbs
  rw[hq]at hp hK;have hqs:=Qk hT hS h o hp.1;generalize(execOp a.eval o).run P w=r at*;generalize(qv T S F G o).2=v at*;cases r with
  |halt _ _=>exact False.elim hqs
  |ok n w'=>
   cases n<;>try(exact False.elim hqs)
   case value x=>
    obtain⟨rfl,hv⟩:=hqs;exact hK _ _ _ (h.put hd hv)
   case enter f vs=>
    obtain⟨rfl,hc⟩:=hqs;refine Fp hc (λe w''⟨u,he,hr,hb⟩=>?_);subst he;refine hK _ _ _ ((h.below hb).put hd ?_);cases v with
    |os=>cases hr
    |ptr=>cases hr
    |_=>exact hr
theorem yp(hT:cU P T)(hS:bh P S){s:NS}(h:av κ β s.1 s.2 a w){i:Nat}(hi:ops[i]?=T' o)(hp:(aY T S ops o s).1)(hn:m7 o s)(hd:∀t,o.dst=T' t->t<κ.nt)(hK:∀β' a' w',av κ β' (dw o.dst (aY T S ops o s).2 s).1 (dw o.dst (aY T S ops o s).2 s).2 a' w'->K a' w'):wpOp P ops Q i K a w:=by
 unfold wpOp;simp only[hi];unfold aY at hp hK;split at hp
 .exact False.elim hp
 .rename_i hg
  rw[Hu h hg,aq J'];simp only[hg]at hK;exact hK _ _ _ (h.put hd (RI.r _))
 .rename_i hg
  rw[Hu h hg,au rfl];refine .inl ?_;simp only[hg]at hK;cases hop:o.op<;>simp only[hop]at hp hK<;>try(exact abp hT hS h o hp hd (λβ' a' w' hc=>hK β' a' w' hc))
  case alloc t=>
   cases hz:T.zr t with
   |none=>simp[hz]at hp
   |some z=>
    simp only[hz]at hp hK;obtain⟨d,hdd⟩:=sF.1 hp;obtain⟨i',v,h1,h2,h3,h4⟩:=hT.zr t z hz;have hz':(zeroValue t).run P w=.ok v w:=by simp[zeroValue,run_typeInfo h1,h2]
    have hrun:(execOp a.eval o).run P w=.ok (.value (.pointer (T' ⟨w.heap.size,0,Y'⟩))) (w.alloc (.cells v.cells t)):=by
     simp[execOp,hop,Instr.alloc,hz',newVar,newRow]
    unfold Oper.wp;rw[hrun];have hf:=h.fresh (id:=d) (h.free (.inr (kt (hd d hdd)))) (KC (hd d hdd)) (hn (by rw[hop];rfl) d hdd) v.cells t (.c z) (by simp[aN.len,h3]) (λj c hj=>h4 w _ j c hj);simp only[hdd,dw]at hK;show K (a.put o.dst _) _;rw[hdd];exact hK _ _ _ (hf.put (d:=T' d) (λt ht=>hd t (by rw[hdd];exact ht)) (RV.Et (eu _ _ _)))
  case store t p v=>
   split at hp
   .rename_i id off vs e1 e2
    split at hp
    .rename_i con e3
     split at hp
     .rename_i con' e4
      simp only at hp;obtain⟨g0,g1,g2⟩:=hp;have hpv:=h.ev p;rw[e1]at hpv;obtain⟨b,base,hβ,hpp⟩:=hpv _ e3;obtain⟨c1,c2⟩:=RI.cells ((h.ev v).ri (AV.sO e2)) e2;obtain⟨w',q1,q2⟩:=Jg (P:=P) hβ vs (a.eval v).cells.toList off 0 con con' s.2 w h e3 (by simpa using c1) (λk c hk=>by
       obtain⟨u,q1,q2⟩:=c2 k c hk;exact⟨u,by simpa using q1,q2⟩) e4 f'
      have hsz:∀w,(sizeOf t).run P w=.ok vs.length w:=by
       intro w;rcases g2 with⟨h2,h3⟩|h2
       .obtain⟨_,i,q1,q2⟩:=hT.xe t h2
        rw[run_sizeOf q1,q2,h3]
       .obtain⟨_,i,q1,q2⟩:=hT.BX t _ h2
        rw[run_sizeOf q1,q2]
      have hrun:(execOp a.eval o).run P w=.ok .skip w':=by
       simp only[execOp,hop,hpp,Instr.storeAt,Instr.sureAddr,storeVar,cC,cJ,cz,hsz,c1];simp[q1]
      unfold Oper.wp;rw[hrun];show K (a.put o.dst undef) w';simp only[e1,e2,e3,e4,dw]at hK;rw[g0];exact hK _ _ _ q2
     .exact False.elim hp
    .exact False.elim hp
   .exact False.elim hp
theorem Hr:∀(l:List Oper)(σ:St)(t:Nat),(a8 l σ).get t=σ.get t\/(a8 l σ).get t=.any
 |[],σ,t=>.inl rfl
 |o::l,σ,t=>by
  unfold a8;split
  .rcases Hr l (σ.kill _) t with h|h
   .rw[h];exact AR σ _ t
   .exact .inr h
  .exact Hr l σ t
theorem rv:∀(l:List Oper)(σ:St),av κ β σ.get σ.ae a w->av κ β (a8 l σ).get (a8 l σ).ae a w
 |[],_,h=>h
 |o::l,σ,h=>by
  unfold a8;split
  .exact rv l _ (h.wv _)
  .exact rv l _ h
theorem yX:∀(l:List Oper)(σ:St)(o:Oper),o∈l->kA o.op=Z'->∀d,o.dst=T' d->∀u,((a8 l σ).get u).refs d=a0a
 |[],_,_,h,_,_,_,_=>by cases h
 |o'::l,σ,o,h,hA,d,hd,u=>by
  unfold a8;cases h with
  |head=>
   rw[hA,hd];simp only;rcases Hr l (σ.kill d) u with h'|h'
   .rw[h'];exact tJ σ d u
   .rw[h'];rfl
  |tail _ h=>
   split
   .exact yX l _ o h hA d hd u
   .exact yX l _ o h hA d hd u
def ai(P:Program)(T:aL)(n:Nat)(c:Code)(Q:Exit->St->Prop)(σ:St):Prop:=
 ∀(κ:Ctx)(β:Nat->Option (Nat×Nat))(a:Act)(w:World),κ.nt=n->(T.mu=a0a->κ.mu=Y')->av κ β σ.get σ.ae a w->
  c.wp P (λe a' w'=>∃σ' ab,Q e σ'/\av κ ab σ'.get σ'.ae a' w') a w
variable {n:Nat}{Q:Exit->St->Prop}{σ:St}
theorem ai.mono{Q':Exit->St->Prop}(h:ai P T n c Q σ)(hq:∀e σ,Q e σ->Q' e σ):ai P T n c Q' σ:=
 λκ β a w hn hm hC=>wp_mono (h κ β a w hn hm hC) λe _ _⟨σ',β',h1,h2⟩=>⟨σ',β',hq e σ' h1,h2⟩
def ls(next:St->Prop)(Q:Exit->St->Prop):Exit->St->Prop
 |.normal,σ=>next σ
 |e,σ=>Q e σ
def oZ(id:Nat)(Q:Exit->St->Prop):Exit->St->Prop
 |.exit id',σ=>if id'=id then Q .normal σ else Q (.exit id') σ
 |e,σ=>Q e σ
theorem ai.skip(h:Q .normal σ):ai P T n .skip Q σ:=λ_ β _ _ _ _ hC=>wp_skip ⟨σ,β,h,hC⟩
theorem ai.exit(h:Q (.exit id) σ):ai P T n (.exit id) Q σ:=λ_ β _ _ _ _ hC=>wp_exit ⟨σ,β,h,hC⟩
theorem ai.ret(h:Q .ret σ):ai P T n .ret Q σ:=λ_ β _ _ _ _ hC=>wp_ret ⟨σ,β,h,hC⟩
theorem ai.seq(h:ai P T n x (ls (ai P T n y Q) Q) σ):ai P T n (.seq x y) Q σ:=by
 intro κ β a w hn hm hC;refine wp_seq (wp_mono (h κ β a w hn hm hC) λe a' w'⟨σ',β',h1,h2⟩=>?_);cases e with
 |normal=>exact h1 κ β' a' w' hn hm h2
 |_=>exact⟨σ',β',h1,h2⟩
theorem ai.block(h:ai P T n c (oZ id Q) σ):ai P T n (.block id c) Q σ:=by
 intro κ β a w hn hm hC;refine wp_block (wp_mono (h κ β a w hn hm hC) λe a' w'⟨σ',β',h1,h2⟩=>?_);cases e with
 |exit id'=>
  simp only[oZ,Exit.inBlock]at h1|-;split
  .rename_i e;rw[au e]at h1;exact⟨σ',β',h1,h2⟩
  .rename_i e;rw[aq e]at h1;exact⟨σ',β',h1,h2⟩
 |_=>exact⟨σ',β',h1,h2⟩
theorem ai.cond{t:Nat}(hb:σ.get t=.r (.bool b))(ht:b=Z'->ai P T n x Q (σ.put (T' t) (.r (.bool Z'))))(hf:b=a0a->ai P T n y Q (σ.put (T' t) (.r (.bool a0a)))):ai P T n (.cond (.tmp t) x y) Q σ:=by
 intro κ β a w hn hm hC;have hr:=hC.rel t;rw[hb]at hr;have hv:=RI.aS hr;have ab:∀c:Bool,b=c->av κ β (σ.put (T' t) (.r (.bool c))).get (σ.put (T' t) (.r (.bool c))).ae a w:=by
  intro c hc;obtain⟨e1,e2⟩:=tI σ t (.r (.bool c)) (by rw[hb,hc]);rw[e1,e2];exact hC
 refine wp_cond_split (t:=b) hv (λh=>?_) (λh=>?_)
 .exact ht h κ β a w hn hm (ab Z' h)
 .exact hf h κ β a w hn hm (ab a0a h)
theorem ai.region(hT:cU P T)(hS:bh P S){l:List Oper}(hd:iz l.toArray n=Z')(h:et T S l.toArray l (Q .normal) σ):ai P T n (.region id l.toArray a0a) Q σ:=by
 intro κ β a w hn hm hC;refine wp_region_list ?_;refine aaU (K:=Q .normal) hT hS hm (λσ' ab a' w' h1 h2=>⟨σ',ab,h1,h2⟩) l σ β a w (λo ho t ht=>?_) h hC;have:=lS.1 hd o (by simpa using ho);rw[ht]at this;rw[hn];simpa using this
end
end
end Go.Hl
