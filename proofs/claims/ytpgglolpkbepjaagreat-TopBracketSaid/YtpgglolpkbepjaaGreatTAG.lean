/- Lemmas for TopSound and TopBracket. -/
import Derived.Test.YtpgglolpkbepjaaGreatTAF
set_option linter.unusedVariables false
set_option linter.unusedSimpArgs false
namespace Go.Hl
open Option renaming some→T',none→Y'
open Bool renaming true→Z',false→a0a
open Go Go.RowKit
section
variable {c:Code}{fn:Func}{f:FuncId}{ι:Type}
def AV.leq(v v':AV):Prop:=v'=.any\/(v=.dt/\((∃i s,v'=.os i s 0 0)\/∃k,v'=.ns k []))\/v=v'
def yG(σ:St):List (Nat×AV)->Prop
 |[]=>True
 |(t,v)::l=>AV.leq (σ.get t) v/\yG σ l
def yF(σ:St):List (Nat×cq)->Prop
 |[]=>True
 |(i,b)::l=>σ.ae i=T' b/\yF σ l
def Le(σ σ':St):Prop:=∀κ β a w,av κ β σ.get σ.ae a w->∃ab,av κ ab σ'.get σ'.ae a w
def gA(i:Nat):List AV->List (Nat×AV)
 |[]=>[]
 |v::l=>(i,v)::gA (i+1) l
def mO(T:aL)(σ:St)(r:ResultVar)(ty:TypeId):Prop×St×AV:=
 match r with
 |.tmp t=>((gU T σ (.tmp t)).1,(gU T σ (.tmp t)).2,xQ T ty ((gU T σ (.tmp t)).2.get t))
 |.cell t ty'=>match σ.get t with
  |.ptr id off=>match σ.ae id with
   |some ae=>((ml T ty' ae.con off).1,σ,(ml T ty' ae.con off).2)
   |none=>(False,σ,.any)
  |_=>(False,σ,.any)
def gL(T:aL)(σ:St):List ResultVar->List TypeId->Prop×St×List AV
 |[],_=>(True,σ,[])
 |r::rs,ty::ts=>((mO T σ r ty).1/\(mO T σ r ty).2.2.im=Z'/\(gL T (mO T σ r ty).2.1 rs ts).1,(gL T (mO T σ r ty).2.1 rs ts).2.1,(mO T σ r ty).2.2::(gL T (mO T σ r ty).2.1 rs ts).2.2)
 |_::_,[]=>(False,σ,[])
def oneOf:List AV->AV
 |[v]=>v
 |l=>.aU l
def Tt(T:aL)(fn:Func)(r:AV)(e:Exit)(σ:St):Prop:=
 (e=.normal\/e=.ret)/\(gL T σ fn.results.toList fn.resultTypes.toList).1/\oneOf (gL T σ fn.results.toList fn.resultTypes.toList).2.2=r
section
variable {P:Program}{T:aL}{S:FuncId->Option Sp}{κ:Ctx}{β:Nat->Option (Nat×Nat)}{F F':Nat->AV}{G G':Nat->Option cq}{a:Act}{w:World}{X:Nat->Prop}{n:Nat}{Q:Exit->St->Prop}{σ σ':St}
theorem RV.leq{v v':AV}{x:Value}(h:AV.leq v v')(hv:RV κ β G w v x):RV κ β G w v' x:=by
 rcases h with rfl|⟨rfl,h⟩|rfl
 .exact RI.any _
 .cases hv with
  |dt ad=>
   rcases h with⟨i,s,rfl⟩|⟨k,rfl⟩
   .exact⟨ad,0,rfl,aM _,λ_ _=>.inl rfl⟩
   .exact RI.ns k [] ad 0 0 0 J' J' J'
 .exact hv
theorem Zz{fr:List (Nat×AV)}(h:yG σ fr)(t:Nat):AV.leq (σ.get t) ((lk fr t).getD .any):=by
 induction fr with
 |nil=>exact .inl (by simp[lk])
 |cons p l ih=>
  obtain⟨k,v⟩:=p;simp only[yG]at h;simp only[lk];split
  .rename_i e;subst e;exact h.1
  .exact ih h.2
theorem Zy{hp:List (Nat×cq)}(h:yF σ hp)(i:Nat):lk hp i=σ.ae i\/lk hp i=none:=by
 induction hp with
 |nil=>exact .inr rfl
 |cons p l ih=>
  obtain⟨k,b⟩:=p;simp only[yF]at h;simp only[lk];split
  .rename_i e;subst e;exact .inl h.1.symm
  .exact ih h.2
theorem Le.of(h1:yG σ σ'.fr)(h2:yF σ σ'.hp):Le σ σ':=by
 intro κ β a w h;have h':=h.drop (G':=σ'.ae) (Zy h2);exact⟨β,h'.sz,λt=>RV.leq (Zz h1 t) (h'.rel t),h'.gp,h'.hp,h'.sep,h'.aQ,h'.x0,h'.bC⟩
theorem Le.refl(σ:St):Le σ σ:=λ_ β _ _ h=>⟨β,h⟩
theorem Le.trans{ab af ao:St}(h:Le ab af)(k:Le af ao):Le ab ao:=λκ β a w hc=>let⟨β',h'⟩:=h κ β a w hc;k κ β' a w h'
theorem Le.bare{id:Nat}{con:aN}(ab:id<1000000)(hl:con.len=0):Le σ ((σ.kill id).g7 id ⟨Z',con⟩):=by
 intro κ β a w h;refine⟨aD β id Y',?_⟩;rw[St.nz,St.nj];exact(h.wv id).bare ((h.wv id).free (.inl ab)) (tJ σ id) hl
theorem ai.dS(hl:Le σ σ')(h:ai P T n c Q σ'):ai P T n c Q σ:=λκ β a w hn hm hC=>
 let⟨β',hC'⟩:=hl κ β a w hC
 h κ β' a w hn hm hC'
theorem JF{Q:Exit->Act->World->Prop}(I:ι->Act->World->Prop)(μ:ι->Nat)(ax:ι)(a6:I ax a w)(round:∀i a w,I i a w->c.wp P (Exit.then (λa' w'=>∃j,I j a' w'/\μ j<μ i) Q) a w):(Code.loop c).wp P Q a w:=by
 intro b k cs;have key:∀n i a w,μ i=n->I i a w->
  ∃e a' w',Q e a' w'/\Arrives P (lone (b.at a (.code c::.inLoop c::k)) cs w) b k cs e a' w':=by
  intro n
  induction n using Nat.strongRecOn with
  |_ n ih=>
   intro i a w hn hI;obtain⟨e,af,ao,hq,ab⟩:=round i a w hI b (.inLoop c::k) cs;cases e with
   |normal=>
    obtain⟨j,a1,a4⟩:=hq;obtain⟨a0,ay,a7,a5,a3⟩:=ih (μ j) (hn▸a4) j af ao rfl a1;exact⟨a0,ay,a7,a5,.of_steps (Steps.trans ab (.one step_inLoop)) a3⟩
   |exit id=>exact⟨_,af,ao,hq,.pass (x:=.inLoop c) rfl (λ_ _=>.inl J') ab⟩
   |goto l=>exact⟨_,af,ao,hq,.pass (x:=.inLoop c) rfl (λ_ _=>.inl J') ab⟩
   |ret=>exact⟨_,af,ao,hq,.pass (x:=.inLoop c) rfl (λ_ _=>.inl J') ab⟩
   |panic ch=>exact⟨_,af,ao,hq,.pass (x:=.inLoop c) rfl (λ_ _=>.inl J') ab⟩
   |outgrown=>exact⟨_,af,ao,hq,.pass (x:=.inLoop c) rfl (λ_ _=>.inl J') ab⟩
 obtain⟨e,a',w',hq,ab⟩:=key _ ax a w rfl a6;exact⟨e,a',w',hq,.of_steps (.one step_loop) ab⟩
theorem ai.loop(st:ι->St)(μ:ι->Nat)(af:ι)(ax:Le σ (st af))(round:∀i,ai P T n c (ls (λσ'=>∃j,Le σ' (st j)/\μ j<μ i) Q) (st i)):ai P T n (.loop c) Q σ:=by
 intro κ β a w hn hm hC;obtain⟨a0,ao⟩:=ax κ β a w hC;refine JF (λi a w=>∃β,av κ β (st i).get (st i).ae a w) μ af ⟨a0,ao⟩ (λi a w⟨β,hC⟩=>?_);refine wp_mono (round i κ β a w hn hm hC) λe a' w'⟨σ',β',h1,h2⟩=>?_
 cases e with
 |normal=>
  obtain⟨j,hl,aw⟩:=h1;obtain⟨ay,h3⟩:=hl κ β' a' w' h2;exact⟨j,⟨ay,h3⟩,aw⟩
 |_=>exact⟨σ',β',h1,h2⟩
theorem abL(hT:cU P T)(ao:T.mu=a0a->κ.mu=Y')(h:av κ β σ.get σ.ae a w){r:ResultVar}{ty:TypeId}(hp:(mO T σ r ty).1)(ab:(mO T σ r ty).2.2.im=Z'):
 av κ β (mO T σ r ty).2.1.get (mO T σ r ty).2.1.ae a w/\
 ∃v,((match r with|.tmp t=>pure (a.tmps.getD t undef)|.cell q t=>do loadVar t (<-asAddr (a.tmps.getD q undef))):Sem Value).run P w=.ok v w/\
  RI w (XG κ β (mO T σ r ty).2.1.ae) (mO T σ r ty).2.2 v:=by
 unfold mO at*;cases r with
 |tmp t=>
  simp only at hp ab|-;have h1:=AJ ao h hp;exact⟨h1,_,rfl,Lc (h1.rel t) ab⟩
 |cell t ty'=>
  have hr:=h.rel t;simp only at hp ab|-;split at hp
  .rename_i id off hv
   rw[hv]at hr;split at hp
   .rename_i ae hG
    simp only[hv,hG]at ab|-;refine⟨h,?_⟩;obtain⟨b,base,hb,he⟩:=hr ae hG;have af:=OF (x:=.tmp t) hT h (t:=ty') (r:=ml T ty' ae.con off) (by simp only[ev,hv,hG]) hp;obtain⟨z,z1,z2⟩:=af;refine⟨z,?_,RV.ri ab z2⟩;have e:a.eval (.tmp t)=a.tmps.getD t undef:=rfl;rw[e,he]at z1;rw[he];simp only[Instr.loadAt,Instr.sureAddr,cC,cJ,cz]at z1;exact z1
   .exact False.elim hp
  .exact False.elim hp
theorem Qu(hT:cU P T)(ab:T.mu=a0a->κ.mu=Y'):∀(rs:List ResultVar)(ts:List TypeId)(σ:St),av κ β σ.get σ.ae a w->(gL T σ rs ts).1->
 av κ β (gL T σ rs ts).2.1.get (gL T σ rs ts).2.1.ae a w/\
 ∃vs:List Value,(rs.mapM (λr=>(match r with|.tmp t=>pure (a.tmps.getD t undef)|.cell q t=>do loadVar t (<-asAddr (a.tmps.getD q undef)):Sem Value))).run P w=.ok vs w/\
  vs.length=(gL T σ rs ts).2.2.length/\∀(j:Nat)(c:AV),(gL T σ rs ts).2.2[j]?=T' c->∃v:Value,vs[j]?=T' v/\RI w (XG κ β (gL T σ rs ts).2.1.ae) c v
 |[],ts,σ,h,_=>by
  cases ts<;>exact⟨h,[],J',rfl,λj c hj=>by simp[gL]at hj⟩
 |_::_,[],_,_,hp=>False.elim hp
 |r::rs,ty::ts,σ,h,hp=>by
  obtain⟨p1,p2,p3⟩:=hp;obtain⟨h1,v,v1,v2⟩:=abL hT ab h p1 p2;obtain⟨h2,vs,w1,w2,w3⟩:=Qu hT ab rs ts _ h1 p3;refine⟨h2,v::vs,?_,by simp[gL,w2],λj c hj=>?_⟩
  .simp only[Km,cC,v1,cz,w1,cJ]
  .cases j with
   |zero=>
    simp only[gL,uc,aC]at hj;subst hj;refine⟨v,rfl,v2.cW (dZ.refl _ _) (λb _ hb=>?_)⟩;have:∀(rs:List ResultVar)(ts:List TypeId)(σ:St)b,XG κ β (gL T σ rs ts).2.1.ae b->XG κ β σ.ae b:=by
     intro rs
     induction rs with
     |nil=>intro ts σ b hb;cases ts<;>exact hb
     |cons r rs ih=>
      intro ts σ b hb;cases ts with
      |nil=>exact hb
      |cons ty ts=>
       have:=ih ts _ b hb;unfold mO at this;cases r with
       |tmp t=>
        simp only[gU]at this;split at this
        .split at this
         iterate 2
          .rw[St.eQ,xU]at this;exact this.settle
         .exact this
        .split at this
         .rw[St.eQ,xU]at this;exact this.settle
         .exact this
        .exact this
       |cell t ty'=>
        simp only at this;split at this
        .split at this<;>exact this
        .exact this
    exact this rs ts _ b hb
   |succ j=>simpa[gL]using w3 j c (by simpa[gL]using hj)
theorem Ex(hT:cU P T)(ao:T.mu=a0a->κ.mu=Y')(h:av κ β σ.get σ.ae a w){r:AV}(hp:(gL T σ fn.results.toList fn.resultTypes.toList).1)(hr:oneOf (gL T σ fn.results.toList fn.resultTypes.toList).2.2=r):∃v,(results fn a.tmps).run P w=.ok v w/\RI w κ.X0 r v:=by
 obtain⟨h1,vs,w1,w2,w3⟩:=Qu hT ao fn.results.toList fn.resultTypes.toList σ h hp;have hX:∀c v,RI w (XG κ β (gL T σ fn.results.toList fn.resultTypes.toList).2.1.ae) c v->RI w κ.X0 c v:=λc v hh=>hh.cW (dZ.refl _ _) (λb _ hb=>.inl hb)
 have ax:(results fn a.tmps).run P w=.ok (if h:vs.toArray.size=1 then vs.toArray[0]else .tuple vs.toArray) w:=by
  unfold results;rw[SU];simp only[cC,Sem.run_map]
  erw[w1]
  rfl
 refine⟨_,ax,?_⟩;generalize(gL T σ fn.results.toList fn.resultTypes.toList).2.2=l at*;subst hr;have ab:l.length≠1->RI w κ.X0 (.aU l) (.tuple vs.toArray):=by
  intro _;have hex:∀j:Nat,∃u:Value,∀c:AV,l[j]?=T' c->vs[j]?=T' u/\RI w κ.X0 c u:=by
   intro j;cases hj:l[j]? with
   |none=>exact⟨undef,λc hc=>by cases hc⟩
   |some c=>
    obtain⟨u,q1,q2⟩:=w3 j c hj;exact⟨u,λc' af=>by simp only[aC]at af;subst af;exact⟨q1,hX _ _ q2⟩⟩
  obtain⟨g,hg⟩:=vo hex;exact RI.aU l vs.toArray g (by simpa using w2) (λj c hj=>by simpa using(hg j c hj).1) (λj c hj=>(hg j c hj).2)
 match l,vs,w2,w3,ab with
 |[],vs,w2,_,ab=>
  have:vs=[]:=lY (by simpa using w2);subst this;simpa[oneOf]using ab J'
 |[c],vs,w2,w3,_=>
  obtain⟨u,q1,q2⟩:=w3 0 c rfl;obtain⟨v,rfl⟩:∃v,vs=[v]:=by
   match vs,w2 with
   |[v],_=>exact⟨v,rfl⟩
  simp only[uc,aC]at q1;subst q1;exact hX _ _ q2
 |c::d::l,vs,w2,w3,ab=>
  have aw:¬vs.toArray.size=1:=by simp at w2|-;omega
  rw[dif_neg aw];exact ab J'
theorem DU:∀(l:List AV)(i t:Nat),lk (gA i l) t=if i<=t then l[t-i]? else Y'
 |[],i,t=>by simp[gA,lk]
 |v::l,i,t=>by
  simp only[gA,lk]
  by_cases h:i=t
  .subst h;simp
  .rw[aq h,DU l (i+1) t]
   by_cases h1:i+1<=t
   .rw[au h1,au f']
    have:t-i=(t-(i+1))+1:=f';rw[this,Ki]
   .rw[aq h1,aq f']
theorem pR(hf:P.funcs[f]?=T' fn)(hb:fn.body=T' c)(ab:(fn.name== "runtime.NumGoroutine")=a0a)(vs:Array Value)(w:World):
 (callFunc f vs).run P w=.ok (.enter f vs) w:=by
 simp only[callFunc,cC,run_program,cz,hf,ab,mz,if_false,hb,Option.isNone_some]
 rfl
theorem Ap{args:List AV}{n:Nat}{vs:Array Value}(af:args.all AV.im=Z')(hn:args.length<=n)(hX:∀b,X b->b<w.heap.size)(hl:vs.size=args.length)
 (hr:∀(j:Nat)(c:AV),args[j]?=T' c->∃v:Value,vs[j]?=T' v/\RI w X c v):
 av ⟨n,w,X,Y',λ_=>False,[],λ_=>Y'⟩ (λ_=>Y') (St.get ⟨gA 0 args,[]⟩) (St.ae ⟨gA 0 args,[]⟩) {tmps:=vs++Array.replicate (n-vs.size) undef,defers:=[]} w:=by
 refine⟨O',λt=>?_,rfl,λid ae hi=>(by cases hi),λi j b c x y _ hx=>(by cases hx),⟨rfl,rfl,rfl,aM _,λ_ _ _=>rfl,λ_ _ _ hm=>(by cases hm)⟩,λb hb=>⟨hX b hb,λh=>h.elim⟩,λ_ _ h=>(by cases h)⟩;simp only[St.get,DU,dU,if_true,FP];cases hc:args[t]? with
 |none=>exact RI.any _
 |some c=>
  obtain⟨v,hv,aw⟩:=hr t c hc;have ao:t<vs.size:=(ir.1 hv).1;have ab:c.im=true:=fq.1 af c (kL hc);simp only[rf];refine RV.of ab ?_;have e:(vs++Array.replicate (n-vs.size) undef).getD t undef=v:=by
   rw[iW,Ca ao,hv];rfl
  rw[e];refine aw.cW (dZ.refl _ _) (λb _ hb=>?_);rcases hb with hb|⟨_,_,_,hg,_⟩
  .exact hb
  .cases hg
theorem dh.intro(hT:cU P T){args:List AV}{r:AV}(hf:P.funcs[f]?=T' fn)(hb:fn.body=T' c)(aw:(fn.name== "runtime.NumGoroutine")=a0a)(ao:args.all AV.im=Z')(hn:args.length<=fn.ntmps)(h:ai P T fn.ntmps c (Tt T fn r) ⟨gA 0 args,[]⟩):dh P f args r:=by
 intro w X vs hX hl hr;refine .inr ⟨pR hf hb aw vs w,?_⟩;refine calls_of_wp hf hb ?_;have hC:=Ap (n:=fn.ntmps) ao hn hX hl hr;refine wp_mono (h _ _ _ w rfl (λ_=>rfl) hC) λe a' w'⟨σ',β',⟨he,h1,h2⟩,hC'⟩=>?_
 obtain⟨v,v1,v2⟩:=Ex hT (λ_=>rfl) hC' h1 h2;have af:Below w.heap.size w w':=⟨hC'.aQ.os,hC'.aQ.tape,hC'.aQ.output,hC'.aQ.size,λk hk=>hC'.aQ.old k ⟨hk,λh=>h.elim⟩ (λ_ _ h=>by cases h)⟩;have key:a'.defers=[]/\∃v,(results fn a'.tmps).run P w'=.ok v w'/\∃ab,Ending.returned v=.returned ab/\RI w' X r ab/\Below w.heap.size w w':=
  ⟨hC'.gp,v,v1,v,rfl,v2,af⟩
 rcases he with rfl|rfl
 .exact key
 .exact key
end
end
end Go.Hl
