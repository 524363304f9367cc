/- Lemmas for TopSound and TopBracket. -/
import Derived.Test.YtpgglolpkbepjaaGreatTAI
set_option linter.unusedVariables false
set_option linter.unusedSimpArgs false
namespace Go.Hl
open Option renaming some→T',none→Y'
open Bool renaming true→Z',false→a0a
open Go Go.RowKit
theorem vj{n:Int}(h1:-9223372036854775808<=n)(h2:n<9223372036854775808):IntKind.i64.wrap n=n:=by
 rw[qZ];omega
theorem zz{n:Int}(h1:0<=n)(h2:n<18446744073709551616):IntKind.u64.wrap n=n:=by
 rw[eP];omega
theorem ag6(n:Nat):((n:Int)-1).toNat=n-1:=by omega
theorem ag4(n:Nat):((n:Int)+1).toNat=n+1:=by omega
attribute [push_cast] Ya XL XM Ym X2 Yc XR XW X3 XV XY XU XX Yb Yd Yh Yf Yj Ye Yi Yg Yk XZ X7 X5 X6 XJ XN XP X4 Yl XK XT XO XQ WN Wv Ww W4 WJ WQ WA WD WK WH Zh aad aae aac aak aal WC WG WB WE WO WR WV WT WX WS WW WU WY WI WM WL Wz Wu WZ Wx Wy
attribute [push_cast] abe abf abi abj abg abh afO TX TW U6 U7 U8 Vb Vd Ve Vc Vf afw UJ Xp Xr Xq HR IC GH Hg Hh Hc HF Il Ie Ia ON vK sK wH oN uk BW aN.app aN.put aN.wW aN.len be yO vP Gu Gt xY US yr vV BC lO qM qs pS uC ev ofConst St.put del St.get St.ae St.g7 lk Option.getD_some Option.getD_none oy bin un idx dI gJ ml xQ cS AV.cells AV.one List.length_nil List.length_cons List.length_append List.length_replicate List.length_set Option.isSome_some Option.isSome_none Option.map_some Option.map_none Int.toNat_natCast Int.natCast_nonneg Int.toNat_zero Int.natCast_zero List.drop_zero List.getD_cons_zero List.getD_cons_succ and_self and_true true_and if_true if_false decide_true decide_false beq_self_eq_true ag6 ag4 Bool.not_true Bool.not_false Bool.false_eq_true uu gt_iff_lt ge_iff_le Nat.zero_add Nat.add_zero Nat.mul_one Nat.one_mul List.take_nil List.drop_nil DJ gU mI List.map_nil List.map_cons AV.im List.all_nil List.all_cons Bool.and_true Bool.and_self uD Be AV.refs St.kill St.settle List.toList_toArray List.append_nil List.nil_append List.cons_append List.take_zero List.take_length List.take_succ_cons List.drop_succ_cons vj zz yG yF AV.ZM AV.ZL AV.ZK AV.ZJ gL mO a8 kA gA and_false false_and Option.some.injEq Int.sub_zero Int.add_zero Int.zero_add
structure Env(P:Program)(T:aL)(S:FuncId->Option Sp):Prop where
 hT:cU P T
 hS:bh P S
 hm:P.follows .mixedOrders=Z'
def Im(P:Program)(T:aL)(S:FuncId->Option Sp)(R A:Prop):Prop:=Env P T S->R->A
section
variable {P:Program}{T:aL}{S:FuncId->Option Sp}{n:Nat}{R A:Prop}{Q:Exit->St->Prop}{next:St->Prop}{σ σ0 σ1:St}{x y:Code}{l:List Oper}{id id' t:Nat}
theorem Im.refl:Im P T S A A:=λ_ h=>h
theorem Im.bG(hd:iz l.toArray n=Z')(k:Im P T S R (et T S l.toArray l (λσ=>ai P T n y Q σ) σ)):Im P T S R (ai P T n (.seq (.region id l.toArray a0a) y) Q σ):=
 λe r=>.seq (.region e.hT e.hS hd (k e r))
theorem Im.Ok(hd:iz l.toArray n=Z')(k:Im P T S R (et T S l.toArray l (λσ=>Q .normal σ) σ)):Im P T S R (ai P T n (.region id l.toArray a0a) Q σ):=
 λe r=>.region e.hT e.hS hd (k e r)
theorem Im.aco(hd:iz l.toArray n=Z')(hok:okF [] [] [] (cT l).toArray=Z')(hc:a8 l σ=σ0)(k:Im P T S R (cY T S l.toArray l (λσ=>ai P T n y Q σ) σ0)):Im P T S R (ai P T n (.seq (.region id l.toArray Z') y) Q σ):=
 λe r=>.seq (.regionF [] [] [] e.hT e.hS e.hm gy (hc▸k e r) hd hok)
theorem Im.Zt(hd:iz l.toArray n=Z')(hok:okF [] [] [] (cT l).toArray=Z')(hc:a8 l σ=σ0)(k:Im P T S R (cY T S l.toArray l (λσ=>Q .normal σ) σ0)):Im P T S R (ai P T n (.region id l.toArray Z') Q σ):=
 λe r=>.regionF [] [] [] e.hT e.hS e.hm gy (hc▸k e r) hd hok
theorem Im.eo(hb:σ.get t=.r (.bool Z'))(k:Im P T S R (ai P T n x Q σ)):Im P T S R (ai P T n (.cond (.tmp t) x y) Q σ):=λe r=>.eo hb (k e r)
theorem Im.dz(hb:σ.get t=.r (.bool a0a))(k:Im P T S R (ai P T n y Q σ)):Im P T S R (ai P T n (.cond (.tmp t) x y) Q σ):=λe r=>.dz hb (k e r)
theorem Im.seq(k:Im P T S R (ai P T n x (ls (ai P T n y Q) Q) σ)):Im P T S R (ai P T n (.seq x y) Q σ):=λe r=>.seq (k e r)
theorem Im.block(k:Im P T S R (ai P T n x (oZ id Q) σ)):Im P T S R (ai P T n (.block id x) Q σ):=λe r=>.block (k e r)
theorem Im.skip(k:Im P T S R (Q .normal σ)):Im P T S R (ai P T n .skip Q σ):=λe r=>.skip (k e r)
theorem Im.exit(k:Im P T S R (Q (.exit id) σ)):Im P T S R (ai P T n (.exit id) Q σ):=λe r=>.exit (k e r)
theorem Im.ret(k:Im P T S R (Q .ret σ)):Im P T S R (ai P T n .ret Q σ):=λe r=>.ret (k e r)
theorem Im.pV(k:Im P T S R (ai P T n y Q σ)):Im P T S R (ls (ai P T n y Q) Q .normal σ):=k
theorem Im.afN(k:Im P T S R (next σ)):Im P T S R (ls next Q .normal σ):=k
theorem Im.afK(k:Im P T S R (Q (.exit id) σ)):Im P T S R (ls next Q (.exit id) σ):=k
theorem Im.afJ(k:Im P T S R (Q .ret σ)):Im P T S R (ls next Q .ret σ):=k
theorem Im.UD(k:Im P T S R (Q .normal σ)):Im P T S R (oZ id Q .normal σ):=k
theorem Im.UE(k:Im P T S R (Q .ret σ)):Im P T S R (oZ id Q .ret σ):=k
theorem Im.UF(k:Im P T S R (Q .normal σ)):Im P T S R (oZ id Q (.exit id) σ):=λe r=>by
 simp only[oZ,if_true];exact k e r
theorem Im.UG(h:(id'=id)=False)(k:Im P T S R (Q (.exit id') σ)):Im P T S R (oZ id Q (.exit id') σ):=λe r=>by
 simp only[oZ,h,if_false];exact k e r
end
section
variable {P:Program}{T:aL}{S:FuncId->Option Sp}{ops:Array Oper}{o:Oper}{os:List Oper}{K:St->Prop}{σ σ0 σ1 σ':St}{R p:Prop}{t j:Nat}{b c:Bool}{v:Value}
theorem Im.PE(k:Im P T S R (K σ)):Im P T S R (et T S ops [] K σ):=k
theorem et.step(hg:o.guard=Y')(h:dO T S o σ=(p,σ1))(hp:p)(k:et T S ops os K σ1):et T S ops (o::os) K σ:=by
 simp only[et,jh,hg,h];exact⟨hp,k⟩
theorem Im.Pz(hg:o.guard=Y')(h:dO T S o σ=(p,σ1))(hp:p)(k:Im P T S R (et T S ops os K σ1)):Im P T S R (et T S ops (o::os) K σ):=by
 intro e r;exact et.step hg h hp (k e r)
theorem Im.PK(hg:o.guard=T' (j,b))(ht:(ops[j]?).bind (·.dst)=T' t)(hb:σ.get t=.r (.bool b))(h:dO T S o (σ.put (T' t) (.r (.bool b)))=(p,σ1))(hp:p)(k:Im P T S R (et T S ops os K σ1)):Im P T S R (et T S ops (o::os) K σ):=by
 intro e r;simp only[et,jh,hg,ht,hb,h];exact⟨λ_=>⟨hp,k e r⟩,λe=>(by cases b<;>cases e)⟩
theorem Im.PF(hg:o.guard=T' (j,b))(ht:(ops[j]?).bind (·.dst)=T' t)(hb:σ.get t=.r (.bool c))(hc:c= !b)(hs:(σ.put (T' t) (.r (.bool (!b)))).put o.dst (.r undef)=σ1)(k:Im P T S R (et T S ops os K σ1)):Im P T S R (et T S ops (o::os) K σ):=by
 intro e r;subst hc;subst hs;simp only[et,jh,hg,ht,hb];exact⟨λe=>(by cases b<;>cases e),λ_=>k e r⟩
theorem Im.PG(hg:o.guard=T' (j,b))(ht:(ops[j]?).bind (·.dst)=T' t)(hb:σ.get t=.r v)(hc:uu v=Y')(hs:σ.put o.dst (.r undef)=σ1)(k:Im P T S R (et T S ops os K σ1)):Im P T S R (et T S ops (o::os) K σ):=by
 intro e r;subst hs;simp only[et,jh,hg,ht,hb];split
 .rename_i e;cases e;cases hc
 .exact k e r
 .rename_i e;exact(e v rfl).elim
theorem Im.PJ(hg:o.guard=T' (j,b))(ht:(ops[j]?).bind (·.dst)=Y')(k:Im P T S R (et T S ops os K (σ.put o.dst (.r undef)))):Im P T S R (et T S ops (o::os) K σ):=by
 intro e r;simp only[et,jh,hg,ht];exact k e r
theorem Im.Ej(k:Im P T S R (K σ)):Im P T S R (cY T S ops [] K σ):=k
theorem cY.step(hg:o.guard=Y')(h:dJ T S o σ=(p,σ1))(hp:p)(k:cY T S ops os K σ1):cY T S ops (o::os) K σ:=by
 simp only[cY,jh,hg,h];exact⟨hp,k⟩
theorem Im.Ei(hg:o.guard=Y')(h:dJ T S o σ=(p,σ1))(hp:p)(k:Im P T S R (cY T S ops os K σ1)):Im P T S R (cY T S ops (o::os) K σ):=by
 intro e r;exact cY.step hg h hp (k e r)
theorem Im.En(hg:o.guard=T' (j,b))(ht:(ops[j]?).bind (·.dst)=T' t)(hb:σ.get t=.r (.bool b))(h:dJ T S o (σ.put (T' t) (.r (.bool b)))=(p,σ1))(hp:p)(k:Im P T S R (cY T S ops os K σ1)):Im P T S R (cY T S ops (o::os) K σ):=by
 intro e r;simp only[cY,jh,hg,ht,hb,h];exact⟨λ_=>⟨hp,k e r⟩,λe=>(by cases b<;>cases e)⟩
theorem Im.Ek(hg:o.guard=T' (j,b))(ht:(ops[j]?).bind (·.dst)=T' t)(hb:σ.get t=.r (.bool c))(hc:c= !b)(hs:(σ.put (T' t) (.r (.bool (!b)))).put o.dst (.r undef)=σ1)(k:Im P T S R (cY T S ops os K σ1)):Im P T S R (cY T S ops (o::os) K σ):=by
 intro e r;subst hc;subst hs;simp only[cY,jh,hg,ht,hb];exact⟨λe=>(by cases b<;>cases e),λ_=>k e r⟩
theorem Im.El(hg:o.guard=T' (j,b))(ht:(ops[j]?).bind (·.dst)=T' t)(hb:σ.get t=.r v)(hc:uu v=Y')(hs:σ.put o.dst (.r undef)=σ1)(k:Im P T S R (cY T S ops os K σ1)):Im P T S R (cY T S ops (o::os) K σ):=by
 intro e r;subst hs;simp only[cY,jh,hg,ht,hb];split
 .rename_i e;cases e;cases hc
 .exact k e r
 .rename_i e;exact(e v rfl).elim
theorem Im.Em(hg:o.guard=T' (j,b))(ht:(ops[j]?).bind (·.dst)=Y')(k:Im P T S R (cY T S ops os K (σ.put o.dst (.r undef)))):Im P T S R (cY T S ops (o::os) K σ):=by
 intro e r;simp only[cY,jh,hg,ht];exact k e r
end
section
variable {P:Program}{T:aL}{S:FuncId->Option Sp}
theorem Im.sR{F G:Prop}(E:F)(h:F->G:=by(intro E;(simp(disch:=omega) only[push_cast,↓zF,vw,zF,↓reduceIte,Nat.reduceEqDiff,Nat.reduceBEq,Nat.reduceAdd,Nat.reduceMul,Nat.reduceSub,Nat.reduceLT,Nat.reduceLeDiff,Int.reduceToNat,Int.reduceLT,Int.reduceLE,Int.reduceAdd,Int.reduceSub,Int.reduceNeg,Int.reduceMul,reduceCtorEq,Nat.reducePow,Int.reducePow,Nat.reduceDiv,Nat.reduceMod,gM,Int.reduceEq,Int.reduceBEq,Int.reduceBNe,E]<;>rfl))):G:=h E
theorem Im.pF{F G:Prop}(E:F)(h:F->G:=by(intro E;(focus((try simp(disch:=omega) only[push_cast,↓zF,vw,zF,↓reduceIte,Nat.reduceEqDiff,Nat.reduceBEq,Nat.reduceAdd,Nat.reduceMul,Nat.reduceSub,Nat.reduceLT,Nat.reduceLeDiff,Int.reduceToNat,Int.reduceLT,Int.reduceLE,Int.reduceAdd,Int.reduceSub,Int.reduceNeg,Int.reduceMul,reduceCtorEq,Nat.reducePow,Int.reducePow,Nat.reduceDiv,Nat.reduceMod,gM,Int.reduceEq,Int.reduceBEq,Int.reduceBNe,E])<;>(first|with_reducible trivial|with_reducible assumption|((repeat' (first|with_reducible assumption|with_reducible apply And.intro))<;>(first|with_reducible trivial|with_reducible assumption|omega|rfl|exact⟨_,_,rfl⟩|(refine⟨_,_,rfl,?_,?_⟩<;>omega)|assumption))))))):G:=h E
theorem Im.wK{A R F:Prop}(E:F)(h:F->Im P T S R A:=by
 (intro E;(repeat(first|((with_reducible apply Im.Pz);rfl;exact Im.sR E;exact Im.pF E)|((with_reducible apply Im.PK);rfl;rfl;exact Im.sR E;exact Im.sR E;exact Im.pF E)|((with_reducible apply Im.PF);rfl;rfl;exact Im.sR E;rfl;exact Im.sR E)|((with_reducible apply Im.PG);rfl;rfl;exact Im.sR E;rfl;exact Im.sR E)|((with_reducible apply Im.PJ);rfl;rfl)|with_reducible apply Im.PE|with_reducible apply Im.pV|with_reducible apply Im.UD|(with_reducible apply Im.bG (by kernel_rfl))|(with_reducible apply Im.Ok (by kernel_rfl))|((with_reducible apply Im.eo);exact Im.sR E)|((with_reducible apply Im.dz);exact Im.sR E)|((with_reducible apply Im.Ei);rfl;exact Im.sR E;exact Im.pF E)|((with_reducible apply Im.En);rfl;rfl;exact Im.sR E;exact Im.sR E;exact Im.pF E)|((with_reducible apply Im.Ek);rfl;rfl;exact Im.sR E;rfl;exact Im.sR E)|((with_reducible apply Im.El);rfl;rfl;exact Im.sR E;rfl;exact Im.sR E)|((with_reducible apply Im.Em);rfl;rfl)|with_reducible apply Im.Ej|((with_reducible apply Im.aco (by kernel_rfl) (by kernel_rfl));exact Im.sR E)|((with_reducible apply Im.Zt (by kernel_rfl) (by kernel_rfl));exact Im.sR E)|with_reducible apply Im.seq|with_reducible apply Im.block|with_reducible apply Im.skip|with_reducible apply Im.exit|with_reducible apply Im.ret|with_reducible apply Im.afK|with_reducible apply Im.afJ|with_reducible apply Im.UE|with_reducible apply Im.UF|(with_reducible apply Im.UG (by decide))|with_reducible apply Im.afN));exact Im.refl)):Im P T S R A:=h E
theorem wk{A R F:Prop}(hE:Env P T S)(E:F)(k:R)(h:F->Im P T S R A:=by(intro E;exact Im.wK E)):A:=h E hE k
theorem Im.wR{A R F:Prop}(E:F)(h:F->Im P T S R A:=by
 (intro E;(first|(with_reducible apply Im.bG (by kernel_rfl))|(with_reducible apply Im.Ok (by kernel_rfl))|skip);(repeat(first|((with_reducible apply Im.Pz);rfl;exact Im.sR E;exact Im.pF E)|((with_reducible apply Im.PK);rfl;rfl;exact Im.sR E;exact Im.sR E;exact Im.pF E)|((with_reducible apply Im.PF);rfl;rfl;exact Im.sR E;rfl;exact Im.sR E)|((with_reducible apply Im.PG);rfl;rfl;exact Im.sR E;rfl;exact Im.sR E)|((with_reducible apply Im.PJ);rfl;rfl)|with_reducible apply Im.PE));exact Im.refl)):Im P T S R A:=h E
theorem JA{A R F:Prop}(hE:Env P T S)(E:F)(k:R)(h:F->Im P T S R A:=by(intro E;exact Im.wR E)):A:=h E hE k
theorem Le.mk{F:Prop}{σ σ':St}(E:F)(h1:F->yG σ σ'.fr:=by
 (intro E;exact Im.pF E)) (h2:F->yF σ σ'.hp:=by
 (intro E;exact Im.pF E)):Le σ σ':=.of (h1 E) (h2 E)
theorem Iu(v:AV):oneOf [v]=v:=rfl
theorem Iv(a b:AV)(l:List AV):oneOf (a::b::l)=.aU (a::b::l):=rfl
theorem aO.mk{F p:Prop}{rs:List ResultVar}{ts:List TypeId}{r v:AV}{e:Exit}{σ σ':St}{vs:List AV}(E:F)(k:v=r)(he:e=.normal\/e=.ret:=by first|exact .inr rfl|exact .inl rfl)(h:F->gL T σ rs ts=(p,σ',vs):=by
 (intro E;exact Im.sR E)) (hp:F->p:=by
 (intro E;exact Im.pF E)) (hv:oneOf vs=v:=by first|exact Iu _|exact Iv _ _ _):aO T rs ts r e σ:=by
 have h1:=h E;refine⟨he,?_,?_⟩
 .rw[h1];exact hp E
 .rw[h1];exact hv.trans k
theorem vF.mk{F:Prop}{t id:Nat}{k:IntKind}{xs ys:List Int}{wr:Bool}{e:Exit}{σ:St}(E:F)(hk:ys=xs)(he:e=.normal\/e=.ret:=by first|exact .inr rfl|exact .inl rfl)(h1:F->σ.get t=.os id 1 0 ys.length:=by
 (intro E;exact Im.sR E)) (h2:F->σ.ae id=T' ⟨wr,.n k ys⟩:=by
 (intro E;exact Im.sR E)):vF t k xs e σ:=by
 subst hk;exact⟨he,.inl ⟨id,wr,h1 E,h2 E⟩⟩
theorem ai.join{n:Nat}{Q:Exit->St->Prop}{σ:St}{x y:Code}{ι:Type}(J:ι->St)(h1:ai P T n x (ls (λσ=>∃i,Le σ (J i)) Q) σ)(h2:∀i,ai P T n y Q (J i)):ai P T n x (ls (ai P T n y Q) Q) σ:=
 h1.mono λe σ' h=>by
  cases e with
  |normal=>obtain⟨i,hi⟩:=h;exact(h2 i).dS hi
  |_=>exact h
theorem ai.HQ{n id:Nat}{Q:Exit->St->Prop}{σ:St}{x y:Code}{ι:Type}(J:ι->St)(h1:ai P T n x (oZ id (ls (λσ=>∃i,Le σ (J i)) Q)) σ)(h2:∀i,ai P T n y Q (J i)):ai P T n x (oZ id (ls (ai P T n y Q) Q)) σ:=
 h1.mono λe σ' h=>by
  cases e with
  |normal=>obtain⟨i,hi⟩:=h;exact(h2 i).dS hi
  |exit id'=>
   simp only[oZ]at h|-;split
   .rename_i e;rw[au e]at h;obtain⟨i,hi⟩:=h;exact(h2 i).dS hi
   .rename_i e;rw[aq e]at h;exact h
  |_=>exact h
theorem dh.body{f:FuncId}{fn:Func}{c:Code}{args:List AV}{r:AV}{n:Nat}{rs:List ResultVar}{ts:List TypeId}{l:List (Nat×AV)}(hE:Env P T S)(hf:P.funcs[f]?=T' fn)(hnt:fn.ntmps=n)(hrs:fn.results=rs.toArray)(h:ai P T n c (aO T rs ts r) ⟨l,[]⟩)(hb:fn.body=T' c:=by rfl)
 (hname:(fn.name== "runtime.NumGoroutine")=false:=by decide) (hts:fn.resultTypes=ts.toArray:=by rfl) (him:args.all AV.im=true:=by rfl) (hn:args.length<=n:=by simp) (hl:gA 0 args=l:=by rfl):dh P f args r:=by
 subst hl;exact dh.of hE.hT hf hb hname hnt (by rw[hrs]) (by rw[hts]) him hn h
theorem nM.body{f:FuncId}{fn:Func}{c:Code}{args:List AV}{n t:Nat}{k:IntKind}{xs:List Int}{l:List (Nat×AV)}(hE:Env P T S)(hf:P.funcs[f]?=T' fn)(hnt:fn.ntmps=n)(hrs:fn.results=#[.tmp t])(h:ai P T n c (vF t k xs) ⟨l,[]⟩)(hb:fn.body=T' c:=by rfl)
 (hname:(fn.name== "runtime.NumGoroutine")=false:=by decide) (him:args.all AV.im=true:=by rfl) (hn:args.length<=n:=by simp) (hl:gA 0 args=l:=by rfl):nM P f args (.ns k xs):=by
 subst hl;exact nM.of hE.hT hf hb hname hnt hrs him hn h
theorem nU.body{f:FuncId}{fn:Func}{c:Code}{k:IntKind}{xs ys:List Int}{rest:List AV}{r0:AV}{n:Nat}{rs:List ResultVar}{ts:List TypeId}{l:List (Nat×AV)}(hE:Env P T S)(hf:P.funcs[f]?=T' fn)(hnt:fn.ntmps=n)(hrs:fn.results=rs.toArray)(hlen:ys.length=xs.length)
 (h:ai P T n c (sG T rs ts r0 n k ys) ⟨(0,.os n 1 0 xs.length)::l,[(n,⟨Z',.n k xs⟩)]⟩) (hTm:T.mu=true:=by rfl) (hb:fn.body=T' c:=by rfl)
 (hname:(fn.name== "runtime.NumGoroutine")=false:=by decide) (hts:fn.resultTypes=ts.toArray:=by rfl) (him:rest.all AV.im=true:=by rfl) (hn:rest.length+1<=n:=by simp) (hl:gA 1 rest=l:=by rfl):nU P f (.ns k xs::rest) (.aU [r0,.ns k ys]):=by
 subst hl;exact nU.of hE.hT hTm hf hb hname hnt (by rw[hrs]) (by rw[hts]) him hn hlen h
theorem aaR:oneOf []=.aU []:=rfl
theorem sG.mk{F p:Prop}{rs:List ResultVar}{ts:List TypeId}{r v:AV}{n:Nat}{kk:IntKind}{xs ys:List Int}{wr:Bool}{e:Exit}{σ σ':St}{vs:List AV}(E:F)(k:v=r)(k2:xs=ys)(he:e=.normal\/e=.ret:=by first|exact .inr rfl|exact .inl rfl)(h:F->gL T σ rs ts=(p,σ',vs):=by
 (intro E;exact Im.sR E)) (hp:F->p:=by
 (intro E;exact Im.pF E)) (hv:oneOf vs=v:=by first|exact aaR|exact Iu _|exact Iv _ _ _) (h2:F->σ.ae n=T' ⟨wr,.n kk xs⟩:=by
 (intro E;exact Im.sR E)):sG T rs ts r n kk ys e σ:=by
 subst k2;exact⟨aO.mk E k he h hp hv,wr,h2 E⟩
theorem ai.test{F:Prop}{n t:Nat}{Q:Exit->St->Prop}{σ:St}{x y:Code}{b:Bool}(E:F)(ht:b=Z'->ai P T n x Q σ)(hf:b=a0a->ai P T n y Q σ)(hb:F->σ.get t=.r (.bool b):=by
 (intro E;exact Im.sR E)):ai P T n (.cond (.tmp t) x y) Q σ:=by
 cases b with
 |true=>exact .eo (hb E) (ht rfl)
 |false=>exact .dz (hb E) (hf rfl)
end
section
variable {P:Program}{T:aL}{S:FuncId->Option Sp}{n t:Nat}{Q Q1:Exit->St->Prop}{σ σ1:St}{x y z:Code}{F R:Prop}
theorem aB{f:FuncId}{fn:Func}{c:Code}{args:List AV}{r:AV}{n:Nat}{rs:List ResultVar}{ts:List TypeId}{l:List (Nat×AV)}(hf:P.funcs[f]?=T' fn)(hnt:fn.ntmps=n)(h:ai P T n c (aO T rs ts r) ⟨l,[]⟩)(hE:Env P T S:=by assumption)(hrs:fn.results=rs.toArray:=by rfl)(hb:fn.body=T' c:=by rfl)
 (hname:(fn.name== "runtime.NumGoroutine")=false:=by decide) (hts:fn.resultTypes=ts.toArray:=by rfl) (him:args.all AV.im=true:=by rfl) (hn:args.length<=n:=by simp) (hl:gA 0 args=l:=by rfl):dh P f args r:=dh.body hE hf hnt hrs h hb hname hts him hn hl
theorem aK{A R:Prop}(k:R)(hE:Env P T S:=by assumption)(h:Im P T S R A:=by exact Im.wK a0b):A:=h hE k
theorem an{A R F:Prop}(E:F)(k:R)(hE:Env P T S:=by assumption)(h:F->Im P T S R A:=by(intro E;exact Im.wK E)):A:=h E hE k
theorem aT{A R:Prop}(k:R)(hE:Env P T S:=by assumption)(h:Im P T S R A:=by exact Im.wR a0b):A:=h hE k
theorem cy{A R F:Prop}(E:F)(k:R)(hE:Env P T S:=by assumption)(h:F->Im P T S R A:=by(intro E;exact Im.wR E)):A:=h E hE k
theorem ig(k:R)(hE:Env P T S:=by assumption)(h:Im P T S R (ai P T n x (ls (ai P T n y Q) Q) σ):=by exact Im.wR a0b):ai P T n (.seq x y) Q σ:=ai.seq (h hE k)
theorem gl(E:F)(k:R)(hE:Env P T S:=by assumption)(h:F->Im P T S R (ai P T n x (ls (ai P T n y Q) Q) σ):=by(intro E;exact Im.wR E)):ai P T n (.seq x y) Q σ:=ai.seq (h E hE k)
theorem aF(k:ai P T n z Q1 σ)(hb:σ.get t=.r (.bool a0a):=by rfl)(h:ai P T n z Q1 σ->Q .normal σ:=by exact λr=>r):ai P T n (.cond (.tmp t) x .skip) Q σ:=ai.dz hb (ai.skip (h k))
end
section
variable {P:Program}{T:aL}{S:FuncId->Option Sp}{n:Nat}{Q:Exit->St->Prop}{σ σ' σ1:St}{y:Code}{F R p:Prop}{id:Nat}{l:List Oper}{rs:List ResultVar}{ts:List TypeId}{r v:AV}{e:Exit}{vs:List AV}
theorem pL(he:e=.normal\/e=.ret:=by first|exact .inr rfl|exact .inl rfl)(h:gL T σ rs ts=(p,σ',vs):=by exact Im.sR a0b)(hp:p:=by exact Im.pF a0b)(hv:oneOf vs=v:=by first|exact Iu _|exact Iv _ _ _)(k:v=r:=by rfl):aO T rs ts r e σ:=aO.mk a0b k he (λ_=>h) (λ_=>hp) hv
theorem aG(cs al:List (Nat×Nat))(fd:List (Nat×Nat×Nat))(E:F)(k:R)(hE:Env P T S:=by assumption)(h:F->Im P T S R (cY T S l.toArray l (ls (ai P T n y Q) Q .normal) (a8 l σ)):=by(intro E;exact Im.wK E))(hok:okF cs al fd (cT l).toArray=true:=by kernel_rfl)(hd:iz l.toArray n=true:=by kernel_rfl)(hl:∀p i,lk cs p=T' i->dL i ((a8 l σ).get p):=by(first|exact gy|exact ki ⟨_,rfl⟩|exact qF ⟨_,rfl⟩ ⟨_,rfl⟩|exact HV ⟨_,rfl⟩ ⟨_,rfl⟩ ⟨_,rfl⟩|exact yH ⟨_,rfl⟩ ⟨_,rfl⟩ ⟨_,rfl⟩ ⟨_,rfl⟩|exact HX ⟨_,rfl⟩ ⟨_,rfl⟩ ⟨_,rfl⟩ ⟨_,rfl⟩ ⟨_,rfl⟩)):ai P T n (.seq (.region id l.toArray Z') y) Q σ:=ai.seq (ai.regionF cs al fd hE.hT hE.hS hE.hm hl (h E hE k) hd hok)
end
end Go.Hl
