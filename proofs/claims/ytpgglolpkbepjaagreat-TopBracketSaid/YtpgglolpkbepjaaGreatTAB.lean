/- Lemmas for TopSound and TopBracket. -/
import Derived.Laws.CopyRow
import Derived.Laws.IdiomCopy
import Derived.Test.YtpgglolpkbepjaaGreatTAA
set_option linter.unusedVariables false
set_option linter.unusedSimpArgs false
namespace Go.Hl
open Option renaming some→T',none→Y'
open Bool renaming true→Z',false→a0a
open Go Go.RowKit
section
variable {σ:St}{e t ty:TypeId}{i:TypeInfo}
section
variable {P:Program}{T:aL}{S:FuncId->Option Sp}{κ:Ctx}{β:Nat->Option (Nat×Nat)}{F:Nat->AV}{G:Nat->Option cq}{a:Act}{w:World}{X:Nat->Prop}
theorem IX(ht:P.underlying t=T' (.slice e))(hi:P.info? e=T' i)(base ad:Option Addr)(n c cap:Nat)(h:n<=c):
 (Builtin.append_ #[t,t] ty #[.slice base n c,.slice ad 0 cap]).run P w=.ok (.slice base n c) w:=by
 cases base<;>cases ad<;>simp[Builtin.append_,run_underlying ht,sizeOf,typeInfo,hi,Builtin.lenOf,h,Builtin.firstCells,loadCells,loadCellsFrom,storeCells]
theorem ac3{e':TypeId}(ht:P.underlying t=T' (.slice e))(hi:P.info? e=T' i)(g o sLen sCap:Nat)(cur:Array Value)(hg:w.heap[g]?=T' (.cells cur e' (0,0)))(ad:Addr)(m c:Nat)(news:List Value)(hl:news.length=m*i.size)(ao:∀j u,news[j]?=T' u->w.cell? (ad.add j)=T' u)(h1:∀u∈news,u.oneCell'=Z')(aw:sLen+m<=sCap)(af:o+sLen*i.size+news.length<=cur.size):
 (Builtin.append_ #[t,t] ty #[.slice (T' ⟨g,o,Y'⟩) sLen sCap,.slice (T' ad) m c]).run P w=
  .ok (.slice (T' ⟨g,o,Y'⟩) (sLen+m) sCap) (w.setRow g (cur.toList.take (o+sLen*i.size)++news++cur.toList.drop (o+sLen*i.size+news.length)).toArray):=by
 have hf:=run_firstCells_some (P:=P) w i.size m ad m c news hl ao;have ab:=run_storeCells_at P g (o+sLen*i.size) e' news 0 cur w hg (by simpa using af) h1;simp only[kN]at ab;simp[Builtin.append_,run_underlying ht,sizeOf,typeInfo,hi,Builtin.lenOf,aw,hf,ji,ab]
theorem QF{z:Value}(ht:P.underlying t=T' (.slice e))(hi:P.info? e=T' i)(hz:i.zero=T' z)(base:Option Addr)(sLen sCap:Nat)(ab:List Value)(af:ab.length=sLen*i.size)(hb:base=Y'->sLen=0/\sCap=0)(holds:∀b,base=T' b->∀j v,ab[j]?=T' v->w.cell? (b.add j)=T' v)(ad:Addr)(n c:Nat)(news:List Value)(hl:news.length=n*i.size)(ao:∀j v,news[j]?=T' v->w.cell? (ad.add j)=T' v)(hg:sCap<sLen+n)(ax:sLen+n<=9223372036854775807)(aw:(sLen+n)*i.bytes<=140737488355328):
 ∃cap r,(Builtin.append_ #[t,t] ty #[.slice base sLen sCap,.slice (T' ad) n c]).run P w=
  .ok (.slice (T' ⟨w.heap.size,0,Y'⟩) (sLen+n) cap) (w.drew.alloc (.cells (ab++news++r).toArray e))/\sLen+n<=cap/\(ab++news++r).length=(ab.length+news.length)+(cap-(sLen+n))*z.cells.size:=by
 cases base with
 |some b=>
  have hr:=run_append_grow (P:=P) w t ty e i z ht hi hz b sLen sCap ab af (holds b rfl) ad n c news hl ao hg f' (growslice_fits hg aw);refine⟨grownCap w (sLen+n) sCap e,(Builtin.zeroCells z.cells (grownCap w (sLen+n) sCap e-(sLen+n))).toList,?_,grownCap_ge w _ _ _,?_⟩
  .rw[hr];congr 3;simp
  .simp[size_zeroCells];omega
 |none=>
  obtain⟨rfl,rfl⟩:=hb rfl;have ho:ab=[]:=lY (by simpa using af);subst ho;simp only[du]at*;have hr:=run_append_nil (P:=P) w t ty e i z ht hi hz ad n c news hl ao f' f' f';refine⟨grownCap w n 0 e,(Builtin.zeroCells z.cells (grownCap w n 0 e-n)).toList,?_,grownCap_ge w _ _ _,?_⟩
  .rw[hr];congr 3;simp
  .simp[size_zeroCells]
theorem QP{g lo hi:Nat}{cur:Array Value}(hg:w.heap[g]?=T' (.cells cur e (0,0))){cs:Array Value}(hs:cs.size=cur.size)(ho:∀j,¬(lo<=j/\j<hi)->cs[j]?=cur[j]?):vG w (w.setRow g cs) g lo hi:=by
 refine⟨rfl,rfl,rfl,by simp[World.setRow],λk hk hb=>setRow_other w g k _ hb,λC e' hC=>?_⟩;rw[hg]at hC;simp only[aC,ma]at hC;obtain⟨rfl,rfl,_⟩:=hC;exact⟨cs,setRow_heap w g cur cs e (0,0) hg,hs,ho⟩
theorem av.RP(h:av κ β σ.get σ.ae a w)(id d:Nat):av κ β ((σ.kill id).kill d).get σ.ae a w:=
 h.dS (λt=>by
  rcases AR (σ.kill id) d t with e|e
  .rcases AR σ id t with e'|e'
   .exact .inl (e.trans e')
   .exact .inr (e.trans e')
  .exact .inr e)
theorem av.wv(h:av κ β σ.get σ.ae a w)(d:Nat):av κ β (σ.kill d).get (σ.kill d).ae a w:=by
 refine(h.dS (AR σ d)).drop (λi=>?_);rw[xT]
 by_cases e:d=i
 .subst e;exact .inr (eu _ _ _)
 .exact .inl (bS _ _ e)
theorem RI.drew{X':Nat->Prop}(hX:∀b,X' b->X b){c:AV}{v:Value}(h:RI w X c v):RI w.drew X' c v:=by
 have hk:dZ X w w.drew:=⟨aM _,λ_ _ _=>rfl⟩;exact h.cW hk (λb _ hx=>hX b hx)
theorem sQ(w:World):Below w.heap.size w w.drew:=⟨rfl,rfl,rfl,aM _,λ_ _=>rfl⟩
theorem LI(σ:St)(id d:Nat)(b:cq):(((σ.kill id).kill d).g7 d b).ae=aD (aD σ.ae id Y') d (T' b):=by
 rw[St.nj,xT,xT,Ju]
theorem T4(hT:cU P T)(h:av κ β σ.get σ.ae a w)(bz:T.mu=a0a->κ.mu=Y'){d:Option Nat}(hd:∀t,d=T' t->t<κ.nt){s x:AV}{su xu:Value}(hs:RV κ β σ.ae w s su)(hx:RV κ β σ.ae w x xu)(hp:(uk T σ d t s x).1):
 ∃y w',(Builtin.append_ #[t,t] ty #[su,xu]).run P w=.ok y w'/\∃bb,av κ bb (uk T σ d t s x).2.get (uk T σ d t s x).2.ae (a.put d y) w':=by
 unfold uk at*;split at hp
 .rename_i d e sz by_ bF
  obtain⟨h2,inf,h3,h4,h5,z,h6,h7⟩:=hT.sl t e sz by_ bF;split at hp
  .rename_i nw m bt
   split at hp
   ·
    split at hp
    .rename_i con' a0
     obtain⟨g1,g2,g3,g4⟩:=hp;obtain⟨a1,a2,a3⟩:=aN.K8 a0;obtain⟨ad,cap,rfl,hv⟩:=Jv h hx bt g2 g1;cases hs with
     |dt aw=>
      by_cases hm:m=0
      .subst hm
       refine⟨_,_,IX h2 h3 aw ad 0 0 cap (aM _),aD β d Y',?_⟩;simp only;rw[St.fh,St.eQ,St.nz,St.nj];refine((h.wv d).bare ((h.wv d).free (.inr (kt (hd d rfl)))) (tJ σ d) (con:=con') (by rw[a1,g1,FQ];rfl)).put (λt ht=>by cases ht;exact hd d rfl) ?_;exact⟨aw,0,rfl,aM _,λ_ _=>.inl rfl⟩
      .have a7:0<nw.len:=by rw[g1];exact xF f' g2
       obtain⟨b,o,rfl,ay⟩:=hv a7;obtain⟨vs,v1,v2⟩:=BV (n:=nw.len) (P:=λj v=>w.cell? ⟨b,o+j,Y'⟩=T' v/\∀c,nw.val j=T' c->RI w (XG κ β σ.ae) c v) (λj hj=>by
        obtain⟨c,hc⟩:=aN.zt hj;obtain⟨v,q1,q2⟩:=ay j c hc;exact⟨v,q1,λc' ab=>by rw[hc]at ab;simp only[aC]at ab;subst ab;exact q2⟩)
       obtain⟨bd,r,r1,r2,r3⟩:=QF (P:=P) (w:=w) (ty:=ty) h2 h3 h6 aw 0 0 [] J' (λ_=>⟨rfl,rfl⟩) (λ_ _ j v hj=>by simp at hj)
        ⟨b,o,Y'⟩ m cap vs (by rw[v1,g1,h4]) (λj v hj=>by rw[ji];exact(v2 j v hj).1) f' f' (by rw[h5,du];exact g3)
       refine⟨_,_,r1,?_⟩;have a4:=h.below (sQ w);refine a4.made d (hd d rfl) _ e con' (by
        simp only[jn];rw[a1,r3,v1];show 0+nw.len<=0+nw.len+_;omega) (λj c hj=>?_) (λbO G2 w2 hb hw=>?_)
       .rcases a3 j c hj with⟨q1,q2⟩|⟨q1,q2⟩
        .simp[aN.len]at q1
        .simp only[aN.len,kK,FP]at q2
         have af:=aN.ES q2;have bH:=v2 j vs[j] (by simp[v1,af]);refine⟨vs[j]'(f'),?_,RI.drew (λ_ hx=>hx) (bH.2 c q2)⟩;simp[iK,v1,af]
       .have:=RV.yT (κ:=κ) (G':=G2) (s:=sz) hb hw r2 (by
         simp only[jn];rw[r3];simp only[kK,v1,g1,h7];rw[du,du,<-pg];exact jD _ f')
        simpa using this
    .exact False.elim hp
   ·
    rename_i id s' off len;split at hp
    .rename_i con hG
     split at hp
     .rename_i con' a0
      obtain⟨rfl,rfl,g0,g1,g2,g3,g4,g5⟩:=hp;simp only;obtain⟨a1,a2,a3⟩:=aN.K8 a0;obtain⟨ad,cap,rfl,hv⟩:=Jv h hx bt g2 g1;obtain⟨aw,ao,rfl,k1,k2⟩:=hs;have k2:=k2 _ hG;have bA:=bz g5;rw[St.fh,St.eQ,LI,St.nz]
      by_cases hroom:len+m<=ao
      ·
       rcases k2 with k2|⟨b,base,C,e',q1,rfl,q3,q4⟩
       .subst k2
        have a5:len=0:=f';have a6:m=0:=f';subst a5;subst a6;refine⟨_,_,IX h2 h3 aw ad 0 0 cap (aM _),aD β d Y',?_⟩;have hc:=((h.RP id d).drop (G':=aD σ.ae id Y') (λi=>by
         by_cases e:id=i
         .subst e;exact .inr (eu _ _ _)
         .exact .inl (bS _ _ e))).bare (id:=d) (h.free (.inr (kt (hd d rfl)))) (tJ (σ.kill id) d) (con:=con') (by rw[a1,g0,g1];simp)
        exact hc.put (λt ht=>by cases ht;exact hd d rfl) ⟨aw,0,rfl,aM _,λ_ _=>.inl rfl⟩
       .have hold:¬κ.tq b:=by
         rcases h.hp id _ hG with h8|⟨b2,bc,C2,e2,w1,w2,w3,w4,w5⟩
         .rw[q1]at h8;cases h8.1
         .rw[q1]at w1
          simp only[aC,db]at w1;obtain⟨rfl,rfl⟩:=w1;rcases w5 with w5|⟨lo,hi,w5,_⟩
          .exact w5.1
          .rw[bA]at w5;cases w5
        simp only[kN]at q4|-;have hmul:ao*s'=len*s'+(ao-len)*s':=by rw[<-pg];congr 1;omega
        have bN:m*s'<=(ao-len)*s':=jD _ f';have bK:∃vs:List Value,vs.length=nw.len/\(0<nw.len->∃b o,ad=T' ⟨b,o,Y'⟩/\∀j v,vs[j]?=T' v->w.cell? ⟨b,o+j,Y'⟩=T' v)/\
         ∀(j:Nat)(v:Value),vs[j]?=T' v->∀c,nw.val j=T' c->RI w (XG κ β σ.ae) c v:=by
         by_cases h0:0<nw.len
         .obtain⟨b,o,rfl,ay⟩:=hv h0
          obtain⟨vs,v1,v2⟩:=BV (n:=nw.len) (P:=λj v=>w.cell? ⟨b,o+j,Y'⟩=T' v/\∀c,nw.val j=T' c->RI w (XG κ β σ.ae) c v) (λj hj=>by
           obtain⟨c,hc⟩:=aN.zt hj;obtain⟨v,q1,q2⟩:=ay j c hc;exact⟨v,q1,λc' ab=>by rw[hc]at ab;simp only[aC]at ab;subst ab;exact q2⟩)
          exact⟨vs,v1,λ_=>⟨b,o,rfl,λj v hj=>(v2 j v hj).1⟩,λj v hj=>(v2 j v hj).2⟩
         .exact⟨[],O',λh=>absurd h h0,λj v hj=>by simp at hj⟩
        obtain⟨vs,v1,v2,v3⟩:=bK;have bB:∀u∈vs,u.oneCell'=true:=by
         intro u hu;obtain⟨j,hj⟩:=Cr hu;have af:j<nw.len:=by
          rcases dQ j vs.length with h'|h'
          .omega
          .simp[iT h']at hj
         obtain⟨c,hc⟩:=aN.zt af;exact(v3 j u hj c hc).one (a2 j c hc)
        have bE:(Builtin.append_ #[t,t] ty #[.slice (T' ⟨b,base,Y'⟩) len ao,.slice ad m cap]).run P w=
         .ok (.slice (T' ⟨b,base,Y'⟩) (len+m) ao) (w.setRow b (C.toList.take (base+len*s')++vs++C.toList.drop (base+len*s'+vs.length)).toArray):=by
         by_cases h0:0<nw.len
         .obtain⟨b',o',rfl,ay⟩:=v2 h0
          have:=ac3 (P:=P) (w:=w) (ty:=ty) h2 h3 b base len ao C q3 ⟨b',o',Y'⟩ m cap vs (by rw[v1,g1,h4]) (λj v hj=>by rw[ji];exact ay j v hj) bB hroom
           (by rw[v1,g1,h4];omega)
          rw[h4]at this;exact this
         .have a6:m=0:=by
           rcases re m with e|e
           .exact e
           .exact absurd (by rw[g1];exact xF e g2) h0
          subst a6;have bL:vs=[]:=lY f';subst bL;rw[IX h2 h3 _ ad len ao cap k1];simp only[jx,kK,kN,xD,Fk];rw[setRow_self w b C e' (0,0) q3]
        refine⟨_,_,bE,aD β d (β id),?_⟩;have bs:(C.toList.take (base+len*s')++vs++C.toList.drop (base+len*s'+vs.length)).toArray.size=C.size:=by
         simp only[jn,aV,fT,j6,qX];omega
        have bn:∀j:Nat,(C.toList.take (base+len*s')++vs++C.toList.drop (base+len*s'+vs.length)).toArray[j]?=
         if base+len*s'<=j/\j<base+len*s'+vs.length then vs[j-(base+len*s')]? else C[j]?:=by
         intro j;simp only[zP];have af:(C.toList.take (base+len*s')).length=base+len*s':=O'
         by_cases h1:j<base+len*s'
         .rw[aq f',dH,iK f',ic,au h1];simp
         .by_cases h2:j<base+len*s'+vs.length
          .rw[au f',iK O',jz f',af]
          .rw[aq f',jz O',j5]
           simp only[aV,af,zE]
           congr 1;omega
        have bM:vG w (w.setRow b (C.toList.take (base+len*s')++vs++C.toList.drop (base+len*s'+vs.length)).toArray) b (base+len*s') (base+len*s'+vs.length):=
         QP q3 bs (λj hj=>by rw[bn,aq hj])
        have bD:=(h.RP id d).own (id:=id) (con':=con') hG q1 bM f' (by rw[a1,g0,v1];omega)
         ⟨f',.inr ⟨hold,λC' bw ax=>by
          rw[q3]at ax;simp only[aC,ma]at ax;obtain⟨rfl,_,_⟩:=ax;rw[a1,g0,g1];omega⟩⟩
         (λC'⟨bw,ax⟩j c hj=>by
          rw[setRow_heap w b C _ e' (0,0) q3]at ax;simp only[aC,ma]at ax;obtain⟨rfl,_,_⟩:=ax;rw[bn];rcases a3 j c hj with⟨z1,z2⟩|⟨z1,z2⟩
          .rw[aq f']
           rcases h.hp id _ hG with h8|⟨b2,bc,C2,e2,w1,w2,w3,w4,w5⟩
           .rw[q1]at h8;cases h8.1
           .rw[q1]at w1
            simp only[aC,db]at w1;obtain⟨rfl,rfl⟩:=w1;rw[q3]at w2;simp only[aC,ma]at w2;obtain⟨rfl,_,_⟩:=w2;exact w4 j c z2
          .have af:=aN.ES z2
           rw[au f'];have e9:base+j-(base+len*s')=j-con.len:=f';rw[e9];exact⟨vs[j-con.len]'(f'),by simp[v1,af],v3 _ _ (by simp[v1,af]) c z2⟩)
        have br:=bD.rename (id:=id) (d:=d) (h.free (.inr (kt (hd d rfl)))) (by have:=hd d rfl;omega) (eu _ _ _) (λt=>abG _ _ _ _ (tJ σ id t)) (λt=>tJ (σ.kill id) d t);rw[Ju]at br;refine br.put (λt ht=>by cases ht;exact hd d rfl) ⟨_,ao,rfl,hroom,λ_ _=>.inr ⟨b,base,_,e',by rw[eu];exact q1,rfl,setRow_heap w b C _ e' (0,0) q3,?_⟩⟩;rw[bs];simpa using q4
      ·
       have hm:0<m:=f';have a7:0<nw.len:=by rw[g1];exact xF hm g2
       obtain⟨b,o,rfl,ay⟩:=hv a7;obtain⟨vs,v1,v2⟩:=BV (n:=nw.len) (P:=λj v=>w.cell? ⟨b,o+j,Y'⟩=T' v/\∀c,nw.val j=T' c->RI w (XG κ β σ.ae) c v) (λj hj=>by
        obtain⟨c,hc⟩:=aN.zt hj;obtain⟨v,q1,q2⟩:=ay j c hc;exact⟨v,q1,λc' ab=>by rw[hc]at ab;simp only[aC]at ab;subst ab;exact q2⟩)
       have holds:∃os:List Value,os.length=len*s'/\(aw=Y'->len=0/\ao=0)/\(∀b,aw=T' b->∀j v,os[j]?=T' v->w.cell? (b.add j)=T' v)/\
        ∀(j:Nat)(v:Value),os[j]?=T' v->∀c,con.val j=T' c->RI w (XG κ β σ.ae) c v:=by
        rcases k2 with k2|⟨b,base,C,e',q1,rfl,q3,q4⟩
        .have a5:len=0:=f'
         subst a5;exact⟨[],J',λ_=>⟨rfl,k2⟩,λ_ _ j v hj=>by simp at hj,λj v hj=>by simp at hj⟩
        .rcases h.hp id _ hG with h8|⟨b2,bc,C2,e2,w1,w2,w3,w4,w5⟩
         .rw[q1]at h8;cases h8.1
         .rw[q1]at w1
          simp only[aC,db]at w1;obtain⟨rfl,rfl⟩:=w1;obtain⟨os,o1,o2⟩:=BV (n:=con.len) (P:=λj v=>w.cell? ⟨b,base+j,Y'⟩=T' v/\∀c,con.val j=T' c->RI w (XG κ β σ.ae) c v) (λj hj=>by
           obtain⟨c,hc⟩:=aN.zt hj;obtain⟨v,q1,q2⟩:=w4 j c hc;exact⟨v,by rw[cell_of_block w2];exact q1,λc' ab=>by rw[hc]at ab;simp only[aC]at ab;subst ab;exact q2⟩)
          refine⟨os,by rw[o1,g0],λh=>(by cases h),λb' bm j v hj=>?_,λj v hj=>(o2 j v hj).2⟩;simp only[aC]at bm;subst bm;rw[ji];exact(o2 j v hj).1
       obtain⟨os,o1,o2,o3,o4⟩:=holds;obtain⟨bd,r,r1,r2,r3⟩:=QF (P:=P) (w:=w) (ty:=ty) h2 h3 h6 aw len ao os (by rw[o1,h4]) o2 o3
        ⟨b,o,Y'⟩ m cap vs (by rw[v1,g1,h4]) (λj v hj=>by rw[ji];exact(v2 j v hj).1) f' g4 (by rw[h5];exact g3)
       refine⟨_,_,r1,?_⟩;have a4:=(h.wv id).below (sQ w);have hX:∀b,XG κ β (σ.kill id).ae b->XG κ β σ.ae b:=λb hb=>XG.dS (λi c hi=>by
        rw[xT]at hi
        by_cases e:id=i
        .subst e;rw[eu]at hi;cases hi
        .rw[bS _ _ e]at hi;exact⟨c,hi⟩) hb
       have bx:=a4.made d (hd d rfl) (os++vs++r).toArray e con' (by simp[a1,g0,o1,v1]) (λj c hj=>?_) (x:=.slice (T' ⟨w.heap.size,0,Y'⟩) (len+m) bd) (λ_ _ _ hb hw=>RV.yT (s:=s') hb hw r2 (by
        simp only[jn];rw[r3];rw[o1,v1,g1,h7,<-pg,<-pg];exact jD _ f'))
       .obtain⟨bb,bu⟩:=bx
        refine⟨bb,?_⟩;rw[St.fh,St.eQ,LI,St.nz]at bu;exact bu
       .rcases a3 j c hj with⟨z1,z2⟩|⟨z1,z2⟩
        .have af:j<os.length:=f'
         have q9:=o4 j os[j] (by simp[af]) c z2;refine⟨os[j]'(f'),?_,RI.drew hX q9⟩;simp only[zP,dH];rw[iK f'];simp[show j<os.length from f']
        .have af:=aN.ES z2
         have q9:=(v2 (j-con.len) (vs[j-con.len]'(f')) (by simp[v1,af])).2 c z2;refine⟨vs[j-con.len]'(f'),?_,RI.drew hX q9⟩;simp only[zP,dH];rw[jz f',iK f'];have e9:j-os.length=j-con.len:=f';rw[e9];simp[v1,af]
     .exact False.elim hp
    .exact False.elim hp
   .exact False.elim hp
  .exact False.elim hp
 .exact False.elim hp
end
end
def St.settle(σ:St)(id:Nat):St:=
 match lk σ.hp id with
 |some b=>σ.g7 id ⟨a0a,b.con⟩
 |none=>σ
theorem Dt(σ:St)(id:Nat):(σ.settle id).get=σ.get:=by
 unfold St.settle;split<;>rfl
theorem xU(σ:St)(id:Nat):(σ.settle id).ae=Hl.settle σ.ae id:=by
 unfold St.settle Hl.settle;split
 .rename_i b hb
  rw[St.nj]
  funext i
  simp only[aD]
  by_cases e:id=i
  .subst e
   rw[au rfl,au rfl];show _=(lk σ.hp id).map _;rw[hb];rfl
  .rw[aq e,aq (λh=>e h.symm)]
 .rename_i hb
  funext i
  split
  .rename_i e;subst e
   show lk σ.hp i=(lk σ.hp i).map _;rw[hb];rfl
  .rfl
def gU(T:aL)(σ:St)(x:Operand):Prop×St:=
 match x with
 |.tmp t=>match σ.get t with
  |.os id s off len=>match σ.ae id with
   |some ⟨_,.n k xs⟩=>(s=1/\off+len<=xs.length/\T.mu=a0a,(σ.settle id).put (T' t) (.ns k ((xs.drop off).take len)))
   |some ⟨_,.c cs⟩=>(off+len*s<=cs.length/\T.mu=a0a,(σ.settle id).put (T' t) (.sl s len ((cs.drop off).take (len*s))))
   |none=>(False,σ)
  |.ptr id off=>match σ.ae id with
   |some ⟨_,.c cs⟩=>(T.mu=a0a/\off<cs.length,(σ.settle id).put (T' t) (.vp (cs.drop off)))
   |_=>(False,σ)
  |_=>(True,σ)
 |_=>(True,σ)
def dR(T:aL)(σ:St):List Operand->Prop×St
 |[]=>(True,σ)
 |x::xs=>((gU T σ x).1/\(dR T (gU T σ x).2 xs).1,(dR T (gU T σ x).2 xs).2)
section
variable {P:Program}{T:aL}{S:FuncId->Option Sp}{κ:Ctx}{β:Nat->Option (Nat×Nat)}{F:Nat->AV}{G:Nat->Option cq}{a:Act}{w:World}{X:Nat->Prop}
theorem av.Bu(h:av κ β F G a w){t:Nat}{v:AV}(hv:RV κ β G w v (a.tmps.getD t undef)):av κ β (aD F t v) G a w:=by
 refine⟨h.sz,λu=>?_,h.gp,h.hp,h.sep,h.aQ,h.x0,h.bC⟩;simp only[aD];split
 .rename_i e;subst e;exact hv
 .exact h.rel u
theorem av.Io(h:av κ β F G a w)(ao:κ.mu=Y'){id:Nat}{ae:cq}{b base:Nat}(hG:G id=T' ae)(ab:β id=T' (b,base)):¬XG κ β (Hl.settle G id) b:=by
 intro hx;have hb:¬κ.tq b:=by
  rcases h.hp id _ hG with h8|⟨b2,aw,C2,e2,w1,w2,w3,w4,w5⟩
  .rw[ab]at h8;cases h8.1
  .rw[ab]at w1
   simp only[aC,db]at w1;obtain⟨rfl,rfl⟩:=w1;rcases w5 with w5|⟨lo,hi,w5,_⟩
   .exact w5.1
   .rw[ao]at w5;cases w5
 rcases hx with hx|⟨i,c,af,h1,h2⟩
 .exact hb (h.x0 b hx)
 .obtain⟨b',g1,g2,g3⟩:=xb h1
  by_cases e:i=id
  .subst e
   unfold Hl.settle at h1;rw[au rfl,hG]at h1;simp at h1
  .exact h.sep i id b af b' ae e g1 hG h2 base ab
theorem AJ(ab:T.mu=a0a->κ.mu=Y'){σ:St}(h:av κ β σ.get σ.ae a w){x:Operand}(hp:(gU T σ x).1):
 av κ β (gU T σ x).2.get (gU T σ x).2.ae a w:=by
 unfold gU at*;split at hp
 .rename_i t
  have ht:=h.rel t;split at hp
  .rename_i id s off len hv
   rw[hv]at ht;obtain⟨ad,cap,e1,e2,e3⟩:=ht;split at hp
   .rename_i wr k xs hG
    obtain⟨rfl,g2,g3⟩:=hp;have ab:=ab g3;simp only;rw[St.fh,St.eQ,Dt,xU];refine(h.settle id).Bu ?_;rw[e1];have hlen:((xs.drop off).take len).length=len:=O';have ay:∀q,q=(xs.drop off).take len->RI w (XG κ β (Hl.settle σ.ae id)) (.ns k q) (.slice ad len cap):=by
     intro q hq;have oe:q.length=len:=by rw[hq];exact hlen
     rw[<-oe];rcases e3 _ hG with e4|⟨b,base,C,e',q1,q2,q3,q4⟩
     .exact RI.ns k q ad 0 0 cap f' (λh=>f') (λi x hx=>by
       have:q=[]:=lY f';subst this;simp at hx)
     .refine RI.ns k q ad b (base+off) cap f' (λ_=>⟨q2,h.Io ab hG q1⟩) (λi x hx=>?_)
      rw[hq,ic]at hx;split at hx
      .rw[j5]at hx
       rcases h.hp id _ hG with h8|⟨b2,ao,C2,e2,w1,w2,w3,w4,w5⟩
       .rw[q1]at h8;cases h8.1
       .rw[q1]at w1
        simp only[aC,db]at w1;obtain⟨rfl,rfl⟩:=w1;obtain⟨v,a0,a1⟩:=w4 (off+i) (.r (.int k x)) (by simp[aN.val,hx]);rw[cell_of_block w2,ie,a0,RI.aS a1]
      .cases hx
    exact ay _ rfl
   .rename_i wr cs hG
    obtain⟨g2,g3⟩:=hp;have ab:=ab g3;simp only;rw[St.fh,St.eQ,Dt,xU];refine(h.settle id).Bu ?_;rw[e1];have hlen:((cs.drop off).take (len*s)).length=len*s:=O';rcases e3 _ hG with e4|⟨b,base,C,e',q1,q2,q3,q4⟩
    .have ax:len=0:=f'
     subst ax;exact RI.sl s 0 _ ad 0 0 cap (λ_=>undef) f' J' (λh=>by simp at h) (λj c hj=>by simp at hj) (λj c hj=>by simp at hj)
    .rcases h.hp id _ hG with h8|⟨b2,ao,C2,aw,w1,w2,w3,w4,w5⟩
     .rw[q1]at h8;cases h8.1
     .rw[q1]at w1
      simp only[aC,db]at w1;obtain⟨rfl,rfl⟩:=w1;have hex:∀j:Nat,∃v:Value,∀c:AV,((cs.drop off).take (len*s))[j]?=T' c->w.cell? ⟨b,base+off+j,Y'⟩=T' v/\RI w (XG κ β (Hl.settle σ.ae id)) c v:=by
       intro j;cases hj:((cs.drop off).take (len*s))[j]? with
       |none=>exact⟨undef,λc hc=>by cases hc⟩
       |some c=>
        rw[ic]at hj;split at hj
        .rw[j5]at hj
         obtain⟨v,v1,v2⟩:=w4 (off+j) c hj;refine⟨v,λc' af=>?_⟩;simp only[aC]at af;subst af;exact⟨by rw[cell_of_block w2,ie];exact v1,v2.cW (dZ.refl _ _) (λ_ _ hx=>hx.settle)⟩
        .cases hj
      obtain⟨f,hf⟩:=vo hex;exact RI.sl s len _ ad b (base+off) cap f e2 hlen (λ_=>⟨q2,h.Io ab hG q1⟩) (λj c hj=>(hf j c hj).1) (λj c hj=>(hf j c hj).2)
   .exact False.elim hp
  .rename_i id off hv
   rw[hv]at ht;split at hp
   .rename_i wr cs hG
    obtain⟨g3,g2⟩:=hp;have ab:=ab g3;simp only;rw[St.fh,St.eQ,Dt,xU];refine(h.settle id).Bu ?_;obtain⟨b,base,q1,q2⟩:=ht _ hG;rw[q2];rcases h.hp id _ hG with h8|⟨b2,ao,C2,aw,w1,w2,w3,w4,w5⟩
    .rw[q1]at h8;cases h8.1
    .rw[q1]at w1
     simp only[aC,db]at w1;obtain⟨rfl,rfl⟩:=w1;have hex:∀j:Nat,∃v:Value,∀c:AV,(cs.drop off)[j]?=T' c->w.cell? ⟨b,base+off+j,Y'⟩=T' v/\RI w (XG κ β (Hl.settle σ.ae id)) c v:=by
      intro j;cases hj:(cs.drop off)[j]? with
      |none=>exact⟨undef,λc hc=>by cases hc⟩
      |some c=>
       rw[j5]at hj;obtain⟨v,v1,v2⟩:=w4 (off+j) c hj;refine⟨v,λc' af=>?_⟩;simp only[aC]at af;subst af;exact⟨by rw[cell_of_block w2,ie];exact v1,v2.cW (dZ.refl _ _) (λ_ _ hx=>hx.settle)⟩
     obtain⟨f,hf⟩:=vo hex;exact RI.vp _ b (base+off) f (λ_=>h.Io ab hG q1) (λj c hj=>(hf j c hj).1) (λj c hj=>(hf j c hj).2)
   .exact False.elim hp
  .exact h
 .exact h
theorem yt(ab:T.mu=a0a->κ.mu=Y'):∀(xs:List Operand){σ:St},av κ β σ.get σ.ae a w->(dR T σ xs).1->
 av κ β (dR T σ xs).2.get (dR T σ xs).2.ae a w
 |[],_,h,_=>h
 |_::xs,_,h,hp=>yt ab xs (AJ ab h hp.1) hp.2
end
section
variable {g:FuncId}{d:Option Nat}{σ:St}
def uD(σ:St)(d:Option Nat)(r:AV):Prop×St:=
 match d,r with
 |some d,.ns k xs=>(True,((σ.kill d).g7 d ⟨Z',.n k xs⟩).put (T' d) (.os d 1 0 xs.length))
 |_,_=>(False,σ)
def lO(xs ys:List Int)(off len:Nat):List Int:=xs.take off++ys++xs.drop (off+len)
def yO(S:FuncId->Option Sp)(σ:St)(d:Option Nat)(g:FuncId)(x0:AV)(rest:List AV):Prop×St:=
 match x0,S g with
 |.os id 1 off len,T' sp=>match σ.ae id with
  |some ⟨Z',.n k xs⟩=>match sp.res (.ns k ((xs.drop off).take len)::rest)with
   |.aU [r0,.ns _ ys]=>(rest.all AV.im=Z'/\r0.im=Z'/\sp.kind=2/\off+len<=xs.length/\0<len/\sp.pre (.ns k ((xs.drop off).take len)::rest),
    (σ.g7 id ⟨Z',.n k (lO xs ys off len)⟩).put d r0)
   |_=>(False,σ)
  |_=>(False,σ)
 |_,_=>(False,σ)
def vP(T:aL)(σ:St)(d:Option Nat)(t:TypeId)(x s:AV):Prop×St:=
 match x,s with
 |.os id 1 off len,.ns k ys=>match σ.ae id with
  |some ⟨Z',.n k' xs⟩=>(k=k'/\off+len<=xs.length/\(∃e b,T.sl t=T' (e,1,b)),
   (σ.g7 id ⟨Z',.n k' (lO xs (ys.take len) off (min len ys.length))⟩).put d (.r (.int .i64 (min len ys.length:Nat))))
  |_=>(False,σ)
 |_,_=>(False,σ)
def DJ(S:FuncId->Option Sp):AV->Nat
 |.fn g _=>match S g with|some sp=>sp.kind|none=>0
 |_=>0
def dO(T:aL)(S:FuncId->Option Sp)(o:Oper)(σ:St):Prop×St:=
 match o.op with
 |.alloc t=>vK T σ o.dst t
 |.box _ v=>((gU T σ v).1/\(sK (gU T σ v).2 o.dst (ev (gU T σ v).2.get v)).1,(sK (gU T σ v).2 o.dst (ev (gU T σ v).2.get v)).2)
 |.buildSlice t n ps=>vO T σ o.dst t n ps.toList
 |.makeSlice t l c=>wH T σ o.dst t (ev σ.get l) (ev σ.get c)
 |.store t p v=>((gU T σ v).1/\(oN T (gU T σ v).2 t (ev (gU T σ v).2.get p) (ev (gU T σ v).2.get v)).1,
  (oN T (gU T σ v).2 t (ev (gU T σ v).2.get p) (ev (gU T σ v).2.get v)).2.put o.dst .any)
 |.build _ ps=>((dR T σ (ps.toList.map (·.2))).1/\(qv T S (dR T σ (ps.toList.map (·.2))).2.get (dR T σ (ps.toList.map (·.2))).2.ae o).1,
  (dR T σ (ps.toList.map (·.2))).2.put o.dst (qv T S (dR T σ (ps.toList.map (·.2))).2.get (dR T σ (ps.toList.map (·.2))).2.ae o).2)
 |.call c=>match c.callee with
  |.builtin .append=>match c.args.toList,c.argTypes.toList with
   |[s,x],[t,t']=>(t=t'/\(uk T σ o.dst t (ev σ.get s) (ev σ.get x)).1,(uk T σ o.dst t (ev σ.get s) (ev σ.get x)).2)
   |_,_=>(False,σ)
  |.builtin .copy=>match c.args.toList,c.argTypes.toList with
   |[x,s],[t,t']=>vP T σ o.dst t (ev σ.get x) (ev σ.get s)
   |_,_=>(False,σ)
  |.value f=>match DJ S (ev σ.get f)with
   |0=>((dR T σ c.args.toList).1/\(qv T S (dR T σ c.args.toList).2.get (dR T σ c.args.toList).2.ae o).1,
    (dR T σ c.args.toList).2.put o.dst (qv T S (dR T σ c.args.toList).2.get (dR T σ c.args.toList).2.ae o).2)
   |1=>match ev σ.get f with
    |.fn g []=>match S g with
     |some sp=>((dR T σ c.args.toList).1/\(cS T (dR T σ c.args.toList).2.get c.args.toList c.argTypes.toList).all AV.im=Z'/\
      sp.kind=1/\sp.pre (cS T (dR T σ c.args.toList).2.get c.args.toList c.argTypes.toList)/\
      (uD (dR T σ c.args.toList).2 o.dst (sp.res (cS T (dR T σ c.args.toList).2.get c.args.toList c.argTypes.toList))).1,
      (uD (dR T σ c.args.toList).2 o.dst (sp.res (cS T (dR T σ c.args.toList).2.get c.args.toList c.argTypes.toList))).2)
     |none=>(False,σ)
    |_=>(False,σ)
   |2=>match ev σ.get f,c.args.toList,c.argTypes.toList with
    |.fn g [],x0::xs,_::ts=>((dR T σ xs).1/\(yO S (dR T σ xs).2 o.dst g (ev (dR T σ xs).2.get x0) (cS T (dR T σ xs).2.get xs ts)).1,
     (yO S (dR T σ xs).2 o.dst g (ev (dR T σ xs).2.get x0) (cS T (dR T σ xs).2.get xs ts)).2)
    |_,_,_=>(False,σ)
   |_=>(False,σ)
  |_=>((qv T S σ.get σ.ae o).1,σ.put o.dst (qv T S σ.get σ.ae o).2)
 |_=>((qv T S σ.get σ.ae o).1,σ.put o.dst (qv T S σ.get σ.ae o).2)
section
variable {P:Program}{T:aL}{S:FuncId->Option Sp}{κ:Ctx}{β:Nat->Option (Nat×Nat)}{F:Nat->AV}{G:Nat->Option cq}{a:Act}{w:World}{X:Nat->Prop}
def ER(P:Program)(κ:Ctx)(σ:St)(a:Act)(d:Option Nat):Result Next->Prop
 |.ok (.value x) w'=>∃ab,av κ ab σ.get σ.ae (a.put d x) w'
 |.ok .skip w'=>∃ab,av κ ab σ.get σ.ae (a.put d undef) w'
 |.ok (.enter f vs) w'=>Calls P f vs w' λe af=>∃v,e=.returned v/\∃ab,av κ ab σ.get σ.ae (a.put d v) af
 |_=>False
theorem yq{s:Sem Value}(h:∃x w',s.run P w=.ok x w'/\∃ab,av κ ab σ.get σ.ae (a.put d x) w'):
 ER P κ σ a d (((do pure (.value (<-s))):Sem Next).run P w):=by
 obtain⟨x,w',h1,h2⟩:=h;simp only[cC,h1,cz,cJ];exact h2
theorem Br(hT:cU P T)(hS:bh P S)(h:av κ β σ.get σ.ae a w)(o:Oper)(hd:∀t,o.dst=T' t->t<κ.nt)(hp:(qv T S σ.get σ.ae o).1):
 ER P κ (σ.put o.dst (qv T S σ.get σ.ae o).2) a o.dst ((execOp a.eval o).run P w):=by
 have hq:=Qk hT hS h o hp;generalize(execOp a.eval o).run P w=r at*;generalize(qv T S σ.get σ.ae o).2=v at*;cases r with
 |halt _ _=>exact False.elim hq
 |ok n w'=>
  cases n<;>try(exact False.elim hq)
  case value x=>
   obtain⟨rfl,hv⟩:=hq;refine⟨β,?_⟩;rw[St.fh,St.eQ];exact h.put hd hv
  case enter f vs=>
   obtain⟨rfl,hc⟩:=hq;refine hc.mono λe w''⟨u,he,hr,hb⟩=>⟨u,he,β,?_⟩
   rw[St.fh,St.eQ];refine(h.below hb).put hd ?_;cases v with
   |os=>cases hr
   |ptr=>cases hr
   |_=>exact hr
theorem yd(o:Oper){f:Operand}{args:Array Operand}{ts:Array TypeId}(hop:o.op=.call ⟨.value f,args,ts⟩)(hf:a.eval f=.func (.func g) #[] #[])(w:World):
 (execOp a.eval o).run P w=(callFunc g (args.map a.eval)).run P w:=by
 simp[execOp,hop,resolve,hf,Deferred.ofValue,invoke]
theorem Lf(T:aL)(F:Nat->AV):∀(xs:List Operand)(ts:List TypeId),(cS T F xs ts).length=xs.length:=by
 intro xs
 induction xs with
 |nil=>intro ts;cases ts<;>rfl
 |cons x xs ih=>intro ts;cases ts<;>simp[cS,ih]
theorem RI.Nn{x:Value}(h:RI w X (.fn g []) x):x=.func (.func g) #[] #[]:=by
 cases h with
 |fn _ _ vs f hl _ _=>
  have:vs=#[]:=by simpa using hl
  rw[this]
theorem VD(hT:cU P T)(h:av κ β σ.get σ.ae a w)(hd:∀t,d=T' t->t<κ.nt){t t' ty:TypeId}{x s:AV}{xu su:Value}(hx:RV κ β σ.ae w x xu)(hs:RV κ β σ.ae w s su)(hp:(vP T σ d t x s).1):
 ∃v w',(Builtin.copy_ #[t,t'] ty #[xu,su]).run P w=.ok v w'/\∃a5,av κ a5 (vP T σ d t x s).2.get (vP T σ d t x s).2.ae (a.put d v) w':=by
 unfold vP at*;split at hp
 .rename_i id off len k ys
  split at hp
  .rename_i k' xs hG
   obtain⟨rfl,p1,e,by_,p2⟩:=hp;simp only;obtain⟨q1,i,q2,q3,_⟩:=hT.sl _ _ _ _ p2;have ao:(P.info? e).map (·.size)=T' 1:=by rw[q2];simp[q3]
   obtain⟨ad,cap,a4,c1,c2⟩:=hx;generalize hsu:su=su' at hs;cases hs with
   |ns _ _ ad2 b2 o2 cap2 hc2 ha2 hcell2=>
    subst a4;subst hsu
    by_cases hm:min len ys.length=0
    .refine⟨_,w,run_copy_none w t t' ty e ad ad2 len cap ys.length cap2 q1 ao (by rw[Ky]at hm;exact hm),β,?_⟩
     have ay:lO xs (ys.take len) off (min len ys.length)=xs:=by
      have:ys.take len=[]:=by
       refine lY ?_;rw[fT];exact hm
      rw[hm,this];simp[lO]
     rw[ay,hm,St.fh,St.eQ,St.nz,St.nj];have a1:aD σ.ae id (T' ⟨Z',.n k xs⟩)=σ.ae:=by
      funext j
      simp only[aD];split
      .rename_i e;subst e;exact hG.symm
      .rfl
     rw[a1];exact h.put hd (RI.r _)
    .rcases c2 _ hG with c2|⟨b,base,C,e',d1,rfl,d3,d4⟩
     .omega
     obtain⟨rfl,a7⟩:=ha2 f';rcases h.hp id _ hG with h8|⟨b3,a6,C3,e3,w1,w2,w3,w4,w5⟩
     .rw[d1]at h8;cases h8.1
     rw[d1]at w1;simp only[aC,db]at w1;obtain⟨rfl,rfl⟩:=w1;rw[d3]at w2;simp only[aC,ma]at w2;obtain⟨rfl,rfl,_⟩:=w2;simp only[aN.len]at w3;have hlen:((ys.take len).map (Value.int k)).length=min len ys.length:=J';have af:=run_copy_row (P:=P) w t t' ty e b (base+off) len cap ⟨b2,o2,Y'⟩ ys.length cap2 C e' ((ys.take len).map (Value.int k)) q1 ao d3 (by rw[hlen];exact Ky ..)
      (λj v hv=>by
       simp only[gv,kR]at hv;obtain⟨z,hz,rfl⟩:=hv;rw[ic]at hz;split at hz
       .have:=hcell2 j z hz
        have ax:(⟨b2,o2,Y'⟩:Addr).add j=⟨b2,o2+j,Y'⟩:=by unfold Addr.add;split<;>simp_all
        rw[ax];exact this
       .cases hz) (by rw[hlen];omega) (λv hv=>by
       simp only[mX]at hv;obtain⟨z,_,rfl⟩:=hv
       rfl)
     rw[hlen]at af;refine⟨_,_,af,β,?_⟩;have aw:((C.toList.take (base+off)++(ys.take len).map (Value.int k)++C.toList.drop (base+off+min len ys.length)).toArray).size=C.size:=by
      simp;omega
     have ab:∀j,((C.toList.take (base+off)++(ys.take len).map (Value.int k)++C.toList.drop (base+off+min len ys.length)).toArray)[j]?=
      if base+off<=j/\j<base+off+min len ys.length then((ys.take len).map (Value.int k))[j-(base+off)]? else C[j]?:=by
      intro j;rw[zP]
      by_cases j1:j<base+off
      .rw[aq f',dH,iK O',ic,au j1,zE]
      .by_cases j2:j<base+off+min len ys.length
       .rw[au ⟨f',j2⟩,iK O',jz O']
        congr 1
        simp;omega
       .rw[aq f',jz O',j5,zE]
        congr 1
        simp;omega
     have a3:vG w (w.setRow b (C.toList.take (base+off)++(ys.take len).map (Value.int k)++C.toList.drop (base+off+min len ys.length)).toArray) b (base+off) (base+off+min len ys.length):=
      QP d3 aw (λj hj=>by rw[ab,aq hj])
     have a0:(lO xs (ys.take len) off (min len ys.length)).length=xs.length:=by simp[lO];omega
     rw[St.fh,St.eQ,St.nz,St.nj];refine(h.own (con':=.n k (lO xs (ys.take len) off (min len ys.length))) hG d1 a3 f' (by simp only[aN.len];omega) ⟨by simp only[aN.len];omega,.inl (by simp only[aN.len];exact a0)⟩
      (λC'⟨e'',hC'⟩j c hj=>?_)).put hd (RI.r _)
     simp only[aN.val,kR]at hj;obtain⟨z,hz,rfl⟩:=hj;refine⟨.int k z,?_,RI.r _⟩;rw[setRow_heap w b C _ e' (0,0) d3]at hC';simp only[aC,ma]at hC';obtain⟨rfl,_,_⟩:=hC';rw[ab];have hold:∀i y,xs[i]?=T' y->C[base+i]?=T' (.int k y):=by
      intro i y hy;obtain⟨v,v1,v2⟩:=w4 i (.r (.int k y)) (by simp[aN.val,hy]);rw[v1,RI.aS v2]
     unfold lO at hz
     by_cases j1:j<off
     .rw[aq f']
      rw[dH,iK O',ic,au j1]at hz;exact hold j z hz
     .by_cases j2:j<off+min len ys.length
      .rw[au ⟨f',f'⟩]
       rw[iK O',jz O']at hz;have e9:j-(xs.take off).length=base+j-(base+off):=O';rw[e9]at hz;rw[gv,hz];rfl
      .rw[aq f']
       rw[jz O',j5]at hz;have e9:off+min len ys.length+(j-(xs.take off++ys.take len).length)=j:=O';rw[e9]at hz;exact hold j z hz
  .exact False.elim hp
 .exact False.elim hp
theorem afl(hT:cU P T)(hS:bh P S)(hmu:T.mu=a0a->κ.mu=Y')(h:av κ β σ.get σ.ae a w)(o:Oper)(hd:∀t,o.dst=T' t->t<κ.nt)(hp:(dO T S o σ).1):ER P κ (dO T S o σ).2 a o.dst ((execOp a.eval o).run P w):=by
 unfold dO at*;cases hop:o.op<;>simp only[hop]at hp|-<;>try(exact Br hT hS h o hd hp)
 case alloc t=>
  simp only[execOp,hop];exact yq (TM hT h hd hp)
 case box t v=>
  have h1:=AJ hmu h hp.1;simp only[execOp,hop];exact yq (UL h1 hd (h1.ev v) hp.2)
 case buildSlice t n ps=>
  simp only[execOp,hop];have:=UR hT h hd hp;have e:(ps.map λx=>(x.1,a.eval x.2))=(ps.toList.map λp=>(p.1,a.eval p.2)).toArray:=by
   apply mU;simp
  refine yq ?_;rw[e];exact this
 case makeSlice t l c=>
  simp only[execOp,hop];exact yq (aab hT h hd (h.ev l) (h.ev c) hp)
 case store t p v=>
  have h1:=AJ hmu h hp.1;obtain⟨w',h2,h3⟩:=afx hT h1 (h1.ev p) (h1.ev v) hp.2;simp only[execOp,hop,cC,h2,cz,cJ];refine⟨β,?_⟩;rw[St.fh,St.eQ];exact h3.put hd (RI.any _)
 case build t ps=>
  exact Br hT hS (yt hmu _ h hp.1) o hd hp.2
 case call c=>
  obtain⟨callee,args,ts⟩:=c;cases callee with
  |invoke r m=>exact Br hT hS h o hd hp
  |builtin b=>
   cases b<;>try(exact Br hT hS h o hd hp)
   case copy=>
    simp only at hp|-;split at hp
    .rename_i x s t t' e1 e2
     have e1':args=#[x,s]:=by apply mU;simpa using e1
     have e2':ts=#[t,t']:=by apply mU;simpa using e2
     subst e1';subst e2';have:=VD (t':=t') (ty:=o.type) hT h hd (h.ev x) (h.ev s) hp;simp only[execOp,hop,resolve,cC,cJ,cz,invoke,builtin];simpa using yq this
    .exact False.elim hp
   simp only at hp|-;split at hp
   .rename_i s x t t' e1 e2
    obtain⟨rfl,hp⟩:=hp;have e1':args=#[s,x]:=by apply mU;simpa using e1
    have e2':ts=#[t,t]:=by apply mU;simpa using e2
    subst e1';subst e2';have:=T4 (ty:=o.type) hT h hmu hd (h.ev s) (h.ev x) hp;simp only[execOp,hop,resolve,cC,cJ,cz,invoke,builtin];simpa using yq this
   .exact False.elim hp
  |value f=>
   simp only at hp|-;split at hp
   .exact Br hT hS (yt hmu _ h hp.1) o hd hp.2
   .split at hp
    .rename_i g hg
     split at hp
     .rename_i sp hsp
      obtain⟨p1,p2,p3,p4,p5⟩:=hp;simp only;have h1:=yt hmu _ h p1;have hf:=h.ev f;rw[hg]at hf;rw[yd o hop hf.Nn];obtain⟨k,xs,hr,hF⟩:=(hS g sp hsp _ p4).2.1 p3;obtain⟨q1,q2⟩:=um (T:=T) h1 args.toList ts.toList p2;obtain⟨r1,r2⟩:=hF w (XG κ β (dR T σ args.toList).2.ae) (args.map a.eval) (λb hb=>h1.qV hb) (by simp[Lf]) (λj c hj=>by
       obtain⟨v,v1,v2⟩:=q2 j c hj;exact⟨v,by simpa using v1,v2⟩)
      rw[r1];rw[hr]at p5|-;unfold uD at*;split at p5
      .rename_i d k' xs' hdd hx
       simp only[AV.ns.injEq]at hx;obtain⟨rfl,rfl⟩:=hx;simp only;refine r2.mono λe w''⟨v,he,hb,hv⟩=>⟨v,he,?_⟩
       have h2:=h1.wv d;rcases hv with⟨nb,ob,cap,C,e',rfl,c1,c2,c3,c4,c5⟩|⟨rfl,ad,rfl⟩
       .have h3:=h2.KT (id:=d) (nb:=nb) (o:=ob) (h2.free (.inr (kt (hd d hdd)))) (KC (hd d hdd)) (tJ _ d) hb c3 C e' (.n k xs) (by simp only[aN.len];omega) c4 (λj c hj=>by
         simp only[aN.val,kR]at hj;obtain⟨x,hx,rfl⟩:=hj;exact⟨_,c5 j x hx,RI.r _⟩)
        refine⟨aD β d (T' (nb,ob)),?_⟩;rw[St.fh,St.eQ,St.nz,St.nj,hdd];refine h3.put (v:=.os d 1 0 xs.length) (d:=T' d) (λt ht=>hd t (by rw[hdd];exact ht)) ⟨_,cap,rfl,c1,λ_ _=>.inr ⟨nb,ob,C,e',eu _ _ _,rfl,c4,by simpa using c2⟩⟩
       .have h3:=(h2.below hb).bare (id:=d) (h2.free (.inr (kt (hd d hdd)))) (tJ _ d) (con:=.n k []) rfl
        refine⟨aD β d Y',?_⟩;rw[St.fh,St.eQ,St.nz,St.nj,hdd];exact h3.put (v:=.os d 1 0 0) (d:=T' d) (λt ht=>hd t (by rw[hdd];exact ht)) ⟨ad,0,rfl,aM _,λ_ _=>.inl rfl⟩
      .exact False.elim p5
     .exact False.elim hp
    .exact False.elim hp
   .split at hp
    .rename_i g x0 xs t0 ts' hg e1 e2
     have e1':args.toList=x0::xs:=e1;have e2':ts.toList=t0::ts':=e2;obtain⟨p1,hp⟩:=hp;simp only;have h1:=yt hmu _ h p1;have hf:=h.ev f;rw[hg]at hf;rw[yd o hop hf.Nn];generalize hσ:(dR T σ xs).2=σ1 at*;unfold yO at*;split at hp
     .rename_i id off len sp hx0 hsp
      split at hp
      .rename_i k ys hG
       split at hp
       .rename_i r0 k' zs hres
        obtain⟨m1,m2,m3,m4,m5,m6⟩:=hp;simp only;obtain⟨k2,xs2,rest2,r2,ys2,a1,a2,a3,hM⟩:=(hS g sp hsp _ m6).2.2 m3;simp only[zL,AV.ns.injEq]at a1;obtain⟨⟨rfl,rfl⟩,rfl⟩:=a1;rw[hres]at a2;simp only[AV.aU.injEq,zL,AV.ns.injEq,and_true]at a2;obtain⟨rfl,rfl,rfl⟩:=a2;have hxl:((ys.drop off).take len).length=len:=O';rw[hxl]at a3 hM;have hx:=h1.ev x0;rw[hx0]at hx;obtain⟨ad,cap,hv,c1,c2⟩:=hx;rcases c2 _ hG with c2|⟨b,base,C,e',d1,rfl,d3,d4⟩
        .omega
        .obtain⟨q1,q2⟩:=um (T:=T) h1 xs ts' m1
         have hargs:args.map a.eval=(a.eval x0::xs.map a.eval).toArray:=by
          apply mU;simp[e1']
         have hcells:∀(j:Nat)(x:Int),((ys.drop off).take len)[j]?=T' x->C[base+off+j]?=T' (.int k' x):=by
          intro j x hx;rw[ic]at hx;split at hx
          .rw[j5]at hx
           rcases h1.hp id _ hG with h8|⟨b2,base2,C2,e2',w1,w2,w3,w4,w5⟩
           .rw[d1]at h8;cases h8.1
           .rw[d1]at w1
            simp only[aC,db]at w1;obtain⟨rfl,rfl⟩:=w1;rw[d3]at w2;simp only[aC,ma]at w2;obtain⟨rfl,_,_⟩:=w2;obtain⟨v,v1,v2⟩:=w4 (off+j) (.r (.int k' x)) (by simp[aN.val,hx]);rw[ie,v1,RI.aS v2]
          .cases hx
         obtain⟨r1,r2⟩:=hM w (XG κ β σ1.ae) (args.map a.eval) b (base+off) cap C e' (λb hb=>h1.qV hb) (.inr ⟨id,_,base,hG,d1⟩)
          (by rw[hargs];simp[Lf]) (by rw[hargs];simp[hv]) c1 d3 (by simpa using d4) hcells (λj c hj=>by
           obtain⟨v,v1,v2⟩:=q2 j c hj;exact⟨v,by rw[hargs];simpa using v1,v2⟩)
         rw[r1];refine r2.mono λe w''⟨v,he,hr,hwr,hcc⟩=>⟨v,he,β,?_⟩
         rw[St.fh,St.eQ,St.nz,St.nj];have hsl:(lO ys zs off len).length=ys.length:=by simp[lO];omega
         have hown:=h1.own (con':=.n k' (lO ys zs off len)) hG d1 hwr f' (by simp only[aN.len];omega) ⟨by simp only[aN.len];omega,.inl (by simp only[aN.len];exact hsl)⟩
          (λC' hC' j c hj=>by
           simp only[aN.val,kR]at hj;obtain⟨x,hx,rfl⟩:=hj;refine⟨.int k' x,?_,RI.r _⟩;obtain⟨e'',hC'⟩:=hC';obtain⟨C2,g1,g2,g3⟩:=hwr.row C e' d3;rw[hC']at g1;simp only[aC,ma]at g1;obtain⟨rfl,_,_⟩:=g1;have hold:∀i y,ys[i]?=T' y->C[base+i]?=T' (.int k' y):=by
            intro i y hy;rcases h1.hp id _ hG with h8|⟨b2,base2,C2,e2',w1,w2,w3,w4,w5⟩
            .rw[d1]at h8;cases h8.1
            .rw[d1]at w1
             simp only[aC,db]at w1;obtain⟨rfl,rfl⟩:=w1;rw[d3]at w2;simp only[aC,ma]at w2;obtain⟨rfl,_,_⟩:=w2;obtain⟨v,v1,v2⟩:=w4 i (.r (.int k' y)) (by simp[aN.val,hy]);rw[v1,RI.aS v2]
           unfold lO at hx
           by_cases hlt:j<off
           .rw[g3 _ f']
            rw[dH,iK O',ic,au hlt]at hx;exact hold j x hx
           .by_cases hlt2:j<off+len
            .rw[iK O',jz O']at hx
             have e9:j-(ys.take off).length=j-off:=O';rw[e9]at hx;have:=hcc C' ⟨e'',hC'⟩ (j-off) x hx;rw[<-this]
             congr 1;omega
            .rw[g3 _ f']
             rw[jz O',j5]at hx;have e9:off+len+(j-(ys.take off++zs).length)=j:=O';rw[e9]at hx;exact hold j x hx)
         refine hown.put hd ?_;refine RV.of m2 (hr.cW (dZ.refl _ _) (λk _ hk=>?_));refine XG.dS (λi c hi=>?_) hk
         by_cases e:id=i
         .subst e;exact⟨_,hG⟩
         .rw[bS _ _ e]at hi;exact⟨c,hi⟩
       .exact False.elim hp
      .exact False.elim hp
     .exact False.elim hp
    .exact False.elim hp
   .exact False.elim hp
end
end
end Go.Hl
