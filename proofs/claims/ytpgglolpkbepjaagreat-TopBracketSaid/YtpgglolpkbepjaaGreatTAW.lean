/- Lemmas for TopSound and TopBracket. -/
import Derived.Lib.Walk
import Derived.Deep.RegionHeld3
import Derived.Deep.MidRow
import Derived.Maps.AppendAt
import Derived.Great.BuildSlice
import Derived.Carry
import Derived.Test.YtpgglolpkbepjaaGreatProg
import Derived.Test.YtpgglolpkbepjaaGreatTAA
set_option linter.unusedVariables false
set_option linter.unusedSimpArgs false
namespace Go.Hl
open Go.Proofs.Tryz
open Go.Proofs.Tryz renaming prog→a0c
open Option renaming some→T',none→Y'
open Bool renaming true→Z',false→a0a
open Go Go.RowKit Go.Proofs
set_option maxHeartbeats 1600000
set_option maxRecDepth 100000
section
variable {es:Array MapEntry}{cells:Array Value}{i:Int}{F:List (Int×List Int)}{clock e k m:Nat}{x y:Operand}{t:TypeId}
def Zb:List Int:=List.replicate 512 0
def cM(s:List Int):List Value:=s.map (.int .u8)
def tL(s:List Int):Value:=.agg (cM s).toArray
def wC(p:Int×List Int):List Value:=.int .i64 p.1::cM p.2
theorem mr(s:List Int):(cM s).length=s.length:=by simp[cM]
theorem rX(p:Int×List Int):(wC p).length=p.2.length+1:=by simp[wC,cM]
theorem zc(s:List Int):∀v∈cM s,v.oneCell'=true:=by
 intro v hv;obtain⟨x,_,rfl⟩:=mX.1 hv
 rfl
theorem EU(p:Int×List Int):∀v∈wC p,v.oneCell'=true:=by
 intro v hv;rcases Cs.1 hv with rfl|hv
 .rfl
 .exact zc _ v hv
def jd:List (Int×List Int)->Int->List Int
 |[],_=>Zb
 |p::r,i=>if i=p.1 then p.2 else jd r i
def oJ:List (Int×List Int)->Int->List Int->List (Int×List Int)
 |[],i,s=>[(i,s)]
 |p::r,i,s=>if i=p.1 then(i,s)::r else p::oJ r i s
theorem OH(i:Int)(s:List Int)(k:Int):∀F,jd (oJ F i s) k=if k=i then s else jd F k
 |[]=>by simp[oJ,jd]
 |p::r=>by
  unfold oJ
  by_cases h:i=p.1
  .rw[au h]
   unfold jd
   by_cases hk:k=i
   .simp[hk]
   .rw[aq hk,aq hk,aq (by rw[<-h];exact hk)]
  .rw[aq h]
   unfold jd;rw[OH i s k r]
   by_cases hk:k=i
   .simp[hk,h]
   .simp[hk]
def pM(L:List (Int×List Int))(G:Int->List Int):Int->List Int:=L.foldl (λG p k=>if k=p.1 then p.2 else G k) G
theorem yK(L:List (Int×List Int))(p:Int×List Int)(G:Int->List Int)(k:Int):pM (L++[p]) G k=if k=p.1 then p.2 else pM L G k:=by simp[pM]
def kX(es:List MapEntry)(F:List (Int×List Int)):Prop:=es.map (λe=>(e.key,e.val))=F.map (λp=>(.int .i64 p.1,tL p.2))
variable {P:Program}{w:World}
theorem Hi(i:Int):∀(es:List MapEntry)(F:List (Int×List Int))(n:Nat),kX es F->
 (∃j e,Instr.findNow (.int .i64) (.int .i64 i) es n=T' (T' (n+j,tL (jd F i)))/\es[j]?=T' e/\e.key=.int .i64 i/\(∀s(f:MapEntry->MapEntry),(∀x,x.key=.int .i64 i->(f x).key=.int .i64 i/\(f x).val=tL s)->kX (es.modify j f) (oJ F i s)))\/
 (Instr.findNow (.int .i64) (.int .i64 i) es n=T' Y'/\jd F i=Zb/\∀s(e:MapEntry),e.key=.int .i64 i->e.val=tL s->kX (es++[e]) (oJ F i s))
 |[],F,n,h=>by
  obtain rfl:F=[]:=by cases F<;>simp[kX]at h|-
  exact .inr ⟨rfl,rfl,λs e h1 h2=>by simp[kX,oJ,h1,h2]⟩
 |e::es,F,n,h=>by
  cases F with
  |nil=>simp[kX]at h
  |cons p F=>
   simp only[kX,fX,zL,db]at h;obtain⟨⟨hk,hv⟩,hr⟩:=h
   by_cases hi:i=p.1
   .refine .inl ⟨0,e,?_,rfl,by rw[hk,hi],λs f hf=>?_⟩
    .simp only[Instr.findNow,hk,Instr.sameNow,hi,jd,if_true,hv]
     simp
    .have:=hf e (by rw[hk,hi])
     simp only[kX,List.modify_zero_cons,fX,oJ,hi,if_true,this.1,this.2,hr]
   .have hs:Instr.sameNow (.int .i64) (.int .i64 i) e.key=T' false:=by rw[hk];simp[Instr.sameNow,hi]
    rcases Hi i es F (n+1) hr with⟨j,e',h1,h2,h3,h4⟩|⟨h1,h2,h3⟩
    .refine .inl ⟨j+1,e',?_,h2,h3,λs f hf=>?_⟩
     .simp only[Instr.findNow,hs,h1,jd,aq hi]
      rw[show n+1+j=n+(j+1)from f']
     .have:=h4 s f hf
      unfold kX at this|-;simp only[List.modify_succ_cons,fX,oJ,aq hi,this,hk,hv]
    .refine .inr ⟨?_,?_,λs e' h5 h6=>?_⟩
     .simp only[Instr.findNow,hs,h1]
     .simp only[jd,aq hi,h2]
     .have:=h3 s e' h5 h6
      unfold kX at this|-;simp only[pc,fX,oJ,aq hi,this,hk,hv]
theorem Mk{k:TypeId}(hk:P.underlying k=T' (.int .i64))(em:Bool)(i:Int):∀n,0<n->(Instr.checkKey em n k (.int .i64 i)).run P w=.ok () w
 |0,h=>absurd h p'
 |n+1,_=>by simp[Instr.checkKey,run_underlying hk]
theorem ach(i:Int):∀n,Instr.sameBits n (.int .i64 i) (.int .i64 i)=Z'
 |0=>by simp[Instr.sameBits]
 |n+1=>by simp[Instr.sameBits]
theorem ac8{t:Nat}(ht:P.underlying t=T' (.map k e))(hk:P.underlying k=T' (.int .i64))(hz:(zeroValue e).run P w=.ok (tL Zb) w)(hm:w.heap[m]?=T' (.map es clock))(hF:kX es.toList F):(Instr.lookup t (.map (T' m)) (.int .i64 i) a0a).run P w=.ok (tL (jd F i)) w:=by
 have hc:(Instr.checkKey es.isEmpty 10000 k (.int .i64 i)).run P w=.ok () w:=Mk hk _ i 10000 p';have hg:(getObj m).run P w=.ok (.map es clock) w:=Tg hm;rcases Hi i es.toList F 0 hF with⟨j,e',h1,h2,h3,h4⟩|⟨h1,h2,h3⟩
 .simp[Instr.lookup,run_underlying ht,hg,hc,Instr.findKey,run_underlying hk,h1]
 .simp[Instr.lookup,run_underlying ht,hg,hc,Instr.findKey,run_underlying hk,h1,hz,h2]
theorem acb{t:Nat}{s:List Int}(ht:P.underlying t=T' (.map k e))(hk:P.underlying k=T' (.int .i64))(hm:w.heap[m]?=T' (.map es clock))(hF:kX es.toList F):∃ab af,(Instr.mapUpdate t (.map (T' m)) (.int .i64 i) (tL s)).run P w=.ok () (ChangeMaps.setBlock w m (.map ab af))/\kX ab.toList (oJ F i s):=by
 have hc:(Instr.checkKey a0a 10000 k (.int .i64 i)).run P w=.ok () w:=Mk hk _ i 10000 p';have hg:(getObj m).run P w=.ok (.map es clock) w:=Tg hm;rcases Hi i es.toList F 0 hF with⟨j,e',h1,h2,h3,h4⟩|⟨h1,h2,h3⟩
 .have ao:(Instr.keyThatStays (.int .i64 i) (.int .i64 i)).run P w=.ok (.int .i64 i) w:=by unfold Instr.keyThatStays;rw[ach i 10000];rfl
  have hj:es[j]?=T' e':=by simpa using h2
  refine⟨es.modify j (λe'=>{e' with key:=.int .i64 i,val:=tL s}),clock,?_,?_⟩
  .simp[Instr.mapUpdate,run_underlying ht,hg,hc,Instr.findKey,run_underlying hk,h1,hj,h3,ao,Ti _ hm,Result.andThen,ChangeMaps.setBlock]
  .rw[Array.toList_modify]
   exact h4 s _ (λx _=>⟨rfl,rfl⟩)
 .refine⟨es.push ⟨.int .i64 i,tL s,clock⟩,clock+1,?_,?_⟩
  .simp[Instr.mapUpdate,run_underlying ht,hg,hc,Instr.findKey,run_underlying hk,h1,Ti _ hm,Result.andThen,ChangeMaps.setBlock]
  .rw[Array.toList_push]
   exact h3 s _ rfl rfl
theorem agh(w:World)(o1 o2:Obj):((w.alloc o1).alloc o2).heap[w.heap.size]?=T' o1/\((w.alloc o1).alloc o2).heap[w.heap.size+1]?=T' o2:=by
 constructor
 .rw[heap_alloc_old _ _ J',heap_alloc_new]
 .have:=heap_alloc_new (w.alloc o1) o2
  simpa using this
section
variable {ops:Array Oper}{rest:List Oper}{o:Oper}{a:Act}{Q:Exit->Act->World->Prop}
theorem agu{parts:Array (Nat×Operand)}{vs:Array (Nat×Value)}(hg:o.guard=Y')(ho:o.op=.build t parts)(hv:(parts.map λ(i,x)=>(i,a.eval x))=vs)(h:(Instr.build t vs).run P w=.ok (.agg cells) w)(k:wpList P ops Q rest (a.put o.dst (.agg cells)) w):wpList P ops Q (o::rest) a w:=by
 subst hv;refine wpList_plain hg λK hK=>?_
 unfold Oper.wp execOp;simp only[ho,cC,h,cz];exact hK _ _ k
theorem agv{v:Value}(hg:o.guard=Y')(ho:o.op=.build t #[(k,x)])(hv:a.eval x=v)(h:(Instr.build t #[(k,v)]).run P w=.ok (.agg cells) w)(kk:wpList P ops Q rest (a.put o.dst (.agg cells)) w):wpList P ops Q (o::rest) a w:=by
 subst hv;exact agu hg ho J' h kk
theorem agx{ty:TypeId}{b:Nat}{old:Array Value}(hg:o.guard=Y')(ho:o.op=.store ty x y)(hx:a.eval x=.pointer (T' ⟨b,0,Y'⟩))(hy:a.eval y=.agg cells)(hb:w.heap[b]?=T' (.cells old t (0,0)))(hs:old.size=cells.size)(hi:(P.info? ty).map (·.size)=T' cells.size)(h1:∀v∈cells.toList,v.oneCell'=Z')(k:wpList P ops Q rest (a.put o.dst undef) (w.setRow b cells)):wpList P ops Q (o::rest) a w:=by
 refine wpList_plain hg λK hK=>?_
 have hr:=run_storeCells_at P b 0 t cells.toList 0 old w hb (by simp[hs]) h1;have e:(old.toList.take (0+0)++cells.toList++old.toList.drop (0+0+cells.toList.length)).toArray=cells:=by
  rw[kN,du,eD,mY,qX,<-hs,vB J',jx,Fk]
 rw[e]at hr;unfold Oper.wp execOp;cases hq:P.info? ty with
 |none=>simp[hq]at hi
 |some i=>
  have ab:cells.size=i.size:=by simp[hq]at hi;omega
  simp only[ho,hx,hy,Instr.storeAt,Instr.sureAddr,cC,cJ,cz,storeVar,sizeOf,typeInfo,hq,Value.cells];simp[ab,hr,typeInfo,hq,cJ];exact hK _ _ k
theorem agw{dT sT:TypeId}{elem g off dLen dCap sLen sCap:Nat}{ad:Option Addr}{cur:Array Value}{cs:List Value}(hg:o.guard=Y')(ho:o.op=.call ⟨.builtin .copy,#[x,y],#[dT,sT]⟩)(hx:a.eval x=.slice (T' ⟨g,off,Y'⟩) dLen dCap)(hy:a.eval y=.slice ad sLen sCap)(hu:P.underlying dT=T' (.slice elem))(hs:(P.info? elem).map (·.size)=T' 1)(hw:w.heap[g]?=T' (.cells cur t (0,0)))(hn:cs.length=sLen)(hle:sLen<=dLen)(af:∀j v,cs[j]?=T' v->∃bb oo,ad=T' ⟨bb,oo,Y'⟩/\w.cell? ⟨bb,oo+j,Y'⟩=T' v)(ab:off+cs.length<=cur.size)(h1:∀v∈cs,v.oneCell'=Z')(k:∀v,wpList P ops Q rest (a.put o.dst v) (w.setRow g (cur.toList.take off++cs++cur.toList.drop (off+cs.length)).toArray)):wpList P ops Q (o::rest) a w:=by
 refine wpList_plain hg λK hK=>?_
 obtain⟨c0,hr⟩:∃c0,(Builtin.copy_ #[dT,sT] o.type #[.slice (T' ⟨g,off,Y'⟩) dLen dCap,.slice ad sLen sCap]).run P w=.ok c0 (w.setRow g (cur.toList.take off++cs++cur.toList.drop (off+cs.length)).toArray):=by
  cases cs with
  |nil=>
   have h0:sLen=0:=by simpa using hn.symm
   subst h0;have ao:=run_storeCells_at P g off t [] 0 cur w hw (by simpa using ab) J';cases hq:P.info? elem with
   |none=>simp[hq]at hs
   |some i=>
    cases ad with
    |none=>exact⟨goInt 0,by simp[Builtin.copy_,run_underlying hu,Builtin.lenOf,Builtin.firstCells,sizeOf,typeInfo,hq,storeCells,setRow_self w g cur t (0,0) hw]⟩
    |some ad=>exact⟨goInt 0,by simp[Builtin.copy_,run_underlying hu,Builtin.lenOf,Builtin.firstCells,sizeOf,typeInfo,hq,storeCells,loadCells,loadCellsFrom,setRow_self w g cur t (0,0) hw]⟩
  |cons c cs=>
   have h0:=af 0 c rfl;obtain⟨bb,h0⟩:=h0;obtain⟨oo,e,_⟩:=h0;subst e;exact⟨_,run_copy_row (P:=P) w dT sT o.type elem g off dLen dCap ⟨bb,oo,Y'⟩ sLen sCap cur t (c::cs) hu hs hw (by rw[hn];exact(sC hle).symm) (λj v hj=>by
    obtain⟨b2,o2,e2,h2⟩:=af j v hj;simp only[aC,Addr.mk.injEq]at e2;obtain⟨rfl,rfl,_⟩:=e2;rw[Addr.add_mid];exact h2) ab h1⟩
 unfold Oper.wp execOp;simp only[ho,resolve,invoke,builtin,cC,cJ,cz,lB,fX,kr,hx,hy,hr];exact hK _ _ (k c0)
end
end
section
variable {Q:Exit->Act->World->Prop}{i n:Int}{p:Int×List Int}{L:List (Int×List Int)}{l:List Int}{B b cap len m:Nat}{ad:Option Addr}{bT bU lv s2 x3 x4 x5 x6 x7 x8 x9:Value}{W w:World}
def ez(n:Int)(m:Nat)(lv:Value):Array Value:=#[.int .i64 n,.map (T' m),lv,.bool a0a,.int .i64 0,.slice Y' 0 0]
theorem je{o:Obj}(h:w.heap[b]?=T' o):b<w.heap.size:=by
 rcases dQ b w.heap.size with h'|h'
 .exact h'
 .simp[qW h']at h
theorem Lk(hb:w.heap[b]?=T' (.cells (ez n m lv) 76 (0,0)))(h0:0<=i)(hn:i<n):
 Calls a0c 110 #[.pointer (T' ⟨b,0,Y'⟩),.int .i64 i] w λe w'=>e=.returned (.int .i64 0)/\Below w.heap.size w w':=by
 have mixed:a0c.follows .mixedOrders=true:=I';have c0:w.cell? ⟨b,0,Y'⟩=T' (.int .i64 n):=by simp[World.cell?,hb,ez]
 have c3:w.cell? ⟨b,3,Y'⟩=T' (.bool a0a):=by simp[World.cell?,hb,ez]
 have e1:¬i<0:=f';have e2:¬n<=i:=f'
 go_enter func110,ntmps110
 go_wp2
 simp[bodyPost,results,results110,go_sem];exact iX _ _
theorem L3(hb:w.heap[b]?=T' (.cells (ez n m lv) 76 (0,0))):
 Calls a0c 142 #[.pointer (T' ⟨b,0,Y'⟩)] w λe w'=>e=.returned (.bool a0a)/\Below w.heap.size w w':=by
 have mixed:a0c.follows .mixedOrders=true:=I';have c4:w.cell? ⟨b,4,Y'⟩=T' (.int .i64 0):=by simp[World.cell?,hb,ez]
 go_enter func142,ntmps142
 go_wp2
 simp[bodyPost,results,results142,go_sem];exact iX _ _
theorem Wn(hb:w.heap[b]?=T' (.cells (ez n m lv) 76 (0,0))):
 Calls a0c 58 #[.pointer (T' ⟨b,0,Y'⟩)] w λe w'=>e=.returned (.int .i64 n)/\Below w.heap.size w w':=by
 have mixed:a0c.follows .mixedOrders=true:=I';have c0:w.cell? ⟨b,0,Y'⟩=T' (.int .i64 n):=by simp[World.cell?,hb,ez]
 go_enter func58,ntmps58
 go_wp2
 simp[bodyPost,results,results58,go_sem];exact iX _ _
theorem V6(hb:w.heap[b]?=T' (.cells (ez n m lv) 76 (0,0))):
 Calls a0c 67 #[.pointer (T' ⟨b,0,Y'⟩)] w λe w'=>e=.returned (.bool a0a)/\Below w.heap.size w w':=by
 have mixed:a0c.follows .mixedOrders=true:=I';have c3:w.cell? ⟨b,3,Y'⟩=T' (.bool a0a):=by simp[World.cell?,hb,ez]
 go_enter func67,ntmps67
 go_wp2
 simp[bodyPost,results,results67,go_sem];exact iX _ _
theorem Wi(h1:1<=n)(h2:n<=4096)(w:World):
 Calls a0c 9 #[.int .i64 n] w λe w'=>∃b m,e=.returned (.pointer (T' ⟨b,0,Y'⟩))/\w.heap.size<=b/\w.heap.size<=m/\w'.heap[b]?=T' (.cells (ez n m (.slice Y' 0 0)) 76 (0,0))/\w'.heap[m]?=T' (.map #[] 0)/\Below w.heap.size w w':=by
 have mixed:a0c.follows .mixedOrders=true:=I';have e1:¬n<1:=f';have e2:¬4096<n:=f';have af:=λw=>run_makeMap (P:=a0c) 70 w
 go_enter func9,ntmps9
 go_wp2
 have h2:=agh w (.map #[] 0) (.cells (ez n w.heap.size (.slice Y' 0 0)) 76 (0,0));have hB:Below w.heap.size w ((w.alloc (Obj.map #[] 0)).alloc (.cells (ez n w.heap.size (.slice Y' 0 0)) 76 (0,0))):=((iX _ _).alloc (aM _) _).alloc J' _;obtain⟨W,hW⟩:=nm ((w.alloc (Obj.map #[] 0)).alloc (.cells (ez n w.heap.size (.slice Y' 0 0)) 76 (0,0)));have ab:=hW;unfold ez at ab;rw[hW]at h2 hB;rw[ab];clear hW ab;simp only[bodyPost,results,results9];simp[go_sem];exact⟨w.heap.size,aM _,h2.2,h2.1,hB⟩
theorem ab4{α:Type}(h z:α)(N:Nat)(cs:List α)(hl:cs.length<=N):((h::List.replicate N z).take 1++cs++(h::List.replicate N z).drop (1+cs.length))=h::(cs++List.replicate (N-cs.length) z):=by
 rw[show 1+cs.length=cs.length+1 from f'];simp[List.drop_replicate]
theorem QM(n:Nat):cM (List.replicate n 0)=List.replicate n (.int .u8 0):=by simp[cM]
theorem ab3(i:Int)(l:List Int)(hl:l.length<=512):((wC (i,Zb)).toArray.toList.take 1++cM l++(wC (i,Zb)).toArray.toList.drop (1+(cM l).length)).toArray=(wC (i,l++List.replicate (512-l.length) 0)).toArray:=by
 have h:=ab4 (.int .i64 i) (.int .u8 0) 512 (cM l) (by rw[mr];exact hl);have e1:(wC (i,Zb)).toArray.toList=.int .i64 i::List.replicate 512 (.int .u8 0):=by rw[<-QM];rfl
 have e2:wC (i,l++List.replicate (512-l.length) 0)=.int .i64 i::(cM l++List.replicate (512-(cM l).length) (.int .u8 0)):=by
  rw[mr,<-QM];show _::cM _=_;simp only[cM,FB]
 rw[e1,e2,h]
theorem agE{o:Oper}{a:Act}{K:Act->World->Prop}(s x:Operand)(t:TypeId)(ho:o.op=.call ⟨.builtin .append,#[s,x],#[t,t]⟩)(base:Nat)(e:TypeId)(i:TypeInfo)(z:Value)(size bytes:Nat)(ht:a0c.underlying t=T' (.slice e))(hi:a0c.info? e=T' i)(hz:i.zero=T' z)(a0:i.size=size)(ao:i.bytes=bytes)(a3:z.cells.size=size)(a1:0<size)(v:Value)(n:Nat)(xs:List Value)(hs:a.eval s=v)(ay:w.ownsRow base e size v n xs)(ad:Addr)(m c:Nat)(news:List Value)(hx:a.eval x=.slice (T' ad) m c)(hl:news.length=m*size)(ax:∀j u,news[j]?=T' u->w.cell? (ad.add j)=T' u)(h1:∀u∈news,u.oneCell'=Z')(ab:n+m<=maxLen)(aw:(n+m)*bytes<=140737488355328)(af:base<=w.heap.size)(h:∀v' w',w'.ownsRow base e size v' (n+m) (xs++news)->w.grownBy w' v.ownBlock->(v'.ownBlock=v.ownBlock\/v'.ownBlock=T' w.heap.size)->K (a.put o.dst v') w'):o.wp a0c a w K Q:=by
 obtain⟨v',w',hr,h2,h3,_,h5⟩:=run_append_own_at (P:=a0c) w base t o.type e i z size bytes ht hi hz a0 ao a3 a1 v n xs ay ad m c news hl ax h1 ab aw af;unfold Oper.wp execOp;simp only[ho,resolve,invoke,builtin,cC,cJ,cz,lB,fX,kr,hs,hx,hr];exact h v' w' h2 h3 h5
theorem NM:∃i z,a0c.info? 196=T' i/\i.zero=T' z/\i.size=513/\i.bytes=520/\z.cells.size=513:=by
 have h:(a0c.info? 196).bind (·.zero)=T' (.agg (wC (0,Zb)).toArray):=I';obtain⟨i,h1,h2⟩:=vE.1 h;have h3:(a0c.info? 196).map (λi=>(i.size,i.bytes))=T' (513,520):=I';rw[h1]at h3;simp only[ft,aC,db]at h3;exact⟨i,_,h1,h2,h3.1,h3.2,rfl⟩
theorem agH{B3:Nat}{ax ay a0 a1 a3 a4 a5 a6 a7 bb bc bd bm bn br bs bt bu bw bx bz bA bB bR:Value}{S:World->Prop}(bH:∀(w:World)v,S w->S (w.setCell ⟨b,2,Y'⟩ v))(bK:∀(w w':World),S w->w.grownBy w' lv.ownBlock->S w')(bF:S W)(hQ:∀c a a' w,Q (.panic c) a w->Q (.panic c) a' w)(hb:W.heap[b]?=T' (.cells (ez n m lv) 76 (0,0)))(hB:W.heap[B3]?=T' (.cells (wC p).toArray 196 (0,0)))(bO:p.2.length=512)(hL:W.ownsRow 0 196 513 lv L.length (L.flatMap wC))(ds:L.length<=1000000)(aw:lv.ownBlock≠T' b)(bL:∀(ab:Value)(W':World)(y3 y4 y5 y6 y7 y8 y9 bV bW bX bY b0 b1 b3 b4 b5 b6 b7 b9 ca cc cd ch cn cp cr cu cv cw c0 c3 c4 c5 c6 c7 c9:Value),W'.heap[b]?=T' (.cells (ez n m ab) 76 (0,0))->W'.ownsRow 0 196 513 ab (L.length+1) ((L++[p]).flatMap wC)->(ab.ownBlock=lv.ownBlock\/∃g,ab.ownBlock=T' g/\W.heap.size<=g)->
  W'.os=W.os->W'.tape=W.tape->W'.output=W.output->W.heap.size<=W'.heap.size->(∀k,k<W.heap.size->k≠b->lv.ownBlock≠T' k->W'.heap[k]?=W.heap[k]?)->Q .normal ⟨#[.pointer (T' ⟨b,0,Y'⟩),.int .i64 i,s2,y3,y4,y5,y6,y7,y8,y9,bV,bW,bX,bY,b0,b1,b3,b4,b5,b6,b7,b9,ca,cc,cd,ch,cn,cp,cr,cu,cv,cw,c0,c3,c4,c5,c6,c7,c9],[]⟩ W'):
 wpAnyH a0c .any #[⟨T' 29,.move (.tmp 0),31,"disk.go:102",#[],Y'⟩,⟨T' 30,.move (.tmp 0),31,"disk.go:102",#[],Y'⟩,⟨T' 31,.nilCheck (.tmp 30),0,"disk.go:102",#[⟨1,.data⟩],Y'⟩,⟨T' 32,.fieldAddr 76 (.tmp 31) 2,0,"disk.go:102",#[⟨2,.data⟩],Y'⟩,⟨T' 33,.load 71 (.tmp 32),71,"disk.go:102",#[⟨3,.data⟩],Y'⟩,⟨T' 34,.load 196 (.tmp 8),196,"disk.go:102",#[],Y'⟩,⟨T' 35,.buildSlice 71 1 #[(0,.tmp 34)],71,"disk.go:102",#[⟨5,.data⟩],Y'⟩,⟨T' 36,.call ⟨.builtin .append,#[.tmp 33,.tmp 35],#[71,71]⟩,71,"disk.go:102",#[⟨4,.data⟩,⟨6,.data⟩],Y'⟩,⟨T' 37,.nilCheck (.tmp 29),0,"disk.go:102",#[⟨0,.data⟩,⟨0,.phase⟩,⟨1,.phase⟩,⟨2,.phase⟩,⟨3,.phase⟩,⟨4,.phase⟩,⟨5,.phase⟩,⟨6,.phase⟩,⟨7,.phase⟩],Y'⟩,⟨T' 38,.fieldAddr 76 (.tmp 37) 2,0,"disk.go:102",#[⟨8,.data⟩,⟨0,.phase⟩,⟨1,.phase⟩,⟨2,.phase⟩,⟨3,.phase⟩,⟨4,.phase⟩,⟨5,.phase⟩,⟨6,.phase⟩,⟨7,.phase⟩],Y'⟩,⟨Y',.store 71 (.tmp 38) (.tmp 36),0,"disk.go:102",#[⟨9,.data⟩,⟨7,.data⟩,⟨7,.chain⟩,⟨0,.phase⟩,⟨1,.phase⟩,⟨2,.phase⟩,⟨3,.phase⟩,⟨4,.phase⟩,⟨5,.phase⟩,⟨6,.phase⟩,⟨7,.phase⟩],Y'⟩] Q S 4 #[Z',Z',Z',Z',Z',Z',Z',a0a,a0a,a0a,a0a] ⟨#[.pointer (T' ⟨b,0,Y'⟩),.int .i64 i,s2,x3,x4,x5,x6,x7,x8,x9,ax,ay,a0,a1,a3,a4,a5,a6,a7,bb,bc,bd,bm,bn,br,bs,bt,bu,bw,.pointer (T' ⟨b,0,Y'⟩),bx,bz,bA,lv,bB,.slice (T' ⟨B3,0,Y'⟩) 1 1,bR,bT,bU],[]⟩ W:=by
 obtain⟨i196,dd,q1,q2,q3,q4,q5⟩:=NM;refine wpAnyH_ready (rs:=[7]) I' J' (AllReadyH.cons rfl (λK hK=>?_) AllReadyH.nil);rw[au (by rfl)];refine agE (.tmp 33) (.tmp 35) 71 rfl 0 196 i196 dd 513 520 underlying71 q1 q2 q3 q4 q5 p' lv L.length (L.flatMap wC) rfl hL ⟨B3,0,Y'⟩ 1 1 (wC p) rfl (by rw[rX,bO]) (λj u hj=>by rw[Addr.add_mid,du,cell_of_row W B3 j _ _ _ hB];simpa using hj) (EU p) (by simp only[maxLen];omega) f' (dU _) (λv' w' h1 h2 h3=>?_);obtain⟨bD,n',c',rfl⟩:∃ad n c,v'=.slice ad n c:=by
  rcases h1.2 with⟨e,_⟩|⟨g,cap,cur,e,_⟩
  iterate 2
   .exact⟨_,_,_,e⟩
 obtain⟨v',bP⟩:∃v',v'=Value.slice bD n' c':=⟨_,rfl⟩;refine hK.out _ _ (bK _ _ bF h2) (λaf=>?_);have ao:w'.heap[b]?=T' (.cells (ez n m lv) 76 (0,0)):=by rw[h2.block b (je hb) (λe=>aw e.symm)];exact hb
 have c2:w'.cell? ⟨b,2,Y'⟩=T' lv:=by simp[World.cell?,ao,ez]
 have f2:w'.frozen? ⟨b,2,Y'⟩=false:=by simp[World.frozen?,ao]
 clear hK K;simp only[Act.put,lZ,iv,gO];refine wpAnyH_take (i:=8) (v:=.pointer (T' ⟨b,0,Y'⟩)) rfl I' I' I' (λc a w=>hQ _ _ _ _) (.inl ⟨rfl,λw hw=>by go_simp⟩) af ?_;simp only[Act.put,lZ,iv,gO];refine wpAnyH_take (i:=9) (v:=.pointer (T' ⟨b,2,Y'⟩)) rfl I' I' I' (λc a w=>hQ _ _ _ _) (.inl ⟨rfl,λw hw=>by go_simp⟩) af ?_;simp only[Act.put,lZ,iv,gO];refine wpAnyH_ready (rs:=[10]) I' J' (AllReadyH.cons (o:=⟨Y',.store 71 (.tmp 38) (.tmp 36),0,"disk.go:102",#[⟨9,.data⟩,⟨7,.data⟩,⟨7,.chain⟩,⟨0,.phase⟩,⟨1,.phase⟩,⟨2,.phase⟩,⟨3,.phase⟩,⟨4,.phase⟩,⟨5,.phase⟩,⟨6,.phase⟩,⟨7,.phase⟩],Y'⟩) rfl (λK hK=>?_) AllReadyH.nil);rw[au (by rfl)]
 go_simp
 rw[<-bP]at h1 h3|-;refine hK.out _ _ (bH _ _ af) (λ_=>wpAnyH_done I' ?_ _);have e:(w'.setCell ⟨b,2,Y'⟩ v').heap[b]?=T' (.cells (ez n m v') 76 (0,0)):=by
  simp[World.setCell,xm,ao,ez]
 have bQ:∀k,v'.ownBlock=T' k->k≠b:=λk hk e=>by
  subst e;rcases h3 with h3|h3
  .rw[h3]at hk;exact aw hk
  .rw[h3]at hk
   simp only[aC]at hk;exact Nat.ne_of_gt (je hb) hk
 refine bL v' (w'.setCell ⟨b,2,Y'⟩ v') x3 x4 x5 x6 x7 x8 x9 ax ay a0 a1 a3 a4 a5 a6 a7 bb bc bd bm bn br bs bt bu bw (.pointer (T' ⟨b,0,Y'⟩)) bx bz bA lv bB (.slice (T' ⟨B3,0,Y'⟩) 1 1) v' (.pointer (T' ⟨b,0,Y'⟩)) (.pointer (T' ⟨b,2,Y'⟩)) e ?_ ?_ h2.os h2.tape h2.output ?_ (λk hk bM bN=>?_)
 .have bE:w'.ownsRow 0 196 513 v' (L.length+1) ((L++[p]).flatMap wC):=by simpa using h1
  exact bE.kept (row:=T' b) ⟨rfl,rfl,rfl,by simp[World.setCell],λk _ hk=>tU _ _ _ _ (λe=>hk (by simp[e]))⟩ (by
   cases hv:v'.ownBlock with
   |none=>exact .inl rfl
   |some k=>exact .inr (λe=>bQ k hv (by simpa using e)))
 .rcases h3 with h3|h3
  .exact .inl h3
  .exact .inr ⟨_,h3,aM _⟩
 .simp only[World.setCell,Array.size_modify];exact h2.size
 .rw[tU _ _ _ _ (by exact bM)]
  exact h2.block k hk (λe=>bN e.symm)
theorem agI{bV bW bX bY b0 b1 b3 b4 b5 b6 b7 b9 ca cc cd ch cn dd ds dv dA ea eb ec cp cr cu:Value}(mixed:a0c.follows .mixedOrders=Z')(hQ:∀c a a' w,Q (.panic c) a w->Q (.panic c) a' w)(hb:W.heap[b]?=T' (.cells (ez n m lv) 76 (0,0)))(hB:W.heap[B]?=T' (.cells (wC p).toArray 196 (0,0)))(aw:p.2.length=512)(hL:W.ownsRow 0 196 513 lv L.length (L.flatMap wC))(cw:L.length<=1000000)(c7:lv.ownBlock≠T' b)(c3:b≠B)(c6:lv.ownBlock≠T' B)(c5:∀(ab:Value)(W':World)(y3 y4 y5 y6 y7 y8 y9 ax ay a0 a3 a4 a5 a6 a7 bb bc bd bm bn br bs bt bu bw bx bz bA bB bD bE bF bH bK bL bM:Value),W'.heap[b]?=T' (.cells (ez n m ab) 76 (0,0))->W'.ownsRow 0 196 513 ab (L.length+1) ((L++[p]).flatMap wC)->(ab.ownBlock=lv.ownBlock\/∃g,ab.ownBlock=T' g/\W.heap.size<=g)->
  W'.os=W.os->W'.tape=W.tape->W'.output=W.output->W.heap.size<=W'.heap.size->(∀k,k<W.heap.size->k≠b->lv.ownBlock≠T' k->W'.heap[k]?=W.heap[k]?)->Q .normal ⟨#[.pointer (T' ⟨b,0,Y'⟩),.int .i64 i,s2,y3,y4,y5,y6,y7,y8,y9,ax,ay,a0,a3,a4,a5,a6,a7,bb,bc,bd,bm,bn,br,bs,bt,bu,bw,bx,bz,bA,bB,bD,bE,bF,bH,bK,bL,bM],[]⟩ W'):
 Code.wp a0c (Code.region 10 #[⟨T' 29,.move (.tmp 0),31,"disk.go:102",#[],Y'⟩,⟨T' 30,.move (.tmp 0),31,"disk.go:102",#[],Y'⟩,⟨T' 31,.nilCheck (.tmp 30),0,"disk.go:102",#[⟨1,.data⟩],Y'⟩,⟨T' 32,.fieldAddr 76 (.tmp 31) 2,0,"disk.go:102",#[⟨2,.data⟩],Y'⟩,⟨T' 33,.load 71 (.tmp 32),71,"disk.go:102",#[⟨3,.data⟩],Y'⟩,⟨T' 34,.load 196 (.tmp 8),196,"disk.go:102",#[],Y'⟩,⟨T' 35,.buildSlice 71 1 #[(0,.tmp 34)],71,"disk.go:102",#[⟨5,.data⟩],Y'⟩,⟨T' 36,.call ⟨.builtin .append,#[.tmp 33,.tmp 35],#[71,71]⟩,71,"disk.go:102",#[⟨4,.data⟩,⟨6,.data⟩],Y'⟩,⟨T' 37,.nilCheck (.tmp 29),0,"disk.go:102",#[⟨0,.data⟩,⟨0,.phase⟩,⟨1,.phase⟩,⟨2,.phase⟩,⟨3,.phase⟩,⟨4,.phase⟩,⟨5,.phase⟩,⟨6,.phase⟩,⟨7,.phase⟩],Y'⟩,⟨T' 38,.fieldAddr 76 (.tmp 37) 2,0,"disk.go:102",#[⟨8,.data⟩,⟨0,.phase⟩,⟨1,.phase⟩,⟨2,.phase⟩,⟨3,.phase⟩,⟨4,.phase⟩,⟨5,.phase⟩,⟨6,.phase⟩,⟨7,.phase⟩],Y'⟩,⟨Y',.store 71 (.tmp 38) (.tmp 36),0,"disk.go:102",#[⟨9,.data⟩,⟨7,.data⟩,⟨7,.chain⟩,⟨0,.phase⟩,⟨1,.phase⟩,⟨2,.phase⟩,⟨3,.phase⟩,⟨4,.phase⟩,⟨5,.phase⟩,⟨6,.phase⟩,⟨7,.phase⟩],Y'⟩] Z') Q ⟨#[.pointer (T' ⟨b,0,Y'⟩),.int .i64 i,s2,x3,x4,x5,x6,x7,.pointer (T' ⟨B,0,Y'⟩),x9,bT,bU,bV,bW,bX,bY,b0,b1,b3,b4,b5,b6,b7,b9,ca,cc,cd,ch,cn,dd,ds,dv,dA,ea,eb,ec,cp,cr,cu],[]⟩ W:=by
 have c9:∀w':World,w'.heap[B]?=T' (.cells (wC p).toArray 196 (0,0))->w'.rangeAt B 0 (wC p):=λw' h j v hj=>by
  rw[du,cell_of_row w' B j _ _ _ h];simpa using hj
 refine wp_region_held_drew (S:=λw'=>w'.heap[B]?=T' (.cells (wC p).toArray 196 (0,0))) mixed hB (λhS=>?_);refine wpAnyH_take (i:=0) (v:=.pointer (T' ⟨b,0,Y'⟩)) rfl I' I' I' (λc a w=>hQ _ _ _ _) (.inl ⟨rfl,λw hw=>rfl⟩) hS ?_;refine wpAnyH_take (i:=1) (v:=.pointer (T' ⟨b,0,Y'⟩)) rfl I' I' I' (λc a w=>hQ _ _ _ _) (.inl ⟨rfl,λw hw=>rfl⟩) hS ?_;simp only[Act.put,lZ,iv,gO];refine wpAnyH_take (i:=2) (v:=.pointer (T' ⟨b,0,Y'⟩)) rfl I' I' I' (λc a w=>hQ _ _ _ _) (.inl ⟨rfl,λw hw=>by go_simp⟩) hS ?_;simp only[Act.put,lZ,iv,gO];refine wpAnyH_take (i:=3) (v:=.pointer (T' ⟨b,2,Y'⟩)) rfl I' I' I' (λc a w=>hQ _ _ _ _) (.inl ⟨rfl,λw hw=>by go_simp⟩) hS ?_;refine wpAnyH_take (i:=5) (v:=.agg (wC p).toArray) rfl I' I' I' (λc a w=>hQ _ _ _ _) (yieldsIf_load_mid rfl 196 (.tmp 8) rfl B 0 rfl (wC p) _ c9 underlying196 rfl (by rw[rX,aw];kernel_rfl)) hS ?_;simp only[Act.put,lZ,iv,gO];obtain⟨i196,af,q1,q2,q3,q4,q5⟩:=NM;have c4:W.drew.heap[b]?=T' (.cells (ez n m lv) 76 (0,0)):=hb;have ee:W.drew.heap[B]?=T' (.cells (wC p).toArray 196 (0,0)):=hB;have ef:W.drew.ownsRow 0 196 513 lv L.length (L.flatMap wC):=hL;have bR:∀w':World,w'.heap[b]?=T' (.cells (ez n m lv) 76 (0,0))->w'.cell? ⟨b,2,Y'⟩=T' lv:=λw' h=>by simp[World.cell?,h,ez]
 have bQ:Instr.fill (λi=>T' (i*i196.size,i196.size)) ((Array.range (1*i196.size)).map (af.cells[·%af.cells.size]!)) [(0,Value.agg (wC p).toArray)]=T' (wC p).toArray:=by
  rw[q3];have:=Great.fill_whole (s:=513) p' [.agg (wC p).toArray] ((Array.range (1*513)).map (af.cells[·%af.cells.size]!)) (λv hv=>by
   simp only[Cu]at hv;subst hv;simp[Value.cells,rX,aw]) J'
  simpa[Value.cells]using this
 have c0:(W.drew.alloc (.cells (wC p).toArray 196 (0,0))).heap[W.heap.size]?=T' (.cells (wC p).toArray 196 (0,0)):=heap_alloc_new W.drew _;have bO:(W.drew.alloc (.cells (wC p).toArray 196 (0,0))).heap[b]?=T' (.cells (ez n m lv) 76 (0,0)):=(heap_alloc_old W.drew _ (je hb)).trans hb;have ao:(W.drew.alloc (.cells (wC p).toArray 196 (0,0))).heap[B]?=T' (.cells (wC p).toArray 196 (0,0)):=(heap_alloc_old W.drew _ (je hB)).trans hB;have cv:(W.drew.alloc (.cells (wC p).toArray 196 (0,0))).ownsRow 0 196 513 lv L.length (L.flatMap wC):=hL.kept (row:=Y') ⟨rfl,rfl,rfl,J',λk hk _=>heap_alloc_old W.drew _ hk⟩ (by cases lv.ownBlock<;>simp);have bP:∀bN,bN=Value.agg (wC p).toArray->wpAnyH a0c .any #[⟨T' 29,.move (.tmp 0),31,"disk.go:102",#[],Y'⟩,⟨T' 30,.move (.tmp 0),31,"disk.go:102",#[],Y'⟩,⟨T' 31,.nilCheck (.tmp 30),0,"disk.go:102",#[⟨1,.data⟩],Y'⟩,⟨T' 32,.fieldAddr 76 (.tmp 31) 2,0,"disk.go:102",#[⟨2,.data⟩],Y'⟩,⟨T' 33,.load 71 (.tmp 32),71,"disk.go:102",#[⟨3,.data⟩],Y'⟩,⟨T' 34,.load 196 (.tmp 8),196,"disk.go:102",#[],Y'⟩,⟨T' 35,.buildSlice 71 1 #[(0,.tmp 34)],71,"disk.go:102",#[⟨5,.data⟩],Y'⟩,⟨T' 36,.call ⟨.builtin .append,#[.tmp 33,.tmp 35],#[71,71]⟩,71,"disk.go:102",#[⟨4,.data⟩,⟨6,.data⟩],Y'⟩,⟨T' 37,.nilCheck (.tmp 29),0,"disk.go:102",#[⟨0,.data⟩,⟨0,.phase⟩,⟨1,.phase⟩,⟨2,.phase⟩,⟨3,.phase⟩,⟨4,.phase⟩,⟨5,.phase⟩,⟨6,.phase⟩,⟨7,.phase⟩],Y'⟩,⟨T' 38,.fieldAddr 76 (.tmp 37) 2,0,"disk.go:102",#[⟨8,.data⟩,⟨0,.phase⟩,⟨1,.phase⟩,⟨2,.phase⟩,⟨3,.phase⟩,⟨4,.phase⟩,⟨5,.phase⟩,⟨6,.phase⟩,⟨7,.phase⟩],Y'⟩,⟨Y',.store 71 (.tmp 38) (.tmp 36),0,"disk.go:102",#[⟨9,.data⟩,⟨7,.data⟩,⟨7,.chain⟩,⟨0,.phase⟩,⟨1,.phase⟩,⟨2,.phase⟩,⟨3,.phase⟩,⟨4,.phase⟩,⟨5,.phase⟩,⟨6,.phase⟩,⟨7,.phase⟩],Y'⟩] Q (λw'=>w'.heap[B]?=T' (.cells (wC p).toArray 196 (0,0))) 4 #[Z',Z',Z',Z',Z',Z',Z',a0a,a0a,a0a,a0a] ⟨#[.pointer (T' ⟨b,0,Y'⟩),.int .i64 i,s2,x3,x4,x5,x6,x7,.pointer (T' ⟨B,0,Y'⟩),x9,bT,bU,bV,bW,bX,bY,b0,b1,b3,b4,b5,b6,b7,b9,ca,cc,cd,ch,cn,.pointer (T' ⟨b,0,Y'⟩),.pointer (T' ⟨b,0,Y'⟩),.pointer (T' ⟨b,0,Y'⟩),.pointer (T' ⟨b,2,Y'⟩),lv,bN,.slice (T' ⟨W.heap.size,0,Y'⟩) 1 1,cp,cr,cu],[]⟩ (W.drew.alloc (.cells (wC p).toArray 196 (0,0))):=λ_ he=>by
  subst he;refine agH (λw v h=>?_) (λw w' h hg=>?_) ao hQ bO c0 aw cv cw c7 (λab W' y3 y4 y5 y6 y7 y8 y9 ax ay a0 a3 a4 a5 a6 a7 bb bc bd bm bn br bs bt bu bw bx bz bA bB bD bE bF bH bK bL bM h1 h2 h3 h4 h5 h6 h7 h8=>?_)
  .rw[tU _ _ _ _ (by exact c3.symm)];exact h
  .rw[hg.block B (je h) (λe=>c6 e.symm)];exact h
  .refine c5 ab W' y3 y4 y5 y6 y7 y8 y9 ax ay a0 a3 a4 a5 a6 a7 bb bc bd bm bn br bs bt bu bw bx bz bA bB bD bE bF bH bK bL bM h1 h2 (h3.imp id (λ⟨g,e,hg⟩=>⟨g,e,Nat.le_of_succ_le (by simpa using hg)⟩)) h4 h5 h6 (Nat.le_of_succ_le (by simpa using h7)) (λk hk a1 a2=>(h8 k O' a1 a2).trans (heap_alloc_old W.drew _ hk))
 refine wpAnyH_ready (rs:=[4,6]) I' J' (AllReadyH.cons (o:=⟨T' 33,.load 71 (.tmp 32),71,"disk.go:102",#[⟨3,.data⟩],Y'⟩) rfl (λK hK=>?_) (AllReadyH.cons (o:=⟨T' 35,.buildSlice 71 1 #[(0,.tmp 34)],71,"disk.go:102",#[⟨5,.data⟩],Y'⟩) rfl (λK hK=>?_) AllReadyH.nil))
 .rw[au (by rfl)]
  have c2:=bR _ c4
  go_simp
  refine hK.out _ _ hS (λ_=>?_);clear hK K;refine wpAnyH_ready (rs:=[6]) I' J' (AllReadyH.cons (o:=⟨T' 35,.buildSlice 71 1 #[(0,.tmp 34)],71,"disk.go:102",#[⟨5,.data⟩],Y'⟩) rfl (λK hK=>?_) AllReadyH.nil);rw[au (by rfl)];refine wp_buildSlice 71 196 1 #[(0,.tmp 34)] rfl (wC p).toArray i196 af underlying71 q1 q2 (by rw[q3];decide) (by rw[q3];decide) (by simp only[lB,fX,kr];exact bQ) ?_;exact hK.out _ _ ao (λ_=>bP _ rfl)
 .rw[au (by rfl)]
  refine wp_buildSlice 71 196 1 #[(0,.tmp 34)] rfl (wC p).toArray i196 af underlying71 q1 q2 (by rw[q3];decide) (by rw[q3];decide) (by simp only[lB,fX,kr];exact bQ) ?_;refine hK.out _ _ ao (λ_=>?_);clear hK K;simp only[Act.put,lZ,iv,gO];refine wpAnyH_ready (rs:=[4]) I' J' (AllReadyH.cons (o:=⟨T' 33,.load 71 (.tmp 32),71,"disk.go:102",#[⟨3,.data⟩],Y'⟩) rfl (λK hK=>?_) AllReadyH.nil);rw[au (by rfl)];have c2:(W.alloc (.cells (wC p).toArray 196 (0,0))).cell? ⟨b,2,Y'⟩=T' lv:=bR _ bO
  go_simp
  exact hK.out _ _ ao (λ_=>bP _ rfl)
theorem ze(h:Below B w W)(C:Array Value):Below B w (W.setRow B C):=
 ⟨h.os,h.tape,h.output,by simpa[World.setRow]using h.size,λk hk=>(setRow_other W B k C (λe=>by subst e;exact FN _ hk)).trans (h.block k hk)⟩
theorem agJ{x10 x11 x12 x13 x14 x15 x16 x17 x18 x19 x20 x21 x22 x23 x24 x25 x26 x27 x28 x29 x30 x31 x32 x33 x34 x35 x36 x37 x38:Value}(mixed:a0c.follows .mixedOrders=Z')(hp:(i,l++List.replicate (512-l.length) 0)=p)(hQ:∀c a a' w,Q (.panic c) a w->Q (.panic c) a' w)(hb:W.heap[b]?=T' (.cells (ez n m lv) 76 (0,0)))(hl:len<=512)(hll:l.length=len)(hsrc:∀j v,(cM l)[j]?=T' v->∃bb oo,ad=T' ⟨bb,oo,Y'⟩/\W.cell? ⟨bb,oo+j,Y'⟩=T' v)(hL:W.ownsRow 0 196 513 lv L.length (L.flatMap wC))(hLn:L.length<=1000000)(hne:lv.ownBlock≠T' b)(hfin:∀(lv':Value)(W':World)(y3 y4 y5 y7 y8 y9 y10 y11 y12 y13 y14 y15 y16 y17 y18 y19 y20 y21 y22 y23 y24 y25 y26 y27 y28 y29 y30 y31 y32 y33 y34 y35 y36 y37 y38:Value),W'.heap[b]?=T' (.cells (ez n m lv') 76 (0,0))->W'.ownsRow 0 196 513 lv' (L.length+1) ((L++[p]).flatMap wC)->(lv'.ownBlock=lv.ownBlock\/∃g,lv'.ownBlock=T' g/\W.heap.size<=g)->
  W'.os=W.os->W'.tape=W.tape->W'.output=W.output->W.heap.size<=W'.heap.size->(∀k,k<W.heap.size->k≠b->lv.ownBlock≠T' k->W'.heap[k]?=W.heap[k]?)->Q .ret ⟨#[.pointer (T' ⟨b,0,Y'⟩),.int .i64 i,.slice ad len cap,y3,y4,y5,.int .i64 0,y7,y8,y9,y10,y11,y12,y13,y14,y15,y16,y17,y18,y19,y20,y21,y22,y23,y24,y25,y26,y27,y28,y29,y30,y31,y32,y33,y34,y35,y36,y37,y38],[]⟩ W'):
 Code.wp a0c (Code.seq (Code.region 8 #[⟨T' 23,.move (.tmp 1),3,"disk.go:100",#[],Y'⟩,⟨T' 24,.build 196 #[(0,.tmp 23)],196,"disk.go:100",#[⟨0,.data⟩],Y'⟩,⟨T' 8,.alloc 196,0,"disk.go:100",#[],Y'⟩,⟨Y',.store 196 (.tmp 8) (.tmp 24),0,"disk.go:100",#[⟨2,.data⟩,⟨1,.data⟩,⟨0,.phase⟩,⟨1,.phase⟩,⟨2,.phase⟩],Y'⟩] a0a) (Code.seq (Code.region 9 #[⟨T' 25,.fieldAddr 196 (.tmp 8) 1,0,"disk.go:101",#[],Y'⟩,⟨T' 26,.slice 191 (.tmp 25) Y' Y' Y',29,"disk.go:101",#[⟨0,.data⟩],Y'⟩,⟨T' 27,.move (.tmp 2),29,"disk.go:101",#[],Y'⟩,⟨T' 28,.call ⟨.builtin .copy,#[.tmp 26,.tmp 27],#[29,29]⟩,3,"disk.go:101",#[⟨1,.data⟩,⟨2,.data⟩],Y'⟩] a0a) (Code.seq (Code.region 10 #[⟨T' 29,.move (.tmp 0),31,"disk.go:102",#[],Y'⟩,⟨T' 30,.move (.tmp 0),31,"disk.go:102",#[],Y'⟩,⟨T' 31,.nilCheck (.tmp 30),0,"disk.go:102",#[⟨1,.data⟩],Y'⟩,⟨T' 32,.fieldAddr 76 (.tmp 31) 2,0,"disk.go:102",#[⟨2,.data⟩],Y'⟩,⟨T' 33,.load 71 (.tmp 32),71,"disk.go:102",#[⟨3,.data⟩],Y'⟩,⟨T' 34,.load 196 (.tmp 8),196,"disk.go:102",#[],Y'⟩,⟨T' 35,.buildSlice 71 1 #[(0,.tmp 34)],71,"disk.go:102",#[⟨5,.data⟩],Y'⟩,⟨T' 36,.call ⟨.builtin .append,#[.tmp 33,.tmp 35],#[71,71]⟩,71,"disk.go:102",#[⟨4,.data⟩,⟨6,.data⟩],Y'⟩,⟨T' 37,.nilCheck (.tmp 29),0,"disk.go:102",#[⟨0,.data⟩,⟨0,.phase⟩,⟨1,.phase⟩,⟨2,.phase⟩,⟨3,.phase⟩,⟨4,.phase⟩,⟨5,.phase⟩,⟨6,.phase⟩,⟨7,.phase⟩],Y'⟩,⟨T' 38,.fieldAddr 76 (.tmp 37) 2,0,"disk.go:102",#[⟨8,.data⟩,⟨0,.phase⟩,⟨1,.phase⟩,⟨2,.phase⟩,⟨3,.phase⟩,⟨4,.phase⟩,⟨5,.phase⟩,⟨6,.phase⟩,⟨7,.phase⟩],Y'⟩,⟨Y',.store 71 (.tmp 38) (.tmp 36),0,"disk.go:102",#[⟨9,.data⟩,⟨7,.data⟩,⟨7,.chain⟩,⟨0,.phase⟩,⟨1,.phase⟩,⟨2,.phase⟩,⟨3,.phase⟩,⟨4,.phase⟩,⟨5,.phase⟩,⟨6,.phase⟩,⟨7,.phase⟩],Y'⟩] Z') (Code.seq (Code.region 11 #[⟨T' 6,.assign (.const (.int .i64 0)),27,"disk.go:103",#[],Y'⟩] a0a) Code.ret)))) Q ⟨#[.pointer (T' ⟨b,0,Y'⟩),.int .i64 i,.slice ad len cap,x3,x4,x5,x6,x7,x8,x9,x10,x11,x12,x13,x14,x15,x16,x17,x18,x19,x20,x21,x22,x23,x24,x25,x26,x27,x28,x29,x30,x31,x32,x33,x34,x35,x36,x37,x38],[]⟩ W:=by
 have hze:∀w,(zeroValue 196).run a0c w=.ok (.agg (wC (0,Zb)).toArray) w:=λw=>by
  have h:(a0c.info? 196).bind (·.zero)=T' (.agg (wC (0,Zb)).toArray):=I';obtain⟨i,h1,h2⟩:=vE.1 h;simp[zeroValue,typeInfo,h1,h2]
 have hbu:∀w,(Instr.build 196 #[(0,.int .i64 i)]).run a0c w=.ok (.agg (wC (i,Zb)).toArray) w:=λw=>run_build w 196 _ _ I'
 iterate 5 go_step
 refine agv rfl rfl rfl (hbu _) ?_
 iterate 3 go_step
 refine agx (ty:=196) (x:=.tmp 8) (y:=.tmp 24) (b:=W.heap.size) (t:=196) (old:=(wC (0,Zb)).toArray) (cells:=(wC (i,Zb)).toArray) ?c_g ?c_o ?c_x ?c_y (heap_alloc_new _ _) ?c_s ?c_i ?c_one ?c_k
 case c_g=>rfl
 case c_o=>rfl
 case c_x=>rfl
 case c_y=>rfl
 case c_s=>rfl
 case c_i=>kernel_rfl
 case c_one=>exact EU (i,Zb)
 obtain⟨B,hBe⟩:=nm (W.heap.size);have hW1:=setRow_heap (W.alloc (Obj.cells (wC (0,Zb)).toArray 196)) W.heap.size _ (wC (i,Zb)).toArray 196 (0,0) (heap_alloc_new _ _);have hB1:Below B W ((W.alloc (Obj.cells (wC (0,Zb)).toArray 196)).setRow W.heap.size (wC (i,Zb)).toArray):=by
  subst hBe;exact ze ((iX _ _).alloc (aM _) _) _
 have hs1:B<((W.alloc (Obj.cells (wC (0,Zb)).toArray 196)).setRow W.heap.size (wC (i,Zb)).toArray).heap.size:=by
  subst hBe;exact je hW1
 rw[hBe]at hW1 hB1 hs1|-;obtain⟨W1,hW1e⟩:=nm (((W.alloc (Obj.cells (wC (0,Zb)).toArray 196)).setRow B (wC (i,Zb)).toArray));rw[hW1e]at hW1 hB1 hs1|-;clear hW1e;simp only[Act.put,lZ,iv,gO]
 iterate 14 go_step
 refine agw (dT:=29) (sT:=29) (x:=.tmp 26) (y:=.tmp 27) (elem:=5) (g:=B) (off:=1) (dLen:=512) (dCap:=512) (ad:=ad) (sLen:=len) (sCap:=cap) (cs:=cM l) (t:=196) (cur:=(wC (i,Zb)).toArray) ?c_g ?c_o ?c_x ?c_y ?c_u ?c_s hW1 ?c_n hl ?c_src ?c_fit (zc l) (λv=>?_)
 case c_g=>rfl
 case c_o=>rfl
 case c_x=>rfl
 case c_y=>rfl
 case c_u=>exact underlying29
 case c_s=>kernel_rfl
 case c_n=>rw[mr];exact hll
 case c_src=>
  intro j v hj;obtain⟨bb,oo,h1,h2⟩:=hsrc j v hj;exact⟨bb,oo,h1,by rw[<-h2];exact hB1.cell (by rw[<-hBe];exact nW W ⟨bb,oo+j,Y'⟩ h2)⟩
 case c_fit=>
  rw[mr];have:(wC (i,Zb)).toArray.size=513:=rfl;omega
 rw[ab3 i l f',hp];have hpl:p.2.length=512:=by rw[<-hp,aV,pe];omega
 have hW2:=setRow_heap W1 B _ (wC p).toArray 196 (0,0) hW1;have hB2:Below B W (W1.setRow B (wC p).toArray):=ze hB1 _;obtain⟨W2,hW2e⟩:=nm (W1.setRow B (wC p).toArray);rw[hW2e]at hW2 hB2|-;simp only[Act.put,lZ,iv,gO];have hbB:b<B:=by rw[<-hBe];exact je hb
 have hb2:W2.heap[b]?=T' (.cells (ez n m lv) 76 (0,0)):=(hB2.block b hbB).trans hb;have hlB:∀k,lv.ownBlock=T' k->k<B:=λk hk=>by
  rcases hL.2 with⟨e,_⟩|⟨g,cap,cur,e,_,hg,_⟩
  .subst e;cases hk
  .subst e
   simp only[Value.ownBlock,aC]at hk;subst hk;rw[<-hBe];exact je hg
 have hL2:W2.ownsRow 0 196 513 lv L.length (L.flatMap wC):=by
  refine⟨hL.1,hL.2.imp id (λ⟨g,cap,cur,e,h0,hg,r⟩=>⟨g,cap,cur,e,h0,?_,r⟩)⟩;rw[hB2.block g (hlB g (by rw[e];rfl))];exact hg
 iterate 4 go_step
 refine agI mixed ?_ hb2 hW2 hpl hL2 hLn hne f' (λe=>FN _ (hlB B e)) (λlv' W' y3 y4 y5 y6 y7 y8 y9 y10 y11 y12 y13 y14 y15 y16 y17 y18 y19 y20 y21 y22 y23 y24 y25 y26 y27 y28 y29 y30 y31 y32 y33 y34 y35 y36 y37 y38 h1 h2 h3 h4 h5 h6 h7 h8=>?_)
 .exact λc a a' w h=>hQ c a a' w h
 .go_wp2
  have hsz:W.heap.size<=W2.heap.size:=hB2.size;exact hfin lv' W' y3 y4 y5 y7 y8 y9 y10 y11 y12 y13 y14 y15 y16 y17 y18 y19 y20 y21 y22 y23 y24 y25 y26 y27 y28 y29 y30 y31 y32 y33 y34 y35 y36 y37 y38 h1 h2 (h3.imp id (λ⟨g,e,hg⟩=>⟨g,e,fC hsz hg⟩)) (h4.trans hB2.os) (h5.trans hB2.tape) (h6.trans hB2.output) (fC hsz h7) (λk hk a1 a2=>(h8 k (da hk hsz) a1 a2).trans (hB2.block k f'))
theorem Sw(hb:w.heap[b]?=T' (.cells (ez n m lv) 76 (0,0)))(h0:0<=i)(hn:i<n)(hl:len<=512)(ay:l.length=len)(a3:∀j v,(cM l)[j]?=T' v->∃bb oo,ad=T' ⟨bb,oo,Y'⟩/\w.cell? ⟨bb,oo+j,Y'⟩=T' v)(hL:w.ownsRow 0 196 513 lv L.length (L.flatMap wC))(aw:L.length<=1000000)(a0:lv.ownBlock≠T' b):
 Calls a0c 106 #[.pointer (T' ⟨b,0,Y'⟩),.int .i64 i,.slice ad len cap] w λe w'=>e=.returned (.int .i64 0)/\∃ab,w'.heap[b]?=T' (.cells (ez n m ab) 76 (0,0))/\
  w'.ownsRow 0 196 513 ab (L.length+1) ((L++[(i,l++List.replicate (512-l.length) 0)]).flatMap wC)/\(ab.ownBlock=lv.ownBlock\/∃g,ab.ownBlock=T' g/\w.heap.size<=g)/\
  w'.os=w.os/\w'.tape=w.tape/\w'.output=w.output/\w.heap.size<=w'.heap.size/\∀k,k<w.heap.size->k≠b->lv.ownBlock≠T' k->w'.heap[k]?=w.heap[k]?:=by
 have mixed:a0c.follows .mixedOrders=true:=I';have e1:¬(512:Int)<len:=f'
 go_enter func106,ntmps106
 iterate 83 (first
  |(go_at_call 110;refine(Lk hb h0 hn).mono ?_;rintro e w1 ⟨rfl,b1⟩;have af:=(b1.block _ (je hb)).trans hb)
  |(go_at_call 142;refine(L3 af).mono ?_;rintro e w2 ⟨rfl,b2⟩;have ax:=(b2.block _ (je af)).trans af)
  |go_values|go_skip|go_guarded|go_step|go_upon|go_back|(simp only[zK,zJ]at*;go_simp))
 refine agJ (lv:=lv) (L:=L) (m:=m) (n:=n) mixed (Eq.refl (i,l++List.replicate (512-l.length) 0)) ?_ ?_ hl ay ?_ ?_ aw a0 ?_
 .intro c a a' w h
  simp(config:={zetaDelta:=Z'}) only[bodyPost]at h|-;exact absurd h.2.1 J'
 .exact ax
 .intro j v hj
  obtain⟨bb,oo,q1,q2⟩:=a3 j v hj;exact⟨bb,oo,q1,by rw[<-q2];exact(b1.trans (b2.mono b1.size)).cell (nW w ⟨bb,oo+j,Y'⟩ q2)⟩
 .refine⟨hL.1,hL.2.imp id (λ⟨g,cap,cur,e,q0,hg,r⟩=>⟨g,cap,cur,e,q0,?_,r⟩)⟩
  rw[(b1.trans (b2.mono b1.size)).block g (je hg)];exact hg
 .intro ab W' y3 y4 y5 y7 y8 y9 a4 a5 a6 a7 bc bd bm bn br bs bt bu bw bx bz bA bB bD bE bF bH bK bL bM bN bO bP bQ bR h1 h2 h3 h4 h5 h6 h7 h8
  have hB:=b1.trans (b2.mono b1.size);have ao:=hB.size;simp(config:={zetaDelta:=Z'}) only[bodyPost,results,results106];simp[go_sem];exact⟨ab,h1,by simpa using h2,h3.imp id (λ⟨g,e,hg⟩=>⟨g,e,fC ao hg⟩),h4.trans hB.os,h5.trans hB.tape,h6.trans hB.output,fC ao h7,λk hk a1 a2=>(h8 k (da hk ao) a1 a2).trans (hB.block k hk)⟩
end
end Go.Hl
