/- Lemmas for TopSound and TopBracket. -/
import Derived.Still
import Derived.WalkLawsBesides
import Derived.Test.YtpgglolpkbepjaaGreatTal
set_option linter.unusedVariables false
set_option linter.unusedSimpArgs false
namespace Go.Hl
open Option renaming some→T',none→Y'
open Bool renaming true→Z',false→a0a
section
variable {a0 a1 a3 a4 a5 ab af ao aw ax ay p0 p1 p2 p3 p4 p5 p6 p7 p8 p9:Prop}
theorem nm{α:Sort _}(a:α):∃x,a=x:=⟨a,rfl⟩
theorem A2(h0:p0)(h1:p1):p0/\p1:=⟨h0,h1⟩
theorem A3(h0:p0)(h1:p1)(h2:p2):p0/\p1/\p2:=⟨h0,h1,h2⟩
theorem A4(h0:p0)(h1:p1)(h2:p2)(h3:p3):p0/\p1/\p2/\p3:=⟨h0,h1,h2,h3⟩
theorem A5(h0:p0)(h1:p1)(h2:p2)(h3:p3)(h4:p4):p0/\p1/\p2/\p3/\p4:=⟨h0,h1,h2,h3,h4⟩
theorem A6(h0:p0)(h1:p1)(h2:p2)(h3:p3)(h4:p4)(h5:p5):p0/\p1/\p2/\p3/\p4/\p5:=⟨h0,h1,h2,h3,h4,h5⟩
theorem A7(h0:p0)(h1:p1)(h2:p2)(h3:p3)(h4:p4)(h5:p5)(h6:p6):p0/\p1/\p2/\p3/\p4/\p5/\p6:=⟨h0,h1,h2,h3,h4,h5,h6⟩
theorem A8(h0:p0)(h1:p1)(h2:p2)(h3:p3)(h4:p4)(h5:p5)(h6:p6)(h7:p7):p0/\p1/\p2/\p3/\p4/\p5/\p6/\p7:=⟨h0,h1,h2,h3,h4,h5,h6,h7⟩
theorem A9(h0:p0)(h1:p1)(h2:p2)(h3:p3)(h4:p4)(h5:p5)(h6:p6)(h7:p7)(h8:p8):p0/\p1/\p2/\p3/\p4/\p5/\p6/\p7/\p8:=⟨h0,h1,h2,h3,h4,h5,h6,h7,h8⟩
theorem vm(h0:p0)(h1:p1)(h2:p2)(h3:p3)(h4:p4)(h5:p5)(h6:p6)(h7:p7)(h8:p8)(h9:p9):p0/\p1/\p2/\p3/\p4/\p5/\p6/\p7/\p8/\p9:=⟨h0,h1,h2,h3,h4,h5,h6,h7,h8,h9⟩
theorem JO(h0:p0)(h1:p1)(h2:p2)(h3:p3)(h4:p4)(h5:p5)(h6:p6)(h7:p7)(h8:p8)(h9:p9)(af:ab):p0/\p1/\p2/\p3/\p4/\p5/\p6/\p7/\p8/\p9/\ab:=⟨h0,h1,h2,h3,h4,h5,h6,h7,h8,h9,af⟩
theorem Fi(h0:p0)(h1:p1)(h2:p2)(h3:p3)(h4:p4)(h5:p5)(h6:p6)(h7:p7)(h8:p8)(h9:p9)(ao:ab)(aw:af):p0/\p1/\p2/\p3/\p4/\p5/\p6/\p7/\p8/\p9/\ab/\af:=⟨h0,h1,h2,h3,h4,h5,h6,h7,h8,h9,ao,aw⟩
theorem SJ(h0:p0)(h1:p1)(h2:p2)(h3:p3)(h4:p4)(h5:p5)(h6:p6)(h7:p7)(h8:p8)(h9:p9)(aw:ab)(ax:af)(ay:ao):p0/\p1/\p2/\p3/\p4/\p5/\p6/\p7/\p8/\p9/\ab/\af/\ao:=⟨h0,h1,h2,h3,h4,h5,h6,h7,h8,h9,aw,ax,ay⟩
theorem JP(h0:p0)(h1:p1)(h2:p2)(h3:p3)(h4:p4)(h5:p5)(h6:p6)(h7:p7)(h8:p8)(h9:p9)(ay:ab)(a0:af)(a1:ao)(a3:aw)(a4:ax):p0/\p1/\p2/\p3/\p4/\p5/\p6/\p7/\p8/\p9/\ab/\af/\ao/\aw/\ax:=⟨h0,h1,h2,h3,h4,h5,h6,h7,h8,h9,ay,a0,a1,a3,a4⟩
theorem JQ(h0:p0)(h1:p1)(h2:p2)(h3:p3)(h4:p4)(h5:p5)(h6:p6)(h7:p7)(h8:p8)(h9:p9)(a1:ab)(a3:af)(a4:ao)(a5:aw)(a6:ax)(a7:ay)(bb:a0):p0/\p1/\p2/\p3/\p4/\p5/\p6/\p7/\p8/\p9/\ab/\af/\ao/\aw/\ax/\ay/\a0:=⟨h0,h1,h2,h3,h4,h5,h6,h7,h8,h9,a1,a3,a4,a5,a6,a7,bb⟩
theorem SK(h0:p0)(h1:p1)(h2:p2)(h3:p3)(h4:p4)(h5:p5)(h6:p6)(h7:p7)(h8:p8)(h9:p9)(a4:ab)(a5:af)(a6:ao)(a7:aw)(bb:ax)(bc:ay)(bd:a0)(bm:a1)(bn:a3):p0/\p1/\p2/\p3/\p4/\p5/\p6/\p7/\p8/\p9/\ab/\af/\ao/\aw/\ax/\ay/\a0/\a1/\a3:=⟨h0,h1,h2,h3,h4,h5,h6,h7,h8,h9,a4,a5,a6,a7,bb,bc,bd,bm,bn⟩
theorem SL(h0:p0)(h1:p1)(h2:p2)(h3:p3)(h4:p4)(h5:p5)(h6:p6)(h7:p7)(h8:p8)(h9:p9)(a6:ab)(a7:af)(bb:ao)(bc:aw)(bd:ax)(bm:ay)(bn:a0)(br:a1)(bs:a3)(bt:a4)(bu:a5):p0/\p1/\p2/\p3/\p4/\p5/\p6/\p7/\p8/\p9/\ab/\af/\ao/\aw/\ax/\ay/\a0/\a1/\a3/\a4/\a5:=⟨h0,h1,h2,h3,h4,h5,h6,h7,h8,h9,a6,a7,bb,bc,bd,bm,bn,br,bs,bt,bu⟩
theorem SM{a6 a7 bb:Prop}(h0:p0)(h1:p1)(h2:p2)(h3:p3)(h4:p4)(h5:p5)(h6:p6)(h7:p7)(h8:p8)(h9:p9)(bc:ab)(bd:af)(bm:ao)(bn:aw)(br:ax)(bs:ay)(bt:a0)(bu:a1)(bw:a3)(bx:a4)(bz:a5)(bA:a6)(bB:a7)(bD:bb):p0/\p1/\p2/\p3/\p4/\p5/\p6/\p7/\p8/\p9/\ab/\af/\ao/\aw/\ax/\ay/\a0/\a1/\a3/\a4/\a5/\a6/\a7/\bb:=⟨h0,h1,h2,h3,h4,h5,h6,h7,h8,h9,bc,bd,bm,bn,br,bs,bt,bu,bw,bx,bz,bA,bB,bD⟩
end
section
open Go Go.RowKit
section
variable {a:Act}{β:Nat->Option (Nat×Nat)}{X:Nat->Prop}{v:Value}{w w':World}
inductive AV where
 |any
 |r (v:Value)
 |dt
 |ns (k:IntKind) (xs:List Int)
 |sl (s n:Nat) (cs:List AV)
 |os (id s off len:Nat)
 |ptr (id off:Nat)
 |vp (cs:List AV)
 |agg (cs:List AV)
 |aU (cs:List AV)
 |fn (f:FuncId) (cs:List AV)
instance:Coe Int AV:=⟨λx=>.r (.int .i64 x)⟩
instance:Coe Bool AV:=⟨λx=>.r (.bool x)⟩
instance:Coe (List Int) AV:=⟨λx=>.ns .u64 x⟩
instance:Coe Nat AV:=⟨λb=>.r (.pointer (T' ⟨b,0,Y'⟩))⟩
inductive RI(w:World)(X:Nat->Prop):AV->Value->Prop
 |any (v:Value):RI w X .any v
 |r (v:Value):RI w X (.r v) v
 |dt (a:Option Addr):RI w X .dt (.slice a 0 0)
 |ns (k:IntKind) (xs:List Int) (a:Option Addr) (b o cap:Nat) (hc:xs.length<=cap)
  (ha:0<xs.length->a=T' ⟨b,o,Y'⟩/\¬X b)
  (h:∀i x,xs[i]?=T' x->w.cell? ⟨b,o+i,Y'⟩=T' (.int k x)):RI w X (.ns k xs) (.slice a xs.length cap)
 |sl (s n:Nat) (cs:List AV) (a:Option Addr) (b o cap:Nat) (f:Nat->Value) (hc:n<=cap) (hl:cs.length=n*s)
  (ha:0<cs.length->a=T' ⟨b,o,Y'⟩/\¬X b)
  (h:∀j c,cs[j]?=T' c->w.cell? ⟨b,o+j,Y'⟩=T' (f j))
  (hr:∀j c,cs[j]?=T' c->RI w X c (f j)):RI w X (.sl s n cs) (.slice a n cap)
 |vp (cs:List AV) (b o:Nat) (f:Nat->Value) (ha:0<cs.length->¬X b)
  (h:∀j c,cs[j]?=T' c->w.cell? ⟨b,o+j,Y'⟩=T' (f j))
  (hr:∀j c,cs[j]?=T' c->RI w X c (f j)):RI w X (.vp cs) (.pointer (T' ⟨b,o,Y'⟩))
 |agg (cs:List AV) (vs:Array Value) (f:Nat->Value) (hl:vs.size=cs.length)
  (h:∀j c,cs[j]?=T' c->vs[j]?=T' (f j)) (hr:∀j c,cs[j]?=T' c->RI w X c (f j)):RI w X (.agg cs) (.agg vs)
 |aU (cs:List AV) (vs:Array Value) (f:Nat->Value) (hl:vs.size=cs.length)
  (h:∀j c,cs[j]?=T' c->vs[j]?=T' (f j)) (hr:∀j c,cs[j]?=T' c->RI w X c (f j)):RI w X (.aU cs) (.tuple vs)
 |fn (g:FuncId) (cs:List AV) (vs:Array Value) (f:Nat->Value) (hl:vs.size=cs.length)
  (h:∀j c,cs[j]?=T' c->vs[j]?=T' (f j)) (hr:∀j c,cs[j]?=T' c->RI w X c (f j)):RI w X (.fn g cs) (.func (.func g) #[] vs)
def dZ(X:Nat->Prop)(w w':World):Prop:=
 w.heap.size<=w'.heap.size/\∀b,b<w.heap.size->¬X b->w'.heap[b]?=w.heap[b]?
theorem dZ.refl(X:Nat->Prop)(w:World):dZ X w w:=⟨aM _,λ_ _ _=>rfl⟩
theorem dZ.cell(h:dZ X w w'){b o:Nat}(hx:¬X b)(hv:w.cell? ⟨b,o,Y'⟩=T' v):w'.cell? ⟨b,o,Y'⟩=T' v:=by
 have hb:b<w.heap.size:=nW w ⟨b,o,Y'⟩ hv;rw[<-hv];exact CG (w:=w) (h.2 b hb hx)
theorem RI.cW{X':Nat->Prop}(hk:dZ X w w')(hX:∀b,b<w.heap.size->X' b->X b){c:AV}(h:RI w X c v):RI w' X' c v:=by
 induction h with
 |any v=>exact .any v
 |r v=>exact .r v
 |dt a=>exact .dt a
 |ns k xs a b o cap hc ha h=>
  refine .ns k xs a b o cap hc (λh0=>?_) (λi x hx=>?_)
  .obtain⟨h1,h2⟩:=ha h0
   have hb:=nW w ⟨b,o+0,Y'⟩ (h 0 xs[0] (by simp[h0]));exact⟨h1,λhx=>h2 (hX b hb hx)⟩
  .have h0:0<xs.length:=by
    rcases dQ i xs.length with h'|h'
    .omega
    .simp[iT h']at hx
   exact hk.cell (ha h0).2 (h i x hx)
 |sl s n cs a b o cap f hc hl ha h hr ih=>
  refine .sl s n cs a b o cap f hc hl (λh0=>?_) (λj c hj=>?_) ih
  .obtain⟨h1,h2⟩:=ha h0
   have hb:=nW w ⟨b,o+0,Y'⟩ (h 0 cs[0] (by simp[h0]));exact⟨h1,λhx=>h2 (hX b hb hx)⟩
  .have h0:0<cs.length:=by
    rcases dQ j cs.length with h'|h'
    .omega
    .simp[iT h']at hj
   exact hk.cell (ha h0).2 (h j c hj)
 |vp cs b o f ha h hr ih=>
  refine .vp cs b o f (λh0=>?_) (λj c hj=>?_) ih
  .have h2:=ha h0
   have hb:=nW w ⟨b,o+0,Y'⟩ (h 0 cs[0] (by simp[h0]));exact λhx=>h2 (hX b hb hx)
  .have h0:0<cs.length:=by
    rcases dQ j cs.length with h'|h'
    .omega
    .simp[iT h']at hj
   exact hk.cell (ha h0) (h j c hj)
 |agg cs vs f hl h hr ih=>exact .agg cs vs f hl h ih
 |aU cs vs f hl h hr ih=>exact .aU cs vs f hl h ih
 |fn g cs vs f hl h hr ih=>exact .fn g cs vs f hl h ih
inductive aN where
 |n (k:IntKind) (xs:List Int)
 |c (cs:List AV)
def aN.len:aN->Nat|.n _ xs=>xs.length|.c cs=>cs.length
def aN.val:aN->Nat->Option AV
 |.n k xs,j=>(xs[j]?).map λx=>.r (.int k x)
 |.c cs,j=>cs[j]?
structure cq where
 wr:Bool
 con:aN
structure St where
 fr:List (Nat×AV)
 hp:List (Nat×cq)
def lk{α:Type}:List (Nat×α)->Nat->Option α
 |[],_=>Y'
 |(k,v)::l,t=>if k=t then T' v else lk l t
def del{α:Type}:List (Nat×α)->Nat->List (Nat×α)
 |[],_=>[]
 |(k,v)::l,t=>if k=t then del l t else(k,v)::del l t
theorem nC{α:Type}(l:List (Nat×α))(t u:Nat):lk (del l t) u=if t=u then Y' else lk l u:=by
 induction l with
 |nil=>simp[del,lk]
 |cons p l ih=>
  obtain⟨k,v⟩:=p;simp only[del];split
  .rename_i h;subst h;rw[ih];split<;>rename_i h'<;>simp[lk,h']
  .rename_i h;simp only[lk];split
   .rename_i h';subst h';rw[aq (λe=>h e.symm)]
   .exact ih
def St.get(σ:St)(t:Nat):AV:=(lk σ.fr t).getD .any
def St.ae(σ:St)(id:Nat):Option cq:=lk σ.hp id
def St.put(σ:St)(d:Option Nat)(v:AV):St:=
 match d with
 |some t=>⟨(t,v)::del σ.fr t,σ.hp⟩
 |none=>σ
def St.g7(σ:St)(id:Nat)(b:cq):St:=⟨σ.fr,(id,b)::del σ.hp id⟩
def aD{α:Type}(f:Nat->α)(t:Nat)(v:α):Nat->α:=λu=>if t=u then v else f u
def iq{α:Type}(f:Nat->α)(d:Option Nat)(v:α):Nat->α:=match d with|some t=>aD f t v|none=>f
theorem St.fh(σ:St)(d:Option Nat)(v:AV):(σ.put d v).get=iq σ.get d v:=by
 funext u
 cases d with
 |none=>rfl
 |some t=>
  simp only[St.put,St.get,iq,aD,lk];split
  .rfl
  .rename_i h;rw[nC,aq h]
theorem St.eQ(σ:St)(d:Option Nat)(v:AV):(σ.put d v).ae=σ.ae:=by
 cases d<;>rfl
theorem St.nz(σ:St)(id:Nat)(b:cq):(σ.g7 id b).get=σ.get:=rfl
theorem St.nj(σ:St)(id:Nat)(b:cq):(σ.g7 id b).ae=aD σ.ae id (T' b):=by
 funext u
 simp only[St.g7,St.ae,aD,lk];split
 .rfl
 .rename_i h;rw[nC,aq h]
structure Ctx where
 nt:Nat
 w0:World
 X0:Nat->Prop
 mu:Option (Nat×Nat×Nat)
 ow:Nat->Prop
 df:List Deferred
 bC:Nat->Option Nat
def Ctx.tq(κ:Ctx)(b:Nat):Prop:=b<κ.w0.heap.size/\(κ.ow b->∃lo hi,κ.mu=T' (b,lo,hi))
def XG(κ:Ctx)(β:Nat->Option (Nat×Nat))(G:Nat->Option cq)(b:Nat):Prop:=
 κ.X0 b\/∃id c base,G id=T' ⟨Z',c⟩/\β id=T' (b,base)
structure xp(κ:Ctx)(w:World):Prop where
 os:w.os=κ.w0.os
 tape:w.tape=κ.w0.tape
 output:w.output=κ.w0.output
 size:κ.w0.heap.size<=w.heap.size
 old:∀b,κ.tq b->(∀lo hi,κ.mu≠T' (b,lo,hi))->w.heap[b]?=κ.w0.heap[b]?
 Bj:∀b lo hi,κ.mu=T' (b,lo,hi)->∃C C' e,κ.w0.heap[b]?=T' (.cells C e (0,0))/\w.heap[b]?=T' (.cells C' e (0,0))/\C'.size=C.size/\
  ∀j,¬(lo<=j/\j<hi)->C'[j]?=C[j]?
def RV(κ:Ctx)(β:Nat->Option (Nat×Nat))(G:Nat->Option cq)(w:World):AV->Value->Prop
 |.os id s off len,x=>∃ad cap,x=.slice ad len cap/\len<=cap/\∀ae,G id=T' ae->cap=0\/
  ∃b base C e,β id=T' (b,base)/\ad=T' ⟨b,base+off,Y'⟩/\w.heap[b]?=T' (.cells C e (0,0))/\base+off+cap*s<=C.size
 |.ptr id off,x=>∀ae,G id=T' ae->∃b base,β id=T' (b,base)/\x=.pointer (T' ⟨b,base+off,Y'⟩)
 |v,x=>RI w (XG κ β G) v x
def mV(κ:Ctx)(β:Nat->Option (Nat×Nat))(G:Nat->Option cq)(w:World)(id:Nat)(ae:cq):Prop:=
 (β id=Y'/\ae.con.len=0)\/
 ∃b base C e,β id=T' (b,base)/\w.heap[b]?=T' (.cells C e (0,0))/\base+ae.con.len<=C.size/\
  (∀j c,ae.con.val j=T' c->∃v,C[base+j]?=T' v/\RI w (XG κ β G) c v)/\
  ((¬κ.tq b/\id≠κ.nt)\/∃lo hi,κ.mu=T' (b,lo,hi)/\lo<=base/\base+ae.con.len<=hi/\κ.X0 b/\(id=κ.nt->base=lo))
structure av(κ:Ctx)(β:Nat->Option (Nat×Nat))(F:Nat->AV)(G:Nat->Option cq)(a:Act)(w:World):Prop where
 sz:a.tmps.size=κ.nt
 rel:∀t,RV κ β G w (F t) (a.tmps.getD t undef)
 gp:a.defers=κ.df
 hp:∀id ae,G id=T' ae->mV κ β G w id ae
 sep:∀i j b c x y,i≠j->G i=T' x->G j=T' y->β i=T' (b,c)->∀d,β j≠T' (b,d)
 aQ:xp κ w
 x0:∀b,κ.X0 b->κ.tq b
 bC:∀id b,κ.bC id=T' b->1000000<=id/\κ.nt<id/\β id=T' (b,0)
theorem av.free{κ:Ctx}{F:Nat->AV}{G:Nat->Option cq}(h:av κ β F G a w){id:Nat}(hi:id<1000000\/id<=κ.nt):κ.bC id=none:=by
 cases hp:κ.bC id with
 |none=>rfl
 |some b=>have:=h.bC id b hp;omega
theorem av.ID{κ:Ctx}{F:Nat->AV}{G:Nat->Option cq}(h:av κ β F G a w){d:Nat}(hd:κ.bC d=Y')(x:Option (Nat×Nat)):
 ∀id b,κ.bC id=T' b->1000000<=id/\κ.nt<id/\aD β d x id=T' (b,0):=by
 intro id b hp;have h1:=h.bC id b hp;have:d≠id:=by intro e;subst e;rw[hd]at hp;cases hp
 exact⟨h1.1,h1.2.1,by simp[aD,this,h1.2.2]⟩
end
end
section
open Go Go.RowKit
section
variable {b id nb:Nat}{α:Type}{x:Value}{w1:World}{ae:cq}
def AV.refs(id:Nat):AV->Bool
 |.os i _ _ _=>i==id
 |.ptr i _=>i==id
 |_=>a0a
def AV.one:AV->Bool
 |.r (.agg _)=>a0a
 |.r (.tuple _)=>a0a
 |.r _=>Z'
 |.dt=>Z'
 |.ns _ _=>Z'
 |.sl _ _ _=>Z'
 |.vp _=>Z'
 |.fn _ _=>Z'
 |_=>a0a
theorem RI.one{w:World}{X:Nat->Prop}{c:AV}{v:Value}(h:RI w X c v)(h1:c.one=Z'):v.oneCell'=true:=by
 cases h<;>simp_all[AV.one,Value.oneCell']
 case r=>cases v<;>simp_all
section
variable {κ:Ctx}{β:Nat->Option (Nat×Nat)}{F:Nat->AV}{G:Nat->Option cq}{a:Act}{w w':World}
theorem eu(f:Nat->α)(t:Nat)(v:α):aD f t v t=v:=by simp[aD]
theorem bS(f:Nat->α){t u:Nat}(v:α)(h:t≠u):aD f t v u=f u:=by simp[aD,h]
theorem av.put(h:av κ β F G a w){d:Option Nat}(hd:∀t,d=T' t->t<κ.nt){v:AV}(hv:RV κ β G w v x):
 av κ β (iq F d v) G (a.put d x) w:=by
 cases d with
 |none=>exact h
 |some t=>
  have ht:=hd t rfl;refine⟨?_,λu=>?_,h.gp,h.hp,h.sep,h.aQ,h.x0,h.bC⟩
  .simpa[Act.put]using h.sz
  .simp only[iq,aD,Act.put]
   split
   .rename_i e;subst e
    rw[<-h.sz]at ht;simpa[Array.getD,ht]using hv
   .rename_i e
    have:=h.rel u;simpa[iW,Cb e]using this
theorem RV.cW{κ:Ctx}{β:Nat->Option (Nat×Nat)}{G:Nat->Option cq}{v:AV}(h:RV κ β G w v x)(hb:Below w.heap.size w w'):RV κ β G w' v x:=by
 have hk:dZ (XG κ β G) w w':=⟨hb.size,λb ab _=>hb.block b ab⟩;cases v with
 |os id s off len=>
  obtain⟨ad,cap,h1,h2,h3⟩:=h;refine⟨ad,cap,h1,h2,λae af=>?_⟩;rcases h3 ae af with h3|⟨b,base,C,e,h4,h5,h6,h7⟩
  .exact .inl h3
  .refine .inr ⟨b,base,C,e,h4,h5,?_,h7⟩
   rw[hb.block b]
   .exact h6
   .rcases dQ b w.heap.size with h'|h'
    .exact h'
    .simp[qW h']at h6
 |ptr id off=>exact h
 |_=>exact RI.cW hk (λ_ _ hx=>hx) h
theorem mV.cW(h:mV κ β G w id ae)(hb:Below w.heap.size w w'):mV κ β G w' id ae:=by
 have hk:dZ (XG κ β G) w w':=⟨hb.size,λb ab _=>hb.block b ab⟩;rcases h with h|⟨b,base,C,e,h1,h2,h3,h4,h5⟩
 .exact .inl h
 .refine .inr ⟨b,base,C,e,h1,?_,h3,λj c hj=>?_,h5⟩
  .rw[hb.block b]
   .exact h2
   .rcases dQ b w.heap.size with h'|h'
    .exact h'
    .simp[qW h']at h2
  .obtain⟨v,hv,hr⟩:=h4 j c hj
   exact⟨v,hv,hr.cW hk (λ_ _ hx=>hx)⟩
theorem xp.below(h:xp κ w)(hb:Below w.heap.size w w'):xp κ w':=by
 refine⟨hb.os.trans h.os,hb.tape.trans h.tape,hb.output.trans h.output,fC h.size hb.size,λb ab hm=>?_,λb lo hi hm=>?_⟩
 .rw[hb.block b (da ab.1 h.size)];exact h.old b ab hm
 .obtain⟨C,C',e,h1,h2,h3,h4⟩:=h.Bj b lo hi hm
  refine⟨C,C',e,h1,?_,h3,h4⟩;rw[hb.block b]
  .exact h2
  .rcases dQ b w.heap.size with h'|h'
   .exact h'
   .simp[qW h']at h2
theorem av.below(h:av κ β F G a w)(hb:Below w.heap.size w w'):av κ β F G a w':=
 ⟨h.sz,λt=>(h.rel t).cW hb,h.gp,λid ae hi=>(h.hp id ae hi).cW hb,h.sep,h.aQ.below hb,h.x0,h.bC⟩
theorem XG.dS{G':Nat->Option cq}(hG:∀id c,G' id=T' ⟨Z',c⟩->∃c',G id=T' ⟨Z',c'⟩)(h:XG κ β G' b):XG κ β G b:=by
 rcases h with h|⟨id,c,base,h1,h2⟩
 .exact .inl h
 .obtain⟨c',h3⟩:=hG id c h1
  exact .inr ⟨id,c',base,h3,h2⟩
def settle(G:Nat->Option cq)(id:Nat):Nat->Option cq:=λi=>if i=id then(G i).map λb=>⟨a0a,b.con⟩else G i
theorem xb{i:Nat}(h:settle G id i=T' ae):∃ab,G i=T' ab/\ab.con=ae.con/\(ae.wr=Z'->ab=ae):=by
 unfold settle at h;split at h
 .cases hg:G i with
  |none=>simp[hg]at h
  |some b=>simp[hg]at h;subst h;exact⟨b,rfl,rfl,λh=>by simp at h⟩
 .exact⟨ae,h,rfl,λ_=>rfl⟩
theorem XG.settle(h:XG κ β (settle G id) b):XG κ β G b:=
 XG.dS (λi c hi=>by
  obtain⟨b',h1,h2,h3⟩:=xb hi;have:=h3 rfl;subst this;exact⟨c,h1⟩) h
theorem RV.settle{v:AV}(h:RV κ β G w v x):RV κ β (settle G id) w v x:=by
 cases v with
 |os i s off len=>
  obtain⟨ad,cap,h1,h2,h3⟩:=h;refine⟨ad,cap,h1,h2,λae ab=>?_⟩;obtain⟨b',h4,h5,_⟩:=xb ab;exact h3 b' h4
 |ptr i off=>
  intro ae ab;obtain⟨b',h4,h5,_⟩:=xb ab;exact h b' h4
 |_=>exact RI.cW (dZ.refl _ _) (λ_ _ hx=>hx.settle) h
theorem av.settle(h:av κ β F G a w)(id:Nat):av κ β F (settle G id) a w:=by
 refine⟨h.sz,λt=>(h.rel t).settle,h.gp,λi ae hi=>?_,λi j b c x y ab hx hy hb d=>?_,h.aQ,h.x0,h.bC⟩
 .obtain⟨b',h4,h5,_⟩:=xb hi
  have:=h.hp i b' h4;unfold mV at*;rw[h5]at this;rcases this with h6|⟨b,base,C,e,h1,h2,h3,h4,h5⟩
  .exact .inl h6
  .exact .inr ⟨b,base,C,e,h1,h2,h3,λj c hj=>by
    obtain⟨v,hv,hr⟩:=h4 j c hj;exact⟨v,hv,hr.cW (dZ.refl _ _) (λ_ _ hx=>hx.settle)⟩,h5⟩
 .obtain⟨x',h4,_,_⟩:=xb hx
  obtain⟨y',h5,_,_⟩:=xb hy;exact h.sep i j b c x' y' ab h4 h5 hb d
theorem mV.lt{base:Nat}(h:mV κ β G w id ae)(hb:β id=T' (b,base)):b<w.heap.size:=by
 rcases h with h|⟨b',ab,C,e,h1,h2,_⟩
 .rw[hb]at h;cases h.1
 .rw[hb]at h1
  simp only[aC,db]at h1;obtain⟨rfl,rfl⟩:=h1;rcases dQ b w.heap.size with h'|h'
  .exact h'
  .simp[qW h']at h2
theorem av.KT(h:av κ β F G a w){o:Nat}(a6:κ.bC id=Y')(ab:id≠κ.nt)(a1:∀t,(F t).refs id=a0a)(hb:Below w.heap.size w w1)(a4:w.heap.size<=nb)(C:Array Value)(e:TypeId)(con:aN)(hl:o+con.len<=C.size)(a5:w1.heap[nb]?=T' (.cells C e (0,0)))(hc:∀j c,con.val j=T' c->∃v,C[o+j]?=T' v/\RI w (XG κ β G) c v):
 av κ (aD β id (T' (nb,o))) F (aD G id (T' ⟨Z',con⟩)) a w1:=by
 have h':=h.below hb;have hX:∀b,b<w.heap.size->XG κ (aD β id (T' (nb,o))) (aD G id (T' ⟨Z',con⟩)) b->XG κ β G b:=by
  intro b hb hx;rcases hx with hx|⟨i,c,base,h1,h2⟩
  .exact .inl hx
  .by_cases hi:id=i
   .subst hi
    rw[eu]at h2;simp only[aC,db]at h2;omega
   .rw[bS _ _ hi]at h1 h2
    exact .inr ⟨i,c,base,h1,h2⟩
 have ax:∀c v,RI w (XG κ β G) c v->RI w1 (XG κ (aD β id (T' (nb,o))) (aD G id (T' ⟨Z',con⟩))) c v:=
  λc v hr=>hr.cW ⟨hb.size,λb a0 _=>hb.block b a0⟩ hX
 refine⟨h.sz,λt=>?_,h.gp,λi ae hi=>?_,λi j b c x y ay hx hy af d ao=>?_,h'.aQ,h.x0,h.ID a6 _⟩
 .have ht:=h.rel t
  have bb:=h'.rel t;have hr:=a1 t;generalize F t=v at*;cases v with
  |os i s off len=>
   have ab:id≠i:=by intro e;subst e;simp[AV.refs]at hr
   obtain⟨ad,cap,h1,h2,h3⟩:=bb;refine⟨ad,cap,h1,h2,λae aw=>?_⟩;rw[bS _ _ ab]at aw;rcases h3 ae aw with h3|⟨b,base,C',e',h4,h5,h6,h7⟩
   .exact .inl h3
   .exact .inr ⟨b,base,C',e',by rw[bS _ _ ab];exact h4,h5,h6,h7⟩
  |ptr i off=>
   have ab:id≠i:=by intro e;subst e;simp[AV.refs]at hr
   intro ae aw;rw[bS _ _ ab]at aw;obtain⟨b,base,h1,h2⟩:=ht ae aw;exact⟨b,base,by rw[bS _ _ ab];exact h1,h2⟩
  |_=>exact ax _ _ ht
 .by_cases hii:id=i
  .subst hii
   rw[eu]at hi;simp only[aC]at hi;subst hi;refine .inr ⟨nb,o,C,e,eu _ _ _,a5,hl,λj c hj=>?_,.inl ⟨λho=>FN _ (da ho.1 (fC h.aQ.size a4)),ab⟩⟩;obtain⟨v,hv,hr⟩:=hc j c hj;exact⟨v,hv,ax _ _ hr⟩
  .rw[bS _ _ hii]at hi
   rcases h'.hp i ae hi with h6|⟨b,base,C',e',h1,h2,h3,h4,h5⟩
   .exact .inl ⟨by rw[bS _ _ hii];exact h6.1,h6.2⟩
   .refine .inr ⟨b,base,C',e',by rw[bS _ _ hii];exact h1,h2,h3,λj c hj=>?_,h5⟩
    obtain⟨v,hv,hr⟩:=h4 j c hj;refine⟨v,hv,?_⟩;rcases h.hp i ae hi with h6|⟨b2,bd,C2,e2,g1,g2,g3,g4,g5⟩
    .rw[h1]at h6;cases h6.1
    .rw[h1]at g1
     simp only[aC,db]at g1;obtain⟨rfl,rfl⟩:=g1;obtain⟨v',bc,a7⟩:=g4 j c hj;have a3:b<w.heap.size:=(h.hp i ae hi).lt h1;rw[hb.block b a3,g2]at h2;simp only[aC,ma]at h2;obtain⟨rfl,rfl,_⟩:=h2;rw[bc]at hv;simp only[aC]at hv;subst hv;exact ax _ _ a7
 .by_cases hii:id=i
  .subst hii
   rw[eu]at af;simp only[aC,db]at af;rw[bS _ _ ay]at hy ao;have:=(h.hp j y hy).lt ao;omega
  .by_cases hjj:id=j
   .subst hjj
    rw[eu]at ao;simp only[aC,db]at ao;rw[bS _ _ hii]at hx af;have:=(h.hp i x hx).lt af;omega
   .rw[bS _ _ hii]at hx af
    rw[bS _ _ hjj]at hy ao;exact h.sep i j b c x y ay hx hy af d ao
theorem av.TI(h:av κ β F G a w)(ax:κ.bC id=Y')(ao:id≠κ.nt)(ab:∀t,(F t).refs id=a0a)(hb:Below w.heap.size w w1)(af:w.heap.size<=nb)(C:Array Value)(e:TypeId)(con:aN)(hl:con.len<=C.size)(aw:w1.heap[nb]?=T' (.cells C e (0,0)))(hc:∀j c,con.val j=T' c->∃v,C[j]?=T' v/\RI w (XG κ β G) c v):
 av κ (aD β id (T' (nb,0))) F (aD G id (T' ⟨Z',con⟩)) a w1:=
 h.KT ax ao ab hb af C e con (by simpa using hl) aw (λj c hj=>by simpa using hc j c hj)
theorem av.fresh(h:av κ β F G a w)(ao:κ.bC id=Y')(af:id≠κ.nt)(ab:∀t,(F t).refs id=a0a)(C:Array Value)(e:TypeId)(con:aN)(hl:con.len<=C.size)(hc:∀j c,con.val j=T' c->∃v,C[j]?=T' v/\RI w (XG κ β G) c v):
 av κ (aD β id (T' (w.heap.size,0))) F (aD G id (T' ⟨Z',con⟩)) a (w.alloc (.cells C e)):=
 h.TI ao af ab ((iX _ _).alloc (aM _) _) (aM _) C e con hl (by
  show(w.heap.push _)[w.heap.size]?=_;simp) hc
end
end
end
section
open Go Go.RowKit
section
variable {b base id j o:Nat}{v:Value}{w:World}
section
variable {κ:Ctx}{β:Nat->Option (Nat×Nat)}{F:Nat->AV}{G:Nat->Option cq}{a:Act}{w w':World}
structure vG(w w':World)(b lo hi:Nat):Prop where
 os:w'.os=w.os
 tape:w'.tape=w.tape
 output:w'.output=w.output
 size:w.heap.size<=w'.heap.size
 old:∀k,k<w.heap.size->k≠b->w'.heap[k]?=w.heap[k]?
 row:∀C e,w.heap[b]?=T' (.cells C e (0,0))->∃C',w'.heap[b]?=T' (.cells C' e (0,0))/\C'.size=C.size/\
  ∀j,¬(lo<=j/\j<hi)->C'[j]?=C[j]?
theorem lt_of_block{o:Obj}(h:w.heap[b]?=T' o):b<w.heap.size:=by
 rcases dQ b w.heap.size with h'|h'
 .exact h'
 .simp[qW h']at h
theorem av.own(h:av κ β F G a w){lo hi:Nat}{con con':aN}(hG:G id=T' ⟨Z',con⟩)(ay:β id=T' (b,base))(hw:vG w w' b lo hi)(bE:base<=lo)(bA:hi<=base+con'.len)(hlen:con.len<=con'.len/\(con'.len=con.len\/(¬κ.tq b/\∀C e,w.heap[b]?=T' (.cells C e (0,0))->base+con'.len<=C.size)))(hc:∀C',(∃e,w'.heap[b]?=T' (.cells C' e (0,0)))->∀j c,con'.val j=T' c->∃v,C'[base+j]?=T' v/\RI w (XG κ β G) c v):
 av κ β F (aD G id (T' ⟨Z',con'⟩)) a w':=by
 have hX:∀k,XG κ β (aD G id (T' ⟨Z',con'⟩)) k->XG κ β G k:=λk hk=>XG.dS (λi c hi=>by
  by_cases e:id=i
  .subst e;exact⟨con,hG⟩
  .rw[bS _ _ e]at hi;exact⟨c,hi⟩) hk
 have bd:XG κ β G b:=.inr ⟨id,con,base,hG,ay⟩;have hk:dZ (XG κ β G) w w':=⟨hw.size,λk hk hx=>hw.old k hk (λe=>hx (e▸bd))⟩;have a7:∀c v,RI w (XG κ β G) c v->RI w' (XG κ β (aD G id (T' ⟨Z',con'⟩))) c v:=λc v hr=>hr.cW hk (λk _ hx=>hX k hx)
 have ab:=h.hp id _ hG;have bt:∃C e,w.heap[b]?=T' (.cells C e (0,0))/\base+con.len<=C.size/\((¬κ.tq b/\id≠κ.nt)\/∃lo hi,κ.mu=T' (b,lo,hi)/\lo<=base/\base+con.len<=hi/\κ.X0 b/\(id=κ.nt->base=lo)):=by
  rcases ab with h6|⟨b2,ao,C,e,h1,h2,h3,h4,h5⟩
  .rw[ay]at h6;cases h6.1
  .rw[ay]at h1
   simp only[aC,db]at h1;obtain⟨rfl,rfl⟩:=h1;exact⟨C,e,h2,h3,h5⟩
 obtain⟨C,e,hC,bx,a5⟩:=bt;obtain⟨C',a1,bc,bb⟩:=hw.row C e hC;have bz:b<w.heap.size:=lt_of_block hC;refine⟨h.sz,λt=>?_,h.gp,λi ae hi=>?_,λi j b c x y bs hx hy bm d bn=>?_,?_,h.x0,h.bC⟩
 .have ht:=h.rel t
  generalize F t=v at*;cases v with
  |os i s off len=>
   obtain⟨ad,cap,h1,h2,h3⟩:=ht;refine⟨ad,cap,h1,h2,λae ab=>?_⟩;have hex:∃a3,G i=T' a3:=by
    by_cases e:id=i
    .subst e;exact⟨_,hG⟩
    .rw[bS _ _ e]at ab;exact⟨_,ab⟩
   obtain⟨a3,br⟩:=hex;rcases h3 a3 br with h3|⟨b2,ao,C2,e2,h4,h5,h6,h7⟩
   .exact .inl h3
   .by_cases hb2:b2=b
    .subst hb2
     rw[hC]at h6;simp only[aC,ma]at h6;obtain⟨rfl,rfl,_⟩:=h6;exact .inr ⟨b2,ao,C',e,h4,h5,a1,f'⟩
    .exact .inr ⟨b2,ao,C2,e2,h4,h5,by rw[hw.old b2 (lt_of_block h6) hb2];exact h6,h7⟩
  |ptr i off=>
   intro ae ab
   by_cases e:id=i
   .subst e;exact ht _ hG
   .rw[bS _ _ e]at ab;exact ht _ ab
  |_=>exact a7 _ _ ht
 .by_cases hii:id=i
  .subst hii
   rw[eu]at hi;simp only[aC]at hi;subst hi;have hle:base+con'.len<=C.size:=by
    rcases hlen.2 with h6|h6
    .omega
    .exact h6.2 C e hC
   refine .inr ⟨b,base,C',e,ay,a1,by simpa[bc]using hle,λj c hj=>?_,?_⟩
   .obtain⟨v,hv,hr⟩:=hc C' ⟨e,a1⟩ j c hj
    exact⟨v,hv,a7 _ _ hr⟩
   .rcases a5 with h6|⟨a0,ax,h6,h7,h8,h9⟩
    .exact .inl h6
    .rcases hlen.2 with aw|aw
     .exact .inr ⟨a0,ax,h6,h7,by simp only[];omega,h9⟩
     .exact absurd (h.x0 b h9.1) aw.1
  .rw[bS _ _ hii]at hi
   rcases h.hp i ae hi with h6|⟨b2,ao,C2,e2,h1,h2,h3,h4,h5⟩
   .exact .inl h6
   .have a6:b2≠b:=by
     intro e;subst e;exact h.sep id i b2 base _ _ hii hG hi ay ao h1
    refine .inr ⟨b2,ao,C2,e2,h1,?_,h3,λj c hj=>?_,h5⟩
    .rw[hw.old b2 (lt_of_block h2) a6];exact h2
    .obtain⟨v,hv,hr⟩:=h4 j c hj
     exact⟨v,hv,a7 _ _ hr⟩
 .have hex:∀i x,aD G id (T' ⟨Z',con'⟩) i=T' x->∃x',G i=T' x':=by
   intro i x hx
   by_cases e:id=i
   .subst e;exact⟨_,hG⟩
   .rw[bS _ _ e]at hx;exact⟨_,hx⟩
  obtain⟨x',bu⟩:=hex i x hx;obtain⟨y',bw⟩:=hex j y hy;exact h.sep i j b c x' y' bs bu bw bm d bn
 .have af:=h.aQ
  refine⟨hw.os.trans af.os,hw.tape.trans af.tape,hw.output.trans af.output,fC af.size hw.size,λk a4 hm=>?_,λk a0 ax hm=>?_⟩
  .have a6:k≠b:=by
    intro e;subst e;rcases a5 with h6|⟨a0,ax,h6,_⟩
    .exact h6.1 a4
    .exact hm a0 ax h6
   rw[hw.old k (da a4.1 af.size) a6];exact af.old k a4 hm
  .obtain⟨D,D',f,d1,d2,d3,d4⟩:=af.Bj k a0 ax hm
   by_cases hkb:k=b
   .subst hkb
    rw[hC]at d2;simp only[aC,ma]at d2;obtain⟨rfl,rfl,_⟩:=d2;refine⟨D,C',e,d1,a1,f',λj hj=>?_⟩;rw[bb j,d4 j hj];intro bD;rcases a5 with h6|⟨bF,bB,h6,h7,h8,h9⟩
    .exact absurd ⟨lt_of_block d1,λ_=>⟨_,_,hm⟩⟩ h6.1
    .rw[h6]at hm
     simp only[aC,db]at hm;obtain⟨_,rfl,rfl⟩:=hm;rcases hlen.2 with aw|aw
     .omega
     .exact absurd ⟨lt_of_block d1,λ_=>⟨_,_,h6⟩⟩ aw.1
   .exact⟨D,D',f,d1,by rw[hw.old k (lt_of_block d2) hkb];exact d2,d3,d4⟩
def aN.put:aN->Nat->AV->Option aN
 |.n k xs,j,.r (.int k' x)=>if k=k' then T' (.n k (xs.set j x))else Y'
 |.n _ _,_,_=>Y'
 |.c cs,j,v=>if v.one then T' (.c (cs.set j v))else Y'
theorem aN.Qe{con con':aN}{v:AV}(h:con.put j v=T' con'):
 v.one=Z'/\con'.len=con.len/\∀i,con'.val i=if i=j/\j<con.len then T' v else con.val i:=by
 cases con with
 |n k xs=>
  cases v with
  |r x=>
   cases x with
   |int k' x=>
    simp only[aN.put]at h;split at h
    .rename_i e;subst e
     simp only[aC]at h;subst h;refine⟨rfl,by simp[aN.len],λi=>?_⟩;simp only[aN.val,aN.len,qf]
     by_cases hij:j=i
     .subst hij
      by_cases hj:j<xs.length<;>simp[hj]
     .have:¬i=j:=λe=>hij e.symm
      simp[hij,this]
    .cases h
   |_=>simp[aN.put]at h
  |_=>simp[aN.put]at h
 |c cs=>
  simp only[aN.put]at h;split at h
  .rename_i e
   simp only[aC]at h;subst h;refine⟨e,by simp[aN.len],λi=>?_⟩;simp only[aN.val,aN.len,qf]
   by_cases hij:j=i
   .subst hij
    by_cases hj:j<cs.length<;>simp[hj]
   .have:¬i=j:=λe=>hij e.symm
    simp[hij,this]
  .cases h
theorem acp:vG w (w.setCell ⟨b,o,Y'⟩ v) b o (o+1):=by
 refine⟨rfl,rfl,rfl,by simp[World.setCell],λk hk hb=>tU _ _ _ _ hb,λC e hC=>?_⟩;refine⟨C.setIfInBounds o v,?_,J',λj hj=>?_⟩
 .simp[World.setCell,xm,hC]
 .rw[Cb f']
theorem cell_of_block{C:Array Value}{e:TypeId}{fz:Nat×Nat}(h:w.heap[b]?=T' (.cells C e fz)):w.cell? ⟨b,o,Y'⟩=C[o]?:=by
 simp[World.cell?,h]
theorem av.store(h:av κ β F G a w){con con':aN}{c:AV}(hG:G id=T' ⟨Z',con⟩)(af:β id=T' (b,base))(hj:j<con.len)(hp:con.put j c=T' con')(hr:RI w (XG κ β G) c v):
 (∃u,w.cell? ⟨b,base+j,Y'⟩=T' u)/\w.frozen? ⟨b,base+j,Y'⟩=a0a/\v.oneCell'=Z'/\
 av κ β F (aD G id (T' ⟨Z',con'⟩)) a (w.setCell ⟨b,base+j,Y'⟩ v):=by
 obtain⟨h1,h2,h3⟩:=aN.Qe hp;have aw:=h.hp id _ hG;rcases aw with h6|⟨b2,a0,C,e,g1,g2,g3,g4,g5⟩
 .rw[af]at h6;cases h6.1
 .rw[af]at g1
  simp only[aC,db]at g1;obtain⟨rfl,rfl⟩:=g1;simp only at g3;refine⟨⟨C[base+j]'(f'),by rw[cell_of_block g2,sc]⟩,?_,hr.one h1,?_⟩
  .simp[World.frozen?,g2]
  .refine h.own hG af (acp (o:=base+j)) f' f' ⟨f',.inl h2⟩ ?_
   intro C' ⟨e',hC'⟩ i c' hi;have ao:C'=C.setIfInBounds (base+j) v:=by
    have:(w.setCell ⟨b,base+j,Y'⟩ v).heap[b]?=T' (.cells (C.setIfInBounds (base+j) v) e (0,0)):=by
     simp[World.setCell,xm,g2]
    rw[this]at hC';simp only[aC,ma]at hC';exact hC'.1.symm
   subst ao;rw[h3]at hi;split at hi
   .rename_i ab
    obtain⟨rfl,_⟩:=ab;simp only[aC]at hi;subst hi;refine⟨v,?_,hr⟩;rw[SS f']
   .rename_i ab
    obtain⟨v',ay,ax⟩:=g4 i c' hi;refine⟨v',?_,ax⟩;rw[Cb]
    .exact ay
    .intro e
     apply ab;have:i=j:=f';exact⟨this,hj⟩
end
end
end
section
open Go Go.RowKit
structure aL where
 sl:TypeId->Option (TypeId×Nat×Nat)
 nk:TypeId->Option IntKind
 vr:TypeId->Option (Option Nat)
 zr:TypeId->Option (List AV)
 fo:TypeId->Nat->Option Nat
 fa:TypeId->Nat->Option (Nat×Nat)
 st:TypeId->Option (List (Nat×Nat))
 ik:TypeId->Option IntKind
 str:TypeId->Bool
 bl:TypeId->Bool
 mi:TypeId->Bool
 mt:TypeId->String->Option FuncId
 ar:TypeId->Option Nat
 mu:Bool
structure Sp where
 kind:Nat
 pre:List AV->Prop
 res:List AV->AV
def ofConst(v:Value):AV:=
 match v with
 |.slice Y' n c=>if n=0/\c=0 then .dt else .r v
 |.func (.func f) first caps=>if first=#[]/\caps=#[]then .fn f []else .r v
 |v=>.r v
def ev(F:Nat->AV):Operand->AV
 |.tmp t=>F t
 |.const v=>ofConst v
 |.global _=>.any
 |.func f=>.fn f []
def AV.cells:AV->Option (List AV)
 |.agg cs=>T' cs
 |v=>if v.one then T' [v]else Y'
def bin(T:aL)(t:TypeId)(op:BinOp)(x y:AV):Prop×AV:=
 match x,y with
 |.r (.int k a),.r (.int k' b)=>
  match op with
  |.add=>(k=k',.r (.int k (k.wrap (a+b))))
  |.sub=>(k=k',.r (.int k (k.wrap (a-b))))
  |.mul=>(k=k',.r (.int k (k.wrap (a*b))))
  |.quo=>(k=k'/\b≠0,.r (.int k (k.wrap (a.tdiv b))))
  |.rem=>(k=k'/\b≠0,.r (.int k (a.tmod b)))
  |.and=>(k=k',.r (.int k (bits .and k a b)))
  |.or=>(k=k',.r (.int k (bits .or k a b)))
  |.xor=>(k=k',.r (.int k (bits .xor k a b)))
  |.andNot=>(k=k',.r (.int k (bits .andNot k a b)))
  |.shl=>(0<=b,.r (.int k (k.wrap (a*2^(min b.toNat k.bits)))))
  |.shr=>(0<=b,.r (.int k (a.fdiv (2^(min b.toNat k.bits)))))
  |.eql=>(k=k',(a==b:Bool))
  |.neq=>(k=k',(a !=b:Bool))
  |.lss=>(k=k',decide (a<b))
  |.leq=>(k=k',decide (a<=b))
  |.gtr=>(k=k',decide (a>b))
  |.geq=>(k=k',decide (a>=b))
 |.r (.string a),.r (.string b)=>
  match op with
  |.add=>(((a.size+b.size:Nat):Int)<=9223372036854775807,.r (.string (a++b)))
  |.eql=>(True,(a.toList==b.toList:Bool))
  |.neq=>(True,(!(a.toList==b.toList):Bool))
  |_=>(False,.any)
 |.r (.bool a),.r (.bool b)=>
  match op with
  |.eql=>(T.bl t=Z',(a==b:Bool))
  |.neq=>(T.bl t=Z',(!(a==b):Bool))
  |_=>(False,.any)
 |_,_=>(False,.any)
def un(op:UnOp)(x:AV):Prop×AV:=
 match op,x with
 |.not,.r (.bool b)=>(True,(!b:Bool))
 |.neg,.r (.int k n)=>(True,.r (.int k (k.wrap (0-n))))
 |.xor,.r (.int k n)=>(True,.r (.int k (bits .xor k (if k.signed then -1 else k.max) n)))
 |_,_=>(False,.any)
def ml(T:aL)(t:TypeId)(con:aN)(off:Nat):Prop×AV:=
 match T.vr t,con with
 |some Y',.n k xs=>(off<xs.length,.r (.int k (xs.getD off 0)))
 |some Y',.c cs=>(off<cs.length,cs.getD off .any)
 |some (T' n),.c cs=>(off+n<=cs.length,.agg ((cs.drop off).take n))
 |_,_=>(False,.any)
def dI:AV->Option Int
 |.r (.int _ n)=>T' n
 |_=>Y'
def idx(T:aL)(G:Nat->Option cq)(t:TypeId)(x i:AV):Prop×AV:=
 match T.sl t with
 |none=>match T.ar t,dI i with
  |some n,T' i=>match x with
   |.ptr id off=>(0<=i/\i.toNat<n/\(G id).isSome=Z',.ptr id (off+i.toNat))
   |_=>(False,.any)
  |_,_=>(False,.any)
 |some (_,s',_)=>match dI i with
  |none=>(False,.any)
  |some i=>match x with
   |.ns k xs=>(s'=1/\0<=i/\i.toNat<xs.length,.vp [.r (.int k (xs.getD i.toNat 0))])
   |.sl s n cs=>(0<=i/\i.toNat<n/\s=s'/\0<s,.vp ((cs.drop (i.toNat*s)).take s))
   |.os id s off len=>(0<=i/\i.toNat<len/\s=s'/\(G id).isSome=Z',.ptr id (off+i.toNat*s))
   |_=>(False,.any)
def oy(T:aL)(t:TypeId)(x:AV):Prop×AV:=
 match x with
 |.dt=>((T.sl t).isSome=Z',(0:Int))
 |.ns _ xs=>((T.sl t).isSome=Z',.r (.int .i64 (xs.length:Nat)))
 |.sl _ n _=>((T.sl t).isSome=Z',.r (.int .i64 (n:Nat)))
 |.os _ _ _ len=>((T.sl t).isSome=Z',.r (.int .i64 (len:Nat)))
 |.r (.string s)=>(T.str t=Z',.r (.int .i64 (s.size:Nat)))
 |_=>(False,.any)
def gJ(T:aL)(t:TypeId)(x:AV)(lo hi mx:Option (Option Int)):Prop×AV:=
 let l:Int:=(lo.getD (T' 0)).getD (-1)
 match x with
 |.ns k xs=>
  let h:Int:=(hi.getD (T' (xs.length:Nat))).getD (-1)
  match mx with
  |none=>(0<=l/\l<=h/\h<=(xs.length:Nat)/\∃e b,T.sl t=T' (e,1,b),.ns k ((xs.take h.toNat).drop l.toNat))
  |some q=>(q=T' 0/\hi=T' (T' 0)/\l=0/\∃e b,T.sl t=T' (e,1,b),.dt)
 |.sl s n cs=>
  let h:Int:=(hi.getD (T' (n:Nat))).getD (-1)
  match mx with
  |none=>(0<=l/\l<=h/\h<=(n:Nat)/\∃e b,T.sl t=T' (e,s,b),.sl s (h-l).toNat ((cs.take (h.toNat*s)).drop (l.toNat*s)))
  |_=>(False,.any)
 |.os id s off len=>
  let h:Int:=(hi.getD (T' (len:Nat))).getD (-1)
  let m:Int:=(mx.getD (T' (len:Nat))).getD (-1)
  (0<=l/\l<=h/\h<=m/\m<=(len:Nat)/\(mx.isNone||hi.isSome)=Z'/\∃e b,T.sl t=T' (e,s,b),.os id s (off+l.toNat*s) (h-l).toNat)
 |.r (.string s)=>
  let h:Int:=(hi.getD (T' (s.size:Nat))).getD (-1)
  match mx with
  |none=>(0<=l/\l<=h/\h<=(s.size:Nat)/\T.str t=Z',.r (.string (s.extract l.toNat h.toNat)))
  |_=>(False,.any)
 |_=>(False,.any)
def xQ(T:aL)(t:TypeId)(x:AV):AV:=
 match x with
 |.dt=>match T.nk t with|some k=>.ns k []|none=>.dt
 |x=>x
def AV.im:AV->Bool
 |.os _ _ _ _=>a0a
 |.ptr _ _=>a0a
 |_=>Z'
def cS(T:aL)(F:Nat->AV):List Operand->List TypeId->List AV
 |x::xs,t::ts=>xQ T t (ev F x)::cS T F xs ts
 |x::xs,[]=>ev F x::cS T F xs []
 |[],_=>[]
def mI(S:FuncId->Option Sp)(f:AV)(args:List AV):Prop×AV:=
 match f with
 |.fn g caps=>match S g with
  |some sp=>(sp.kind=0/\args.all AV.im=Z'/\sp.pre (args++caps),sp.res (args++caps))
  |none=>(False,.any)
 |_=>(False,.any)
def wJ(T:aL)(t:TypeId)(x:AV):Prop×AV:=
 match x with
 |.agg []=>(T.mi t=Z',.r (.iface t (.agg #[])))
 |.agg [.r v]=>(T.mi t=Z',.r (.iface t (.agg #[v])))
 |_=>(False,.any)
def Bi(t:TypeId)(m:String)(T:aL)(l:List Value):Option (FuncId×AV):=
 match l with
 |[]=>(T.mt t m).map λg=>(g,.agg [])
 |[v]=>(T.mt t m).map λg=>(g,.agg [.r v])
 |_=>Y'
def D4(T:aL)(m:String)(x:AV):Option (FuncId×AV):=
 match x with
 |.r (.iface t (.agg vs))=>Bi t m T vs.toList
 |_=>Y'
def wg(S:FuncId->Option Sp)(x:Option (FuncId×AV))(args:List AV):Prop×AV:=
 match x with
 |some (g,r)=>mI S (.fn g []) (r::args)
 |none=>(False,.any)
def uC(places:List (Nat×Nat))(cells:List AV):List (Nat×AV)->Option (List AV)
 |[]=>T' cells
 |(i,v)::rest=>
  match places[i]?,v.cells with
  |some (off,size),T' vs=>
   if vs.length=size/\off+size<=cells.length then uC places (cells.take off++vs++cells.drop (off+size)) rest else Y'
  |_,_=>Y'
def qv(T:aL)(S:FuncId->Option Sp)(F:Nat->AV)(G:Nat->Option cq)(o:Oper):Prop×AV:=
 match o.op with
 |.move x=>(True,ev F x)
 |.assign x=>(True,ev F x)
 |.pick c a b=>match ev F c with
  |.r (.bool t)=>(True,if t then ev F a else ev F b)
  |_=>(False,.any)
 |.load t a=>match ev F a with
  |.vp cs=>ml T t (.c cs) 0
  |.ptr id off=>match G id with
   |some ae=>ml T t ae.con off
   |none=>(False,.any)
  |_=>(False,.any)
 |.nilCheck x=>match ev F x with
  |.vp cs=>(True,.vp cs)
  |.fn f cs=>(True,.fn f cs)
  |.ptr id off=>((G id).isSome=Z',.ptr id off)
  |_=>(False,.any)
 |.binOp op t x y _=>bin T t op (ev F x) (ev F y)
 |.unOp op _ x=>un op (ev F x)
 |.convert s d x=>match ev F x,T.ik s,T.ik d with
  |.r (.int _ n),T' _,T' k=>(True,.r (.int k (k.wrap n)))
  |_,_,_=>(False,.any)
 |.fieldAddr s x f=>match T.fo s f with
  |none=>(False,.any)
  |some d=>match ev F x with
   |.ptr id off=>((G id).isSome=Z',.ptr id (off+d))
   |.vp cs=>(d<cs.length,.vp (cs.drop d))
   |_=>(False,.any)
 |.field s x f=>match T.fa s f,ev F x with
  |some (d,n),.agg cs=>(d+n<=cs.length,.agg ((cs.drop d).take n))
  |_,_=>(False,.any)
 |.indexAddr t x i=>idx T G t (ev F x) (ev F i)
 |.index t x i=>match ev F x,dI (ev F i)with
  |.r (.string s),T' i=>(T.str t=Z'/\0<=i/\i.toNat<s.size,.r (.int .u8 (s.data.getD i.toNat 0).toNat))
  |.agg cs,T' i=>(T.ar t=T' cs.length/\0<=i/\i.toNat<cs.length/\(cs.getD i.toNat .any).im=Z',cs.getD i.toNat .any)
  |_,_=>(False,.any)
 |.slice t x lo hi mx=>gJ T t (ev F x) (lo.map λv=>dI (ev F v)) (hi.map λv=>dI (ev F v)) (mx.map λv=>dI (ev F v))
 |.extract x i=>match ev F x with
  |.aU cs=>(i<cs.length,cs.getD i .any)
  |_=>(False,.any)
 |.build t ps=>match T.zr t,T.st t with
  |some z,T' places=>match uC places z (ps.toList.map λp=>(p.1,ev F p.2))with
   |some cs=>(True,.agg cs)
   |none=>(False,.any)
  |_,_=>(False,.any)
 |.call c=>match c.callee with
  |.builtin .len=>match c.args.toList,c.argTypes.toList with
   |[x],[t]=>oy T t (ev F x)
   |_,_=>(False,.any)
  |.builtin .min=>match c.args.toList with
   |[x,y]=>match ev F x,ev F y with
    |.r (.int k a),.r (.int _ b)=>(True,.r (.int k (if b<a then b else a)))
    |_,_=>(False,.any)
   |_=>(False,.any)
  |.builtin .max=>match c.args.toList with
   |[x,y]=>match ev F x,ev F y with
    |.r (.int k a),.r (.int _ b)=>(True,.r (.int k (if b>a then b else a)))
    |_,_=>(False,.any)
   |[x,y,z]=>match ev F x,ev F y,ev F z with
    |.r (.int k a),.r (.int k2 b),.r (.int _ c)=>(k=k2,.r (.int k (if c>(if b>a then b else a)then c else(if b>a then b else a))))
    |_,_,_=>(False,.any)
   |_=>(False,.any)
  |.value f=>mI S (ev F f) (cS T F c.args.toList c.argTypes.toList)
  |.invoke r m=>wg S (D4 T m (ev F r)) (cS T F c.args.toList c.argTypes.toList)
  |_=>(False,.any)
 |.makeInterface t x=>wJ T t (ev F x)
 |_=>(False,.any)
def dh(P:Program)(f:FuncId)(args:List AV)(r:AV):Prop:=
 ∀(w:World)(X:Nat->Prop)(vs:Array Value),(∀b,X b->b<w.heap.size)->vs.size=args.length->
  (∀(j:Nat)(c:AV),args[j]?=T' c->∃v:Value,vs[j]?=T' v/\RI w X c v)->
  (∃v,(callFunc f vs).run P w=.ok (.value v) w/\RI w X r v)\/
  ((
   callFunc f vs).run P w=.ok (.enter f vs) w/\
   Calls P f vs w λe w'=>∃v,e=.returned v/\RI w' X r v/\Below w.heap.size w w')
def nM(P:Program)(f:FuncId)(args:List AV)(r:AV):Prop:=
 ∃k xs,r=.ns k xs/\∀(w:World)(X:Nat->Prop)(vs:Array Value),(∀b,X b->b<w.heap.size)->vs.size=args.length->
  (∀(j:Nat)(c:AV),args[j]?=T' c->∃v:Value,vs[j]?=T' v/\RI w X c v)->
  (callFunc f vs).run P w=.ok (.enter f vs) w/\
   Calls P f vs w λe w'=>∃v,e=.returned v/\Below w.heap.size w w'/\
    ((
     ∃b o cap C e',v=.slice (T' ⟨b,o,Y'⟩) xs.length cap/\xs.length<=cap/\o+cap<=C.size/\w.heap.size<=b/\w'.heap[b]?=T' (.cells C e' (0,0))/\
     ∀(j:Nat)(x:Int),xs[j]?=T' x->C[o+j]?=T' (.int k x))\/(xs=[]/\∃ad,v=.slice ad 0 0))
def nU(P:Program)(f:FuncId)(args:List AV)(r:AV):Prop:=
 ∃k xs rest r0 ys,args=.ns k xs::rest/\r=.aU [r0,.ns k ys]/\ys.length=xs.length/\
  ∀(w:World)(X:Nat->Prop)(vs:Array Value)(b o cap:Nat)(C:Array Value)(e':TypeId),(∀b,X b->b<w.heap.size)->X b->vs.size=args.length->
  vs[0]?=T' (.slice (T' ⟨b,o,Y'⟩) xs.length cap)->xs.length<=cap->w.heap[b]?=T' (.cells C e' (0,0))->o+cap<=C.size->
  (∀(j:Nat)(x:Int),xs[j]?=T' x->C[o+j]?=T' (.int k x))->
  (∀(j:Nat)(c:AV),rest[j]?=T' c->∃v:Value,vs[j+1]?=T' v/\RI w X c v)->
  (callFunc f vs).run P w=.ok (.enter f vs) w/\
   Calls P f vs w λe w'=>∃v,e=.returned v/\RI w' X r0 v/\vG w w' b o (o+xs.length)/\
    ∀C',(∃ab,w'.heap[b]?=T' (.cells C' ab (0,0)))->∀(j:Nat)(y:Int),ys[j]?=T' y->C'[o+j]?=T' (.int k y)
def bh(P:Program)(S:FuncId->Option Sp):Prop:=∀f sp,S f=T' sp->∀args,sp.pre args->
 (sp.kind=0->dh P f args (sp.res args))/\(sp.kind=1->nM P f args (sp.res args))/\(sp.kind=2->nU P f args (sp.res args))
def nh:TypeDesc->Bool
 |.struct _=>Z'
 |.array _ _=>Z'
 |_=>a0a
structure cU(P:Program)(T:aL):Prop where
 sl:∀t e s by_,T.sl t=T' (e,s,by_)->P.underlying t=T' (.slice e)/\∃i,P.info? e=T' i/\i.size=s/\i.bytes=by_/\∃z,i.zero=T' z/\z.cells.size=s
 xe:∀t,T.vr t=T' Y'->(∃d,P.underlying t=T' d/\nh d=a0a)/\∃i,P.info? t=T' i/\i.size=1
 BX:∀t n,T.vr t=T' (T' n)->(∃d,P.underlying t=T' d/\nh d=Z')/\∃i,P.info? t=T' i/\i.size=n
 zr:∀t z,T.zr t=T' z->∃i v,P.info? t=T' i/\i.zero=T' v/\v.cells.size=z.length/\
  ∀(w:World)(X:Nat->Prop)(j:Nat)(c:AV),z[j]?=T' c->∃u:Value,v.cells[j]?=T' u/\RI w X c u
 fo:∀t f d,T.fo t f=T' d->∃fs fd i,P.underlying t=T' (.struct fs)/\fs[f]?=T' fd/\fd.offset=d/\P.info? fd.type=T' i/\i.size≠0
 fa:∀t f d n,T.fa t f=T' (d,n)->∃fs fd i D,P.underlying t=T' (.struct fs)/\fs[f]?=T' fd/\fd.offset=d/\P.underlying fd.type=T' D/\nh D=Z'/\P.info? fd.type=T' i/\i.size=n
 st:∀t l,T.st t=T' l->∃fs,P.underlying t=T' (.struct fs)/\fs.size=l.length/\
  ∀(j o s:Nat),l[j]?=T' (o,s)->∃fd i,fs[j]?=T' fd/\fd.offset=o/\P.info? fd.type=T' i/\i.size=s
 ik:∀t k,T.ik t=T' k->P.underlying t=T' (.int k)
 nk:∀t k,T.nk t=T' k->∃e by_ i,T.sl t=T' (e,1,by_)/\P.info? e=T' i/\i.zero=T' (.int k 0)
 str:∀t,T.str t=Z'->P.underlying t=T' .string
 bl:∀t,T.bl t=Z'->P.underlying t=T' .bool
 mi:∀t,T.mi t=Z'->∃fs,P.underlying t=T' (.struct fs)
 ar:∀t n,T.ar t=T' n->∃e d i,P.underlying t=T' (.array n e)/\P.underlying e=T' d/\nh d=a0a/\P.info? e=T' i/\i.size=1
 mt:∀t m g,T.mt t m=T' g->∃i r fs,P.info? t=T' i/\i.methods.find? (·.name==m)=T' r/\r.path=#[]/\r.func=T' (g,a0a)/\P.underlying t=T' (.struct fs)
end
section
open Go Go.RowKit
section
variable {t:TypeId}{u v x:Value}
section
variable {P:Program}{T:aL}{S:FuncId->Option Sp}{κ:Ctx}{β:Nat->Option (Nat×Nat)}{F:Nat->AV}{G:Nat->Option cq}{a:Act}{w:World}
theorem RV.ri{v:AV}(hv:v.im=Z')(h:RV κ β G w v x):RI w (XG κ β G) v x:=by
 cases v<;>first|exact h|simp[AV.im]at hv
theorem RV.of{v:AV}(hv:v.im=Z')(h:RI w (XG κ β G) v x):RV κ β G w v x:=by
 cases v<;>first|exact h|simp[AV.im]at hv
theorem RI.const(X:Nat->Prop)(v:Value):RI w X (ofConst v) v:=by
 unfold ofConst;split
 .split
  .rename_i h;obtain⟨rfl,rfl⟩:=h;exact .dt Y'
  .exact .r _
 .split
  .rename_i h;obtain⟨rfl,rfl⟩:=h;exact .fn _ [] #[] (λ_=>undef) rfl J' J'
  .exact .r _
 .exact .r _
theorem Pl(v:Value):(ofConst v).im=true:=by
 unfold ofConst;split<;>(try split)<;>rfl
theorem av.ev(h:av κ β F G a w)(x:Operand):RV κ β G w (ev F x) (a.eval x):=by
 cases x with
 |tmp t=>exact h.rel t
 |const v=>exact .of (Pl v) (RI.const _ v)
 |global g=>exact RI.any _
 |func f=>exact RI.fn f [] #[] (λ_=>undef) rfl J' J'
def QR(P:Program)(κ:Ctx)(β:Nat->Option (Nat×Nat))(G:Nat->Option cq)(w:World)(r:AV):Result Next->Prop
 |.ok (.value x) w'=>w'=w/\RV κ β G w r x
 |.ok (.enter f vs) w'=>w'=w/\Calls P f vs w λe w'=>∃v,e=.returned v/\RI w' (XG κ β G) r v/\Below w.heap.size w w'
 |_=>False
theorem RI.aS{X:Nat->Prop}(h:RI w X (.r v) x):x=v:=by cases h;rfl
theorem run_equal_bool(h:P.underlying t=T' .bool)(p q:Bool)(w:World):(Op.equal t (.bool p) (.bool q)).run P w=.ok (p==q) w:=by
 show(Op.equalIn (9999+1) t (.bool p) (.bool q)).run P w=_;rw[Op.equalIn];simp[run_underlying h]
theorem Uu(hT:cU P T){op:BinOp}{x y:AV}(hx:RV κ β G w x u)(hy:RV κ β G w y v)(xo yo:Operand)(h:(bin T t op x y).1):∃z,((do eqGuard op t xo yo u v;binOp op t u v):Sem Value).run P w=.ok z w/\RV κ β G w (bin T t op x y).2 z:=by
 cases x<;>try(simp[bin]at h;done)
 rename_i u';cases y<;>try(cases u'<;>simp[bin]at h;done)
 rename_i v';have e1:=RI.aS hx;have e2:=RI.aS hy;subst e1;subst e2;cases u<;>try(simp[bin]at h;done)
 .cases v<;>try(simp[bin]at h;done)
  rename_i p q;cases op<;>simp only[bin]at h|-
  case eql=>
   refine⟨.bool (p==q),?_,.r _⟩;have e:binOp .eql t (.bool p) (.bool q)=(do pure (.bool (<-Op.equal t (.bool p) (.bool q)))):=rfl;rw[eqGuard_at_bool,e];simp[run_equal_bool (hT.bl t h)]
  case neq=>
   refine⟨.bool (!(p==q)),?_,.r _⟩;have e:binOp .neq t (.bool p) (.bool q)=(do pure (.bool (!(<-Op.equal t (.bool p) (.bool q))))):=rfl;rw[eqGuard_at_bool,e];simp[run_equal_bool (hT.bl t h)]
 .cases v<;>try(simp[bin]at h;done)
  rename_i k p k' q;cases op<;>simp only[bin]at h|-
  case shl=>exact⟨_,by simp[go_sem,Op.shift,show¬q<0 from f'],.r _⟩
  case shr=>exact⟨_,by simp[go_sem,Op.shift,show¬q<0 from f'],.r _⟩
  case quo=>obtain⟨rfl,h2⟩:=h;exact⟨_,by simp[go_sem,h2],.r _⟩
  case rem=>obtain⟨rfl,h2⟩:=h;exact⟨_,by simp[go_sem,h2],.r _⟩
  all_goals(subst h;exact⟨_,by simp[go_sem],.r _⟩)
 .cases v<;>try(simp[bin]at h;done)
  rename_i p q;cases op<;>simp only[bin]at h|-
  case add=>exact⟨_,by
   have:¬(((p.size+q.size:Nat):Int)>9223372036854775807):=f';simp only[eqGuard_add,cC,cJ,cz,binOp,Op.stringOp,IntKind.max_i64,this,if_false],.r _⟩
  case eql=>exact⟨_,by simp[go_sem,binOp,Op.stringOp],.r _⟩
  case neq=>exact⟨_,by simp[go_sem,binOp,Op.stringOp],.r _⟩
theorem agl{op:UnOp}{x:AV}(hx:RV κ β G w x u)(h:(un op x).1):
 ∃z,(Op.unary op u).run P w=.ok z w/\RV κ β G w (un op x).2 z:=by
 cases x<;>try(cases op<;>simp[un]at h;done)
 rename_i u';have e1:=RI.aS hx;subst e1;cases op<;>cases u<;>try(simp[un]at h;done)
 iterate 2
  .exact⟨_,rfl,.r _⟩
 .exact⟨_,rfl,.r _⟩
end
end
end
section
open Go Go.RowKit
section
variable {wr:Bool}{cs:List AV}{b base id off:Nat}{d:TypeDesc}{t:TypeId}{i:TypeInfo}
section
variable {P:Program}{T:aL}{S:FuncId->Option Sp}{κ:Ctx}{β:Nat->Option (Nat×Nat)}{F:Nat->AV}{G:Nat->Option cq}{a:Act}{w:World}{X:Nat->Prop}
theorem run_typeInfo(h:P.info? t=T' i)(w:World):(typeInfo t).run P w=.ok i w:=by simp[typeInfo,h]
theorem run_sizeOf(h:P.info? t=T' i)(w:World):(sizeOf t).run P w=.ok i.size w:=by simp[sizeOf,run_typeInfo h]
theorem EC(h:P.underlying t=T' d)(hd:nh d=a0a)(w:World):(isAgg t).run P w=.ok a0a w:=by
 cases d<;>simp_all[isAgg,run_underlying h,nh]
theorem ED(h:P.underlying t=T' d)(hd:nh d=Z')(w:World):(isAgg t).run P w=.ok Z' w:=by
 cases d<;>simp_all[isAgg,run_underlying h,nh]
def Fq(w:World)(X:Nat->Prop)(b o:Nat)(cs:List AV)(off:Nat):Prop:=
 ∀j c,cs[off+j]?=T' c->∃v,w.cell? ⟨b,o+j,Y'⟩=T' v/\RI w X c v
theorem RI.list{f:Nat->Value}{n:Nat}(hn:cs.length=n)(h:∀j c,cs[j]?=T' c->RI w X c (f j)):
 RI w X (.agg cs) (.agg ((List.range n).map f).toArray):=by
 refine .agg cs _ f (by simp[hn]) (λj c hj=>?_) h;have:j<cs.length:=by
  rcases dQ j cs.length with h'|h'
  .exact h'
  .simp[iT h']at hj
 simp[Kj (show j<n from f')]
theorem Ol(hT:cU P T){o:Nat}(hc:Fq w X b o cs off)(h:(ml T t (.c cs) off).1):
 ∃z,(loadVar t ⟨b,o,Y'⟩).run P w=.ok z w/\RI w X (ml T t (.c cs) off).2 z:=by
 unfold ml at*;cases hv:T.vr t with
 |none=>simp[hv]at h
 |some q=>
  cases q with
  |none=>
   simp only[hv]at h|-;obtain⟨⟨d,hd,af⟩,_⟩:=hT.xe t hv;obtain⟨v,ao,ay⟩:=hc 0 cs[off] (by simp[h]);refine⟨v,?_,?_⟩
   .simp only[loadVar,cC,EC hd af,cz]
    simp only[kN]at ao;simp[ao]
   .simpa[List.getD,ed h]using ay
  |some n=>
   simp only[hv]at h|-;obtain⟨⟨d,hd,af⟩,i,hi,aw⟩:=hT.BX t n hv;have hex:∀j,∃v,j<n->w.cell? ⟨b,o+j,Y'⟩=T' v/\∀c,cs[off+j]?=T' c->RI w X c v:=by
    intro j
    by_cases hj:j<n
    .obtain⟨v,h1,h2⟩:=hc j cs[off+j] (by simp[show off+j<cs.length from f'])
     refine⟨v,λ_=>⟨h1,λc ab=>?_⟩⟩;rw[ed (show off+j<cs.length from f')]at ab;simp only[aC]at ab;subst ab;exact h2
    .exact⟨undef,λh=>absurd h hj⟩
   obtain⟨f,hf⟩:=vo hex;refine⟨.agg ((List.range n).map f).toArray,?_,RI.list O' (λj c hj=>?_)⟩
   .simp only[loadVar,cC,ED hd af,cz,if_true]
    rw[run_sizeOf hi];simp only[cz,aw];rw[run_loadCells (P:=P) w ⟨b,o,Y'⟩ n f (λj hj=>by rw[ji];exact(hf j hj).1)]
    rfl
   .rw[ic]at hj
    split at hj
    .rename_i ax
     rw[j5]at hj;exact(hf j ax).2 c hj
    .cases hj
theorem RI.Jw{x:Value}(h:RI w X (.vp cs) x):∃b o,x=.pointer (T' ⟨b,o,Y'⟩)/\(0<cs.length->¬X b)/\Fq w X b o cs 0:=by
 cases h with
 |vp _ b o f ha h hr=>exact⟨b,o,rfl,ha,λj c hj=>⟨f j,h j c (by simpa using hj),hr j c (by simpa using hj)⟩⟩
theorem mV.cells(h:mV κ β G w id ⟨wr,.c cs⟩)(hb:β id=T' (b,base)):
 Fq w (XG κ β G) b (base+off) cs off:=by
 rcases h with h|⟨b2,ab,C,e,h1,h2,h3,h4,h5⟩
 .rw[hb]at h;cases h.1
 .rw[hb]at h1
  simp only[aC,db]at h1;obtain⟨rfl,rfl⟩:=h1;intro j c hj;obtain⟨v,hv,hr⟩:=h4 (off+j) c hj;exact⟨v,by rw[cell_of_block h2,ie];exact hv,hr⟩
theorem mV.num{k:IntKind}{xs:List Int}(h:mV κ β G w id ⟨wr,.n k xs⟩)(hb:β id=T' (b,base))(ho:off<xs.length):
 w.cell? ⟨b,base+off,Y'⟩=T' (.int k (xs.getD off 0)):=by
 rcases h with h|⟨b2,ab,C,e,h1,h2,h3,h4,h5⟩
 .rw[hb]at h;cases h.1
 .rw[hb]at h1
  simp only[aC,db]at h1;obtain⟨rfl,rfl⟩:=h1;obtain⟨v,hv,hr⟩:=h4 off (.r (.int k xs[off])) (by simp[aN.val,ho]);rw[cell_of_block h2,hv,RI.aS hr];simp[List.getD,ho]
theorem OF(hT:cU P T)(hC:av κ β F G a w){x:Operand}{r:Prop×AV}(hr:r=(match ev F x with
  |.vp cs=>ml T t (.c cs) 0
  |.ptr id off=>match G id with
   |some ae=>ml T t ae.con off
   |none=>(False,.any)
  |_=>(False,.any)))(h:r.1):
 ∃z,(Instr.loadAt t (a.eval x)).run P w=.ok z w/\RV κ β G w r.2 z:=by
 have hx:=hC.ev x;generalize ev F x=v at*;generalize a.eval x=u at*;subst hr;cases v with
 |vp cs=>
  obtain⟨b,o,rfl,_,hc⟩:=RI.Jw hx;obtain⟨z,h1,h2⟩:=Ol hT hc h;refine⟨z,?_,?_⟩
  .simp only[Instr.loadAt,Instr.sureAddr,cC,cJ,cz]
   exact h1
  .simp only at h h2|-
   generalize hq:ml T t (.c cs) 0=q at*;obtain⟨q1,q2⟩:=q;cases q2 with
   |os=>cases h2
   |ptr=>cases h2
   |_=>exact h2
 |ptr id off=>
  simp only at h|-;cases hG:G id with
  |none=>simp[hG]at h
  |some ae=>
   simp only[hG]at h|-;obtain⟨b,base,hb,rfl⟩:=hx ae hG;obtain⟨wr,con⟩:=ae;have ab:=hC.hp id _ hG;cases con with
   |c cs=>
    obtain⟨z,h1,h2⟩:=Ol hT (ab.cells hb) h;refine⟨z,?_,?_⟩
    .simp only[Instr.loadAt,Instr.sureAddr,cC,cJ,cz]
     exact h1
    .simp only at h h2|-
     generalize hq:ml T t (.c cs) off=q at*;obtain⟨q1,q2⟩:=q;cases q2 with
     |os=>cases h2
     |ptr=>cases h2
     |_=>exact h2
   |n k xs=>
    unfold ml at h|-;cases hv:T.vr t with
    |none=>simp[hv]at h
    |some q=>
     cases q with
     |some n=>simp[hv]at h
     |none=>
      simp only[hv]at h|-;obtain⟨⟨d,hd,af⟩,_⟩:=hT.xe t hv;refine⟨_,?_,.r _⟩;simp only[Instr.loadAt,Instr.sureAddr,cC,cJ,cz,loadVar,EC hd af];simp[ab.num hb h]
 |_=>exact absurd h J'
end
end
end
section
open Go Go.RowKit
section
variable {n:Int}{k:IntKind}{by_ cap len:Nat}{x:Operand}{lo:Option Operand}{e s t:TypeId}
section
variable {P:Program}{T:aL}{S:FuncId->Option Sp}{κ:Ctx}{β:Nat->Option (Nat×Nat)}{F:Nat->AV}{G:Nat->Option cq}{a:Act}{w:World}{X:Nat->Prop}
theorem RV.qE{v:AV}{x:Value}(h:RV κ β G w v x)(hn:dI v=T' n):∃k,x=.int k n:=by
 unfold dI at hn;split at hn
 .rename_i k m
  simp only[aC]at hn;subst hn;exact⟨k,RI.aS h⟩
 .cases hn
theorem VA(hT:cU P T){d:TypeId}{ks k':IntKind}(h1:T.ik s=T' ks)(h2:T.ik d=T' k)(w:World):
 (convert s d (.int k' n)).run P w=.ok (.int k (k.wrap n)) w:=by
 simp[convert,run_underlying (hT.ik s ks h1),run_underlying (hT.ik d k h2),Conv.intToInt]
theorem Xx(hT:cU P T)(hC:av κ β F G a w){f:Nat}{r:Prop×AV}(hr:r=(match T.fo s f with
  |none=>(False,.any)
  |some d=>match ev F x with
   |.ptr id off=>((G id).isSome=Z',.ptr id (off+d))
   |.vp cs=>(d<cs.length,.vp (cs.drop d))
   |_=>(False,.any)))(h:r.1):
 ∃z,(Instr.fieldAt s (a.eval x) f).run P w=.ok z w/\RV κ β G w r.2 z:=by
 have hx:=hC.ev x;generalize ev F x=v at*;generalize a.eval x=u at*;cases hfo:T.fo s f with
 |none=>simp[hfo]at hr;subst hr;exact absurd h J'
 |some d=>
  obtain⟨fs,fd,i,h1,h2,h3,h4,h5⟩:=hT.fo s f d hfo;simp only[hfo]at hr;have af:∀ad,(Instr.fieldAt s (.pointer (T' ad)) f).run P w=.ok (.pointer (T' (ad.add d))) w:=by
   intro ad;simp[Instr.fieldAt,run_underlying h1,h2,Instr.sureAddr,fieldPlace,run_sizeOf h4,h5,h3]
  cases v with
  |ptr id off=>
   subst hr;obtain⟨ae,hG⟩:=sF.1 h;obtain⟨b,base,hb,rfl⟩:=hx ae hG;exact⟨_,af _,λ_ _=>⟨b,base,hb,by rw[ji,ie]⟩⟩
  |vp cs=>
   subst hr;obtain⟨b,o,rfl,hX,hc⟩:=RI.Jw hx;simp only at h;refine⟨_,af _,?_⟩;rw[ji];have hex:∀j,∃v,∀c,(cs.drop d)[j]?=T' c->w.cell? ⟨b,o+d+j,Y'⟩=T' v/\RI w (XG κ β G) c v:=by
    intro j;cases hj:(cs.drop d)[j]? with
    |none=>exact⟨undef,λc hc=>by cases hc⟩
    |some c=>
     rw[j5]at hj;obtain⟨v,h1,h2⟩:=hc (d+j) c (by simpa using hj);refine⟨v,λc' ab=>?_⟩;simp only[aC]at ab;subst ab;exact⟨by rw[ie];exact h1,h2⟩
   obtain⟨g,hg⟩:=vo hex;exact RI.vp _ b (o+d) g (λ_=>hX f') (λj c hj=>(hg j c hj).1) (λj c hj=>(hg j c hj).2)
  |_=>subst hr;exact absurd h J'
theorem EB(hT:cU P T){s:Nat}(h1:T.sl t=T' (e,s,by_)){ad:Addr}{i:Int}(h0:0<=i)(hi:i.toNat<len):
 (Instr.indexAt t (.slice (T' ad) len cap) (.int k i)).run P w=.ok (.pointer (T' (ad.add (i.toNat*s)))) w:=by
 obtain⟨h2,inf,h3,h4,_,_⟩:=hT.sl t e s by_ h1;have he:P.elem t=e:=by simp[Program.elem,h2]
 rw[run_indexAt_slice w t ad len cap k i (by rw[he];exact h2),au ⟨h0,f'⟩,he,run_sizeOf h3];simp[h4]
theorem Hq{c d:AV}{j:Nat}(h:[d][j]?=T' c):j=0/\c=d:=by
 cases j with
 |zero=>simp at h;exact⟨rfl,h.symm⟩
 |succ j=>simp at h
theorem Zc(hT:cU P T){x i:AV}{u q:Value}(hx:RV κ β G w x u)(hi:RV κ β G w i q)(h:(idx T G t x i).1):
 ∃z,(Instr.indexAt t u q).run P w=.ok z w/\RV κ β G w (idx T G t x i).2 z:=by
 unfold idx at*;split at h
 .split at h
  .rename_i n i h1 h2
   split at h
   .rename_i id off
    obtain⟨k',rfl⟩:=hi.qE h2;simp only at h|-;obtain⟨g1,g2,g3⟩:=h;obtain⟨ae,hG⟩:=sF.1 g3;obtain⟨b,base,q1,rfl⟩:=hx ae hG;obtain⟨e,d,inf,a1,a2,a3,a4,a5⟩:=hT.ar t n h1;refine⟨.pointer (T' ⟨b,base+(off+i.toNat),Y'⟩),?_,λ_ _=>⟨b,base,q1,rfl⟩⟩;have ab:i<(n:Int):=f';simp only[Instr.indexAt,asIntOf,cC,cJ,cz,run_underlying a1,Instr.sureAddr,run_sizeOf a4,a5];rw[au ⟨g1,ab⟩];simp only[cC,cJ,cz,run_sizeOf a4,a5,ji,pk,ie]
   .exact False.elim h
  .exact False.elim h
 rename_i e s' by_ h1;split at h
 .exact False.elim h
 rename_i n h2;split at h
 .rename_i k xs
  obtain⟨k',rfl⟩:=hi.qE h2;simp only at h|-;obtain⟨rfl,h⟩:=h;cases hx with
  |ns _ _ ad b o cap hc ha hcell=>
   obtain⟨rfl,hX⟩:=ha f';refine⟨_,EB hT h1 h.1 h.2,?_⟩;rw[ji,pk];refine RI.vp _ b (o+n.toNat) (λ_=>.int k (xs.getD n.toNat 0)) (λ_=>hX) (λj c hj=>?_) (λj c hj=>?_)
   .obtain⟨rfl,rfl⟩:=Hq hj
    rw[kN];have:=hcell n.toNat xs[n.toNat] (by simp[h.2]);rw[this];simp[List.getD,h.2]
   .obtain⟨rfl,rfl⟩:=Hq hj
    exact .r _
 .rename_i s m cs
  obtain⟨k',rfl⟩:=hi.qE h2;simp only at h|-;obtain⟨g1,g2,rfl,g5⟩:=h;cases hx with
  |sl _ _ _ ad b o cap f hc hl ha hcell hr=>
   have ab:n.toNat*s+s<=cs.length:=by
    rw[hl,<-KG];exact jD _ g2
   obtain⟨rfl,hX⟩:=ha f';refine⟨_,EB hT h1 g1 g2,?_⟩;rw[ji];refine RI.vp _ b _ (λj=>f (n.toNat*s+j)) (λ_=>hX) (λj c hj=>?_) (λj c hj=>?_)
   .rw[ic]at hj
    split at hj
    .rw[j5]at hj
     rw[ie];exact hcell _ c hj
    .cases hj
   .rw[ic]at hj
    split at hj
    .rw[j5]at hj
     exact hr _ c hj
    .cases hj
 .rename_i id s off len
  obtain⟨k',rfl⟩:=hi.qE h2;simp only at h|-;obtain⟨g1,g2,rfl,g5⟩:=h;obtain⟨ad,cap,rfl,g3,g4⟩:=hx;obtain⟨ae,hG⟩:=sF.1 g5;rcases g4 ae hG with g4|⟨b,base,C,e',g6,rfl,g8,g9⟩
  .omega
  .refine⟨_,EB hT h1 g1 g2,λ_ _=>⟨b,base,g6,?_⟩⟩
   rw[ji,ie]
 .exact absurd h J'
theorem xa(is:Bool)(len cap:Nat)(lo hi mx:Option Value)(l h m:Nat)(hl:(lo=Y'/\l=0)\/∃k,lo=T' (.int k l))
 (hh:(hi=Y'/\h=len/\mx=Y')\/∃k,hi=T' (.int k h)) (hm:(mx=Y'/\m=cap)\/∃k,mx=T' (.int k m)) (h1:l<=h) (h2:h<=m) (h3:m<=cap) (w:World):
 (Instr.sliceBounds is len cap lo hi mx).run P w=.ok (l,h,m) w:=by
 rcases hl with⟨rfl,rfl⟩|⟨kl,rfl⟩<;>rcases hm with⟨rfl,rfl⟩|⟨km,rfl⟩<;>rcases hh with⟨rfl,rfl,hx⟩|⟨kh,rfl⟩<;>
  (try cases hx)<;>simp[Instr.sliceBounds,run_sliceBound_if,h1,h2,h3]
theorem pr{z:Option (Option Int)}(hC:av κ β F G a w)(hz:z=lo.map λv=>dI (ev F v)){dflt:Int}(hn:(z.getD (T' dflt)).getD (-1)=n)(h0:0<=n):(lo.map a.eval=Y'/\n=dflt/\z=Y')\/(z=T' (T' n)/\∃k,lo.map a.eval=T' (.int k n)):=by
 cases lo with
 |none=>subst hz;simp at hn;exact .inl ⟨rfl,hn.symm,rfl⟩
 |some o=>
  simp only[ft]at hz;subst hz;cases hi:dI (ev F o)with
  |none=>simp[hi]at hn;omega
  |some m=>
   simp[hi]at hn;subst hn;obtain⟨k,hk⟩:=(hC.ev o).qE hi;exact .inr ⟨J',k,by simp[hk]⟩
theorem zb(hT:cU P T){s:Nat}(h1:T.sl t=T' (e,s,by_)){ad:Option Addr}{l h m:Nat}{lo hi mx:Option Value}(hb:(Instr.sliceBounds Z' len cap lo hi mx).run P w=.ok (l,h,m) w):
 (Instr.sliceAt t (.slice ad len cap) lo hi mx).run P w=.ok (.slice (if m=l then ad else ad.map (·.add (l*s))) (h-l) (m-l)) w:=by
 obtain⟨h2,inf,h3,h4,_,_⟩:=hT.sl t e s by_ h1;simp only[Instr.sliceAt,Instr.slice,cC,run_underlying h2,cz,hb,run_sizeOf h3,h4,cJ]
theorem GQ{α:Type}(cs:List α)(p q j:Nat)(c:α)(h:((cs.take p).drop q)[j]?=T' c):q+j<p/\cs[q+j]?=T' c:=by
 rw[j5,ic]at h;split at h
 .exact⟨by assumption,h⟩
 .cases h
theorem VS(hT:cU P T)(hC:av κ β F G a w){hi mx:Option Operand}{zl zh zm:Option (Option Int)}(el:zl=lo.map λv=>dI (ev F v))(eh:zh=hi.map λv=>dI (ev F v))(em:zm=mx.map λv=>dI (ev F v))(h:(gJ T t (ev F x) zl zh zm).1):
 ∃z,(Instr.sliceAt t (a.eval x) (lo.map a.eval) (hi.map a.eval) (mx.map a.eval)).run P w=.ok z w/\RV κ β G w (gJ T t (ev F x) zl zh zm).2 z:=by
 have hx:=hC.ev x;generalize ev F x=v at*;generalize a.eval x=u at*;generalize hL:(zl.getD (T' 0)).getD (-1)=l at*;cases v<;>try(simp[gJ]at h;done)
 case ns k xs=>
  simp only[gJ,hL]at h|-;generalize hH:(zh.getD (T' (xs.length:Int))).getD (-1)=hh at*;cases zm with
  |none=>
   simp only at h|-;obtain⟨g1,g2,g3,e,by_,g4⟩:=h;cases hx with
   |ns _ _ ad b o cap hc ha hcell=>
    have hmx:mx.map a.eval=none:=by cases mx<;>simp at em|-
    obtain⟨l',rfl⟩:∃l':Nat,l=l':=⟨l.toNat,f'⟩;obtain⟨h',rfl⟩:∃h':Nat,hh=h':=⟨hh.toNat,f'⟩;have b1:=pr hC el hL f';have b2:=pr hC eh hH f';have hb:=xa (P:=P) Z' xs.length cap (lo.map a.eval) (hi.map a.eval) (mx.map a.eval) l' h' cap
     (by
      rcases b1 with b1|b1
      .exact .inl ⟨b1.1,f'⟩
      .exact .inr b1.2)
     (by
      rcases b2 with b2|b2
      .exact .inl ⟨b2.1,f',hmx⟩
      .exact .inr b2.2)
     (.inl ⟨hmx,rfl⟩) f' f' (aM _) w
    refine⟨_,zb hT g4 hb,?_⟩;have hlen:((xs.take h').drop l').length=h'-l':=O';simp only[dD,pk];rw[<-hlen];refine RI.ns k _ _ b (o+l') _ (by rw[hlen];omega) (λh0=>?_) (λi x hi=>?_)
    .obtain⟨rfl,hX⟩:=ha f'
     rw[aq f'];simp only[ft,ji];exact⟨a0b,hX⟩
    .obtain⟨_,h6⟩:=GQ _ _ _ _ _ hi
     rw[ie];exact hcell _ _ h6
  |some q=>
   simp only at h|-;obtain⟨rfl,rfl,rfl,e,by_,g4⟩:=h;cases hx with
   |ns _ _ ad b o cap hc ha hcell=>
    have b1:=pr hC el hL f';have b2:=pr (n:=0) (dflt:=0) hC eh rfl f';have b3:=pr (n:=0) (dflt:=0) hC em rfl f';have b2':∃k,hi.map a.eval=T' (.int k 0):=by
     rcases b2 with b2|b2
     .simp at b2
     .exact b2.2
    have b3':∃k,mx.map a.eval=T' (.int k 0):=by
     rcases b3 with b3|b3
     .simp at b3
     .exact b3.2
    have hb:=xa (P:=P) Z' xs.length cap (lo.map a.eval) (hi.map a.eval) (mx.map a.eval) 0 0 0
     (by
      rcases b1 with b1|b1
      .exact .inl ⟨b1.1,rfl⟩
      .exact .inr b1.2)
     (.inr b2') (.inr b3') f' f' f' w
    exact⟨_,zb hT g4 hb,RI.dt _⟩
 case sl s n cs=>
  simp only[gJ,hL]at h|-;generalize hH:(zh.getD (T' (n:Int))).getD (-1)=hh at*;cases zm with
  |some q=>simp at h
  |none=>
   simp only at h|-;obtain⟨g1,g2,g3,e,by_,g4⟩:=h;cases hx with
   |sl _ _ _ ad b o cap f hc hl ha hcell hr=>
    have hmx:mx.map a.eval=none:=by cases mx<;>simp at em|-
    obtain⟨l',rfl⟩:∃l':Nat,l=l':=⟨l.toNat,f'⟩;obtain⟨h',rfl⟩:∃h':Nat,hh=h':=⟨hh.toNat,f'⟩;have b1:=pr hC el hL f';have b2:=pr hC eh hH f';have hb:=xa (P:=P) Z' n cap (lo.map a.eval) (hi.map a.eval) (mx.map a.eval) l' h' cap
     (by
      rcases b1 with b1|b1
      .exact .inl ⟨b1.1,f'⟩
      .exact .inr b1.2)
     (by
      rcases b2 with b2|b2
      .exact .inl ⟨b2.1,f',hmx⟩
      .exact .inr b2.2)
     (.inl ⟨hmx,rfl⟩) f' f' (aM _) w
    refine⟨_,zb hT g4 hb,?_⟩;have e1:((h':Int)-l').toNat=h'-l':=f';have m1:h'*s<=n*s:=jD _ f';have m2:(h'-l')*s=h'*s-l'*s:=Nat.sub_mul _ _ _;simp only[dD];rw[e1];refine RI.sl s (h'-l') _ _ b (o+l'*s) _ (λj=>f (l'*s+j)) f' O' (λh0=>?_) (λi x hi=>?_) (λi x hi=>?_)
    .simp at h0
     obtain⟨rfl,hX⟩:=ha f';have:cap≠l':=by
      intro e;have:h'=l':=f';subst this;omega
     rw[aq this];simp only[ft,ji];exact⟨a0b,hX⟩
    .obtain⟨_,h6⟩:=GQ _ _ _ _ _ hi
     rw[ie];exact hcell _ _ h6
    .obtain⟨_,h6⟩:=GQ _ _ _ _ _ hi
     exact hr _ _ h6
 case os id s off len=>
  simp only[gJ,hL]at h|-;generalize hH:(zh.getD (T' (len:Int))).getD (-1)=hh at*;generalize hM:(zm.getD (T' (len:Int))).getD (-1)=mm at*;obtain⟨g1,g2,g3,g0,g5,e,by_,g4⟩:=h;obtain⟨ad,cap,rfl,k1,k2⟩:=hx;obtain⟨l',rfl⟩:∃l':Nat,l=l':=⟨l.toNat,f'⟩;obtain⟨h',rfl⟩:∃h':Nat,hh=h':=⟨hh.toNat,f'⟩;obtain⟨m',rfl⟩:∃m':Nat,mm=m':=⟨mm.toNat,f'⟩;have b1:=pr hC el hL f';have b2:=pr hC eh hH f';have b3:=pr hC em hM f';obtain⟨M,hM1,hM2,hM3⟩:∃M,((mx.map a.eval=Y'/\M=cap)\/∃k,mx.map a.eval=T' (.int k (M:Nat)))/\h'<=M/\M<=cap:=by
   rcases b3 with b3|b3
   .exact⟨cap,.inl ⟨b3.1,rfl⟩,f',aM _⟩
   .exact⟨m',.inr b3.2,f',f'⟩
  have hb:=xa (P:=P) Z' len cap (lo.map a.eval) (hi.map a.eval) (mx.map a.eval) l' h' M
   (by
    rcases b1 with b1|b1
    .exact .inl ⟨b1.1,f'⟩
    .exact .inr b1.2)
   (by
    rcases b2 with b2|b2
    .refine .inl ⟨b2.1,f',?_⟩
     rw[b2.2.2]at g5;cases mx with
     |none=>rfl
     |some _=>subst em;simp at g5
    .exact .inr b2.2)
   hM1 f' hM2 hM3 w
  refine⟨_,zb hT g4 hb,?_⟩;have e1:((h':Int)-l').toNat=h'-l':=f';simp only[dD];rw[e1];refine⟨_,_,rfl,f',λae hG=>?_⟩;rcases k2 ae hG with k2|⟨b,base,C,e',q1,rfl,q3,q4⟩
  .left;omega
  .by_cases hml:M=l'
   .left;omega
   .refine .inr ⟨b,base,C,e',q1,?_,q3,?_⟩
    .rw[aq hml];simp only[ft,ji,ie]
    .have m1:M*s<=cap*s:=jD _ hM3
     have m2:(M-l')*s=M*s-l'*s:=Nat.sub_mul _ _ _;have m3:l'*s<=M*s:=jD _ f';omega
 case r v=>
  have e1:=RI.aS hx;subst e1;cases u<;>try(simp[gJ]at h;done)
  rename_i s;simp only[gJ,hL]at h|-;generalize hH:(zh.getD (T' (s.size:Int))).getD (-1)=hh at*;cases zm with
  |some q=>simp at h
  |none=>
   simp only at h|-;obtain⟨g1,g2,g3,g4⟩:=h;have hmx:mx.map a.eval=none:=by cases mx<;>simp at em|-
   obtain⟨l',rfl⟩:∃l':Nat,l=l':=⟨l.toNat,f'⟩;obtain⟨h',rfl⟩:∃h':Nat,hh=h':=⟨hh.toNat,f'⟩;have b1:=pr hC el hL f';have b2:=pr hC eh hH f';have hb:=xa (P:=P) a0a s.size s.size (lo.map a.eval) (hi.map a.eval) Y' l' h' s.size
    (by
     rcases b1 with b1|b1
     .exact .inl ⟨b1.1,f'⟩
     .exact .inr b1.2)
    (by
     rcases b2 with b2|b2
     .exact .inl ⟨b2.1,f',rfl⟩
     .exact .inr b2.2)
    (.inl ⟨rfl,rfl⟩) f' f' (aM _) w
   refine⟨.string (s.extract l' h'),?_,?_⟩
   .rw[hmx]
    simp only[Instr.sliceAt,Instr.slice,cC,run_underlying (hT.str t g4),cz,hb,cJ,Option.isSome_none,mz,if_false]
   .simp only[dD];exact RI.r _
end
end
end
section
open Go Go.RowKit
section
variable {v:AV}{cs:List AV}
section
variable {P:Program}{T:aL}{S:FuncId->Option Sp}{κ:Ctx}{β:Nat->Option (Nat×Nat)}{F:Nat->AV}{G:Nat->Option cq}{a:Act}{w:World}{X:Nat->Prop}
theorem ac7(hT:cU P T){t ty:TypeId}{x:AV}{u:Value}(hx:RV κ β G w x u)(h:(oy T t x).1):
 ∃z,(Builtin.len_ #[t] ty #[u]).run P w=.ok z w/\RV κ β G w (oy T t x).2 z:=by
 cases x<;>try(simp[oy]at h;done)
 case r v=>
  have e1:=RI.aS hx;subst e1;cases u<;>try(simp[oy]at h;done)
  simp only[oy]at h|-;exact⟨_,by simp[Builtin.len_,run_underlying (hT.str t h)];rfl,RI.r _⟩
 case dt=>
  simp only[oy]at h|-;obtain⟨⟨e,s,b⟩,h1⟩:=sF.1 h;obtain⟨h2,_⟩:=hT.sl t e s b h1;cases hx;exact⟨_,by simp[Builtin.len_,run_underlying h2];rfl,RI.r _⟩
 case ns k xs=>
  simp only[oy]at h|-;obtain⟨⟨e,s,b⟩,h1⟩:=sF.1 h;obtain⟨h2,_⟩:=hT.sl t e s b h1;cases hx;exact⟨_,by simp[Builtin.len_,run_underlying h2];rfl,RI.r _⟩
 case sl s n cs=>
  simp only[oy]at h|-;obtain⟨⟨e,s,b⟩,h1⟩:=sF.1 h;obtain⟨h2,_⟩:=hT.sl t e s b h1;cases hx;exact⟨_,by simp[Builtin.len_,run_underlying h2];rfl,RI.r _⟩
 case os id s off len=>
  simp only[oy]at h|-;obtain⟨⟨e,s,b⟩,h1⟩:=sF.1 h;obtain⟨h2,_⟩:=hT.sl t e s b h1;obtain⟨ad,cap,rfl,_⟩:=hx;exact⟨_,by simp[Builtin.len_,run_underlying h2];rfl,RI.r _⟩
theorem RI.cells{x:Value}(h:RI w X v x)(hc:v.cells=T' cs):
 x.cells.size=cs.length/\∀(j:Nat)(c:AV),cs[j]?=T' c->∃u:Value,x.cells[j]?=T' u/\RI w X c u:=by
 unfold AV.cells at hc;split at hc
 .simp only[aC]at hc
  subst hc;cases h with
  |agg _ vs f hl h hr=>exact⟨hl,λj c hj=>⟨f j,h j c hj,hr j c hj⟩⟩
 .split at hc
  .rename_i h1
   simp only[aC]at hc;subst hc;have:=h.one h1;have e:x.cells=#[x]:=by cases x<;>simp_all[Value.oneCell',Value.cells]
   rw[e];refine⟨rfl,λj c hj=>?_⟩;obtain⟨rfl,rfl⟩:=Hq hj;exact⟨x,rfl,h⟩
  .cases hc
theorem AV.sO(hc:v.cells=T' cs):v.im=true:=by
 cases v<;>simp_all[AV.cells,AV.im,AV.one]
theorem foldl_set(vs:Array Value)(off:Nat):∀(n:Nat)(ao:n<=vs.size)(cs:Array Value),off+vs.size<=cs.size->
 ∀j,((vs.toList.zipIdx.take n).foldl (λcs(p:Value×Nat)=>cs.setIfInBounds (off+p.2) p.1) cs)[j]?=if off<=j/\j<off+n then vs[j-off]? else cs[j]?
 |0,_,cs,_,j=>by simp;intro h1 h2;omega
 |n+1,hn,cs,hc,j=>by
  have ab:(vs.toList.zipIdx)[n]?=T' (vs[n],n):=by simp[show n<vs.size from f']
  rw[Ko,ab];simp only[Option.toList_some,List.foldl_append,List.foldl_cons,List.foldl_nil];have ih:=foldl_set vs off n f' cs hc;have af:∀(l:List (Value×Nat))(c:Array Value),(l.foldl (λcs(p:Value×Nat)=>cs.setIfInBounds (off+p.2) p.1) c).size=c.size:=by
   intro l
   induction l with
   |nil=>intro c;rfl
   |cons p l ih=>intro c;simp[ih]
  rw[SR,af]
  by_cases hj:off+n=j
  .subst hj
   rw[au rfl,au f',au f'];simp[show n<vs.size from f']
  .rw[aq hj,ih j]
   by_cases h1:off<=j/\j<off+n
   .rw[au h1,au f']
   .rw[aq h1,aq f']
theorem Nj{places:List (Nat×Nat)}{pl:Nat->Option (Nat×Nat)}(hp:∀i p,places[i]?=T' p->pl i=T' p):
 ∀(parts:List (Nat×AV))(vals:List (Nat×Value))(z cs:List AV)(C:Array Value),parts.length=vals.length->
 (∀(j:Nat)(p:Nat×AV)(q:Nat×Value),parts[j]?=T' p->vals[j]?=T' q->p.1=q.1/\(p.2.im=Z'->RI w X p.2 q.2))->C.size=z.length->
 (∀(j:Nat)(c:AV),z[j]?=T' c->∃u:Value,C[j]?=T' u/\RI w X c u)->uC places z parts=T' cs->
 ∃C',Instr.fill pl C vals=T' C'/\C'.size=cs.length/\∀(j:Nat)(c:AV),cs[j]?=T' c->∃u:Value,C'[j]?=T' u/\RI w X c u
 |[],[],z,cs,C,_,_,hs,hc,hf=>by
  simp only[uC,aC]at hf;subst hf;exact⟨C,rfl,hs,hc⟩
 |[],_::_,_,_,_,hl,_,_,_,_=>by simp at hl
 |_::_,[],_,_,_,hl,_,_,_,_=>by simp at hl
 |(i,v)::parts,(i',x)::vals,z,cs,C,hl,hv,hs,hc,hf=>by
  have h0:=hv 0 (i,v) (i',x) rfl rfl;simp only at h0;obtain⟨rfl,ao⟩:=h0;simp only[uC]at hf;split at hf
  .rename_i off size vs h1 h2
   split at hf
   .rename_i h3
    obtain⟨h3,h4⟩:=h3;obtain⟨k1,k2⟩:=RI.cells (ao (AV.sO h2)) h2;have ab:(x.cells.zipIdx.foldl (λcs(p:Value×Nat)=>cs.setIfInBounds (off+p.2) p.1) C)=(x.cells.toList.zipIdx.take x.cells.size).foldl (λcs(p:Value×Nat)=>cs.setIfInBounds (off+p.2) p.1) C:=by
     rw[<-SP];simp[SV,gG]
    have hg:=foldl_set x.cells off x.cells.size (aM _) C f';have aw:∀(l:List (Value×Nat))(c:Array Value),(l.foldl (λcs(p:Value×Nat)=>cs.setIfInBounds (off+p.2) p.1) c).size=c.size:=by
     intro l
     induction l with
     |nil=>intro c;rfl
     |cons p l ih=>intro c;simp[ih]
    have af:=Nj hp parts vals (z.take off++vs++z.drop (off+size)) cs
     ((x.cells.toList.zipIdx.take x.cells.size).foldl (λcs(p:Value×Nat)=>cs.setIfInBounds (off+p.2) p.1) C) (by simpa using hl)
     (λj p q hj hq=>hv (j+1) p q hj hq) (by rw[aw];simp;omega) (λj c hj=>by
      rw[hg]
      by_cases hlt:j<off
      .rw[aq f']
       rw[dH,iK O',ic,au hlt]at hj;exact hc j c hj
      .by_cases hlt2:j<off+size
       .rw[au f']
        rw[iK O',jz O']at hj;have e:j-(List.take off z).length=j-off:=O';rw[e]at hj;exact k2 _ c hj
       .rw[aq f']
        rw[jz O',j5]at hj;have e:off+size+(j-(List.take off z++vs).length)=j:=O';rw[e]at hj;exact hc j c hj) hf
    obtain⟨C',h5,h6,h7⟩:=af;refine⟨C',?_,h6,h7⟩;simp only[Instr.fill,hp i _ h1];rw[aq O',ab];exact h5
   .cases hf
  .cases hf
end
end
end
section
open Go Go.RowKit
section
variable {g:FuncId}{m:String}{α γ:Type}{t:TypeId}
section
variable {P:Program}{T:aL}{S:FuncId->Option Sp}{κ:Ctx}{β:Nat->Option (Nat×Nat)}{F:Nat->AV}{G:Nat->Option cq}{a:Act}{w:World}{X:Nat->Prop}
theorem Lc{x:AV}{u:Value}(hx:RV κ β G w x u)(h:(xQ T t x).im=Z'):RI w (XG κ β G) (xQ T t x) u:=by
 unfold xQ at*;split at h
 .cases hk:T.nk t with
  |none=>exact hx
  |some k=>
   simp only;cases hx with
   |dt ad=>exact RI.ns k [] ad 0 0 0 J' J' J'
 .exact hx.ri h
theorem um(hC:av κ β F G a w):∀(xs:List Operand)(ts:List TypeId),(cS T F xs ts).all AV.im=Z'->
 (cS T F xs ts).length=xs.length/\∀(j:Nat)(c:AV),(cS T F xs ts)[j]?=T' c->∃v:Value,(xs.map a.eval)[j]?=T' v/\RI w (XG κ β G) c v
 |[],ts,_=>by cases ts<;>simp[cS]
 |x::xs,[],h=>by
  simp only[cS,Co,dG]at h|-;have ih:=um hC xs [] h.2;refine⟨by simp[ih.1],λj c hj=>?_⟩;cases j with
  |zero=>simp at hj;subst hj;exact⟨_,rfl,(hC.ev x).ri h.1⟩
  |succ j=>simpa using ih.2 j c (by simpa using hj)
 |x::xs,t::ts,h=>by
  simp only[cS,Co,dG]at h|-;have ih:=um hC xs ts h.2;refine⟨by simp[ih.1],λj c hj=>?_⟩;cases j with
  |zero=>simp at hj;subst hj;exact⟨_,rfl,Lc (hC.ev x) h.1⟩
  |succ j=>simpa using ih.2 j c (by simpa using hj)
theorem av.qV(hC:av κ β F G a w){b:Nat}(h:XG κ β G b):b<w.heap.size:=by
 rcases h with h|⟨id,c,base,h1,h2⟩
 .exact da (hC.x0 b h).1 hC.aQ.size
 .exact(hC.hp id _ h1).lt h2
theorem Mc(hS:bh P S)(hC:av κ β F G a w){f:AV}{fv:Value}(hf:RV κ β G w f fv){args:List AV}{vs:Array Value}(hl:vs.size=args.length)
 (hr:args.all AV.im=Z'->∀(j:Nat)(c:AV),args[j]?=T' c->∃v:Value,vs[j]?=T' v/\RI w (XG κ β G) c v)
 (h:(mI S f args).1):QR P κ β G w (mI S f args).2 (((do let d<-Deferred.ofValue fv vs;invoke d.target d.args):Sem Next).run P w):=by
 unfold mI at*;cases f<;>try(simp at h;done)
 rename_i g ab;simp only at h|-;cases hg:S g with
 |none=>simp[hg]at h
 |some sp=>
  simp only[hg]at h|-;obtain⟨h0,h1,h2⟩:=h;have hr:=hr h1;cases hf with
  |fn _ _ cv f hlc hfc hrc=>
   have hA:=(hS g sp hg _ h2).1 h0 w (XG κ β G) (vs++cv) (λb hb=>hC.qV hb) (by simp[hl,hlc]) (λj c hj=>by
    by_cases hlt:j<args.length
    .rw[iK hlt]at hj
     obtain⟨v,k1,k2⟩:=hr j c hj;exact⟨v,by rw[Ca f'];exact k1,k2⟩
    .rw[jz f']at hj
     refine⟨f (j-args.length),?_,hrc _ c hj⟩;rw[SQ f',hl];exact hfc _ c hj)
   have af:((do let d<-Deferred.ofValue (.func (.func g) #[] cv) vs;invoke d.target d.args):Sem Next).run P w=(callFunc g (vs++cv)).run P w:=by
    simp[Deferred.ofValue,invoke]
   rw[af];generalize hres:sp.res (args++ab)=r at*;rcases hA with⟨v,k1,k2⟩|⟨k1,k2⟩
   .rw[k1]
    refine⟨rfl,?_⟩;cases r with
    |os=>cases k2
    |ptr=>cases k2
    |_=>exact k2
   .rw[k1]
    exact⟨rfl,k2⟩
theorem aaf(hT:cU P T)(h:T.mt t m=T' g)(v:Value)(n:Nat)(w:World):(method (n+1) t v m).run P w=.ok (g,v) w:=by
 obtain⟨i,r,fs,h1,h2,h3,h4,h5⟩:=hT.mt t m g h;have hi:(typeInfo t).run P w=.ok i w:=by simp[typeInfo,h1]
 simp[method,hi,h2,h3,h4,follow,receiverAt,run_underlying h5,Place.get]
theorem Zi(hT:cU P T)(h:T.mt t m=T' g)(v:Value)(vs:Array Value)(w:World):
 (invoke (.fn (.method m) #[]) (#[.iface t v]++vs)).run P w=((do let d<-Deferred.ofValue (.func (.func g) #[] #[]) (#[v]++vs);invoke d.target d.args):Sem Next).run P w:=by
 have hn:P.types.size+Made.depth=(P.types.size+99)+1:=rfl;have e1:(#[Value.iface t v]++vs)[0]?=T' (Value.iface t v):=by rw[Ca J'];rfl
 have e2:(#[Value.iface t v]++vs).extract 1 (#[Value.iface t v]++vs).size=vs:=by
  apply mU;simp
 have e3:(invoke (.fn (.method m) #[]) (#[.iface t v]++vs)).run P w=(callFunc g (#[v]++vs)).run P w:=by
  unfold invoke;simp only[e1,e2,callMethod,cC,run_program,cz,hn,aaf hT h]
 rw[e3];simp[Deferred.ofValue,invoke]
theorem nF{r:AV}{s:Sem Value}(h:∃z,s.run P w=.ok z w/\RV κ β G w r z):QR P κ β G w r (((do pure (.value (<-s))):Sem Next).run P w):=by
 obtain⟨z,h1,h2⟩:=h;simp only[cC,h1,cz,cJ];exact⟨rfl,h2⟩
theorem QH(f:α->Sem γ):∀(l:List α)(r:List γ),l.length=r.length->(∀(j:Nat)(y:γ),r[j]?=T' y->∀w,∃x:α,l[j]?=T' x/\(f x).run P w=.ok y w)->
 ∀w,(l.mapM f).run P w=.ok r w
 |[],[],_,_,w=>J'
 |[],_::_,h,_,_=>by simp at h
 |_::_,[],h,_,_=>by simp at h
 |x::l,y::r,h,hf,w=>by
  obtain⟨x',h1,h2⟩:=hf 0 y rfl w;simp only[uc,aC]at h1;subst h1;have ih:=QH f l r (by simpa using h) (λj y hj w=>by simpa using hf (j+1) y (by simpa using hj) w) w;simp[Km,h2,ih]
theorem ac9{f:α->Sem γ}(l:Array α)(r:List γ)(hl:l.size=r.length)(hf:∀(j:Nat)(y:γ),r[j]?=T' y->∀w,∃x:α,l[j]?=T' x/\(f x).run P w=.ok y w)(w:World):(l.mapM f).run P w=.ok r.toArray w:=by
 rw[SU];have:=QH (P:=P) f l.toList r (by simpa using hl) (λj y hj w=>by simpa using hf j y hj w) w;simp[this]
theorem Qk(hT:cU P T)(hS:bh P S)(hC:av κ β F G a w)(o:Oper)(h:(qv T S F G o).1):
 QR P κ β G w (qv T S F G o).2 ((execOp a.eval o).run P w):=by
 unfold qv at*;cases hop:o.op<;>simp only[hop]at h|-<;>try(exact False.elim h)
 case move x=>simp only[execOp,hop,cJ];exact⟨rfl,hC.ev x⟩
 case assign x=>simp only[execOp,hop,cJ];exact⟨rfl,hC.ev x⟩
 case pick c x y=>
  have hc:=hC.ev c;simp only[execOp,hop];generalize ev F c=q at*;generalize a.eval c=u at*;split at h
  .rename_i t
   have e1:=RI.aS hc;subst e1;simp only[asBool,cC,cJ,cz];cases t
   .exact⟨rfl,hC.ev y⟩
   .exact⟨rfl,hC.ev x⟩
  .exact False.elim h
 case load t x=>
  simp only[execOp,hop];exact nF (OF hT hC rfl h)
 case nilCheck x=>
  have hx:=hC.ev x;simp only[execOp,hop];generalize ev F x=q at*;generalize a.eval x=u at*;split at h
  .obtain⟨b,o,rfl,_⟩:=RI.Jw hx
   simp only[cJ];exact⟨rfl,hx⟩
  .cases hx with
   |fn _ _ cv f hlc hfc hrc=>
    simp only[cJ];exact⟨rfl,RI.fn _ _ cv f hlc hfc hrc⟩
  .rename_i id off
   obtain⟨ae,hG⟩:=sF.1 h;obtain⟨b,base,q1,rfl⟩:=hx ae hG;simp only[cJ];exact⟨rfl,λ_ _=>⟨b,base,q1,rfl⟩⟩
  .exact False.elim h
 case binOp op t x y ty=>
  simp only[execOp,hop];exact nF (Uu hT (hC.ev x) (hC.ev y) x y h)
 case unOp op t x=>
  simp only[execOp,hop];exact nF (agl (hC.ev x) h)
 case convert s d x=>
  have hx:=hC.ev x;simp only[execOp,hop];generalize ev F x=q at*;generalize a.eval x=u at*;split at h
  .rename_i k n ks kd h1 h2
   have e1:=RI.aS hx;subst e1;exact nF ⟨_,VA hT h1 h2 w,RI.r _⟩
  .exact False.elim h
 case fieldAddr s x f=>
  simp only[execOp,hop];exact nF (Xx hT hC rfl h)
 case field s x f=>
  have hx:=hC.ev x;simp only[execOp,hop];generalize ev F x=q at*;generalize a.eval x=u at*;split at h
  .rename_i d n cs hfa
   obtain⟨fs,fd,i,D,h1,h2,h3,h4,h5,h6,h7⟩:=hT.fa s f d n hfa;have hri:RI w (XG κ β G) (.agg cs) u:=hx;cases hri with
   |agg _ vs g hl hv hr=>
    refine nF ⟨.agg (vs.extract d (d+n)),?_,?_⟩
    .simp[Instr.field,run_underlying h1,h2,part,ED h4 h5,run_sizeOf h6,h7,h3,asAgg]
    .refine RI.agg _ _ (λj=>vs.getD (d+j) undef) ?_ (λj c hj=>?_) (λj c hj=>?_)
     .simp only at h
      rw[Array.size_extract,fT,j6,hl];omega
     .rw[ic]at hj
      split at hj
      .rename_i hjn
       rw[j5]at hj;have hlt:d+j<vs.size:=by rw[hl];exact(iu.1 hj).1
       rw[Array.getElem?_extract,au f',iW];simp[sc hlt]
      .cases hj
     .rw[ic]at hj
      split at hj
      .rw[j5]at hj
       rw[iW,hv _ _ hj];exact hr _ _ hj
      .cases hj
  .exact False.elim h
 case indexAddr t x i=>
  simp only[execOp,hop];exact nF (Zc hT (hC.ev x) (hC.ev i) h)
 case index t x i=>
  have hx:=hC.ev x;have hi:=hC.ev i;simp only[execOp,hop];generalize ev F x=q at*;generalize a.eval x=u at*;generalize ev F i=qi at*;generalize a.eval i=ui at*;split at h
  .rename_i s n h1
   obtain⟨k,rfl⟩:=hi.qE h1;have e1:=RI.aS hx;subst e1;obtain⟨g1,g2,g3⟩:=h;refine nF ⟨_,?_,RI.r _⟩;have e3:s[n.toNat]?=T' s[n.toNat]:=by simp[g3]
   have e4:s.data[n.toNat]?=T' s[n.toNat]:=by
    rw[sc (show n.toNat<s.data.size from g3)]
    rfl
   simp[Instr.index,asIntOf,run_underlying (hT.str t g1),g2,e3,e4]
  .rename_i cs n h1
   obtain⟨k,rfl⟩:=hi.qE h1;obtain⟨g1,g2,g3,g4⟩:=h;obtain⟨e,d,inf,a1,a2,a3,a4,a5⟩:=hT.ar t _ g1;have hri:RI w (XG κ β G) (.agg cs) u:=hx;cases hri with
   |agg _ vs f hl hv hr=>
    have hc:cs[n.toNat]?=T' cs[n.toNat]:=by simp[g3]
    have hv0:=hv _ _ hc;have hr0:=hr _ _ hc;have e1:cs.getD n.toNat AV.any=cs[n.toNat]:=by simp[List.getD,g3]
    simp only;rw[e1];have hnl:n<(cs.length:Int):=f';refine nF ⟨f n.toNat,?_,?_⟩
    .simp only[Instr.index,asIntOf,cC,cJ,cz,run_underlying a1]
     rw[au ⟨g2,hnl⟩];simp[run_sizeOf a4,a5,part,EC a2 a3,hv0]
    .generalize cs[n.toNat]=r at*
     cases r with
     |os=>cases hr0
     |ptr=>cases hr0
     |_=>exact hr0
  .exact False.elim h
 case slice t x lo hi mx=>
  simp only[execOp,hop];exact nF (VS hT hC rfl rfl rfl h)
 case extract x i=>
  have hx:=hC.ev x;simp only[execOp,hop];generalize ev F x=q at*;generalize a.eval x=u at*;split at h
  .rename_i cs
   cases hx with
   |aU _ vs f hl hf hr=>
    simp only at h|-;have h1:=hf i cs[i] (by simp[h]);have h2:=hr i cs[i] (by simp[h]);refine nF ⟨f i,by simp[Instr.extract,h1],?_⟩;have e:cs.getD i AV.any=cs[i]:=by simp[List.getD,h]
    rw[e];generalize cs[i]=r at*;cases r with
    |os=>cases h2
    |ptr=>cases h2
    |_=>exact h2
  .exact False.elim h
 case build t ps=>
  simp only[execOp,hop];cases hz:T.zr t with
  |none=>simp[hz]at h
  |some z=>
   cases hst:T.st t with
   |none=>simp[hz,hst]at h
   |some places=>
    simp only[hz,hst]at h|-;cases hfl:uC places z (ps.toList.map λp=>(p.1,ev F p.2))with
    |none=>simp[hfl]at h
    |some cs=>
     simp only;obtain⟨i,v,h1,h2,h3,h4⟩:=hT.zr t z hz;obtain⟨fs,k1,k2,k3⟩:=hT.st t places hst;have hmap:∀w,(fs.mapM (λf=>(do pure (f.offset,<-sizeOf f.type):Sem (Nat×Nat)))).run P w=.ok places.toArray w:=by
      intro w;rw[ac9 (f:=λf=>(do pure (f.offset,<-sizeOf f.type):Sem (Nat×Nat))) (P:=P) fs places k2 ?_ w];intro j p hp w;obtain⟨o,s⟩:=p;obtain⟨fd,i,m1,m2,m3,m4⟩:=k3 j o s hp;refine⟨fd,m1,?_⟩;simp[run_sizeOf m3,m2,m4]
     obtain⟨C',f1,f2,f3⟩:=Nj (w:=w) (X:=XG κ β G) (pl:=λi=>places.toArray[i]?) (places:=places) (λi p hp=>by simpa using hp)
      (ps.toList.map λp=>(p.1,ev F p.2)) (ps.toList.map λp=>(p.1,a.eval p.2)) z cs v.cells J'
      (λj p q hp hq=>by
       rw[gv]at hp hq;cases hj:ps.toList[j]? with
       |none=>rw[hj]at hp;cases hp
       |some pq=>
        rw[hj]at hp hq;simp only[ft,aC]at hp hq;subst hp;subst hq;exact⟨rfl,λhim=>(hC.ev _).ri him⟩) h3 (λj c hj=>h4 w _ j c hj) hfl
     refine nF ⟨.agg C',?_,?_⟩
     .have hz':(zeroValue t).run P w=.ok v w:=by simp[zeroValue,run_typeInfo h1,h2]
      have e1:(Array.map (λx=>match x with|(i,x)=>(i,a.eval x)) ps).toList=ps.toList.map λp=>(p.1,a.eval p.2):=J'
      simp only[Instr.build,cC,hz',cz,run_underlying k1,hmap,e1,f1,cJ]
     .have hex:∀j:Nat,∃u:Value,∀c:AV,cs[j]?=T' c->C'[j]?=T' u/\RI w (XG κ β G) c u:=by
       intro j;cases hj:cs[j]? with
       |none=>exact⟨undef,λc hc=>by cases hc⟩
       |some c=>
        obtain⟨u,q1,q2⟩:=f3 j c hj;exact⟨u,λc' hc'=>by simp only[aC]at hc';subst hc';exact⟨q1,q2⟩⟩
      obtain⟨g,hg⟩:=vo hex;exact RI.agg cs C' g f2 (λj c hj=>(hg j c hj).1) (λj c hj=>(hg j c hj).2)
 case makeInterface t x=>
  have hx:=hC.ev x;simp only[execOp,hop];generalize ev F x=q at*;generalize a.eval x=u at*;have run1:T.mi t=Z'->∀w,(Instr.makeInterface t u).run P w=.ok (.iface t u) w:=by
   intro hm w;obtain⟨fs,h1⟩:=hT.mi t hm;simp[Instr.makeInterface,run_underlying h1]
  unfold wJ at h|-;split at h
  .have hri:RI w (XG κ β G) (.agg []) u:=hx
   cases hri with
   |agg _ vs g hl hv hr=>
    have e:vs=#[]:=by
     apply mU;have:vs.toList.length=0:=by simpa using hl
     simpa using this
    subst e;exact nF ⟨_,run1 h w,RI.r _⟩
  .rename_i v
   have hri:RI w (XG κ β G) (.agg [.r v]) u:=hx;cases hri with
   |agg _ vs g hl hv hr=>
    have hv0:=hv 0 _ rfl;have hr0:=RI.aS (hr 0 _ rfl);rw[hr0]at hv0;have e:vs=#[v]:=by
     apply mU;have hl':vs.toList.length=1:=by simpa using hl
     have h0:vs.toList[0]?=T' v:=by simpa using hv0
     obtain⟨l⟩:=vs;rcases l with _|⟨y,_|⟨z,l⟩⟩
     .simp at hl'
     .simp at h0;simp[h0]
     .simp at hl'
    subst e;exact nF ⟨_,run1 h w,RI.r _⟩
  .exact False.elim h
 case call c=>
  obtain⟨callee,args,argTypes⟩:=c;simp only[execOp,hop,resolve];cases callee with
  |invoke r m=>
   simp only at h|-;have hargs:=um (T:=T) hC args.toList argTypes.toList;have hx:=hC.ev r;generalize ev F r=q at*;generalize a.eval r=u at*;have hlen:∀(xs:List Operand)(ts:List TypeId),(cS T F xs ts).length=xs.length:=by
    intro xs
    induction xs with
    |nil=>intro ts;cases ts<;>rfl
    |cons x xs ih=>intro ts;cases ts<;>simp[cS,ih]
   have key:∀(t:TypeId)(g:FuncId)(x:AV)(v:Value),u=.iface t v->T.mt t m=T' g->x.im=Z'->RI w (XG κ β G) x v->
    (mI S (.fn g []) (x::cS T F args.toList argTypes.toList)).1->
    QR P κ β G w (mI S (.fn g []) (x::cS T F args.toList argTypes.toList)).2 (((do let d<-(pure {target:=.fn (.method m) #[],args:=#[u]++args.map a.eval}:Sem Deferred);invoke d.target d.args):Sem Next).run P w):=by
    intro t g x v hu hm him hri hh;subst hu;simp only[cC,cJ,cz];rw[Zi hT hm];refine Mc (f:=.fn g []) (fv:=.func (.func g) #[] #[]) (vs:=#[v]++args.map a.eval) hS hC (RI.fn g [] #[] (λ_=>undef) rfl (λj c hj=>by cases hj) (λj c hj=>by cases hj)) ?_ ?_ hh
    .simp[hlen];omega
    .intro hall j c hj
     simp only[Co,dG]at hall;cases j with
     |zero=>
      simp only[uc,aC]at hj;subst hj;exact⟨v,by rw[Ca J'];rfl,hri⟩
     |succ j=>
      obtain⟨z,z1,z2⟩:=(hargs hall.2).2 j c (by simpa using hj);refine⟨z,?_,z2⟩;rw[SQ J'];simpa using z1
   unfold D4 Bi at h|-;cases q<;>try(exact False.elim h)
   rename_i v0;have hv0:=RI.aS hx;subst hv0;cases u<;>try(exact False.elim h)
   rename_i t v;cases v<;>try(exact False.elim h)
   rename_i cs;simp only at h|-;obtain⟨l⟩:=cs;rcases l with _|⟨y,_|⟨z,l⟩⟩
   .simp only at h|-
    cases hm:T.mt t m with
    |none=>simp only[hm,FU,wg]at h
    |some g=>
     simp only[hm,ft,wg]at h|-;exact key t g _ _ rfl hm rfl (RI.agg [] #[] (λ_=>undef) rfl (λj c hj=>by cases hj) (λj c hj=>by cases hj)) h
   .simp only at h|-
    cases hm:T.mt t m with
    |none=>simp only[hm,FU,wg]at h
    |some g=>
     simp only[hm,ft,wg]at h|-;refine key t g _ _ rfl hm rfl (RI.agg [.r y] #[y] (λ_=>y) rfl (λj c hj=>?_) (λj c hj=>?_)) h
     .rcases j with _|j
      .rfl
      .simp at hj
     .rcases j with _|j
      .simp only[uc,aC]at hj;subst hj;exact RI.r _
      .simp at hj
   .exact False.elim h
  |value f=>
   simp only at h|-;have hargs:=um (T:=T) hC args.toList argTypes.toList;have:=Mc (vs:=args.map a.eval) hS hC (hC.ev f) (by
    have:∀(xs:List Operand)(ts:List TypeId),(cS T F xs ts).length=xs.length:=by
     intro xs
     induction xs with
     |nil=>intro ts;cases ts<;>rfl
     |cons x xs ih=>intro ts;cases ts<;>simp[cS,ih]
    simp[this]) (λhim j c hj=>by
     obtain⟨v,h1,h2⟩:=(hargs him).2 j c hj;exact⟨v,by simpa using h1,h2⟩) h
   simpa using this
  |builtin b=>
   cases b<;>try(exact False.elim h)
   case len=>
    simp only at h|-;split at h
    .rename_i x t e1 e2
     have e1':args=#[x]:=by apply mU;simpa using e1
     have e2':argTypes=#[t]:=by apply mU;simpa using e2
     subst e1';subst e2';obtain⟨z,k1,k2⟩:=ac7 (ty:=o.type) hT (hC.ev x) h;simp only[cC,cJ,cz,invoke,builtin,lB,fX,kr,k1];exact⟨rfl,k2⟩
    .exact False.elim h
   case min=>
    simp only at h|-;split at h
    .rename_i x y e1
     have e1':args=#[x,y]:=by apply mU;simpa using e1
     subst e1';have hx:=hC.ev x;have hy:=hC.ev y;simp only[cC,cJ,cz,invoke,builtin];simp only[lB,fX,kr];generalize ev F x=qx at*;generalize a.eval x=ux at*;generalize ev F y=qy at*;generalize a.eval y=uy at*;split at h
     .rename_i k n k' m
      have e3:=RI.aS hx;have e4:=RI.aS hy;subst e3;subst e4;simp only[Builtin.min_,Builtin.min2,Kf,Kg,cC,cJ,cz];exact⟨rfl,RI.r _⟩
     .exact False.elim h
    .exact False.elim h
   case max=>
    simp only at h|-;split at h
    .rename_i x y e1
     have e1':args=#[x,y]:=by apply mU;simpa using e1
     subst e1';have hx:=hC.ev x;have hy:=hC.ev y;simp only[cC,cJ,cz,invoke,builtin];simp only[lB,fX,kr];generalize ev F x=qx at*;generalize a.eval x=ux at*;generalize ev F y=qy at*;generalize a.eval y=uy at*;split at h
     .rename_i k n k' m
      have e3:=RI.aS hx;have e4:=RI.aS hy;subst e3;subst e4;simp only[Builtin.max_,Builtin.max2,Kf,Kg,cC,cJ,cz];exact⟨rfl,RI.r _⟩
     .exact False.elim h
    .rename_i x y z e1
     have e1':args=#[x,y,z]:=by apply mU;simpa using e1
     subst e1';have hx:=hC.ev x;have hy:=hC.ev y;have hz:=hC.ev z;simp only[cC,cJ,cz,invoke,builtin];simp only[lB,fX,kr];generalize ev F x=qx at*;generalize a.eval x=ux at*;generalize ev F y=qy at*;generalize a.eval y=uy at*;generalize ev F z=qz at*;generalize a.eval z=uz at*;split at h
     .rename_i k n k2 m k3 p
      have e3:=RI.aS hx;have e4:=RI.aS hy;have e5:=RI.aS hz;subst e3;subst e4;subst e5;simp only at h;subst h;simp only[Builtin.max_,Builtin.max2,Kf,Kg,cC,cJ,cz];refine⟨rfl,?_⟩
      by_cases hmn:m>n
      .simp only[au hmn];exact RI.r _
      .simp only[aq hmn];exact RI.r _
     .exact False.elim h
    .exact False.elim h
end
end
end
section
open Go Go.RowKit
section
variable {id:Nat}
def Be:List (Nat×AV)->Nat->List (Nat×AV)
 |[],_=>[]
 |(t,v)::l,id=>(t,if v.refs id=Z' then .any else v)::Be l id
def St.kill(σ:St)(id:Nat):St:=⟨Be σ.fr id,del σ.hp id⟩
theorem ZW(l:List (Nat×AV))(id t:Nat):lk (Be l id) t=(lk l t).map λv=>if v.refs id=Z' then .any else v:=by
 induction l with
 |nil=>rfl
 |cons p l ih=>
  obtain⟨k,v⟩:=p;simp only[Be,lk];split
  .rfl
  .exact ih
theorem Zn(o:Option AV)(id:Nat):(o.map λv=>if v.refs id=Z' then AV.any else v).getD .any=if(o.getD .any).refs id=Z' then .any else o.getD .any:=by
 cases o with
 |none=>simp[AV.refs]
 |some v=>simp
theorem Hs(σ:St)(id t:Nat):(σ.kill id).get t=if(σ.get t).refs id=Z' then .any else σ.get t:=by
 simp only[St.kill,St.get,ZW];exact Zn _ id
theorem AR(σ:St)(id t:Nat):(σ.kill id).get t=σ.get t\/(σ.kill id).get t=.any:=by
 rw[Hs];split
 .exact .inr rfl
 .exact .inl rfl
theorem tJ(σ:St)(id t:Nat):((σ.kill id).get t).refs id=false:=by
 rw[Hs];split
 .rfl
 .rename_i h;simpa using h
theorem abG(σ:St)(id j t:Nat)(h:(σ.get t).refs j=a0a):((σ.kill id).get t).refs j=false:=by
 rw[Hs];split
 .rfl
 .exact h
section
variable {κ:Ctx}{β:Nat->Option (Nat×Nat)}{F:Nat->AV}{G:Nat->Option cq}{a:Act}{w w':World}
theorem av.dS(h:av κ β F G a w){F':Nat->AV}(hF:∀t,F' t=F t\/F' t=.any):av κ β F' G a w:=by
 refine⟨h.sz,λt=>?_,h.gp,h.hp,h.sep,h.aQ,h.x0,h.bC⟩;rcases hF t with e|e
 .rw[e];exact h.rel t
 .rw[e];exact RI.any _
theorem av.drop(h:av κ β F G a w){G':Nat->Option cq}(hG:∀i,G' i=G i\/G' i=Y'):av κ β F G' a w:=by
 have hs:∀i b,G' i=T' b->G i=T' b:=λi b hi=>by
  rcases hG i with e|e
  .rw[<-e];exact hi
  .rw[e]at hi;cases hi
 have hX:∀b,XG κ β G' b->XG κ β G b:=λb hb=>XG.dS (λi c hi=>⟨c,hs i _ hi⟩) hb
 refine⟨h.sz,λt=>?_,h.gp,λi ae hi=>?_,λi j b c x y ab hx hy=>h.sep i j b c x y ab (hs i x hx) (hs j y hy),h.aQ,h.x0,h.bC⟩
 .have ht:=h.rel t
  generalize F t=v at*;cases v with
  |os i s off len=>
   obtain⟨ad,cap,h1,h2,h3⟩:=ht;exact⟨ad,cap,h1,h2,λae hb=>h3 ae (hs i ae hb)⟩
  |ptr i off=>exact λae hb=>ht ae (hs i ae hb)
  |_=>exact RI.cW (dZ.refl _ _) (λb _ hb=>hX b hb) ht
 .rcases h.hp i ae (hs i ae hi)with h6|⟨b,base,C,e,h1,h2,h3,h4,h5⟩
  .exact .inl h6
  .exact .inr ⟨b,base,C,e,h1,h2,h3,λj c hj=>by
    obtain⟨v,hv,hr⟩:=h4 j c hj;exact⟨v,hv,hr.cW (dZ.refl _ _) (λb _ hb=>hX b hb)⟩,h5⟩
theorem xT(σ:St)(id:Nat):(σ.kill id).ae=aD σ.ae id none:=by
 funext u
 simp only[St.kill,St.ae,nC,aD]
theorem av.rename(h:av κ β F G a w){d:Nat}{ae:cq}(a0:κ.bC d=Y')(ay:d≠κ.nt)(hG:G id=T' ae)(h1:∀t,(F t).refs id=a0a)(h2:∀t,(F t).refs d=a0a):
 av κ (aD β d (β id)) F (aD (aD G id Y') d (T' ae)) a w:=by
 have hX:∀b,XG κ (aD β d (β id)) (aD (aD G id Y') d (T' ae)) b->XG κ β G b:=by
  intro b hb;rcases hb with hb|⟨i,c,base,g1,g2⟩
  .exact .inl hb
  .by_cases e:d=i
   .subst e
    rw[eu]at g1 g2;simp only[aC]at g1;exact .inr ⟨id,c,base,by rw[hG,g1],g2⟩
   .rw[bS _ _ e]at g1 g2
    by_cases e':id=i
    .subst e';rw[eu]at g1;cases g1
    .rw[bS _ _ e']at g1
     exact .inr ⟨i,c,base,g1,g2⟩
 have ax:∀c v,RI w (XG κ β G) c v->RI w (XG κ (aD β d (β id)) (aD (aD G id Y') d (T' ae))) c v:=
  λc v hr=>hr.cW (dZ.refl _ _) (λb _ hb=>hX b hb)
 have aw:∀i b,mV κ β G w i b->(aD β d (β id))=(aD β d (β id))->∀j,(j=i\/j≠κ.nt)->aD β d (β id) j=β i->mV κ (aD β d (β id)) (aD (aD G id Y') d (T' ae)) w j b:=by
  intro i b hb _ j ab hj;rcases hb with h6|⟨b2,base,C,e,g1,g2,g3,g4,g5⟩
  .exact .inl ⟨by rw[hj];exact h6.1,h6.2⟩
  .exact .inr ⟨b2,base,C,e,by rw[hj];exact g1,g2,g3,λj c hj=>by
    obtain⟨v,hv,hr⟩:=g4 j c hj;exact⟨v,hv,ax _ _ hr⟩,by
     rcases ab with rfl|ab
     .exact g5
     .rcases g5 with g5|⟨lo,hi,q1,q2,q3,q4,_⟩
      .exact .inl ⟨g5.1,ab⟩
      .exact .inr ⟨lo,hi,q1,q2,q3,q4,λe=>absurd e ab⟩⟩
 refine⟨h.sz,λt=>?_,h.gp,λi b hi=>?_,λi j b c x y a6 hx hy af e ao=>?_,h.aQ,h.x0,h.ID a0 _⟩
 .have ht:=h.rel t
  have r1:=h1 t;have r2:=h2 t;generalize F t=v at*;cases v with
  |os i s off len=>
   have e1:id≠i:=by intro e;subst e;simp[AV.refs]at r1
   have e2:d≠i:=by intro e;subst e;simp[AV.refs]at r2
   obtain⟨ad,cap,g1,g2,g3⟩:=ht;refine⟨ad,cap,g1,g2,λb hb=>?_⟩;rw[bS _ _ e2,bS _ _ e1]at hb;rw[bS _ _ e2];exact g3 b hb
  |ptr i off=>
   have e1:id≠i:=by intro e;subst e;simp[AV.refs]at r1
   have e2:d≠i:=by intro e;subst e;simp[AV.refs]at r2
   intro b hb;rw[bS _ _ e2,bS _ _ e1]at hb;rw[bS _ _ e2];exact ht b hb
  |_=>exact ax _ _ ht
 .by_cases e:d=i
  .subst e
   rw[eu]at hi;simp only[aC]at hi;subst hi;exact aw id _ (h.hp id _ hG) rfl d (.inr ay) (eu _ _ _)
  .rw[bS _ _ e]at hi
   by_cases e':id=i
   .subst e';rw[eu]at hi;cases hi
   .rw[bS _ _ e']at hi
    exact aw i _ (h.hp i _ hi) rfl i (.inl rfl) (bS _ _ e)
 .have key:∀i x,aD (aD G id Y') d (T' ae) i=T' x->∃i',G i'=T' x/\aD β d (β id) i=β i'/\((d=i/\i'=id)\/(d≠i/\id≠i/\i'=i)):=by
   intro i x hx
   by_cases e:d=i
   .subst e
    rw[eu]at hx;simp only[aC]at hx;subst hx;exact⟨id,hG,eu _ _ _,.inl ⟨rfl,rfl⟩⟩
   .rw[bS _ _ e]at hx
    by_cases e':id=i
    .subst e';rw[eu]at hx;cases hx
    .rw[bS _ _ e']at hx
     exact⟨i,hx,bS _ _ e,.inr ⟨e,e',rfl⟩⟩
  obtain⟨i',a1,a2,a3⟩:=key i x hx;obtain⟨j',b1,b2,b3⟩:=key j y hy;rw[a2]at af;rw[b2]at ao;refine h.sep i' j' b c x y ?_ a1 b1 af e ao;intro e;rcases a3 with⟨a3,a4⟩|⟨a3,a4,a5⟩<;>rcases b3 with⟨b3,b4⟩|⟨b3,b4,b5⟩<;>omega
theorem av.bare(h:av κ β F G a w)(ay:κ.bC id=Y')(aw:∀t,(F t).refs id=a0a){con:aN}(hl:con.len=0):
 av κ (aD β id Y') F (aD G id (T' ⟨Z',con⟩)) a w:=by
 have hX:∀b,XG κ (aD β id Y') (aD G id (T' ⟨Z',con⟩)) b->XG κ β G b:=by
  intro b hb;rcases hb with hb|⟨i,c,base,g1,g2⟩
  .exact .inl hb
  .by_cases e:id=i
   .subst e;rw[eu]at g2;cases g2
   .rw[bS _ _ e]at g1 g2
    exact .inr ⟨i,c,base,g1,g2⟩
 have ao:∀c v,RI w (XG κ β G) c v->RI w (XG κ (aD β id Y') (aD G id (T' ⟨Z',con⟩))) c v:=
  λc v hr=>hr.cW (dZ.refl _ _) (λb _ hb=>hX b hb)
 refine⟨h.sz,λt=>?_,h.gp,λi b hi=>?_,λi j b c x y ax hx hy ab e af=>?_,h.aQ,h.x0,h.ID ay _⟩
 .have ht:=h.rel t
  have r1:=aw t;generalize F t=v at*;cases v with
  |os i s off len=>
   have e1:id≠i:=by intro e;subst e;simp[AV.refs]at r1
   obtain⟨ad,cap,g1,g2,g3⟩:=ht;refine⟨ad,cap,g1,g2,λb hb=>?_⟩;rw[bS _ _ e1]at hb|-;exact g3 b hb
  |ptr i off=>
   have e1:id≠i:=by intro e;subst e;simp[AV.refs]at r1
   intro b hb;rw[bS _ _ e1]at hb|-;exact ht b hb
  |_=>exact ao _ _ ht
 .by_cases e:id=i
  .subst e
   rw[eu]at hi;simp only[aC]at hi;subst hi;exact .inl ⟨eu _ _ _,hl⟩
  .rw[bS _ _ e]at hi
   rcases h.hp i b hi with h6|⟨b2,base,C,f,g1,g2,g3,g4,g5⟩
   .exact .inl ⟨by rw[bS _ _ e];exact h6.1,h6.2⟩
   .exact .inr ⟨b2,base,C,f,by rw[bS _ _ e];exact g1,g2,g3,λj c hj=>by
     obtain⟨v,hv,hr⟩:=g4 j c hj;exact⟨v,hv,ao _ _ hr⟩,g5⟩
 .by_cases e1:id=i
  .subst e1;rw[eu]at ab;cases ab
  .by_cases e2:id=j
   .subst e2;rw[eu]at af;cases af
   .rw[bS _ _ e1]at hx ab
    rw[bS _ _ e2]at hy af;exact h.sep i j b c x y ax hx hy ab e af
end
end
end
section
open Go Go.RowKit
section
variable {v:AV}{n:Nat}{ab:Nat->Option (Nat×Nat)}{G':Nat->Option cq}{d:Option Nat}{σ:St}{t:TypeId}{w':World}
section
variable {P:Program}{T:aL}{S:FuncId->Option Sp}{κ:Ctx}{β:Nat->Option (Nat×Nat)}{F:Nat->AV}{G:Nat->Option cq}{a:Act}{w:World}{X:Nat->Prop}
theorem av.made(h:av κ β σ.get σ.ae a w)(d:Nat)(hd:d<κ.nt)(C:Array Value)(e:TypeId)(con:aN)(hl:con.len<=C.size)(hc:∀j c,con.val j=T' c->∃v,C[j]?=T' v/\RI w (XG κ β σ.ae) c v){x:Value}(hv:∀ab G' w',ab d=T' (w.heap.size,0)->w'.heap[w.heap.size]?=T' (.cells C e (0,0))->RV κ ab G' w' v x):
 ∃ab,av κ ab (((σ.kill d).g7 d ⟨Z',con⟩).put (T' d) v).get (((σ.kill d).g7 d ⟨Z',con⟩).put (T' d) v).ae (a.put (T' d) x) (w.alloc (.cells C e)):=by
 have h1:av κ β (σ.kill d).get (σ.kill d).ae a w:=by
  refine(h.dS (AR σ d)).drop (λi=>?_);rw[xT]
  by_cases e:d=i
  .subst e;exact .inr (eu _ _ _)
  .exact .inl (bS _ _ e)
 have h2:=h1.fresh (id:=d) (h1.free (.inr f')) f' (tJ σ d) C e con hl (λj c hj=>by
  obtain⟨v,g1,g2⟩:=hc j c hj;refine⟨v,g1,g2.cW (dZ.refl _ _) (λb _ hb=>?_)⟩;refine XG.dS (λi c hi=>?_) hb;rw[xT]at hi
  by_cases e:d=i
  .subst e;rw[eu]at hi;cases hi
  .rw[bS _ _ e]at hi;exact⟨c,hi⟩)
 refine⟨aD β d (T' (w.heap.size,0)),?_⟩;rw[St.fh,St.eQ,St.nz,St.nj];refine h2.put (λt ht=>by cases ht;exact hd) (hv _ _ _ (eu _ _ _) ?_);show(w.heap.push _)[w.heap.size]?=_;simp
theorem RV.Et{d:Nat}(h:ab d=T' (n,0)):RV κ ab G' w' (.ptr d 0) (.pointer (T' ⟨n,0,Y'⟩)):=
 λ_ _=>⟨n,0,h,rfl⟩
theorem RV.yT{d s len cap:Nat}{C:Array Value}{e:TypeId}(h:ab d=T' (n,0))(hw:w'.heap[n]?=T' (.cells C e (0,0)))(hl:len<=cap)(hs:cap*s<=C.size):RV κ ab G' w' (.os d s 0 len) (.slice (T' ⟨n,0,Y'⟩) len cap):=
 ⟨_,cap,rfl,hl,λ_ _=>.inr ⟨n,0,C,e,h,rfl,hw,by simpa using hs⟩⟩
def vK(T:aL)(σ:St)(d:Option Nat)(t:TypeId):Prop×St:=
 match d,T.zr t with
 |some d,T' z=>(True,((σ.kill d).g7 d ⟨Z',.c z⟩).put (T' d) (.ptr d 0))
 |_,_=>(False,σ)
def sK(σ:St)(d:Option Nat)(v:AV):Prop×St:=
 match d,v.cells with
 |some d,T' z=>(True,((σ.kill d).g7 d ⟨Z',.c z⟩).put (T' d) (.ptr d 0))
 |_,_=>(False,σ)
theorem TM(hT:cU P T)(h:av κ β σ.get σ.ae a w)(hd:∀t,d=T' t->t<κ.nt)(hp:(vK T σ d t).1):
 ∃x w',(Instr.alloc t Z' (.tuple #[])).run P w=.ok x w'/\∃af,av κ af (vK T σ d t).2.get (vK T σ d t).2.ae (a.put d x) w':=by
 unfold vK at*;cases d with
 |none=>exact False.elim hp
 |some d=>
  cases hz:T.zr t with
  |none=>simp[hz]at hp
  |some z=>
   simp only;obtain⟨i,v,h1,h2,h3,h4⟩:=hT.zr t z hz;have ab:(zeroValue t).run P w=.ok v w:=by simp[zeroValue,run_typeInfo h1,h2]
   refine⟨.pointer (T' ⟨w.heap.size,0,Y'⟩),w.alloc (.cells v.cells t),?_,?_⟩
   .simp[Instr.alloc,ab,newVar,newRow]
   .exact h.made d (hd d rfl) _ _ (.c z) (by simp[aN.len,h3]) (λj c hj=>h4 w _ j c hj) (λ_ _ _ hb _=>RV.Et hb)
theorem UL(h:av κ β σ.get σ.ae a w)(hd:∀t,d=T' t->t<κ.nt){u:Value}(hv:RV κ β σ.ae w v u)(hp:(sK σ d v).1):
 ∃x w',(Instr.box t u).run P w=.ok x w'/\∃ab,av κ ab (sK σ d v).2.get (sK σ d v).2.ae (a.put d x) w':=by
 unfold sK at*;cases d with
 |none=>exact False.elim hp
 |some d=>
  cases hz:v.cells with
  |none=>simp[hz]at hp
  |some z=>
   simp only;obtain⟨h1,h2⟩:=RI.cells (hv.ri (AV.sO hz)) hz;refine⟨.pointer (T' ⟨w.heap.size,0,Y'⟩),w.alloc (.cells u.cells t),?_,?_⟩
   .simp[Instr.box,newVar,newRow]
   .exact h.made d (hd d rfl) _ _ (.c z) (by simp[aN.len,h1]) (λj c hj=>h2 j c hj) (λ_ _ _ hb _=>RV.Et hb)
def wH(T:aL)(σ:St)(d:Option Nat)(t:TypeId)(l c:AV):Prop×St:=
 match d,T.nk t,dI l,dI c with
 |some d,T' k,T' l,T' c=>(l=c/\0<=l/\(∃e b,T.sl t=T' (e,1,b)/\(b:Int)*l<=281474976710656/\l<=9223372036854775807),
  ((σ.kill d).g7 d ⟨Z',.n k (List.replicate l.toNat 0)⟩).put (T' d) (.os d 1 0 l.toNat))
 |some d,Y',T' l,T' c=>match T.sl t with
  |some (e,1,b)=>match T.zr e with
   |some [z]=>(l=c/\0<=l/\(b:Int)*l<=281474976710656/\l<=9223372036854775807,
    ((σ.kill d).g7 d ⟨Z',.c (List.replicate l.toNat z)⟩).put (T' d) (.os d 1 0 l.toNat))
   |_=>(False,σ)
  |_=>(False,σ)
 |_,_,_,_=>(False,σ)
theorem aab(hT:cU P T)(h:av κ β σ.get σ.ae a w)(hd:∀t,d=T' t->t<κ.nt){l c:AV}{lu cu:Value}(hl:RV κ β σ.ae w l lu)(hc:RV κ β σ.ae w c cu)(hp:(wH T σ d t l c).1):
 ∃x w',(Instr.makeSlice t lu cu).run P w=.ok x w'/\∃af,av κ af (wH T σ d t l c).2.get (wH T σ d t l c).2.ae (a.put d x) w':=by
 unfold wH at*;split at hp
 .rename_i d k n m e1 e2 e3
  simp only at hp|-;obtain⟨rfl,h0,e,b,g1,g2,g3⟩:=hp;obtain⟨kl,rfl⟩:=hl.qE e2;obtain⟨kc,rfl⟩:=hc.qE e3;obtain⟨q1,i,q2,q3,q4,z,q5,q6⟩:=hT.sl _ _ _ _ g1;obtain⟨e',ao,i',r1,r2,r3⟩:=hT.nk _ _ e1;rw[g1]at r1;simp only[aC,db,true_and]at r1;obtain⟨rfl,rfl⟩:=r1;rw[q2]at r2;simp only[aC]at r2;subst r2;rw[q5]at r3;simp only[aC]at r3;subst r3;have hr:=run_make (P:=P) w t e i _ q1 q2 q5 kl kc n n h0 (gu _) (by rw[q4];exact g2) g3;refine⟨_,_,hr,?_⟩;refine h.made d (hd d rfl) _ _ (.n k (List.replicate n.toNat 0)) (by simp[aN.len,size_madeCells,q3]) (λj c hj=>?_) (λ_ _ _ hb hw=>RV.yT hb hw (aM _) (by simp[size_madeCells,q3]));simp only[aN.val,qe]at hj;split at hj
  .simp only[ft,aC]at hj
   subst hj;refine⟨.int k 0,?_,RI.r _⟩;rename_i ab;simp[madeCells,q3,ab,Value.cells];rw[KA];rfl
  .cases hj
 .rename_i d n m e1 e2 e3
  split at hp
  .rename_i e b g1
   split at hp
   .rename_i z hz
    simp only at hp;simp only[g1,hz];obtain⟨rfl,h0,g2,g3⟩:=hp;obtain⟨kl,rfl⟩:=hl.qE e2;obtain⟨kc,rfl⟩:=hc.qE e3;obtain⟨q1,i,q2,q3,q4,z0,q5,q6⟩:=hT.sl _ _ _ _ g1;obtain⟨i',v,r1,r2,r3,r4⟩:=hT.zr _ _ hz;rw[q2]at r1;simp only[aC]at r1;subst r1;rw[q5]at r2;simp only[aC]at r2;subst r2;have hr:=run_make (P:=P) w t e i _ q1 q2 q5 kl kc n n h0 (gu _) (by rw[q4];exact g2) g3;refine⟨_,_,hr,?_⟩;refine h.made d (hd d rfl) _ _ (.c (List.replicate n.toNat z)) (by simp[aN.len,size_madeCells,q3]) (λj c hj=>?_) (λ_ _ _ hb hw=>RV.yT hb hw (aM _) (by simp[size_madeCells,q3]));simp only[aN.val,qe]at hj;split at hj
    .rename_i ab
     simp only[aC]at hj;subst hj;obtain⟨u,u1,u2⟩:=r4 w (XG κ β σ.ae) 0 z rfl;refine⟨u,?_,u2⟩;have hs:z0.cells.size=1:=r3;have hu:z0.cells[0]=u:=by
      rw[sc f']at u1;simpa only[aC]using u1
     simp[madeCells,q3,ab,hs,KA,hu]
    .cases hj
   .exact False.elim hp
  .exact False.elim hp
 .exact False.elim hp
def aN.wW:aN->Nat->List AV->Option aN
 |con,_,[]=>T' con
 |con,j,v::vs=>match con.put j v with
  |some con'=>con'.wW (j+1) vs
  |none=>Y'
def oN(T:aL)(σ:St)(t:TypeId)(p v:AV):Prop×St:=
 match p,v.cells with
 |.ptr id off,T' vs=>match σ.ae id with
  |some ⟨Z',con⟩=>match con.wW off vs with
   |some con'=>(off+vs.length<=con.len/\(T.vr t=T' Y'/\vs.length=1\/T.vr t=T' (T' vs.length)),σ.g7 id ⟨Z',con'⟩)
   |none=>(False,σ)
  |_=>(False,σ)
 |_,_=>(False,σ)
theorem Ju{α:Type}(f:Nat->α)(t:Nat)(u v:α):aD (aD f t u) t v=aD f t v:=by
 funext i;simp only[aD];split<;>rfl
theorem Jg{id b base:Nat}(ab:β id=T' (b,base)):∀(vs:List AV)(us:List Value)(j i:Nat)(con con':aN)(G:Nat->Option cq)(w:World),
 av κ β F G a w->G id=T' ⟨Z',con⟩->us.length=vs.length->(∀(k:Nat)(c:AV),vs[k]?=T' c->∃u:Value,us[k]?=T' u/\RI w (XG κ β G) c u)->
 con.wW (j+i) vs=T' con'->j+i+vs.length<=con.len->
 ∃w',(storeCells ⟨b,base+j,Y'⟩ us i).run P w=.ok () w'/\av κ β F (aD G id (T' ⟨Z',con'⟩)) a w'
 |[],[],j,i,con,con',G,w,h,hG,_,_,hp,_=>by
  simp only[aN.wW,aC]at hp;subst hp;refine⟨w,rfl,?_⟩;have:aD G id (T' ⟨Z',con⟩)=G:=by
   funext t;simp only[aD];split
   .rename_i e;subst e;exact hG.symm
   .rfl
  rw[this];exact h
 |[],_::_,_,_,_,_,_,_,_,_,hl,_,_,_=>by simp at hl
 |_::_,[],_,_,_,_,_,_,_,_,hl,_,_,_=>by simp at hl
 |v::vs,u::us,j,i,con,con',G,w,h,hG,hl,hr,hp,hj=>by
  simp only[aN.wW]at hp;cases hq:con.put (j+i) v with
  |none=>simp[hq]at hp
  |some c1=>
   simp only[hq]at hp;obtain⟨u',e1,e2⟩:=hr 0 v rfl;simp only[uc,aC]at e1;subst e1;simp only[gM]at hj;obtain⟨⟨u0,k1⟩,k2,k3,k4⟩:=h.store hG ab (j:=j+i) f' hq e2;have hlen:=(aN.Qe hq).2.1;have af:XG κ β G b:=.inr ⟨id,con,base,hG,ab⟩;have ih:=Jg ab vs us j (i+1) c1 con' (aD G id (T' ⟨Z',c1⟩)) (w.setCell ⟨b,base+(j+i),Y'⟩ u) k4 (eu _ _ _) (by simpa using hl)
    (λk c hk=>by
     obtain⟨u',g1,g2⟩:=hr (k+1) c (by simpa using hk);refine⟨u',by simpa using g1,g2.cW ⟨J',λm hm hx=>?_⟩ (λm _ hm=>?_)⟩
     .exact tU _ _ _ _ (λe=>hx (e▸af))
     .refine XG.dS (λi c hi=>?_) hm
      by_cases e:id=i
      .subst e;exact⟨con,hG⟩
      .rw[bS _ _ e]at hi;exact⟨c,hi⟩) (by rw[<-hp,ie]) (by rw[hlen];omega)
   obtain⟨w',g1,g2⟩:=ih;rw[Ju]at g2;refine⟨w',?_,g2⟩;simp only[storeCells,cC,ji];rw[run_store P w _ u _ k3];have e5:base+j+i=base+(j+i):=f';rw[e5];simp only[k1,k2,mz,if_false,cz];exact g1
theorem afx(hT:cU P T)(h:av κ β σ.get σ.ae a w){p:AV}{pu vu:Value}(ao:RV κ β σ.ae w p pu)(hv:RV κ β σ.ae w v vu)(hp:(oN T σ t p v).1):∃w',(Instr.storeAt t pu vu).run P w=.ok () w'/\av κ β (oN T σ t p v).2.get (oN T σ t p v).2.ae a w':=by
 unfold oN at*;split at hp
 .rename_i id off vs ab
  split at hp
  .rename_i con hG
   split at hp
   .rename_i con' af
    simp only at hp;simp only;obtain⟨h1,h2⟩:=hp;obtain⟨b,base,ax,rfl⟩:=ao _ hG;obtain⟨c1,c2⟩:=RI.cells (hv.ri (AV.sO ab)) ab;obtain⟨w',g1,g2⟩:=Jg (P:=P) ax vs vu.cells.toList off 0 con con' σ.ae w h hG (by simpa using c1) (λk c hk=>by
     obtain⟨u,q1,q2⟩:=c2 k c hk;exact⟨u,by simpa using q1,q2⟩) af f'
    refine⟨w',?_,?_⟩
    .have aw:∀w,(sizeOf t).run P w=.ok vs.length w:=by
      intro w;rcases h2 with⟨h2,h3⟩|h2
      .obtain⟨_,i,q1,q2⟩:=hT.xe t h2
       rw[run_sizeOf q1,q2,h3]
      .obtain⟨_,i,q1,q2⟩:=hT.BX t _ h2
       rw[run_sizeOf q1,q2]
     simp only[Instr.storeAt,Instr.sureAddr,storeVar,cC,cJ,cz,aw,c1];simpa using g1
    .rw[St.nz,St.nj];exact g2
   .exact False.elim hp
  .exact False.elim hp
 .exact False.elim hp
end
end
end
section
open Go Go.RowKit
section
variable {len:Nat}{t:TypeId}
def qM(k:IntKind):List AV->Option (List Int)
 |[]=>T' []
 |.r (.int k' x)::l=>if k=k' then(qM k l).map (x::·)else Y'
 |_::_=>Y'
def qs:List AV->Option (List AV)
 |[]=>T' []
 |v::l=>match v.cells,qs l with
  |some cs,T' ds=>T' (cs++ds)
  |_,_=>Y'
def pS(i:Nat):List (Nat×Operand)->Bool
 |[]=>Z'
 |p::l=>(p.1==i)&&pS (i+1) l
def vO(T:aL)(σ:St)(d:Option Nat)(t:TypeId)(len:Nat)(parts:List (Nat×Operand)):Prop×St:=
 match d,T.sl t with
 |some d,T' (_,s,_)=>
  let vs:=parts.map λp=>ev σ.get p.2
  match T.nk t with
  |some k=>match qM k vs with
   |some xs=>(pS 0 parts=Z'/\parts.length=len/\len*s<=16777216,((σ.kill d).g7 d ⟨Z',.n k xs⟩).put (T' d) (.os d 1 0 len))
   |none=>(False,σ)
  |none=>match qs vs with
   |some cs=>(pS 0 parts=Z'/\parts.length=len/\len*s<=16777216/\(vs.all λv=>match v.cells with|some c=>c.length==s|none=>a0a)=Z',
    ((σ.kill d).g7 d ⟨Z',.c cs⟩).put (T' d) (.os d s 0 len))
   |none=>(False,σ)
 |_,_=>(False,σ)
section
variable {P:Program}{T:aL}{S:FuncId->Option Sp}{κ:Ctx}{β:Nat->Option (Nat×Nat)}{F:Nat->AV}{G:Nat->Option cq}{a:Act}{w:World}{X:Nat->Prop}
theorem Ni(size:Nat):∀(vals:List (Nat×Value))(i:Nat)(C:Array Value),(∀(j:Nat)(p:Nat×Value),vals[j]?=T' p->p.1=i+j/\p.2.cells.size=size)->
 (i+vals.length)*size<=C.size->
 ∃C',Instr.fill (λi=>T' (i*size,size)) C vals=T' C'/\C'.size=C.size/\
  ∀m:Nat,C'[m]?=if i*size<=m/\m<(i+vals.length)*size then((vals.flatMap λp=>p.2.cells.toList)[m-i*size]?)else C[m]?
 |[],i,C,_,_=>⟨C,rfl,rfl,λm=>by rw[aq];simp⟩
 |(i',x)::vals,i,C,hv,hs=>by
  have h0:=hv 0 (i',x) rfl;simp only[kN]at h0;obtain⟨rfl,hx⟩:=h0;have ao:(i'+(vals.length+1))*size=(i'+1+vals.length)*size:=by congr 1;omega
  have aw:(i'+1)*size=i'*size+size:=KG _ _;have ax:(i'+1)*size<=(i'+1+vals.length)*size:=jD _ f';simp only[gM]at hs;have hg:=foldl_set x.cells (i'*size) x.cells.size (aM _) C f';have af:(x.cells.zipIdx.foldl (λcs(p:Value×Nat)=>cs.setIfInBounds (i'*size+p.2) p.1) C)=(x.cells.toList.zipIdx.take x.cells.size).foldl (λcs(p:Value×Nat)=>cs.setIfInBounds (i'*size+p.2) p.1) C:=by
   rw[<-SP];simp[SV,gG]
  have ab:∀(l:List (Value×Nat))(c:Array Value),(l.foldl (λcs(p:Value×Nat)=>cs.setIfInBounds (i'*size+p.2) p.1) c).size=c.size:=by
   intro l
   induction l with
   |nil=>intro c;rfl
   |cons p l ih=>intro c;simp[ih]
  obtain⟨C',k1,k2,k3⟩:=Ni size vals (i'+1) ((x.cells.toList.zipIdx.take x.cells.size).foldl (λcs(p:Value×Nat)=>cs.setIfInBounds (i'*size+p.2) p.1) C)
   (λj p hp=>by have:=hv (j+1) p (by simpa using hp);exact⟨f',this.2⟩) (by rw[ab];omega)
  refine⟨C',?_,by rw[k2,ab],λm=>?_⟩
  .simp only[Instr.fill]
   rw[aq (by simp[hx];omega),af];exact k1
  .rw[k3 m,hg]
   simp only[gM,zO]
   by_cases h1:(i'+1)*size<=m/\m<(i'+1+vals.length)*size
   .rw[au h1,au f',jz O']
    congr 1
    simp[hx];omega
   .rw[aq h1]
    by_cases h2:i'*size<=m/\m<i'*size+x.cells.size
    .rw[au h2,au f',iK O']
     simp
    .rw[aq h2,aq f']
theorem Ip{k:IntKind}:∀(vs:List AV)(xs:List Int),qM k vs=T' xs->xs.length=vs.length/\∀(j:Nat)(x:Int),xs[j]?=T' x->vs[j]?=T' (AV.r (.int k x))
 |[],xs,h=>by simp only[qM,aC]at h;subst h;simp
 |v::vs,xs,h=>by
  unfold qM at h;split at h
  .rename_i he;cases he
  .rename_i k' x l he
   simp only[zL]at he;obtain⟨rfl,rfl⟩:=he;split at h
   .rename_i e
    subst e;simp only[kR]at h;obtain⟨ys,h1,rfl⟩:=h;obtain⟨i1,i2⟩:=Ip vs ys h1;refine⟨by simp[i1],λj x hj=>?_⟩;cases j with
    |zero=>simp at hj;subst hj;rfl
    |succ j=>simpa using i2 j x (by simpa using hj)
   .cases h
  .cases h
theorem GF:∀(vs cs:List AV),qs vs=T' cs->∀(us:List Value),us.length=vs.length->
 (∀(j:Nat)(v:AV),vs[j]?=T' v->∃u:Value,us[j]?=T' u/\(v.im=Z'->RI w X v u))->
 (us.flatMap λu=>u.cells.toList).length=cs.length/\∀(m:Nat)(c:AV),cs[m]?=T' c->∃u:Value,(us.flatMap λu=>u.cells.toList)[m]?=T' u/\RI w X c u
 |[],cs,h,us,hl,_=>by
  simp only[qs,aC]at h;subst h;have:us=[]:=lY (by simpa using hl);subst this;simp
 |v::vs,cs,h,[],hl,_=>by simp at hl
 |v::vs,cs,h,u::us,hl,hr=>by
  simp only[qs]at h;split at h
  .rename_i c1 c2 e1 e2
   simp only[aC]at h;subst h;obtain⟨u',g1,g2⟩:=hr 0 v rfl;simp only[uc,aC]at g1;subst g1;obtain⟨k1,k2⟩:=RI.cells (g2 (AV.sO e1)) e1;obtain⟨i1,i2⟩:=GF vs c2 e2 us (by simpa using hl) (λj v hj=>by simpa using hr (j+1) v (by simpa using hj));refine⟨by simp only[zO,aV,i1,qX,k1],λm c hm=>?_⟩;simp only[zO]
   by_cases hlt:m<c1.length
   .rw[iK hlt]at hm
    rw[iK (by simp[k1,hlt])];obtain⟨u',q1,q2⟩:=k2 m c hm;exact⟨u',by simpa using q1,q2⟩
   .rw[jz f']at hm
    rw[jz (by simp[k1];omega)];obtain⟨u',q1,q2⟩:=i2 _ c hm;exact⟨u',by simpa[k1]using q1,q2⟩
  .cases h
theorem BA:∀(l:List (Nat×Operand))(i:Nat),pS i l=Z'->∀(j:Nat)(p:Nat×Operand),l[j]?=T' p->p.1=i+j
 |[],_,_,_,_,h=>by simp at h
 |p::l,i,h,j,q,hj=>by
  simp only[pS,dG,fU]at h;cases j with
  |zero=>simp at hj;subst hj;simpa using h.1
  |succ j=>have:=BA l (i+1) h.2 j q (by simpa using hj);omega
theorem Nk(us:List Value)(h:∀u∈us,u.cells.toList=[u]):us.flatMap (λu=>u.cells.toList)=us:=by
 induction us with
 |nil=>rfl
 |cons u us ih=>
  simp only[zO,h u (.head _),ih (λx hx=>h x (.tail _ hx))]
  rfl
theorem CW(hT:cU P T){e:TypeId}{s by_:Nat}(h1:T.sl t=T' (e,s,by_)){vals:List (Nat×Value)}(hlen:vals.length=len)(hb:len*s<=16777216)(hv:∀(j:Nat)(p:Nat×Value),vals[j]?=T' p->p.1=j/\p.2.cells.size=s)(w:World):
 ∃C:Array Value,(Instr.buildSlice t len vals.toArray).run P w=.ok (.slice (T' ⟨w.heap.size,0,Y'⟩) len len) (w.alloc (.cells C e))/\C.size=len*s/\
  ∀m:Nat,C[m]?=(vals.flatMap λp=>p.2.cells.toList)[m]?:=by
 obtain⟨h2,i,h3,h4,h5,z,h6,h7⟩:=hT.sl t e s by_ h1;have ab:(vals.flatMap λp=>p.2.cells.toList).length=vals.length*s:=by
  clear hlen;have:∀l:List (Nat×Value),(∀p∈l,p.2.cells.size=s)->(l.flatMap λp=>p.2.cells.toList).length=l.length*s:=by
   intro l
   induction l with
   |nil=>intro _;simp
   |cons p l ih=>
    intro hp;simp only[zO,aV,gM,KG,qX,hp p (.head _)];rw[ih (λq hq=>hp q (.tail _ hq))];omega
  exact this vals (λp hp=>by
   obtain⟨j,hj⟩:=Cr hp;exact(hv j p hj).2)
 have key:∀Z:Array Value,Z.size=len*s->∃C:Array Value,Instr.fill (λi=>T' (i*s,s)) Z vals=T' C/\C.size=len*s/\∀m:Nat,C[m]?=(vals.flatMap λp=>p.2.cells.toList)[m]?:=by
  intro Z hZ;obtain⟨C',k1,k2,k3⟩:=Ni s vals 0 Z (λj p hp=>by simpa using hv j p hp) (by simp[hlen,hZ]);refine⟨C',k1,by rw[k2,hZ],λm=>?_⟩;rw[k3]
  by_cases hm:m<vals.length*s
  .rw[au (by simpa using hm)];simp
  .rw[aq (by simpa using hm),iT (by rw[ab];omega)]
   simp;rw[hZ,<-hlen];omega
 by_cases hz:len*s=0
 .obtain⟨C,k1,k2,k3⟩:=key (Array.map (λx=>(#[]:Array Value)[x%(#[]:Array Value).size]!) (Array.range (len*s))) J'
  refine⟨C,?_,k2,k3⟩;simp only[Instr.buildSlice,cC,run_underlying h2,cz,run_sizeOf h3,h4];rw[aq f',au hz];simp only[pure_bind,k1];simp[newRow]
 .obtain⟨C,k1,k2,k3⟩:=key (Array.map (λx=>z.cells[x%z.cells.size]!) (Array.range (len*s))) J'
  refine⟨C,?_,k2,k3⟩;have af:∀w,(zeroValue e).run P w=.ok z w:=λw=>by simp[zeroValue,run_typeInfo h3,h6]
  simp only[Instr.buildSlice,cC,run_underlying h2,cz,run_sizeOf h3,h4];rw[aq f',aq hz];simp only[cC,af,cJ,cz,k1];simp[newRow]
theorem UR(hT:cU P T){σ:St}(h:av κ β σ.get σ.ae a w){d:Option Nat}(hd:∀t,d=T' t->t<κ.nt){parts:List (Nat×Operand)}(hp:(vO T σ d t len parts).1):
 ∃x w',(Instr.buildSlice t len (parts.map λp=>(p.1,a.eval p.2)).toArray).run P w=.ok x w'/\
  ∃a3,av κ a3 (vO T σ d t len parts).2.get (vO T σ d t len parts).2.ae (a.put d x) w':=by
 have aw:∀(j:Nat)(v:AV),(parts.map λp=>ev σ.get p.2)[j]?=T' v->∃u:Value,(parts.map λp=>a.eval p.2)[j]?=T' u/\(v.im=Z'->RI w (XG κ β σ.ae) v u):=by
  intro j v hj;rw[gv]at hj|-;cases hq:parts[j]? with
  |none=>rw[hq]at hj;cases hj
  |some p=>
   rw[hq]at hj;simp only[ft,aC]at hj;subst hj;exact⟨_,rfl,λa0=>(h.ev p.2).ri a0⟩
 have ao:(parts.map λp=>(p.1,a.eval p.2)).flatMap (λp=>p.2.cells.toList)=(parts.map λp=>a.eval p.2).flatMap λu=>u.cells.toList:=by
  simp[List.flatMap_map]
 unfold vO at*;split at hp
 .rename_i d e s by_ h1
  cases hk:T.nk t with
  |some k=>
   simp only[hk]at hp|-;cases hn:qM k (parts.map λp=>ev σ.get p.2)with
   |none=>simp[hn]at hp
   |some xs=>
    simp only[hn]at hp|-;obtain⟨g1,g2,g3⟩:=hp;obtain⟨q1,q2⟩:=Ip _ _ hn;obtain⟨e',a4,i',r1,r2,r3⟩:=hT.nk _ _ hk;rw[h1]at r1;simp only[aC,db]at r1;obtain⟨rfl,rfl,rfl⟩:=r1;have ax:∀(j:Nat)(x:Int),xs[j]?=T' x->(parts.map λp=>a.eval p.2)[j]?=T' (.int k x):=by
     intro j x hx;obtain⟨u,k1,k2⟩:=aw j _ (q2 j x hx);rw[k1,RI.aS (k2 rfl)]
    have a1:xs.length=len:=by rw[q1,<-g2];simp
    have af:∀(j:Nat)(p:Nat×Value),(parts.map λp=>(p.1,a.eval p.2))[j]?=T' p->p.1=j/\p.2.cells.size=1/\p.2.cells.toList=[p.2]:=by
     intro j p hp;rw[gv]at hp;cases hq:parts[j]? with
     |none=>rw[hq]at hp;cases hp
     |some q=>
      rw[hq]at hp;simp only[ft,aC]at hp;subst hp;have hj:j<xs.length:=by
       rw[q1];simp;rcases dQ j parts.length with h'|h'
       .exact h'
       .simp[iT h']at hq
      have e9:=ax j xs[j] (by simp[hj]);rw[gv,hq]at e9;simp only[ft,aC]at e9;have e8:=BA _ _ g1 j q hq;refine⟨by simpa using e8,?_,?_⟩<;>simp[e9,Value.cells]
    obtain⟨C,k1,k2,k3⟩:=CW (P:=P) hT h1 (vals:=parts.map λp=>(p.1,a.eval p.2)) (by simpa using g2) g3 (λj p hp=>⟨(af j p hp).1,(af j p hp).2.1⟩) w;refine⟨_,_,k1,h.made d (hd d rfl) C e (.n k xs) (by simp[aN.len,k2,a1]) (λj c hj=>?_) (λ_ _ _ hb hw=>RV.yT hb hw (aM _) (by simp[k2]))⟩;simp only[aN.val,kR]at hj;obtain⟨x,hx,rfl⟩:=hj;refine⟨.int k x,?_,RI.r _⟩;rw[k3,ao,Nk]
    .exact ax j x hx
    .intro u hu
     obtain⟨j',ab⟩:=Cr hu;rw[gv]at ab;cases hq:parts[j']? with
     |none=>rw[hq]at ab;cases ab
     |some q=>
      rw[hq]at ab;simp only[ft,aC]at ab;subst ab;exact(af j' (q.1,a.eval q.2) (by simp[hq])).2.2
  |none=>
   simp only[hk]at hp|-;cases hn:qs (parts.map λp=>ev σ.get p.2)with
   |none=>simp[hn]at hp
   |some cs=>
    simp only[hn]at hp|-;obtain⟨g1,g2,g3,g4⟩:=hp;obtain⟨q1,q2⟩:=GF (w:=w) (X:=XG κ β σ.ae) _ _ hn (parts.map λp=>a.eval p.2) J' aw;have af:∀(j:Nat)(p:Nat×Value),(parts.map λp=>(p.1,a.eval p.2))[j]?=T' p->p.1=j/\p.2.cells.size=s:=by
     intro j p hp;rw[gv]at hp;cases hq:parts[j]? with
     |none=>rw[hq]at hp;cases hp
     |some q=>
      rw[hq]at hp;simp only[ft,aC]at hp;subst hp;have h9:=BA _ _ g1 j q hq;refine⟨by simpa using h9,?_⟩;have h8:=fq.1 g4 (ev σ.get q.2) (mX.2 ⟨q,kL hq,rfl⟩);cases hc:(ev σ.get q.2).cells with
      |none=>simp[hc]at h8
      |some c=>
       simp only[hc,fU]at h8;obtain⟨m1,_⟩:=RI.cells ((h.ev q.2).ri (AV.sO hc)) hc;simp only;omega
    obtain⟨C,k1,k2,k3⟩:=CW (P:=P) hT h1 (vals:=parts.map λp=>(p.1,a.eval p.2)) (by simpa using g2) g3 af w;have ay:cs.length<=C.size:=by
     rcases dQ C.size cs.length with h'|h'
     .obtain⟨u,m1,_⟩:=q2 C.size cs[C.size] (by simp[h'])
      rw[<-ao,<-k3]at m1;simp at m1
     .exact h'
    refine⟨_,_,k1,h.made d (hd d rfl) C e (.c cs) (by simpa[aN.len]using ay) (λj c hj=>?_) (λ_ _ _ hb hw=>RV.yT hb hw (aM _) (by simp[k2]))⟩;obtain⟨u,m1,m2⟩:=q2 j c hj;exact⟨u,by rw[k3,ao];exact m1,m2⟩
 .exact False.elim hp
end
end
end
section
open Go Go.RowKit
section
variable {j:Nat}
def BW(G:Nat->Option cq)(s:Nat)(x:AV):Option (aN×Nat):=
 match x with
 |.dt=>T' (.c [],0)
 |.ns k ys=>if s=1 then T' (.n k ys,ys.length)else Y'
 |.sl s' n cs=>if s'=s then T' (.c cs,n)else Y'
 |.os id s' off len=>if s'=s then match G id with
  |some ⟨_,.n k xs⟩=>T' (.n k ((xs.drop off).take len),len)
  |some ⟨_,.c cs⟩=>T' (.c ((cs.drop off).take (len*s)),len)
  |none=>Y'
  else Y'
 |_=>Y'
def aN.app:aN->aN->Option aN
 |.c [],.n k ys=>T' (.n k ys)
 |.n k xs,.c []=>T' (.n k xs)
 |.n k xs,.n k' ys=>if k=k' then T' (.n k (xs++ys))else Y'
 |.c cs,.c ds=>if ds.all AV.one=Z' then T' (.c (cs++ds))else Y'
 |_,_=>Y'
theorem aN.K8{a b c:aN}(h:a.app b=T' c):c.len=a.len+b.len/\(∀j v,b.val j=T' v->v.one=Z')/\
 ∀j v,c.val j=T' v->(j<a.len/\a.val j=T' v)\/(a.len<=j/\b.val (j-a.len)=T' v):=by
 unfold aN.app at h;split at h
 .rename_i k ys
  simp only[aC]at h;subst h;refine⟨by simp[aN.len],λj v hj=>?_,λj v hj=>.inr ⟨by simp[aN.len],by simpa[aN.len]using hj⟩⟩;simp only[aN.val,kR]at hj;obtain⟨x,_,rfl⟩:=hj
  rfl
 .rename_i k xs
  simp only[aC]at h;subst h;refine⟨by simp[aN.len],λj v hj=>by simp[aN.val]at hj,λj v hj=>.inl ⟨?_,hj⟩⟩;simp only[aN.val,kR]at hj;obtain⟨x,hx,rfl⟩:=hj;rcases dQ j xs.length with h'|h'
  .exact h'
  .simp[iT h']at hx
 .rename_i k xs k' ys
  split at h
  .rename_i e
   subst e;simp only[aC]at h;subst h;refine⟨by simp[aN.len],λj v hj=>?_,λj v hj=>?_⟩
   .simp only[aN.val,kR]at hj
    obtain⟨x,_,rfl⟩:=hj
    rfl
   .simp only[aN.val,aN.len]at hj|-
    by_cases hlt:j<xs.length
    .rw[iK hlt]at hj;exact .inl ⟨hlt,hj⟩
    .rw[jz f']at hj;exact .inr ⟨f',hj⟩
  .cases h
 .rename_i cs ds
  split at h
  .rename_i e
   simp only[aC]at h;subst h;refine⟨by simp[aN.len],λj v hj=>?_,λj v hj=>?_⟩
   .exact fq.1 e v (kL hj)
   .simp only[aN.val,aN.len]at hj|-
    by_cases hlt:j<cs.length
    .rw[iK hlt]at hj;exact .inl ⟨hlt,hj⟩
    .rw[jz f']at hj;exact .inr ⟨f',hj⟩
  .cases h
 .cases h
def uk(T:aL)(σ:St)(d:Option Nat)(t:TypeId)(s x:AV):Prop×St:=
 match d,T.sl t with
 |some d,T' (_,sz,by_)=>match BW σ.ae sz x with
  |some (nw,m)=>match s with
   |.dt=>match(aN.c []).app nw with
    |some con'=>(nw.len=m*sz/\0<sz/\m*by_<=140737488355328/\m<=9223372036854775807,
     ((σ.kill d).g7 d ⟨Z',con'⟩).put (T' d) (.os d sz 0 m))
    |none=>(False,σ)
   |.os id s' off len=>match σ.ae id with
    |some ⟨Z',con⟩=>match con.app nw with
     |some con'=>(s'=sz/\off=0/\con.len=len*sz/\nw.len=m*sz/\0<sz/\(len+m)*by_<=140737488355328/\len+m<=9223372036854775807/\T.mu=a0a,
      (((σ.kill id).kill d).g7 d ⟨Z',con'⟩).put (T' d) (.os d sz 0 (len+m)))
     |none=>(False,σ)
    |_=>(False,σ)
   |_=>(False,σ)
  |none=>(False,σ)
 |_,_=>(False,σ)
section
variable {P:Program}{T:aL}{S:FuncId->Option Sp}{κ:Ctx}{β:Nat->Option (Nat×Nat)}{F:Nat->AV}{G:Nat->Option cq}{a:Act}{w:World}{X:Nat->Prop}
theorem BV{n:Nat}{P:Nat->Value->Prop}(h:∀j,j<n->∃v,P j v):∃vs:List Value,vs.length=n/\∀j v,vs[j]?=T' v->P j v:=by
 have:∀j,∃v,j<n->P j v:=λj=>by
  by_cases hj:j<n
  .obtain⟨v,hv⟩:=h j hj;exact⟨v,λ_=>hv⟩
  .exact⟨undef,λh=>absurd h hj⟩
 obtain⟨f,hf⟩:=vo this;refine⟨(List.range n).map f,J',λj v hj=>?_⟩;rw[gv]at hj
 by_cases hlt:j<n
 .rw[Kj hlt]at hj
  simp only[ft,aC]at hj;subst hj;exact hf j hlt
 .rw[iT (by simpa using hlt)]at hj;cases hj
theorem aN.ES{con:aN}{c:AV}(h:con.val j=T' c):j<con.len:=by
 cases con with
 |n k xs=>
  simp only[aN.val,kR]at h;obtain⟨x,hx,_⟩:=h;rcases dQ j xs.length with h'|h'
  .exact h'
  .simp[iT h']at hx
 |c cs=>
  simp only[aN.val]at h;rcases dQ j cs.length with h'|h'
  .exact h'
  .simp[iT h']at h
theorem aN.zt{con:aN}(h:j<con.len):∃c,con.val j=T' c:=by
 cases con with
 |n k xs=>exact⟨_,by simp only[aN.val,aN.len]at*;rw[ed h];rfl⟩
 |c cs=>exact⟨_,by simp only[aN.val,aN.len]at*;rw[ed h]⟩
theorem Jv(hC:av κ β F G a w){x:AV}{u:Value}(hx:RV κ β G w x u){s m:Nat}{nw:aN}(hv:BW G s x=T' (nw,m))(hs:0<s)(hl:nw.len=m*s):
 ∃ad cap,u=.slice ad m cap/\(0<nw.len->∃b o,ad=T' ⟨b,o,Y'⟩/\∀j c,nw.val j=T' c->∃v,w.cell? ⟨b,o+j,Y'⟩=T' v/\RI w (XG κ β G) c v):=by
 unfold BW at hv;split at hv
 .simp only[aC,db]at hv
  obtain⟨rfl,rfl⟩:=hv;cases hx with
  |dt ad=>exact⟨ad,0,rfl,λh=>by simp[aN.len]at h⟩
 .rename_i k ys
  split at hv
  .simp only[aC,db]at hv
   obtain⟨rfl,rfl⟩:=hv;cases hx with
   |ns _ _ ad b o cap hc ha h=>
    refine⟨ad,cap,rfl,λh0=>⟨b,o,(ha h0).1,λj c hj=>?_⟩⟩;simp only[aN.val,kR]at hj;obtain⟨y,hy,rfl⟩:=hj;exact⟨_,h j y hy,RI.r _⟩
  .cases hv
 .rename_i s' n cs
  split at hv
  .simp only[aC,db]at hv
   obtain⟨rfl,rfl⟩:=hv;cases hx with
   |sl _ _ _ ad b o cap f hc hl ha h hr=>
    exact⟨ad,cap,rfl,λh0=>⟨b,o,(ha h0).1,λj c hj=>⟨f j,h j c hj,hr j c hj⟩⟩⟩
  .cases hv
 .rename_i id s' off len
  split at hv
  .rename_i e
   subst e;obtain⟨ad,cap,rfl,h1,h2⟩:=hx;have key:∀(wr:Bool)(con:aN),G id=T' ⟨wr,con⟩->∀b base C e,β id=T' (b,base)->w.heap[b]?=T' (.cells C e (0,0))->
    ∀j c,con.val (off+j)=T' c->∃v,w.cell? ⟨b,base+off+j,Y'⟩=T' v/\RI w (XG κ β G) c v:=by
    intro wr con hG b base C e ab ao j c hj;rcases hC.hp id _ hG with h6|⟨b2,af,C2,e2,g1,g2,g3,g4,g5⟩
    .rw[ab]at h6;cases h6.1
    .rw[ab]at g1
     simp only[aC,db]at g1;obtain⟨rfl,rfl⟩:=g1;obtain⟨v,hv,hr⟩:=g4 (off+j) c hj;exact⟨v,by rw[cell_of_block g2,ie];exact hv,hr⟩
   split at hv
   .rename_i wr k xs hG
    simp only[aC,db]at hv;obtain⟨rfl,rfl⟩:=hv;refine⟨ad,cap,rfl,λh0=>?_⟩;rcases h2 _ hG with h3|⟨b,base,C,e,k1,k2,k3,k4⟩
    .subst h3
     rw[hl]at h0;have:len=0:=f';subst this;simp at h0
    .refine⟨b,base+off,k2,λj c hj=>key wr _ hG b base C e k1 k3 j c ?_⟩
     simp only[aN.val,ic,j5]at hj|-;split at hj
     .exact hj
     .cases hj
   .rename_i wr cs hG
    simp only[aC,db]at hv;obtain⟨rfl,rfl⟩:=hv;refine⟨ad,cap,rfl,λh0=>?_⟩;rcases h2 _ hG with h3|⟨b,base,C,e,k1,k2,k3,k4⟩
    .subst h3
     rw[hl]at h0;have:len=0:=f';subst this;simp at h0
    .refine⟨b,base+off,k2,λj c hj=>key wr _ hG b base C e k1 k3 j c ?_⟩
     simp only[aN.val,ic,j5]at hj|-;split at hj
     .exact hj
     .cases hj
   .cases hv
  .cases hv
 .cases hv
end
end
end
end Go.Hl
