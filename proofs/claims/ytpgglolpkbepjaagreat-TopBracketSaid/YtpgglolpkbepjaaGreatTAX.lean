/- Lemmas for TopSound and TopBracket. -/
import Derived.RangeFuncNested
import Derived.RangeFuncBound
import Derived.RangeFuncCalls
import Derived.RangeFuncLeaves
import Derived.RangeFuncBox
import Derived.Shelf.Abstract
import Derived.OwnWalkIn
import Derived.TacticsInMore
import Derived.LoopNIn
import Derived.LoopIn
import Derived.Test.YtpgglolpkbepjaaGreatTAW
set_option linter.unusedVariables false
set_option linter.unusedSimpArgs false
namespace Go.Hl
open Go.Proofs.Tryz
open Go.Proofs.Tryz renaming prog→a0c
open Option renaming some→T',none→Y'
open Bool renaming true→Z',false→a0a
open Go Go.RowKit Go.Proofs Go.Shelf
set_option maxHeartbeats 4000000
set_option maxRecDepth 100000
section
variable {o x y:Nat}{A B:World}
attribute [local go_sem] Oper.semAt_some
def Kq(x y:Nat)(A B:World):Prop:=B.heap[x]?=A.heap[x]?/\B.heap[y]?=A.heap[y]?
theorem Kq.refl(x y:Nat)(A:World):Kq x y A A:=⟨rfl,rfl⟩
theorem Kq.trans{C:World}(h:Kq x y A B)(k:Kq x y B C):Kq x y A C:=⟨k.1.trans h.1,k.2.trans h.2⟩
theorem Kq.c1(h:Kq x y A B):B.cell? ⟨x,o,Y'⟩=A.cell? ⟨x,o,Y'⟩:=CG h.1
theorem Kq.c2(h:Kq x y A B):B.cell? ⟨y,o,Y'⟩=A.cell? ⟨y,o,Y'⟩:=CG h.2
theorem Kq.below{n:Nat}(h:Below n A B)(hx:x<n)(hy:y<n):Kq x y A B:=⟨h.block x hx,h.block y hy⟩
def bk(n k:Nat):Nat:=n-1-k
def B6(zs:List Int)(k:Nat):Array Value:=#[.int .i64 (bk zs.length k:Nat),.int .u8 (zs.getD (bk zs.length k) 0)]
theorem Ul(l Bs b off cap:Nat)(zs:List Int)(hlen:zs.length<=1000000)(J Jx:List Nat->World->Prop)
 (hY:∀k W,k<zs.length->J (List.range k) W->YieldAt Fence.wide 9 a0c l (B6 zs k) W λe W'=>
  (e=.returned (.bool Z')/\J (List.range (k+1)) W'/\Kq Bs b W W')\/(e=.returned (.bool a0a)/\Jx (List.range (k+1)) W'))
 (W:World) (hBs:W.cell? ⟨Bs,0,Y'⟩=T' (.slice (T' ⟨b,off,Y'⟩) zs.length cap)) (hc:∀j,j<zs.length->W.cell? ⟨b,off+j,Y'⟩=T' (.int .u8 (zs.getD j 0))) (h0:J [] W):
 CallsIn Fence.wide 10 a0c 113 #[.func (.yield l) #[] #[],.pointer (T' ⟨Bs,0,Y'⟩)] W λe W'=>(∃v,e=.returned v)/\
  ((∃ys,ys=List.range zs.length/\J ys W')\/(∃pre,(∃k,k<=zs.length/\pre=List.range k)/\Jx pre W')):=by
 refine callsIn_of_wp func113 rfl a0b ?_ rfl;simp only[ntmps113,jn,gM,kK,Nat.reduceAdd,Nat.reduceSub,tS,tT,uf,ua,mY,pc]
 gi_wp2
 gi_loopw [3] (λi wr=>∃k:Nat,k<=zs.length/\i=.int .i64 ((zs.length:Int)-1-k)/\J (List.range k) wr/\Kq Bs b W wr)
  (λi _=>(intOf i+1).toNat)
 case atStart=>exact⟨0,dU _,J',h0,Kq.refl _ _ _⟩
 case round=>
  obtain⟨k,hk,rfl,hJs,hnx⟩:=hrel;have hBs':=hnx.c1.trans hBs
  by_cases hlt:k<zs.length
  .obtain⟨fn,tmps,assign,body,hy,hR⟩:=hY k wr hlt hJs
   have e1:(zs.length:Int)-1-k=(bk zs.length k:Nat):=by unfold bk;omega
   have hbl:bk zs.length k<zs.length:=by unfold bk;omega
   have hcx:=hnx.c2.trans (hc _ hbl);rw[e1];unfold B6 at hy;generalize bk zs.length k=m at*;obtain⟨x,hx⟩:=nm (zs.getD m 0);rw[hx]at hy hcx;clear hc;have eJ:(0:Int)<=m:=f'
   gi_wp2
   refine hR.mono ?_;rintro e W3 (⟨rfl,hJ3,hk3⟩|⟨rfl,hJx3⟩)
   .gi_wp2
    go_roundw
    case rel=>exact⟨k+1,f',by first|(simp;done)|(simp;omega)|omega,hJ3,hnx.trans hk3⟩
    case measure=>(try simp[intOf])<;>omega
   .gi_wp2
    refine bodyPost_ret (results_none rfl _ _ _) rfl ?_;exact⟨⟨_,rfl⟩,.inr ⟨_,⟨k+1,f',rfl⟩,hJx3⟩⟩
  .obtain rfl:k=zs.length:=f'
   have e1:(zs.length:Int)-1-(zs.length:Nat)=-1:=f';rw[e1]
   gi_wp2
   go_end0
   exact⟨⟨_,rfl⟩,.inl ⟨_,rfl,hJs⟩⟩
theorem OR(a:Option Addr)(len cap:Nat)(w:World):
 CallsIn Fence.wide 10 a0c 71 #[.slice a len cap] w λe w'=>e=.returned (.func (.func 113) #[] #[.pointer (T' ⟨w.heap.size,0,Y'⟩)])/\w'=w.alloc (.cells #[.slice a len cap] 29):=by
 refine callsIn_of_wp func71 rfl a0b ?_ rfl;simp only[ntmps71,jn,gM,kK,Nat.reduceAdd,Nat.reduceSub,tS,tT,uf,ua,mY,pc]
 gi_wp2
 go_ret
 exact⟨rfl,rfl⟩
theorem Lu(Bs b off cap:Nat)(zs:List Int)(hlen:zs.length<=1000000)(w:World)(ab:w.cell? ⟨Bs,0,Y'⟩=T' (.slice (T' ⟨b,off,Y'⟩) zs.length cap))(hb:b<w.heap.size)(hr:∀j,j<zs.length->w.cell? ⟨b,off+j,Y'⟩=T' (.int .u8 (zs.getD j 0))):
 SeqStopsK Fence.wide 10 a0c 113 #[.pointer (T' ⟨Bs,0,Y'⟩)] (λk:Nat=>B6 zs k) (Kq Bs b) (λys=>ys=List.range zs.length) (λpre=>∃k,k<=zs.length/\pre=List.range k) zs.length w:=λl J Jx W hW _ _ hY h0=>by
 have af:=nW w ⟨Bs,0,Y'⟩ ab;have aw:=(hW.cell (p:=⟨Bs,0,Y'⟩) af).trans ab;have ao:∀k W,k<zs.length->J (List.range k) W->YieldAt Fence.wide 9 a0c l (B6 zs k) W λe W'=>
  (e=.returned (.bool Z')/\J (List.range (k+1)) W'/\Kq Bs b W W')\/(e=.returned (.bool a0a)/\Jx (List.range (k+1)) W'):=λk W hk hJ=>by
  have:=hY (List.range k) k W hJ (by simpa using hk);rw[xz];exact this
 refine(Ul l Bs b off cap zs hlen J Jx ao W aw (λj hj=>(hW.cell (p:=⟨b,off+j,Y'⟩) hb).trans (hr j hj)) h0).mono ?_;rintro e W' ⟨he,⟨ys,rfl,hj⟩|⟨pre,⟨k,hk,rfl⟩,hj⟩⟩
 .exact⟨he,.inl ⟨_,rfl,hj⟩⟩
 .exact⟨he,.inr ⟨_,⟨k,hk,rfl⟩,hj⟩⟩
end
attribute [local go_sem] Oper.semAt_some
section
variable {F:Fence}{n:Nat}{P:Program}{ops:Array Oper}{rest:List Oper}{op:Oper}{a:Act}{w:World}{Q:Exit->Act->World->Prop}
theorem Sh{K:Act->World->Prop}(ty:TypeId)(x:Operand)(ho:op.op=.load ty x)
 (b o:Nat) (hx:a.eval x=.pointer (T' ⟨b,o,Y'⟩)) (cs:List Value) (d:TypeDesc) (hc:w.rangeAt b o cs)
 (hu:P.underlying ty=T' d) (hd:d.isRow=Z') (hi:(P.info? ty).map (·.size)=T' cs.length)
 (h:K (a.put op.dst (.agg cs.toArray)) w):op.wpIn F n P a w K Q:=by
 have hr:=run_loadAt_mid (P:=P) w b o ty cs d hc hu hd hi;refine⟨?_,?_⟩
 .simp[Oper.about,ho]
 .rw[Oper.semAt_plain F _ _ (by rw[ho];intro c ab;cases ab)]
  simp[execOp,ho,hx,hr,Result.andThen];exact h
end
def w0:Int×List Int:=(0,Zb)
def B7(L:List (Int×List Int))(k:Nat):Array Value:=#[.int .i64 (bk L.length k:Nat),.agg (wC (L.getD (bk L.length k) w0)).toArray]
theorem Um(l Bs b cap:Nat)(L:List (Int×List Int))(hlen:L.length<=1000000)(hsz:∀k,k<L.length->(L.getD k w0).2.length=512)(J Jx:List Nat->World->Prop)
 (hY:∀k W,k<L.length->J (List.range k) W->YieldAt Fence.wide 9 a0c l (B7 L k) W λe W'=>
  (e=.returned (.bool Z')/\J (List.range (k+1)) W'/\Kq Bs b W W')\/(e=.returned (.bool a0a)/\Jx (List.range (k+1)) W'))
 (W:World) (hBs:W.cell? ⟨Bs,0,Y'⟩=T' (.slice (T' ⟨b,0,Y'⟩) L.length cap)) (hc:∀j,j<L.length->W.rangeAt b (j*513) (wC (L.getD j w0))) (h0:J [] W):
 CallsIn Fence.wide 10 a0c 143 #[.func (.yield l) #[] #[],.pointer (T' ⟨Bs,0,Y'⟩)] W λe W'=>(∃v,e=.returned v)/\
  ((∃ys,ys=List.range L.length/\J ys W')\/(∃pre,(∃k,k<=L.length/\pre=List.range k)/\Jx pre W')):=by
 refine callsIn_of_wp func143 rfl a0b ?_ rfl;simp only[ntmps143,jn,gM,kK,Nat.reduceAdd,Nat.reduceSub,tS,tT,uf,ua,mY,pc]
 gi_wp2
 gi_loopw [3] (λi wr=>∃k:Nat,k<=L.length/\i=.int .i64 ((L.length:Int)-1-k)/\J (List.range k) wr/\Kq Bs b W wr)
  (λi _=>(intOf i+1).toNat)
 case atStart=>exact⟨0,dU _,J',h0,Kq.refl _ _ _⟩
 case round=>
  obtain⟨k,hk,rfl,hJs,hnx⟩:=hrel;have hBs':=hnx.c1.trans hBs
  by_cases hlt:k<L.length
  .obtain⟨fn,tmps,assign,body,hy,hR⟩:=hY k wr hlt hJs
   have e1:(L.length:Int)-1-k=(bk L.length k:Nat):=by unfold bk;omega
   have hbl:bk L.length k<L.length:=by unfold bk;omega
   have hcx:wr.rangeAt b (bk L.length k*513) (wC (L.getD (bk L.length k) w0)):=λj v hj=>hnx.c2.trans (hc _ hbl j v hj)
   have hl5:=hsz _ hbl;rw[e1];unfold B7 at hy;generalize bk L.length k=m at*;obtain⟨x,hx⟩:=nm (L.getD m w0);rw[hx]at hy hcx hl5;clear hc hsz;obtain⟨cs,cE⟩:=nm (wC x);have hcl:cs.length=513:=by rw[<-cE,rX,hl5]
   rw[cE]at hy hcx;have eJ:(0:Int)<=m:=f';have hi:(a0c.info? 196).map (·.size)=T' cs.length:=by rw[hcl];kernel_rfl
   repeat(first|(refine Sh 196 (.tmp 15) rfl b (m*513) rfl cs _ hcx underlying196 rfl hi ?_)|go_values|gi_guarded|gi_step|gi_upon|gi_back|(simp only[zK,zJ]at*;go_simp))
   gi_wp2
   refine hR.mono ?_;rintro e W3 (⟨rfl,hJ3,hk3⟩|⟨rfl,hJx3⟩)
   .gi_wp2
    go_roundw
    case rel=>exact⟨k+1,f',by first|(simp;done)|(simp;omega)|omega,hJ3,hnx.trans hk3⟩
    case measure=>(try simp[intOf])<;>omega
   .gi_wp2
    refine bodyPost_ret (results_none rfl _ _ _) rfl ?_;exact⟨⟨_,rfl⟩,.inr ⟨_,⟨k+1,f',rfl⟩,hJx3⟩⟩
  .obtain rfl:k=L.length:=f'
   have e1:(L.length:Int)-1-(L.length:Nat)=-1:=f';rw[e1]
   gi_wp2
   go_end0
   exact⟨⟨_,rfl⟩,.inl ⟨_,rfl,hJs⟩⟩
theorem aai(a:Option Addr)(len cap:Nat)(w:World):
 CallsIn Fence.wide 10 a0c 111 #[.slice a len cap] w λe w'=>e=.returned (.func (.func 143) #[] #[.pointer (T' ⟨w.heap.size,0,Y'⟩)])/\w'=w.alloc (.cells #[.slice a len cap] 71):=by
 refine callsIn_of_wp func111 rfl a0b ?_ rfl;simp only[ntmps111,jn,gM,kK,Nat.reduceAdd,Nat.reduceSub,tS,tT,uf,ua,mY,pc]
 gi_wp2
 go_ret
 exact⟨rfl,rfl⟩
theorem Un(l Bs:Nat)(J:List Nat->World->Prop)(W:World)(hBs:W.cell? ⟨Bs,0,Y'⟩=T' (.slice Y' 0 0))(h0:J [] W):
 CallsIn Fence.wide 10 a0c 143 #[.func (.yield l) #[] #[],.pointer (T' ⟨Bs,0,Y'⟩)] W λe W'=>(∃v,e=.returned v)/\J [] W':=by
 refine callsIn_of_wp func143 rfl a0b ?_ rfl;simp only[ntmps143,jn,gM,kK,Nat.reduceAdd,Nat.reduceSub,tS,tT,uf,ua,mY,pc]
 gi_wp2
 gi_loopw [3] (λi wr=>i=.int .i64 (-1)/\J [] wr) (λ_ _=>0)
 case atStart=>exact⟨rfl,h0⟩
 case round=>
  obtain⟨rfl,hJs⟩:=hrel
  gi_wp2
  go_end0
  exact⟨⟨_,rfl⟩,hJs⟩
theorem Uo(Bs:Nat)(lv:Value)(L:List (Int×List Int))(hlen:L.length<=1000000)(ay:∀k,k<L.length->(L.getD k w0).2.length=512)(w:World)(ab:w.cell? ⟨Bs,0,Y'⟩=T' lv)(b:Nat)
 (ax:(lv=.slice Y' 0 0/\L=[])\/∃cap,lv=.slice (T' ⟨b,0,Y'⟩) L.length cap/\b<w.heap.size/\∀j,j<L.length->w.rangeAt b (j*513) (wC (L.getD j w0))):
 SeqStopsK Fence.wide 10 a0c 143 #[.pointer (T' ⟨Bs,0,Y'⟩)] (λk:Nat=>B7 L k) (Kq Bs b) (λys=>ys=List.range L.length) (λpre=>∃k,k<=L.length/\pre=List.range k) L.length w:=λl J Jx W hW _ _ hY h0=>by
 have ao:=nW w ⟨Bs,0,Y'⟩ ab;have af:=(hW.cell (p:=⟨Bs,0,Y'⟩) ao).trans ab;have aw:∀k W,k<L.length->J (List.range k) W->YieldAt Fence.wide 9 a0c l (B7 L k) W λe W'=>
  (e=.returned (.bool Z')/\J (List.range (k+1)) W'/\Kq Bs b W W')\/(e=.returned (.bool a0a)/\Jx (List.range (k+1)) W'):=λk W hk hJ=>by
  have:=hY (List.range k) k W hJ (by simpa using hk);rw[xz];exact this
 rcases ax with⟨rfl,rfl⟩|⟨cap,rfl,hb,hr⟩
 .exact(Un l Bs J W af h0).mono λe W'⟨he,hj⟩=>⟨he,.inl ⟨_,rfl,hj⟩⟩
 .refine(Um l Bs b cap L hlen ay J Jx aw W af (λj hj i v hv=>(hW.cell (p:=⟨b,j*513+i,Y'⟩) hb).trans (hr j hj i v hv)) h0).mono ?_
  rintro e W' ⟨he,⟨ys,rfl,hj⟩|⟨pre,⟨k,hk,rfl⟩,hj⟩⟩
  .exact⟨he,.inl ⟨_,rfl,hj⟩⟩
  .exact⟨he,.inr ⟨_,⟨k,hk,rfl⟩,hj⟩⟩
section
variable {n x y:Nat}{w:World}
attribute [local go_sem] Oper.semAt_some
theorem DB:Fence.wide.round=none:=rfl
theorem IS{α:Type}{F:Fence}{P:Program}{g:Operand}{ps:Array Tmp}{assign body:Code}{Q:Exit->Act->World->Prop}{a:Act}(a5:F.round=Y')(h1:1<=n){gf:Nat}{lb:Array Value}(hg:a.eval g=.func (.func gf) #[] lb)(af:F.fn gf)(eg:∀args w,(callFunc gf args).run P w=.ok (.enter gf args) w){ab:α->Array Value}{Kp:World->World->Prop}{S Sp:List α->Prop}{N:Nat}{w0:World}(a6:SeqStopsK F (n-1) P gf lb ab Kp S Sp N w0)(ax:∀{A B C:World},Kp A B->Kp B C->Kp A C)(aw:∀(W:World)(l:Nat)(o o':Obj),w.heap.size<=l->W.heap[l]?=T' o->o.isCells=a0a->o.isWalk=a0a->Kp W (W.putObj l o'))(a0:Below w0.heap.size w0 w)(a4:∀x,(ab x).size=ps.size)(I:List α->World->Prop)(Ix:Code->List α->World->Prop)(hI:OwnFrom w.heap.size I)(ao:∀c,OwnFrom w.heap.size (Ix c))(h0:I [] w)(fA:α->Array Value->Array Value)(ay:∀(l:Nat)(x:α)(W:World)(K:Act->World->Prop),K {tmps:=fA x a.tmps,defers:=[]} W->
  assign.wpIn (F.inRound l) (n-1-1) P (Exit.then K (λ_ _ _=>False)) {tmps:=(ps.zip (ab x)).foldl (λt(p,v)=>t.setIfInBounds p v) a.tmps,defers:=[]} W)(a1:∀(l:Nat)(pre:List α)(x:α)(W:World),I pre W->pre.length<N->body.wpIn (F.inRound l) (n-1-1) P (ownPostG w.heap.size Kp I Ix (pre++[x]) W) {tmps:=fA x a.tmps,defers:=[]} W)(a3:∀(D:Nat)(xs:List α)(W:World),w.heap.size<=D->S xs->I xs W->W.heap[D]?=T' (.deferred (T' []))->Q .normal {a with defers:={target:=.collected D,args:=#[]}::a.defers} W)(a7:∀(D:Nat)(c:Code)(pre:List α)(W:World),w.heap.size<=D->Sp pre->Ix c pre W->W.heap[D]?=T' (.deferred (T' []))->c.wpIn F n P Q {a with defers:={target:=.collected D,args:=#[]}::a.defers} W):
 (Code.rangeFunc g ps assign body).wpIn F n P Q a w:=
 wpIn_rangeFunc_ownG a5 h1 hg af eg a6 ax aw a0 a4 I Ix hI ao h0 (λx=>{tmps:=fA x a.tmps,defers:=[]}) ay a1 a3 a7
def rI(xs:List Int):Nat->Int
 |0=>0
 |k+1=>bits .or .u64 (IntKind.u64.wrap (rI xs k*256)) (xs.getD (bk xs.length k) 0)
def nB(E:Nat->Int)(pre:List Nat):Int:=pre.foldl (λa k=>bits .or .u64 (IntKind.u64.wrap (a*256)) (E k)) 0
theorem HU(E:Nat->Int)(pre:List Nat)(k:Nat):nB E (pre++[k])=bits .or .u64 (IntKind.u64.wrap (nB E pre*256)) (E k):=by simp[nB]
theorem HT(xs:List Int):∀k,nB (λk=>xs.getD (bk xs.length k) 0) (List.range k)=rI xs k
 |0=>rfl
 |k+1=>by rw[xz,HU,HT xs k];rfl
theorem DK(hx:x<w.heap.size)(hy:y<w.heap.size)(W:World)(l:Nat)(o o':Obj)(hl:w.heap.size<=l)(_:W.heap[l]?=T' o)(_:o.isCells=a0a)(_:o.isWalk=a0a):Kq x y W (W.putObj l o'):=
 ⟨World.putObj_heap_other f',World.putObj_heap_other f'⟩
theorem Zr{k:Nat}(W:World)(v:Value)(hx:x≠k)(hy:y≠k):Kq x y W (W.setCell ⟨k,0,Y'⟩ v):=⟨tU _ _ _ _ (by exact hx),tU _ _ _ _ (by exact hy)⟩
theorem abR{b g off cap size:Nat}{zs:List Int}(hb:w.heap[b]?=T' (.cells #[.slice (T' ⟨g,off,Y'⟩) n cap] 82 (0,0)))(hz:zs.length=n)(hn:n<=1000000)(hs:size<=n)(hcap:n<=cap)(hc:∀j,j<n->w.cell? ⟨g,off+j,Y'⟩=T' (.int .u8 (zs.getD j 0)))(hgl:g<w.heap.size)(hby:∀j,0<=zs.getD j 0/\zs.getD j 0<256):
 Calls a0c 29 #[.pointer (T' ⟨b,0,Y'⟩),.int .i64 size] w λe w'=>e=.returned (.int .u64 (rI (zs.take size) size))/\(∃o',w'.heap[b]?=T' (.cells #[.slice (T' ⟨g,o',Y'⟩) (n-size) (cap-size)] 82 (0,0))/\(0<n-size->o'=off+size))/\w.grownBy w' (T' b):=by
 refine(callsIn_wide (n:=11)).1 ?_;have hbl:=je hb;have cb:w.cell? ⟨b,0,Y'⟩=T' (.slice (T' ⟨g,off,Y'⟩) n cap):=by simp[World.cell?,hb]
 have e0:¬(n:Int)<size:=f';refine callsIn_of_wp_marks func29 rfl a0b ?_ rfl;simp only[ntmps29,jn,gM,kK,Nat.reduceAdd,Nat.reduceSub,tS,tT,uf,ua,mY,pc]
 gi_wp2_with (refine⟨a0b,?_⟩;gi_at_call 71;refine(OR _ _ _ _).mono ?_;rintro e w' ⟨rfl,rfl⟩)
 have hxl:(zs.take size).length=size:=by rw[fT];omega
 obtain⟨W0,hW0⟩:=nm ((w.alloc (Obj.cells #[Value.int IntKind.u64 0] 22)));obtain⟨W1,hW1⟩:=nm (W0.alloc (Obj.cells #[Value.slice (T' ⟨g,off,Y'⟩) size cap] 29));have s0:W0.heap.size=w.heap.size+1:=by rw[<-hW0];simp
 have s1:W1.heap.size=w.heap.size+2:=by rw[<-hW1];simp[s0]
 have b0:Below w.heap.size w W0:=by rw[<-hW0];exact(iX _ _).alloc (aM _) _
 have b1:Below w.heap.size w W1:=by rw[<-hW1];exact b0.alloc f' _
 have c1:W1.cell? ⟨w.heap.size+1,0,Y'⟩=T' (.slice (T' ⟨g,off,Y'⟩) size cap):=by
  rw[<-hW1];have:=World.alloc_heap_new W0 (Obj.cells #[Value.slice (T' ⟨g,off,Y'⟩) size cap] 29);rw[s0]at this;simp only[World.cell?,this]
  rfl
 have c2:W1.heap[w.heap.size]?=T' (.cells #[.int .u64 0] 22 (0,0)):=by
  rw[<-hW1,xn W0 _ _ f',<-hW0];exact World.alloc_heap_new w _
 simp only[hW0,hW1];obtain⟨E,hE⟩:∃E:Nat->Int,(λk=>(zs.take size).getD (bk (zs.take size).length k) 0)=E:=⟨_,rfl⟩;have hE2:∀k,0<=E k/\E k<256:=λk=>by
  rw[<-hE];dsimp only;generalize bk (zs.take size).length k=j
  by_cases hj:j<size
  .rw[show(zs.take size).getD j 0=zs.getD j 0 by simp[ic,hj]];exact hby j
  .rw[show(zs.take size).getD j 0=0 by simp[ic,hj]];omega
 have hlast:nB E (List.range size)=rI (zs.take size) size:=by rw[<-hE];exact HT _ _
 refine IS (α:=Nat) DB p' (gf:=113) (lb:=#[.pointer (T' ⟨w.heap.size+1,0,Y'⟩)]) rfl a0b (enters_of func113 I' rfl)
  (Lu (w.heap.size+1) g off cap (zs.take size) f' W1 (by rw[hxl];exact c1) f' (λj hj=>by
   rw[hxl]at hj;rw[show(zs.take size).getD j 0=zs.getD j 0 by simp[ic,hj]];exact(b1.cell (p:=⟨g,off+j,Y'⟩) hgl).trans (hc j f')))
  (λh k=>h.trans k) (DK f' f') (iX _ _) (λ_=>rfl)
  (λpre W=>Boxed W w.heap.size 22 (.int .u64 (nB E pre))/\Below w.heap.size w W)
  (λ_ _ _=>False)
  (OwnFrom.and (Own.from (boxed_own _ _ (λpre:List Nat=>.int .u64 (nB E pre))) _) (ownFrom_below (aM _) f'))
  (λ_ _ _ _ _ h _ _=>h) ⟨c2,b1⟩ (λk t=>((t.setIfInBounds 24 (.int .i64 (bk size k:Nat))).setIfInBounds 25 (.int .u8 (E k))).setIfInBounds 7 (.int .u8 (E k))) ?assign ?body ?done ?stop
 case assign=>
  intro l x W K hK;have e:(zs.take size).getD (bk size x) 0=E x:=by rw[<-hE];dsimp only;rw[hxl]
  unfold B6;rw[hxl,e];simp only[lZ,gO,iv]at hK
  gi_wp2
  exact hK
 case body=>
  rintro l pre x W ⟨hv,hB⟩ hlt;have hc:=hv.cell;have hf:=hv.frozen;obtain⟨x1,x2⟩:=hE2 x;have hw:IntKind.u64.wrap (E x)=E x:=by rw[eP];omega
  simp only[lZ,gO,iv]
  gi_wp2
  refine⟨(KeepsOthers.setCell _ _ _).from _,Zr _ _ f' f',?_,hB.setCell (p:=⟨w.heap.size,0,Y'⟩) (aM _) _⟩;rw[HU];exact hv.set _
 case done=>
  rintro D xs W hD rfl ⟨hv,hB⟩ hK;have hc:=hv.cell;have hf:=hv.frozen;rw[hxl,hlast]at hc;have hbW:=(hB.block b hbl).trans hb;have cbW:W.cell? ⟨b,0,Y'⟩=T' (.slice (T' ⟨g,off,Y'⟩) n cap):=by simp[World.cell?,hbW]
  have fbW:W.frozen? ⟨b,0,Y'⟩=false:=by simp[World.frozen?,hbW]
  have ne1:w.heap.size≠b:=f';have hfin:∀o',(0<n-size->o'=off+size)->∀tm:Array Value,tm.getD 4 undef=.int .u64 (rI (zs.take size) size)->
   bodyPostM Fence.wide 11 a0c f29 (λe w'=>e=.returned (.int .u64 (rI (zs.take size) size))/\(∃o',w'.heap[b]?=T' (.cells #[.slice (T' ⟨g,o',Y'⟩) (n-size) (cap-size)] 82 (0,0))/\(0<n-size->o'=off+size))/\w.grownBy w' (T' b)) .ret {tmps:=tm,defers:=[{target:=.collected D,args:=#[]}]} (W.setCell ⟨b,0,Y'⟩ (.slice (T' ⟨g,o',Y'⟩) (n-size) (cap-size))):=by
   intro o' ho tm htm;refine⟨J',.inl ⟨_,_,rfl,run_takeDeferred ((KeepsOthers.setCell _ _ _).same D _ hK rfl),?_⟩⟩;refine⟨_,results_tmp rfl _ _ _,?_⟩;have hneD:D≠b:=f';refine⟨by rw[<-htm],⟨o',?_,ho⟩,?_⟩
   .rw[World.putObj_heap_other (λe=>hneD e.symm)]
    simp[World.setCell,xm,hbW]
   .refine⟨?_,?_,?_,?_,λk hk hne=>?_⟩
    .exact hB.os
    .exact hB.tape
    .exact hB.output
    .have:=hB.size
     simp[World.putObj,World.setCell];omega
    .rw[World.putObj_heap_other f',tU _ _ _ _ (λe=>hne (by simp[e]))]
     exact hB.block k hk
  gi_wp2
  all_goals first
   |exact hfin _ (λ_=>rfl) _ rfl
   |(
    have e:cap=size:=f';rw[e,sE]at hfin;exact hfin off f' _ rfl)
 case stop=>
  rintro D c pre W _ _ h;exact h.elim
end
attribute [local go_sem] Oper.semAt_some
theorem EH:(a0c.info? 191).map (·.size)=T' 512:=I'
theorem I2:(a0c.info? 196).map (·.size)=T' 513:=I'
theorem SC(w:World):(zeroValue 191).run a0c w=.ok (.agg (cM Zb).toArray) w:=by
 have h:(a0c.info? 191).bind (·.zero)=T' (.agg (cM Zb).toArray):=I';obtain⟨i,h1,h2⟩:=vE.1 h;simp[zeroValue,typeInfo,h1,h2]
theorem JK(w:World):(zeroValue 196).run a0c w=.ok (.agg (wC (0,Zb)).toArray) w:=by
 have h:(a0c.info? 196).bind (·.zero)=T' (.agg (wC (0,Zb)).toArray):=I';obtain⟨i,h1,h2⟩:=vE.1 h;simp[zeroValue,typeInfo,h1,h2]
section
variable {F:Fence}{n:Nat}{P:Program}{w:World}{o:Oper}{a:Act}{K:Act->World->Prop}{Q:Exit->Act->World->Prop}{ty t:TypeId}{x y:Operand}{b:Nat}{old cells v:Array Value}
theorem QJ(ho:o.op=.store ty x y)(hx:a.eval x=.pointer (T' ⟨b,0,Y'⟩))(hy:a.eval y=.agg cells)
 (hb:w.heap[b]?=T' (.cells old t (0,0))) (hs:old.size=cells.size) (hi:(P.info? ty).map (·.size)=T' cells.size) (h1:∀v∈cells.toList,v.oneCell'=Z'):(execOp a.eval o).run P w=.ok .skip (w.setRow b cells):=by
 have hr:=run_storeCells_at P b 0 t cells.toList 0 old w hb (by simp[hs]) h1;have e:(old.toList.take (0+0)++cells.toList++old.toList.drop (0+0+cells.toList.length)).toArray=cells:=by
  rw[kN,du,eD,mY,qX,<-hs,vB J',jx,Fk]
 rw[e]at hr;cases hq:P.info? ty with
 |none=>simp[hq]at hi
 |some i=>
  have ab:cells.size=i.size:=by simp[hq]at hi;omega
  simp only[execOp,ho,hx,hy,Instr.storeAt,Instr.sureAddr,cC,cJ,cz,storeVar,sizeOf,typeInfo,hq,Value.cells];simp[ab,hr,hq,cJ]
theorem wp_store_row(ho:o.op=.store ty x y)(hx:a.eval x=.pointer (T' ⟨b,0,Y'⟩))(hy:a.eval y=.agg cells)
 (hb:w.heap[b]?=T' (.cells old t (0,0))) (hs:old.size=cells.size) (hi:(P.info? ty).map (·.size)=T' cells.size) (h1:∀v∈cells.toList,v.oneCell'=Z')
 (k:K (a.put o.dst undef) (w.setRow b cells)):o.wp P a w K Q:=by
 unfold Oper.wp;rw[QJ ho hx hy hb hs hi h1];exact k
theorem Si(ho:o.op=.store ty x y)(hx:a.eval x=.pointer (T' ⟨b,0,Y'⟩))(hy:a.eval y=.agg cells)
 (hb:w.heap[b]?=T' (.cells old t (0,0))) (hs:old.size=cells.size) (hi:(P.info? ty).map (·.size)=T' cells.size) (h1:∀v∈cells.toList,v.oneCell'=Z')
 (k:K (a.put o.dst undef) (w.setRow b cells)):o.wpIn F n P a w K Q:=by
 refine⟨by simp[Oper.about,ho],?_⟩;rw[Oper.semAt_plain F _ _ (by rw[ho];intro c ab;cases ab),QJ ho hx hy hb hs hi h1];exact k
theorem QE(ho:o.op=.alloc t)(hz:(zeroValue t).run P w=.ok (.agg v) w):(execOp a.eval o).run P w=.ok (.value (.pointer (T' ⟨w.heap.size,0,Y'⟩))) (w.alloc (.cells v t)):=by
 simp[execOp,ho,Instr.alloc,hz,newVar,newRow,Value.cells]
theorem Sl(ho:o.op=.alloc t)(hz:(zeroValue t).run P w=.ok (.agg v) w)
 (k:K (a.put o.dst (.pointer (T' ⟨w.heap.size,0,Y'⟩))) (w.alloc (.cells v t))):o.wp P a w K Q:=by
 unfold Oper.wp;rw[QE ho hz];exact k
theorem agB(ho:o.op=.alloc t)(hz:(zeroValue t).run P w=.ok (.agg v) w)
 (k:K (a.put o.dst (.pointer (T' ⟨w.heap.size,0,Y'⟩))) (w.alloc (.cells v t))):o.wpIn F n P a w K Q:=by
 refine⟨by simp[Oper.about,ho],?_⟩;rw[Oper.semAt_plain F _ _ (by rw[ho];intro c ab;cases ab),QE ho hz];exact k
end
theorem Dr(L:List (Int×List Int))(p:Int×List Int)(j:Nat)(hj:j<L.length):(L++[p]).getD j w0=L.getD j w0:=by simp[iK hj]
theorem OJ(i:Int)(G:Int->List Int):∀(n:Nat)(L:List (Int×List Int)),L.length=n->(∀j,j<L.length->(L.getD j w0).1≠i)->pM L G i=G i
 |0,L,hn,_=>by rw[lY hn];rfl
 |n+1,L,hn,h=>by
  rcases Kc L with rfl|⟨L',p,rfl⟩
  .rfl
  .rw[Ka]at hn h|-
   have h1:(p.1≠i):=by
    have:=h L'.length J';simpa using this
   rw[yK,aq (λe=>h1 e.symm)];exact OJ i G n L' (by simp at hn;omega) (λj hj=>by
    have:=h j O';rwa[Dr _ _ _ hj]at this)
theorem OI(i:Int)(G:Int->List Int):∀(x:Nat)(L:List (Int×List Int)),x<L.length->(∀k,k<x->(L.getD (bk L.length k) w0).1≠i)->(L.getD (bk L.length x) w0).1=i->pM L G i=(L.getD (bk L.length x) w0).2
 |x,L,hx,h,he=>by
  rcases Kc L with rfl|⟨L',p,rfl⟩
  .simp at hx
  .rw[Ka]at hx h he|-
   have hl:(L'++[p]).length=L'.length+1:=J';rw[hl]at hx h he|-
   match x with
   |0=>
    have e0:bk (L'.length+1) 0=L'.length:=by unfold bk;omega
    rw[e0]at he|-;have e1:(L'++[p]).getD L'.length w0=p:=J';rw[e1]at he|-;rw[yK,au he.symm]
   |x+1=>
    have eb:∀k,k+1<L'.length+1->bk (L'.length+1) (k+1)=bk L'.length k/\bk L'.length k<L'.length:=λk hk=>by unfold bk;omega
    have hp:p.1≠i:=by
     have:=h 0 f';have e0:bk (L'.length+1) 0=L'.length:=by unfold bk;omega
     rw[e0]at this;simpa using this
    obtain⟨e1,e2⟩:=eb x hx;rw[e1,Dr _ _ _ e2]at he|-;rw[yK,aq (λe=>hp e.symm)];exact OI i G x L' f' (λk hk=>by
     obtain⟨f1,f2⟩:=eb k f';have:=h (k+1) f';rwa[f1,Dr _ _ _ f2]at this) he
attribute [local go_sem] Oper.semAt_some
theorem Oi{W:World}{b:Nat}{C:Array Value}{t:TypeId}{f:Nat×Nat}(h:W.heap[b]?=T' (.cells C t f))(cs:Array Value):KeepsOthers W (W.setRow b cs):=by
 refine⟨by simp[World.setRow],λk o hk ho=>?_⟩
 by_cases e:k=b
 .subst e
  rw[h]at hk;cases hk;cases ho
 .rw[setRow_other _ _ _ _ e];exact hk
theorem abz{B0 B1 g:Nat}{i:Int}{lv:Value}{L:List (Int×List Int)}{sv:Array Value}{W5:World}{x0 x1 x2 x4 x5 x6 x8 x9 x10 x11 x12 x13 x14 x15 x16 x17 x18 x19 x20 x21 x22 x23 x24 x25 x27 x28 x29 x30 x31 x32 x33 x34 x35 x36:Value}{Q:Exit->Act->World->Prop}{w1:World}{G:Int->List Int}
 (hBs:W5.cell? ⟨B1+1,0,Y'⟩=T' lv) (hs5:W5.heap.size=B1+2) (h0:W5.cell? ⟨B0,0,Y'⟩=T' (.int .i64 i)) (hB0:B0<B1) (hB1:W5.heap[B1]?=T' (.cells sv 191 (0,0))) (hsv:(cM (G i)).toArray=sv) (hsz:sv.size=512)
 (hLn:L.length<=1000000) (hLl:∀k,(L.getD k w0).2.length=512) (hlv:(lv=.slice Y' 0 0/\L=[])\/∃cap,lv=.slice (T' ⟨g,0,Y'⟩) L.length cap/\g<W5.heap.size/\∀j,j<L.length->W5.rangeAt g (j*513) (wC (L.getD j w0))) (hg:g<W5.heap.size)
 (hQ:∀D W,W.heap[B1]?=T' (.cells (cM (pM L G i)).toArray 191 (0,0))->Below B1 W5 W->W5.heap.size<=D->W.heap[D]?=T' (.deferred (T' []))->
  Q .normal {tmps:=#[x0,x1,x2,.pointer (T' ⟨B0,0,Y'⟩),x4,x5,x6,.pointer (T' ⟨B1,0,Y'⟩),x8,x9,x10,x11,x12,x13,x14,x15,x16,x17,x18,x19,x20,x21,x22,x23,x24,x25,.func (.func 143) #[] #[.pointer (T' ⟨B1+1,0,Y'⟩)],x27,x28,x29,x30,x31,x32,x33,x34,x35,x36],defers:=[{target:=.collected D,args:=#[]}]} W/\
  Q (.exit 0) {tmps:=#[x0,x1,x2,.pointer (T' ⟨B0,0,Y'⟩),x4,x5,x6,.pointer (T' ⟨B1,0,Y'⟩),x8,x9,x10,x11,x12,x13,x14,x15,x16,x17,x18,x19,x20,x21,x22,x23,x24,x25,.func (.func 143) #[] #[.pointer (T' ⟨B1+1,0,Y'⟩)],x27,x28,x29,x30,x31,x32,x33,x34,x35,x36],defers:=[{target:=.collected D,args:=#[]}]} W):
 (Code.rangeFunc (Operand.tmp 26) #[27,28]
  (Code.region 6
   #[{dst:=T' 9,op:=Op.alloc 196,type:=0,pos:= "disk.go:68",after:=#[],guard:=Y'},
    {
     dst:=Y',op:=Op.store 196 (Operand.tmp 9) (Operand.tmp 28),type:=0,pos:= "disk.go:68",
     after:=#[{on:=0,ground:=Ground.data},{on:=0,ground:=Ground.phase}],guard:=Y'}]
   a0a)
  (Code.block 1
   ((
    Code.region 7
     #[{
      dst:=T' 29,op:=Op.fieldAddr 196 (Operand.tmp 9) 0,type:=0,pos:= "disk.go:69",
      after:=#[],guard:=Y'},
      {
       dst:=T' 30,op:=Op.load 3 (Operand.tmp 29),type:=3,pos:= "disk.go:69",
       after:=#[{on:=0,ground:=Ground.data}],guard:=Y'},
      {
       dst:=T' 31,op:=Op.load 3 (Operand.tmp 3),type:=3,pos:= "disk.go:69",after:=#[],
       guard:=Y'},
      {
       dst:=T' 32,op:=Op.binOp BinOp.eql 3 (Operand.tmp 30) (Operand.tmp 31) 3,type:=4,
       pos:= "disk.go:69",
       after:=#[{on:=1,ground:=Ground.data},{on:=2,ground:=Ground.data}],guard:=Y'}]
     a0a).seq
    (Code.cond (Operand.tmp 32)
     ((
      Code.region 8
       #[{
        dst:=T' 33,op:=Op.fieldAddr 196 (Operand.tmp 9) 1,type:=0,pos:= "disk.go:70",
        after:=#[],guard:=Y'},
        {
         dst:=T' 34,op:=Op.load 191 (Operand.tmp 33),type:=191,pos:= "disk.go:70",
         after:=#[{on:=0,ground:=Ground.data}],guard:=Y'},
        {
         dst:=Y',op:=Op.store 191 (Operand.tmp 7) (Operand.tmp 34),type:=0,pos:= "disk.go:70",
         after:=
          #[{on:=1,ground:=Ground.data},{on:=0,ground:=Ground.phase},
           {on:=1,ground:=Ground.phase}],
         guard:=Y'}]
       a0a).seq
      (Code.exit 0))
     Code.skip)))).wpIn Fence.wide 11 a0c Q {tmps:=#[x0,x1,x2,.pointer (T' ⟨B0,0,Y'⟩),x4,x5,x6,.pointer (T' ⟨B1,0,Y'⟩),x8,x9,x10,x11,x12,x13,x14,x15,x16,x17,x18,x19,x20,x21,x22,x23,x24,x25,.func (.func 143) #[] #[.pointer (T' ⟨B1+1,0,Y'⟩)],x27,x28,x29,x30,x31,x32,x33,x34,x35,x36],defers:=[]} W5:=by
 obtain⟨Z,hz,hZs⟩:∃Z:Array Value,(∀w,(zeroValue 196).run a0c w=.ok (.agg Z) w)/\Z.size=513:=⟨_,JK,by rw[jn,rX];rfl⟩;have hLx:∀k,(wC (L.getD k w0)).toArray.size=513:=λk=>by rw[jn,rX,hLl]
 refine wpIn_rangeFunc_ownH (α:=Nat) DB p' (gf:=143) (lb:=#[.pointer (T' ⟨B1+1,0,Y'⟩)]) rfl a0b (enters_of func143 I' rfl)
  (Uo (B1+1) lv L hLn (λk _=>hLl k) W5 hBs g hlv) (λh k=>h.trans k) (DK f' hg) (iX _ _) (λ_=>rfl)
  (λpre W=>Below (B1+2) W5 W/\∀k∈pre,(L.getD (bk L.length k) w0).1≠i)
  (λc pre' W=>(c=.exit 0/\∃pre x,pre'=pre++[x]/\(L.getD (bk L.length x) w0).1=i/\(∀k∈pre,(L.getD (bk L.length k) w0).1≠i)/\W.heap[B1]?=T' (.cells (cM (L.getD (bk L.length x) w0).2).toArray 191 (0,0)))/\Below B1 W5 W)
  (OwnFrom.and (ownFrom_below f' f') (ownFrom_pure _ _))
  (λc=>OwnFrom.and (λs X Y row hs hg hr=>?own1) (ownFrom_below f' f'))
  ⟨by rw[<-hs5];exact iX _ _,J'⟩
  (λx a' W=>∃Bx,(W5.heap.size<=Bx/\a'={tmps:=#[x0,x1,x2,.pointer (T' ⟨B0,0,Y'⟩),x4,x5,x6,.pointer (T' ⟨B1,0,Y'⟩),x8,.pointer (T' ⟨Bx,0,Y'⟩),x10,x11,x12,x13,x14,x15,x16,x17,x18,x19,x20,x21,x22,x23,x24,x25,.func (.func 143) #[] #[.pointer (T' ⟨B1+1,0,Y'⟩)],.int .i64 (bk L.length x:Nat),.agg (wC (L.getD (bk L.length x) w0)).toArray,x29,x30,x31,x32,x33,x34,x35,x36],defers:=[]})/\W.heap[Bx]?=T' (.cells (wC (L.getD (bk L.length x) w0)).toArray 196 (0,0)))
  (λx a' s X Y row hs hg hr=>?own2) ?assign ?body ?done ?stop
 case own1=>
  obtain⟨e,pre,x,p1,p2,p3,p4⟩:=hs;refine⟨e,pre,x,p1,p2,p3,?_⟩;rw[hg.block B1 (je p4) (λe=>by obtain⟨hh,_⟩:=hr B1 e.symm;omega)];exact p4
 case own2=>
  obtain⟨Bx,p1,p2⟩:=hs;refine⟨Bx,p1,?_⟩;rw[hg.block Bx (je p2) (λe=>by
   obtain⟨_,o,ho,hc⟩:=hr Bx e.symm;rw[p2]at ho;cases ho;cases hc)]
  exact p2
 case assign=>
  intro l pre x W K hI hK;obtain⟨hB,hpre⟩:=hI;obtain⟨cw,hcw⟩:=nm ((wC (L.getD (bk L.length x) w0)).toArray);have cE:cw.size=513:=by rw[<-hcw];exact hLx _
  have hco:∀v∈cw.toList,v.oneCell'=true:=λv hv=>by rw[<-hcw]at hv;exact EU _ v (by simpa using hv)
  unfold B7;rw[hcw]at hK|-;have hsz:=hB.size;refine wpIn_region_list ?_;refine wpListIn_plain rfl λK1 hK1=>agB (t:=196) (v:=Z) rfl (hz W) (hK1 _ _ ?_)
  refine wpListIn_plain rfl λK2 hK2=>Si (ty:=196) (x:=.tmp 9) (y:=.tmp 28) (b:=W.heap.size) (t:=196) (old:=Z) (cells:=cw) rfl I' I' (World.alloc_heap_new W _) (hZs.trans cE.symm) (by rw[I2,cE]) hco (hK2 _ _ ?_)
  have hbl:Below W.heap.size W ((W.alloc (.cells Z 196)).setRow W.heap.size cw):=ze ((iX _ W).alloc (aM _) _) _;have hat:((W.alloc (.cells Z 196)).setRow W.heap.size cw).heap[W.heap.size]?=T' (.cells cw 196 (0,0)):=setRow_heap _ _ _ _ _ _ (World.alloc_heap_new W _);have hko:KeepsOthers W ((W.alloc (.cells Z 196)).setRow W.heap.size cw):=(KeepsOthers.alloc W (.cells Z 196)).trans (Oi (World.alloc_heap_new W _) _);exact hK _ _ (hko.from _) (Kq.below hbl f' f') ⟨hB.trans (hbl.mono f'),hpre⟩ ⟨W.heap.size,⟨f',I'⟩,hat⟩
 case body=>
  rintro l pre x a' W hl hr ⟨hB,hpre⟩ ⟨Bx,⟨hBx,rfl⟩,kx⟩ hlt;have cB0:W.cell? ⟨B0,0,Y'⟩=T' (.int .i64 i):=(hB.cell (p:=⟨B0,0,Y'⟩) (by show B0<_;omega)).trans h0;have kB1:=(hB.block B1 f').trans hB1;have hl5:=hLl (bk L.length x);obtain⟨p,hp⟩:=nm (L.getD (bk L.length x) w0);rw[hp]at kx hl5;have cx:W.cell? ⟨Bx,0,Y'⟩=T' (.int .i64 p.1):=by simp[World.cell?,kx,wC]
  obtain⟨cs,cE⟩:=nm (cM p.2);have hcl:cs.length=512:=by rw[<-cE,mr,hl5]
  have hco:∀v∈cs,v.oneCell'=true:=λv hv=>by rw[<-cE]at hv;exact zc _ v hv
  have hrange:W.rangeAt Bx 1 cs:=λj v hj=>by
   rw[<-cE]at hj;simp only[World.cell?,kx,wC];rw[q8 1 j];simpa using hj
  have hi2:(a0c.info? 191).map (·.size)=T' cs.length:=by rw[hcl];exact EH
  have hne:Bx≠B1:=f';rw[hp];generalize(Value.agg (wC p).toArray)=vx
  by_cases hpi:p.1=i
  .rw[hpi]at cx
   repeat(first|(refine Sh 191 (.tmp 33) rfl Bx 1 rfl cs _ hrange underlying191 rfl hi2 ?_)|(refine Si (ty:=191) (x:=.tmp 7) (y:=.tmp 34) (b:=B1) (t:=191) (old:=sv) (cells:=cs.toArray) rfl rfl rfl kB1 (by rw[hsz];simp[hcl]) (by rw[EH];simp[hcl]) (λv hv=>hco v (by simpa using hv)) ?_)|go_values|gi_guarded|gi_step|gi_upon|gi_back|(simp only[zK,zJ]at*;go_simp))
   refine⟨(Oi kB1 _).from _,⟨rfl,pre,x,rfl,?_,hpre,?_⟩,ze (hB.mono f') _⟩
   .show(L.getD (bk L.length x) w0).1=i
    rw[hp];exact hpi
   .show _=T' (Obj.cells (cM (L.getD (bk L.length x) w0).2).toArray 191 (0,0))
    rw[hp,cE];exact setRow_heap _ _ _ _ _ _ kB1
  .repeat(first|go_values|gi_guarded|gi_step|gi_upon|gi_back|(simp only[zK,zJ]at*;go_simp))
   refine⟨KeepsFrom.refl _ _,Kq.refl _ _ _,hB,λk hk=>?_⟩;rcases jm.1 hk with h|h
   .exact hpre k h
   .obtain rfl:k=x:=by simpa using h
    show¬(L.getD (bk L.length k) w0).1=i;rw[hp];exact hpi
 case done=>
  rintro D xs W hD rfl ⟨hB,hpre⟩ hK;refine(hQ D W ?_ (hB.mono f') hD hK).1;rw[OJ i G L.length L rfl (λj hj=>by
   have:=hpre (bk L.length j) (j7.2 (by unfold bk;omega));rwa[show bk L.length (bk L.length j)=j by unfold bk;omega]at this),hsv]
  exact(hB.block B1 f').trans hB1
 case stop=>
  rintro D c pre' W hD ⟨k,hk,rfl⟩ ⟨⟨rfl,pre,x,p1,p2,p3,p4⟩,hB⟩ hK;refine wpIn_exit ?_;refine(hQ D W ?_ hB hD hK).2;have hx:pre=List.range x/\x<L.length:=by
   have e1:=fV List.length p1;simp at e1;obtain⟨k',rfl⟩:∃k',k=k'+1:=⟨k-1,f'⟩;rw[xz]at p1;obtain⟨q1,q2⟩:=List.append_inj' p1 rfl;simp at q2;subst q2;exact⟨q1.symm,f'⟩
  rw[OI i G x L hx.2 (λk hk=>p3 k (by rw[hx.1];exact j7.2 hk)) p2];exact p4
end Go.Hl
