/- Lemmas for TopSound and TopBracket. -/
import Derived.Great.BuildSlice
import Derived.Lib.SmallJoins
import Derived.Lib.AppendZerosOnto
import Derived.Lib.SliceRun
import Derived.Laws.CopyRow
import Derived.RangeFuncLeaves
import Derived.OrdersIn
import Derived.TacticsIn
import Derived.RangeFuncCalls
import Derived.RecoverIn
import Derived.Test.YtpgglolpkbepjaaGreatTBI
import Derived.Test.YtpgglolpkbepjaaGreatTAV
set_option linter.unusedVariables false
set_option linter.unusedSimpArgs false
namespace Go.Hl
open Go.Proofs.Tryz
open Go.Proofs.Tryz renaming prog→a0c
open Option renaming some→T',none→Y'
open Bool renaming true→Z',false→a0a
open Go Go.RowKit Go.Proofs
set_option maxHeartbeats 16000000
set_option maxRecDepth 100000
theorem gr{σ:St}{id:Nat}(h:(σ.fr.all λp=> !(p.2.refs id))=Z'):∀u,(σ.get u).refs id=false:=by
 intro u;unfold St.get;generalize σ.fr=l at h
 induction l with
 |nil=>rfl
 |cons p l ih=>
  obtain⟨k,v⟩:=p;simp only[Co,dG,Fm]at h;unfold lk;split
  .exact h.1
  .exact ih h.2
def gx(f:Int->List Int)(a e ep nx:Int)(xs:List Int):Int->List Int:=
 ib (if a+2<e then ib (ib f (a+1) xs) (a+2) []else ib f (a+1) xs) a (fO lN ep nx xs)
theorem La{bj d:Nat}{n:Int}{f:Int->List Int}{c:Nat}{a e ep nx:Int}{xs:List Int}(ax:n<=4096)(hc:c<=999000)(x0:0<xs.length)(x1:xs.length<=512)(hB:B8 xs)(ha:0<=a)(bc:a+2<=e)(he:e<=n)(a4:0<=ep)(a5:ep<9223372036854775808)(ay:0<=nx)(a7:nx<=4096):
 aA a0c 103 [bj,.ns .u8 xs] ((aZ d n f c).star (.aJ bj (cZ d a e ep nx))) (λr R'=>r=.r (.int .i64 0)/\R'=(aZ d n (gx f a e ep nx xs) 0).star (.aJ bj (cZ d (a+2) e ep (nx+1)))):=by
 have hE:=eF HD By;obtain⟨N,hN⟩:=nm (xs.length);have a0:((N:Int)+512-1)/512=1:=f';have ao:0<N:=f';have aw:N<=512:=f';have a3:¬(2048:Int)<N:=f';have hH:=yv lN ep nx xs;have bd:lN.size=4:=rfl;have af:((0:Int)==0)=true:=rfl;have a6:¬e-a<2:=f';unfold cZ;refine aA.body hE func103 ntmps103 results103 (λen=>?_);refine aE ?_;refine aa.seq (aa.block (aa.gd dm 0 p' p' rfl rfl (gr rfl) ?_));refine a9 (A2 hN a3) ?_;refine aa.dz rfl ?_;refine aE ?_;refine aa.dz rfl ?_;refine aa.seq (aa.of (T:=ag a0a) ?_);refine ai.regionF [] [] [] hE.hT hE.hS hE.hm gy (an (A5 hN a0 ao aw a6) ?_);show aa _ _ _ _ _ _ _ _;refine aa.dz rfl (aa.skip ?_);refine⟨_,rfl,?_⟩;show aa _ _ _ _ _ _ _ _;refine aa.seq (aa.gd dm 0 p' p' rfl rfl (gr rfl) ?_);refine aa.yZ 10 [] [] [] (L:=[(130,I4),(128,Ja)]) hE (Qd (b:=d) (n:=n) (f:=f) (c:=c) (i:=a+1) (xs:=xs) f' f' ax f' x0 x1) rfl rfl rfl func136 rfl p' ⟨_,_,rfl,rfl⟩ gy (λr R' hp=>?_);obtain⟨rfl,rfl⟩:=hp;refine⟨rfl,?_⟩;refine jt a0b ?_;refine⟨_,rfl,?_⟩;show aa _ _ _ _ _ _ _ _;obtain⟨F2,ab⟩:=nm ((if a+2<e then ib (ib f (a+1) xs) (a+2) []else ib f (a+1) xs));refine aa.iG (ι:={k:Nat // k<=c+2}) (λk=>(⟨[(0,bj),(1,.ns .u8 xs),(5,(0:Int))],[]⟩,(aZ d n F2 k.1).star (.aJ bj (cZ d a e ep nx)))) ?_ (λk=>?_)
 .refine aa.gd dm 0 p' p' rfl rfl (gr rfl) ?_
  refine aa.seq (aa.of (T:=ag a0a) ?_);refine ai.regionF [] [] [] hE.hT hE.hS hE.hm gy (an (A4 hN a0 ao aw) ?_);show aa _ _ _ _ _ _ _ _;refine aa.seq (aa.of (T:=ag a0a) ?_)
  by_cases hlt:a+2<e
  .rw[au hlt]at ab
   subst ab;refine cy (A2 af (show a+1+1<e from f')) ?_;show aa _ _ _ _ _ _ _ _;refine aa.eo rfl (aa.region ?_);refine az 5 ?_;refine gE (ag a0a) (MO d n _ (c+1) (a+1+1) [] f' f' f' p') func106 ?_;refine az 1 ?_;refine GL.nil ?_;refine⟨_,rfl,⟨c+2,aM _⟩,Le.mk a0b,?_⟩;have e2:a+1+1=a+2:=f';show GA.le ((aZ d n (ib (ib f (a+1) xs) (a+1+1) []) (c+2)).star _) _;rw[e2];exact GA.le.refl _
  .rw[aq hlt]at ab
   subst ab;refine cy (A2 af (show¬a+1+1<e from f')) ?_;show aa _ _ _ _ _ _ _ _;refine aa.dz rfl (aa.skip ?_);exact⟨_,rfl,⟨c+1,Nat.le_succ _⟩,Le.mk a0b,GA.le.refl _⟩
 obtain⟨k,hk⟩:=k;unfold cZ;show aa _ _ _ _ _ _ _ _;refine aa.seq (aa.gd dm 0 p' p' rfl rfl (gr rfl) ?_);refine a9 af ?_;refine aa.eo rfl (aa.region ?_);refine az 4 ?_;refine gE (ag a0a) (GI d n F2 k f') func107 ?_;refine az 1 ?_;refine GL.nil ?_;refine⟨_,rfl,?_⟩;show aa _ _ _ _ _ _ _ _;refine aa.seq (aa.gd dm 0 p' p' rfl rfl (gr rfl) ?_);refine a9 af ?_;refine aa.eo rfl ?_;refine aa.yZ 18 [] [] [] (L:=[(130,I4),(128,Ja)]) hE (Dn (b:=d) (n:=n) (f:=F2) (c:=0) (i:=a) (xs:=fO lN ep nx xs) f' f' ax f' f' f') rfl rfl rfl func129 rfl p' ⟨_,_,rfl,rfl⟩ gy (λr R' hp=>?_);obtain⟨rfl,rfl⟩:=hp;refine⟨rfl,?_⟩;have bb:lN.size<=100:=p';refine jt (A6 bb a4 a5 ay (show nx<9223372036854775808 from f') hB) ?_;refine⟨_,rfl,?_⟩;show aa _ _ _ _ _ _ _ _;have a1:((0:Int)!=0)=false:=rfl;refine aa.seq (aa.seq (aa.gd dm 0 p' p' rfl rfl (gr rfl) ?_));refine aa.of (T:=ag a0a) ?_;refine cy a1 ?_;refine⟨_,rfl,?_⟩;show aa _ _ _ _ _ _ _ _;refine aa.seq (aa.gd dm 0 p' p' rfl rfl (gr rfl) ?_);refine aa.of (T:=ag a0a) ?_;refine aT ?_;refine⟨_,rfl,?_⟩;show aa _ _ _ _ _ _ _ _;refine aa.eo rfl (aa.region ?_);refine fG 3 hN ?_;refine gE (ag a0a) (Ny (m:=N) aw ao f' f' ay a7) func99 ?_;refine gN ?_;refine aE ?_;refine aa.ret ?_;exact dM.of ⟨rfl,by rw[<-ab];rfl⟩ (aO.mk a0b rfl)
theorem Pp{d:Nat}{n:Int}{f:Int->List Int}{c:Nat}{a s ep:Int}(ax:n<=4096)(hc:c<=999000)(ha:0<=a)(hs:1<=s)(a0:a+s<=n)(ao:0<=ep)(aw:ep<9223372036854775808)
 (hm:cP (((f a).drop 20).take 8)=(0:Nat)) (ay:kT ((f a).take 36) (fO lN ep 0 [])=a0a) (hf:∀k,(f k).length=512) (hB:∀k,B8 (f k)):
 aA a0c 61 [d,(a:Int),(s:Int),(ep:Int)] (aZ d n f c) (λr R'=>∃bj,r=.aU [.r (.pointer (T' ⟨bj,0,Y'⟩)),.dt,(0:Int)]/\R'=(aZ d n f c).star (.aJ bj (cZ d a (a+s) ep 0))):=by
 have hE:=env dC;have g1:¬a<0:=f';have g2:¬s<0:=f';have g3:¬ep<0:=f';have g4:¬n<a:=f';have g5:¬n-a<s:=f';obtain⟨M,hM⟩:∃M:Nat,(if 512*(a+s-a-1)<2048 then 512*(a+s-a-1)else 2048)=(M:Int):=by
  split
  .exact⟨(512*(a+s-a-1)).toNat,f'⟩
  .exact⟨2048,rfl⟩
 have af:M<=1000000:=by
  have:(M:Int)<=2048:=by rw[<-hM];split<;>omega
  omega
 have ab:aA a0c 98 _ (aZ d n f c) _:=Gn (i:=a) (s:=lN) (a:=ep) (a2:=0) (most:=M) (m:=0) ha f' ax f' p' ao aw p' p' hm (dU _) af (.inl rfl) hf hB;rw[eD,ay]at ab;unfold cZ;refine aA.body hE func61 ntmps61 results61 (λen=>?_);refine aE ?_;refine aa.seq (aa.block (aa.bG ?_));refine fG 13 (A3 g1 g2 g3) ?_;refine GL.guarded rfl ?_;refine gE (ag a0a) (rB d n f c) func58 ?_;refine fG 5 g4 ?_;refine GL.guarded rfl ?_;refine gE (ag a0a) (rB d n f c) func58 ?_;refine fG 5 g5 ?_;refine gN ?_;refine aa.dz rfl ?_;refine aa.bG ?_;refine az 1 ?_;refine gE (ag a0a) (Au d n f c) func67 ?_;refine az 1 ?_;refine gN ?_;refine gF ?_;refine aa.bG ?_;refine az 7 ?_;refine GL.Gs (C:=[.r (.pointer (T' ⟨d,0,Y'⟩)),.r (.int .i64 a),.r (.int .i64 (a+s)),.r (.int .i64 ep),.r (.int .i64 0),.r (.bool a0a)]) rfl rfl rfl p' rfl (λbj=>?_);refine az 1 ?_;refine gN ?_;refine aE ?_;refine aa.seq (aa.block ?_);refine aa.loop (ι:=Unit) (λ_=>(⟨[(0,d),(3,(ep:Int)),(11,.r (.pointer (T' ⟨bj,0,Y'⟩))),(12,.dt)],[]⟩,(aZ d n f c).star (.aJ bj [d,(a:Int),(a+s:Int),(ep:Int),(0:Int),a0a]))) (λ_=>0) () ?_ ?_ ?_
 .exact Le.mk a0b
 .exact GA.le.refl _
 intro _;refine aa.seq (aa.gd dm 11 p' p' rfl rfl (gr rfl) ?_);refine aa.seq (aa.of (T:=ag a0a) ?_);refine ai.regionF [] [] [] hE.hT hE.hS hE.hm gy (an (show a<a+s from f') ?_);show aa _ _ _ _ _ _ _ _;refine aa.eo rfl (aa.skip ?_);refine⟨_,rfl,?_⟩;show aa _ _ _ _ _ _ _ _;refine aa.block (aa.seq (aa.gd dm 11 p' p' rfl rfl (gr rfl) ?_));refine aa.yZ 22 [] [] [] (L:=[]) hE ab rfl rfl rfl func98 rfl p' ⟨_,_,rfl,rfl⟩ gy (λr R' hp=>?_);obtain⟨rfl,rfl⟩:=hp;refine⟨rfl,?_⟩;refine jt hM ?_;refine⟨_,rfl,?_⟩;show aa _ _ _ _ _ _ _ _;refine aa.seq (aE ?_);refine aa.eo rfl (aa.exit ?_);show aa _ _ _ _ _ _ _ _;refine aE ?_;refine aa.ret ?_;exact dM.of ⟨bj,rfl,rfl⟩ (aO.mk a0b rfl)
theorem aaS{d:Nat}{n:Int}{f:Int->List Int}{c m:Nat}(ay:n<=4096)(hc:c<=999000)(hn:6<=n)(m0:0<m)(m1:m<=512)
 (hm:cP (((f 4).drop 20).take 8)=m) (he:kT ((f 4).take 36) (fO lN 1 0 ((f 5).take m))=Z') (hf:∀k,(f k).length=512) (hB:∀k,B8 (f k)):
 aA a0c 61 [d,(4:Int),(2:Int),(1:Int)] (aZ d n f c) (λr R'=>∃bj,r=.aU [.r (.pointer (T' ⟨bj,0,Y'⟩)),.sl 1 1 [.ns .u8 ((f 5).take m)],(0:Int)]/\R'=(aZ d n f c).star (.aJ bj (cZ d 6 6 1 1))):=by
 have hE:=env dC;have g4:¬n<4:=f';have g5:¬n-4<2:=f';have ab:aA a0c 98 _ (aZ d n f c) _:=Gn (i:=4) (s:=lN) (a:=1) (a2:=0) (most:=512) (m:=m) p' f' ay f' p' p' p' p' p' hm m1 p' (.inr ⟨m1,f'⟩) hf hB;have e5:(4:Int)+1=5:=rfl;rw[e5,he]at ab;obtain⟨D,hD⟩:=nm ((f 5).take m);have aw:D.length=m:=by rw[<-hD,fT,hf];omega
 rw[hD]at ab|-;unfold cZ;refine aA.body hE func61 ntmps61 results61 (λen=>?_);refine aE ?_;refine aa.seq (aa.block (aa.bG ?_));refine az 13 ?_;refine GL.guarded rfl ?_;refine gE (ag a0a) (rB d n f c) func58 ?_;refine fG 5 g4 ?_;refine GL.guarded rfl ?_;refine gE (ag a0a) (rB d n f c) func58 ?_;refine fG 5 g5 ?_;refine gN ?_;refine aa.dz rfl ?_;refine aa.bG ?_;refine az 1 ?_;refine gE (ag a0a) (Au d n f c) func67 ?_;refine az 1 ?_;refine gN ?_;refine gF ?_;refine aa.bG ?_;refine az 7 ?_;refine GL.Gs (C:=[.r (.pointer (T' ⟨d,0,Y'⟩)),.r (.int .i64 4),.r (.int .i64 6),.r (.int .i64 1),.r (.int .i64 0),.r (.bool a0a)]) rfl rfl rfl p' rfl (λbj=>?_);refine az 1 ?_;refine gN ?_;refine aE ?_;refine aa.seq (aa.block ?_);refine aa.loop (ι:=Bool) (λp=>if p then(⟨[(0,d),(3,(1:Int)),(11,.r (.pointer (T' ⟨bj,0,Y'⟩))),(12,.os 91 1 0 1)],[(91,⟨Z',.c [.ns .u8 D]⟩)]⟩,(aZ d n f c).star (.aJ bj (cZ d 6 6 1 1)))else
  (⟨[(0,d),(3,(1:Int)),(11,.r (.pointer (T' ⟨bj,0,Y'⟩))),(12,.dt)],[]⟩,(aZ d n f c).star (.aJ bj (cZ d 4 6 1 0)))) (λp=>if p then 0 else 1) a0a ?_ ?_ ?_
 .exact Le.mk a0b
 .exact GA.le.refl _
 intro p;cases p with
 |false=>
  simp only[if_false,mz];unfold cZ;refine aa.seq (aa.gd dm 11 p' p' rfl rfl (gr rfl) ?_);refine aa.seq (aa.of (T:=ag a0a) ?_);refine ai.regionF [] [] [] hE.hT hE.hS hE.hm gy (aK ?_);show aa _ _ _ _ _ _ _ _;refine aa.eo rfl (aa.skip ?_);refine⟨_,rfl,?_⟩;show aa _ _ _ _ _ _ _ _;refine aa.block (aa.seq (aa.gd dm 11 p' p' rfl rfl (gr rfl) ?_));refine aa.yZ 22 [] [] [] (L:=[]) hE ab rfl rfl rfl func98 rfl p' ⟨_,_,rfl,rfl⟩ gy (λr R' hp=>?_);obtain⟨rfl,rfl⟩:=hp;refine⟨rfl,?_⟩;refine jt a0b ?_;refine⟨_,rfl,?_⟩;show aa _ _ _ _ _ _ _ _;refine aa.seq (aE ?_);refine gF ?_;refine aE ?_;refine aa.region ?_;refine fG 3 aw ?_;refine gE (ag a0a) (Ny (m:=m) m1 m0 p' p' p' p') func99 ?_;refine GL.nil ?_;exact⟨Z',Le.mk a0b,GA.le.refl _,p'⟩
 |true=>
  simp only[if_true];unfold cZ;refine aa.seq (aa.gd dm 11 p' p' rfl rfl (gr rfl) ?_);refine aa.seq (aa.of (T:=ag a0a) ?_);refine ai.regionF [] [] [] hE.hT hE.hS hE.hm gy (aK ?_);show aa _ _ _ _ _ _ _ _;refine aa.dz rfl (aa.exit ?_);refine⟨_,rfl,?_⟩;show aa _ _ _ _ _ _ _ _;have af:(91==dm)=false:=rfl;have ao:¬91=dm:=p';have ax:qG [(91,(⟨Z',.c [.ns .u8 D]⟩:cq))]=[(91,⟨Z',.c [.ns .u8 D]⟩)]:=rfl;refine a9 (A3 af ao ax) ?_;refine aa.ret ?_;exact dM.of ⟨bj,rfl,rfl⟩ (aO.mk a0b rfl)
section
variable {n:Nat}{en:dK}{pn:Nat->Option Nat}{R:GA}{σ:St}{ops:Array Oper}{K:St->GA->Prop}
theorem GL.H3{o1 o2:Oper}{rest:List Oper}{d1 d2 len:Nat}{parts:Array (Nat×Operand)}(zs:List Int)(h1:o1.op=.buildSlice 29 len parts)(a0:o1.guard=Y')(af:o1.dst=T' d1)(h2:o2.op=.convert 29 29 (.tmp d1))(a1:o2.guard=Y')(ay:o2.dst=T' d2)(ao:d1<n)(a6:d2<n)
 (hlen:len=zs.length) (a4:0<len) (a5:len<=1000) (a3:parts.toList=(zs.zipIdx 0).map λx=>(x.2,Operand.const (Value.int .u8 x.1)))
 (k:∀v,GL a0c n en pn ops rest K ((σ.live.put (T' d1) (.r v)).put (T' d2) (.r v)) (R.star (dE v zs))):GL a0c n en pn ops (o1::o2::rest) K σ R:=by
 intro κ β a w Q hn hg hC hQ;obtain⟨i5,j1,j2,j3,j4⟩:=AY;refine wpList_buildFlat a0 29 5 len parts h1 .u8 zs underlying29 (by rw[j1];simp[j3]) (by rw[j1];simp[j2]) hlen a4 (fC a5 p') a3 ?_;obtain⟨C,ab⟩:=nm ((zs.map (Value.int .u8)).toArray);have aw:C.size=len:=by rw[<-ab,hlen];simp
 have ax:C.toList=cM zs:=by rw[<-ab];simp[cM]
 rw[ab];obtain⟨v,hv⟩:∃v:Value,(Value.slice (T' ⟨w.heap.size,0,Y'⟩) len len)=v:=⟨_,rfl⟩;have e1:(a.put o1.dst (.slice (T' ⟨w.heap.size,0,Y'⟩) len len)).eval (.tmp d1)=.slice (T' ⟨w.heap.size,0,Y'⟩) len len:=by
  rw[af];have:=hC.sz;simp only[Act.eval,Act.put];simp[iW,this,hn,ao]
 have hc:=Lib.run_convert_bytes_const (P:=a0c) w 29 5 C len len underlying29 underlying5;rw[hv]at e1 hc|-;refine oR a1 (x:=v) (w':=w.alloc (.cells C 5 (C.size,C.size+1))) (by
  unfold execOp;simp only[h2,e1,cC,hc,cz,cJ]) ?_
 have r2:lE (w.alloc (.cells C 5 (C.size,C.size+1))) v zs:=.inr ⟨w.heap.size,len,C,(C.size,C.size+1),by rw[<-hv,hlen],World.alloc_heap_new w _,.inr f',f',by simp only[maxLen];omega,aw,by rw[ax];exact gG (by simp[cM])⟩;have r3:Below w.heap.size w (w.alloc (.cells C 5 (C.size,C.size+1))):=(iX _ _).alloc (aM _) _;have r4:∀k,v.ownBlock=T' k->w.heap.size<=k:=λk hk=>by rw[<-hv]at hk;cases hk;exact aM _
 generalize w.alloc (.cells C 5 (C.size,C.size+1))=w' at r2 r3;obtain⟨fp,g1,g2,g3,g4⟩:=hg.now hC;have hX:∀b,b<w.heap.size->XG κ β σ.ae b\/(fp b\/v.ownBlock=T' b)->XG κ β σ.ae b:=λb hb hx=>hx.elim id (λh=>h.elim (λh=>.inl (g2 b h)) (λe=>by have:=r4 b e;omega))
 obtain⟨a7,h1,h2,h3,h4⟩:=hg.call (w':=w') (R':=R.star (dE v zs)) (fp':=λb=>fp b\/v.ownBlock=T' b) hC g2 g3
  ⟨fp,λb=>v.ownBlock=T' b,λ_=>dr,λb hb e=>by have:=g4 b hb;have:=r4 b e;omega,R.loc r3.size (λb hb _=>r3.block b hb) hX g1,r2,λ_=>dr⟩
  (λb hb hx=>hx.elim id (λe=>by have:=r4 b e;omega)) ⟨r3.os,r3.tape,r3.output,r3.size,λb hb _=>r3.block b hb⟩
 refine k v a7 β _ _ Q (h1.trans hn) h2 ?_ hQ;rw[St.fh,St.eQ,St.fh,St.eQ,St.iD,St.gm,af,ay];exact(h3.put (v:=.r v) (λt ht=>by cases ht;rw[h1,hn];exact ao) (RI.r _)).put (v:=.r v) (λt ht=>by cases ht;rw[h1,hn];exact a6) (RI.r _)
end
def lJ:List Int:=[72,65,73,82,74,79,66,49]
def tu(f e a b m:Int):Nat->List Int
 |0=>lJ
 |1=>lJ++aI f 8
 |2=>lJ++aI f 8++aI (e+64) 8
 |3=>lJ++aI f 8++aI (e+64) 8++aI a 8
 |4=>lJ++aI f 8++aI (e+64) 8++aI a 8++aI b 8
 |_=>lJ++aI f 8++aI (e+64) 8++aI a 8++aI b 8++aI m 8
theorem Zm(f e a b m:Int)(k:Nat):(tu f e a b m k).length<=48:=by
 have h:lJ.length=8:=rfl;unfold tu;split<;>simp only[aV,cX,h]<;>decide
def oh(f e a b m:Int):List Int:=tu f e a b m 5
theorem wo(f e a b m:Int):(oh f e a b m).length=48:=by
 have h:lJ.length=8:=rfl;simp only[oh,tu,aV,cX,h]
def NT(f e a b m:Int):AV:=.agg [(f:Int),(e:Int),.r (.int .u64 a),.r (.int .u64 b),(m:Int)]
def JB(f e a b m:Int):Prop:=0<=f/\f<100/\-64<=e/\e<100/\0<=a/\a<18446744073709551616/\0<=b/\b<18446744073709551616/\0<=m/\m<65536
theorem UW(x0 x1 x2 x3 x4:Int):a0c.built 147 [(0,.int .u64 x0),(1,.int .u64 x1),(2,.int .u64 x2),(3,.int .u64 x3),(4,.int .u64 x4)]=T' #[.int .u64 x0,.int .u64 x1,.int .u64 x2,.int .u64 x3,.int .u64 x4]:=I'
theorem U0{f e a b m:Int}(h:JB f e a b m):aA a0c 132 [NT f e a b m] .cQ (λr R=>r=.ns .u8 (oh f e a b m)/\R=.cQ):=by
 have hE:=env dC;obtain⟨f0,f1,e0,e1,a0,a1,b0,b1,m0,m1⟩:=h;have wf:IntKind.u64.wrap f=f:=by rw[eP];omega
 have wm:IntKind.u64.wrap m=m:=by rw[eP];omega
 have we:IntKind.u64.wrap (e+64)=e+64:=by rw[eP];omega
 obtain⟨ab,af⟩:=nm (e+64);have ay:e- -64=ab:=f';rw[af]at we;have E0:0<=ab:=f';have E1:ab<18446744073709551616:=f';unfold NT;refine aA.sJ hE func132 ntmps132 results132 (λen a4=>?_);have ax:∀b,¬en.fp b:=a4;refine aE ?_;refine aa.bG ?_;refine GL.H3 lJ rfl rfl rfl rfl rfl rfl p' p' rfl p' p' rfl (λu=>?_);refine az 1 ?_;refine gN ?_;refine aa.bG ?_;refine fG 14 (A4 wf wm ay we) ?_;refine GL.val (.agg [.r (.int .u64 f),.r (.int .u64 ab),.r (.int .u64 a),.r (.int .u64 b),.r (.int .u64 m)]) rfl (λt ht=>by cases ht;decide) (λκ β a' w hn hg hC=>?_) ?_
 .have q0:=RI.aS (v:=.int .u64 f) (hC.rel 12)
  have q1:=RI.aS (v:=.int .u64 ab) (hC.rel 16);have q2:=RI.aS (v:=.int .u64 a) (hC.rel 18);have q3:=RI.aS (v:=.int .u64 b) (hC.rel 20);have q4:=RI.aS (v:=.int .u64 m) (hC.rel 23);refine⟨.agg #[.int .u64 f,.int .u64 ab,.int .u64 a,.int .u64 b,.int .u64 m],?_,?_⟩
  .have hb:=run_build (P:=a0c) w 147 #[(0,.int .u64 f),(1,.int .u64 ab),(2,.int .u64 a),(3,.int .u64 b),(4,.int .u64 m)] _ (UW f ab a b m)
   unfold execOp;simp only[lB,fX,kr,Act.eval,q0,q1,q2,q3,q4,cC,hb,cz,cJ]
  .refine RI.agg _ _ (λj=>#[Value.int .u64 f,.int .u64 ab,.int .u64 a,.int .u64 b,.int .u64 m].getD j undef) rfl (λj c hj=>?_) (λj c hj=>?_)
   .match j,hj with
    |0,hj=>rfl
    |1,hj=>rfl
    |2,hj=>rfl
    |3,hj=>rfl
    |4,hj=>rfl
   .match j,hj with
    |0,hj=>cases hj;exact RI.r _
    |1,hj=>cases hj;exact RI.r _
    |2,hj=>cases hj;exact RI.r _
    |3,hj=>cases hj;exact RI.r _
    |4,hj=>cases hj;exact RI.r _
 refine az 2 ?_;refine gN ?_;refine aa.seq (aE ?_);refine aa.block ?_;refine aa.loop (ι:={k:Nat // k<=5}×Value) (λp=>(⟨[(3,.r p.2),(25,.agg [.r (.int .u64 f),.r (.int .u64 ab),.r (.int .u64 a),.r (.int .u64 b),.r (.int .u64 m)]),(26,(p.1.1:Int))],[]⟩,GA.cQ.star (dE p.2 (tu f e a b m p.1.1)))) (λp=>5-p.1.1) (⟨0,dU _⟩,u) ?_ ?_ ?_
 .exact Le.mk a0b
 .exact GA.le.refl _
 rintro⟨⟨k,hk⟩,u⟩;dsimp only
 by_cases hlt:k<5
 .obtain⟨x,hx,x0,x1,hj⟩:∃x,[AV.r (.int .u64 f),.r (.int .u64 ab),.r (.int .u64 a),.r (.int .u64 b),.r (.int .u64 m)].getD k .any=.r (.int .u64 x)/\0<=x/\x<18446744073709551616/\tu f e a b m k++aI x 8=tu f e a b m (k+1):=by
   match k,hlt with
   |0,_=>exact⟨f,rfl,f',f',rfl⟩
   |1,_=>exact⟨ab,rfl,E0,E1,by rw[<-af];rfl⟩
   |2,_=>exact⟨a,rfl,a0,a1,rfl⟩
   |3,_=>exact⟨b,rfl,b0,b1,rfl⟩
   |4,_=>exact⟨m,rfl,f',f',rfl⟩
  have ao:=Zm f e a b m (k+1);rw[<-hj,aV,cX]at ao;obtain⟨Z,hZ⟩:=nm (tu f e a b m k);rw[hZ]at hj ao|-;have a3:(k:Int)<5:=f';refine a9 a3 ?_;refine aa.seq (gT ?_);refine aa.seq (aa.block ?_);refine a9 (A2 hx hlt) ?_;refine aE ?_;refine aa.block (aa.loop (ι:={k:Nat // k<=8}×Value) (λp=>(⟨[(3,.r p.2),(6,.r (.int .u64 x)),(25,.agg [.r (.int .u64 f),.r (.int .u64 ab),.r (.int .u64 a),.r (.int .u64 b),.r (.int .u64 m)]),(26,(k:Int)),(29,(p.1.1:Int))],[]⟩,GA.cQ.star (dE p.2 (Z++aI x p.1.1)))) (λp=>8-p.1.1) (⟨0,dU _⟩,u) ?_ ?_ ?_)
  .exact Le.mk a0b
  .have:aI x 0=[]:=rfl
   rw[this,jx];exact GA.le.refl _
  rintro⟨⟨i,hi⟩,u⟩;dsimp only
  by_cases hl8:i<8
  .have aw:(i:Int)<8:=f'
   have hs:IntKind.u8.wrap (x.fdiv (2^(8*i)))=x/256^i%256:=by rw[wrap_u8,lW _ (bo (cf _)),Ck];rfl
   obtain⟨q,hq⟩:=nm (x/256^i%256);rw[hq]at hs;have l:Z++aI x (i+1)=Z++aI x i++[q]:=by rw[yE,dH,hq]
   refine a9 aw ?_;refine aa.seq (gT ?_);refine aa.seq (aa.block ?_);refine aE ?_;refine aa.region ?_;refine fG 7 (A2 aw hs) ?_;refine GL.vM rfl rfl rfl p' rfl (.inr ⟨38,Z',rfl,rfl⟩) Nat.one_pos (by rw[aV,cX];show _+1<=_;omega) (λv'=>?_);refine az 1 ?_;refine gN ?_;refine aa.of (T:=ag a0a) ?_;refine aK ?_;exact⟨(⟨i+1,f'⟩,v'),Le.mk a0b,by rw[<-l];exact GA.le.refl _,N'⟩
  obtain rfl:i=8:=f';refine aE ?_;refine aa.seq (gX ?_);refine aa.of (T:=ag a0a) ?_;refine aK ?_;exact⟨(⟨k+1,f'⟩,u),Le.mk a0b,by rw[<-hj];exact GA.le.refl _,N'⟩
 obtain rfl:k=5:=f';refine aE ?_;refine aa.seq (gX ?_);refine aa.bG ?_;refine az 1 ?_;refine GL.ja (eZ.th (t:=42) (v:=u) ax rfl p') ?_;refine az 1 ?_;refine GL.nil ?_;refine aa.ret ?_;exact pG
def kU(l:List Bool)(M:Nat):Nat->List Int
 |0=>List.replicate M 0
 |k+1=>if l.getD k a0a=Z' then(kU l M k).set (k/8) (bits .or .u8 ((kU l M k).getD (k/8) 0) (2^(k%8)))else kU l M k
theorem CR(l:List Bool)(M:Nat):∀k,(kU l M k).length=M
 |0=>pe ..
 |k+1=>by
  unfold kU;split
  .rw[jC,CR l M k]
  .exact CR l M k
def jH(l:List Bool):List Int:=kU l ((l.length+7)/8) l.length
def ij(b:Bool):AV:=.r (.bool b)
def sL(cs:List AV):List Bool:=cs.map λc=>match c with|.r (.bool b)=>b|_=>a0a
theorem xW(l:List Bool):sL (l.map ij)=l:=by
 induction l with
 |nil=>rfl
 |cons b l ih=>simp only[fX,sL]at ih|-;rw[ih];rfl
@[push_cast] def adQ:Sp where
 kind:=0
 pre
  |[.sl 1 n cs]=>∃l:List Bool,cs=l.map ij/\n=l.length/\l.length<=10/\0<l.length
  |_=>False
 res
  |[.sl 1 _ cs]=>.ns .u8 (jH (sL cs))
  |_=>.any
theorem afD(l:List Bool){k:Nat}(hk:k<l.length):List.take 1 (List.drop k (l.map ij))=[.r (.bool (l.getD k a0a))]:=by
 rw[sj (by simpa using hk),fy,eD,cF,ed hk];simp[ij]
theorem TV{x:Int}(h0:0<=x)(h1:x<128):bits .and .i64 x 7=x%8:=by
 obtain⟨n,rfl⟩:=fI h0;have h:∀n:Nat,n<128->bits .and .i64 (n:Int) 7=(n:Int)%8:=M';exact h n f'
theorem agF(r:Nat)(h:r<8):IntKind.u8.wrap (1*2^r)=2^r:=by
 have h':∀r:Nat,r<8->IntKind.u8.wrap (1*2^r)=2^r:=M';exact h' r h
theorem Nh:aj a0c 102 adQ:=by
 refine sz λargs hp=>?_
 split at hp;rotate_left;cases hp;rename_i n cs;obtain⟨l,rfl,rfl,hl,a5⟩:=hp;rw[xW];have hE:=env dC;obtain⟨CS,ab⟩:=nm (l.map ij);have a1:CS.length=l.length:=by rw[<-ab,fJ]
 have ax:∀k,k<l.length->List.take 1 (List.drop k CS)=[.r (.bool (l.getD k a0a))]:=λk hk=>by rw[<-ab];exact afD l hk
 have a3:jH l=kU l ((l.length+7)/8) l.length:=rfl;rw[ab,a3];obtain⟨N,hN⟩:=nm (l.length);obtain⟨M,hM⟩:=nm ((N+7)/8);rw[hN]at hl a5 a1 ax|-;rw[hM];have ay:((N:Int)+7)/8=(M:Int):=by rw[<-hM];omega
 have bc:1<=M:=f';have bd:M<=2:=f';have af:=CR l M;refine aB func102 ntmps102 ?_;refine aT ?_;refine gl (A2 ay (show(M:Int)<=1000 from f')) ?_;refine ai.iG (ι:=Unit) (λ_=>⟨[(3,.os 10 1 0 M)],[(10,⟨Z',.n .u8 (kU l M N)⟩)]⟩) ?_ (λ_=>?_)
 .refine ig ?_
  refine ai.block ?_;refine ai.loop (ι:={k:Nat // k<=N}) (λk=>⟨[(3,.os 10 1 0 M),(12,(N:Int)),(11,.sl 1 N CS),(13,(k.1:Int))],[(10,⟨Z',.n .u8 (kU l M k.1)⟩)]⟩) (λk=>N-k.1) ⟨0,dU _⟩ ?_ ?_
  .have e0:kU l M 0=List.replicate M 0:=rfl
   exact Le.mk e0
  rintro⟨k,hk⟩;dsimp only
  by_cases hkN:k=N
  .subst hkN
   refine an (show¬(k:Int)<k from f') ?_;exact⟨(),Le.mk a0b⟩
  have a4:k<N:=f';have ht:=ax k a4;have ao:=af k;have hs:kU l M (k+1)=if l.getD k a0a=Z' then(kU l M k).set (k/8) (bits .or .u8 ((kU l M k).getD (k/8) 0) (2^(k%8)))else kU l M k:=rfl
  obtain⟨Y,hY⟩:=nm (kU l M k);obtain⟨Z,hZ⟩:=nm (kU l M (k+1));rw[hY]at ao hs|-;rw[hZ]at hs;have aw:(k:Int)<N:=f';cases hb:l.getD k a0a with
  |false=>
   rw[hb,aq p']at hs;rw[hb]at ht;refine an (A2 aw ht) ?_;exact⟨⟨k+1,f'⟩,Le.mk (hZ.trans hs),N'⟩
  |true=>
   rw[hb,au rfl]at hs;rw[hb]at ht;obtain⟨q,hq⟩:=nm (k/8);obtain⟨r,hr⟩:=nm (k%8);rw[hq,hr]at hs;have a6:(k:Int)/8=(q:Int):=f';have a7:q<M:=f';have bb:bits .and .i64 (k:Int) 7=(r:Int):=by rw[TV f' f'];omega
   refine gl aw ?_;refine ai.seq (ai.eo (by rfl) (ai.skip ?_));refine ai.seq (ai.block (ai.seq ?_));refine cy ht ?_;refine ig ?_;refine ai.eo (by rfl) ?_;refine ai.regionF [] [] [] hE.hT hE.hS hE.hm gy (an (A4 a6 bb ao a7) ?_);refine aK ?_;have hw:IntKind.u8.wrap (1*2^r)=2^r:=agF r f';exact⟨⟨k+1,f'⟩,Le.mk (A2 (hZ.trans hs) hw),N'⟩
 have a0:=af N;refine an a0 ?_;exact aO.mk a0b rfl
section
open Go.Shelf Go.Lib
attribute [local go_sem] Oper.semAt_some
theorem YC(base:Option Addr)(n:Nat)(h0:0<n)(h1:n<=1000000)(w:World):Calls a0c 154 #[.slice base 0 0,.int .i64 n] w λe w'=>∃v,e=.returned v/\lE w' v []/\Below w.heap.size w w'/\(∀k,v.ownBlock=T' k->w.heap.size<=k):=by
 have mixed:a0c.follows .mixedOrders=true:=I';obtain⟨i5,j1,j2,j3,j4⟩:=AY;have e1:¬((n:Int)<0):=f';have e3:wrap64 ((n:Int)-0)=(n:Int):=by unfold wrap64;omega
 have e4:(n:Int)>0:=f';have hold:(Builtin.firstCells i5.size 0 (.slice base 0 0)).run a0c w.drew=.ok (#[]:Array Value) w.drew:=by
  cases base with
  |none=>exact run_firstCells_none w.drew i5.size 0 0 0
  |some a=>exact run_firstCells_some w.drew i5.size 0 a 0 0 [] J' (λj v hj=>by simp at hj)
 have aw:∀ty,(Builtin.append_ #[29,3] ty #[.slice base 0 0,.int .i64 n]).run a0c w=.ok (.slice (T' ⟨w.heap.size,0,Y'⟩) n (grownCap w n 0 5)) (w.drew.alloc (.cells (#[]++Builtin.zeroCells (Value.int .u8 0).cells n++Builtin.zeroCells (Value.int .u8 0).cells (grownCap w n 0 5-n)) 5)):=λty=>by
  have h:=Lib.run_append_grow_zeros w 29 3 ty 5 i5 (.int .u8 0) .i64 .i64 underlying29 underlying3 j1 j2 base 0 0 [] (by simpa using hold) n h0 (by rw[j3];decide) f' f' (by rw[j4];omega) (growslice_fits f' (by rw[j4];omega));simpa using h
 have eJ:=grownCap_ge w n 0 5;have af:=grownCap_le_maxLen w n 0 5 (by simp only[maxLen];omega);obtain⟨G,hG⟩:=nm (grownCap w n 0 5);rw[hG]at aw eJ af;have a0:G<=9223372036854775807:=by unfold maxLen at af;omega
 obtain⟨C,hC⟩:∃C:Array Value,#[]++Builtin.zeroCells (Value.int .u8 0).cells n++Builtin.zeroCells (Value.int .u8 0).cells (G-n)=C:=⟨_,rfl⟩;have ax:C.size=G:=by rw[<-hC];simp[Builtin.zeroCells,Value.cells];omega
 rw[hC]at aw;clear hold hG hC
 go_enter func154,ntmps154
 rcases base with _|⟨ab,ao,ay⟩
 all_goals(go_wp2_with (at_builtin;refine Lib.wpList_append_run _ rfl _ _ _ _ rfl _ _ rfl rfl _ _ (aw _) ?_))
 all_goals(go_ret;exact⟨_,rfl,.inr ⟨w.heap.size,G,C,(0,0),rfl,World.alloc_heap_new w.drew _,.inl rfl,dU _,af,ax,rfl⟩,⟨rfl,rfl,rfl,J',λj hj=>xn w.drew _ _ hj⟩,λk hk=>by cases hk;exact aM _⟩)
theorem YB{n:Nat}(h0:0<n)(h1:n<=1000000):aA a0c 154 [.r (.slice Y' 0 0),(n:Int)] .cQ (λr R=>∃v,r=.r v/\R=dE v []):=by
 intro w X fp vs hX ab hr hl ha;obtain⟨v0,v1,rfl⟩:=CM hl;obtain rfl:=mG (j:=0) ha rfl rfl;obtain rfl:=mG (j:=1) ha rfl rfl;refine(YC Y' n h0 h1 w).mono λe w'⟨v,q1,q2,q3,q4⟩=>⟨v,.r v,dE v [],λk=>v.ownBlock=T' k,q1,⟨v,rfl,rfl⟩,⟨q2,λ_=>dr⟩,RI.r _,λb hb e=>by have:=q4 b e;omega,⟨q3.os,q3.tape,q3.output,q3.size,λb hb _=>q3.block b hb⟩⟩
end
section
variable {P:Program}{n:Nat}{en:dK}{pn:Nat->Option Nat}{R:GA}{σ:St}{ops:Array Oper}{K:St->GA->Prop}
def Xf(F:Nat->AV):Operand->AV
 |.tmp t=>F t
 |.const v=>.r v
 |x=>ev F x
theorem GL.U9{o:Oper}{rest:List Oper}{f:FuncId}{fn:Func}{c:Code}{args:Array Operand}{ts:Array TypeId}{args':List AV}{Rc:GA}{post:AV->GA->Prop}(Fr:GA)(hG:aA P f args' Rc post)(hR:R.le (Fr.star Rc))(hop:o.op=.call ⟨.value (.func f),args,ts⟩)(ao:o.guard=Y')
 (hf:P.funcs[f]?=T' fn) (hb:fn.body=T' c) (ax:(fn.name== "runtime.NumGoroutine")=a0a) (hargs:args.toList.map (Xf σ.get)=args') (aw:args'.all AV.im=Z') (hd:∀t,o.dst=T' t->t<n)
 (k:∀r R',post r R'->r.im=Z'/\GL P n en pn ops rest K (σ.live.put o.dst r) (Fr.star R')):GL P n en pn ops (o::rest) K σ R:=by
 have af:=hG.n9 Fr hR;intro κ β a w Q hn hg hC hQ;subst hargs;obtain⟨fp,g1,g2,g3,g4⟩:=hg.now hC;refine Sj hop ao hf hb ax ?_;refine(af w (XG κ β σ.ae) fp (args.map a.eval) (λb hb=>hC.qV hb) (λb hb=>.inl (g2 b hb)) g1 J' (λj c hj=>?_)).mono λe w'⟨v,r,R',fp',k1,k2,k3,k4,k5,k6⟩=>?_
 .rw[gv]at hj
  cases hx:args.toList[j]? with
  |none=>rw[hx]at hj;cases hj
  |some x=>
   rw[hx]at hj;simp only[ft,aC]at hj;have ab:c.im=true:=fq.1 aw c (kL (by rw[gv,hx];exact fV T' hj));refine⟨a.eval x,by simp only[Fj];rw[<-zE,hx];rfl,?_⟩;cases x with
   |const v=>subst hj;exact RI.r _
   |tmp t=>subst hj;exact(hC.ev (.tmp t)).ri ab
   |global g=>subst hj;exact(hC.ev (.global g)).ri ab
   |func g=>subst hj;exact(hC.ev (.func g)).ri ab
 .obtain⟨ay,h1,h2,h3,h4⟩:=hg.call hC g2 g3 k3 k5 k6
  obtain⟨R1,p1,rfl⟩:=k2;obtain⟨m1,m2⟩:=k r R1 p1;refine⟨v,k1,m2 ay β _ w' Q (h1.trans hn) h2 ?_ hQ⟩;rw[St.fh,St.eQ,St.iD,St.gm];refine h3.put (λt ht=>by rw[h1,hn];exact hd t ht) (RV.of m1 (k4.cW (dZ.refl _ _) (λb _ hb=>h4 b hb)))
end
def GD(a b c:List Int):Nat->List Int
 |0=>[]
 |1=>a
 |2=>a++b
 |_=>a++b++c
@[push_cast] def adb:Sp where
 kind:=0
 pre
  |[.sl 1 3 [.ns .u8 a,.ns .u8 b,.ns .u8 c]]=>0<a.length/\0<b.length/\0<c.length/\a.length<=1000/\b.length<=1000/\c.length<=1000
  |_=>False
 res
  |[.sl 1 3 [.ns .u8 a,.ns .u8 b,.ns .u8 c]]=>.ns .u8 (a++b++c)
  |_=>.any
theorem Vx{a b c:List Int}(ha:0<a.length)(hb:0<b.length)(hc:0<c.length)(aw:a.length<=1000)(ax:b.length<=1000)(ay:c.length<=1000):
 aA a0c 131 [.sl 1 3 [.ns .u8 a,.ns .u8 b,.ns .u8 c]] .cQ (λr R=>r=.ns .u8 (a++b++c)/\R=.cQ):=by
 have hE:=env dC;obtain⟨A,hA⟩:=nm (a.length);obtain⟨B,hB⟩:=nm (b.length);obtain⟨C,hC⟩:=nm (c.length);rw[hA]at ha aw;rw[hB]at hb ax;rw[hC]at hc ay;have ao:∀k,(GD a b c k).length<=A+B+C:=by
  intro k;unfold GD;split<;>simp only[aV,kK,hA,hB,hC]<;>omega
 refine aA.sJ hE func131 ntmps131 results131 (λen a1=>?_);have a0:∀b,¬en.fp b:=a1;refine aE ?_;refine aE ?_;refine aa.seq (aE ?_);refine aa.block ?_;refine aa.loop (ι:={k:Nat // k<=3}) (λk=>(⟨[(0,.sl 1 3 [.ns .u8 a,.ns .u8 b,.ns .u8 c]),(9,.sl 1 3 [.ns .u8 a,.ns .u8 b,.ns .u8 c]),(10,(3:Int)),(11,(k.1:Int)),(3,(match k.1 with|0=>0|1=>(A:Int)|2=>(A:Int)+B|_=>(A:Int)+B+C:Int))],[]⟩,.cQ)) (λk=>3-k.1) ⟨0,dU _⟩ ?_ ?_ ?_
 .exact Le.mk a0b
 .exact GA.le.refl _
 rintro⟨k,hk⟩;dsimp only;have af:k=0\/k=1\/k=2\/k=3:=f';have ab:¬(A:Int)<0/\¬(A:Int)+B<0/\¬(A:Int)+B+C<0:=f';rcases af with rfl|rfl|rfl|rfl
 .refine aa.of (T:=ag a0a) ?_
  refine an (A6 hA hB hC ab.1 ab.2.1 ab.2.2) ?_;exact⟨⟨1,p'⟩,Le.mk a0b,GA.le.refl _,p'⟩
 .refine aa.of (T:=ag a0a) ?_
  refine an (A6 hA hB hC ab.1 ab.2.1 ab.2.2) ?_;exact⟨⟨2,p'⟩,Le.mk a0b,GA.le.refl _,p'⟩
 .refine aa.of (T:=ag a0a) ?_
  refine an (A6 hA hB hC ab.1 ab.2.1 ab.2.2) ?_;exact⟨⟨3,p'⟩,Le.mk a0b,GA.le.refl _,p'⟩
 refine aE ?_;refine aa.seq (gX ?_);refine aa.bG ?_;refine az 1 ?_;refine GL.le (GA.vU _) ?_;refine GL.U9 .cQ (YB (n:=A+B+C) f' f') (GA.le.refl _) rfl rfl func154 rfl p' rfl rfl (λt ht=>by cases ht;decide) (λr R' hp=>?_);obtain⟨v,rfl,rfl⟩:=hp;refine⟨rfl,?_⟩;refine az 1 ?_;refine gN ?_;refine aa.seq (aE ?_);refine aa.block ?_;refine aa.loop (ι:={k:Nat // k<=3}×Value) (λk=>(⟨[(25,.sl 1 3 [.ns .u8 a,.ns .u8 b,.ns .u8 c]),(26,(3:Int)),(27,(k.1.1:Int)),(6,.r k.2)],[]⟩,GA.cQ.star (dE k.2 (GD a b c k.1.1)))) (λk=>3-k.1.1) (⟨0,dU _⟩,v) ?_ ?_ ?_
 .exact Le.mk a0b
 .exact GA.le.refl _
 rintro⟨⟨k,hk⟩,u⟩;dsimp only;have af:k=0\/k=1\/k=2\/k=3:=f';rcases af with rfl|rfl|rfl|rfl
 .refine aE ?_
  refine aa.seq (gT ?_);refine aa.seq (aa.block ?_);refine aE ?_;refine aa.region ?_;refine az 2 ?_;refine GL.vM (ys:=a) rfl rfl rfl p' rfl (.inl rfl) f' (by have:=ao 0;omega) (λv'=>?_);refine az 1 ?_;refine gN ?_;refine aa.of (T:=ag a0a) ?_;refine aK ?_;exact⟨(⟨1,p'⟩,v'),Le.mk a0b,GA.le.refl _,N'⟩
 .refine aE ?_
  refine aa.seq (gT ?_);refine aa.seq (aa.block ?_);refine aE ?_;refine aa.region ?_;refine az 2 ?_;refine GL.vM (ys:=b) rfl rfl rfl p' rfl (.inl rfl) f' (by have:=ao 1;omega) (λv'=>?_);refine az 1 ?_;refine gN ?_;refine aa.of (T:=ag a0a) ?_;refine aK ?_;exact⟨(⟨2,p'⟩,v'),Le.mk a0b,GA.le.refl _,N'⟩
 .refine aE ?_
  refine aa.seq (gT ?_);refine aa.seq (aa.block ?_);refine aE ?_;refine aa.region ?_;refine az 2 ?_;refine GL.vM (ys:=c) rfl rfl rfl p' rfl (.inl rfl) f' (by have:=ao 2;omega) (λv'=>?_);refine az 1 ?_;refine gN ?_;refine aa.of (T:=ag a0a) ?_;refine aK ?_;exact⟨(⟨3,p'⟩,v'),Le.mk a0b,GA.le.refl _,N'⟩
 refine aE ?_;refine aa.seq (gX ?_);refine aa.bG ?_;refine az 1 ?_;refine GL.ja (eZ.th (t:=35) (v:=u) a0 rfl p') ?_;refine az 1 ?_;refine GL.nil ?_;refine aa.ret ?_;exact pG
theorem Vy:aj a0c 131 adb:=by
 refine sz λargs hp=>?_
 split at hp;rotate_left;cases hp;obtain⟨h1,h2,h3,h4,h5,h6⟩:=hp;exact dh.wU func131 rfl p' ((Vx h1 h2 h3 h4 h5 h6).le (GA.le.refl _) (λr R' h=>⟨_,GA.le.refl _,h.1⟩))
@[push_cast] def ad3:Sp:=zg (λF E A B M=>JB F E A B M) (λF E A B M=>.ns .u8 (oh F E A B M))
theorem L4:aj a0c 132 ad3:=by
 refine aj.J λF E A B M h=>?_
 exact dh.wU func132 rfl p' ((U0 h).le (GA.le.refl _) (λr R' h=>⟨_,GA.le.refl _,h.1⟩))
def nH(x:Int):List Bool:=[bits .and .u8 (x/1) 1==1,bits .and .u8 (x/2) 1==1,bits .and .u8 (x/4) 1==1,bits .and .u8 (x/8) 1==1]
@[push_cast] def aeY:Sp where
 kind:=0
 pre
  |[.ns .u8 [x],.r (.int .i64 4)]=>0<=x/\x<256
  |_=>False
 res
  |[.ns .u8 [x],.r (.int .i64 4)]=>.sl 1 4 ((nH x).map ij)
  |_=>.any
theorem RK:aj a0c 97 aeY:=by
 refine sz λargs hp=>?_
 split at hp;rotate_left;cases hp;rename_i x;have hE:=env dC;have ar:(bits .and .i64 0 7=0/\bits .and .i64 1 7=1)/\(bits .and .i64 2 7=2/\bits .and .i64 3 7=3):=p';refine aB func97 ntmps97 ?_;refine aT ?_;refine ig ?_;obtain⟨tc,ab⟩:∃tc:Nat->List AV,tc=λk=>match k with
  |0=>[a0a,a0a,a0a,a0a]
  |1=>[(bits .and .u8 (x/1) 1==1:Bool),a0a,a0a,a0a]
  |2=>[(bits .and .u8 (x/1) 1==1:Bool),(bits .and .u8 (x/2) 1==1:Bool),a0a,a0a]
  |3=>[(bits .and .u8 (x/1) 1==1:Bool),(bits .and .u8 (x/2) 1==1:Bool),(bits .and .u8 (x/4) 1==1:Bool),a0a]
  |_=>[(bits .and .u8 (x/1) 1==1:Bool),(bits .and .u8 (x/2) 1==1:Bool),(bits .and .u8 (x/4) 1==1:Bool),(bits .and .u8 (x/8) 1==1:Bool)]:=⟨_,rfl⟩
 have c0:tc 0=[.r (.bool a0a),.r (.bool a0a),.r (.bool a0a),.r (.bool a0a)]:=by simp only[ab]
 have c1:tc 1=[.r (.bool (bits .and .u8 (x/1) 1==1)),.r (.bool a0a),.r (.bool a0a),.r (.bool a0a)]:=by simp only[ab]
 have c2:tc 2=[.r (.bool (bits .and .u8 (x/1) 1==1)),.r (.bool (bits .and .u8 (x/2) 1==1)),.r (.bool a0a),.r (.bool a0a)]:=by simp only[ab]
 have c3:tc 3=[.r (.bool (bits .and .u8 (x/1) 1==1)),.r (.bool (bits .and .u8 (x/2) 1==1)),.r (.bool (bits .and .u8 (x/4) 1==1)),.r (.bool a0a)]:=by simp only[ab]
 have c4:tc 4=[.r (.bool (bits .and .u8 (x/1) 1==1)),.r (.bool (bits .and .u8 (x/2) 1==1)),.r (.bool (bits .and .u8 (x/4) 1==1)),.r (.bool (bits .and .u8 (x/8) 1==1))]:=by simp only[ab]
 clear ab;refine ai.seq (ai.seq ?_);refine aT ?_;refine ai.block ?_;refine ai.loop (ι:={k:Nat // k<=4}) (λk=>⟨[(0,.ns .u8 [x]),(5,.os 8 1 0 4),(10,(4:Int)),(11,(k.1:Int))],[(8,⟨Z',.c (tc k.1)⟩)]⟩) (λk=>4-k.1) ⟨0,dU _⟩ ?_ ?_
 .have hr:List.replicate 4 (AV.r (.bool a0a))=[.r (.bool a0a),.r (.bool a0a),.r (.bool a0a),.r (.bool a0a)]:=rfl
  exact Le.mk (A2 c0 hr)
 rintro⟨k,hk⟩;dsimp only;have af:k=0\/k=1\/k=2\/k=3\/k=4:=f';rcases af with rfl|rfl|rfl|rfl|rfl
 .rw[c0]
  refine an ar ?_;exact⟨⟨1,p'⟩,Le.mk c1,p'⟩
 .rw[c1]
  refine an ar ?_;exact⟨⟨2,p'⟩,Le.mk c2,p'⟩
 .rw[c2]
  refine an ar ?_;exact⟨⟨3,p'⟩,Le.mk c3,p'⟩
 .rw[c3]
  refine an ar ?_;exact⟨⟨4,p'⟩,Le.mk c4,p'⟩
 rw[c4];refine aK ?_;exact aO.mk a0b rfl
@[push_cast] def Rs:Sp where
 kind:=0
 pre
  |[.vp [.r (.int .i64 F),.r (.int .i64 E),.r (.int .u64 A),.r (.int .u64 B),.r (.int .i64 M),.r _,.sl 1 u cs,.sl 1 t ds,.r _,.r _,.r _,.r _,.r _]]=>JB F E A B M/\(∃l:List Bool,cs=l.map ij/\u=l.length/\l.length<=10/\0<l.length)/\(∃l:List Bool,ds=l.map ij/\t=l.length/\l.length<=10/\0<l.length)
  |_=>False
 res
  |[.vp [.r (.int .i64 F),.r (.int .i64 E),.r (.int .u64 A),.r (.int .u64 B),.r (.int .i64 M),.r _,.sl 1 _ cs,.sl 1 _ ds,.r _,.r _,.r _,.r _,.r _]]=>.ns .u8 (oh F E A B M++jH (sL cs)++jH (sL ds))
  |_=>.any
theorem CT(l:List Bool):(jH l).length=(l.length+7)/8:=CR _ _ _
theorem afr:aj a0c 96 Rs:=by
 refine sz λargs hp=>?_
 split at hp;rotate_left;cases hp;rename_i F E A B M v5 u cs t ds v8 v9 v10 v11 ax;obtain⟨hJ,hu,ht⟩:=hp;have hE:=iZ L4 Nh Vy;have ab:=wo F E A B M;have ao:0<(jH (sL cs)).length/\(jH (sL cs)).length<=1000:=by
  obtain⟨l,rfl,_,h1,h2⟩:=hu;rw[xW,CT];omega
 have af:0<(jH (sL ds)).length/\(jH (sL ds)).length<=1000:=by
  obtain⟨l,rfl,_,h1,h2⟩:=ht;rw[xW,CT];omega
 have og:cs.length=u:=by obtain⟨l,rfl,rfl,_⟩:=hu;exact fJ ..
 have aw:ds.length=t:=by obtain⟨l,rfl,rfl,_⟩:=ht;exact fJ ..
 refine aB func96 ntmps96 ?_;refine aT ?_;refine aG [] [] [] (A8 hJ hu ht ab ao af og aw) ?_;exact aO.mk a0b rfl
section
variable {dead pub:Bool}{gen:Int}{l1 l2:List Bool}{bf d g1 g2:Nat}{lg pb:Value}
def cG(g:Nat)(l:List Bool):GA:=GA.obj g (.cells (l.map Value.bool).toArray 4 (0,0))
def bI(g n:Nat):Value:=.slice (T' ⟨g,0,Y'⟩) n n
structure JN where
 F:Int
 E:Int
 A:Int
 B:Int
 M:Int
def JN.cs(j:JN):List AV:=[.r (.int .i64 j.F),.r (.int .i64 j.E),.r (.int .u64 j.A),.r (.int .u64 j.B),.r (.int .i64 j.M)]
def JN.ok(j:JN):Prop:=JB j.F j.E j.A j.B j.M
def JN.bytes(j:JN):List Int:=oh j.F j.E j.A j.B j.M
def eG(j:JN)(d:Nat)(v1 v2:Value)(pub dead:Bool)(gen:Int)(lg pb:Value):List AV:=
 [.r (.int .i64 j.F),.r (.int .i64 j.E),.r (.int .u64 j.A),.r (.int .u64 j.B),.r (.int .i64 j.M),d,.r v1,.r v2,pub,dead,(gen:Int),.r lg,.r pb]
def AL(j:JN)(d:Nat)(l1 l2:List Bool)(pub dead:Bool)(gen:Int)(lg pb:Value):List AV:=
 [.r (.int .i64 j.F),.r (.int .i64 j.E),.r (.int .u64 j.A),.r (.int .u64 j.B),.r (.int .i64 j.M),d,.sl 1 l1.length (l1.map ij),.sl 1 l2.length (l2.map ij),pub,dead,(gen:Int),.r lg,.r pb]
theorem Qy{w:World}{g:Nat}{l:List Bool}{fp X X':Nat->Prop}(h:(cG g l).rel w fp X)(hX:¬X' g):RI w X' (.sl 1 l.length (l.map ij)) (bI g l.length):=by
 obtain⟨h1,h2⟩:=h;refine RI.sl 1 l.length (l.map ij) _ g 0 l.length (λj=>.bool (l.getD j a0a)) (aM _) J' (λ_=>⟨rfl,hX⟩) (λj c hj=>?_) (λj c hj=>?_)
 .have ab:j<l.length:=by have:=(iu.1 hj).1;simpa using this
  rw[du,cell_of_row w g j _ _ _ h2];simp[ab]
 .have ab:j<l.length:=by have:=(iu.1 hj).1;simpa using this
  simp only[gv,ed ab,ft,aC]at hj;subst hj;simp only[cF,ed ab,rf];exact RI.r _
theorem Xu{j:JN}(w:World)(fp X X':Nat->Prop)(h:(((cG g1 l1).star (cG g2 l2)).star (.aJ bf (eG j d (bI g1 l1.length) (bI g2 l2.length) pub dead gen lg pb))).rel w fp X)(hX:∀c,X' c->¬fp c):RI w X' (.vp (AL j d l1 l2 pub dead gen lg pb)) (.pointer (T' ⟨bf,0,Y'⟩)):=by
 obtain⟨f,g,h1,h2,⟨f1,f2,k1,k2,k3,k4⟩,m1,A,e,m2,m3,m4⟩:=h;have af:¬X' bf:=λhx=>hX bf hx ((h1 bf).2 (.inr ((m1 bf).2 rfl)))
 have ao:¬X' g1:=λhx=>hX g1 hx ((h1 g1).2 (.inl ((k1 g1).2 (.inl ((k3.1 g1).2 rfl)))))
 have aw:¬X' g2:=λhx=>hX g2 hx ((h1 g2).2 (.inl ((k1 g2).2 (.inr ((k4.1 g2).2 rfl)))))
 have ab:∀(i:Nat)(v:Value),(eG j d (bI g1 l1.length) (bI g2 l2.length) pub dead gen lg pb)[i]?=T' (.r v)->A[i]?=T' v:=λi v hi=>by
  obtain⟨u,q1,q2⟩:=m4 i _ hi;rw[q1,RI.aS q2]
 have r1:=Qy (X':=X') k3 ao;have r2:=Qy (X':=X') k4 aw;refine RI.vp (AL j d l1 l2 pub dead gen lg pb) bf 0 (λi=>A.getD i undef) (λ_=>af) (λi c hi=>?_) (λi c hi=>?_)
 .have ax:i<13:=by have:=(iu.1 hi).1;simpa[AL]using this
  have ay:i<A.size:=da ax (by simpa[eG]using m3);rw[du,cell_of_row w bf i _ _ _ m2];simp[ay]
 .have eJ:∀v,A[i]?=T' v->A.getD i undef=v:=λv hv=>by simp[iW,hv]
  match i,hi with
  |0,hi=>cases hi;rw[eJ _ (ab 0 _ rfl)];exact RI.r _
  |1,hi=>cases hi;rw[eJ _ (ab 1 _ rfl)];exact RI.r _
  |2,hi=>cases hi;rw[eJ _ (ab 2 _ rfl)];exact RI.r _
  |3,hi=>cases hi;rw[eJ _ (ab 3 _ rfl)];exact RI.r _
  |4,hi=>cases hi;rw[eJ _ (ab 4 _ rfl)];exact RI.r _
  |5,hi=>cases hi;rw[eJ _ (ab 5 _ rfl)];exact RI.r _
  |6,hi=>cases hi;rw[eJ _ (ab 6 _ rfl)];exact r1
  |7,hi=>cases hi;rw[eJ _ (ab 7 _ rfl)];exact r2
  |8,hi=>cases hi;rw[eJ _ (ab 8 _ rfl)];exact RI.r _
  |9,hi=>cases hi;rw[eJ _ (ab 9 _ rfl)];exact RI.r _
  |10,hi=>cases hi;rw[eJ _ (ab 10 _ rfl)];exact RI.r _
  |11,hi=>cases hi;rw[eJ _ (ab 11 _ rfl)];exact RI.r _
  |12,hi=>cases hi;rw[eJ _ (ab 12 _ rfl)];exact RI.r _
theorem Dg(b:Nat)(n:Int)(f:Int->List Int)(c:Nat):(aZ b n f c).free:=λ_ _ _ _ h=>h
def lP(j:JN)(l1 l2:List Bool):List Int:=j.bytes++jH l1++jH l2
def vW(j:JN)(d bf g1 g2:Nat)(l1 l2:List Bool)(n:Int)(f:Int->List Int)(c:Nat)(pub dead:Bool)(gen:Int)(lg pb:Value):GA:=
 (((cG g1 l1).star (cG g2 l2)).star (aZ d n f c)).star (.aJ bf (eG j d (bI g1 l1.length) (bI g2 l2.length) pub dead gen lg pb))
theorem aa0{j:JN}{n:Int}{f:Int->List Int}{c:Nat}(hn:6<=n)(ab:n<=4096)(hc:c<1000000)(a3:cP (((f 0).drop 4).take 8)=0)(a4:cP (((f 2).drop 4).take 8)=0)(hf:∀k,(f k).length=512)(hB:∀k,B8 (f k))(hj:j.ok)(h1:0<l1.length)(ax:l1.length<=10)(h2:0<l2.length)(ay:l2.length<=10)(hS:B8 (lP j l1 l2)):
 aA a0c 60 [bf] (vW j d bf g1 g2 l1 l2 n f c pub dead gen lg pb) (λr R=>r=.r (.int .i64 0)/\R=vW j d bf g1 g2 l1 l2 n (mP f (lP j l1 l2)) 0 pub dead 1 lg pb):=by
 have hE:=di afr;have ao:((0:Int)!=0)=false:=rfl;have aw:((0:Int)==0)=true:=rfl;refine aA.le (R:=vW j d bf g1 g2 l1 l2 n f c pub dead gen lg pb) (post:=λr R=>r=.r (.int .i64 0)/\R=(aZ d n (mP f (lP j l1 l2)) 0).star (((cG g1 l1).star (cG g2 l2)).star (.aJ bf (eG j d (bI g1 l1.length) (bI g2 l2.length) pub dead 1 lg pb)))) ?_ (GA.le.refl _) (λr R⟨q1,q2⟩=>⟨_,by rw[q2];exact(GA.Ag _ _ _).trans (GA.mono (GA.comm _ _) (GA.le.refl _)),q1,rfl⟩);unfold vW eG;refine aA.body hE func60 ntmps60 results60 (λen=>?_);refine aE ?_;refine aa.seq (aa.gd dm 0 p' p' rfl rfl (gr rfl) ?_);refine aa.region ?_;refine az 4 ?_;refine sZ (ag a0a) ((cG g1 l1).star (cG g2 l2)) (Z8 hn ab f' a3 a4 hf hB) (GA.le.refl _) func68 ?_;refine az 7 ?_;refine GL.nil ?_;refine⟨_,rfl,?_⟩;show aa _ _ _ _ _ _ _ _;refine aa.seq (a9 ao ?_);refine gF ?_;refine aa.seq (aa.seq (aa.gd dm 0 p' p' rfl rfl (gr rfl) ?_));refine aa.of (T:=ag a0a) ?_;refine aT ?_;refine⟨_,rfl,?_⟩;show aa _ _ _ _ _ _ _ _;refine a9 aw ?_;refine aa.eo rfl ?_;refine aa.seq (aa.gd dm 0 p' p' rfl rfl (gr rfl) ?_);refine aa.of (T:=ag a0a) ?_;refine aT ?_;refine⟨_,rfl,?_⟩;show aa _ _ _ _ _ _ _ _;refine aa.dS (Le.refl _) (R':=(aZ d n f c).star (((cG g1 l1).star (cG g2 l2)).star (.aJ bf (eG j d (bI g1 l1.length) (bI g2 l2.length) pub dead 1 lg pb)))) ?_ ?_
 .exact(GA.mono (GA.comm _ _) (GA.le.refl _)).trans (GA.assoc _ _ _)
 refine aa.frozen (b:=bf) (t:=0) (cs:=AL j d l1 l2 pub dead 1 lg pb) (λ_=>rfl) rfl (λw fp X X' hA hX=>Xu w fp X X' hA hX) (λa5=>?_);have a0:=xW l1;have a1:=xW l2;have af:oh j.F j.E j.A j.B j.M++jH l1++jH l2=lP j l1 l2:=rfl;have a6:(lP j l1 l2).length=48+(l1.length+7)/8+(l2.length+7)/8:=by
  have:=wo j.F j.E j.A j.B j.M;rw[<-af,aV,aV,CT,CT,this]
 have q1:∃l:List Bool,l1.map ij=l.map ij/\l1.length=l.length/\l.length<=10/\0<l.length:=⟨l1,rfl,rfl,ax,h1⟩;have q2:∃l:List Bool,l2.map ij=l.map ij/\l2.length=l.length/\l.length<=10/\0<l.length:=⟨l2,rfl,rfl,ay,h2⟩;unfold AL;refine aa.seq (aa.yZ 10 [] [] [] (L:=[(96,Rs)]) hE (aci (b:=d) (n:=n) (f:=f) (c:=c) (xs:=lP j l1 l2) hn ab hc f' f' hS) rfl rfl rfl func95 rfl p' ⟨_,_,rfl,rfl⟩ gy (λr R' hp=>?_));obtain⟨rfl,rfl⟩:=hp;refine⟨rfl,?_⟩;refine jt (A6 a0 a1 af hj q1 q2) ?_;show aa _ _ _ _ _ _ _ _;refine aa.ret ?_;refine⟨Dg _ _ _ _,?_⟩;simp only[pZ];exact pG
end
section
variable {rest:List Oper}{d g i m x:Nat}{o:Oper}
section
variable {n:Nat}{en:dK}{pn:Nat->Option Nat}{R R0:GA}{σ:St}{ops:Array Oper}{K:St->GA->Prop}
theorem HG:(a0c.info? 4).map (·.size)=T' 1:=I'
theorem sizeOf4(w:World):(sizeOf 4).run a0c w=.ok 1 w:=by
 have h:=HG;cases hq:a0c.info? 4 with
 |none=>rw[hq]at h;cases h
 |some i=>
  rw[hq]at h;simp only[ft,aC]at h;simp[sizeOf,typeInfo,hq,h]
theorem GL.DS(hop:o.op=.call ⟨.builtin .len,#[.tmp x],#[72]⟩)(af:o.guard=Y')(ab:o.dst=T' d)(hd:d<n)(hx:σ.get x=.r (bI g m))(k:GL a0c n en pn ops rest K (σ.put (T' d) (.r (.int .i64 m))) R):GL a0c n en pn ops (o::rest) K σ R:=by
 refine GL.val (.r (.int .i64 m)) af (λt ht=>by rw[ab]at ht;cases ht;exact hd) (λκ β a w hn hg hC=>?_) (by rw[ab];exact k);have hv:=hC.rel x;rw[hx]at hv;have hv:=RI.aS hv;refine⟨.int .i64 m,?_,RI.r _⟩;have e1:a.eval (.tmp x)=bI g m:=hv;unfold execOp;have hr:(Builtin.len_ #[72] o.type #[.slice (T' ⟨g,0,Y'⟩) m m]).run a0c w=.ok (.int .i64 m) w:=by simp[Builtin.len_,run_underlying underlying72];rfl
 simp only[hop,resolve,invoke,builtin,cC,cJ,cz,lB,fX,kr,e1,bI,hr]
theorem GL.DC{y:Nat}(hop:o.op=.indexAddr 72 (.tmp x) (.tmp y))(af:o.guard=Y')(ab:o.dst=T' d)(hd:d<n)(hx:σ.get x=.r (bI g m))(hy:σ.get y=.r (.int .i64 i))(hi:i<m)(k:GL a0c n en pn ops rest K (σ.put (T' d) (.r (.pointer (T' ⟨g,i,Y'⟩)))) R):GL a0c n en pn ops (o::rest) K σ R:=by
 refine GL.val (.r (.pointer (T' ⟨g,i,Y'⟩))) af (λt ht=>by rw[ab]at ht;cases ht;exact hd) (λκ β a w hn hg hC=>?_) (by rw[ab];exact k);have hv:=hC.rel x;rw[hx]at hv;have hv:=RI.aS hv;have hw:=hC.rel y;rw[hy]at hw;have hw:=RI.aS hw;have e1:a.eval (.tmp x)=bI g m:=hv;have e2:a.eval (.tmp y)=.int .i64 i:=hw;refine⟨.pointer (T' ⟨g,i,Y'⟩),?_,RI.r _⟩;have hr:=EB (w:=w) (gi a0a) (t:=72) (e:=4) (s:=1) (by_:=1) rfl (ad:=⟨g,0,Y'⟩) (len:=m) (cap:=m) (k:=.i64) (i:=(i:Int)) f' f';rw[ji]at hr;unfold execOp;simp only[hop,e1,e2,bI,cC,hr,cz,cJ];simp
theorem GL.afv{p:Nat}{l:List Bool}{b:Bool}(hop:o.op=.store 4 (.tmp p) (.const (.bool b)))(ax:o.guard=Y')(aw:o.dst=Y')(hp:σ.get p=.r (.pointer (T' ⟨g,i,Y'⟩)))(hi:i<l.length)(k:GL a0c n en pn ops rest K σ.live (R0.star (cG g (l.set i b)))):GL a0c n en pn ops (o::rest) K σ (R0.star (cG g l)):=by
 intro κ β a w Q hn hg hC hQ;obtain⟨fp,⟨f,q,k1,k2,k3,k4,k5⟩,g2,g3,g4⟩:=hg.now hC;have hv:=hC.rel p;rw[hp]at hv;have e1:a.eval (.tmp p)=.pointer (T' ⟨g,i,Y'⟩):=RI.aS hv;have a4:=run_storeCells_at a0c g i 4 [.bool b] 0 (l.map Value.bool).toArray w k5 O' (by simp[Value.oneCell']);obtain⟨w',ab⟩:=nm (w.setRow g ((l.map Value.bool).toArray.toList.take (i+0)++[Value.bool b]++(l.map Value.bool).toArray.toList.drop (i+0+[Value.bool b].length)).toArray);have a1:((l.map Value.bool).toArray.toList.take (i+0)++[Value.bool b]++(l.map Value.bool).toArray.toList.drop (i+0+[Value.bool b].length)).toArray=((l.set i b).map Value.bool).toArray:=by
  congr 1
  rw[Td,au hi];simp
 have ay:w'.heap[g]?=T' (.cells ((l.set i b).map Value.bool).toArray 4 (0,0)):=by
  rw[<-ab,a1];exact setRow_heap w g _ _ 4 _ k5
 have af:∀c,c<w.heap.size->c≠g->w'.heap[c]?=w.heap[c]?:=λc hc a0=>by
  rw[<-ab];exact setRow_other w g _ _ a0
 have a6:w.heap.size=w'.heap.size:=by rw[<-ab];exact(setRow_size w g _).symm
 have ao:lU fp w w':=⟨by rw[<-ab];rfl,by rw[<-ab];rfl,by rw[<-ab];rfl,f',λc hc hf=>af c hc (λe=>hf ((k1 c).2 (.inr ((k4 c).2 e))))⟩;have a3:(execOp a.eval o).run a0c w=.ok .skip w':=by
  unfold execOp;have e2:a.eval (.const (.bool b))=.bool b:=rfl;rw[<-ab];simp only[hop,e1,e2,Instr.storeAt,Instr.sureAddr,storeVar,cC,cJ,cz,sizeOf4,Value.cells,jn,gM,kK,ne_eq,not_true_eq_false,if_false];rw[a4]
  rfl
 obtain⟨a5,h1,h2,h3,h4⟩:=hg.call (w':=w') (R':=R0.star (cG g (l.set i b))) (fp':=fp) hC g2 g3
  ⟨f,q,k1,k2,R0.loc f' (λc hc hh=>af c hc (λe=>by
   subst e;rcases hh with hh|hh
   .exact k2 c hh ((k4 c).2 rfl)
   .exact hh (.inl (g2 c ((k1 c).2 (.inr ((k4 c).2 rfl))))))) (λc hc hx=>hx.elim id (λh=>.inl (g2 c h))) k3,k4,ay⟩ (λc hc hx=>hx) ao
 refine Sk ax a3 (k a5 β _ w' Q (h1.trans hn) h2 ?_ hQ);rw[St.iD,St.gm,aw];exact h3
end
end
section
variable {ad:Addr}{b d f i:Nat}{x:Operand}{s t:TypeId}{v:Value}
section
variable {P:Program}{T:aL}{a:Act}{w:World}{n:Nat}{en:dK}{pn:Nat->Option Nat}{R R0:GA}{σ:St}{ops:Array Oper}{K:St->GA->Prop}{o:Oper}{rest:List Oper}
theorem uN(hop:o.op=.nilCheck x)(hx:a.eval x=.pointer (T' ad)):(execOp a.eval o).run P w=.ok (.value (.pointer (T' ad))) w:=by
 unfold execOp;simp only[hop,hx];simp[go_sem]
theorem qI(hT:cU P T)(hop:o.op=.fieldAddr s x f)(hf:T.fo s f=T' d)(hx:a.eval x=.pointer (T' ⟨b,i,Y'⟩)):(execOp a.eval o).run P w=.ok (.value (.pointer (T' ⟨b,i+d,Y'⟩))) w:=by
 obtain⟨fs,fd,j,h1,h2,h3,h4,h5⟩:=hT.fo s f d hf;have ab:(Instr.fieldAt s (.pointer (T' ⟨b,i,Y'⟩)) f).run P w=.ok (.pointer (T' ⟨b,i+d,Y'⟩)) w:=by
  have:=ji b i d;simp[Instr.fieldAt,run_underlying h1,h2,Instr.sureAddr,fieldPlace,run_sizeOf h4,h5,h3,this]
 unfold execOp;simp only[hop,hx,cC,ab,cz,cJ]
theorem oC(hT:cU P T)(hop:o.op=.load t x)(ht:T.vr t=T' Y')(hx:a.eval x=.pointer (T' ⟨b,i,Y'⟩))(hc:w.cell? ⟨b,i,Y'⟩=T' v):(execOp a.eval o).run P w=.ok (.value v) w:=by
 obtain⟨⟨d,hd,ab⟩,_⟩:=hT.xe t ht;have af:(Instr.loadAt t (.pointer (T' ⟨b,i,Y'⟩))).run P w=.ok v w:=by
  simp only[Instr.loadAt,Instr.sureAddr,cC,cJ,cz,loadVar,EC hd ab];simp[hc]
 unfold execOp;simp only[hop,hx,cC,af,cz,cJ]
theorem ZX(hT:cU P T){m:Nat}{cs:List Value}(hop:o.op=.load t x)(ht:T.vr t=T' (T' m))(hm:cs.length=m)(hx:a.eval x=.pointer (T' ⟨b,i,Y'⟩))(hc:∀j v,cs[j]?=T' v->w.cell? ⟨b,i+j,Y'⟩=T' v):(execOp a.eval o).run P w=.ok (.value (.agg cs.toArray)) w:=by
 obtain⟨⟨d,hd,ab⟩,ii,hi,af⟩:=hT.BX t m ht;have ao:(Instr.loadAt t (.pointer (T' ⟨b,i,Y'⟩))).run P w=.ok (.agg cs.toArray) w:=by
  simp only[Instr.loadAt,Instr.sureAddr,cC,cJ,cz];simp only[loadVar,cC,ED hd ab,cz,if_true];rw[run_sizeOf hi];simp only[cz,af];rw[run_loadCells (P:=P) w ⟨b,i,Y'⟩ m (λj=>cs.getD j undef) (λj hj=>by
   rw[ji];refine hc j _ ?_;simp[cF,show j<cs.length from f'])]
  simp only[cJ,cz]
  congr 2
  apply Array.ext
  .simp[hm]
  .intro j h1 h2
   have h3:j<cs.length:=by simpa using h2
   simp[cF,h3]
 unfold execOp;simp only[hop,hx,cC,ao,cz,cJ]
theorem GL.rJ{x:Nat}(hop:o.op=.nilCheck (.tmp x))(af:o.guard=Y')(ab:o.dst=T' d)(hd:d<n)(hx:σ.get x=.r (.pointer (T' ad)))(k:GL P n en pn ops rest K (σ.put (T' d) (.r (.pointer (T' ad)))) R):GL P n en pn ops (o::rest) K σ R:=
 GL.val (.r (.pointer (T' ad))) af (λt ht=>by rw[ab]at ht;cases ht;exact hd) (λκ β a w hn hg hC=>⟨_,uN hop (by
  have hv:=hC.rel x;rw[hx]at hv;exact RI.aS hv),RI.r _⟩) (by rw[ab];exact k)
theorem GL.rE(hT:cU P T){x e:Nat}(hop:o.op=.fieldAddr s (.tmp x) f)(af:o.guard=Y')(ab:o.dst=T' d)(hd:d<n)(hf:T.fo s f=T' e)(hx:σ.get x=.r (.pointer (T' ⟨b,i,Y'⟩)))(k:GL P n en pn ops rest K (σ.put (T' d) (.r (.pointer (T' ⟨b,i+e,Y'⟩)))) R):GL P n en pn ops (o::rest) K σ R:=
 GL.val (.r (.pointer (T' ⟨b,i+e,Y'⟩))) af (λt ht=>by rw[ab]at ht;cases ht;exact hd) (λκ β a w hn hg hC=>⟨_,qI hT hop hf (by
  have hv:=hC.rel x;rw[hx]at hv;exact RI.aS hv),RI.r _⟩) (by rw[ab];exact k)
theorem GL.uR(hT:cU P T){x:Nat}{C:List AV}{c:AV}(hop:o.op=.load t (.tmp x))(af:o.guard=Y')(ab:o.dst=T' d)(hd:d<n)(ht:T.vr t=T' Y')(hx:σ.get x=.r (.pointer (T' ⟨b,i,Y'⟩)))(hc:C[i]?=T' c)(ao:c.im=Z')(k:GL P n en pn ops rest K (σ.put (T' d) c) (R0.star (.aJ b C))):GL P n en pn ops (o::rest) K σ (R0.star (.aJ b C)):=
 GL.val c af (λt ht=>by rw[ab]at ht;cases ht;exact hd) (λκ β a w hn hg hC=>by
  obtain⟨fp,⟨f,g,k1,k2,k3,m1,A,e,m2,m3,m4⟩,g2,g3,g4⟩:=hg.now hC;obtain⟨v,v1,v2⟩:=m4 i c hc;have hv:=hC.rel x;rw[hx]at hv;exact⟨v,oC hT hop ht (RI.aS hv) (by rw[cell_of_row w b i _ _ _ m2];exact v1),RV.of ao v2⟩) (by rw[ab];exact k)
theorem GL.H4{R0:GA}{K:St->GA->Prop}{x g:Nat}{l:List Bool}(hop:o.op=.load 4 (.tmp x))(af:o.guard=Y')(ab:o.dst=T' d)(hd:d<n)(hx:σ.get x=.r (.pointer (T' ⟨g,i,Y'⟩)))(hi:i<l.length)(k:GL a0c n en pn ops rest K (σ.put (T' d) (.r (.bool (l.getD i a0a)))) (R0.star (cG g l))):GL a0c n en pn ops (o::rest) K σ (R0.star (cG g l)):=
 GL.val (.r (.bool (l.getD i a0a))) af (λt ht=>by rw[ab]at ht;cases ht;exact hd) (λκ β a w hn hg hC=>by
  obtain⟨fp,⟨f,q,k1,k2,k3,m1,m2⟩,g2,g3,g4⟩:=hg.now hC;have hv:=hC.rel x;rw[hx]at hv;exact⟨_,oC (gi a0a) hop rfl (RI.aS hv) (by
   rw[cell_of_row w g i _ _ _ m2];simp[cF,hi]),RI.r _⟩) (by rw[ab];exact k)
theorem eZ.drop{A:GA}:eZ n en pn σ (R.star A) σ R:=by
 intro κ β a w hn hg hC;refine⟨κ,β,hn,⟨hg.mu,hg.df,hg.bC,?_,hg.nJ,hg.oS,hg.ow,hg.old,hg.os,hg.tape,hg.output,hg.size⟩,hC⟩;obtain⟨fp,⟨f,g,k1,k2,k3,k4⟩,h2,h3⟩:=hg.fp;exact⟨f,k3,λb hb=>h2 b ((k1 b).2 (.inl hb)),λb hl hb=>h3 b hl ((k1 b).2 (.inl hb))⟩
theorem GL.abZ{xs:List Int}(k:∀a n' c,v=.slice a n' c->GL P n en pn ops rest K σ (R.star (dE v xs))):GL P n en pn ops rest K σ (R.star (dE v xs)):=by
 intro κ β a w Q hn hg hC hQ;obtain⟨fp,⟨f,g,k1,k2,k3,k4,k5⟩,g2,g3,g4⟩:=hg.now hC;rcases k4 with⟨e,_⟩|⟨gg,cap,_,_,e,_⟩
 .exact k _ _ _ e κ β a w Q hn hg hC hQ
 .exact k _ _ _ e κ β a w Q hn hg hC hQ
end
end
section
variable {c x y:Code}{e:Exit}{fn:Func}{id:Nat}
section
variable {P:Program}{T:aL}{S:FuncId->Option Sp}{κ:Ctx}{β:Nat->Option (Nat×Nat)}{F:Nat->AV}{G:Nat->Option cq}{a:Act}{w:World}{n:Nat}{en:dK}{pn:Nat->Option Nat}{R R0:GA}{σ:St}{Q:Exit->Act->World->Prop}
def cR(P:Program)(n:Nat)(en:dK)(pn:Nat->Option Nat)(c:Code)(Q:Exit->Act->World->Prop)(σ:St)(R:GA):Prop:=
 ∀(κ:Ctx)(β:Nat->Option (Nat×Nat))(a:Act)(w:World),κ.nt=n->cK en pn R κ->av κ β σ.get σ.ae a w->c.wp P Q a w
def GN(p:St->GA->Prop)(e:Exit)(σ:St)(R:GA):Prop:=e=.normal/\p σ R
theorem cR.seq(h:aa P n en pn x (GN (cR P n en pn y Q)) σ R):cR P n en pn (.seq x y) Q σ R:=by
 intro κ β a w hn hg hC;refine wp_seq (wp_mono (h κ β a w hn hg hC) λe a' w'⟨κ',σ',β',R',⟨h0,h1⟩,h2,h3,h4⟩=>?_);subst h0;exact h1 κ' β' a' w' h2 h3 h4
theorem cR.EF(h:cR P n en pn x (Exit.then (y.wp P Q) Q) σ R):cR P n en pn (.seq x y) Q σ R:=λκ β a w hn hg hC=>wp_seq (h κ β a w hn hg hC)
theorem cR.block(h:cR P n en pn c (Exit.inBlock id Q) σ R):cR P n en pn (.block id c) Q σ R:=λκ β a w hn hg hC=>wp_block (h κ β a w hn hg hC)
theorem cR.dz{t:Nat}(hb:σ.get t=.r (.bool a0a))(h:cR P n en pn y Q σ R):cR P n en pn (.cond (.tmp t) x y) Q σ R:=by
 intro κ β a w hn hg hC;have hr:=hC.rel t;rw[hb]at hr;exact wp_cond_split (t:=a0a) (RI.aS hr) (λh=>by cases h) (λ_=>h κ β a w hn hg hC)
theorem cR.dS{σ':St}{R':GA}(hl:Le σ σ')(hR:R.le R')(h:cR P n en pn c Q σ' R'):cR P n en pn c Q σ R:=λκ β a w hn hg hC=>by
 obtain⟨ab,h'⟩:=hl κ β a w hC;exact h κ ab a w hn (hg.le hR) h'
theorem cK.defer(hg:cK en pn R κ)(hC:av κ β F G a w)(d:List Deferred):
 cK ⟨en.W,en.X,en.fp,en.sub,en.lt,d⟩ pn R ⟨κ.nt,κ.w0,κ.X0,κ.mu,κ.ow,d,κ.bC⟩/\av ⟨κ.nt,κ.w0,κ.X0,κ.mu,κ.ow,d,κ.bC⟩ β F G {a with defers:=d} w:=
 ⟨⟨hg.mu,rfl,hg.bC,hg.fp,hg.nJ,hg.oS,hg.ow,hg.old,hg.os,hg.tape,hg.output,hg.size⟩,
  ⟨hC.sz,hC.rel,rfl,hC.hp,hC.sep,⟨hC.aQ.os,hC.aQ.tape,hC.aQ.output,hC.aQ.size,hC.aQ.old,hC.aQ.Bj⟩,hC.x0,hC.bC⟩⟩
def tV(en:dK)(post:AV->GA->Prop)(e:Ending)(w':World):Prop:=∃v r R' fp',e=.returned v/\post r R'/\R'.rel w' fp' (λb=>en.X b\/fp' b)/\RI w' (λb=>en.X b\/fp' b) r v/\(∀b,b<en.W.heap.size->fp' b->en.fp b)/\lU en.fp en.W w'
theorem Hp(hT:cU P T){post:AV->GA->Prop}(hg:cK en (λ_=>Y') R κ)(hC:av κ β σ.get σ.ae a w)(h:dM T fn.results.toList fn.resultTypes.toList post e σ R):
 ∃v,(results fn a.tmps).run P w=.ok v w/\tV en post (.returned v) w:=by
 obtain⟨he,h1,h2⟩:=h;obtain⟨v,v1,v2⟩:=Ex hT (λ_=>hg.mu) hC h1 rfl;obtain⟨fp,g1,g2,g3,g4⟩:=hg.now hC;have ab:∀b,en.X b\/fp b->κ.X0 b:=λb hb=>by
  rcases hb with hb|hb
  .rcases hg.nJ b hb with h|⟨id,h⟩
   .exact h
   .cases h
  .exact g2 b hb
 have af:∀b,b<w.heap.size->en.X b\/fp b->XG κ β σ.ae b:=λb _ hb=>.inl (ab b hb)
 refine⟨v,v1,v,_,R,fp,rfl,h2,R.loc (aM _) (λ_ _ _=>rfl) af g1,?_,g3,⟨hC.aQ.os.trans hg.os,hC.aQ.tape.trans hg.tape,hC.aQ.output.trans hg.output,fC hg.size hC.aQ.size,λb hb hf=>?_⟩⟩
 .exact v2.cW (dZ.refl _ _) (λb ao hb=>ab b hb)
 .rw[hC.aQ.same hg.mu ⟨da hb hg.size,λho=>absurd (hg.ow b hb ho) hf⟩,hg.old b hb hf]
def GA.mark(D:Nat):GA:=.obj D (.deferred (T' []))
theorem Yy(hT:cU P T){post:AV->GA->Prop}{D m:Nat}{rs:List ResultVar}{ts:List TypeId}(a0:fn.results=rs.toArray)(a1:fn.resultTypes=ts.toArray)(hD:en.D=[{target:=.collected D,args:=#[]}])(a4:en.W.heap.size<=D)(hg:cK en (λ_=>Y') (R.star (GA.mark D)) κ)(hC:av κ β σ.get σ.ae a w)(h:dM T rs ts post e σ.live R):
 bodyPostM Fence.wide m P fn (tV en post) e a w:=by
 obtain⟨fp,⟨f,g,k1,k2,k3,k4,k5⟩,g2,g3,g4⟩:=hg.now hC;obtain⟨w1,ab⟩:=nm (w.putObj D (.deferred Y'));have hk:(Instr.takeDeferred D).run P w=.ok [] w1:=by rw[<-ab];exact run_takeDeferred k5
 have a5:w.heap.size=w1.heap.size:=by rw[<-ab];simp[World.putObj]
 have ao:∀b,b≠D->w1.heap[b]?=w.heap[b]?:=λb hb=>by rw[<-ab];exact World.putObj_heap_other hb
 have ay:¬f D:=λhf=>k2 D hf ((k4 D).2 rfl)
 have ax:XG κ β σ.ae D:=.inl (g2 D ((k1 D).2 (.inr ((k4 D).2 rfl))));obtain⟨a3,h1,h2,h3,h4⟩:=hg.call (w':=w1) (R':=R) (fp':=f) hC g2 g3
  (R.loc f' (λb hb hh=>ao b (λe=>by
   subst e;rcases hh with hh|hh
   .exact ay hh
   .exact hh ax)) (λb hb hx=>hx.elim id (λhf=>.inl (g2 b ((k1 b).2 (.inl hf))))) k3) (λb hb hf=>(k1 b).2 (.inl hf))
  ⟨by rw[<-ab];rfl,by rw[<-ab];rfl,by rw[<-ab];rfl,f',λb hb hf=>ao b (λe=>hf (by subst e;exact(k1 _).2 (.inr ((k4 _).2 rfl))))⟩
 have aw:av a3 β (St.live σ).get (St.live σ).ae a w1:=by rw[St.iD,St.gm];exact h3
 have af:a.defers=[{target:=.collected D,args:=#[]}]:=hC.gp.trans (hg.df.trans hD);obtain⟨v,q1,q2⟩:=Hp (fn:=fn) hT h2 aw (by rw[a0,a1];exact h);rcases h.1 with rfl|rfl
 .show LeavesInM _ _ _ _ _ _ _ _ _
  rw[af];exact⟨J',.inl ⟨D,w1,rfl,hk,v,q1,q2⟩⟩
 .show LeavesInM _ _ _ _ _ _ _ _ _
  rw[af];exact⟨J',.inl ⟨D,w1,rfl,hk,v,q1,q2⟩⟩
theorem aA.Gr{f:FuncId}{args:List AV}{post:AV->GA->Prop}{l:List (Nat×AV)}(m:Nat)(hf:P.funcs[f]?=T' fn)(ao:fn.ntmps=n)(h:∀en:dK,en.D=[]->R.rel en.W en.fp en.X->cR P n en (λ_=>Y') c (bodyPostM Fence.wide m P fn (tV en post)) ⟨l,[]⟩ R)(hb:fn.body=T' c:=by rfl)(af:args.all AV.im=true:=by rfl)(hn:args.length<=n:=by simp)(hl:gA 0 args=l:=by rfl):aA P f args R post:=by
 subst hl;subst ao;intro w X fp vs hX ab hr hlen ha;refine(callsIn_wide (n:=m)).1 (callsIn_of_wp_marks hf hb a0b (wpIn_wide.2 ?_));have hC:=Ap (n:=fn.ntmps) af hn hX hlen ha;have hg:cK ⟨w,X,fp,ab,hX,[]⟩ (λ_=>Y') R ⟨fn.ntmps,w,X,Y',λ_=>False,[],λ_=>Y'⟩:=
  ⟨rfl,rfl,rfl,⟨fp,GA.loc _ (aM _) (λ_ _ _=>rfl) (λb _ hx=>hx.elim id (λh=>h.elim)) hr,ab,λ_ _ h=>h⟩,λ_ h=>.inl h,λ_ h _=>h,λ_ _ h=>h.elim,λ_ _ _=>rfl,rfl,rfl,rfl,aM _⟩
 exact h ⟨w,X,fp,ab,hX,[]⟩ rfl hr _ _ _ w rfl hg hC
end
theorem gW{P:Program}{T:aL}{S:FuncId->Option Sp}{n:Nat}{en:dK}{pn:Nat->Option Nat}{R:GA}{σ ab:St}{F:Prop}{Q:Exit->Act->World->Prop}{l:Array Oper}{b:Bool}(hE:Env P T S)(E:F)(k:cR P n en pn y Q ab R)(h:F->Im P T S (GN (cR P n en pn y Q) .normal ab R) (ai P T n (.region id l b) (λe σ'=>GN (cR P n en pn y Q) e σ' R) σ):=by(intro E;exact Im.wR E)):cR P n en pn (.seq (.region id l b) y) Q σ R:=
 cR.seq (aa.of (h E hE ⟨rfl,k⟩))
end
section
variable {t:TypeId}
section
variable {P:Program}{T:aL}{a:Act}{w:World}{n:Nat}{en:dK}{pn:Nat->Option Nat}{R R0:GA}{σ:St}{ops:Array Oper}{K:St->GA->Prop}{o:Oper}{rest:List Oper}
theorem GL.Gg(hT:cU P T){d:Nat}{z:List AV}(hop:o.op=.alloc t)(ao:o.guard=Y')(af:o.dst=T' d)(hd:d<n)(hz:T.zr t=T' z)(k:∀b,GL P n en pn ops rest K (σ.live.put (T' d) (.r (.pointer (T' ⟨b,0,Y'⟩)))) (R.star (.aJ b z))):GL P n en pn ops (o::rest) K σ R:=by
 intro κ β a w Q hn hg hC hQ;obtain⟨fp,g1,g2,g3,g4⟩:=hg.now hC;obtain⟨i,v,hi,hv,hl,a0⟩:=hT.zr t z hz;have ax:i.zero=T' v:=hv;obtain⟨A,hA⟩:=nm (v.cells);have aw:(execOp a.eval o).run P w=.ok (.value (.pointer (T' ⟨w.heap.size,0,Y'⟩))) (w.alloc (.cells A t)):=by
  rw[<-hA];have ay:(zeroValue t).run P w=.ok v w:=by simp[zeroValue,run_typeInfo hi,ax]
  simp[execOp,hop,Instr.alloc,ay,newVar,Go.newRow]
 have hh:(w.alloc (.cells A t)).heap[w.heap.size]?=T' (.cells A t (0,0)):=by rw[vL];simp
 have ab:=rq (λ_=>False) w (.cells A t);have hX:∀b,b<w.heap.size->XG κ β σ.ae b\/(fp b\/b=w.heap.size)->XG κ β σ.ae b:=λb hb hx=>hx.elim id (λh=>h.elim (λh=>.inl (g2 b h)) (λe=>f'))
 obtain⟨a1,h1,h2,h3,h4⟩:=hg.call (w':=w.alloc (.cells A t)) (R':=R.star (.aJ w.heap.size z)) (fp':=λb=>fp b\/b=w.heap.size) hC g2 g3
  ⟨fp,λb=>b=w.heap.size,λ_=>dr,λb hb e=>by have:=g4 b hb;omega,R.loc ab.size (λb hb _=>ab.block b hb (λh=>h)) hX g1,λ_=>dr,A,t,hh,by rw[<-hA,hl];exact aM _,λj c hj=>by
   obtain⟨u,u1,u2⟩:=a0 (w.alloc (.cells A t)) _ j c hj;exact⟨u,by rw[<-hA];exact u1,u2⟩⟩
  (λb hb hx=>hx.elim (λe=>e) (λe=>f')) (rq fp w _)
 refine oR (w':=w.alloc (.cells A t)) ao aw (k w.heap.size a1 β _ _ Q (h1.trans hn) h2 ?_ hQ);rw[St.fh,St.eQ,St.iD,St.gm,af];exact h3.put (λt' ht=>by cases ht;rw[h1,hn];exact hd) (RI.r _)
theorem GL.Jf(hT:cU P T){p b i:Nat}{x:Operand}{C:List AV}{v:Value}(hop:o.op=.store t (.tmp p) x)(a3:o.guard=Y')(a1:o.dst=Y')(ht:T.vr t=T' Y')(hp:σ.get p=.r (.pointer (T' ⟨b,i,Y'⟩)))(hi:i<C.length)(hx:ev σ.get x=.r v)(hv:v.oneCell'=Z')(bn:v.cells=#[v])(k:GL P n en pn ops rest K σ.live (R0.star (.aJ b (C.set i (.r v))))):GL P n en pn ops (o::rest) K σ (R0.star (.aJ b C)):=by
 intro κ β a w Q hn hg hC hQ;obtain⟨fp,⟨f,q,k1,k2,k3,m1,A,e,m2,m3,m4⟩,g2,g3,g4⟩:=hg.now hC;obtain⟨⟨d,hd,bs⟩,ii,a6,a5⟩:=hT.xe t ht;have ax:=hC.rel p;rw[hp]at ax;have e1:a.eval (.tmp p)=.pointer (T' ⟨b,i,Y'⟩):=RI.aS ax;have ay:=hC.ev x;rw[hx]at ay;have e2:a.eval x=v:=RI.aS ay;have bm:=run_storeCells_at P b i e [v] 0 A w m2 O' (by simpa using hv);obtain⟨w',ab⟩:=nm (w.setRow b (A.toList.take (i+0)++[v]++A.toList.drop (i+0+[v].length)).toArray);have bb:(A.toList.take (i+0)++[v]++A.toList.drop (i+0+[v].length)).toArray=(A.toList.set i v).toArray:=by
  congr 1
  rw[Td,au (by rw[qX];omega)];simp
 have a4:w'.heap[b]?=T' (.cells (A.toList.set i v).toArray e (0,0)):=by
  rw[<-ab,bb];exact setRow_heap w b _ _ e _ m2
 have af:∀c,c<w.heap.size->c≠b->w'.heap[c]?=w.heap[c]?:=λc hc a7=>by
  rw[<-ab];exact setRow_other w b _ _ a7
 have bt:w.heap.size=w'.heap.size:=by rw[<-ab];exact(setRow_size w b _).symm
 have a0:lU fp w w':=⟨by rw[<-ab];rfl,by rw[<-ab];rfl,by rw[<-ab];rfl,f',λc hc hf=>af c hc (λe=>hf ((k1 c).2 (.inr ((m1 c).2 e))))⟩;have bc:(execOp a.eval o).run P w=.ok .skip w':=by
  unfold execOp;have bd:(sizeOf t).run P w=.ok 1 w:=by rw[run_sizeOf a6,a5]
  rw[<-ab];simp only[hop,e1,e2,Instr.storeAt,Instr.sureAddr,storeVar,cC,cJ,cz,bd,bn,jn,gM,kK,ne_eq,not_true_eq_false,if_false];rw[bm]
  rfl
 have ao:XG κ β σ.ae b:=.inl (g2 b ((k1 b).2 (.inr ((m1 b).2 rfl))));have aw:∀c,c<w.heap.size->XG κ β σ.ae c\/fp c->XG κ β σ.ae c:=λc _ hx=>hx.elim id (λh=>.inl (g2 c h))
 obtain⟨br,h1,h2,h3,h4⟩:=hg.call (w':=w') (R':=R0.star (.aJ b (C.set i (.r v)))) (fp':=fp) hC g2 g3
  ⟨f,q,k1,k2,R0.loc f' (λc hc hh=>af c hc (λe=>by
   subst e;rcases hh with hh|hh
   .exact k2 c hh ((m1 c).2 rfl)
   .exact hh ao)) aw k3,m1,_,e,a4,by simpa using m3,λj c hj=>by
   rw[qf]at hj;split at hj
   .rename_i he
    subst he
    try rw[au hi]at hj
    cases hj;exact⟨v,by simp[show i<A.size from f'],RI.r _⟩
   .rename_i he
    obtain⟨u,u1,u2⟩:=m4 j c hj;refine⟨u,?_,u2.cW ⟨f',λc hc hx=>af c hc (λe=>hx (by subst e;exact ao))⟩ aw⟩;rw[zP,Kk he,zE];exact u1⟩ (λc hc hx=>hx) a0
 refine Sk a3 bc (k br β _ w' Q (h1.trans hn) h2 ?_ hQ);rw[St.iD,St.gm,a1];exact h3
end
end
section
variable {x y:Code}{id:Nat}{o:Oper}{Q:St->GA->Prop}
section
variable {P:Program}{T:aL}{L:List (Nat×Sp)}{κ:Ctx}{β:Nat->Option (Nat×Nat)}{F:Nat->AV}{G:Nat->Option cq}{a:Act}{w:World}{n m lp:Nat}{en:dK}{pn:Nat->Option Nat}{R R0:GA}{σ:St}{ops:Array Oper}{K:Act->World->Prop}{QQ:Exit->Act->World->Prop}
def wS(o:Oper):Bool:=match o.op with
 |.defer _=>a0a
 |_=>Z'
theorem aaB(h:wS o=Z'):∀c,o.op≠.defer c:=λc e=>by
 unfold wS at h;rw[e]at h;cases h
theorem Px(hd:wS o=Z')(af:¬LetsOut QQ)(h:o.wp P a w K QQ):o.wpIn (Fence.wide.inRound lp) m P a w K QQ:=by
 refine⟨λ_ _=>trivial,?_⟩;rw[Oper.semAt_eq _ _ _ (aaB hd)];unfold Oper.wp at h;generalize(execOp a.eval o).run P w=r at h|-;cases r with
 |ok x w'=>
  cases x with
  |value v=>exact h
  |skip=>exact h
  |defer d=>exact h
  |enter f args=>
   refine⟨λe=>by simp[Fence.wide]at e,?_⟩;exact CallsIn.inRound lp ((callsIn_wide (n:=m-1)).2 h)
  |row row args=>
   refine⟨λe=>by simp[Fence.wide]at e,?_⟩;intro c cs _;obtain⟨v,ab,r,s⟩:=h c cs;exact⟨v,ab,r,stepsIn_wide.2 s⟩
  |_=>exact h.elim
 |halt x w'=>
  cases x with
  |panic v=>exact h
  |_=>exact h.elim
theorem EY(hd:∀(i:Nat)(o:Oper),ops[i]?=T' o->wS o=Z')(ab:¬LetsOut QQ):∀(fuel:Nat)(l:Array Bool)(a:Act)(w:World),wpAny P .any ops QQ fuel l a w->wpAnyIn (Fence.wide.inRound lp) m P .any ops QQ fuel l a w
 |0,l,a,w,h=>h
 |fuel+1,l,a,w,h=>by
  refine⟨h.1,λi hi=>?_⟩;have h1:=h.2 i hi;unfold wpOp at h1;unfold wpOpIn;cases ho:ops[i]? with
  |none=>rw[ho]at h1;exact EY hd ab fuel _ a w h1
  |some o=>
   rw[ho]at h1;simp only at h1|-;split at h1
   .rename_i hw
    rw[au hw];rcases h1 with h1|⟨_,h1⟩
    .exact Oper.wpIn_mono (λa w hh=>EY hd ab fuel _ a w hh) (Px (hd i o ho) ab h1)
    .exact absurd h1 ab
   .rename_i hw
    rw[aq hw];exact⟨λ_ _=>trivial,EY hd ab fuel _ _ w h1⟩
theorem BZ(ab:¬LetsOut QQ):∀(l:List Oper)(a:Act)(w:World),l.all wS=Z'->wpList P ops QQ l a w->wpListIn (Fence.wide.inRound lp) m P ops QQ l a w
 |[],a,w,_,h=>h
 |o::rest,a,w,hd,h=>by
  simp only[Co,dG]at hd;unfold wpList at h;unfold wpListIn;split at h
  .rename_i hw
   rw[au hw];rcases h with h|⟨_,h⟩
   .exact Oper.wpIn_mono (λa w hh=>BZ ab rest a w hd.2 hh) (Px hd.1 ab h)
   .exact absurd h ab
  .rename_i hw
   rw[aq hw];exact⟨λ_ _=>trivial,BZ ab rest _ w hd.2 h⟩
def fQ(P:Program)(n m lp:Nat)(en:dK)(pn:Nat->Option Nat)(c:Code)(Q:St->GA->Prop)(σ:St)(R:GA):Prop:=
 ∀(κ:Ctx)(β:Nat->Option (Nat×Nat))(a:Act)(w:World)(QQ:Exit->Act->World->Prop),κ.nt=n->cK en pn R κ->av κ β σ.get σ.ae a w->¬LetsOut QQ->
  (∀ab af σ' R' a' w',Q σ' R'->ab.nt=n->cK en pn R' ab->av ab af σ'.get σ'.ae a' w'->QQ .normal a' w')->c.wpIn (Fence.wide.inRound lp) m P QQ a w
theorem fQ.seq(h:fQ P n m lp en pn x (fQ P n m lp en pn y Q) σ R):fQ P n m lp en pn (.seq x y) Q σ R:=λκ β a w QQ hn hg hC ab hQ=>
 wpIn_seq (h κ β a w _ hn hg hC ab (λao af σ' R' a' w' h1 h2 h3 h4=>h1 ao af a' w' QQ h2 h3 h4 ab hQ))
theorem fQ.block{c:Code}(h:fQ P n m lp en pn c Q σ R):fQ P n m lp en pn (.block id c) Q σ R:=λκ β a w QQ hn hg hC ab hQ=>
 wpIn_block (h κ β a w _ hn hg hC ab hQ)
theorem fQ.skip(h:Q σ R):fQ P n m lp en pn .skip Q σ R:=λκ β a w _ hn hg hC _ hQ=>wpIn_skip (hQ κ β σ R a w h hn hg hC)
theorem fQ.dz{t:Nat}(hb:σ.get t=.r (.bool a0a))(h:fQ P n m lp en pn y Q σ R):fQ P n m lp en pn (.cond (.tmp t) x y) Q σ R:=λκ β a w QQ hn hg hC ab hQ=>by
 have hr:=hC.rel t;rw[hb]at hr;exact wpIn_cond_split (t:=a0a) (RI.aS hr) (λh=>by cases h) (λ_=>h κ β a w QQ hn hg hC ab hQ)
theorem fQ.region{l:List Oper}(h:GL P n en pn l.toArray l Q σ R)(hd:l.all wS=true:=by rfl):fQ P n m lp en pn (.region id l.toArray a0a) Q σ R:=λκ β a w QQ hn hg hC ab hQ=>
 wpIn_region_list (BZ ab _ a w (by simpa using hd) (by simpa using h κ β a w QQ hn hg hC hQ))
theorem fQ.drawn{id:Nat}{l:List Oper}{Q:St->GA->Prop}(hm:P.follows .mixedOrders=Z')
 (h:∀(κ:Ctx)(β:Nat->Option (Nat×Nat))(a:Act)(w:World),κ.nt=n->cK en pn R κ->av κ β σ.get σ.ae a w->wpAny P .any l.toArray (λe a' w'=>∃ab σ' af R',GN Q e σ' R'/\ab.nt=n/\cK en pn R' ab/\av ab af σ'.get σ'.ae a' w') l.toArray.size (Array.replicate l.toArray.size a0a) a {w with drawn:=w.drawn+1})
 (hd:l.all wS=true:=by rfl):fQ P n m lp en pn (.region id l.toArray Z') Q σ R:=λκ β a w QQ hn hg hC ao hQ=>by
 refine wpIn_mono (wpIn_region_any hm (EY (λi o ho=>fq.1 hd o (kL (by simpa using ho))) ?_ _ _ _ _ (h κ β a w hn hg hC))) ?_
 .rintro⟨_,_,_,_,_,_,⟨h0,_⟩,_⟩
  cases h0
 .rintro e a' w' ⟨ab,σ',af,R',⟨h0,h1⟩,h2,h3,h4⟩
  subst h0;exact hQ ab af σ' R' a' w' h1 h2 h3 h4
end
end
section
variable {c:Code}
section
variable {P:Program}{T:aL}{L:List (Nat×Sp)}{κ:Ctx}{β:Nat->Option (Nat×Nat)}{a:Act}{w:World}{n m lp:Nat}{en:dK}{pn:Nat->Option Nat}{R R0:GA}{σ:St}
theorem abK(ks:Tw)(W:World->Prop)(cs al:List (Nat×Nat))(fd:List (Nat×Nat×Nat)){l:List Oper}{Q:Exit->St->GA->Prop}(hE:Env P T (be L))(ay:∀w fp X,R.rel w fp X->W w)
 (a3:∀i o x u r,l.toArray[i]?=T' o->ks.getD i Y'=T' (.look x u r)->∀(a:Act)(w:World),W w->a.eval x=u->∃v,(execOp a.eval o).run P w=.ok (.value v) w/\∀X,RI w X r v)
 (a1:∀p i,lk cs p=T' i->dL i ((a8 (ck 0 l ks) σ).get p)) (h:cY T (be (dF 0 ks L)) (ck 0 l ks).toArray (ck 0 l ks) (λσ'=>Q .normal σ' R) (a8 (ck 0 l ks) σ))
 (ao:vf l ks Y'=true:=by kernel_rfl) (hd:iz l.toArray n=true:=by kernel_rfl) (aw:okF cs al fd (ck 0 l ks).toArray=true:=by kernel_rfl):
 ∀(κ:Ctx)(β:Nat->Option (Nat×Nat))(a:Act)(w:World),κ.nt=n->cK en pn R κ->av κ β σ.get σ.ae a w->wpAny P .any l.toArray (λe a' w'=>∃ab σ' af R',Q e σ' R'/\ab.nt=n/\cK en pn R' ab/\av ab af σ'.get σ'.ae a' w') l.toArray.size (Array.replicate l.toArray.size a0a) a {w with drawn:=w.drawn+1}:=by
 intro κ β a w hn hg hC;have a0:∀(i:Nat)(o:Oper),l.toArray[i]?=T' o->∀t,o.dst=T' t->t<κ.nt:=by
  intro i o ho t ht;have:=lS.1 hd o (nK ho);rw[ht]at this;rw[hn];simpa using this
 have ax:av κ β (a8 (ck 0 l ks) σ).get (a8 (ck 0 l ks) σ).ae a {w with drawn:=w.drawn+1}:=(rv _ σ hC).below (sQ w);have:=xg (P:=P) (κ:=κ) (W:=W) (E:=dF 0 ks L) (dn:=λ_=>False) (j9.of l ks) hE.hT hE.hS aw a0 (λi k hk=>by have:=zo ks 0 i L k hk;rw[du]at this;exact this)
  (λi o ho hk s=>by
   obtain⟨q1,q2⟩:=yM ((vg ao ho).1 hk).1;exact sU q1 q2 ks 0) (λi o k ho hk=>⟨((vg ao ho).2 k hk).1,((vg ao ho).2 k hk).2.imp (λh=>h) (λh=>by cases h)⟩) a3 (λs β a w hc=>by
   obtain⟨fp,g1,_⟩:=hg.now hc;exact ay w fp _ g1) (Q:=λe a' w'=>∃ab σ' af R',Q e σ' R'/\ab.nt=n/\cK en pn R' ab/\av ab af σ'.get σ'.ae a' w')
  (λs af a' w'⟨σ',h1,h2⟩h3=>⟨κ,σ',af,R,h1,hn,hg,by rw[h2]at h3;exact h3⟩) (ck 0 l ks).length (Array.replicate (ck 0 l ks).toArray.size a0a) _ β a {w with drawn:=w.drawn+1} (λ_ h=>h.elim) ax (yA _ σ) (Ac aw a1 h)
 rw[ve]at this;simpa[ve]using this
theorem fQ.gd{Q:St->GA->Prop}{b:Nat}{C:List AV}(id t:Nat)(hi:1000000<=id)(a1:n<id)(af:pn id=Y')(ht:σ.get t=.r (.pointer (T' ⟨b,0,Y'⟩)))(hr:∀u,(σ.get u).refs id=a0a)(h:fQ P n m lp en (mN pn id b) c (λσ' R'=>∃C',σ'.ae id=T' ⟨Z',.c C'⟩/\Q (σ'.close id b) (R'.star (.aJ b C'))) (rL σ id t C) R):fQ P n m lp en pn c Q σ (R.star (.aJ b C)):=by
 intro κ β a w QQ hn hg hC ao hQ;have ab:=hg;rw[<-hg.bC]at ab;obtain⟨ay,aw,h1,h2,h3⟩:=Pq (pn:=pn) (t:=t) (C:=C) (id:=id) hi f' (λi b' _ _=>by rw[hg.bC]) (λi b' hh e=>by rw[e,hg.bC,af]at hh;cases hh) ht hr ab hC;rw[hg.bC]at h2;refine h ay aw a w QQ (h1.trans hn) h2 h3 ao (λa4 a3 a5 R2 a2 w2⟨C',q0,q1⟩q2 q3 q4=>?_);obtain⟨a0,ax,p1,p2,p3⟩:=QY af q2 q3 q4 q0;exact hQ a0 ax _ _ a2 w2 q1 p1 p2 p3
theorem cR.aa6{Q:Exit->Act->World->Prop}{ι:Type}(st:ι->dK×St×GA)(μ:ι->Nat)(i0:ι)(h:∀i,cR P n (st i).1 pn c (Exit.then (λa w=>∃j κ β,μ j<μ i/\κ.nt=n/\cK (st j).1 pn (st j).2.2 κ/\av κ β (st j).2.1.get (st j).2.1.ae a w) Q) (st i).2.1 (st i).2.2):cR P n (st i0).1 pn (.loop c) Q (st i0).2.1 (st i0).2.2:=by
 intro κ β a w hn hg hC;refine JF (λi a w=>∃κ β,κ.nt=n/\cK (st i).1 pn (st i).2.2 κ/\av κ β (st i).2.1.get (st i).2.1.ae a w) μ i0 ⟨κ,β,hn,hg,hC⟩ (λi a w⟨κ,β,hn,hg,hC⟩=>?_);refine wp_mono (h i κ β a w hn hg hC) λe a' w' hq=>?_
 cases e with
 |normal=>
  obtain⟨j,ao,af,h1,h2,h3,h4⟩:=hq;exact⟨j,⟨ao,af,h2,h3,h4⟩,h1⟩
 |_=>exact hq
def GA.marks:List Nat->GA
 |[]=>.cQ
 |D::l=>(GA.marks l).star (GA.mark D)
def np(D:Nat):Deferred:={target:=.collected D,args:=#[]}
theorem Nx(hT:cU P T){fn:Func}{e:Exit}{post:AV->GA->Prop}{k:Nat}{rs:List ResultVar}{ts:List TypeId}(a0:fn.results=rs.toArray)(a1:fn.resultTypes=ts.toArray){τ:St}(h:dM T rs ts post e τ.live R):
 ∀(Ds:List Nat)(κ:Ctx)(β:Nat->Option (Nat×Nat))(a:Act)(w:World),cK en (λ_=>Y') (R.star (GA.marks Ds)) κ->av κ β τ.live.get τ.live.ae a w->LeavesInM Fence.wide k P fn a.tmps (tV en post) (Ds.map np) .returning w
 |[],κ,β,a,w,hg,hC=>by
  obtain⟨v,q1,q2⟩:=Hp (fn:=fn) hT (hg.le (GA.Dk _)) hC (by rw[a0,a1];exact h);exact⟨v,q1,q2⟩
 |D::Ds,κ,β,a,w,hg,hC=>by
  obtain⟨fp,⟨f,gg,k1,k2,k3,⟨g,g',m1,m2,m3,m4,m5⟩⟩,g2,g3,g4⟩:=hg.now hC;obtain⟨w1,af⟩:=nm (w.putObj D (.deferred Y'));have hk:(Instr.takeDeferred D).run P w=.ok [] w1:=by rw[<-af];exact run_takeDeferred m5
  have a7:w.heap.size=w1.heap.size:=by rw[<-af];simp[World.putObj]
  have aw:∀b,b≠D->w1.heap[b]?=w.heap[b]?:=λb hb=>by rw[<-af];exact World.putObj_heap_other hb
  have ao:gg D:=(m1 D).2 (.inr ((m4 D).2 rfl));have a3:¬f D:=λhf=>k2 D hf ao
  have a4:¬g D:=λhf=>m2 D hf ((m4 D).2 rfl)
  have ax:XG κ β τ.live.ae D:=.inl (g2 D ((k1 D).2 (.inr ao)));have ay:∀b,b<w.heap.size->XG κ β τ.live.ae b\/(f b\/g b)->XG κ β τ.live.ae b:=λb hb hx=>by
   rcases hx with hx|hx|hx
   .exact hx
   .exact .inl (g2 b ((k1 b).2 (.inl hx)))
   .exact .inl (g2 b ((k1 b).2 (.inr ((m1 b).2 (.inl hx)))))
  obtain⟨a6,h1,h2,h3,h4⟩:=hg.call (w':=w1) (R':=R.star (GA.marks Ds)) (fp':=λb=>f b\/g b) hC g2 g3
   ⟨f,g,λ_=>dr,λb hb a5=>k2 b hb ((m1 b).2 (.inl a5)),R.loc f' (λb hb hh=>aw b (λe=>by
    subst e;rcases hh with hh|hh
    .exact a3 hh
    .exact hh ax)) ay k3,GA.loc _ f' (λb hb hh=>aw b (λe=>by
    subst e;rcases hh with hh|hh
    .exact a4 hh
    .exact hh ax)) ay m3⟩ (λb hb hf=>(k1 b).2 (hf.imp id (λh=>(m1 b).2 (.inl h))))
   ⟨by rw[<-af];rfl,by rw[<-af];rfl,by rw[<-af];rfl,f',λb hb hf=>aw b (λe=>hf (by subst e;exact(k1 _).2 (.inr ao)))⟩
  have hb:cN τ.live.ae=τ.live.ae:=by rw[St.gm];exact DZ (Bg _)
  rw[hb]at h3;exact⟨J',.inl ⟨D,w1,rfl,hk,Nx hT a0 a1 h Ds a6 β a w1 h2 h3⟩⟩
theorem Yz(hT:cU P T){fn:Func}{e:Exit}{post:AV->GA->Prop}{k:Nat}{rs:List ResultVar}{ts:List TypeId}{Ds:List Nat}(ao:fn.results=rs.toArray)(aw:fn.resultTypes=ts.toArray)(hD:en.D=Ds.map np)(hg:cK en (λ_=>Y') (R.star (GA.marks Ds)) κ)(hC:av κ β σ.get σ.ae a w)(h:dM T rs ts post e σ.live R):
 bodyPostM Fence.wide k P fn (tV en post) e a w:=by
 have af:av κ β σ.live.get σ.live.ae a w:=by rw[St.iD,St.gm];exact hC.drop (nD _)
 have ab:a.defers=Ds.map np:=hC.gp.trans (hg.df.trans hD);have:=Nx (k:=k) hT ao aw h Ds κ β a w hg af;rcases h.1 with rfl|rfl
 .show LeavesInM _ _ _ _ _ _ _ _ _
  rw[ab];exact this
 .show LeavesInM _ _ _ _ _ _ _ _ _
  rw[ab];exact this
end
end
section
variable {k:IntKind}{xs:List Int}{rest:List Oper}{N d x:Nat}{o:Oper}{v:Value}
theorem lE.cut{w:World}(h:lE w v xs)(hN:N<=xs.length):
 ∃v',(Instr.sliceAt 29 v Y' (T' (.int k N)) Y').run a0c w=.ok v' w/\lE w v' (xs.take N)/\v'.ownBlock=v.ownBlock:=by
 have hl:(xs.take N).length=N:=by rw[fT];omega
 rcases h with⟨rfl,rfl⟩|⟨g,cap,cur,fz,rfl,q2,q3,q4,q5,q6,q7⟩
 .have h0:N=0:=by simp at hN;exact hN
  subst h0;have hb:=xa (P:=a0c) Z' 0 0 Y' (T' (.int k (0:Nat))) Y' 0 0 0 (.inl ⟨rfl,rfl⟩) (.inr ⟨k,rfl⟩) (.inl ⟨rfl,rfl⟩) (aM _) (aM _) (aM _) w;exact⟨_,zb (gi a0a) (t:=29) (e:=5) rfl hb,.inl ⟨rfl,rfl⟩,rfl⟩
 .have hb:=xa (P:=a0c) Z' xs.length cap Y' (T' (.int k (N:Nat))) Y' 0 N cap (.inl ⟨rfl,rfl⟩) (.inr ⟨k,rfl⟩) (.inl ⟨rfl,rfl⟩) (dU _) f' (aM _) w
  have e:(if cap=0 then T' (⟨g,0,Y'⟩:Addr)else(T' (⟨g,0,Y'⟩:Addr)).map (·.add (0*1)))=T' ⟨g,0,Y'⟩:=by
   split
   .rfl
   .simp[ji]
  refine⟨_,zb (gi a0a) (t:=29) (e:=5) rfl hb,?_,?_⟩
  .refine .inr ⟨g,cap,cur,fz,?_,q2,q3,by rw[hl];omega,q5,q6,?_⟩
   .rw[hl];exact fV (λa=>Value.slice a N cap) e
   .rw[hl]
    have:(cur.toList.take xs.length).take N=(cM xs).take N:=by rw[q7]
    rw[Kr,sC hN]at this;rw[this];simp[cM,List.map_take]
  .show Value.ownBlock (.slice (if cap=0 then T' (⟨g,0,Y'⟩:Addr)else(T' (⟨g,0,Y'⟩:Addr)).map (·.add (0*1))) (N-0) (cap-0))=_
   rw[e];rfl
section
variable {P:Program}{n:Nat}{en:dK}{pn:Nat->Option Nat}{R R0:GA}{σ:St}{ops:Array Oper}{K:St->GA->Prop}
theorem GL.VQ{y:Nat}(hop:o.op=.slice 29 (.tmp x) Y' (T' (.tmp y)) Y')(aw:o.guard=Y')(ao:o.dst=T' d)(hd:d<n)(hx:σ.get x=.r v)(hy:σ.get y=.r (.int k N))(hN:N<=xs.length)(hk:∀v',GL a0c n en pn ops rest K (σ.live.put (T' d) (.r v')) (R0.star (dE v' (xs.take N)))):GL a0c n en pn ops (o::rest) K σ (R0.star (dE v xs)):=by
 intro κ β a w Q hn hg hC hQ;obtain⟨fp,⟨f,g,k1,k2,k3,k4,k5⟩,g2,g3,g4⟩:=hg.now hC;have ab:=hC.rel x;rw[hx]at ab;have ab:=RI.aS ab;have af:=hC.rel y;rw[hy]at af;have af:=RI.aS af;obtain⟨v',r1,r2,r3⟩:=k4.cut (k:=k) hN;have ax:(execOp a.eval o).run a0c w=.ok (.value v') w:=by
  have e1:a.eval (.tmp x)=v:=ab;have e2:a.eval (.tmp y)=.int k N:=af;unfold execOp;simp only[hop,FU,ft,e1,e2,cC,r1,cz,cJ]
 obtain⟨ay,h1,h2,h3,h4⟩:=hg.call (w':=w) (R':=R0.star (dE v' (xs.take N))) (fp':=fp) hC g2 g3
  ⟨f,g,k1,k2,R0.loc (aM _) (λ_ _ _=>rfl) (λj hj hx=>by
   rcases hx with hx|hx
   .exact hx
   .exact .inl (g2 j hx)) k3,r2,λj=>by rw[r3];exact k5 j⟩ (λ_ _ h=>h) ⟨rfl,rfl,rfl,aM _,λ_ _ _=>rfl⟩
 refine oR (w':=w) aw ax (hk v' ay β _ _ Q (h1.trans hn) h2 ?_ hQ);rw[St.fh,St.eQ,St.iD,St.gm,ao];exact h3.put (λt' ht=>by cases ht;rw[h1,hn];exact hd) (RI.r _)
theorem GL.Ow(hop:o.op=.call ⟨.builtin .len,#[.tmp x],#[29]⟩)(af:o.guard=Y')(ab:o.dst=T' d)(hd:d<n)(hx:σ.get x=.r v)(k:GL a0c n en pn ops rest K (σ.put (T' d) (.r (.int .i64 xs.length))) (R0.star (dE v xs))):GL a0c n en pn ops (o::rest) K σ (R0.star (dE v xs)):=by
 refine GL.val (.r (.int .i64 xs.length)) af (λt ht=>by rw[ab]at ht;cases ht;exact hd) (λκ β a w hn hg hC=>?_) (by rw[ab];exact k);obtain⟨fp,⟨f,g,k1,k2,k3,k4,k5⟩,g2,g3,g4⟩:=hg.now hC;have hv:=hC.rel x;rw[hx]at hv;have hv:=RI.aS hv;refine⟨.int .i64 xs.length,?_,RI.r _⟩;have e1:a.eval (.tmp x)=v:=hv;obtain⟨ad,cap,ao⟩:∃ad cap,v=.slice ad xs.length cap:=by
  rcases k4 with⟨h1,h2⟩|⟨gg,cap,_,_,h1,_⟩
  .subst h2;exact⟨_,_,h1⟩
  .exact⟨_,_,h1⟩
 subst ao;unfold execOp;have hr:(Builtin.len_ #[29] o.type #[.slice ad xs.length cap]).run a0c w=.ok (.int .i64 xs.length) w:=by simp[Builtin.len_,run_underlying underlying29];rfl
 simp only[hop,resolve,invoke,builtin,cC,cJ,cz,lB,fX,kr,e1,hr]
theorem GA.aay:R.le (R.star (dE (.slice Y' 0 0) [])):=λw fp X h=>
 ⟨fp,λ_=>False,λ_=>J',λ_ _ h=>h,h,.inl ⟨rfl,rfl⟩,λ_=>by simp[Value.ownBlock]⟩
end
end
theorem abC(v0 v1 v2 v3 v4:Value)(m:Nat)(w:World)(R:Ending->FrameMode->World->Prop)(hR:R (.returned (.tuple #[])) .returning w):
 CallsDIn Fence.wide m a0c 27 #[v0,v1,v2,v3,v4] .returning w R:=by
 refine callsDIn_of_wpSIn func27 rfl a0b (λab cs hu=>?_);refine wpSIn_seq (wpSIn_region ?_);have af:recoverD (ab::cs)=none:=by simp only[recoverD,hu]
 have ao:∀(a:Act)(o:Oper),o.op=.call {callee:=.builtin .recover,args:=#[],argTypes:=#[]}->(execOp a.eval o).run a0c w=.ok .recover w:=λa o ho=>by
  unfold execOp;simp only[ho,resolve,invoke,builtin,cC,cJ,cz]
 show wpOpsSIn _ _ _ _ _ [0] _ _ _;simp only[wpOpsSIn];show _/\(if _ then _ else _);refine⟨λ_ _=>trivial,?_⟩;rw[au (by rfl),ao _ _ rfl];dsimp only;rw[af];dsimp only;show Code.wpSIn _ _ _ _ _ _ _ _;refine wpSIn_of_wpIn rfl (wpIn_wide.2 ?_);have ht:({tmps:=#[v0,v1,v2,v3,v4]++Array.replicate (f27.ntmps-(#[v0,v1,v2,v3,v4]:Array Value).size) undef,defers:=[]}:Act)={tmps:=#[v0,v1,v2,v3,v4]++Array.replicate 12 undef,defers:=[]}:=by rw[ntmps27];rfl
 rw[ht]
 go_wp2
 refine⟨rfl,.returning,by rw[<-hu],.tuple #[],?_,hR⟩;simp[results,results27]
section
variable {P:Program}{T:aL}{n:Nat}{en:dK}{pn:Nat->Option Nat}{R:GA}{σ:St}{κ:Ctx}{β:Nat->Option (Nat×Nat)}{a:Act}{w:World}
def u5(vs:Array Value):Deferred:={target:=.fn (.func 27) vs,args:=#[]}
theorem Yp(hT:cU a0c T){fn:Func}{e:Exit}{post:AV->GA->Prop}{m:Nat}{rs:List ResultVar}{ts:List TypeId}{v0 v1 v2 v3 v4:Value}(ao:fn.results=rs.toArray)(aw:fn.resultTypes=ts.toArray)(hD:en.D=[u5 #[v0,v1,v2,v3,v4]])(hg:cK en (λ_=>Y') R κ)(hC:av κ β σ.get σ.ae a w)(h:dM T rs ts post e σ.live R):
 bodyPostM Fence.wide m a0c fn (tV en post) e a w:=by
 have ab:av κ β (St.live σ).get (St.live σ).ae a w:=by rw[St.iD,St.gm];exact hC.drop (nD _)
 have af:a.defers=[u5 #[v0,v1,v2,v3,v4]]:=hC.gp.trans (hg.df.trans hD);obtain⟨v,q1,q2⟩:=Hp (fn:=fn) hT hg ab (by rw[ao,aw];exact h);have key:LeavesInM Fence.wide m a0c fn a.tmps (tV en post) a.defers .returning w:=by
  rw[af];refine⟨J',.inr ⟨(λh=>by cases h),Fn.func 27,_,27,_,rfl,rfl,λ_ _=>trivial,?_⟩⟩;refine abC v0 v1 v2 v3 v4 _ w _ ?_;exact⟨v,q1,q2⟩
 rcases h.1 with rfl|rfl
 .exact key
 .exact key
theorem cR.abD{id:Nat}{o1 o2:Oper}{y:Code}{Q:Exit->Act->World->Prop}(h1:o1.op=.makeFunc (.func 27) #[] #[.tmp 2,.tmp 3,.tmp 4,.tmp 5,.tmp 6])(g1:o1.guard=Y')(d1:o1.dst=T' 9)(h2:o2.op=.defer ⟨.value (.tmp 9),#[],#[]⟩)(g2:o2.guard=Y')(d2:o2.dst=Y')(ab:9<n)(hD:en.D=[])
 (k:∀v0 v1 v2 v3 v4,cR a0c n ⟨en.W,en.X,en.fp,en.sub,en.lt,[u5 #[v0,v1,v2,v3,v4]]⟩ pn y Q (σ.put (T' 9) .any) R):cR a0c n en pn (.seq (.region id #[o1,o2] a0a) y) Q σ R:=by
 intro κ β a w hn hg hC;refine wp_seq (wp_region_list ?_);have af:(execOp a.eval o1).run a0c w=.ok (.value (.func (.func 27) #[] #[a.eval (.tmp 2),a.eval (.tmp 3),a.eval (.tmp 4),a.eval (.tmp 5),a.eval (.tmp 6)])) w:=by
  unfold execOp;simp[h1,cC,cJ,Instr.makeFunc,cz]
 obtain⟨f,hf⟩:∃f:Value,Value.func (.func 27) #[] #[a.eval (.tmp 2),a.eval (.tmp 3),a.eval (.tmp 4),a.eval (.tmp 5),a.eval (.tmp 6)]=f:=⟨_,rfl⟩;rw[hf]at af;have ao:=hC.put (d:=T' 9) (x:=f) (v:=.any) (λt ht=>by cases ht;rw[hn];exact ab) (RI.any _);refine oR g1 af ?_;rw[d1];have ax:a.defers=[]:=hC.gp.trans (hg.df.trans hD);have he:(a.put (T' 9) f).eval (.tmp 9)=f:=by
  show(a.tmps.setIfInBounds 9 f).getD 9 undef=f;have:9<a.tmps.size:=by rw[hC.sz,hn];exact ab
  simp[iW,SR,this]
 refine wpList_plain g2 (λK hK=>?_);unfold Oper.wp;have a0:(execOp (a.put (T' 9) f).eval o2).run a0c w=.ok (.defer (u5 #[a.eval (.tmp 2),a.eval (.tmp 3),a.eval (.tmp 4),a.eval (.tmp 5),a.eval (.tmp 6)])) w:=by
  unfold execOp;simp only[h2,resolve,cC,cJ,cz,he];rw[<-hf];simp[Deferred.ofValue,u5]
 rw[a0,Oper.upon_defer];refine hK _ _ (wpList_nil ?_);rw[d2];obtain⟨ay,aw⟩:=hg.defer ao [u5 #[a.eval (.tmp 2),a.eval (.tmp 3),a.eval (.tmp 4),a.eval (.tmp 5),a.eval (.tmp 6)]];have e:(a.put (T' 9) f).defers=[]:=ax;show Code.wp _ _ _ _ _;rw[e];refine k _ _ _ _ _ _ β _ w ?_ ay ?_
 .exact hn
 .rw[St.fh,St.eQ];exact aw
end
end Go.Hl
