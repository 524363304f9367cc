/- Lemmas for TopSound and TopBracket. -/
import Derived.Test.YtpgglolpkbepjaaGreatTAY
import Derived.Test.YtpgglolpkbepjaaGreatTAR
set_option linter.unusedVariables false
set_option linter.unusedSimpArgs false
namespace Go.Hl
open Go.Proofs.Tryz
open Go.Proofs.Tryz renaming prog→a0c
open Option renaming some→T',none→Y'
open Bool renaming true→Z',false→a0a
open Go Go.RowKit Go.Proofs
set_option maxHeartbeats 8000000
set_option maxRecDepth 100000
@[push_cast] def acP:Sp:=rR 0 (λb x c y q d u e v p=>(dp b x c y q/\dp d u e v p/\q=p)/\0<zv d u)
 (λb x c y q d u e v _=>.aU [ba (kC (dq 239 q (zv b x) (zv d u)) (dq 239 q (zv b x) (zv e v)) (dq 239 q (zv c y) (zv d u)) (dq 239 q (zv c y) (zv e v))) (kD (dq 240 q (zv b x) (zv d u)) (dq 240 q (zv b x) (zv e v)) (dq 240 q (zv c y) (zv d u)) (dq 240 q (zv c y) (zv e v))) q,(0:Int)])
theorem Us:aj a0c 238 acP:=by
 refine aj.AA λb x c y q d u e v p⟨⟨h1,h2,h3⟩,hpos⟩=>?_
 have k1:=h1;have k2:=h2;obtain⟨⟨hx,hxl⟩,⟨hy,hyl⟩,_,q1,q2⟩:=k1;obtain⟨⟨hu,og⟩,⟨hv,hvl⟩,hle,_,_⟩:=k2;have hE:=iZ IB VE rP;have s1:(zv d u).sign=1:=si hpos;have s2:(zv e v).sign=1:=si f';have g1:(239:Nat)=239\/(239:Nat)=240:=.inl rfl;have g2:(240:Nat)=239\/(240:Nat)=240:=.inr rfl;obtain⟨N,eN⟩:=nm (kC (dq 239 q (zv b x) (zv d u)) (dq 239 q (zv b x) (zv e v)) (dq 239 q (zv c y) (zv d u)) (dq 239 q (zv c y) (zv e v)));obtain⟨M,eM⟩:=nm (kD (dq 240 q (zv b x) (zv d u)) (dq 240 q (zv b x) (zv e v)) (dq 240 q (zv c y) (zv d u)) (dq 240 q (zv c y) (zv e v)));rw[eN,eM];refine aB func238 ntmps238 ?_;refine aT ?_;refine ai.iG (ι:=Unit) (λ_=>⟨[(2,.ptr 2 0),(3,.ptr 3 0),(4,.ptr 4 0)],[(2,⟨Z',.c [b,x,c,y,q]⟩),(3,⟨Z',.c [d,u,e,v,p]⟩),(4,⟨Z',.c [a0a,.ns .u64 [],a0a,.ns .u64 [],(0:Int)]⟩)]⟩) ?_ (λ_=>?_)
 .refine an (A2 s1 s2) ?_
  exact⟨(),Le.mk a0b⟩
 .refine ai.iG (ι:=Unit) (λ_=>⟨[(2,.ptr 2 0),(3,.ptr 3 0),(4,.ptr 4 0),(6,.ptr 6 0)],[(2,⟨a0a,.c [b,x,c,y,q]⟩),(3,⟨Z',.c [d,u,e,v,p]⟩),(4,⟨Z',.c [a0a,.ns .u64 [],a0a,.ns .u64 [],(0:Int)]⟩),(6,⟨Z',.c [decide (N<0),dg N.natAbs]⟩)]⟩)
   (ai.wO hE.hT hE.hS (K1:=λσ=>σ=?sx) 2 ?_ ?_) (λ_=>?_)
  rotate_left
  .simp only[List.take]
   refine aK ?_;exact rfl
  .rintro σ1 rfl
   refine⟨_,_,_,[2],rfl,?_,rfl,rfl,rfl,rfl,?_⟩
   .exact⟨⟨rfl,qh _⟩,a0b⟩
   .simp only[List.drop]
    change et _ _ _ _ _ ⟨[(29,.fn 239 [.vp [b,x,c,y,q]]),(28,.agg [d,u,e,v,p]),(27,.agg [b,x,c,y,q]),(2,.ptr 2 0),(3,.ptr 3 0),(4,.ptr 4 0)],[(2,⟨a0a,.c [b,x,c,y,q]⟩),(3,⟨Z',.c [d,u,e,v,p]⟩),(4,⟨Z',.c [a0a,.ns .u64 [],a0a,.ns .u64 [],(0:Int)]⟩)]⟩;refine an (A2 g1 eN) ?_;exact⟨(),Le.mk a0b⟩
  refine ai.iG (ι:=Unit) (λ_=>⟨[(2,.ptr 2 0),(3,.ptr 3 0),(4,.ptr 4 0),(6,.ptr 6 0),(9,.ptr 9 0)],[(2,⟨a0a,.c [b,x,c,y,q]⟩),(3,⟨Z',.c [d,u,e,v,p]⟩),(4,⟨Z',.c [a0a,.ns .u64 [],a0a,.ns .u64 [],(0:Int)]⟩),(6,⟨Z',.c [decide (N<0),dg N.natAbs]⟩),(9,⟨Z',.c [decide (M<0),dg M.natAbs]⟩)]⟩)
   (ai.wO hE.hT hE.hS (K1:=λσ=>σ=?sy) 2 ?_ ?_) (λ_=>?_)
  rotate_left
  .simp only[List.take]
   refine aK ?_;exact rfl
  .rintro σ1 rfl
   refine⟨_,_,_,[2],rfl,?_,rfl,rfl,rfl,rfl,?_⟩
   .exact⟨⟨rfl,qh _⟩,a0b⟩
   .simp only[List.drop]
    change et _ _ _ _ _ ⟨[(36,.fn 240 [.vp [b,x,c,y,q]]),(35,.agg [d,u,e,v,p]),(34,.agg [b,x,c,y,q]),(2,.ptr 2 0),(3,.ptr 3 0),(4,.ptr 4 0),(6,.ptr 6 0)],[(2,⟨a0a,.c [b,x,c,y,q]⟩),(3,⟨Z',.c [d,u,e,v,p]⟩),(4,⟨Z',.c [a0a,.ns .u64 [],a0a,.ns .u64 [],(0:Int)]⟩),(6,⟨Z',.c [decide (N<0),dg N.natAbs]⟩)]⟩;refine an (A2 g2 eM) ?_;exact⟨(),Le.mk a0b⟩
  refine aK ?_;exact pL
@[push_cast] def rM(d u:Int):AV:=.agg [decide (d<0),dg d.natAbs,decide (u<0),dg u.natAbs]
@[push_cast] def ae7:Sp:=Rv 0 (λb x q n m=>(Lm x/\x.length<61)/\(0<=zv b x/\zv b x*2<=m*2^q.toNat)/\(0<=q/\q<=1200)/\(1<=n/\n<=400)/\0<=m/\m<=4) (λ_ _ _ _ _=>.r (.bool Z'))
theorem Bh:aj a0c 123 ae7:=by
 refine aj.TA λb x q n m⟨⟨hx,hxl⟩,⟨h0,hle⟩,⟨q1,q2⟩,⟨n1,n2⟩,m1,m2⟩=>?_
 have hE:=nZ rP oY qN tR;have bX:=dN (b:=b) hx (k:=60) f';have bM:Bz 10 m:=Bz.small f' f';have hs:0<=(zv b x).sign:=by
  rcases Ce (zv b x) 0 with h|h|h
  .omega
  .rw[h];decide
  .rw[si h];decide
 have ab:sh q=q.toNat:=ia q1 f';have hq:sh q<=1200:=by rw[ab];omega
 have z1:=bX.shl (sh 1);have z2:=bM.shl (sh q);have e1:zv b x*2^sh 1=zv b x*2:=by rw[ia p' p'];rfl
 rw[<-ab]at hle;rw[<-e1]at hle;obtain⟨X,hX⟩:=nm (zv b x);rw[hX]at hs hle z1;obtain⟨A,hA⟩:=nm (X*2^sh 1);obtain⟨B,hB⟩:=nm (m*2^sh q);rw[hA,hB]at hle;rw[hA]at z1;rw[hB]at z2;obtain⟨o1,af⟩:=z1.lz (by rw[ia p' p'];decide);obtain⟨o2,ao⟩:=z2.lz f';obtain⟨o3,aw⟩:=bM.lz f';refine aB func123 ntmps123 ?_;refine an (A9 q1 q2 n1 n2 hX hs hA hB (Mq.2 hle)) ?_;exact pL
def lD(x y:List Int):Prop:=(Lm x/\x.length<40)/\(Lm y/\y.length<40)
@[push_cast] def aeT:Sp:=Rr 0 (λ_ x _ y _ t k q=>lD x y/\(Lm t/\t.length<40)/\(1<=k/\k<=1000000)/\0<=q/\q<=2400)
 (λb x c y d t k q=>rM (rt (zv b x,zv c y) (zv d t) (k*2^q.toNat)).1 (rt (zv b x,zv c y) (zv d t) (k*2^q.toNat)).2)
theorem BP:aj a0c 150 aeT:=by
 refine aj.Ts λb x c y d t k q⟨⟨⟨hx,hxl⟩,⟨hy,hyl⟩⟩,⟨ht,htl⟩,⟨k1,k2⟩,q1,q2⟩=>?_
 have hE:=yk qN oY zA B9 Js;have bX:=dN (b:=b) hx (k:=39) f';have bY:=dN (b:=c) hy (k:=39) f';have bT:=dN (b:=d) ht (k:=39) f';have bK:Bz 20 k:=Bz.small f' f';have aw:sh q=q.toNat:=ia q1 f';have hq:sh q<=2400:=by rw[aw];omega
 rw[<-aw];have z0:=bK.shl (sh q);have ay:0<k*2^sh q:=jZ f' (jl p');obtain⟨D,hD⟩:=nm (k*2^sh q);rw[hD]at z0 ay|-;obtain⟨X,hX⟩:=nm (zv b x);obtain⟨Y,hY⟩:=nm (zv c y);obtain⟨T,hT⟩:=nm (zv d t);rw[hX]at bX;rw[hY]at bY;rw[hT]at bT;rw[hX,hY,hT];have z1:=bX.mul bT;have z2:=bY.mul bT;unfold rt iI;obtain⟨A,hA⟩:=nm (X*T);obtain⟨B,hB⟩:=nm (Y*T);rw[hA]at z1;rw[hB]at z2;rw[hA,hB];obtain⟨o0,a0⟩:=bK.lz f';obtain⟨o1,a1⟩:=z1.lz f';obtain⟨o2,a3⟩:=z2.D3 f';obtain⟨o3,a4⟩:=z0.D3 f';have a5:(dg D.natAbs).length<10000000:=f';have af:¬D=0:=f';have ab:decide (D≠0)=true:=fu af;have ao:rz A D=A%D:=aq af;obtain⟨Q,hQ⟩:=nm (A/D);obtain⟨R,hR⟩:=nm (A%D);obtain⟨U,hU⟩:=nm (-((-B).fdiv D));rw[hR]at ao;have ax:-(-B/D)=U:=by rw[<-hU,lW _ f']
 rw[hQ,hU];refine aB func150 ntmps150 ?_;refine aT ?_;refine cy hD ?_;refine ai.iG (ι:=Unit) (λ_=>⟨[(4,.ptr 4 0),(5,.ptr 5 0),(8,.ptr 8 0),(9,.ptr 9 0),(10,.ptr 10 0)],[(4,⟨Z',.c [b,x,c,y]⟩),(5,⟨Z',.c [d,t]⟩),(8,⟨Z',.c [a0a,.ns .u64 [],a0a,.ns .u64 []]⟩),(9,⟨Z',.c [decide (D<0),dg D.natAbs]⟩),(10,⟨Z',.c [decide (Q<0),dg Q.natAbs]⟩)]⟩) ?_ (λ_=>?_)
 .refine ai.regionF [(4,4),(5,5),(9,9)] [(10,10),(11,11)] [(20,0,4)] hE.hT hE.hS hE.hm ?_ (an (A6 hX hT hA hQ ao ab) ?_)
  .exact HV ⟨_,rfl⟩ ⟨_,rfl⟩ ⟨_,rfl⟩
  exact⟨(),Le.mk a0b⟩
 refine aG [(4,4),(5,5),(9,9)] [(13,9)] [(30,0,4)] (A6 hY hT hB hU ax ab) ?_;exact pL
theorem Bz.jN{n:Nat}{z:Int}(h:Bz n z)(hn:n<=2496):Lm (dg z.natAbs)/\(dg z.natAbs).length<40:=Bz.ln (k:=39) h hn _
theorem Eh:Lm (dg (Int.natAbs 1))/\(dg (Int.natAbs 1)).length<40:=Bz.jN (n:=5) (z:=1) (Bz.small p' p') f'
@[push_cast] def aen:Sp:=Rq 0 (λ_ x _ y k=>lD x y/\1<=k/\k<=1000000) (λb x c y k=>rM (rt (zv b x,zv c y) 1 (k*2^0)).1 (rt (zv b x,zv c y) 1 (k*2^0)).2)
theorem aaY:aj a0c 151 aen:=by
 refine aj.PI λb x c y k⟨hP,k1,k2⟩=>?_
 have hE:=eF qN BP;have ab:zv a0a (dg (Int.natAbs 1))=1:=cI 1;obtain⟨f1,f2⟩:=Eh;refine aB func151 ntmps151 ?_;refine aT ?_;refine aG [(2,2),(4,4)] [] [] ab ?_;exact pL
@[push_cast] def aes:Sp:=I8 0 (λ_ x _ y _ u _ v=>lD x y/\lD u v) (λb x c y d u e v=>rM (zv b x+zv d u) (zv c y+zv e v))
theorem PY:aj a0c 148 aes:=by
 refine aj.PP λb x c y d u e v⟨⟨⟨hx,hxl⟩,⟨hy,hyl⟩⟩,⟨hu,og⟩,⟨hv,hvl⟩⟩=>?_
 have hE:=di r7;obtain⟨D,hD⟩:=nm (zv b x+zv d u);obtain⟨U,hU⟩:=nm (zv c y+zv e v);rw[hD,hU];refine aB func148 ntmps148 ?_;refine aT ?_;refine aG [(2,2),(3,3),(4,4)] [] [(5,0,2),(7,2,3),(10,5,2),(12,7,3)] (A2 hD hU) ?_;exact pL
@[push_cast] def ae0:Sp:=I8 0 (λ_ x _ y _ u _ v=>lD x y/\lD u v) (λb x c y d u e v=>rM (zv b x-zv e v) (zv c y-zv d u))
theorem ZN:aj a0c 251 ae0:=by
 refine aj.PP λb x c y d u e v⟨⟨⟨hx,hxl⟩,⟨hy,hyl⟩⟩,⟨hu,og⟩,⟨hv,hvl⟩⟩=>?_
 have hE:=di zD;obtain⟨D,hD⟩:=nm (zv b x-zv e v);obtain⟨U,hU⟩:=nm (zv c y-zv d u);rw[hD,hU];refine aB func251 ntmps251 ?_;refine aT ?_;refine aG [(2,2),(3,3),(4,4)] [] [(5,0,2),(7,2,3),(10,5,2),(12,7,3)] (A2 hD hU) ?_;exact pL
@[push_cast] def af3:Sp:=I5 0 (λ_ _ _ _ _=>True) (λ_ b x c y=>.agg [b,x,c,y])
theorem Sa:aj a0c 219 af3:=by
 refine aj.IP λk b x c y _=>?_
 have hE:=env dC;refine aB func219 ntmps219 ?_;refine aK ?_;exact pL
@[push_cast] def aei:Sp:=I5 0 (λk _ x _ y=>lD x y/\0<=k/\k<=1000) (λk b x c y=>rM (rt (zv b x,zv c y) 1 ((2*k+1)*2^0)).1 (rt (zv b x,zv c y) 1 ((2*k+1)*2^0)).2)
theorem Pk:aj a0c 126 aei:=by
 refine aj.IP λk b x c y⟨hP,k1,k2⟩=>?_
 have hE:=di aaY;refine aB func126 ntmps126 ?_;refine aK ?_;exact pL
@[push_cast] def aem:Sp:=rS 0 (λq=>0<=q/\q<=1200) (λq=>rM (1*2^q.toNat) (1*2^q.toNat))
theorem Iw:aj a0c 217 aem:=by
 refine aj.I λq⟨q1,q2⟩=>?_
 have hE:=eF qN oY;have ab:zv a0a (dg (Int.natAbs 1))=1:=cI 1;obtain⟨f1,f2⟩:=Eh;have f3:(dg (Int.natAbs 1)).length<10000000:=f';have af:sh q=q.toNat:=ia q1 f';rw[<-af];obtain⟨W,hW⟩:∃W:Int,1*2^sh q=W:=⟨_,rfl⟩;rw[hW];refine aB func217 ntmps217 ?_;refine an (A2 ab hW) ?_;exact pL
@[push_cast] def ad4:Sp where
 kind:=0
 pre
  |[.r (.int .i64 k),.agg [.r (.bool b),.ns .u64 x,.r (.bool c),.ns .u64 y],.vp [.r (.bool d),.ns .u64 t],.vp [.r (.int .i64 q)]]=>lD x y/\(Lm t/\t.length<40)/\(1<=k/\k<=400)/\0<=q/\q<=1200
  |_=>False
 res
  |[.r (.int .i64 k),.agg [.r (.bool b),.ns .u64 x,.r (.bool c),.ns .u64 y],.vp [.r (.bool d),.ns .u64 t],.vp [.r (.int .i64 q)]]=>rM (rt (zv b x,zv c y) (zv d t) (1*2^(2*q).toNat)).1 (rt (zv b x,zv c y) (zv d t) (1*2^(2*q).toNat)).2
  |_=>.any
theorem L8:aj a0c 149 ad4:=by
 refine sz λargs hp=>?_
 split at hp;rotate_left;cases hp;rename_i k b x c y d t q;obtain⟨hP,ht,⟨k1,k2⟩,q1,q2⟩:=hp;have hE:=di BP;refine aB func149 ntmps149 ?_;refine aK ?_;exact pL
@[push_cast] def ad5:Sp where
 kind:=0
 pre
  |[.r (.int .i64 k),.agg [.r (.bool b),.ns .u64 x,.r (.bool c),.ns .u64 y],.vp [.r (.bool d),.ns .u64 t],.vp [.r (.int .i64 q)]]=>lD x y/\(Lm t/\t.length<40)/\(1<=k/\k<=400)/\0<=q/\q<=1200
  |_=>False
 res
  |[.r (.int .i64 k),.agg [.r (.bool b),.ns .u64 x,.r (.bool c),.ns .u64 y],.vp [.r (.bool d),.ns .u64 t],.vp [.r (.int .i64 q)]]=>rM (rt (zv b x,zv c y) (zv d t) (k*2^(q).toNat)).1 (rt (zv b x,zv c y) (zv d t) (k*2^(q).toNat)).2
  |_=>.any
theorem U1:aj a0c 218 ad5:=by
 refine sz λargs hp=>?_
 split at hp;rotate_left;cases hp;rename_i k b x c y d t q;obtain⟨hP,ht,⟨k1,k2⟩,q1,q2⟩:=hp;have hE:=di BP;refine aB func218 ntmps218 ?_;refine aK ?_;exact pL
@[push_cast] def ad6:Sp where
 kind:=0
 pre
  |[.r (.int .i64 k),.agg [.r (.bool b),.ns .u64 x,.r (.bool c),.ns .u64 y],.vp [.r (.bool d),.ns .u64 t],.vp [.r (.int .i64 q)]]=>lD x y/\(Lm t/\t.length<40)/\(1<=k/\k<=400)/\0<=q/\q<=1200
  |_=>False
 res
  |[.r (.int .i64 k),.agg [.r (.bool b),.ns .u64 x,.r (.bool c),.ns .u64 y],.vp [.r (.bool d),.ns .u64 t],.vp [.r (.int .i64 q)]]=>rM (rt (zv b x,zv c y) (zv d t) ((2*k*(2*k+1))*2^(2*q).toNat)).1 (rt (zv b x,zv c y) (zv d t) ((2*k*(2*k+1))*2^(2*q).toNat)).2
  |_=>.any
theorem U2:aj a0c 249 ad6:=by
 refine sz λargs hp=>?_
 split at hp;rotate_left;cases hp;rename_i k b x c y d t q;obtain⟨hP,ht,⟨k1,k2⟩,q1,q2⟩:=hp;have hE:=di BP;have m1:1<=2*k*(2*k+1)/\2*k*(2*k+1)<=800*801:=by
  have h1:=Cg (show 2*k<=800 from f') (show 2*k+1<=801 from f') f' p';have h2:=Cg (show 1<=2*k from f') (show 1<=2*k+1 from f') p' f';omega
 obtain⟨M,hM⟩:=nm (2*k*(2*k+1));rw[hM]at m1|-;refine aB func249 ntmps249 ?_;refine an hM ?_;exact pL
@[push_cast] def ad7:Sp where
 kind:=0
 pre
  |[.r (.int .i64 k),.agg [.r (.bool b),.ns .u64 x,.r (.bool c),.ns .u64 y],.vp [.r (.bool d),.ns .u64 t],.vp [.r (.int .i64 q)]]=>lD x y/\(Lm t/\t.length<40)/\(1<=k/\k<=400)/\0<=q/\q<=1200
  |_=>False
 res
  |[.r (.int .i64 k),.agg [.r (.bool b),.ns .u64 x,.r (.bool c),.ns .u64 y],.vp [.r (.bool d),.ns .u64 t],.vp [.r (.int .i64 q)]]=>rM (rt (zv b x,zv c y) (zv d t) (((2*k-1)*2*k)*2^(2*q).toNat)).1 (rt (zv b x,zv c y) (zv d t) (((2*k-1)*2*k)*2^(2*q).toNat)).2
  |_=>.any
theorem U3:aj a0c 250 ad7:=by
 refine sz λargs hp=>?_
 split at hp;rotate_left;cases hp;rename_i k b x c y d t q;obtain⟨hP,ht,⟨k1,k2⟩,q1,q2⟩:=hp;have hE:=di BP;have m1:1<=(2*k-1)*2*k/\(2*k-1)*2*k<=1600*400:=by
  have h1:=Cg (show(2*k-1)*2<=1600 from f') (show k<=400 from f') f' p';have h2:=Cg (show 1<=(2*k-1)*2 from f') (show 1<=k from f') p' f';omega
 obtain⟨M,hM⟩:=nm ((2*k-1)*2*k);rw[hM]at m1|-;refine aB func250 ntmps250 ?_;refine an hM ?_;exact pL
def sH(R:Nat->(Int×Int)×(Int×Int))(tm:Nat->Int×Int->Int×Int)(N:Nat):Prop:=
 ∀k,k<=N->Bz 2400 (R k).1.1/\Bz 2400 (R k).1.2/\Bz 2400 (R k).2.1/\Bz 2400 (R k).2.2/\Bz 2400 (tm k (R k).2).1/\Bz 2400 (tm k (R k).2).2
@[push_cast] def I9(g h:Nat)(nf:Int->Int->Nat->Int×Int->Int×Int)(tf:Nat->Int×Int->Int×Int):Sp where
 kind:=0
 pre
  |[.r (.int .i64 n),.agg [.r (.bool b),.ns .u64 x,.r (.bool c),.ns .u64 y],.fn g' [.vp [.r (.bool d),.ns .u64 t],.vp [.r (.int .i64 q)]],.fn h' []]=>(g'=g/\h'=h)/\(Lm t/\t.length<40)/\(0<=q/\q<=1200)/\(0<=n/\n<400)/\(b=decide (zv b x<0)/\x=dg (zv b x).natAbs/\c=decide (zv c y<0)/\y=dg (zv c y).natAbs)/\sH (iV (zv b x,zv c y) (nf (zv d t) q) tf) tf n.toNat
  |_=>False
 res
  |[.r (.int .i64 n),.agg [.r (.bool b),.ns .u64 x,.r (.bool c),.ns .u64 y],.fn _ [.vp [.r (.bool d),.ns .u64 t],.vp [.r (.int .i64 q)]],.fn _ []]=>.aU [zi (rising n.toNat (zv b x,zv c y) (nf (zv d t) q) tf).1,zi (rising n.toNat (zv b x,zv c y) (nf (zv d t) q) tf).2,(0:Int)]
  |_=>.any
@[push_cast] def sT(l:List (Nat×AV))(P S:Int×Int):St:=⟨l,[(5,⟨Z',.c [decide (P.1<0),dg P.1.natAbs,decide (P.2<0),dg P.2.natAbs]⟩),(11,⟨Z',.c [decide (S.1<0),dg S.1.natAbs,decide (S.2<0),dg S.2.natAbs]⟩),(8,⟨Z',.c [a0a,.ns .u64 []]⟩),(9,⟨Z',.c [a0a,.ns .u64 []]⟩)]⟩
theorem Qw{g h:Nat}{nf:Int->Int->Nat->Int×Int->Int×Int}{tf:Nat->Int×Int->Int×Int}(hV:(g=149/\h=126/\(nf=λ(t q:Int)(_:Nat)(p:Int×Int)=>rt p t (1*2^(2*q).toNat))/\tf=lR)\/(g=218/\h=219/\(nf=λ(t q:Int)(k:Nat)(p:Int×Int)=>rt p t ((k:Int)*2^q.toNat))/\tf=λ_ p=>p)):aj a0c 124 (I9 g h nf tf):=by
 refine sz λargs hp=>?_
 split at hp;rotate_left;cases hp;rename_i n b x c y g' d t q h';obtain⟨⟨rfl,rfl⟩,⟨ht,bb⟩,⟨q1,q2⟩,⟨n1,n2⟩,⟨c1,c2,c3,c4⟩,hB⟩:=hp;have hE:=MS L8 Pk U1 Sa PY Ff oY r7;obtain⟨N,rfl⟩:=fI n1;rw[dD]at hB|-;obtain⟨F,hF⟩:∃F,F=(zv b x,zv c y):=⟨_,rfl⟩;obtain⟨T,hT⟩:=nm (zv d t);obtain⟨R,hR⟩:∃R,R=iV F (nf T q) tf:=⟨_,rfl⟩;rw[hT,<-hF]at hB|-;have r0:R 0=((0,0),F):=by rw[hR];rfl
 have rs:∀k,R (k+1)=(((R k).1.1+(tf k (R k).2).1,(R k).1.2+(tf k (R k).2).2),nf T q (k+1) (R k).2):=by intro k;rw[hR];rfl
 have rr:rising N F (nf T q) tf=((R N).1.1,(R N).1.2+2*(tf N (R N).2).2):=by rw[hR];rfl
 rw[<-hR]at hB;rw[rr];clear rr hR;have fit:∀k,k<=N->(Lm (dg (R k).1.1.natAbs)/\(dg (R k).1.1.natAbs).length<40)/\(Lm (dg (R k).1.2.natAbs)/\(dg (R k).1.2.natAbs).length<40)/\lD (dg (R k).2.1.natAbs) (dg (R k).2.2.natAbs)/\lD (dg (tf k (R k).2).1.natAbs) (dg (tf k (R k).2).2.natAbs):=by
  intro k hk;obtain⟨a,b',c',d',e,f⟩:=hB k hk;exact⟨a.jN f',b'.jN f',⟨c'.jN f',d'.jN f'⟩,e.jN f',f.jN f'⟩
 have z1:=(hB N (aM N)).2.2.2.2.2.shl (sh 1);have F1:(R 0).2=F:=by rw[r0]
 rcases hV with⟨hg,hh,aw,ao⟩|⟨hg,hh,aw,ao⟩
 all_goals
  refine aB func124 ntmps124 ?_;refine aT ?_;refine aT ?_;refine ai.iG (ι:=Unit) (λ_=>sT [(0,(N:Int)),(3,.fn h' []),(5,.ptr 5 0),(8,.ptr 8 0),(9,.ptr 9 0),(11,.ptr 11 0)] (R N).2 (R N).1) ?_ (λ_=>?_)
  rotate_left
  .subst hh hg
   obtain⟨⟨f1,ab⟩,⟨f2,af⟩,kP,kW⟩:=fit N (aM N);have z2:=(hB N (aM N)).2.1;obtain⟨⟨⟨S1,S2⟩,P1,P2⟩,hP⟩:=nm (R N);rw[hP]at f1 ab f2 af kP kW z2 z1|-;obtain⟨⟨W1,W2⟩,hW⟩:=nm (tf N (P1,P2));dsimp only at f1 ab f2 af kP kW z2 z1|-;rw[hW]at kW z1|-;dsimp only at kW z1|-;obtain⟨H,hH⟩:=nm (W2*2^sh 1);have ay:2*W2=H:=by rw[<-hH,ia p' p',gD];rfl
   rw[hH]at z1;obtain⟨o1,bc⟩:=z1.lz (by rw[ia p' p'];decide);obtain⟨U,hU⟩:=nm (S2+H);rw[ay,hU];have a5:(dg S1.natAbs).length<10000000:=f';have a6:(dg S2.natAbs).length<10000000:=f';have ax:=kW.2;have a7:(dg W2.natAbs).length<10000000:=f';obtain⟨f6,_⟩:=ax;clear fit hB rs r0 F1 ab af;refine ai.seq ?_;rw[ao]at hW
   first
    |(
     have w1:(rt (P1,P2) 1 ((2*(N:Int)+1)*1)).1=W1:=fV Prod.fst hW;have w2:(rt (P1,P2) 1 ((2*(N:Int)+1)*1)).2=W2:=fV Prod.snd hW;refine ai.regionF [(11,11),(5,5),(8,8),(9,9)] [] [(29,0,11),(32,3,11)] hE.hT hE.hS hE.hm (yH ⟨_,rfl⟩ ⟨_,rfl⟩ ⟨_,rfl⟩ ⟨_,rfl⟩) (an (A4 w1 w2 hH hU) ?_))
    |(
     cases hW;refine ai.regionF [(11,11),(5,5),(8,8),(9,9)] [] [(29,0,11),(32,3,11)] hE.hT hE.hS hE.hm (yH ⟨_,rfl⟩ ⟨_,rfl⟩ ⟨_,rfl⟩ ⟨_,rfl⟩) (an (A2 hH hU) ?_))
   exact pL
  refine aK ?_;refine ai.loop (ι:={k:Nat // k<=N}) (λk=>sT [(0,(N:Int)),(2,.fn g' [.vp [d,t],.vp [q]]),(3,.fn h' []),(5,.ptr 5 0),(8,.ptr 8 0),(9,.ptr 9 0),(11,.ptr 11 0),(13,(N:Int)),(14,(k.1:Int))] (R k.1).2 (R k.1).1) (λk=>N-k.1) ⟨0,dU _⟩ ?_ ?_
  .have g1:decide ((R 0).2.1<0)=b/\dg (R 0).2.1.natAbs=x/\decide ((R 0).2.2<0)=c/\dg (R 0).2.2.natAbs=y:=by rw[r0,hF];exact⟨c1.symm,c2.symm,c3.symm,c4.symm⟩
   have g2:decide ((R 0).1.1<0)=a0a/\dg (R 0).1.1.natAbs=[]/\decide ((R 0).1.2<0)=a0a/\dg (R 0).1.2.natAbs=[]:=by rw[r0];exact⟨rfl,ky,rfl,ky⟩
   exact Le.mk (And.intro g1 g2)
  rintro⟨k,hk⟩;dsimp only;obtain⟨⟨f1,ab⟩,⟨f2,af⟩,kP,kW⟩:=fit k hk;have rk:=rs k;clear fit hB rs r0 F1 z1;obtain⟨⟨⟨S1,S2⟩,P1,P2⟩,hP⟩:=nm (R k);rw[hP]at rk f1 ab f2 af kP kW|-;obtain⟨⟨W1,W2⟩,hW⟩:=nm (tf k (P1,P2));dsimp only at rk f1 ab f2 af kP kW|-;rw[hW]at rk kW;dsimp only at rk kW;have kS:lD (dg S1.natAbs) (dg S2.natAbs):=⟨⟨f1,ab⟩,f2,af⟩;rcases dQ k N with a0|eJ
  .obtain⟨⟨⟨a1,a2⟩,b1,b2⟩,ha⟩:=nm (R (k+1))
   rw[ha,aw]at rk;simp only[db,vw,zF]at rk;obtain⟨⟨a3,a4⟩,rb⟩:=rk;have p1:=a3.symm;have p2:=a4.symm;have m1:=fV Prod.fst rb.symm;have m2:=fV Prod.snd rb.symm;dsimp only at m1 m2;rw[ao]at hW;refine cy (show(k:Int)<N from f') ?_;refine ai.seq ?_;refine ai.eo (by rfl) ?_;refine ai.skip ?_;refine ai.seq ?_;refine ai.block ?_;refine aT ?_;subst hh hg;refine ai.seq ?_
   first
    |(
     have w1:(rt (P1,P2) 1 ((2*(k:Int)+1)*1)).1=W1:=fV Prod.fst hW;have w2:(rt (P1,P2) 1 ((2*(k:Int)+1)*1)).2=W2:=fV Prod.snd hW;refine ai.regionF [(11,11),(5,5)] [] [] hE.hT hE.hS hE.hm (qF ⟨_,rfl⟩ ⟨_,rfl⟩) (an (A7 hT w1 w2 p1 p2 m1 m2) ?_))
    |(
     cases hW;refine ai.regionF [(11,11),(5,5)] [] [] hE.hT hE.hS hE.hm (qF ⟨_,rfl⟩ ⟨_,rfl⟩) (an (A5 hT p1 p2 m1 m2) ?_))
   exact⟨⟨k+1,a0⟩,by rw[ha];exact Le.mk a0b,N'⟩
  .obtain rfl:N=k:=f'
   refine cy (show¬(N:Int)<N from f') ?_;refine ai.seq ?_;refine ai.dz (by rfl) ?_;refine ai.exit ?_;exact⟨(),by rw[hP];exact Le.mk a0b⟩
@[push_cast] def aeB:Sp:=I9 218 219 (λt q k p=>rt p t ((k:Int)*2^q.toNat)) (λ_ p=>p)
@[push_cast] def aeA:Sp:=I9 149 126 (λt q _ p=>rt p t (1*2^(2*q).toNat)) lR
theorem abQ:aj a0c 124 aeB:=Qw (.inr ⟨rfl,rfl,rfl,rfl⟩)
theorem abP:aj a0c 124 aeA:=Qw (.inl ⟨rfl,rfl,rfl,rfl⟩)
theorem Pj{k:Nat}(h:k<1000):bits .and .i64 (k:Int) 1=((k%2:Nat):Int):=by
 have:=yz (k:Int) 1 p' 1 p';rw[this];omega
@[push_cast] def EL(g h:Nat)(nf:Int->Int->Nat->Int×Int->Int×Int)(tf:Nat->Int×Int->Int×Int):Sp where
 kind:=0
 pre
  |[.r (.int .i64 n),.agg [.r (.bool b),.ns .u64 x,.r (.bool c),.ns .u64 y],.fn g' [.vp [.r (.bool d),.ns .u64 t],.vp [.r (.int .i64 q)]],.fn h' []]=>(g'=g/\h'=h)/\(Lm t/\t.length<40)/\(0<=q/\q<=1200)/\(0<=n/\n<200)/\(b=decide (zv b x<0)/\x=dg (zv b x).natAbs/\c=decide (zv c y<0)/\y=dg (zv c y).natAbs)/\sH (jT (zv b x,zv c y) (nf (zv d t) q) tf) tf (2*n.toNat)
  |_=>False
 res
  |[.r (.int .i64 n),.agg [.r (.bool b),.ns .u64 x,.r (.bool c),.ns .u64 y],.fn _ [.vp [.r (.bool d),.ns .u64 t],.vp [.r (.int .i64 q)]],.fn _ []]=>.aU [zi (jg n.toNat (zv b x,zv c y) (nf (zv d t) q) tf).1,zi (jg n.toNat (zv b x,zv c y) (nf (zv d t) q) tf).2,(0:Int)]
  |_=>.any
theorem Jl{g h:Nat}{nf:Int->Int->Nat->Int×Int->Int×Int}{tf:Nat->Int×Int->Int×Int}(hV:(g=149/\h=126/\(nf=λ(t q:Int)(_:Nat)(p:Int×Int)=>rt p t (1*2^(2*q).toNat))/\tf=lR)\/((g=249/\(nf=λ(t q:Int)(k:Nat)(p:Int×Int)=>rt p t ((2*(k:Int)*(2*(k:Int)+1))*2^(2*q).toNat))\/g=250/\(nf=λ(t q:Int)(k:Nat)(p:Int×Int)=>rt p t (((2*(k:Int)-1)*2*(k:Int))*2^(2*q).toNat)))/\h=219/\tf=λ_ p=>p)):aj a0c 248 (EL g h nf tf):=by
 refine sz λargs hp=>?_
 split at hp;rotate_left;cases hp;rename_i n b x c y g' d t q h';obtain⟨⟨rfl,rfl⟩,⟨ht,bc⟩,⟨q1,q2⟩,⟨n1,n2⟩,⟨c1,c2,c3,c4⟩,hB⟩:=hp;have hE:=Dj L8 Pk U2 U3 Sa PY ZN Ff r7;obtain⟨N0,rfl⟩:=fI n1;rw[dD]at hB|-;obtain⟨F,hF⟩:∃F,F=(zv b x,zv c y):=⟨_,rfl⟩;obtain⟨T,hT⟩:=nm (zv d t);obtain⟨R,hR⟩:∃R,R=jT F (nf T q) tf:=⟨_,rfl⟩;rw[hT,<-hF]at hB|-;have r0:R 0=((0,0),F):=by rw[hR];rfl
 have rs:∀k,R (k+1)=(if k%2=0 then((R k).1.1+(tf k (R k).2).1,(R k).1.2+(tf k (R k).2).2)else((R k).1.1-(tf k (R k).2).2,(R k).1.2-(tf k (R k).2).1),nf T q (k+1) (R k).2):=by intro k;rw[hR];rfl
 have rr:jg N0 F (nf T q) tf=((R (2*N0)).1.1,(R (2*N0)).1.2+(tf (2*N0) (R (2*N0)).2).2):=by rw[hR];rfl
 rw[<-hR]at hB;rw[rr];clear rr hR;obtain⟨N,hN⟩:=nm (2*N0);rw[hN]at hB|-;have ao:2*(N0:Int)=(N:Int):=f';have fit:∀k,k<=N->(Lm (dg (R k).1.1.natAbs)/\(dg (R k).1.1.natAbs).length<40)/\(Lm (dg (R k).1.2.natAbs)/\(dg (R k).1.2.natAbs).length<40)/\lD (dg (R k).2.1.natAbs) (dg (R k).2.2.natAbs)/\lD (dg (tf k (R k).2).1.natAbs) (dg (tf k (R k).2).2.natAbs):=by
  intro k hk;obtain⟨a,b',c',d',e,f⟩:=hB k hk;exact⟨a.jN f',b'.jN f',⟨c'.jN f',d'.jN f'⟩,e.jN f',f.jN f'⟩
 have F1:(R 0).2=F:=by rw[r0]
 rcases hV with⟨hg,hh,aw,ax⟩|⟨⟨hg,aw⟩|⟨hg,aw⟩,hh,ax⟩
 all_goals
  refine aB func248 ntmps248 ?_;refine aT ?_;refine aT ?_;refine ai.iG (ι:=Unit) (λ_=>sT [(0,(N0:Int)),(3,.fn h' []),(5,.ptr 5 0),(8,.ptr 8 0),(9,.ptr 9 0),(11,.ptr 11 0)] (R N).2 (R N).1) ?_ (λ_=>?_)
  rotate_left
  .subst hh hg
   obtain⟨⟨f1,ab⟩,⟨f2,af⟩,kP,kW⟩:=fit N (aM N);have z2:=(hB N (aM N)).2.1;obtain⟨⟨⟨S1,S2⟩,P1,P2⟩,hP⟩:=nm (R N);rw[hP]at f1 ab f2 af kP kW z2|-;obtain⟨⟨W1,W2⟩,hW⟩:=nm (tf N (P1,P2));dsimp only at f1 ab f2 af kP kW z2|-;rw[hW]at kW|-;dsimp only at kW|-;obtain⟨U,hU⟩:=nm (S2+W2);rw[hU];have a6:(dg S1.natAbs).length<10000000:=f';have a7:(dg S2.natAbs).length<10000000:=f';have a4:=kW.2;have bb:(dg W2.natAbs).length<10000000:=f';obtain⟨f6,_⟩:=a4;clear fit hB rs r0 F1 ab af;refine ai.seq ?_;rw[ax]at hW
   first
    |(
     have w1:(rt (P1,P2) 1 ((2*(N:Int)+1)*1)).1=W1:=fV Prod.fst hW;have w2:(rt (P1,P2) 1 ((2*(N:Int)+1)*1)).2=W2:=fV Prod.snd hW;refine ai.regionF [(11,11),(5,5),(8,8),(9,9)] [] [(35,0,11),(38,3,11)] hE.hT hE.hS hE.hm (yH ⟨_,rfl⟩ ⟨_,rfl⟩ ⟨_,rfl⟩ ⟨_,rfl⟩) (an (A4 ao w1 w2 hU) ?_))
    |(
     cases hW;refine ai.regionF [(11,11),(5,5),(8,8),(9,9)] [] [(35,0,11),(38,3,11)] hE.hT hE.hS hE.hm (yH ⟨_,rfl⟩ ⟨_,rfl⟩ ⟨_,rfl⟩ ⟨_,rfl⟩) (an (A2 ao hU) ?_))
   exact pL
  refine an ao ?_;refine ai.loop (ι:={k:Nat // k<=N}) (λk=>sT [(0,(N0:Int)),(2,.fn g' [.vp [d,t],.vp [q]]),(3,.fn h' []),(5,.ptr 5 0),(8,.ptr 8 0),(9,.ptr 9 0),(11,.ptr 11 0),(15,(N:Int)),(16,(k.1:Int))] (R k.1).2 (R k.1).1) (λk=>N-k.1) ⟨0,dU _⟩ ?_ ?_
  .have g1:decide ((R 0).2.1<0)=b/\dg (R 0).2.1.natAbs=x/\decide ((R 0).2.2<0)=c/\dg (R 0).2.2.natAbs=y:=by rw[r0,hF];exact⟨c1.symm,c2.symm,c3.symm,c4.symm⟩
   have g2:decide ((R 0).1.1<0)=a0a/\dg (R 0).1.1.natAbs=[]/\decide ((R 0).1.2<0)=a0a/\dg (R 0).1.2.natAbs=[]:=by rw[r0];exact⟨rfl,ky,rfl,ky⟩
   exact Le.mk (And.intro g1 g2)
  rintro⟨k,hk⟩;dsimp only;obtain⟨⟨f1,ab⟩,⟨f2,af⟩,kP,kW⟩:=fit k hk;have rk:=rs k;clear fit hB rs r0 F1;obtain⟨⟨⟨S1,S2⟩,P1,P2⟩,hP⟩:=nm (R k);rw[hP]at rk f1 ab f2 af kP kW|-;obtain⟨⟨W1,W2⟩,hW⟩:=nm (tf k (P1,P2));dsimp only at rk f1 ab f2 af kP kW|-;rw[hW]at rk kW;dsimp only at rk kW;have kS:lD (dg S1.natAbs) (dg S2.natAbs):=⟨⟨f1,ab⟩,f2,af⟩;rcases dQ k N with a5|eJ
  .obtain⟨⟨⟨a1,a2⟩,b1,b2⟩,ha⟩:=nm (R (k+1))
   rw[ha,aw]at rk;simp only[db,vw,zF]at rk;obtain⟨ra,rb⟩:=rk;have m1:=fV Prod.fst rb.symm;have m2:=fV Prod.snd rb.symm;dsimp only at m1 m2;rw[ax]at hW;rcases re (k%2)with a3|a3
   case' inl=>
    rw[au a3]at ra;have ay:bits .and .i64 (k:Int) 1=0:=by rw[Pj f'];omega
    obtain⟨fo,a0⟩:=nm 148
   case' inr=>
    rw[aq f']at ra;have ay:bits .and .i64 (k:Int) 1=1:=by rw[Pj f'];omega
    obtain⟨fo,a0⟩:=nm 251
   all_goals
    have p1:=fV Prod.fst ra.symm;have p2:=fV Prod.snd ra.symm;dsimp only at p1 p2;refine cy (show(k:Int)<N from f') ?_;refine ai.seq ?_;refine ai.eo (by rfl) ?_;refine ai.skip ?_;refine ai.seq ?_;refine ai.block ?_;refine aT ?_;refine aT ?_;refine ai.iG (ι:=Unit) (λ_=>sT [(12,(k:Int)),(13,.fn fo []),(0,(N0:Int)),(2,.fn g' [.vp [d,t],.vp [q]]),(3,.fn h' []),(5,.ptr 5 0),(8,.ptr 8 0),(9,.ptr 9 0),(11,.ptr 11 0),(15,(N:Int)),(16,(k:Int))] (P1,P2) (S1,S2)) ?_ (λ_=>?_)
    all_goals subst a0 hh hg
    .refine an ay ?_
     exact⟨(),Le.mk a0b⟩
    refine ai.seq ?_
    first
     |(
      have w1:(rt (P1,P2) 1 ((2*(k:Int)+1)*1)).1=W1:=fV Prod.fst hW;have w2:(rt (P1,P2) 1 ((2*(k:Int)+1)*1)).2=W2:=fV Prod.snd hW;refine ai.regionF [(11,11),(5,5)] [] [] hE.hT hE.hS hE.hm (qF ⟨_,rfl⟩ ⟨_,rfl⟩) (an (A7 hT w1 w2 p1 p2 m1 m2) ?_))
     |(
      cases hW;refine ai.regionF [(11,11),(5,5)] [] [] hE.hT hE.hS hE.hm (qF ⟨_,rfl⟩ ⟨_,rfl⟩) (an (A5 hT p1 p2 m1 m2) ?_))
    exact⟨⟨k+1,a5⟩,by rw[ha];exact Le.mk a0b,N'⟩
  .obtain rfl:N=k:=f'
   refine cy (show¬(N:Int)<N from f') ?_;refine ai.seq ?_;refine ai.dz (by rfl) ?_;refine ai.exit ?_;exact⟨(),by rw[hP];exact Le.mk a0b⟩
@[push_cast] def aeX:Sp:=EL 149 126 (λt q _ p=>rt p t (1*2^(2*q).toNat)) lR
@[push_cast] def aeW:Sp:=EL 249 219 (λt q k p=>rt p t ((2*(k:Int)*(2*(k:Int)+1))*2^(2*q).toNat)) (λ_ p=>p)
@[push_cast] def aeV:Sp:=EL 250 219 (λt q k p=>rt p t (((2*(k:Int)-1)*2*(k:Int))*2^(2*q).toNat)) (λ_ p=>p)
theorem agd:aj a0c 248 aeX:=Jl (.inl ⟨rfl,rfl,rfl,rfl⟩)
theorem agc:aj a0c 248 aeW:=Jl (.inr ⟨.inl ⟨rfl,rfl⟩,rfl,rfl⟩)
theorem agb:aj a0c 248 aeV:=Jl (.inr ⟨.inr ⟨rfl,rfl⟩,rfl,rfl⟩)
section
variable {t:Int}{x:Rat}
theorem pwm{a b n:Nat}(h:a+b<=n):2^a*2^b<=2^n:=by rw[<-mD];exact lC p' h
theorem L6{q:Nat}{v:Int}(hq:q<=1200)(h1:-(5000*2^q)<=v)(h2:v<=5000*2^q):Bz 2400 v:=by
 have hp:(2:Int)^q=((2^q:Nat):Int):=by rw[kJ];rfl
 rw[hp]at h1 h2;unfold Bz;have:v.natAbs<=5000*2^q:=f';have h3:5000*2^q<2^13*2^q:=zT p' (l7 q);have h4:=pwm (a:=13) (b:=q) (n:=2400) f';omega
theorem tp{q:Nat}{p:Int×Int}(h:aW q p x)(hq:q<=1200)(x1:-900<=x)(x2:x<=900)(hw:p.2-p.1<=4000):Bz 2400 p.1/\Bz 2400 p.2:=by
 have ab:=cf q;have a1:p.1<=900*2^q:=by
  rw[<-cj,cg,cV];have:=cA x2 (cL (two_pos q));have e:((900:Int):Rat)=900:=rfl;rw[e];exact fD h.1 this
 have a2:-(900*2^q)<=p.2:=by
  rw[<-cj,zU,cg,cV];have:=cA x1 (cL (two_pos q));have e:((900:Int):Rat)=900:=rfl;rw[e];have:=h.2
  grind
 exact⟨L6 hq f' f',L6 hq f' f'⟩
section
variable {q:Nat}{first:Int×Int}{next term:Nat->Int×Int->Int×Int}{P T:Nat->Rat}
theorem Q5(h0:∀k,0<=T k)(h2:∀k,T k<=2)(n:Nat):0<=sm T n/\sm T n<=2*(n:Rat):=by
 induction n with
 |zero=>simp[sm]
 |succ n ih=>have:=h0 n;have:=h2 n;rw[jQ];simp only[sm];grind
theorem j8.Qx(h:j8 q first next term P T)(hq:q<=1200)(p0:∀k,0<=P k)(p2:∀k,P k<=2)(t0:∀k,0<=T k)(t2:∀k,T k<=2)(N:Nat)(hN:N<=400):sH (iV first next term) term N:=by
 intro k hk;have s:=h.sum k;have p:=h.pow k;have t:=h.qD k _ p.1;have tw:=h.rF k _ p.1 p.2.1;have b:=Q5 t0 t2 k;have ab:=lM (show k<=400 from f');have e:((400:Nat):Rat)=400:=rfl;rw[e]at ab;have c1:=tp s.1 hq E' E' f';have c2:=tp p.1 hq (by have:=p0 k;grind) (by have:=p2 k;grind) f';have c3:=tp t hq (by have:=t0 k;grind) (by have:=t2 k;grind) f';exact⟨c1.1,c1.2,c2.1,c2.2,c3.1,c3.2⟩
theorem j8.IU(h:j8 q first next term P T)(hq:q<=1200)(p0:∀k,0<=P k)(p2:∀k,P k<=2)(t0:∀k,0<=T k)(t2:∀k,T k<=2)(N:Nat)(hN:N<=400):sH (jT first next term) term N:=by
 intro k hk;have s:=h.RL k;have p:=h.IG k;have t:=h.qD k _ p.1;have tw:=h.rF k _ p.1 p.2.1;have b:=Q5 t0 t2 k;have a:=Gc t0 k;have ab:=lM (show k<=400 from f');have e:((400:Nat):Rat)=400:=rfl;rw[e]at ab;have c1:=tp s.1 hq E' E' f';have c2:=tp p.1 hq (by have:=p0 k;grind) (by have:=p2 k;grind) f';have c3:=tp t hq (by have:=t0 k;grind) (by have:=t2 k;grind) f';exact⟨c1.1,c1.2,c2.1,c2.2,c3.1,c3.2⟩
end
theorem M8(h0:0<=x)(h1:x<=1)(k:Nat):ex x k<=2:=by
 cases k with
 |zero=>simp[ex];grind
 |succ k=>
  induction k with
  |zero=>simp[ex];grind
  |succ k ih=>have:=Dm h0 h1 (k+1) f';have:=jL h0 (k+2);grind
theorem Bw{q:Nat}{c:Int}(ht:0<=t)(h:t<=c*2^q):∃x:Rat,x*2^q=(t:Rat)/\0<=x/\x<=(c:Rat):=by
 have e:(t:Rat)/2^q*2^q=(t:Rat):=iy (by have:=two_pos q;grind);refine⟨(t:Rat)/2^q,e,cO (two_pos q) ?_,cO (two_pos q) ?_⟩
 .rw[e];have:=px ht;grind
 .rw[e];have:=cj.2 h;rw[cg,cV]at this;exact this
theorem abW{q:Nat}(ht:0<=t)(h1:t<=2^q)(hq:q<=1200)(N:Nat)(hN:N<=400):
 sH (iV (rZ q) (λ(k:Nat)(p:Int×Int)=>rt p t ((k:Int)*2^q)) (λ(_:Nat)(p:Int×Int)=>p)) (λ(_:Nat)(p:Int×Int)=>p) N:=by
 obtain⟨x,hx,x0,x1⟩:=Bw (c:=1) ht (by rw[nR];exact h1);exact(QA hx ht h1).Qx hq (jL x0) (M8 x0 x1) (jL x0) (M8 x0 x1) N hN
@[push_cast] def adP:Sp:=zn 0 (λb x q n=>(Lm x/\x.length<40)/\(0<=zv b x/\zv b x<=2^q.toNat)/\(0<=q/\q<=1200)/\1<=n/\n<400)
 (λb x q n=>.aU [zi (kH (zv b x) q.toNat n.toNat).1,zi (kH (zv b x) q.toNat n.toNat).2,(0:Int)])
theorem Xn:aj a0c 214 adP:=by
 refine aj.zY λb x q n⟨⟨hx,hxl⟩,⟨h0,h1⟩,⟨q1,q2⟩,n1,n2⟩=>?_
 have hE:=iZ Bh Iw abQ;have hxl':x.length<61:=f';have hle:zv b x*2<=2*2^q.toNat:=f';have n0:0<=n:=f';have n2':n<=400:=f';have hrow:=abW (q:=q.toNat) h0 h1 f' n.toNat f';obtain⟨W,hW⟩:∃W:Int,1*2^q.toNat=W:=⟨_,rfl⟩;have e1:rZ q.toNat=(W,W):=by rw[<-hW];rfl
 rw[e1]at hrow;obtain⟨L,hL⟩:=nm ((kH (zv b x) q.toNat n.toNat).1);obtain⟨H,hH⟩:=nm ((kH (zv b x) q.toNat n.toNat).2);rw[hL,hH];have hL':(rising n.toNat (W,W) (λ(k:Nat)(p:Int×Int)=>rt p (zv b x) ((k:Int)*2^q.toNat)) (λ(_:Nat)(p:Int×Int)=>p)).1=L:=by rw[<-hL,<-e1];rfl
 have hH':(rising n.toNat (W,W) (λ(k:Nat)(p:Int×Int)=>rt p (zv b x) ((k:Int)*2^q.toNat)) (λ(_:Nat)(p:Int×Int)=>p)).2=H:=by rw[<-hH,<-e1];rfl
 refine aB func214 ntmps214 ?_;refine aT ?_;refine ai.seq ?_;refine ig ?_;refine aF ?_;refine ai.iG (ι:=Unit) (λ_=>⟨[(6,.ptr 6 0),(7,.ptr 7 0),(8,(0:Int))],[(6,⟨Z',.c [decide (L<0),dg L.natAbs]⟩),(7,⟨Z',.c [decide (H<0),dg H.natAbs]⟩)]⟩)
  (ai.wO hE.hT hE.hS (K1:=λσ=>σ=?sx) 3 ?_ ?_) (λ_=>?_)
 rotate_left
 .simp only[List.take]
  refine an hW ?_;exact rfl
 .rintro σ1 rfl
  refine⟨_,_,_,[3,4],rfl,?_,rfl,rfl,rfl,rfl,?_⟩
  .exact⟨⟨rfl,qh _⟩,⟨rfl,qh _⟩,a0b⟩
  .simp only[List.drop]
   change et _ _ _ _ _ ⟨[(19,.fn 218 [.vp [b,x],.vp [q]]),(18,.agg [decide (W<0),dg W.natAbs,decide (W<0),dg W.natAbs]),(17,q),(16,n),(13,a0a),(12,Z'),(11,n),(10,q),(9,.agg [b,x]),(8,(0:Int)),(7,.ptr 7 0),(6,.ptr 6 0),(4,.ptr 4 0),(3,.ptr 3 0),(0,.agg [b,x]),(1,q),(2,n)],
    [(4,⟨a0a,.c [q]⟩),(3,⟨a0a,.c [b,x]⟩),(7,⟨Z',.c [a0a,.ns .u64 []]⟩),(6,⟨Z',.c [a0a,.ns .u64 []]⟩)]⟩
   refine an (A2 hL' hH') ?_;exact⟨(),Le.mk a0b⟩
 .refine aK ?_
  exact pL
end
section
variable {t:Int}{q:Nat}{x:Rat}
@[push_cast] def aeu:Sp:=qS 0 (λ_ x q=>Lm x/\x.length<40) (λb x q=>.fn 149 [.vp [decide (zv b x*zv b x<0),dg (zv b x*zv b x).natAbs],.vp [q]])
theorem Qa:aj a0c 125 aeu:=by
 refine aj.ZI λb x q⟨hx,hxl⟩=>?_
 have hE:=di zA;obtain⟨A,hA⟩:=nm (zv b x*zv b x);rw[hA];refine aB func125 ntmps125 ?_;refine aT ?_;refine cy hA ?_;refine ai.iG (ι:=Unit) (λ_=>⟨[(4,.fn 149 [.vp [decide (A<0),dg A.natAbs],.vp [q]])],[]⟩) (ai.wO hE.hT hE.hS (K1:=λσ=>σ=?sx) 0 ?_ ?_) (λ_=>?_)
 rotate_left
 .simp only[List.take]
  exact rfl
 .rintro σ1 rfl
  refine⟨_,_,_,[5,3],rfl,?_,rfl,rfl,rfl,rfl,?_⟩
  .exact⟨⟨rfl,qh _⟩,⟨rfl,qh _⟩,a0b⟩
  .simp only[List.drop]
   refine aK ?_;exact⟨(),Le.mk a0b⟩
 .refine aK ?_
  exact aO.mk a0b rfl
theorem IJ(h0:0<=x)(h1:2*x<=1)(k:Nat):pw x k<=2:=by
 have h:pw x k<=1:=by
  induction k with
  |zero=>simp[pw];grind
  |succ k ih=>
   have:=yV.fj h0 k;have s:=Hx h0 h1;have:=fg (show x*x<=1 from E') this;simp only[pw]
   grind
 grind
theorem KW(h0:0<=x)(h1:2*x<=1)(k:Nat):ah x k<=2:=by
 have:=iS k;have e:=qn x k;have a:=fK h0 k;have b:=IJ h0 h1 k;have:=dV a this
 grind
theorem abU(ht:0<=t)(h1:2*t<=2^q)(hq:q<=1200)(N:Nat)(hN:N<=400):sH (iV (t,t) (pW t q) lR) lR N:=by
 obtain⟨x,hx,x0,x1⟩:=Bw (q:=q) (c:=1) ht (by rw[nR];have:=cf q;omega);obtain⟨_,x2⟩:=uV hx ht h1;exact(Ez hx ht h1).Qx hq (yV.fj x0) (IJ x0 x2) (fK x0) (KW x0 x2) N hN
@[push_cast] def acN:Sp:=zn 0 (λb x q n=>(Lm x/\x.length<20)/\(0<=zv b x/\2*zv b x<=2^q.toNat)/\(b=decide (zv b x<0)/\x=dg (zv b x).natAbs)/\(0<=q/\q<=1200)/\1<=n/\n<400)
 (λb x q n=>.aU [zi (dY (zv b x) q.toNat n.toNat).1,zi (dY (zv b x) q.toNat n.toNat).2,(0:Int)])
theorem Lp:aj a0c 84 acN:=by
 refine aj.zY λb x q n⟨⟨hx,hxl⟩,⟨h0,h1⟩,⟨c1,c2⟩,⟨q1,q2⟩,n1,n2⟩=>?_
 have hE:=iZ Bh Qa abP;have aw:x.length<61:=f';have ax:x.length<40:=f';have hle:zv b x*2<=1*2^q.toNat:=f';have n0:0<=n:=f';have ay:n<=400:=f';have bX:=dN (b:=b) hx (k:=19) f';have ab:=abU (q:=q.toNat) h0 h1 f' n.toNat f';obtain⟨L,hL⟩:=nm ((dY (zv b x) q.toNat n.toNat).1);obtain⟨H,hH⟩:=nm ((dY (zv b x) q.toNat n.toNat).2);rw[hL,hH];have e2:(2*q).toNat=2*q.toNat:=f';obtain⟨X,hX⟩:=nm (zv b x);rw[hX]at hL hH ab bX c1 c2;obtain⟨A,hA⟩:=nm (X*X);have z1:=bX.mul bX;rw[hA]at z1;obtain⟨o1,a0⟩:=z1.jN f';have hp:pW X q.toNat=(λ(_:Nat)(p:Int×Int)=>rt p A (1*2^(2*q).toNat)):=by funext k p;rw[pW,hA,e2]
 have ao:(rising n.toNat (X,X) (λ(_:Nat)(p:Int×Int)=>rt p A (1*2^(2*q).toNat)) lR).1=L:=by rw[<-hL,<-hp];rfl
 have af:(rising n.toNat (X,X) (λ(_:Nat)(p:Int×Int)=>rt p A (1*2^(2*q).toNat)) lR).2=H:=by rw[<-hH,<-hp];rfl
 rw[hp]at ab;refine aB func84 ntmps84 ?_;refine aT ?_;refine ai.seq ?_;refine ig ?_;refine ai.dz (by rfl) ?_;refine ai.skip ?_;refine aG [(3,3),(6,6),(7,7)] [] [] (A4 hX hA ao af) ?_;exact pL
theorem abT(ht:0<=t)(h1:2*t<=2^q)(hq:q<=1200)(N:Nat)(hN:N<=400):sH (jT (t,t) (pW t q) lR) lR N:=by
 obtain⟨x,hx,x0,x1⟩:=Bw (q:=q) (c:=1) ht (by rw[nR];have:=cf q;omega);obtain⟨_,x2⟩:=uV hx ht h1;exact(Ez hx ht h1).IU hq (yV.fj x0) (IJ x0 x2) (fK x0) (KW x0 x2) N hN
@[push_cast] def acM:Sp:=zn 0 (λb x q n=>(Lm x/\x.length<20)/\(0<=zv b x/\2*zv b x<=2^q.toNat)/\(b=decide (zv b x<0)/\x=dg (zv b x).natAbs)/\(0<=q/\q<=1200)/\1<=n/\n<200)
 (λb x q n=>.aU [zi (dX (zv b x) q.toNat n.toNat).1,zi (dX (zv b x) q.toNat n.toNat).2,(0:Int)])
theorem Ua:aj a0c 247 acM:=by
 refine aj.zY λb x q n⟨⟨hx,hxl⟩,⟨h0,h1⟩,⟨c1,c2⟩,⟨q1,q2⟩,n1,n2⟩=>?_
 have hE:=iZ Bh Qa agd;have aw:x.length<61:=f';have ax:x.length<40:=f';have hle:zv b x*2<=1*2^q.toNat:=f';have n0:0<=n:=f';have ay:n<=400:=f';have bX:=dN (b:=b) hx (k:=19) f';have ab:=abT (q:=q.toNat) h0 h1 f' (2*n.toNat) f';obtain⟨L,hL⟩:=nm ((dX (zv b x) q.toNat n.toNat).1);obtain⟨H,hH⟩:=nm ((dX (zv b x) q.toNat n.toNat).2);rw[hL,hH];have e2:(2*q).toNat=2*q.toNat:=f';obtain⟨X,hX⟩:=nm (zv b x);rw[hX]at hL hH ab bX c1 c2;obtain⟨A,hA⟩:=nm (X*X);have z1:=bX.mul bX;rw[hA]at z1;obtain⟨o1,a0⟩:=z1.jN f';have hp:pW X q.toNat=(λ(_:Nat)(p:Int×Int)=>rt p A (1*2^(2*q).toNat)):=by funext k p;rw[pW,hA,e2]
 have ao:(jg n.toNat (X,X) (λ(_:Nat)(p:Int×Int)=>rt p A (1*2^(2*q).toNat)) lR).1=L:=by rw[<-hL,<-hp];rfl
 have af:(jg n.toNat (X,X) (λ(_:Nat)(p:Int×Int)=>rt p A (1*2^(2*q).toNat)) lR).2=H:=by rw[<-hH,<-hp];rfl
 rw[hp]at ab;refine aB func247 ntmps247 ?_;refine aT ?_;refine ai.seq ?_;refine ig ?_;refine ai.dz (by rfl) ?_;refine ai.skip ?_;refine aG [(3,3),(6,6),(7,7)] [] [] (A4 hX hA ao af) ?_;exact pL
end
end Go.Hl
