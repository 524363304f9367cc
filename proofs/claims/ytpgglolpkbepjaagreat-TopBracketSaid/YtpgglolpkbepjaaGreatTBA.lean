/- Lemmas for TopSound and TopBracket. -/
import Derived.Test.YtpgglolpkbepjaaGreatTAZ
import Derived.Test.YtpgglolpkbepjaaGreatTAS
set_option linter.unusedVariables false
set_option linter.unusedSimpArgs false
namespace Go.Hl
open Go.Proofs.Tryz
open Go.Proofs.Tryz renaming prog→a0c
open Option renaming some→T',none→Y'
open Bool renaming true→Z',false→a0a
open Go Go.RowKit Go.Proofs
set_option maxHeartbeats 8000000
set_option maxRecDepth 100000
section
variable {t:Int}{q:Nat}{x:Rat}
theorem Ri(h0:0<=x)(h:x<=2)(k:Nat):sn x k<=2:=by
 induction k with
 |zero=>exact h
 |succ k ih=>have:=tN h0 h k;have:=gh.fj h0 k;grind
theorem My(h0:0<=x)(h:x<=2)(k:Nat):cs x k<=2:=by
 cases k with
 |zero=>simp[cs];grind
 |succ k=>
  induction k with
  |zero=>have:=xd h0 h;simp[cs];grind
  |succ k ih=>have:=uw h0 h (k+1) f';have:=iF.fj h0 (k+1);grind
theorem abY(ht:0<=t)(h1:t<=2*2^q)(hq:q<=1200)(N:Nat)(hN:N<=400):sH (jT (t,t) (λ(k:Nat)(p:Int×Int)=>rt p (t*t) ((2*(k:Int)*(2*(k:Int)+1))*2^(2*q))) (λ(_:Nat)(p:Int×Int)=>p)) (λ(_:Nat)(p:Int×Int)=>p) N:=by
 obtain⟨x,hx,x0,x1⟩:=Bw (q:=q) (c:=2) ht h1;have x2:x<=2:=x1;exact(QB hx ht h1).IU hq (gh.fj x0) (Ri x0 x2) (gh.fj x0) (Ri x0 x2) N hN
@[push_cast] def aeK:Sp:=zn 0 (λb x q n=>(Lm x/\x.length<20)/\(0<=zv b x/\zv b x<=2*2^q.toNat)/\(b=decide (zv b x<0)/\x=dg (zv b x).natAbs)/\(0<=q/\q<=1200)/\1<=n/\n<200)
 (λb x q n=>.aU [zi (mT (zv b x) q.toNat n.toNat).1,zi (mT (zv b x) q.toNat n.toNat).2,(0:Int)])
theorem acA:aj a0c 245 aeK:=by
 refine aj.zY λb x q n⟨⟨hx,hxl⟩,⟨h0,h1⟩,⟨c1,c2⟩,⟨q1,q2⟩,n1,n2⟩=>?_
 have hE:=nZ Bh zA Iw agc;have hxl':x.length<61:=f';have hle:zv b x*2<=4*2^q.toNat:=f';have n0:0<=n:=f';have n2':n<=400:=f';have bX:=dN (b:=b) hx (k:=19) f';have hrow:=abY (q:=q.toNat) h0 h1 f' (2*n.toNat) f';obtain⟨L,hL⟩:=nm ((mT (zv b x) q.toNat n.toNat).1);obtain⟨H,hH⟩:=nm ((mT (zv b x) q.toNat n.toNat).2);rw[hL,hH];have e2:(2*q).toNat=2*q.toNat:=f';obtain⟨X,hX⟩:=nm (zv b x);rw[hX]at hL hH hrow bX c1 c2;obtain⟨A,hA⟩:=nm (X*X);have z1:=bX.mul bX;rw[hA]at z1;obtain⟨o1,o1'⟩:=z1.jN f';have hL':(jg n.toNat (X,X) (λ(k:Nat)(p:Int×Int)=>rt p A ((2*(k:Int)*(2*(k:Int)+1))*2^(2*q).toNat)) (λ(_:Nat)(p:Int×Int)=>p)).1=L:=by rw[<-hL,mT,hA,e2]
 have hH':(jg n.toNat (X,X) (λ(k:Nat)(p:Int×Int)=>rt p A ((2*(k:Int)*(2*(k:Int)+1))*2^(2*q).toNat)) (λ(_:Nat)(p:Int×Int)=>p)).2=H:=by rw[<-hH,mT,hA,e2]
 rw[hA,<-e2]at hrow;refine aB func245 ntmps245 ?_;refine aT ?_;refine ai.seq ?_;refine ig ?_;refine aF ?_;refine ai.iG (ι:=Unit) (λ_=>⟨[(9,.ptr 9 0),(4,.ptr 4 0),(3,.ptr 3 0),(6,.ptr 6 0),(7,.ptr 7 0),(8,(0:Int)),(2,n)],[(9,⟨Z',.c [decide (A<0),dg A.natAbs]⟩),(4,⟨Z',.c [q]⟩),(3,⟨Z',.c [b,x]⟩),(6,⟨Z',.c [a0a,.ns .u64 []]⟩),(7,⟨Z',.c [a0a,.ns .u64 []]⟩)]⟩) ?_ (λ_=>?_)
 .refine an (A2 hX hA) ?_
  exact⟨(),Le.mk a0b⟩
 refine ai.iG (ι:=Unit) (λ_=>⟨[(6,.ptr 6 0),(7,.ptr 7 0),(8,(0:Int))],[(6,⟨Z',.c [decide (L<0),dg L.natAbs]⟩),(7,⟨Z',.c [decide (H<0),dg H.natAbs]⟩)]⟩)
  (ai.wO hE.hT hE.hS (K1:=λσ=>σ=?sx) 4 ?_ ?_) (λ_=>?_)
 rotate_left
 .simp only[List.take]
  refine aK ?_;exact rfl
 .rintro σ1 rfl
  refine⟨_,_,_,[9,4],rfl,?_,rfl,rfl,rfl,rfl,?_⟩
  .exact⟨⟨rfl,qh _⟩,⟨rfl,qh _⟩,a0b⟩
  .simp only[List.drop]
   change et _ _ _ _ _ ⟨[(24,.fn 249 [.vp [decide (A<0),dg A.natAbs],.vp [q]]),(23,.agg [b,x,b,x]),(22,.agg [b,x]),(21,.agg [b,x]),(20,n),(9,.ptr 9 0),(4,.ptr 4 0),(3,.ptr 3 0),(6,.ptr 6 0),(7,.ptr 7 0),(8,(0:Int)),(2,n)],[(4,⟨a0a,.c [q]⟩),(9,⟨a0a,.c [decide (A<0),dg A.natAbs]⟩),(3,⟨Z',.c [b,x]⟩),(6,⟨Z',.c [a0a,.ns .u64 []]⟩),(7,⟨Z',.c [a0a,.ns .u64 []]⟩)]⟩;refine an (A3 hX hL' hH') ?_;exact⟨(),Le.mk a0b⟩
 .refine aK ?_
  exact pL
theorem abV(ht:0<=t)(h1:t<=2*2^q)(hq:q<=1200)(N:Nat)(hN:N<=400):sH (jT (rZ q) (λ(k:Nat)(p:Int×Int)=>rt p (t*t) (((2*(k:Int)-1)*2*(k:Int))*2^(2*q))) (λ(_:Nat)(p:Int×Int)=>p)) (λ(_:Nat)(p:Int×Int)=>p) N:=by
 obtain⟨x,hx,x0,x1⟩:=Bw (q:=q) (c:=2) ht h1;have x2:x<=2:=x1;exact(Qz hx ht h1).IU hq (iF.fj x0) (My x0 x2) (iF.fj x0) (My x0 x2) N hN
@[push_cast] def adg:Sp:=zn 0 (λb x q n=>(Lm x/\x.length<20)/\(0<=zv b x/\zv b x<=2*2^q.toNat)/\(b=decide (zv b x<0)/\x=dg (zv b x).natAbs)/\(0<=q/\q<=1200)/\1<=n/\n<200)
 (λb x q n=>.aU [zi (mS (zv b x) q.toNat n.toNat).1,zi (mS (zv b x) q.toNat n.toNat).2,(0:Int)])
theorem VG:aj a0c 246 adg:=by
 refine aj.zY λb x q n⟨⟨hx,hxl⟩,⟨h0,h1⟩,⟨c1,c2⟩,⟨q1,q2⟩,n1,n2⟩=>?_
 have hE:=nZ Bh zA Iw agb;have hxl':x.length<61:=f';have hle:zv b x*2<=4*2^q.toNat:=f';have n0:0<=n:=f';have n2':n<=400:=f';have bX:=dN (b:=b) hx (k:=19) f';have hrow:=abV (q:=q.toNat) h0 h1 f' (2*n.toNat) f';obtain⟨L,hL⟩:=nm ((mS (zv b x) q.toNat n.toNat).1);obtain⟨H,hH⟩:=nm ((mS (zv b x) q.toNat n.toNat).2);rw[hL,hH];have e2:(2*q).toNat=2*q.toNat:=f';obtain⟨X,hX⟩:=nm (zv b x);rw[hX]at hL hH hrow bX c1 c2;obtain⟨A,hA⟩:=nm (X*X);have z1:=bX.mul bX;rw[hA]at z1;obtain⟨o1,o1'⟩:=z1.jN f';obtain⟨W,hW⟩:∃W:Int,1*2^q.toNat=W:=⟨_,rfl⟩;have e1:rZ q.toNat=(W,W):=by rw[<-hW];rfl
 rw[e1]at hrow;have hL':(jg n.toNat (W,W) (λ(k:Nat)(p:Int×Int)=>rt p A (((2*(k:Int)-1)*2*(k:Int))*2^(2*q).toNat)) (λ(_:Nat)(p:Int×Int)=>p)).1=L:=by rw[<-hL,mS,hA,e2,e1]
 have hH':(jg n.toNat (W,W) (λ(k:Nat)(p:Int×Int)=>rt p A (((2*(k:Int)-1)*2*(k:Int))*2^(2*q).toNat)) (λ(_:Nat)(p:Int×Int)=>p)).2=H:=by rw[<-hH,mS,hA,e2,e1]
 rw[hA,<-e2]at hrow;refine aB func246 ntmps246 ?_;refine aT ?_;refine ai.seq ?_;refine ig ?_;refine aF ?_;refine ai.iG (ι:=Unit) (λ_=>⟨[(9,.ptr 9 0),(4,.ptr 4 0),(3,.ptr 3 0),(6,.ptr 6 0),(7,.ptr 7 0),(8,(0:Int)),(2,n)],[(9,⟨Z',.c [decide (A<0),dg A.natAbs]⟩),(4,⟨Z',.c [q]⟩),(3,⟨Z',.c [b,x]⟩),(6,⟨Z',.c [a0a,.ns .u64 []]⟩),(7,⟨Z',.c [a0a,.ns .u64 []]⟩)]⟩) ?_ (λ_=>?_)
 .refine an (A2 hX hA) ?_
  exact⟨(),Le.mk a0b⟩
 refine ai.iG (ι:=Unit) (λ_=>⟨[(6,.ptr 6 0),(7,.ptr 7 0),(8,(0:Int))],[(6,⟨Z',.c [decide (L<0),dg L.natAbs]⟩),(7,⟨Z',.c [decide (H<0),dg H.natAbs]⟩)]⟩)
  (ai.wO hE.hT hE.hS (K1:=λσ=>σ=?sx) 3 ?_ ?_) (λ_=>?_)
 rotate_left
 .simp only[List.take]
  refine an hW ?_;exact rfl
 .rintro σ1 rfl
  refine⟨_,_,_,[9,4],rfl,?_,rfl,rfl,rfl,rfl,?_⟩
  .exact⟨⟨rfl,qh _⟩,⟨rfl,qh _⟩,a0b⟩
  .simp only[List.drop]
   change et _ _ _ _ _ ⟨[(23,.fn 250 [.vp [decide (A<0),dg A.natAbs],.vp [q]]),(22,.agg [decide (W<0),dg W.natAbs,decide (W<0),dg W.natAbs]),(21,q),(20,n),(9,.ptr 9 0),(4,.ptr 4 0),(3,.ptr 3 0),(6,.ptr 6 0),(7,.ptr 7 0),(8,(0:Int)),(2,n)],[(4,⟨a0a,.c [q]⟩),(9,⟨a0a,.c [decide (A<0),dg A.natAbs]⟩),(3,⟨Z',.c [b,x]⟩),(6,⟨Z',.c [a0a,.ns .u64 []]⟩),(7,⟨Z',.c [a0a,.ns .u64 []]⟩)]⟩;refine an (A3 hX hL' hH') ?_;exact⟨(),Le.mk a0b⟩
 .refine aK ?_
  exact pL
end
theorem L5(n:Nat)(h:n≠0:=by decide):Bz n 1:=Nat.one_lt_two_pow h
theorem Bz.jr{n:Nat}{z:Int}(h:Bz n z)(hn:n<=1216):Lm (dg z.natAbs)/\(dg z.natAbs).length<20:=Bz.ln (k:=19) h hn _
@[push_cast] def aek:Sp where
 kind:=0
 pre
  |[.fn 84 [],.r (.int .i64 k),.r (.int .i64 m),.r (.int .i64 w),.r (.int .i64 n)]=>(3<=k/\k<=1000)/\(1<=m/\m<=16)/\(3<=w/\w<=1100)/\(1<=n/\n<400)/\(dY (1*2^w.toNat/k) w.toNat n.toNat).1<=(dY ((1*2^w.toNat/k)+1) w.toNat n.toNat).2/\Bz 2400 (dY (1*2^w.toNat/k) w.toNat n.toNat).1/\Bz 2400 (dY ((1*2^w.toNat/k)+1) w.toNat n.toNat).2
  |_=>False
 res
  |[.fn 84 [],.r (.int .i64 k),.r (.int .i64 m),.r (.int .i64 w),.r (.int .i64 n)]=>ba (fw dY k m w.toNat n.toNat).1 (fw dY k m w.toNat n.toNat).2 w
  |_=>.any
theorem aaL:aj a0c 83 aek:=by
 refine sz λargs hp=>?_
 split at hp;rotate_left;cases hp;rename_i k m w n;obtain⟨⟨k1,k2⟩,⟨m1,m2⟩,⟨w1,w2⟩,⟨n1,n2⟩,hle,bL,bH⟩:=hp;have hE:=Di qN oY B9 r7 Lp Gv;have a0:zv a0a (dg (Int.natAbs 1))=1:=cI 1;obtain⟨f1,f2⟩:=Eh;have f3:(dg (Int.natAbs 1)).length<10000000:=f';have a7:sh w=w.toNat:=ia f' f';have bb:(8:Int)<=2^w.toNat:=jf (s:=3) f' p';have bc:fw dY k m w.toNat n.toNat=((dY (1*2^w.toNat/k) w.toNat n.toNat).1*m,(dY ((1*2^w.toNat/k)+1) w.toNat n.toNat).2*m):=rfl;rw[bc];have bW:Bz 1101 (1*2^w.toNat):=((Bz.small (n:=1) (z:=1) p' p').shl w.toNat).mono f';obtain⟨W,hW⟩:∃W:Int,1*2^w.toNat=W:=⟨_,rfl⟩;rw[hW]at hle bL bH bW|-;have bs:8<=W:=by rw[<-hW,nR];exact bb
 have ao:2^w.toNat=W:=by rw[<-hW,nR]
 have a5:1*2^sh w=W:=by rw[a7];exact hW
 have dl:=ke (a:=W) (d:=k) f';have d0:0<=W/k:=jv f' f';have ay:¬k=0:=f';have a1:rz W k=W%k:=aq ay;have a6:decide (k≠0)=true:=fu ay;have bD:Bz 1101 (W/k):=bW.div;obtain⟨D,hD⟩:=nm (W/k);rw[hD]at hle bL bH dl d0 bD|-;have d3:D*3<=D*k:=jk k1 d0;obtain⟨R,hR⟩:=nm (W%k);rw[hR]at a1;have ab:Bz 1102 (D+1):=bD.add (L5 1101);obtain⟨D1,af⟩:=nm (D+1);rw[af]at hle bH ab|-;obtain⟨oW,bx⟩:=bW.lz f';have bk:Bz 20 k:=Bz.small f' f';have bm:Bz 20 m:=Bz.small f' f';obtain⟨bz,bA⟩:=bk.lz f';obtain⟨bB,bE⟩:=bm.dB f';obtain⟨oD,bt⟩:=bD.jr f';obtain⟨oE,bw⟩:=ab.jr f';have bu:(dg D.natAbs).length<10000000:=f';have v1:2*D<=W:=f';have v2:2*D1<=W:=f';have v3:0<=D1:=f';obtain⟨L,hL⟩:=nm ((dY D w.toNat n.toNat).1);obtain⟨H,hH⟩:=nm ((dY D1 w.toNat n.toNat).2);rw[hL]at hle bL|-;rw[hH]at hle bH|-;obtain⟨oL,bn⟩:=bL.dB f';obtain⟨oH,bd⟩:=bH.dB f';have br:dp (decide (L<0)) (dg L.natAbs) (decide (H<0)) (dg H.natAbs) w:=⟨⟨oL,bn⟩,⟨oH,bd⟩,by rw[cI,cI];exact hle,f',f'⟩;have aw:jJ L H m=L*m:=aq f';have ax:jI L H m=H*m:=aq f';obtain⟨L',a4⟩:=nm (L*m);obtain⟨H',a3⟩:=nm (H*m);rw[a4]at aw|-;rw[a3]at ax|-;refine aB func83 ntmps83 ?_;refine aT ?_;refine cy (A5 a0 a5 hD a1 a6) ?_;refine cy (A2 hL ao) ?_;refine ai.iG (ι:=Unit) (λ_=>⟨[(2,m),(3,w),(10,.ptr 10 0),(14,.ptr 14 0),(18,.ptr 18 0)],[(10,⟨Z',.c [a0a,.ns .u64 [],a0a,.ns .u64 [],(0:Int)]⟩),(14,⟨Z',.c [decide (L<0),dg L.natAbs]⟩),(18,⟨Z',.c [decide (H<0),dg H.natAbs]⟩)]⟩) ?_ (λ_=>?_)
 .refine ai.regionF [(11,11)] [(17,11),(18,12)] [] hE.hT hE.hS hE.hm ?_ (an (A4 a0 af hH ao) ?_)
  .exact ki ⟨_,rfl⟩
  exact⟨(),Le.mk a0b⟩
 refine aG [(14,14),(18,18)] [(20,10)] [] (A2 aw ax) ?_;exact pL
@[push_cast] def ael:Sp where
 kind:=0
 pre
  |[.fn 247 [],.r (.int .i64 k),.r (.int .i64 m),.r (.int .i64 w),.r (.int .i64 n)]=>(3<=k/\k<=1000)/\(1<=m/\m<=16)/\(3<=w/\w<=1100)/\(1<=n/\n<200)/\(dX (1*2^w.toNat/k) w.toNat n.toNat).1<=(dX ((1*2^w.toNat/k)+1) w.toNat n.toNat).2/\Bz 2400 (dX (1*2^w.toNat/k) w.toNat n.toNat).1/\Bz 2400 (dX ((1*2^w.toNat/k)+1) w.toNat n.toNat).2
  |_=>False
 res
  |[.fn 247 [],.r (.int .i64 k),.r (.int .i64 m),.r (.int .i64 w),.r (.int .i64 n)]=>ba (fw dX k m w.toNat n.toNat).1 (fw dX k m w.toNat n.toNat).2 w
  |_=>.any
theorem aaN:aj a0c 83 ael:=by
 refine sz λargs hp=>?_
 split at hp;rotate_left;cases hp;rename_i k m w n;obtain⟨⟨k1,k2⟩,⟨m1,m2⟩,⟨w1,w2⟩,⟨n1,n2⟩,hle,bL,bH⟩:=hp;have hE:=Di qN oY B9 r7 Ua Gv;have a0:zv a0a (dg (Int.natAbs 1))=1:=cI 1;obtain⟨f1,f2⟩:=Eh;have f3:(dg (Int.natAbs 1)).length<10000000:=f';have a7:sh w=w.toNat:=ia f' f';have bb:(8:Int)<=2^w.toNat:=jf (s:=3) f' p';have bc:fw dX k m w.toNat n.toNat=((dX (1*2^w.toNat/k) w.toNat n.toNat).1*m,(dX ((1*2^w.toNat/k)+1) w.toNat n.toNat).2*m):=rfl;rw[bc];have bW:Bz 1101 (1*2^w.toNat):=((Bz.small (n:=1) (z:=1) p' p').shl w.toNat).mono f';obtain⟨W,hW⟩:∃W:Int,1*2^w.toNat=W:=⟨_,rfl⟩;rw[hW]at hle bL bH bW|-;have bs:8<=W:=by rw[<-hW,nR];exact bb
 have ao:2^w.toNat=W:=by rw[<-hW,nR]
 have a5:1*2^sh w=W:=by rw[a7];exact hW
 have dl:=ke (a:=W) (d:=k) f';have d0:0<=W/k:=jv f' f';have ay:¬k=0:=f';have a1:rz W k=W%k:=aq ay;have a6:decide (k≠0)=true:=fu ay;have bD:Bz 1101 (W/k):=bW.div;obtain⟨D,hD⟩:=nm (W/k);rw[hD]at hle bL bH dl d0 bD|-;have d3:D*3<=D*k:=jk k1 d0;obtain⟨R,hR⟩:=nm (W%k);rw[hR]at a1;have ab:Bz 1102 (D+1):=bD.add (L5 1101);obtain⟨D1,af⟩:=nm (D+1);rw[af]at hle bH ab|-;obtain⟨oW,bx⟩:=bW.lz f';have bk:Bz 20 k:=Bz.small f' f';have bm:Bz 20 m:=Bz.small f' f';obtain⟨bz,bA⟩:=bk.lz f';obtain⟨bB,bE⟩:=bm.dB f';obtain⟨oD,bt⟩:=bD.jr f';obtain⟨oE,bw⟩:=ab.jr f';have bu:(dg D.natAbs).length<10000000:=f';have v1:2*D<=W:=f';have v2:2*D1<=W:=f';have v3:0<=D1:=f';obtain⟨L,hL⟩:=nm ((dX D w.toNat n.toNat).1);obtain⟨H,hH⟩:=nm ((dX D1 w.toNat n.toNat).2);rw[hL]at hle bL|-;rw[hH]at hle bH|-;obtain⟨oL,bn⟩:=bL.dB f';obtain⟨oH,bd⟩:=bH.dB f';have br:dp (decide (L<0)) (dg L.natAbs) (decide (H<0)) (dg H.natAbs) w:=⟨⟨oL,bn⟩,⟨oH,bd⟩,by rw[cI,cI];exact hle,f',f'⟩;have aw:jJ L H m=L*m:=aq f';have ax:jI L H m=H*m:=aq f';obtain⟨L',a4⟩:=nm (L*m);obtain⟨H',a3⟩:=nm (H*m);rw[a4]at aw|-;rw[a3]at ax|-;refine aB func83 ntmps83 ?_;refine aT ?_;refine cy (A5 a0 a5 hD a1 a6) ?_;refine cy (A2 hL ao) ?_;refine ai.iG (ι:=Unit) (λ_=>⟨[(2,m),(3,w),(10,.ptr 10 0),(14,.ptr 14 0),(18,.ptr 18 0)],[(10,⟨Z',.c [a0a,.ns .u64 [],a0a,.ns .u64 [],(0:Int)]⟩),(14,⟨Z',.c [decide (L<0),dg L.natAbs]⟩),(18,⟨Z',.c [decide (H<0),dg H.natAbs]⟩)]⟩) ?_ (λ_=>?_)
 .refine ai.regionF [(11,11)] [(17,11),(18,12)] [] hE.hT hE.hS hE.hm ?_ (an (A4 a0 af hH ao) ?_)
  .exact ki ⟨_,rfl⟩
  exact⟨(),Le.mk a0b⟩
 refine aG [(14,14),(18,18)] [(20,10)] [] (A2 aw ax) ?_;exact pL
theorem acB(N:Nat)(hN:1<=N):0<=fE N (1/3)/\fE N (1/3)<=1:=by
 have:=uP N hN;unfold fM at this;exact⟨E',E'⟩
@[push_cast] def ae2:Sp:=rS 0 (λq=>0<=q/\q<=900) (λq=>.aU [ba (bq q.toNat).1 (bq q.toNat).2 q,(0:Int)])
theorem Z0:aj a0c 45 ae2:=by
 refine aj.I λq⟨q1,q2⟩=>?_
 obtain⟨Q,rfl⟩:=fI q1;rw[dD];have hE:=eF aaL IN;have r:=OD (w:=Q+16) (n:=(Q+16)/3+2) f' f' 400 f';have hn:=lM (show(Q+16)/3+2<=310 from f');have af:((310:Nat):Rat)=310:=rfl;rw[af]at hn;have wd:=rY (c:=3126) r.2 (by have:((3126:Int):Rat)=3126:=rfl;rw[this];grind);have b3:=acB 400 f';have bz:=tp r.1 f' E' E' (by simp only;omega);have hle:=jq r.1;simp only at bz hle;obtain⟨bL,bH⟩:=bz;have hw:((Q:Int)+16).toNat=Q+16:=f';have aw:(((Q:Int)+16)/3+2).toNat=(Q+16)/3+2:=f';have ao:(Q:Int)+16-Q=16:=f';have hX:bq Q=(iM (fw dY 3 2 (Q+16) ((Q+16)/3+2)).1 16,lF (fw dY 3 2 (Q+16) ((Q+16)/3+2)).2 16):=rfl;rw[hX];have ab:(fw dY 3 2 (Q+16) ((Q+16)/3+2)).1<=(fw dY 3 2 (Q+16) ((Q+16)/3+2)).2:=gj hle p';have z1:Bz 2402 (fw dY 3 2 (Q+16) ((Q+16)/3+2)).1:=bL.mul (Bz.small (n:=2) (z:=2) p' p');have z2:Bz 2402 (fw dY 3 2 (Q+16) ((Q+16)/3+2)).2:=bH.mul (Bz.small (n:=2) (z:=2) p' p');obtain⟨L,hL⟩:=nm ((fw dY 3 2 (Q+16) ((Q+16)/3+2)).1);obtain⟨H,hH⟩:=nm ((fw dY 3 2 (Q+16) ((Q+16)/3+2)).2);rw[hL]at ab z1;rw[hH]at ab z2;rw[hL,hH];obtain⟨oL,ay⟩:=z1.dB f';obtain⟨oH,ax⟩:=z2.dB f';have a0:dp (decide (L<0)) (dg L.natAbs) (decide (H<0)) (dg H.natAbs) ((Q:Int)+16):=⟨⟨oL,ay⟩,⟨oH,ax⟩,by rw[cI,cI];exact ab,f',f'⟩;clear hX r wd;refine aB func45 ntmps45 ?_;refine an (A7 (show¬(Q:Int)<0 from f') (show¬(900:Int)<Q from f') hw aw hL hH ao) ?_;exact pL
theorem T9(y:Rat)(h0:0<=y)(h1:2*y<=1)(N:Nat):-1<=ni N y/\ni N y<=1:=by
 have a:=uj (f:=ah y) (n:=0) rfl (fK h0) (λk _=>by have:=rl h0 h1 k;have:=fK h0 (k+1);grind) N;have e0:ah y 0=y:=by simp[ah,pw];grind
 have e1:al (ah y) 0=0:=rfl;rw[e0,e1,du]at a;unfold ni;exact⟨E',E'⟩
theorem Ln{w n:Nat}{k:Int}{y:Rat}(h5:5<=k)(hy:y*(k:Rat)=1)(y0:0<=y)(y1:2*y<=1)(hw:10<=w)(aw:w<=1200)(hn:w<=9*n)(af:n<=110):
 (dX (1*2^w/k) w n).1<=(dX (1*2^w/k+1) w n).2/\Bz 2400 (dX (1*2^w/k) w n).1/\Bz 2400 (dX (1*2^w/k+1) w n).2:=by
 have r:=Gk (w:=w) (n:=n) h5 hy hw hn 400 f';have ao:=lM af;have ab:((110:Nat):Rat)=110:=rfl;rw[ab]at ao;have wd:=rY (c:=2213) r.2 (by have:((2213:Int):Rat)=2213:=rfl;rw[this];grind);have b:=T9 y y0 y1 400;have bz:=tp r.1 aw E' E' (by simp only;omega);exact⟨jq r.1,bz.1,bz.2⟩
@[push_cast] def aeq:Sp:=rS 0 (λq=>0<=q/\q<=900) (λq=>.aU [ba (ll q.toNat).1 (ll q.toNat).2 q,(0:Int)])
theorem ab6:aj a0c 244 aeq:=by
 refine aj.I λq⟨q1,q2⟩=>?_
 obtain⟨Q,rfl⟩:=fI q1;rw[dD];have hE:=iZ aaN LS IN;obtain⟨a1,a2,a3⟩:=Ln (w:=Q+16) (n:=(Q+16)/9+2) (k:=5) (y:=1/5) p' M' M' M' f' f' f' f';obtain⟨b1,b2,b3⟩:=Ln (w:=Q+16) (n:=(Q+16)/9+2) (k:=239) (y:=1/239) p' M' M' M' f' f' f' f';have hw:((Q:Int)+16).toNat=Q+16:=f';have af:(((Q:Int)+16)/9+2).toNat=(Q+16)/9+2:=f';have ab:(Q:Int)+16-Q=16:=f';have hX:ll Q=(iM ((fw dX 5 16 (Q+16) ((Q+16)/9+2)).1-(fw dX 239 4 (Q+16) ((Q+16)/9+2)).2) 16,lF ((fw dX 5 16 (Q+16) ((Q+16)/9+2)).2-(fw dX 239 4 (Q+16) ((Q+16)/9+2)).1) 16):=rfl;rw[hX];have c1:(fw dX 5 16 (Q+16) ((Q+16)/9+2)).1<=(fw dX 5 16 (Q+16) ((Q+16)/9+2)).2:=gj a1 p';have c2:(fw dX 239 4 (Q+16) ((Q+16)/9+2)).1<=(fw dX 239 4 (Q+16) ((Q+16)/9+2)).2:=gj b1 p';have z1:Bz 2405 (fw dX 5 16 (Q+16) ((Q+16)/9+2)).1:=a2.mul (Bz.small (n:=5) (z:=16) p' p');have z2:Bz 2405 (fw dX 5 16 (Q+16) ((Q+16)/9+2)).2:=a3.mul (Bz.small (n:=5) (z:=16) p' p');have z3:Bz 2405 (fw dX 239 4 (Q+16) ((Q+16)/9+2)).1:=b2.mul (Bz.small (n:=5) (z:=4) p' p');have z4:Bz 2405 (fw dX 239 4 (Q+16) ((Q+16)/9+2)).2:=b3.mul (Bz.small (n:=5) (z:=4) p' p');obtain⟨L,hL⟩:=nm ((fw dX 5 16 (Q+16) ((Q+16)/9+2)).1);obtain⟨H,hH⟩:=nm ((fw dX 5 16 (Q+16) ((Q+16)/9+2)).2);obtain⟨l,hl⟩:=nm ((fw dX 239 4 (Q+16) ((Q+16)/9+2)).1);obtain⟨h,hh⟩:=nm ((fw dX 239 4 (Q+16) ((Q+16)/9+2)).2);rw[hL]at c1 z1;rw[hH]at c1 z2;rw[hl]at c2 z3;rw[hh]at c2 z4;rw[hL,hH,hl,hh];have y1:=z1.add z4.neg;have y2:=z2.add z3.neg;obtain⟨A,hA⟩:=nm (L+-h);obtain⟨B,hB⟩:=nm (H+-l);rw[hA]at y1;rw[hB]at y2;rw[show L-h=A from f',show H-l=B from f'];have k1:dp (decide (L<0)) (dg L.natAbs) (decide (H<0)) (dg H.natAbs) ((Q:Int)+16):=⟨z1.dB f',z2.dB f',by rw[cI,cI];exact c1,f',f'⟩;have k2:dp (decide (l<0)) (dg l.natAbs) (decide (h<0)) (dg h.natAbs) ((Q:Int)+16):=⟨z3.dB f',z4.dB f',by rw[cI,cI];exact c2,f',f'⟩;have k3:dp (decide (A<0)) (dg A.natAbs) (decide (B<0)) (dg B.natAbs) ((Q:Int)+16):=⟨y1.dB f',y2.dB f',by rw[cI,cI];omega,f',f'⟩;clear hX z1 z2 z3 z4 y1 y2;refine aB func244 ntmps244 ?_;refine an (JO (show¬(Q:Int)<0 from f') (show¬(900:Int)<Q from f') hw af hL hH hl hh hA hB ab) ?_;exact pL
@[push_cast] def adI:Sp:=zf 0 (λ_ x e q=>(Lm x/\x.length<62/\-2000<=e/\e<=2000)/\0<=q/\q<=2000) (λb x e q=>ba (kV (zv b x) (ce (zv b x) e+q)) (nr (zv b x) (ce (zv b x) e+q)) q)
theorem AF:aj a0c 209 adI:=by
 refine aj.DI λb x e q⟨⟨hx,hxl,e1,e2⟩,q1,q2⟩=>?_
 have hE:=di aba;obtain⟨F,hF⟩:=nm (kV (zv b x) (ce (zv b x) e+q));obtain⟨C,hC⟩:=nm (nr (zv b x) (ce (zv b x) e+q));rw[hF,hC];refine aB func209 ntmps209 ?_;refine an (A2 hF hC) ?_;exact pL
@[push_cast] def adK:Sp:=rR 0 (λb x c y q d u e v p=>dp b x c y q/\dp d u e v p/\q=p) (λb x c y q d u e v _=>ba (zv b x+zv d u) (zv c y+zv e v) q)
theorem G4:aj a0c 234 adK:=by
 refine aj.AA λb x c y q d u e v p hp=>?_
 have hE:=di Lw;obtain⟨L,hL⟩:=nm (zv b x+zv d u);obtain⟨H,hH⟩:=nm (zv c y+zv e v);rw[hL,hH];refine aB func234 ntmps234 ?_;refine an (A2 hL hH) ?_;exact pL
@[push_cast] def adG:Sp:=rR 0 (λb x c y q d u e v p=>dp b x c y q/\dp d u e v p/\q=p) (λb x c y q d u e v _=>ba (zv b x+-zv e v) (zv c y+-zv d u) q)
theorem G0:aj a0c 211 adG:=by
 refine aj.AA λb x c y q d u e v p hp=>?_
 have hE:=di LS;obtain⟨L,hL⟩:=nm (zv b x+-zv e v);obtain⟨H,hH⟩:=nm (zv c y+-zv d u);rw[hL,hH];refine aB func211 ntmps211 ?_;refine an (A2 hL hH) ?_;exact pL
@[push_cast] def adD:Sp:=rR 0 (λb x c y q d u e v p=>(dp b x c y q/\dp d u e v p/\q=p)/\(x.length<30/\y.length<30/\u.length<30/\v.length<30)) (λb x c y q d u e v _=>ba (iM (kC (zv b x*zv d u) (zv b x*zv e v) (zv c y*zv d u) (zv c y*zv e v)) q) (lF (kD (zv b x*zv d u) (zv b x*zv e v) (zv c y*zv d u) (zv c y*zv e v)) q) q)
theorem W7:aj a0c 227 adD:=by
 refine aj.AA λb x c y q d u e v p hp=>?_
 have hE:=di UH;obtain⟨L,hL⟩:=nm (iM (kC (zv b x*zv d u) (zv b x*zv e v) (zv c y*zv d u) (zv c y*zv e v)) q);obtain⟨H,hH⟩:=nm (lF (kD (zv b x*zv d u) (zv b x*zv e v) (zv c y*zv d u) (zv c y*zv e v)) q);rw[hL,hH];refine aB func227 ntmps227 ?_;refine an (A2 hL hH) ?_;exact pL
@[push_cast] def adJ:Sp:=rR 0 (λb x c y q d u e v p=>(dp b x c y q/\dp d u e v p/\q=p)/\0<zv d u) (λb x c y q d u e v _=>ba (kC (dq 239 q (zv b x) (zv d u)) (dq 239 q (zv b x) (zv e v)) (dq 239 q (zv c y) (zv d u)) (dq 239 q (zv c y) (zv e v))) (kD (dq 240 q (zv b x) (zv d u)) (dq 240 q (zv b x) (zv e v)) (dq 240 q (zv c y) (zv d u)) (dq 240 q (zv c y) (zv e v))) q)
theorem MY:aj a0c 237 adJ:=by
 refine aj.AA λb x c y q d u e v p hp=>?_
 have hE:=di Us;obtain⟨L,hL⟩:=nm (kC (dq 239 q (zv b x) (zv d u)) (dq 239 q (zv b x) (zv e v)) (dq 239 q (zv c y) (zv d u)) (dq 239 q (zv c y) (zv e v)));obtain⟨H,hH⟩:=nm (kD (dq 240 q (zv b x) (zv d u)) (dq 240 q (zv b x) (zv e v)) (dq 240 q (zv c y) (zv d u)) (dq 240 q (zv c y) (zv e v)));rw[hL,hH];refine aB func237 ntmps237 ?_;refine an (A2 hL hH) ?_;exact pL
@[push_cast] def adL:Sp:=BF 0 (λb x c y q k=>dp b x c y q/\-1000000<=k/\k<=1000000) (λb x c y q k=>ba (jJ (zv b x) (zv c y) k) (jI (zv b x) (zv c y) k) q)
theorem AG:aj a0c 212 adL:=by
 refine aj.AI λb x c y q k⟨hB,k1,k2⟩=>?_
 have hE:=eF qN Gv;have bk:Bz 21 k:=Bz.small f' f';obtain⟨o1,ab⟩:=bk.dB f';obtain⟨L,hL⟩:=nm (jJ (zv b x) (zv c y) k);obtain⟨H,hH⟩:=nm (jI (zv b x) (zv c y) k);rw[hL,hH];refine aB func212 ntmps212 ?_;refine aT ?_;refine aG [(2,2)] [(5,8)] [(8,0,2)] (A2 hL hH) ?_;exact pL
@[push_cast] def adE:Sp:=rT 0 (λb x c y=>(Lm x/\x.length<100/\Lm y/\y.length<100)/\0<zv c y/\-1000000<=zv b x/zv c y/\zv b x/zv c y<=1000000) (λb x c y=>.r (.int .i64 (zv b x/zv c y)))
theorem MW:aj a0c 210 adE:=by
 refine aj.ZZ λb x c y⟨⟨hx,hxl,hy,hyl⟩,hpos,d1,d2⟩=>?_
 have hE:=eF B9 Q8;have aw:x.length<10000000:=f';have ax:y.length<10000000:=f';obtain⟨X,hX⟩:=nm (zv b x);obtain⟨Y,hY⟩:=nm (zv c y);rw[hX,hY]at d1 d2;rw[hY]at hpos;rw[hX,hY];have ab:¬Y=0:=f';have af:rz X Y=X%Y:=aq ab;have ao:decide (Y≠0)=true:=fu ab;obtain⟨Q,hQ⟩:=nm (X/Y);obtain⟨R,hR⟩:=nm (X%Y);rw[hR]at af;rw[hQ]at d1 d2|-;have bQ:Bz 21 Q:=Bz.small f' f';obtain⟨o1,ay⟩:=bQ.lz f';have hf:sV Q=true:=fu f';refine aB func210 ntmps210 ?_;refine an (A6 hX hY hQ af ao hf) ?_;exact pL
@[push_cast] def aeS:Sp where
 kind:=0
 pre
  |[.agg [.r (.bool b),.ns .u64 x,.r (.bool c),.ns .u64 y,.r (.int .i64 q)],.fn 214 [],.r (.int .i64 n)]=>(Lm x/\x.length<40)/\(Lm y/\y.length<40)/\(0<=zv b x/\zv b x<=2^q.toNat)/\(0<=zv c y/\zv c y<=2^q.toNat)/\(0<=q/\q<=1200)/\1<=n/\n<400
  |_=>False
 res
  |[.agg [.r (.bool b),.ns .u64 x,.r (.bool c),.ns .u64 y,.r (.int .i64 q)],.fn 214 [],.r (.int .i64 n)]=>ba (kH (zv b x) q.toNat n.toNat).1 (kH (zv c y) q.toNat n.toNat).2 q
  |_=>.any
theorem afQ:aj a0c 213 aeS:=by
 refine sz λargs hp=>?_
 split at hp;rotate_left;cases hp;rename_i b x c y q n;obtain⟨⟨hx,ab⟩,⟨hy,af⟩,⟨h0,h1⟩,⟨h2,h3⟩,⟨q1,q2⟩,n1,n2⟩:=hp;have hE:=di Xn;obtain⟨L,hL⟩:=nm ((kH (zv b x) q.toNat n.toNat).1);obtain⟨H,hH⟩:=nm ((kH (zv c y) q.toNat n.toNat).2);rw[hL,hH];refine aB func213 ntmps213 ?_;refine an (A2 hL hH) ?_;exact pL
@[push_cast] def aeR:Sp where
 kind:=0
 pre
  |[.agg [.r (.bool b),.ns .u64 x,.r (.bool c),.ns .u64 y,.r (.int .i64 q)],.fn 84 [],.r (.int .i64 n)]=>(Lm x/\x.length<20)/\(Lm y/\y.length<20)/\(0<=zv b x/\2*zv b x<=2^q.toNat)/\(0<=zv c y/\2*zv c y<=2^q.toNat)/\(b=decide (zv b x<0)/\x=dg (zv b x).natAbs/\c=decide (zv c y<0)/\y=dg (zv c y).natAbs)/\(0<=q/\q<=1200)/\1<=n/\n<400
  |_=>False
 res
  |[.agg [.r (.bool b),.ns .u64 x,.r (.bool c),.ns .u64 y,.r (.int .i64 q)],.fn 84 [],.r (.int .i64 n)]=>ba (dY (zv b x) q.toNat n.toNat).1 (dY (zv c y) q.toNat n.toNat).2 q
  |_=>.any
theorem afP:aj a0c 213 aeR:=by
 refine sz λargs hp=>?_
 split at hp;rotate_left;cases hp;rename_i b x c y q n;obtain⟨⟨hx,ab⟩,⟨hy,af⟩,⟨h0,h1⟩,⟨h2,h3⟩,⟨c1,c2,c3,c4⟩,⟨q1,q2⟩,n1,n2⟩:=hp;have hE:=di Lp;obtain⟨L,hL⟩:=nm ((dY (zv b x) q.toNat n.toNat).1);obtain⟨H,hH⟩:=nm ((dY (zv c y) q.toNat n.toNat).2);rw[hL,hH];refine aB func213 ntmps213 ?_;refine an (A2 hL hH) ?_;exact pL
@[push_cast] def adF:Sp:=BE 0 (λb x c y q=>(Lm x/\x.length<40)/\(Lm y/\y.length<40)/\(0<=zv b x/\zv b x<=2^q.toNat)/\(0<=zv c y/\zv c y<=2^q.toNat)/\0<=q/\q<=1200)
 (λb x c y q=>ba (my q.toNat (zv b x,zv c y)).1 (my q.toNat (zv b x,zv c y)).2 q)
theorem MX:aj a0c 206 adF:=by
 refine aj.A λb x c y q⟨⟨hx,hxl⟩,⟨hy,hyl⟩,⟨h0,h1⟩,⟨h2,h3⟩,q1,q2⟩=>?_
 have hE:=di afQ;have hn:(q/4+10).toNat=q.toNat/4+10:=f';obtain⟨L,hL⟩:=nm ((my q.toNat (zv b x,zv c y)).1);obtain⟨H,hH⟩:=nm ((my q.toNat (zv b x,zv c y)).2);have af:(kH (zv b x) q.toNat (q.toNat/4+10)).1=L:=hL;have ab:(kH (zv c y) q.toNat (q.toNat/4+10)).2=H:=hH;rw[hL,hH];refine aB func206 ntmps206 ?_;refine an (A3 hn af ab) ?_;exact pL
section
variable {w:Nat}
def yD(m e:Int):Nat:=(m*2^(e+116).toNat).toNat
def DX(b:Bool)(x:List Int)(e:Int):Prop:=(Lm x/\x.length<10)/\0<zv b x/\(-116<=e/\e<=10)/\yD (zv b x) e<2^126
def LX(c:Bool)(y:List Int)(d:Bool)(z:List Int)(w:Int):Prop:=((Lm y/\y.length<30)/\(Lm z/\z.length<30))/\zv c y=(bq w.toNat).1/\zv d z=(bq w.toNat).2/\200<=w/\w<=840
theorem sS{m e:Int}(hm:0<m)(he:-116<=e)(hw:116<=w):m*2^(e+w).toNat=xX w (yD m e)/\0<yD m e:=by
 have hp:0<m*2^(e+116).toNat:=jZ hm (cf _);have h1:((yD m e:Nat):Int)=m*2^(e+116).toNat:=tY (bo hp);refine⟨?_,by have:=h1;unfold yD at*;omega⟩;unfold xX;rw[h1,mW,<-gk]
 congr 2
 omega
theorem JI{Y:Nat}(hw:200<=w)(ab:w<=900)(hY:Y<2^126):Bz 960 (xX w Y):=by
 unfold xX;have:Bz 126 ((Y:Nat):Int):=by unfold Bz;rw[Int.natAbs_natCast];exact hY
 exact(this.shl _).mono f'
theorem gP{n:Nat}{v:Int}(h0:0<=v)(h:v<=2^n):Bz (n+1) v:=by
 have hp:(2:Int)^n=((2^n:Nat):Int):=by rw[kJ];rfl
 rw[hp]at h;unfold Bz;rw[gH];have:=l7 n;omega
theorem abN{X:Int}(hw:60<=w)(ab:w<=900)(h0:0<=X)(h1:X<=1024*2^w):
 0<=(qQ w X).1/\(qQ w X).1<=(qQ w X).2/\(qQ w X).2<=2^w/\0<=eT w X/\eT w X<=1536:=by
 obtain⟨x,hx⟩:=pC X w;obtain⟨r1,_,k0,k1,_,_⟩:=Hb hw ab hx h0 h1 400 f';obtain⟨l1,l2,l3,l4⟩:=pK ab;have hq:=cf w;have af:0<(bq w).2:=f';have dl:=ke (a:=X) af;have ao:(1048576:Int)<=2^w:=jf (s:=20) f' p';have ay:eT w X*(bq w).2<=eT w X*(bq w).1+3072:=by
  have:=jk l2 k0;rw[tX]at this;omega
 have ax:eT w X*(bq w).1<=eT w X*(bq w).2:=jk l1 k0;have aw:eT w X*(bq w).2<=X/\X<eT w X*(bq w).2+(bq w).2:=by
  unfold eT;rw[nN]at dl;omega
 simp only[qQ];exact⟨f',f',f',k0,k1⟩
@[push_cast] def adj:Sp where
 kind:=0
 pre
  |[.agg [],.agg [.r (.bool b),.ns .u64 x,.r (.int .i64 e)],.agg [.r (.bool c),.ns .u64 y,.r (.bool d),.ns .u64 z,.r (.int .i64 w)]]=>DX b x e/\LX c y d z w
  |_=>False
 res
  |[.agg [],.agg [.r (.bool b),.ns .u64 x,.r (.int .i64 e)],.agg [.r (.bool c),.ns .u64 y,.r (.bool d),.ns .u64 z,.r (.int .i64 w)]]=>
   .aU [ba (rj w.toNat (xX w.toNat (yD (zv b x) e))).1 (rj w.toNat (xX w.toNat (yD (zv b x) e))).2 w,eT w.toNat (xX w.toNat (yD (zv b x) e))]
  |_=>.any
theorem VU:aj a0c 208 adj:=by
 refine sz λargs hp=>?_
 split at hp;rotate_left;cases hp;rename_i b x e c y d z w;obtain⟨⟨⟨hx,bd⟩,hm,⟨e1,e2⟩,hY⟩,⟨⟨hy,bn⟩,⟨hz,br⟩⟩,af,ab,w1,w2⟩:=hp;have hE:=Di AF rP MW AG G0 MX;obtain⟨W,rfl⟩:=fI (show 0<=w from f');rw[dD]at af ab|-;obtain⟨hX,bc⟩:=sS (e:=e) hm e1 (w:=W) f';have xf:=B4 (w:=W) (Y:=yD (zv b x) e) f' hY;have bX:=JI (w:=W) (Y:=yD (zv b x) e) f' f' hY;have rr:=abN (w:=W) f' f' xf.2.1 xf.2.2;have lint:=pK (w:=W) f';have a3:¬zv b x=0:=f';have a1:ce (zv b x) e=e:=aq a3;have aw:kV (zv b x) (e+W)=xX W (yD (zv b x) e):=by unfold kV;rw[au f'];exact hX
 have ao:nr (zv b x) (e+W)=xX W (yD (zv b x) e):=by unfold nr;rw[au f'];exact hX
 have bm:x.length<62:=f';obtain⟨X,eX⟩:=nm (xX W (yD (zv b x) e));rw[eX]at xf bX rr aw ao|-;obtain⟨A,eA⟩:=nm ((bq W).1);obtain⟨B,eB⟩:=nm ((bq W).2);rw[eA]at af lint;rw[eB]at ab lint;obtain⟨K,eK⟩:=nm (eT W X);have ay:X/B=K:=by rw[<-eK,<-eB];rfl
 have er:qQ W X=(X-K*B,X-K*A):=by unfold qQ;rw[eK,eA,eB]
 have ea:rj W X=my W (X-K*B,X-K*A):=by unfold rj;rw[er]
 rw[er,eK]at rr;dsimp only at rr;obtain⟨r1,r2,r3,k0,k1⟩:=rr;rw[ea,eK];have hs:¬X.sign<0:=by
  rcases Ce X 0 with h|h|h
  .have:=xf.2.1;omega
  .rw[h];decide
  .rw[si h];decide
 obtain⟨oX,ax⟩:=bX.dB f';have bw:(dg X.natAbs).length<100:=f';have bs:z.length<100:=f';have a7:dp (decide (X<0)) (dg X.natAbs) (decide (X<0)) (dg X.natAbs) (W:Int):=⟨⟨oX,ax⟩,⟨oX,ax⟩,gu _,f',f'⟩;have a4:dp c y d z (W:Int):=⟨⟨hy,f'⟩,⟨hz,f'⟩,by rw[af,ab];exact lint.1,f',f'⟩;have bA:=dN (b:=c) hy (k:=29) f';have bB:=dN (b:=d) hz (k:=29) f';rw[af]at bA;rw[ab]at bB;have bK:Bz 12 K:=Bz.small f' f';have t1:jJ A B K=A*K:=aq f';have t2:jI A B K=B*K:=aq f';have z1:=bA.mul bK;have z2:=bB.mul bK;obtain⟨P,hP⟩:=nm (A*K);obtain⟨Q,hQ⟩:=nm (B*K);rw[hP]at t1 z1;rw[hQ]at t2 z2;have a0:P<=Q:=by rw[<-hP,<-hQ];exact gj lint.1 k0
 have a6:dp (decide (P<0)) (dg P.natAbs) (decide (Q<0)) (dg Q.natAbs) (W:Int):=⟨z1.dB f',z2.dB f',by rw[cI,cI];exact a0,f',f'⟩;have eU:X-K*B=X+-Q:=by rw[<-hQ,gD];omega
 have eV:X-K*A=X+-P:=by rw[<-hP,gD];omega
 rw[eU]at r1 r2;rw[eV]at r2 r3;rw[eU,eV];obtain⟨U,hU⟩:=nm (X+-Q);obtain⟨V,hV⟩:=nm (X+-P);rw[hU]at r1 r2|-;rw[hV]at r2 r3|-;have b1:=gP (n:=W) r1 f';have b2:=gP (n:=W) (v:=V) f' r3;obtain⟨o1,bt⟩:=b1.jN f';obtain⟨o2,bu⟩:=b2.jN f';have r4:U<=2^W:=f';have r5:0<=V:=f';have tn:((W:Int)).toNat=W:=dD W;obtain⟨L,hL⟩:=nm ((my W (U,V)).1);obtain⟨H,hH⟩:=nm ((my W (U,V)).2);rw[hL,hH];have a5:0<B:=by have:=cf W;omega
 have bb:0<=X:=xf.2.1;refine aB func208 ntmps208 ?_;refine aT ?_;refine cy (A3 a1 aw ao) ?_;refine aT ?_;refine ai.seq ?_;refine gl hs ?_;refine aF ?_;refine cy (A2 ab ay) ?_;refine aG [(8,8),(5,5),(6,6)] [] [] (A9 af ab t1 t2 hU hV tn hL hH) ?_;exact pL
end
section
variable {e m z:Int}{n w:Nat}
theorem Dh{k:Int}(h:0<=e+k):kV (ct z) (ce (ct z) (cH z e)+k)=z*2^(e+k).toNat/\nr (ct z) (ce (ct z) (cH z e)+k)=z*2^(e+k).toNat:=by
 by_cases hz:z=0
 .subst hz
  have h0:ct 0=0:=by simp[ct]
  rw[h0];unfold kV nr;constructor<;>split<;>simp
 .obtain⟨_,_,hd,_⟩:=zp hz
  have af:(2:Int)^tz z∣z:=by
   have:((2^tz z:Nat):Int)∣z:=Int.dvd_natAbs.1 (S9.2 hd);rwa[kJ]at this
  have hM:ct z*2^tz z=z:=JZ af;have ab:ct z≠0:=λh0=>hz (by rw[<-hM,h0];simp)
  have hc:ce (ct z) (cH z e)=e+tz z:=by unfold ce cH;rw[aq ab,aq hz]
  rw[hc];have hv:ct z*2^(e+tz z+k).toNat=z*2^(e+k).toNat:=by
   have:(e+tz z+k).toNat=tz z+(e+k).toNat:=f';rw[this,gk,<-mW,hM]
  unfold kV nr;rw[au f',au f'];exact⟨hv,hv⟩
theorem V7(hm:0<m)(he:-116<=e):kV m e=((yD m e/2^116:Nat):Int):=by
 have hp:0<m*2^(e+116).toNat:=jZ hm (cf _);have h1:((yD m e:Nat):Int)=m*2^(e+116).toNat:=tY (bo hp);rw[Cj,h1];have ab:(((2^116:Nat):Nat):Int)=2^116:=by rw[kJ];rfl
 rw[ab];unfold kV
 by_cases h:0<=e
 .rw[au h]
  have:(e+116).toNat=e.toNat+116:=f';rw[this,gk,<-mW,S5 _ (Int.ne_of_gt (cf 116))]
 .rw[aq h]
  obtain⟨n,hn⟩:∃n:Nat,(-e).toNat=n:=⟨_,rfl⟩;have h2:(2:Int)^116=2^n*2^(e+116).toNat:=by rw[<-gk];congr 1;omega
  rw[hn,h2,S6 _ _ (cf _)]
@[push_cast] def adk:Sp where
 kind:=0
 pre
  |[.agg [],.agg [.r (.bool b),.ns .u64 x,.r (.int .i64 e)],.agg [.r (.bool c),.ns .u64 y,.r (.bool d),.ns .u64 z,.r (.int .i64 w)]]=>DX b x e/\LX c y d z w
  |_=>False
 res
  |[.agg [],.agg [.r (.bool b),.ns .u64 x,.r (.int .i64 e)],.agg [.r (.bool c),.ns .u64 y,.r (.bool d),.ns .u64 z,.r (.int .i64 w)]]=>
   .aU [ba (sI w.toNat (xX w.toNat (yD (zv b x) e%2^116))).1 (sI w.toNat (xX w.toNat (yD (zv b x) e%2^116))).2 w,((yD (zv b x) e/2^116:Nat):Int)]
  |_=>.any
theorem XH(hm:0<m)(he:-116<=e)(ay:e<=10)(N0 F L:Int)(hN:N0=((yD m e/2^116:Nat):Int))(hF:F=ce (ct N0) (cH N0 0))(aw:0<=F)(ax:F<=100)(hL:L=min e F)(hw:200<=w):
 (m*2^sh (e-L)-ct N0*2^sh (F-L))*2^(L+(w:Int)).toNat=xX w (yD m e%2^116)/\-116<=L:=by
 have af:-116<=L:=f';refine⟨?_,af⟩;have s1:sh (e-L)=(e-L).toNat:=ia f' f';have s2:sh (F-L)=(F-L).toNat:=ia f' f';have p1:(2:Int)^(e-L).toNat*2^(L+(w:Int)).toNat=2^(e+(w:Int)).toNat:=by rw[<-gk];congr 1;omega
 have p2:(2:Int)^(F-L).toNat*2^(L+(w:Int)).toNat=2^(F+(w:Int)).toNat:=by rw[<-gk];congr 1;omega
 have v:=(Dh (z:=N0) (e:=0) (k:=(w:Int)) f').1;rw[<-hF]at v;unfold kV at v;rw[au f']at v;have ao:(0+(w:Int)).toNat=w:=f';rw[ao]at v;rw[s1,s2,vA,mW,mW,p1,p2,v,(sS hm he f').1];have h3:(2:Int)^w=2^116*2^(w-116):=by rw[<-gk];congr 1;omega
 unfold xX;rw[h3,hN,<-mW,<-vA]
 congr 1
 have h4:=vD (yD m e) (2^116);have ab:(((2^116:Nat):Nat):Int)=2^116:=by rw[kJ];rfl
 have h5:((yD m e:Nat):Int)=2^116*((yD m e/2^116:Nat):Int)+((yD m e%2^116:Nat):Int):=by
  rw[<-ab,<-se,<-vw,h4]
 rw[h5,gD (2^116)];omega
theorem abM{X:Int}(hw:60<=w)(ab:w<=900)(h0:0<=X)(h1:X<=2^w):
 0<=(rt (bq w) X (2^w)).1/\(rt (bq w) X (2^w)).1<=(rt (bq w) X (2^w)).2/\(rt (bq w) X (2^w)).2<=2^w:=by
 obtain⟨x,hx⟩:=pC X w;obtain⟨l1,l2,l3,l4⟩:=pK ab;have li:=uQ (q:=w) ab 400 f';have hq:=cf w;have af:(1048576:Int)<=2^w:=jf (s:=20) f' p';have r:aW w (rt (bq w) X (2^w)) (x*fM 400):=by
  refine rH li.1 h0 hq ?_;rw[cV,<-hx];grind
 have lo:0<=(rt (bq w) X (2^w)).1:=jv (dP f' h0) (bo hq);have hi:(rt (bq w) X (2^w)).2<=(bq w).2:=by
  have u:=(oO (a:=(bq w).2*X) hq).2;have m:=jk h1 (show 0<=(bq w).2 from f');have:=lX (Fw u m) (bo hq);simp only[rt];omega
 exact⟨lo,jq r,f'⟩
theorem RN(hz:z≠0)(h:Bz n z):(tz z:Int)<=n:=by
 have:=(zp hz).2.2.2;have hb:=(ku z.natAbs n).2 h;omega
theorem GW(h:Bz n z):-(e.natAbs:Int)<=cH z e/\cH z e<=e.natAbs+n:=by
 by_cases hz:z=0
 .unfold cH;rw[au hz];omega
 .have:=RN hz h
  unfold cH;rw[aq hz];omega
theorem MQ(h:Bz n z):0<=cH z 0/\cH z 0<=n:=by
 by_cases hz:z=0
 .unfold cH;rw[au hz];omega
 .have:=RN hz h
  unfold cH;rw[aq hz];omega
theorem VT:aj a0c 225 adk:=by
 refine sz λargs hp=>?_
 split at hp;rotate_left;cases hp;rename_i b x e c y d z w;obtain⟨⟨⟨hx,bO⟩,hm,⟨e1,e2⟩,hY⟩,⟨⟨hy,bR⟩,⟨hz,bT⟩⟩,ao,aw,w1,w2⟩:=hp;have hE:=MR MF Q8 yi Wo AF W7 MX;obtain⟨W,rfl⟩:=fI (show 0<=w from f');rw[dD]at ao aw|-;have bH:¬zv b x=0:=f';have bs:ce (zv b x) e=e:=aq bH;have a3:=V7 hm e1;have bA:yD (zv b x) e/2^116<1024:=Cy (by rw[iw];exact hY);have a6:yD (zv b x) e%2^116<2^116:=ph _ p';obtain⟨N0,a4⟩:∃N0:Int,((yD (zv b x) e/2^116:Nat):Int)=N0:=⟨_,rfl⟩;rw[a4]at a3|-;have n0:0<=N0/\N0<1024:=f';have bM:kV (zv b x) (e+0)=N0:=by rw[vt];exact a3
 have bB:sV N0=true:=fu f';have bN:Bz 10 N0:=Bz.small f' f';have ab:Bz 10 (ct N0):=bN.div;have bu:=MQ bN;have a0:0<=ce (ct N0) (cH N0 0)/\ce (ct N0) (cH N0 0)<=100:=by unfold ce;split<;>omega
 obtain⟨F,hF⟩:=nm (ce (ct N0) (cH N0 0));rw[hF]at a0;obtain⟨L,hL⟩:=nm (min e F);have fp:=XH hm e1 e2 N0 F L a4.symm hF.symm a0.1 a0.2 hL.symm (w:=W) f';have bx:=dN (b:=b) hx (k:=9) f';obtain⟨D,hD⟩:=nm (zv b x*2^sh (e-L)-ct N0*2^sh (F-L));have bD:Bz 800 D:=by
  rw[<-hD];have a1:=bx.shl (sh (e-L));have a2:=ab.shl (sh (F-L));have s1:sh (e-L)<=126:=by rw[ia f' f'];omega
  have s2:sh (F-L)<=216:=by rw[ia f' f'];omega
  exact((a1.mono (b:=799) f').sub (a2.mono (b:=799) f')).mono f'
 rw[hD]at fp;have dv:=Dh (z:=D) (e:=L) (k:=(W:Int)) f';rw[fp.1]at dv;have bw:=GW (e:=L) bD;have ax:Bz 800 (ct D):=bD.div;obtain⟨M0,bn⟩:=nm (ct N0);obtain⟨E0,bb⟩:=nm (cH N0 0);obtain⟨M1,br⟩:=nm (ct D);obtain⟨E1,bc⟩:=nm (cH D L);rw[bn]at ab hF hD;rw[bb]at bu hF;rw[br]at ax dv;rw[bc]at bw dv;have ay:=JI (w:=W) (Y:=yD (zv b x) e%2^116) f' f' (Nat.lt_trans a6 p');have af:0<=xX W (yD (zv b x) e%2^116):=dP f' (bo (cf _));have a5:xX W (yD (zv b x) e%2^116)<=2^W:=by
  have bt:(2:Int)^W=2^116*2^(W-116):=by rw[<-gk];congr 1;omega
  have h1:((yD (zv b x) e%2^116:Nat):Int)<=2^116:=by exact_mod_cast (kt a6)
  rw[bt];exact gj h1 (bo (cf (W-116)))
 obtain⟨X,eX⟩:=nm (xX W (yD (zv b x) e%2^116));rw[eX]at dv ay af a5|-;clear eX fp a6 bA hY a4;have rr:=abM (w:=W) f' f' af a5;have lint:=pK (w:=W) f';have hq:=cf W;obtain⟨A,eA⟩:=nm ((bq W).1);obtain⟨B,eB⟩:=nm ((bq W).2);rw[eA]at ao lint;rw[eB]at aw lint;have ea:sI W X=my W (rt (bq W) X (2^W)):=rfl;obtain⟨P,hP⟩:=nm (X*A);obtain⟨Q,hQ⟩:=nm (X*B);have bz:P<=Q:=by rw[<-hP,<-hQ];exact jk lint.1 af
 have bE:kC P Q P Q=P:=by unfold kC ko;repeat' split<;>omega
 have bF:kD P Q P Q=Q:=by unfold kD kp;repeat' split<;>omega
 have a7:rt (bq W) X (2^W)=(iM P W,lF Q W):=by
  have h1:iM P W=P/2^W:=by unfold iM;rw[aq f',dD]
  have h2:lF Q W=-((-Q)/2^W):=by unfold lF iM;rw[aq f',dD]
  rw[h1,h2];unfold rt iI;rw[eA,eB,gD A,gD B,hP,hQ,lW _ (bo hq)]
 rw[a7]at rr ea;dsimp only at rr;rw[ea];obtain⟨U,hU⟩:=nm (iM P W);obtain⟨V,hV⟩:=nm (lF Q W);rw[hU,hV]at rr|-;obtain⟨r1,r2,r3⟩:=rr;have b1:=gP (n:=W) r1 f';have b2:=gP (n:=W) (v:=V) f' r3;obtain⟨o1,bU⟩:=b1.jN f';obtain⟨o2,bV⟩:=b2.jN f';have r4:U<=2^W:=f';have r5:0<=V:=f';have tn:((W:Int)).toNat=W:=dD W;obtain⟨LO,bm⟩:=nm ((my W (U,V)).1);obtain⟨HI,bd⟩:=nm ((my W (U,V)).2);rw[bm,bd];obtain⟨oX,bW⟩:=ay.jr f';have bX:(dg X.natAbs).length<30:=f';have bL:dp (decide (X<0)) (dg X.natAbs) (decide (X<0)) (dg X.natAbs) (W:Int):=⟨⟨oX,f'⟩,⟨oX,f'⟩,gu _,f',f'⟩;have bK:dp c y d z (W:Int):=⟨⟨hy,f'⟩,⟨hz,f'⟩,by rw[ao,aw];exact lint.1,f',f'⟩;obtain⟨q1,bY⟩:=bN.jr f';have q4:(dg N0.natAbs).length<62:=f';have q5:(dg N0.natAbs).length<10000000:=f';obtain⟨q2,b0⟩:=ab.jr f';have q6:(dg M0.natAbs).length<21:=f';obtain⟨q3,b3⟩:=ax.jr f';have q7:(dg M1.natAbs).length<62:=f';have bP:x.length<62:=f';have bQ:x.length<21:=f';have d1:=dv.1;have d2:=dv.2;clear lint af a5 bz dv ea a7 bx bD bN ab ax ay b1 b2;refine aB func225 ntmps225 ?_;refine aT ?_;refine cy (A2 bs a3) ?_;refine cy bB ?_;refine aG [(4,4),(8,8),(5,5),(6,6)] [] [(22,4,5),(23,5,5)] (SL bn bb bs hF hL hD br bc d1 d2 ao aw hP hQ bE bF hU hV tn bm bd) ?_;exact pL
end
end Go.Hl
