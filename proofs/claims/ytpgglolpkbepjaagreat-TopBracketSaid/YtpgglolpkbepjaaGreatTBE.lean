/- Lemmas for TopSound and TopBracket. -/
import Derived.Test.YtpgglolpkbepjaaGreatTBD
set_option linter.unusedVariables false
set_option linter.unusedSimpArgs false
namespace Go.Hl
open Go.Proofs.Tryz
open Go.Proofs.Tryz renaming prog→a0c
open Option renaming some→T',none→Y'
open Bool renaming true→Z',false→a0a
open Go Go.RowKit Go.Proofs
set_option maxHeartbeats 8000000
set_option maxRecDepth 100000
section
variable {e:Int}{Y:Nat}
theorem agL(hY:0<Y)(ab:Y<2^126):-116<=xE Y/\xE Y<=9:=by
 have h1:=Cz (show Y≠0 from f');have hu:Y.log2<=125:=by
  rcases dQ 125 Y.log2 with h|h
  .have:=lC (n:=2) p' h
   omega
  .exact h
 unfold xE;omega
@[push_cast] def adH:Sp where
 kind:=0
 pre
  |[.r (.int .i64 f),.agg [.r (.bool b),.ns .u64 x,.r (.int .i64 e)],.r (.int .i64 q)]=>(0<=f/\f<=5)/\DX b x e/\0<=q/\q<=800
  |_=>False
 res _:=.r (.bool Z')
theorem W9:aj a0c 44 adH:=by
 refine sz λargs hp=>?_
 split at hp;rotate_left;cases hp;rename_i f b x e q;obtain⟨⟨f0,f5⟩,⟨⟨hx,ay⟩,hm,⟨e1,e2⟩,hY⟩,q1,q2⟩:=hp;have hE:=eF MJ GR;have ao:=(sS (e:=e) hm e1 (w:=200) f').2;have xl:=agL ao hY;have ab:=GS hm e1;obtain⟨D,hD⟩:=nm (xE (yD (zv b x) e));rw[hD]at xl ab;have af:¬zv b x=0:=f';have aw:decide (zv b x≠0)=true:=fu af;have bx:=dN (b:=b) hx (k:=9) f';have ax:(bJ (zv b x).natAbs:Int)<=576:=by have:=(ku (zv b x).natAbs _).2 bx;omega
 have hs:0<(zv b x).sign:=by rw[si hm];decide
 have a0:x.length<10000000:=f';have n1:¬q<0:=f';have n2:¬800<q:=f';have n3:¬e< -1200:=f';have n4:-1100<=D:=f';have n5:D<=1100:=f';have n6:D<=9:=xl.2;clear hY xl hD;have hf:f=0\/f=1\/f=2\/f=3\/f=4\/f=5:=f';refine aB func44 ntmps44 ?_;rcases hf with rfl|rfl|rfl|rfl|rfl|rfl
 all_goals
  refine an (vm af ab aw n1 n2 n3 n6 hs n4 n5) ?_;exact pL
def vZ(f:Int):Value:=
 if f=0 then .iface 157 (.agg #[])else if f=1 then .iface 158 (.agg #[])else if f=2 then .iface 159 (.agg #[])else if f=3 then .iface 161 (.agg #[])else if f=5 then .iface 163 (.agg #[.int .i64 1])else .iface 163 (.agg #[.int .i64 0])
@[push_cast] def aec:Sp where
 kind:=0
 pre
  |[.r (.int .i64 f)]=>0<=f/\f<=5
  |_=>False
 res
  |[.r (.int .i64 f)]=>.r (vZ f)
  |_=>.any
theorem aap:aj a0c 46 aec:=by
 refine sz λargs hp=>?_
 split at hp;rotate_left;cases hp;rename_i f;obtain⟨f0,f5⟩:=hp;have hE:=env dC;have hf:f=0\/f=1\/f=2\/f=3\/f=4\/f=5:=f';refine aB func46 ntmps46 ?_;rcases hf with rfl|rfl|rfl|rfl|rfl|rfl
 all_goals
  refine aK ?_;exact pL
theorem Fa{m:Int}(hm:0<m)(he:-116<=e):yD (ct m) (cH m e)=yD m e/\0<ct m/\-116<=cH m e:=by
 have hz:m≠0:=f';obtain⟨_,_,hd,_⟩:=zp hz;have ao:(2:Int)^tz m∣m:=by
  have:((2^tz m:Nat):Int)∣m:=Int.dvd_natAbs.1 (S9.2 hd);rwa[kJ]at this
 have hM:ct m*2^tz m=m:=JZ ao;have hp:=cf (tz m);have af:0<ct m:=by
  rcases qc 0 (ct m)with h|h
  .exact h
  .have:=gj h (bo hp)
   rw[hM]at this;omega
 have ab:cH m e=e+tz m:=aq hz;refine⟨?_,af,f'⟩;unfold yD;have:ct m*2^(cH m e+116).toNat=m*2^(e+116).toNat:=by
  rw[ab,show(e+tz m+116).toNat=tz m+(e+116).toNat from f',gk,<-mW,hM]
 rw[this]
theorem GU{b:Bool}{x:List Int}(h:DX b x e):DX (decide (ct (zv b x)<0)) (dg (ct (zv b x)).natAbs) (cH (zv b x) e):=by
 obtain⟨⟨hx,af⟩,hm,⟨e1,e2⟩,hY⟩:=h;obtain⟨y1,y2,y3⟩:=Fa hm e1;have bx:Bz (64*9) (zv b x):=dN (b:=b) hx (k:=9) f';have bM:Bz (64*9) (ct (zv b x)):=bx.div;have ab:=Gy 9 bM p';obtain⟨o1,_,o2⟩:=lI ab p';refine⟨⟨o1,f'⟩,by rw[cI];exact y2,⟨y3,?_⟩,by rw[cI,y1];exact hY⟩;rcases qc 10 (cH (zv b x) e)with h|h
 .exfalso
  have h2:yD (ct (zv b x)) (cH (zv b x) e)=yD (zv b x) e:=y1;rw[<-h2]at hY;have hp:(2:Int)^126<=2^(cH (zv b x) e+116).toNat:=jf (s:=126) f' (gu _);have h3:(2:Int)^(cH (zv b x) e+116).toNat<=ct (zv b x)*2^(cH (zv b x) e+116).toNat:=by
   have:=gj (show(1:Int)<=ct (zv b x)from f') (bo (cf (cH (zv b x) e+116).toNat));omega
  have h4:((yD (ct (zv b x)) (cH (zv b x) e):Nat):Int)=ct (zv b x)*2^(cH (zv b x) e+116).toNat:=tY (by have:=cf (cH (zv b x) e+116).toNat;omega);have h5:((yD (ct (zv b x)) (cH (zv b x) e):Nat):Int)<2^126:=by exact_mod_cast hY
  omega
 .exact h
theorem KQ{f W:Nat}(hw:200<=W)(af:W<=900)(hY:0<Y)(ab:Y<2^126):Bz 1000 (gI f W Y).1.1/\Bz 1000 (gI f W Y).1.2/\(gI f W Y).1.1<=(gI f W Y).1.2:=by
 obtain⟨N,hN⟩:=tG;obtain⟨k1,k2,k3⟩:=Lr (f:=f) (w:=W) hw af hY ab N hN;have bd:BD (tP N f Y (kS qJ Y) (kS mj Y)):=Gj (f:=f) hY ab hN;have key:=Jy (a:=0) (b:=0) (p:=(gI f W Y).1) (t:=(gI f W Y).1) f' af (gu 0) p' J' k1 k2 bd.1 bd.2;exact⟨key.1,key.2.1,key.2.2.2.2⟩
@[push_cast] def acL:Sp where
 kind:=0
 pre
  |[.r (.int .i64 f),.agg [.r (.bool b),.ns .u64 x,.r (.int .i64 e)],.r (.int .i64 q)]=>(0<=f/\f<=5)/\DX b x e/\160<=q/\q<=800
  |_=>False
 res
  |[.r (.int .i64 f),.agg [.r (.bool b),.ns .u64 x,.r (.int .i64 e)],.r (.int .i64 q)]=>
   .aU [ba (cD f.toNat q.toNat (yD (zv b x) e)).1.1 (cD f.toNat q.toNat (yD (zv b x) e)).1.2 q,.r (.int .i64 (cD f.toNat q.toNat (yD (zv b x) e)).2),(0:Int)]
  |_=>.any
theorem Lj:aj a0c 14 acL:=by
 refine sz λargs hp=>?_
 split at hp;rotate_left;cases hp;rename_i f b x e q;obtain⟨⟨f0,f5⟩,ao,q1,q2⟩:=hp;obtain⟨Q,rfl⟩:=fI (show 0<=q from f');rw[dD];obtain⟨F,hF⟩:=nm (f.toNat);rw[hF];have hE:=Wt GK W9 Z0 aap VU VT VW VV VX IN;have a3:=GU ao;obtain⟨⟨hx,bb⟩,hm,⟨e1,e2⟩,hY⟩:=ao;have yn:=(Fa hm e1).1;have ab:=(sS (e:=e) hm e1 (w:=200) f').2;obtain⟨W,hW⟩:=nm (Q+40);have bz:=KQ (f:=F) (W:=W) f' f' ab hY;unfold cD;rw[hW];obtain⟨Y,eY⟩:=nm (yD (zv b x) e);rw[eY]at hY ab yn bz|-;have bc:x.length<62:=f';obtain⟨M,a0⟩:=nm (ct (zv b x));obtain⟨E,ay⟩:=nm (cH (zv b x) e);rw[a0,ay]at a3 yn;have a5:(Q:Int)+40=(W:Int):=f';have tn:((W:Int)).toNat=W:=dD W;obtain⟨A,hA⟩:=nm ((bq W).1);obtain⟨B,hB⟩:=nm ((bq W).2);have lint:=pK (w:=W) f';rw[hA,hB]at lint;have a4:(65536:Int)<=2^W:=jf (s:=16) f' p';have bA:=gP (n:=W) (v:=A) f' f';have bB:=gP (n:=W) (v:=B) f' f';obtain⟨oA,bd⟩:=bA.jr f';obtain⟨oB,bm⟩:=bB.jr f';have a7:LX (decide (A<0)) (dg A.natAbs) (decide (B<0)) (dg B.natAbs) (W:Int):=
  ⟨⟨⟨oA,f'⟩,⟨oB,f'⟩⟩,by rw[cI,dD,hA],by rw[cI,dD,hB],f',f'⟩
 obtain⟨L,hL⟩:=nm ((gI F W Y).1.1);obtain⟨H,hH⟩:=nm ((gI F W Y).1.2);obtain⟨K,hK⟩:=nm ((gI F W Y).2);rw[hL,hH]at bz;have er:pX (gI F W Y).1 40=(iM L 40,lF H 40):=by unfold pX;rw[hL,hH];rfl
 rw[er,hK];dsimp only;obtain⟨LO,ax⟩:=nm (iM L 40);obtain⟨HI,aw⟩:=nm (lF H 40);rw[ax,aw];have a6:dp (decide (L<0)) (dg L.natAbs) (decide (H<0)) (dg H.natAbs) (W:Int):=⟨bz.1.dB f',bz.2.1.dB f',by rw[cI,cI];exact bz.2.2,f',f'⟩;have a1:(W:Int)-(Q:Int)=40:=f';have hI:vZ 0=.iface 157 (.agg #[])/\vZ 1=.iface 158 (.agg #[])/\vZ 2=.iface 159 (.agg #[])/\vZ 3=.iface 161 (.agg #[])/\vZ 4=.iface 163 (.agg #[.int .i64 0])/\vZ 5=.iface 163 (.agg #[.int .i64 1]):=by and_intros<;>rfl
 have hf:f=0/\F=0\/f=1/\F=1\/f=2/\F=2\/f=3/\F=3\/f=4/\F=4\/f=5/\F=5:=f';have af:gI 0 W Y=(rj W (xX W Y),eT W (xX W Y))/\gI 1 W Y=(sI W (xX W (Y%2^116)),((Y/2^116:Nat):Int))/\gI 2 W Y=(ql W (xM W Y) (xE Y),0)/\gI 3 W Y=(qm W (xM W Y) (xE Y),0)/\gI 4 W Y=(me W (xX W Y) (fZ W (xX W Y)),0)/\gI 5 W Y=(me W (xX W Y) (fZ W (xX W Y)+1),0):=⟨rfl,rfl,rfl,rfl,rfl,rfl⟩;clear bz lint bA bB er hY ab a4 f0 f5 hF;refine aB func14 ntmps14 ?_;rcases hf with⟨rfl,rfl⟩|⟨rfl,rfl⟩|⟨rfl,rfl⟩|⟨rfl,rfl⟩|⟨rfl,rfl⟩|⟨rfl,rfl⟩
 case' inr.inl=>replace hK:(Y:Int)/83076749736557242056487941267521536=K:=by rw[<-hK];exact(Cj ..).symm
 all_goals
  try simp only[af]at hK
  simp only[af]at hL hH;subst hK;refine aT ?_;refine cy (A2 a0 ay) ?_;refine ai.seq ?_;refine ig ?_;refine aF ?_;refine cy (A4 a5 tn hA hB) ?_;refine aH [(4,4),(9,9)] [(11,9)] [] (A5 hI yn tn hL hH) ?_;refine an (A3 a1 ax aw) ?_;exact pL
end
end Go.Hl
