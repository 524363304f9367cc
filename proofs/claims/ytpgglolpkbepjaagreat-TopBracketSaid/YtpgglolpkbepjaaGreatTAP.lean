/- Lemmas for TopSound and TopBracket. -/
import Derived.Lib.Walk
import Derived.Deep.RegionHeld3
import Derived.Test.YtpgglolpkbepjaaGreatProg
import Derived.Test.YtpgglolpkbepjaaGreatTAO
import Derived.Test.YtpgglolpkbepjaaGreatTAL
set_option linter.unusedVariables false
set_option linter.unusedSimpArgs false
namespace Go.Hl
open Go.Proofs.Tryz
open Go.Proofs.Tryz renaming prog→a0c
open Option renaming some→T',none→Y'
open Bool renaming true→Z',false→a0a
open Go Go.RowKit
set_option maxHeartbeats 8000000
section
open Go.Proofs
@[push_cast] def aeH:Sp:=Rp 0 (λa b=>Lm a/\a.length<1000000000/\0<b/\b<18446744073709551616)
 (λa b=>.aU [dg (nb a/b.toNat),dg (nb a%b.toNat),Z'])
theorem acx:aj a0c 159 aeH:=by
 refine aj.NU λa b⟨ha,hal,hb0,hb1⟩=>?_
 have hE:=eF qT MI;refine aB func159 ntmps159 ?_;refine aK ?_;refine ai.loop (ι:={p:Nat×List Int×Int // xK a p.2.1 b p.2.2 p.1}) (λp=>⟨[(0,a),(1,.r (.int .u64 b)),(7,.os 12 1 0 a.length),(8,.r (.int .u64 p.1.2.2)),(9,((p.1.1:Int)-1:Int))],[(12,⟨Z',.n .u64 p.1.2.1⟩)]⟩)
  (λp=>p.1.1) ⟨(a.length,List.replicate a.length 0,0),N',J',aR.xj p' _,N',?_⟩ (Le.mk a0b) ?_
 .dsimp only
  rw[Cp,vB J'];simp[nb,nv]
 rintro⟨⟨n,q,r⟩,hI⟩;dsimp only at hI|-;have oe:=hI.hl;have hn:=hI.hn;have hr:=hI.hr;cases n with
 |succ n=>
  have h1:=de ha.1 n;have ab:=hI.step ha.1 hb1 rfl;obtain⟨d,hd⟩:=nm ((r*18446744073709551616+a.getD n 0)/b);obtain⟨m,hm⟩:=nm ((r*18446744073709551616+a.getD n 0)%b);rw[hd,hm]at ab;refine an (A2 hd hm) ?_;exact⟨⟨(n,q.set n d,m),ab⟩,Le.mk a0b,N'⟩
 |zero=>
  obtain⟨d1,d2⟩:=hI.done;have aw:Lm q:=⟨hI.hd,f'⟩;have ao:Lm [r]:=⟨aR.cons (by rw[mK];omega) aR.nil,J'⟩;have af:nb [r]=nb a%b.toNat:=by rw[<-d2];simp[nb,nv]
  refine an (A2 d1 af) ?_;exact aO.mk a0b rfl
@[push_cast] def ae3:Sp:=pT 0 (λa b=>Lm a/\a.length<100000000/\Lm b/\qk b/\2<=b.length/\b.length<=a.length)
 (λa b=>.aU [dg (nb a/nb b),dg (nb a%nb b),Z'])
theorem acv{n:Nat}(h:n<=8192):sh (n:Int)=n:=by unfold sh;split<;>split<;>omega
theorem aa3:aj a0c 160 ae3:=by
 refine aj.NN λa b⟨ha,hal,hb,hbt,hb2,hba⟩=>?_
 have hE:=yk qT Oq I1 QX Wa;obtain⟨n,hn⟩:=nm (b.length);obtain⟨la,a5⟩:=nm (a.length);obtain⟨A,hA⟩:=nm (nb a);obtain⟨B,hB⟩:=nm (nb b);have a0:A<ak^la:=by rw[<-hA];exact qL ha.1 f'
 have l1:=de hb.1 (n-1);have a6:b.getD (n-1) 0≠0:=by
  rcases hbt with h|h
  .rw[h]at hb2;simp at hb2
  .rwa[hn]at h
 obtain⟨t,ht⟩:=nm (b.getD (n-1) 0);rw[ht]at l1 a6;obtain⟨s1,s2,s3⟩:=Pc (y:=t.toNat) f' f';obtain⟨s,hs⟩:=nm (64-bJ t.toNat);rw[hs]at s1 s2 s3;have aw:sh (s:Int)=s:=acv f';obtain⟨v1,v2,v3,v4,v5⟩:=aa4 (A:=A) hb.1 hn f' hB a0 f' s3 (by rw[ht];exact s1) (by rw[ht];exact s2);obtain⟨v,hv⟩:=nm (dg (B*2^s));obtain⟨y,hy⟩:=nm (dg (A*2^s));have ay:aR ak v:=by rw[<-hv];exact wA p' _
 have bb:aR ak y:=by rw[<-hy];exact wA p' _
 have ab:nb v=B*2^s:=by rw[<-hv];exact jR _
 have bc:nb y=A*2^s:=by rw[<-hy];exact jR _
 rw[hv]at v1 v2;rw[hy]at v3;have hu:lO (List.replicate (la+1) 0) y 0 (min (la+1) y.length)=gq ak (la+1) (A*2^s):=by
  have hm:min (la+1) y.length=y.length:=Nat.min_eq_right v3;have h0:lO (List.replicate (la+1) 0) y 0 (min (la+1) y.length)=y++List.replicate (la+1-y.length) 0:=by
   rw[hm];simp[lO]
  rw[h0];refine Dl (bb.append (aR.xj p' _)) O' ?_;rw[Ii,OX,uh,kN,bc]
 have a7:y++List.drop y.length (List.replicate (la+1) 0)=gq ak (la+1) (A*2^s):=by
  rw[<-hu,Nat.min_eq_right v3];simp[lO]
 have hq:((la:Int)+1-(n:Int)).toNat=la+1-n:=f';have bd:Lm b:=hb;refine aB func160 ntmps160 ?_;rw[hA,hB];refine an (Fi hn a5 ht hs aw hA hB hv hy a7 v1 hq) ?_;obtain⟨V,hV⟩:=nm (B*2^s);rw[hV]at v4 v5 ab;have a1:V<ak^n:=by rw[<-ab];exact qL ay f'
 refine ai.loop (ι:={p:Nat×List Int×List Int // sk (A*2^s) V n la p.2.1 p.2.2 p.1}) (λp=>⟨[(7,.r (.int .i64 (s:Nat))),(8,v),(9,.os 26 1 0 (la+1)),(10,.r (.int .i64 (n:Nat))),(11,.os 38 1 0 (la+1-n)),(12,((p.1.1:Int)-1:Int))],[(38,⟨Z',.n .u64 p.1.2.1⟩),(26,⟨Z',.n .u64 p.1.2.2⟩)]⟩)
  (λp=>p.1.1) ⟨(la+1-n,_,_),v4⟩ (Le.mk a0b) ?_
 rintro⟨⟨m,q,u⟩,hI⟩;dsimp only at hI|-;have hm:=hI.hm;have oe:=hI.hq;have og:=hI.hu;cases m with
 |succ m=>
  obtain⟨hD,hW⟩:=hI.ags ay v1 ab f' v2;obtain⟨W,af⟩:=nm (nb ((u.drop m).take (n+1)));have ax:=hI.step v5 a1 f' af (by rw[<-hW];exact af) (by have:=hD.div_lt;rw[af,ab]at this;exact this);obtain⟨u',ao⟩:=nm (pU u (gq ak (n+1) (W%V)) m (n+1));obtain⟨d,hd⟩:=nm (W/V);rw[ao,hd]at ax;have a4:(W:Int)/(V:Int)=(d:Int):=by rw[<-hd,Cj]
  unfold pU at ao;have a3:((m:Int)+(n:Int)+1-(m:Int)).toNat=n+1:=f';refine an (A6 a3 v1 af ab a4 ao) ?_;exact⟨⟨(m,q.set m (d:Int),u'),ax⟩,Le.mk a0b,N'⟩
 |zero=>
  obtain⟨d1,d2⟩:=hI.done;have hp:0<2^s:=l7 s;have e1:nb q=A/B:=by rw[d1,<-hV,Nat.mul_div_mul_right _ _ hp]
  have e2:nb u/2^s=A%B:=by rw[d2,<-hV,Nat.mul_mod_mul_right,Tp _ hp]
  have bm:Lm q:=⟨hI.oe,f'⟩;have bn:Lm u:=⟨hI.og,f'⟩;refine an (A3 e1 e2 aw) ?_;exact aO.mk a0b rfl
end
section
open Go.Proofs
def rm(a b:Nat):Nat:=if b=0 then 0 else a%b
@[push_cast] def adA:Sp:=pT 0 (λxs ys=>Lm xs/\Lm ys/\xs.length<100000000/\ys.length<100000000)
 (λxs ys=>.aU [dg (nb xs/nb ys),dg (rm (nb xs) (nb ys)),decide (nb ys≠0)])
theorem ky:dg 0=[]:=nY
theorem vR{n:Nat}:dg n=[]↔n=0:=MH p'
theorem Wh:aj a0c 146 adA:=by
 refine aj.NN λxs ys⟨hx,hy,hxl,hyl⟩=>?_
 have hE:=yk qT Db GG acx aa3;have ao:=ny hx hxl;have aw:=ny hy hyl;have hA:=gY (n:=nb xs) f';have hB:=gY (n:=nb ys) f';have tA:qk (dg (nb xs)):=Jk p' _;have tB:qk (dg (nb ys)):=Jk p' _;have ab:=De (a:=nb xs) (b:=nb ys);have eA:=jR (nb xs);have eB:=jR (nb ys);have z1:=vR (n:=nb ys);refine aB func146 ntmps146 ?_;obtain⟨A,xA⟩:=nm (nb xs);obtain⟨B,yB⟩:=nm (nb ys);rw[xA]at ao hA tA ab eA;rw[yB]at aw hB tB ab eB z1;rw[xA,yB]
 by_cases hB0:B=0
 .subst hB0
  refine an (A3 xA yB ky) ?_;refine aO.mk a0b ?_;simp[rm,ky]
 have a0:dg B≠[]:=λh=>hB0 (z1.1 h)
 have ay:0<(dg B).length:=ue.2 a0;have hr:rm A B=A%B:=aq hB0;rw[hr,fu hB0];obtain⟨n,hn⟩:=nm ((dg B).length);obtain⟨b,hb⟩:=nm (dg B);obtain⟨a,ha⟩:=nm (dg A);have q1:(((dg B).length:Int)==0)=false:=by rw[mH];omega
 rw[hn]at q1 ay aw;have af:b.length=n:=by rw[<-hb];exact hn
 rw[hb]at hB tB eB ab;rw[ha]at hA tA eA ab ao
 by_cases hlt:A<B
 .have c1:jK A B=-1:=by unfold jK;rw[au hlt]
  have hq:A/B=0:=ug hlt;have hm:A%B=A:=sD hlt;rw[hq,hm,ky,ha];refine an (A9 xA yB hb ha eA eB af q1 c1) ?_;exact aO.mk a0b rfl
 have c1:¬jK A B<0:=by unfold jK;rw[aq hlt];split<;>decide
 by_cases h1:n=1
 .subst h1
  obtain⟨x,rfl⟩:∃x,b=[x]:=List.length_eq_one_iff.1 af;have hx:=hB.1.head;rw[mK]at hx;have ax:B=x.toNat:=by rw[<-eB];simp[nb,nv]
  refine an (A9 xA yB hb ha eA eB (show((1:Int)==0)=a0a from rfl) c1 (show((1:Int)==1)=Z' from rfl)) ?_;refine aO.mk a0b ?_;rw[ax]
 .have q2:((n:Int)==1)=false:=by rw[mH];omega
  have hle:b.length<=a.length:=f';refine an (vm xA yB hb ha eA eB af q1 c1 q2) ?_;exact aO.mk a0b rfl
end
section
open Go.Proofs
theorem dh.ofF{P:Program}{f:FuncId}{args:List AV}{r:AV}(h:nM P f args r):dh P f args r:=by
 obtain⟨k,xs,rfl,h⟩:=h;intro w X vs hX hl hr;obtain⟨h1,h2⟩:=h w X vs hX hl hr;refine .inr ⟨h1,h2.mono λe w'⟨v,he,hb,hv⟩=>⟨v,he,?_,hb⟩⟩;rcases hv with⟨b,o,cap,C,e',rfl,hc,ho,af,hw,ab⟩|⟨rfl,ad,rfl⟩
 .refine RI.ns k xs (T' ⟨b,o,Y'⟩) b o cap hc (λ_=>⟨rfl,λhx=>?_⟩) (λi x hx=>?_)
  .have:=hX b hx;omega
  .rw[cell_of_block hw];exact ab i x hx
 .exact RI.ns k [] ad 0 0 0 J' J' J'
@[push_cast] def aeg:Sp:=vb 0 (λxs=>Lm xs) (λxs=>.ns .u64 (dg (nb xs)))
theorem Ec:aj a0c 89 aeg:=aj.N λxs hx=>dh.ofF ((aaD [xs] hx).2.1 rfl)
def zs(b:Bool)(n:Nat):Int:=if b then -(n:Int)else n
def zv(b:Bool)(x:List Int):Int:=zs b (nb x)
@[push_cast] def zi(z:Int):AV:=.agg [decide (z<0),dg z.natAbs]
theorem cI(z:Int):zv (decide (z<0)) (dg z.natAbs)=z:=by
 unfold zv zs;rw[jR];split
 .rename_i h;have:=js h;omega
 .rename_i h;have:=rK (Bool.eq_false_iff.2 h);omega
attribute [push_cast] cI List.getElem?_cons_zero List.getElem?_cons_succ List.set_cons_zero List.set_cons_succ
theorem zC(b:Bool)(n:Nat):(zs b n).natAbs=n:=by unfold zs;split<;>simp
theorem agX(b:Bool)(n:Nat):decide (zs b n<0)=(b&&decide (0<(dg n).length)):=by
 by_cases h:n=0
 .subst h;rw[ky];cases b<;>rfl
 .have:0<(dg n).length:=ue.2 (λe=>h (vR.1 e))
  rw[fu this,Bool.and_true];cases b
  .exact lG (by unfold zs;simp)
  .exact fu (by unfold zs;simp;omega)
theorem agR(b:Bool)(n:Nat):AV.agg [(b&&decide (0<(dg n).length):Bool),dg n]=zi (zs b n):=by
 unfold zi;rw[zC,agX]
@[push_cast] def ae4:Sp:=Rk 0 (λ_ m=>m=dg (nb m)/\m.length<1000000000) (λb m=>zi (zs b (nb m)))
theorem aaq(n:Nat):decide ((0:Int)<(n:Int))=decide (0<n):=decide_eq_decide.2 f'
theorem uT:aj a0c 88 ae4:=by
 refine aj.BN λb m⟨hm,hl⟩=>?_
 have hE:=env dC;obtain⟨n,hn⟩:=nm (nb m);rw[hn]at hm;subst hm;refine aB func88 ntmps88 ?_;rw[hn,<-agR];have hp:=aaq (dg n).length;cases b
 .refine aK ?_
  exact aO.mk a0b rfl
 .refine an hp ?_
  exact aO.mk a0b rfl
@[push_cast] def afa:Sp:=zk 0 (λ_ x=>Lm x/\x.length<10000000) (λb x=>zi (zv b x))
theorem Ff:aj a0c 119 afa:=by
 refine aj.Z λb x⟨hx,hl⟩=>?_
 have hE:=eF Ec uT;have hd:=ny hx hl;refine aB func119 ntmps119 ?_;refine aK ?_;exact pL
@[push_cast] def aej:Sp:=rS 0 (λn=>-9223372036854775808<=n/\n<9223372036854775808) (λn=>zi n)
theorem yh{n:Nat}(h:n<18446744073709551616):(dg n).length<=1:=(rA p' n 1).2 (by rw[Nat.pow_one];exact h)
theorem aat(n:Nat):nb [(n:Int)]=n:=by simp[nb,nv]
theorem qN:aj a0c 48 aej:=by
 refine aj.I λn⟨h1,h2⟩=>?_
 have hE:=eF Ec uT;refine aB func48 ntmps48 ?_;obtain⟨k,hk⟩:=nm (n.natAbs);have hd:=yh (n:=k) f';have ab:=aat k;have af:Lm [(k:Int)]:=⟨aR.cons (by rw[mK];omega) aR.nil,J'⟩
 by_cases h0:n<0
 .have e1:IntKind.u64.wrap (0-IntKind.u64.wrap n)=(k:Int):=by rw[eP,eP];omega
  have hz:zs Z' k=n:=by unfold zs;simp;omega
  refine an (A3 h0 e1 ab) ?_;refine aO.mk a0b ?_;exact fV zi hz
 .have e1:IntKind.u64.wrap n=(k:Int):=by rw[eP];omega
  have hz:zs a0a k=n:=by unfold zs;simp;omega
  refine an (A3 h0 e1 ab) ?_;refine aO.mk a0b ?_;exact fV zi hz
@[push_cast] def aeJ:Sp:=zk 0 (λ_ x=>Lm x) (λb x=>.r (.int .i64 (zv b x).sign))
theorem UC(n:Nat):((bJ n:Int)==0)=decide (n=0):=by
 rw[Bool.eq_iff_iff,fU,decide_eq_true_iff,<-Gp];omega
theorem rP:aj a0c 54 aeJ:=by
 refine aj.Z λb x hx=>?_
 have hE:=di LD;refine aB func54 ntmps54 ?_;unfold zv;obtain⟨n,hn⟩:=nm (nb x);rw[hn];have hb:=UC n
 by_cases h0:n=0
 .rw[fu h0]at hb
  refine an (A2 hn hb) ?_;refine aO.mk a0b ?_;rw[h0];cases b<;>rfl
 .rw[lG h0]at hb
  cases b
  .refine an (A2 hn hb) ?_
   refine aO.mk a0b ?_;have:(zs a0a n).sign=1:=si (by unfold zs;simp;omega);rw[this]
  .refine an (A2 hn hb) ?_
   refine aO.mk a0b ?_;have:(zs Z' n).sign=-1:=Fy (by unfold zs;simp;omega);rw[this]
@[push_cast] def af5:Sp:=zk 0 (λ_ x=>Lm x) (λb x=>.r (.int .i64 (bJ (zv b x).natAbs:Nat)))
theorem Fe:aj a0c 40 af5:=by
 refine aj.Z λb x hx=>?_
 have hE:=di LD;refine aB func40 ntmps40 ?_;unfold zv;rw[zC];refine aK ?_;exact aO.mk a0b rfl
def dc(a b:Int):Int:=if a<b then -1 else if b<a then 1 else 0
@[push_cast] def af6:Sp:=rT 0 (λ_ x _ y=>Lm x/\Lm y) (λb x c y=>.r (.int .i64 (dc (zv b x) (zv c y))))
theorem rO(z:Int):(z<0/\z.sign=-1)\/(z=0/\z.sign=0)\/(0<z/\z.sign=1):=by
 rcases Ce z 0 with h|h|h
 .exact .inl ⟨h,Fy h⟩
 .exact .inr (.inl ⟨h,by rw[h];rfl⟩)
 .exact .inr (.inr ⟨h,si h⟩)
theorem tR:aj a0c 50 af6:=by
 refine aj.ZZ λb x c y⟨hx,hy⟩=>?_
 have hE:=eF rP Db;refine aB func50 ntmps50 ?_;obtain⟨z,hz⟩:=nm (zv b x);obtain⟨w,hw⟩:=nm (zv c y);have ao:nb x=z.natAbs:=by rw[<-hz];unfold zv;rw[zC]
 have af:nb y=w.natAbs:=by rw[<-hw];unfold zv;rw[zC]
 rw[hz,hw]
 by_cases h1:z.sign<w.sign
 .refine an (A3 hz hw h1) ?_
  refine aO.mk a0b ?_;have:z<w:=by rcases rO z with h|h|h<;>rcases rO w with k|k|k<;>omega
  unfold dc;rw[au this]
 by_cases h2:w.sign<z.sign
 .refine an (A4 hz hw h1 h2) ?_
  refine aO.mk a0b ?_;have:w<z:=by rcases rO z with h|h|h<;>rcases rO w with k|k|k<;>omega
  unfold dc;rw[aq f',au this]
 obtain⟨s,hs⟩:=nm (z.sign);obtain⟨t,ht⟩:=nm (w.sign);rw[hs,ht]at h1 h2;obtain⟨m,hm⟩:=nm (jK z.natAbs w.natAbs);have aw:-1<=m/\m<=1:=by rw[<-hm];unfold jK;split;omega;split<;>omega
 have ax:-1<=s/\s<=1:=by rcases rO z with h|h|h<;>omega
 have ab:s*m=dc z w/\-1<=s*m/\s*m<=1:=by
  rw[<-hm];unfold jK dc;rcases rO z with h|h|h<;>rcases rO w with k|k|k<;>first
   |omega
   |(
    have:s=-1:=f';subst this;split<;>split<;>(try split)<;>(try split)<;>omega)
   |(
    have:s=0:=f';subst this;split<;>split<;>(try split)<;>(try split)<;>omega)
   |(
    have:s=1:=f';subst this;split<;>split<;>(try split)<;>(try split)<;>omega)
 refine an (A9 hz hw hs ht h1 h2 ao af hm) ?_;refine aO.mk a0b ?_;rw[ab.1]
@[push_cast] def afb:Sp:=rT 0 (λ_ x _ y=>Lm x/\Lm y) (λb x c y=>.r (.bool (decide (zv b x=zv c y))))
theorem agY:aj a0c 93 afb:=by
 refine aj.ZZ λb x c y⟨hx,hy⟩=>?_
 have hE:=di tR;refine aB func93 ntmps93 ?_;obtain⟨z,hz⟩:=nm (zv b x);obtain⟨w,hw⟩:=nm (zv c y);rw[hz,hw];have he:(dc z w==0)=decide (z=w):=by
  unfold dc
  by_cases h:z=w
  .subst h;simp
  .rw[lG h,mH];split;omega;split<;>omega
 refine an (A3 hz hw he) ?_;exact aO.mk a0b rfl
end
section
open Go.Proofs
section
variable {rest:List Oper}{o:Oper}{w':World}
section
variable {P:Program}{T:aL}{S:FuncId->Option Sp}{κ:Ctx}{β:Nat->Option (Nat×Nat)}{a:Act}{w:World}{n:Nat}{Q:Exit->St->Prop}{σ:St}
theorem agC(hE:Env P T S)(hm:κ.mu=Y'){ops:Array Oper}{l tail:List Oper}{K:St->Prop}{Q:Exit->Act->World->Prop}(hC:av κ β σ.get σ.ae a w)(hd:iz l.toArray κ.nt=Z')
 (hA:et T S ops l K σ) (hQ:∀σ' ab a' w',K σ'->av κ ab σ'.get σ'.ae a' w'->wpList P ops Q tail a' w'):wpList P ops Q (l++tail) a w:=by
 refine wV hE.hT hE.hS (λ_=>hm) hQ l σ β a w (λo ho t ht=>?_) hA hC;have:=lS.1 hd o (by simpa using ho);rw[ht]at this;simpa using this
theorem Sj{ops:Array Oper}{Q:Exit->Act->World->Prop}{f:FuncId}{fn:Func}{c:Code}{args:Array Operand}{ts:Array TypeId}(hop:o.op=.call ⟨.value (.func f),args,ts⟩)(hg:o.guard=Y')(hf:P.funcs[f]?=T' fn)(hb:fn.body=T' c)(ab:(fn.name== "runtime.NumGoroutine")=a0a)(h:Calls P f (args.map a.eval) w λe w'=>∃v,e=.returned v/\wpList P ops Q rest (a.put o.dst v) w'):wpList P ops Q (o::rest) a w:=by
 unfold wpList;have hw:Region.wanted o (yielded ops a.tmps)=true:=by simp[Region.wanted,hg]
 rw[hw,au rfl];refine .inl ?_;unfold Oper.wp;rw[yd o hop rfl,pR hf hb ab];refine Fp h λe w'⟨v,he,hv⟩=>?_
 subst he;exact hv
theorem oR{ops:Array Oper}{Q:Exit->Act->World->Prop}{x:Value}(hg:o.guard=Y')(hr:(execOp a.eval o).run P w=.ok (.value x) w')(h:wpList P ops Q rest (a.put o.dst x) w'):wpList P ops Q (o::rest) a w:=by
 unfold wpList;have hw:Region.wanted o (yielded ops a.tmps)=true:=by simp[Region.wanted,hg]
 rw[hw,au rfl];refine .inl ?_;unfold Oper.wp;rw[hr];exact h
theorem Sk{ops:Array Oper}{Q:Exit->Act->World->Prop}(hg:o.guard=Y')(hr:(execOp a.eval o).run P w=.ok .skip w')(h:wpList P ops Q rest (a.put o.dst undef) w'):wpList P ops Q (o::rest) a w:=by
 unfold wpList;have hw:Region.wanted o (yielded ops a.tmps)=true:=by simp[Region.wanted,hg]
 rw[hw,au rfl];refine .inl ?_;unfold Oper.wp;rw[hr];exact h
end
end
end
section
open Go.Proofs
section
variable {i k m n y:Nat}
theorem tF{x:List Int}(h:Lm x){l:Nat}(hl:x.length<=l):nb x<ak^l:=qL h.1 hl
theorem abb{x:Nat}(hx:x<ak^i)(hy:y<ak^i):x+y<ak^(i+1):=by
 rw[gH];have:ak^i*2<=ak^i*ak:=kQ _ p';omega
theorem PZ{x j:Nat}(hx:x<ak^i)(hy:y<ak^j):x*y<ak^(i+j):=by rw[mD];exact Nat.mul_lt_mul'' hx hy
theorem lI(h:n<ak^k)(hk:k<1000000000):Lm (dg n)/\(dg n).length<1000000000/\(dg n).length<=k:=by
 have:=(rA (B:=ak) p' n k).2 h;unfold dg at*;exact⟨⟨wA p' n,f'⟩,f',this⟩
theorem agU(b:Bool)(m n:Nat):zs b (m+n)=zs b m+zs b n:=by unfold zs;split<;>simp;omega
theorem agW(b c:Bool)(m n:Nat):zs (b !=c) (m*n)=zs b m*zs c n:=by
 unfold zs;cases b<;>cases c<;>simp[Fx,Ch]
theorem SE(h:n<=m)(b:Bool):zs b (m-n)=zs b m+zs (!b) n:=by
 unfold zs;cases b<;>simp<;>omega
theorem LL{b c:Bool}(h:¬b=c):c= !b:=by cases b<;>cases c<;>first|rfl|exact(h rfl).elim
theorem SD(b:Bool)(n:Nat):zs (!b) n=-zs b n:=by unfold zs;cases b<;>simp
@[push_cast] def af4:Sp:=rT 0 (λ_ x _ y=>Lm x/\x.length<10000000/\Lm y/\y.length<10000000) (λb x c y=>zi (zv b x+zv c y))
theorem r7:aj a0c 78 af4:=by
 refine aj.ZZ λb x c y⟨hx,hxl,hy,hyl⟩=>?_
 have hE:=iZ Ga RE uT;refine aB func78 ntmps78 ?_;obtain⟨l,hl⟩:∃l,l=10000000:=⟨_,rfl⟩;have bA:=tF hx (l:=l) f';have bB:=tF hy (l:=l) f';unfold zv;obtain⟨A,eA⟩:=nm (nb x);obtain⟨B,eB⟩:=nm (nb y);rw[eA]at bA|-;rw[eB]at bB|-;obtain⟨s1,s2,s3⟩:=lI (abb bA bB) f'
 by_cases hbc:b=c
 .subst hbc
  have hb:(b==b)=true:=J';refine an (A3 hb eA eB) ?_;refine aO.mk a0b ?_;exact fV zi (agU b A B)
 .have hb:(b==c)=false:=by rw[mH];exact hbc
  have hc:c= !b:=LL hbc
  by_cases hle:B<=A
  .obtain⟨t1,t2,t3⟩:=lI (n:=A-B) (kO (KF A B) bA) f'
   refine an (A4 hb eA eB hle) ?_;refine aO.mk a0b ?_;rw[hc];exact fV zi (SE hle b)
  .obtain⟨t1,t2,t3⟩:=lI (n:=B-A) (kO (KF B A) bB) f'
   refine an (A4 hb eA eB hle) ?_;refine aO.mk a0b ?_;have ab:b= !c:=LL (λe=>hbc e.symm);refine fV zi ?_;rw[ab,SE f' c,Int.add_comm]
@[push_cast] def afe:Sp:=rT 0 (λ_ x _ y=>Lm x/\x.length<10000000/\Lm y/\y.length<10000000) (λb x c y=>zi (zv b x-zv c y))
theorem ah1(b:Bool)(x:List Int):zv (!b) x=-zv b x:=SD b _
theorem zD:aj a0c 51 afe:=by
 refine aj.ZZ λb x c y⟨hx,hxl,hy,hyl⟩=>?_
 have hE:=di r7;refine aB func51 ntmps51 ?_;refine aK ?_;refine aO.mk a0b ?_;refine fV zi ?_;rw[ah1];rfl
@[push_cast] def af8:Sp:=rT 0 (λ_ x _ y=>Lm x/\x.length<10000000/\Lm y/\y.length<10000000) (λb x c y=>zi (zv b x*zv c y))
theorem zA:aj a0c 147 af8:=by
 refine aj.ZZ λb x c y⟨hx,hxl,hy,hyl⟩=>?_
 have hE:=eF aan uT;refine aB func147 ntmps147 ?_;obtain⟨l,hl⟩:∃l,l=10000000:=⟨_,rfl⟩;have bA:=tF hx (l:=l) f';have bB:=tF hy (l:=l) f';obtain⟨s1,s2,s3⟩:=lI (PZ bA bB) f';refine aK ?_;refine aO.mk a0b ?_;refine fV zi ?_;unfold zv;rw[<-agW];cases b<;>cases c<;>rfl
@[push_cast] def af9:Sp:=zk 0 (λ_ x=>Lm x/\x.length<10000000) (λb x=>zi (-zv b x))
theorem vk:aj a0c 79 af9:=by
 refine aj.Z λb x⟨hx,hxl⟩=>?_
 have hE:=eF Ec uT;have hd:=ny hx hxl;refine aB func79 ntmps79 ?_;refine aK ?_;refine aO.mk a0b ?_;exact fV zi (SD b _)
theorem tpl(h:m<64*k):2^m<ak^k:=by
 have e:ak^k=2^(64*k):=by rw[xG]
 rw[e];exact Nat.pow_lt_pow_right p' h
theorem acu(n:Int):2^sh n<ak^129:=tpl (by have:=I0 n;omega)
@[push_cast] def afc:Sp:=qS 0 (λ_ x _=>Lm x/\x.length<10000000) (λb x n=>zi (zv b x*2^sh n))
theorem oY:aj a0c 52 afc:=by
 refine aj.ZI λb x n⟨hx,hxl⟩=>?_
 have hE:=eF I1 uT;refine aB func52 ntmps52 ?_;obtain⟨l,hl⟩:∃l,l=10000000:=⟨_,rfl⟩;obtain⟨s1,s2,s3⟩:=lI (PZ (tF hx (l:=l) f') (acu n)) f';refine aK ?_;refine aO.mk a0b ?_;refine fV zi ?_;unfold zv zs;split
 .rw[se,kJ,Fx];rfl
 .rw[se,kJ];simp
end
end
section
open Go.Proofs
section
variable {b c:Bool}{z:Int}{x y:List Int}{l:Nat}
theorem Pa{a p:Nat}(hp:0<p):(-(a:Int))/(p:Int)=-((a/p+(if a%p=0 then 0 else 1):Nat):Int)/\(-(a:Int))%(p:Int)=((if a%p=0 then 0 else p-a%p:Nat):Int):=by
 have h1:=vD a p;have h2:=ph a hp;obtain⟨q,hq⟩:=nm (a/p);obtain⟨r,hr⟩:=nm (a%p);rw[hq,hr]at h1;rw[hr]at h2;rw[hq,hr];have af:(p:Int)≠0:=f'
 by_cases h0:r=0
 .rw[au h0,au h0,kN]
  have e:(-(a:Int))=0+(p:Int)*(-(q:Int)):=by rw[<-h1,h0];simp[Ch]
  rw[e,SZ _ _ af,JY];simp
 .rw[aq h0,aq h0]
  have e:(-(a:Int))=((p-r:Nat):Int)+(p:Int)*(-((q+1:Nat):Int)):=by
   rw[<-h1,Int.natCast_sub f',vw,vw,se,Ch,tX];omega
  have ab:((p-r:Nat):Int)<p:=f';rw[e,SZ _ _ af,JY,Ft f' ab,zG f' ab];simp
@[push_cast] def afd:Sp:=qS 0 (λ_ x _=>Lm x/\x.length<10000000) (λb x n=>zi (zv b x/2^sh n))
theorem Fg:aj a0c 76 afd:=by
 refine aj.ZI λb x n⟨hx,hxl⟩=>?_
 have hE:=yk I1 QX Db Ga uT;refine aB func76 ntmps76 ?_;obtain⟨l,hl⟩:∃l,l=10000000:=⟨_,rfl⟩;have bA:=tF hx (l:=l) f';unfold zv;obtain⟨A,eA⟩:=nm (nb x);rw[eA]at bA|-;have ao:(2:Int)^sh n=((2^sh n:Nat):Int):=(kJ 2 _).symm;have ab:0<2^sh n:=l7 _;rw[ao];obtain⟨s1,s2,s3⟩:=lI (n:=A/2^sh n) (kO (FJ _ _) bA) f';obtain⟨t1,t2,t3⟩:=lI (n:=A/2^sh n*2^sh n) (kO (FL _ _) bA) f';obtain⟨p,hp⟩:=nm (2^sh n);rw[hp]at ab s1 s2 s3 t1 t2 t3|-;cases b
 .refine an (A2 eA hp) ?_
  refine aO.mk a0b ?_;refine fV zi ?_;unfold zs;simp
 .have hn:=(Pa (a:=A) ab).1
  have af:=vD A p;rw[iw]at af
  by_cases h0:A%p=0
  .have hc:jK (A/p*p) A=0:=by unfold jK;rw[aq f',aq f']
   refine an (A3 eA hp hc) ?_;refine aO.mk a0b ?_;refine fV zi ?_;rw[au h0]at hn;unfold zs;simpa using hn.symm
  .have hc:(jK (A/p*p) A !=0)=true:=by rw[bne_iff_ne];unfold jK;rw[au f'];decide
   have h1:nb [1]=1:=by simp[nb,nv]
   have l1:Lm [1]:=⟨aR.cons (by rw[mK];omega) aR.nil,J'⟩;have b1:A/p<ak^l:=kO (FJ _ _) bA;obtain⟨u1,u2,u3⟩:=lI (n:=A/p+1) (k:=l+1) (by
    rw[gH];have:ak^l*2<=ak^l*ak:=kQ _ p';have:=xH (n:=l) (show 0<ak from p');omega) f'
   refine an (A4 eA hp hc h1) ?_;refine aO.mk a0b ?_;refine fV zi ?_;rw[aq h0]at hn;unfold zs;simpa using hn.symm
def rz(z w:Int):Int:=if w=0 then 0 else z%w
theorem agV{A B:Nat}(b c:Bool)(hB:0<B):zs b A/zs c B=zs (b !=c) (A/B+(if b=Z'/\A%B≠0 then 1 else 0))/\zs b A%zs c B=((if b=Z'/\A%B≠0 then B-A%B else A%B:Nat):Int):=by
 have h:=Pa (a:=A) hB;unfold zs;cases b<;>cases c
 .simp
 .simp[J0,J1]
 .by_cases h0:A%B=0
  .rw[au h0,au h0]at h
   simpa[h0]using h
  .rw[aq h0,aq h0]at h
   simpa[h0]using h
 .by_cases h0:A%B=0
  .rw[au h0,au h0]at h
   simp[h0,J0,J1,h.1,h.2]
  .rw[aq h0,aq h0]at h
   simp[h0,J0,J1,h.1,h.2]
theorem JM(b:Bool)(n:Nat):zs b n=0↔n=0:=by unfold zs;split<;>omega
@[push_cast] def af7:Sp:=rT 0 (λ_ x _ y=>Lm x/\x.length<10000000/\Lm y/\y.length<10000000) (λb x c y=>.aU [zi (zv b x/zv c y),zi (rz (zv b x) (zv c y)),decide (zv c y≠0)])
theorem agQ:AV.agg [a0a,.ns .u64 []]=zi 0:=by unfold zi;rw[Int.natAbs_zero,ky];rfl
theorem B9:aj a0c 121 af7:=by
 refine aj.ZZ λb x c y⟨hx,hxl,hy,hyl⟩=>?_
 have hE:=nZ Wh Ga RE uT;refine aB func121 ntmps121 ?_;obtain⟨l,hl⟩:∃l,l=10000000:=⟨_,rfl⟩;have bA:=tF hx (l:=l) f';have bB:=tF hy (l:=l) f';unfold zv;obtain⟨A,eA⟩:=nm (nb x);obtain⟨B,eB⟩:=nm (nb y);rw[eA]at bA|-;rw[eB]at bB|-
 by_cases hB:B=0
 .have hz:zs c B=0:=(JM c B).2 hB
  have hd:decide (B≠0)=false:=by rw[hB];rfl
  refine an (A3 eA eB hd) ?_;refine aO.mk a0b ?_;rw[hz,agQ];simp[rz]
 .have ab:0<B:=f'
  obtain⟨m1,m2⟩:=agV (A:=A) b c ab;have hz:zs c B≠0:=λe=>hB ((JM c B).1 e)
  have hd:decide (B≠0)=true:=fu hB;have hr:rm A B=A%B:=aq hB;have aw:=ph A ab;obtain⟨s1,s2,s3⟩:=lI (n:=A/B) (kO (FJ _ _) bA) f';obtain⟨t1,t2,t3⟩:=lI (n:=A%B) (kO (Nat.mod_le _ _) bA) f';have ao:rz (zs b A) (zs c B)=zs b A%zs c B:=aq hz;rw[ao,fu hz,m1,m2]
  by_cases h0:b=Z'/\A%B≠0
  .rw[au h0,au h0]
   obtain⟨hb,h0⟩:=h0;subst hb;have af:(0:Int)<(dg (A%B)).length:=by
    have:=ue.2 (λh=>h0 (vR.1 h));omega
   have h1:nb [1]=1:=by simp[nb,nv]
   have l1:Lm [1]:=⟨aR.cons (by rw[mK];omega) aR.nil,J'⟩;have b1:A/B<ak^l:=kO (FJ _ _) bA;obtain⟨u1,u2,u3⟩:=lI (n:=A/B+1) (k:=l+1) (by
    rw[gH];have:ak^l*2<=ak^l*ak:=kQ _ p';have:=xH (n:=l) (show 0<ak from p');omega) f'
   obtain⟨v1,v2,v3⟩:=lI (n:=B-A%B) (kO (KF _ _) bB) f';refine an (A6 eA eB hd hr af h1) ?_;refine aO.mk a0b ?_;cases c<;>rfl
  .rw[aq h0,aq h0,kN]
   cases b
   .refine an (A4 eA eB hd hr) ?_
    refine aO.mk a0b ?_;cases c<;>rfl
   .have h0:A%B=0:=by
     rcases re (A%B)with h|h
     .exact h
     .exact(h0 ⟨rfl,f'⟩).elim
    rw[h0]at hr;rw[h0];have z0:(dg 0).length=0:=by rw[ky];rfl
    have z1:¬(0:Int)<(dg 0).length:=f';refine an (A5 eA eB hd hr z1) ?_;refine aO.mk a0b ?_;have e0:AV.agg [decide (zs a0a 0<0),dg (zs a0a 0).natAbs]=zi 0:=rfl;cases c<;>rfl
@[push_cast] def adB:Sp:=rT 0 (λ_ x _ y=>Lm x/\x.length<10000000/\Lm y/\y.length<10000000) (λb x c y=>.aU [zi ((zv b x).fdiv (zv c y)),decide (zv c y≠0)])
theorem OC(hx:Lm x)(hl:x.length<10000000):Lm (dg (zv b x).natAbs)/\(dg (zv b x).natAbs).length<10000000:=by
 unfold zv;rw[zC];have:=ny hx hl;exact⟨gY f',this⟩
theorem ah3(h:c=Z'):zv c y<=0:=by subst h;unfold zv zs;simp
theorem agZ(h:c=a0a):0<=zv c y:=by subst h;unfold zv zs;simp
theorem Wj:aj a0c 175 adB:=by
 refine aj.ZZ λb x c y⟨hx,hxl,hy,hyl⟩=>?_
 have hE:=eF vk B9;obtain⟨p1,p2⟩:=OC (b:=b) hx hxl;obtain⟨p3,p4⟩:=OC (b:=c) hy hyl;refine aB func175 ntmps175 ?_;refine aK ?_;refine ai.test a0b (λhc=>?_) (λhc=>?_)
 .have h0:=ah3 (y:=y) hc
  have q1:(-zv b x).natAbs=(zv b x).natAbs:=Ci _;have q2:(-zv c y).natAbs=(zv c y).natAbs:=Ci _;have ab:Lm (dg (-zv b x).natAbs)/\(dg (-zv b x).natAbs).length<10000000:=by rw[q1];exact⟨p1,p2⟩
  have af:Lm (dg (-zv c y).natAbs)/\(dg (-zv c y).natAbs).length<10000000:=by rw[q2];exact⟨p3,p4⟩
  obtain⟨ab,ao⟩:=ab;obtain⟨af,aw⟩:=af;refine ai.regionF [(2,2),(3,3)] [] [] hE.hT hE.hS hE.hm (qF ⟨_,rfl⟩ ⟨_,rfl⟩) (aK ?_);refine aO.mk a0b ?_;have e1:(-zv b x)/(-zv c y)=(zv b x).fdiv (zv c y):=by
   rw[<-lW _ f',Int.neg_fdiv_neg]
  have e2:decide (-zv c y≠0)=decide (zv c y≠0):=decide_eq_decide.2 f';rw[<-e1,<-e2]
  rfl
 .have h0:=agZ (y:=y) hc
  refine aK ?_;refine aO.mk a0b ?_;rw[lW _ h0]
  rfl
theorem OU(h:z.natAbs<ak^l)(hl:l<10000000):Lm (dg z.natAbs)/\(dg z.natAbs).length<10000000:=by
 obtain⟨h1,_,h3⟩:=lI h f';exact⟨h1,f'⟩
theorem SH(hx:Lm x)(hl:x.length<=l):(zv b x).natAbs<ak^l:=by
 unfold zv;rw[zC];exact tF hx hl
theorem KS(hz:z.natAbs<ak^l):(-z).natAbs<ak^l:=by rw[Ci];exact hz
theorem KR(z w:Int):(z/w).natAbs<=z.natAbs:=S8 z w
@[push_cast] def af0:Sp:=rT 0 (λ_ x _ y=>Lm x/\x.length<1000000/\Lm y/\y.length<1000000) (λb x c y=>.aU [zi (-((-zv b x).fdiv (zv c y))),decide (zv c y≠0)])
theorem Xv(z w:Int):(z.fdiv w).natAbs<=z.natAbs:=by
 rcases qc w 0 with h|h
 .have:z.fdiv w=(-z)/(-w):=by rw[<-lW _ f',Int.neg_fdiv_neg]
  rw[this];have:=KR (-z) (-w);rwa[Ci]at this
 .rw[lW _ h];exact KR z w
theorem Js:aj a0c 162 af0:=by
 refine aj.ZZ λb x c y⟨hx,hxl,hy,hyl⟩=>?_
 have hE:=eF vk Wj;obtain⟨l,hl⟩:∃l,l=1000000:=⟨_,rfl⟩;have bz:=SH (b:=b) hx (l:=l) f';refine aB func162 ntmps162 ?_;obtain⟨z,hz⟩:=nm (zv b x);obtain⟨w,hw⟩:=nm (zv c y);rw[hz]at bz|-;rw[hw];obtain⟨a1,a2⟩:=OU (KS bz) f';obtain⟨a3,a4⟩:=OU (z:=(-z).fdiv w) (kO (Xv (-z) w) (KS bz)) f';refine an (A2 hz hw) ?_;exact pL
end
end
section
open Go.Proofs
theorem V8{r:Nat}(h:r<18446744073709551616):(dg r).getD 0 0=(r:Int):=by
 by_cases h0:r=0
 .subst h0;rw[ky];rfl
 .unfold dg
  rw[vS p' h0,Kh,sD h]
def sV(z:Int):Bool:=decide (-9223372036854775808<=z/\z<9223372036854775808)
@[push_cast] def aeL:Sp:=zk 0 (λ_ x=>Lm x/\x.length<10000000) (λb x=>.aU [(if sV (zv b x)=Z' then zv b x else 0:Int),sV (zv b x)])
theorem JG{n:Int}(h1:9223372036854775808<=n)(h2:n<18446744073709551616):IntKind.i64.wrap n=n-18446744073709551616:=by
 rw[qZ];omega
theorem Q8:aj a0c 185 aeL:=by
 refine aj.Z λb x⟨hx,hxl⟩=>?_
 have hE:=di Ec;have hd:=ny hx hxl;refine aB func185 ntmps185 ?_;unfold zv;obtain⟨N,hN⟩:=nm (nb x);rw[hN]at hd|-
 by_cases h0:N=0
 .have hz:(((dg N).length:Int)==0)=true:=by rw[h0,ky];rfl
  refine an (A2 hN hz) ?_;refine aO.mk a0b ?_;rw[(JM b N).2 h0];rfl
 have hz:(((dg N).length:Int)==0)=false:=by
  have:=ue.2 (λh=>h0 (vR.1 h));rw[mH];omega
 have ay:0<(dg N).length:=ue.2 (λh=>h0 (vR.1 h))
 by_cases h1:N<18446744073709551616
 .have a0:(dg N).length=1:=by
   have:=yh h1;omega
  have af:=V8 h1;have ab:¬(1:Int)<(dg N).length:=f';cases b
  .have ao:zs a0a N=(N:Int):=rfl
   by_cases h2:N<9223372036854775808
   .have hf:sV (zs a0a N)=true:=by rw[ao];exact fu f'
    have e1:IntKind.i64.wrap (N:Int)=N:=vj f' f';refine an (A6 hN hz af e1 ab (show¬(N:Int)<0 from f')) ?_;refine aO.mk a0b ?_;rw[hf];rfl
   .have hf:sV (zs a0a N)=false:=by rw[ao];exact lG f'
    obtain⟨v,hv⟩:=nm (IntKind.i64.wrap (N:Int));have ax:v<0:=by rw[<-hv,qZ];omega
    refine an (A6 hN hz af hv ab ax) ?_;refine aO.mk a0b ?_;rw[hf];rfl
  .have ao:zs Z' N=-(N:Int):=rfl
   obtain⟨v,hv⟩:=nm (IntKind.i64.wrap (N:Int));obtain⟨u,hu⟩:=nm (IntKind.i64.wrap (0-v))
   by_cases h2:N<=9223372036854775808
   .have hf:sV (zs Z' N)=true:=by rw[ao];exact fu f'
    have aw:u=-(N:Int):=by
     rcases dQ N 9223372036854775808 with h3|h3
     .rw[vj f' f']at hv
      rw[<-hv,vj f' f']at hu;omega
     .rw[JG f' f']at hv
      have h4:(0:Int)-v=9223372036854775808:=f';rw[h4,JG f' f']at hu;omega
    subst aw;refine an (A7 hN hz af hv hu ab (show -(N:Int)<0 from f')) ?_;refine aO.mk a0b ?_;rw[hf];rfl
   .have hf:sV (zs Z' N)=false:=by rw[ao];exact lG f'
    have aw:¬u<0:=by
     rw[JG f' f']at hv;rw[vj f' f']at hu;omega
    refine an (A7 hN hz af hv hu ab aw) ?_;refine aO.mk a0b ?_;rw[hf];rfl
 .have ab:(1:Int)<(dg N).length:=by
   have:¬(dg N).length<=1:=λh=>h1 (by have:=(rA (B:=ak) p' N 1).1 h;rwa[Nat.pow_one]at this)
   omega
  have af:=de (wA (B:=ak) p' N) 0;have hf:sV (zs b N)=false:=by
   refine lG ?_;unfold zs;split<;>omega
  obtain⟨v,hv⟩:=nm ((dg N).getD 0 0);cases b
  .refine an (A4 hN hz hv ab) ?_
   refine aO.mk a0b ?_;rw[hf];rfl
  .refine an (A4 hN hz hv ab) ?_
   refine aO.mk a0b ?_;rw[hf];rfl
end
section
variable {f:FuncId}{P:Program}
@[push_cast] def BG(k:Nat)(pre:Bool->List Int->Int->Prop)(res:Bool->List Int->Int->AV):Sp where
 kind:=k
 pre
  |[.agg [.r (.bool b0),.ns .u64 x0,.r (.int .i64 e0)]]=>pre b0 x0 e0
  |_=>False
 res
  |[.agg [.r (.bool b0),.ns .u64 x0,.r (.int .i64 e0)]]=>res b0 x0 e0
  |_=>.any
theorem aj.D{pre:Bool->List Int->Int->Prop}{res:Bool->List Int->Int->AV}(h:∀b0 x0 e0,pre b0 x0 e0->dh P f [.agg [b0,x0,e0]] (res b0 x0 e0)):aj P f (BG 0 pre res):=by
 refine sz λargs hp=>?_
 split at hp
 .exact h _ _ _ hp
 .exact hp.elim
@[push_cast] def BH(k:Nat)(pre:Bool->List Int->Int->Bool->List Int->Int->Prop)(res:Bool->List Int->Int->Bool->List Int->Int->AV):Sp where
 kind:=k
 pre
  |[.agg [.r (.bool b0),.ns .u64 x0,.r (.int .i64 e0)],.agg [.r (.bool b1),.ns .u64 x1,.r (.int .i64 e1)]]=>pre b0 x0 e0 b1 x1 e1
  |_=>False
 res
  |[.agg [.r (.bool b0),.ns .u64 x0,.r (.int .i64 e0)],.agg [.r (.bool b1),.ns .u64 x1,.r (.int .i64 e1)]]=>res b0 x0 e0 b1 x1 e1
  |_=>.any
theorem aj.DD{pre:Bool->List Int->Int->Bool->List Int->Int->Prop}{res:Bool->List Int->Int->Bool->List Int->Int->AV}(h:∀b0 x0 e0 b1 x1 e1,pre b0 x0 e0 b1 x1 e1->dh P f [.agg [b0,x0,e0],.agg [b1,x1,e1]] (res b0 x0 e0 b1 x1 e1)):aj P f (BH 0 pre res):=by
 refine sz λargs hp=>?_
 split at hp
 .exact h _ _ _ _ _ _ hp
 .exact hp.elim
@[push_cast] def zf(k:Nat)(pre:Bool->List Int->Int->Int->Prop)(res:Bool->List Int->Int->Int->AV):Sp where
 kind:=k
 pre
  |[.agg [.r (.bool b0),.ns .u64 x0,.r (.int .i64 e0)],.r (.int .i64 n1)]=>pre b0 x0 e0 n1
  |_=>False
 res
  |[.agg [.r (.bool b0),.ns .u64 x0,.r (.int .i64 e0)],.r (.int .i64 n1)]=>res b0 x0 e0 n1
  |_=>.any
theorem aj.DI{pre:Bool->List Int->Int->Int->Prop}{res:Bool->List Int->Int->Int->AV}(h:∀b0 x0 e0 n1,pre b0 x0 e0 n1->dh P f [.agg [b0,x0,e0],n1] (res b0 x0 e0 n1)):aj P f (zf 0 pre res):=by
 refine sz λargs hp=>?_
 split at hp
 .exact h _ _ _ _ hp
 .exact hp.elim
@[push_cast] def BE(k:Nat)(pre:Bool->List Int->Bool->List Int->Int->Prop)(res:Bool->List Int->Bool->List Int->Int->AV):Sp where
 kind:=k
 pre
  |[.agg [.r (.bool b0),.ns .u64 x0,.r (.bool c0),.ns .u64 y0,.r (.int .i64 q0)]]=>pre b0 x0 c0 y0 q0
  |_=>False
 res
  |[.agg [.r (.bool b0),.ns .u64 x0,.r (.bool c0),.ns .u64 y0,.r (.int .i64 q0)]]=>res b0 x0 c0 y0 q0
  |_=>.any
theorem aj.A{pre:Bool->List Int->Bool->List Int->Int->Prop}{res:Bool->List Int->Bool->List Int->Int->AV}(h:∀b0 x0 c0 y0 q0,pre b0 x0 c0 y0 q0->dh P f [.agg [b0,x0,c0,y0,q0]] (res b0 x0 c0 y0 q0)):aj P f (BE 0 pre res):=by
 refine sz λargs hp=>?_
 split at hp
 .exact h _ _ _ _ _ hp
 .exact hp.elim
@[push_cast] def rR(k:Nat)(pre:Bool->List Int->Bool->List Int->Int->Bool->List Int->Bool->List Int->Int->Prop)(res:Bool->List Int->Bool->List Int->Int->Bool->List Int->Bool->List Int->Int->AV):Sp where
 kind:=k
 pre
  |[.agg [.r (.bool b0),.ns .u64 x0,.r (.bool c0),.ns .u64 y0,.r (.int .i64 q0)],.agg [.r (.bool b1),.ns .u64 x1,.r (.bool c1),.ns .u64 y1,.r (.int .i64 q1)]]=>pre b0 x0 c0 y0 q0 b1 x1 c1 y1 q1
  |_=>False
 res
  |[.agg [.r (.bool b0),.ns .u64 x0,.r (.bool c0),.ns .u64 y0,.r (.int .i64 q0)],.agg [.r (.bool b1),.ns .u64 x1,.r (.bool c1),.ns .u64 y1,.r (.int .i64 q1)]]=>res b0 x0 c0 y0 q0 b1 x1 c1 y1 q1
  |_=>.any
theorem aj.AA{pre:Bool->List Int->Bool->List Int->Int->Bool->List Int->Bool->List Int->Int->Prop}{res:Bool->List Int->Bool->List Int->Int->Bool->List Int->Bool->List Int->Int->AV}(h:∀b0 x0 c0 y0 q0 b1 x1 c1 y1 q1,pre b0 x0 c0 y0 q0 b1 x1 c1 y1 q1->dh P f [.agg [b0,x0,c0,y0,q0],.agg [b1,x1,c1,y1,q1]] (res b0 x0 c0 y0 q0 b1 x1 c1 y1 q1)):aj P f (rR 0 pre res):=by
 refine sz λargs hp=>?_
 split at hp
 .exact h _ _ _ _ _ _ _ _ _ _ hp
 .exact hp.elim
@[push_cast] def BF(k:Nat)(pre:Bool->List Int->Bool->List Int->Int->Int->Prop)(res:Bool->List Int->Bool->List Int->Int->Int->AV):Sp where
 kind:=k
 pre
  |[.agg [.r (.bool b0),.ns .u64 x0,.r (.bool c0),.ns .u64 y0,.r (.int .i64 q0)],.r (.int .i64 n1)]=>pre b0 x0 c0 y0 q0 n1
  |_=>False
 res
  |[.agg [.r (.bool b0),.ns .u64 x0,.r (.bool c0),.ns .u64 y0,.r (.int .i64 q0)],.r (.int .i64 n1)]=>res b0 x0 c0 y0 q0 n1
  |_=>.any
theorem aj.AI{pre:Bool->List Int->Bool->List Int->Int->Int->Prop}{res:Bool->List Int->Bool->List Int->Int->Int->AV}(h:∀b0 x0 c0 y0 q0 n1,pre b0 x0 c0 y0 q0 n1->dh P f [.agg [b0,x0,c0,y0,q0],n1] (res b0 x0 c0 y0 q0 n1)):aj P f (BF 0 pre res):=by
 refine sz λargs hp=>?_
 split at hp
 .exact h _ _ _ _ _ _ hp
 .exact hp.elim
@[push_cast] def Rj(k:Nat)(pre:Bool->List Int->Bool->List Int->Int->Bool->List Int->Prop)(res:Bool->List Int->Bool->List Int->Int->Bool->List Int->AV):Sp where
 kind:=k
 pre
  |[.agg [.r (.bool b0),.ns .u64 x0,.r (.bool c0),.ns .u64 y0,.r (.int .i64 q0)],.agg [.r (.bool b1),.ns .u64 x1]]=>pre b0 x0 c0 y0 q0 b1 x1
  |_=>False
 res
  |[.agg [.r (.bool b0),.ns .u64 x0,.r (.bool c0),.ns .u64 y0,.r (.int .i64 q0)],.agg [.r (.bool b1),.ns .u64 x1]]=>res b0 x0 c0 y0 q0 b1 x1
  |_=>.any
theorem aj.AZ{pre:Bool->List Int->Bool->List Int->Int->Bool->List Int->Prop}{res:Bool->List Int->Bool->List Int->Int->Bool->List Int->AV}(h:∀b0 x0 c0 y0 q0 b1 x1,pre b0 x0 c0 y0 q0 b1 x1->dh P f [.agg [b0,x0,c0,y0,q0],.agg [b1,x1]] (res b0 x0 c0 y0 q0 b1 x1)):aj P f (Rj 0 pre res):=by
 refine sz λargs hp=>?_
 split at hp
 .exact h _ _ _ _ _ _ _ hp
 .exact hp.elim
end
section
variable {f:FuncId}{P:Program}
@[push_cast] def spP(k:Nat)(pre:Bool->List Int->Bool->List Int->Prop)(res:Bool->List Int->Bool->List Int->AV):Sp where
 kind:=k
 pre
  |[.agg [.r (.bool b0),.ns .u64 x0,.r (.bool c0),.ns .u64 y0]]=>pre b0 x0 c0 y0
  |_=>False
 res
  |[.agg [.r (.bool b0),.ns .u64 x0,.r (.bool c0),.ns .u64 y0]]=>res b0 x0 c0 y0
  |_=>.any
@[push_cast] def I8(k:Nat)(pre:Bool->List Int->Bool->List Int->Bool->List Int->Bool->List Int->Prop)(res:Bool->List Int->Bool->List Int->Bool->List Int->Bool->List Int->AV):Sp where
 kind:=k
 pre
  |[.agg [.r (.bool b0),.ns .u64 x0,.r (.bool c0),.ns .u64 y0],.agg [.r (.bool b1),.ns .u64 x1,.r (.bool c1),.ns .u64 y1]]=>pre b0 x0 c0 y0 b1 x1 c1 y1
  |_=>False
 res
  |[.agg [.r (.bool b0),.ns .u64 x0,.r (.bool c0),.ns .u64 y0],.agg [.r (.bool b1),.ns .u64 x1,.r (.bool c1),.ns .u64 y1]]=>res b0 x0 c0 y0 b1 x1 c1 y1
  |_=>.any
theorem aj.PP{pre:Bool->List Int->Bool->List Int->Bool->List Int->Bool->List Int->Prop}{res:Bool->List Int->Bool->List Int->Bool->List Int->Bool->List Int->AV}(h:∀b0 x0 c0 y0 b1 x1 c1 y1,pre b0 x0 c0 y0 b1 x1 c1 y1->dh P f [.agg [b0,x0,c0,y0],.agg [b1,x1,c1,y1]] (res b0 x0 c0 y0 b1 x1 c1 y1)):aj P f (I8 0 pre res):=by
 refine sz λargs hp=>?_
 split at hp
 .exact h _ _ _ _ _ _ _ _ hp
 .exact hp.elim
@[push_cast] def Rq(k:Nat)(pre:Bool->List Int->Bool->List Int->Int->Prop)(res:Bool->List Int->Bool->List Int->Int->AV):Sp where
 kind:=k
 pre
  |[.agg [.r (.bool b0),.ns .u64 x0,.r (.bool c0),.ns .u64 y0],.r (.int .i64 n1)]=>pre b0 x0 c0 y0 n1
  |_=>False
 res
  |[.agg [.r (.bool b0),.ns .u64 x0,.r (.bool c0),.ns .u64 y0],.r (.int .i64 n1)]=>res b0 x0 c0 y0 n1
  |_=>.any
theorem aj.PI{pre:Bool->List Int->Bool->List Int->Int->Prop}{res:Bool->List Int->Bool->List Int->Int->AV}(h:∀b0 x0 c0 y0 n1,pre b0 x0 c0 y0 n1->dh P f [.agg [b0,x0,c0,y0],n1] (res b0 x0 c0 y0 n1)):aj P f (Rq 0 pre res):=by
 refine sz λargs hp=>?_
 split at hp
 .exact h _ _ _ _ _ hp
 .exact hp.elim
@[push_cast] def Rr(k:Nat)(pre:Bool->List Int->Bool->List Int->Bool->List Int->Int->Int->Prop)(res:Bool->List Int->Bool->List Int->Bool->List Int->Int->Int->AV):Sp where
 kind:=k
 pre
  |[.agg [.r (.bool b0),.ns .u64 x0,.r (.bool c0),.ns .u64 y0],.agg [.r (.bool b1),.ns .u64 x1],.r (.int .i64 n2),.r (.int .i64 n3)]=>pre b0 x0 c0 y0 b1 x1 n2 n3
  |_=>False
 res
  |[.agg [.r (.bool b0),.ns .u64 x0,.r (.bool c0),.ns .u64 y0],.agg [.r (.bool b1),.ns .u64 x1],.r (.int .i64 n2),.r (.int .i64 n3)]=>res b0 x0 c0 y0 b1 x1 n2 n3
  |_=>.any
theorem aj.Ts{pre:Bool->List Int->Bool->List Int->Bool->List Int->Int->Int->Prop}{res:Bool->List Int->Bool->List Int->Bool->List Int->Int->Int->AV}(h:∀b0 x0 c0 y0 b1 x1 n2 n3,pre b0 x0 c0 y0 b1 x1 n2 n3->dh P f [.agg [b0,x0,c0,y0],.agg [b1,x1],n2,n3] (res b0 x0 c0 y0 b1 x1 n2 n3)):aj P f (Rr 0 pre res):=by
 refine sz λargs hp=>?_
 split at hp
 .exact h _ _ _ _ _ _ _ _ hp
 .exact hp.elim
@[push_cast] def I5(k:Nat)(pre:Int->Bool->List Int->Bool->List Int->Prop)(res:Int->Bool->List Int->Bool->List Int->AV):Sp where
 kind:=k
 pre
  |[.r (.int .i64 n0),.agg [.r (.bool b1),.ns .u64 x1,.r (.bool c1),.ns .u64 y1]]=>pre n0 b1 x1 c1 y1
  |_=>False
 res
  |[.r (.int .i64 n0),.agg [.r (.bool b1),.ns .u64 x1,.r (.bool c1),.ns .u64 y1]]=>res n0 b1 x1 c1 y1
  |_=>.any
theorem aj.IP{pre:Int->Bool->List Int->Bool->List Int->Prop}{res:Int->Bool->List Int->Bool->List Int->AV}(h:∀n0 b1 x1 c1 y1,pre n0 b1 x1 c1 y1->dh P f [n0,.agg [b1,x1,c1,y1]] (res n0 b1 x1 c1 y1)):aj P f (I5 0 pre res):=by
 refine sz λargs hp=>?_
 split at hp
 .exact h _ _ _ _ _ hp
 .exact hp.elim
@[push_cast] def Rv(k:Nat)(pre:Bool->List Int->Int->Int->Int->Prop)(res:Bool->List Int->Int->Int->Int->AV):Sp where
 kind:=k
 pre
  |[.agg [.r (.bool b0),.ns .u64 x0],.r (.int .i64 n1),.r (.int .i64 n2),.r (.int .i64 n3)]=>pre b0 x0 n1 n2 n3
  |_=>False
 res
  |[.agg [.r (.bool b0),.ns .u64 x0],.r (.int .i64 n1),.r (.int .i64 n2),.r (.int .i64 n3)]=>res b0 x0 n1 n2 n3
  |_=>.any
theorem aj.TA{pre:Bool->List Int->Int->Int->Int->Prop}{res:Bool->List Int->Int->Int->Int->AV}(h:∀b0 x0 n1 n2 n3,pre b0 x0 n1 n2 n3->dh P f [.agg [b0,x0],n1,n2,n3] (res b0 x0 n1 n2 n3)):aj P f (Rv 0 pre res):=by
 refine sz λargs hp=>?_
 split at hp
 .exact h _ _ _ _ _ hp
 .exact hp.elim
end
@[push_cast] def zn(k:Nat)(pre:Bool->List Int->Int->Int->Prop)(res:Bool->List Int->Int->Int->AV):Sp where
 kind:=k
 pre
  |[.agg [.r (.bool b0),.ns .u64 x0],.r (.int .i64 n1),.r (.int .i64 n2)]=>pre b0 x0 n1 n2
  |_=>False
 res
  |[.agg [.r (.bool b0),.ns .u64 x0],.r (.int .i64 n1),.r (.int .i64 n2)]=>res b0 x0 n1 n2
  |_=>.any
theorem aj.zY{P:Program}{f:FuncId}{pre:Bool->List Int->Int->Int->Prop}{res:Bool->List Int->Int->Int->AV}(h:∀b0 x0 n1 n2,pre b0 x0 n1 n2->dh P f [.agg [b0,x0],n1,n2] (res b0 x0 n1 n2)):aj P f (zn 0 pre res):=by
 refine sz λargs hp=>?_
 split at hp
 .exact h _ _ _ _ hp
 .exact hp.elim
end Go.Hl
