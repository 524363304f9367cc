/- Lemmas for TopSound and TopBracket. -/
import Derived.Test.YtpgglolpkbepjaaGreatTAP
set_option linter.unusedVariables false
set_option linter.unusedSimpArgs false
namespace Go.Hl
open Go.Proofs.Tryz
open Go.Proofs.Tryz renaming prog→a0c
open Option renaming some→T',none→Y'
open Bool renaming true→Z',false→a0a
open Go Go.RowKit Go.Proofs
set_option maxHeartbeats 8000000
set_option maxRecDepth 100000
section
variable {x y z:Int}{a b k n:Nat}
def Bz(n:Nat)(z:Int):Prop:=z.natAbs<2^n
theorem Bz.mono(h:Bz a z)(ab:a<=b):Bz b z:=da h (lC p' ab)
theorem Bz.neg(h:Bz a z):Bz a (-z):=by unfold Bz;rw[Ci];exact h
theorem Bz.add(h:Bz a x)(k:Bz a y):Bz (a+1) (x+y):=by
 unfold Bz at*;rw[gH];have:=Int.natAbs_add_le x y;omega
theorem Bz.sub(h:Bz a x)(k:Bz a y):Bz (a+1) (x-y):=by rw[Int.sub_eq_add_neg];exact h.add k.neg
theorem Bz.mul(h:Bz a x)(k:Bz b y):Bz (a+b) (x*y):=by
 unfold Bz at*;rw[J5,mD];exact Nat.mul_lt_mul_of_lt_of_le h (kt k) (l7 b)
theorem Bz.shl(h:Bz a x)(n:Nat):Bz (a+n) (x*2^n):=by
 unfold Bz at*;rw[J5,Int.natAbs_pow,mD];exact zT h (l7 n)
theorem Bz.div{d:Int}(h:Bz a x):Bz a (x/d):=kO (S8 x d) h
theorem Bz.small(h1:-(2^n:Nat)<z)(h2:z<(2^n:Nat)):Bz n z:=by unfold Bz;omega
theorem Bz.le(h:Bz a y)(h1:x.natAbs<=y.natAbs):Bz a x:=kO h1 h
theorem Gy(k:Nat)(h:Bz n z)(hn:n<=64*k):z.natAbs<ak^k:=by
 have:ak^k=2^(64*k):=by rw[xG]
 rw[this];exact da h (lC p' hn)
theorem Bz.ln(h:Bz n z)(hn:n<=64*k)(m:Nat)(hk:k<1000000:=by decide)(hm:k<m:=by decide):Lm (dg z.natAbs)/\(dg z.natAbs).length<m:=by
 obtain⟨a,b,c⟩:=lI (Gy k h hn) f';exact⟨a,f'⟩
theorem Bz.lz(h:Bz n z)(hn:n<=64000):Lm (dg z.natAbs)/\(dg z.natAbs).length<10000000:=Bz.ln (k:=1000) h hn _
theorem Bz.D3(h:Bz n z)(hn:n<=64000):Lm (dg z.natAbs)/\(dg z.natAbs).length<1000000:=Bz.ln (k:=1000) h hn _
theorem dN{b:Bool}{x:List Int}(hx:Lm x)(hl:x.length<=k):Bz (64*k) (zv b x):=by
 have:=SH (b:=b) hx hl;unfold Bz;rw[xG];exact this
theorem ia{n:Int}(h0:0<=n)(h1:n<=8192):sh n=n.toNat:=by unfold sh;split<;>omega
theorem QU{n:Int}(h0:n<=0):sh n=0:=by unfold sh;split<;>omega
end
@[push_cast] def dy(m e:Int):AV:=.agg [decide (m<0),dg m.natAbs,e]
@[push_cast] def aed:Sp:=rS 0 (λ_=>True) (λn=>.r (.int .i64 (max (-4000) (min n 4000))))
theorem Ik:aj a0c 223 aed:=by
 refine aj.I λn _=>?_
 have hE:=env dC;refine aB func223 ntmps223 ?_;refine aK ?_;refine aO.mk a0b ?_
 congr 2
 split<;>split<;>omega
@[push_cast] def af1:Sp:=qS 0 (λ_ x n=>Lm x/\x.length<10000000/\n<=4000) (λb x n=>zi (zv b x*2^sh n))
theorem Jr:aj a0c 92 af1:=by
 refine aj.ZI λb x n⟨hx,hxl,hn⟩=>?_
 have hE:=di oY;refine aB func92 ntmps92 ?_;refine aK ?_;refine ai.loop (ι:=Unit) (λ_=>⟨[(4,.ptr 4 0),(2,.ptr 2 0),(1,n)],[(4,⟨Z',.c [a0a,.ns .u64 []]⟩),(2,⟨Z',.c [b,x]⟩)]⟩) (λ_=>0) () (Le.mk a0b) ?_;rintro⟨⟩;refine an (show¬(4000:Int)<n from f') ?_;exact pL
@[push_cast] def adC:Sp:=qS 0 (λ_ x n=>Lm x/\x.length<10000000/\n<=4000) (λb x n=>zi (zv b x/2^sh n))
theorem GM:aj a0c 120 adC:=by
 refine aj.ZI λb x n⟨hx,hxl,hn⟩=>?_
 have hE:=di Fg;refine aB func120 ntmps120 ?_;refine aK ?_;refine ai.loop (ι:=Unit) (λ_=>⟨[(4,.ptr 4 0),(2,.ptr 2 0),(1,n)],[(4,⟨Z',.c [a0a,.ns .u64 []]⟩),(2,⟨Z',.c [b,x]⟩)]⟩) (λ_=>0) () (Le.mk a0b) ?_;rintro⟨⟩;refine an (show¬(4000:Int)<n from f') ?_;exact pL
def ce(z e:Int):Int:=if z=0 then 0 else e
def cb(b:Bool)(x:List Int):Bool:=if zv b x=0 then a0a else b
def cx(b:Bool)(x:List Int):List Int:=if zv b x=0 then[]else x
theorem vl(b:Bool)(x:List Int):zv (cb b x) (cx b x)=zv b x:=by
 unfold cb cx;split
 .rename_i h;rw[h];rfl
 .rfl
theorem uO{b:Bool}{x:List Int}(h:Lm x)(hl:x.length<10000000):Lm (cx b x)/\(cx b x).length<10000000:=by
 unfold cx;split
 .exact⟨⟨aR.nil,J'⟩,J'⟩
 .exact⟨h,hl⟩
@[push_cast] def adh:Sp:=BG 0 (λ_ x e=>Lm x/\x.length<10000000/\-4000<=e/\e<=4000)
 (λb x e=>.aU [.agg [cb b x,cx b x],ce (zv b x) e])
theorem vQ:aj a0c 53 adh:=by
 refine aj.D λb x e⟨hx,hxl,h1,h2⟩=>?_
 have hE:=di rP;refine aB func53 ntmps53 ?_;refine an (A2 (show¬e< -4000 from f') (show¬4000<e from f')) ?_;refine ai.test a0b (λhc=>?_) (λhc=>?_)
 .have hz:zv b x=0:=Int.sign_eq_zero_iff_zero.1 (by simpa using hc)
  refine aK ?_;refine aO.mk a0b ?_;unfold cb cx;rw[hz];rfl
 .have hz:¬zv b x=0:=λh=>by rw[h]at hc;cases hc
  refine ai.skip ?_;refine aG [(1,1),(2,2)] [] [(19,0,1),(21,2,1)] a0b ?_;refine aO.mk a0b ?_;unfold ce cb cx;rw[aq hz,aq hz,aq hz]
section
variable {n:Int}
@[push_cast] def ae1:Sp:=BH 0 (λ_ x e _ y f=>(Lm x/\x.length<10000000/\-2000<=e/\e<=2000)/\(Lm y/\y.length<10000000/\-2000<=f/\f<=2000))
 (λb x e c y f=>.aU [zi (zv b x*2^sh (ce (zv b x) e-min (ce (zv b x) e) (ce (zv c y) f))),zi (zv c y*2^sh (ce (zv c y) f-min (ce (zv b x) e) (ce (zv c y) f))),(min (ce (zv b x) e) (ce (zv c y) f):Int)])
theorem pA{z e:Int}(h:-n<=e)(k:e<=n):-n<=ce z e/\ce z e<=n:=by unfold ce;split<;>omega
theorem HY:aj a0c 55 ae1:=by
 refine aj.DD λb x e c y f⟨⟨hx,hxl,e1,e2⟩,⟨hy,hyl,f1,f2⟩⟩=>?_
 have hE:=eF vQ Jr;refine aB func55 ntmps55 ?_;have zx:=vl b x;have zy:=vl c y;obtain⟨lx,aw⟩:=uO (b:=b) hx hxl;obtain⟨ly,ax⟩:=uO (b:=c) hy hyl;have bE:=pA (z:=zv b x) e1 e2;have bF:=pA (z:=zv c y) f1 f2;obtain⟨E,ab⟩:=nm (ce (zv b x) e);obtain⟨F,af⟩:=nm (ce (zv c y) f);obtain⟨X,hX⟩:=nm (zv b x);obtain⟨Y,hY⟩:=nm (zv c y);rw[ab]at bE;rw[af]at bF;rw[hX]at zx;rw[hY]at zy;rw[ab,af,hX,hY];obtain⟨L,hL⟩:=nm (min E F);have ao:(if F<E then F else E)=L:=by rw[<-hL];split<;>omega
 rw[hL];refine aT ?_;refine aT ?_;refine aT ?_;refine cy (A3 ab af ao) ?_;refine aG [(7,7),(9,9),(4,4),(5,5)] [] [] (A4 ab af zx zy) ?_;exact pL
theorem Ox{b:Bool}{x:List Int}(hx:Lm x)(hl:x.length<600)(hn:n<=4000):Bz 42400 (zv b x*2^sh n):=by
 have h:=(dN (b:=b) hx (k:=600) f').shl (sh n);refine h.mono ?_;rcases Fv n 0 with h0|h0
 .rw[QU h0];omega
 .rw[ia h0 f'];omega
@[push_cast] def adw:Sp:=BG 0 (λ_ x e=>Lm x/\x.length<10000000/\-2000<=e/\e<=2000) (λb x _=>.r (.int .i64 (zv b x).sign))
theorem GR:aj a0c 18 adw:=by
 refine aj.D λb x e⟨hx,hxl,e1,e2⟩=>?_
 have hE:=eF vQ rP;refine aB func18 ntmps18 ?_;have zx:=vl b x;obtain⟨lx,ab⟩:=uO (b:=b) hx hxl;refine an zx ?_;exact pL
@[push_cast] def adq:Sp:=BH 0 (λ_ x e _ y f=>(Lm x/\x.length<600/\-2000<=e/\e<=2000)/\(Lm y/\y.length<600/\-2000<=f/\f<=2000))
 (λb x e c y f=>.r (.int .i64 (dc (zv b x*2^sh (ce (zv b x) e-min (ce (zv b x) e) (ce (zv c y) f))) (zv c y*2^sh (ce (zv c y) f-min (ce (zv b x) e) (ce (zv c y) f))))))
theorem Dc:aj a0c 19 adq:=by
 refine aj.DD λb x e c y f⟨⟨hx,hxl,e1,e2⟩,⟨hy,hyl,f1,f2⟩⟩=>?_
 have hE:=eF HY tR;refine aB func19 ntmps19 ?_;have bE:=pA (z:=zv b x) e1 e2;have bF:=pA (z:=zv c y) f1 f2;obtain⟨E,ab⟩:=nm (ce (zv b x) e);obtain⟨F,af⟩:=nm (ce (zv c y) f);rw[ab]at bE;rw[af]at bF;rw[ab,af];obtain⟨L,hL⟩:=nm (min E F);obtain⟨o1,ao⟩:=(Ox (b:=b) hx hxl (n:=E-L) f').lz f';obtain⟨o2,aw⟩:=(Ox (b:=c) hy hyl (n:=F-L) f').lz f';obtain⟨X,hX⟩:=nm (zv b x*2^sh (E-L));obtain⟨Y,hY⟩:=nm (zv c y*2^sh (F-L));rw[hX]at o1 ao;rw[hY]at o2 aw;rw[hL,hX,hY];refine an (A5 ab af hL hX hY) ?_;exact pL
@[push_cast] def ads:Sp:=BG 0 (λ_ x e=>Lm x/\x.length<10000000/\-2000<=e/\e<=2000)
 (λb x e=>.aU [(if zv b x=0 then 0 else e+bJ (zv b x).natAbs-1:Int),decide (zv b x≠0)])
theorem MJ:aj a0c 82 ads:=by
 refine aj.D λb x e⟨hx,hxl,e1,e2⟩=>?_
 have hE:=eF vQ Fe;refine aB func82 ntmps82 ?_;have zx:=vl b x;obtain⟨lx,aw⟩:=uO (b:=b) hx hxl;have hb:bJ (zv b x).natAbs<=64*10000000:=(ku _ _).2 (dN (b:=b) hx (k:=10000000) f');have ab:(bJ (zv b x).natAbs:Int)=0↔zv b x=0:=by
  have:=Gp (n:=(zv b x).natAbs);omega
 obtain⟨B,hB⟩:=nm (((bJ (zv b x).natAbs:Nat):Int));have ao:0<=B/\B<=64*10000000:=f';rw[hB]at ab;rw[hB]
 by_cases hz:zv b x=0
 .have af:ce (zv b x) e=0:=au hz
  have h0:B=0:=ab.2 hz;subst h0;refine an (A3 af zx hB) ?_;refine aO.mk a0b ?_;rw[au hz,lG (λh=>h hz)]
 .have af:ce (zv b x) e=e:=aq hz
  have h0:(B==0)=false:=mH.2 (λh=>hz (ab.1 h));refine an (A4 af zx hB h0) ?_;refine aO.mk a0b ?_;rw[aq hz,fu hz]
end
def rV:Nat->Nat->Nat
 |0,_=>0
 |k+1,N=>if N%2=1 then 0 else 1+rV k (N/2)
def tz(m:Int):Nat:=rV (Nat.log2 m.natAbs+1) m.natAbs
theorem agj(k N:Nat)(h0:0<N)(h:N<2^k):(∀i,i<rV k N->N/2^i%2=0)/\N/2^rV k N%2=1/\2^rV k N∣N/\rV k N<k:=by
 induction k generalizing N with
 |zero=>simp at h;omega
 |succ k ih=>
  simp only[rV];split
  .rename_i e
   exact⟨λi hi=>f',by simpa using e,J',f'⟩
  .rename_i e
   obtain⟨a,b,c,d⟩:=ih (N/2) f' (by rw[gH]at h;omega);refine⟨λi hi=>?_,?_,?_,f'⟩
   .cases i with
    |zero=>rw[Nat.pow_zero,Nat.div_one];omega
    |succ i=>
     have:=a i f';rw[FI,<-Nat.pow_succ']at this;exact this
   .rw[FI,<-Nat.pow_succ']at b
    rw[q8];exact b
   .obtain⟨t,ht⟩:=c
    refine⟨t,?_⟩;rw[q8,gH];have e2:N=2*(N/2):=f';generalize rV k (N/2)=z at ht|-;generalize N/2=h at ht e2;rw[e2,ht,iw 2,pj,iw t 2,pj]
theorem zp{m:Int}(h:m≠0):(∀i,i<tz m->m.natAbs/2^i%2=0)/\m.natAbs/2^tz m%2=1/\2^tz m∣m.natAbs/\tz m<bJ m.natAbs:=by
 have:=agj (Nat.log2 m.natAbs+1) m.natAbs f' FO;refine⟨this.1,this.2.1,this.2.2.1,?_⟩;unfold bJ;rw[aq f'];exact this.2.2.2
def ct(m:Int):Int:=m/2^tz m
def cH(m e:Int):Int:=if m=0 then 0 else e+tz m
@[push_cast] def mh(m e:Int):AV:=dy (ct m) (cH m e)
@[push_cast] def aer:Sp:=qS 0 (λ_ x e=>Lm x/\x.length<62/\-1000000<=e/\e<=1000000) (λb x e=>mh (zv b x) e)
theorem Ep:aj a0c 81 aer:=by
 refine aj.ZI λb x e⟨hx,hxl,e1,e2⟩=>?_
 have hE:=eF Ff GM;refine aB func81 ntmps81 ?_;obtain⟨M,hM⟩:=nm (zv b x);have bM:=dN (b:=b) hx (k:=62) f';rw[hM]at bM;obtain⟨o1,a7⟩:=bM.lz f';have hlen:(dg M.natAbs).length<=62:=by
  have h1:=Gy 62 bM p';exact(lI h1 p').2.2
 rw[hM]
 by_cases hz:M=0
 .subst hz
  have h0:(dg (Int.natAbs 0)).length=0:=by rw[show Int.natAbs 0=0 from rfl,ky];rfl
  refine an (A2 hM h0) ?_;refine aO.mk a0b ?_;simp[mh,dy,ct,cH,ky]
 .have h0:0<(dg M.natAbs).length:=ue.2 (λe=>hz (by have:=vR.1 e;omega))
  have ao:(((dg M.natAbs).length:Int)==0)=false:=mH.2 f';refine an (A2 hM ao) ?_;obtain⟨a0,a1,bb,bc⟩:=zp hz;obtain⟨t,ht⟩:=nm (tz M);rw[ht]at a0 a1 bb bc;have a4:bJ M.natAbs<=64*(dg M.natAbs).length:=(ku _ _).2 (by
   have:=qL o1.1 (aM (dg M.natAbs).length);rw[jR]at this;rwa[xG])
  have ax:nb (dg M.natAbs)=M.natAbs:=jR _;obtain⟨A,hA⟩:=nm (dg M.natAbs);have a3:mh M e=dy (M/2^t) (e+t):=by unfold mh ct cH;rw[aq hz,ht]
  rw[a3];rw[hA]at o1 a7 hlen h0 ao a4 ax;have lA:=o1.1;obtain⟨sg,af⟩:=nm (decide (M<0));have a6:zv sg A=M:=by rw[<-af,<-hA,cI]
  refine ai.loop (ι:={n:Nat // n<=t}) (λn=>⟨[(5,(n.1:Int)),(4,.ptr 4 0),(2,.ptr 2 0),(1,e)],
   [(2,⟨Z',.c [sg,A]⟩),(4,⟨Z',.c [a0a,.ns .u64 [],(0:Int)]⟩)]⟩) (λn=>t-n.1) ⟨0,dU _⟩ (Le.mk (A2 hA af)) ?_
  rintro⟨n,hn⟩;dsimp only;have t1:((n:Int)/64).toNat=n/64:=f';have t2:((n:Int)%64).toNat=n%64:=f';have key:=aar lA (n/64) (n%64) f';rw[vD,ax]at key;have aw:=de lA (n/64);have hq:n/64<A.length:=f';have hw:IntKind.u64.wrap (n:Int)=n:=zz f' f';have h3:0<=A.getD (n/64) 0/2^(n%64)/\A.getD (n/64) 0/2^(n%64)<18446744073709551616:=acy aw;have h4:0<=(2:Int)^(n%64):=bo (jl p');have ay:A.getD (n/64) 0/2^(n%64)%2=((M.natAbs/2^n%2:Nat):Int):=by
   rw[key];have e:A.getD (n/64) 0/2^(n%64)=(((A.getD (n/64) 0).toNat/2^(n%64):Nat):Int):=by
    rw[Cj,tY aw.1,kJ];rfl
   rw[e];omega
  by_cases hlt:n<t
  .have hb:(A.getD (n/64) 0/2^(n%64)%2==0)=true:=by rw[ay,a0 n hlt];rfl
   refine an (A6 (show(n:Int)/64<A.length from f') t1 t2 hw h4 hb) ?_;exact⟨⟨n+1,f'⟩,Le.mk a0b,N'⟩
  .obtain rfl:n=t:=f'
   have hb:(A.getD (n/64) 0/2^(n%64)%2==0)=false:=by rw[ay,a1];rfl
   by_cases hn0:n=0
   .have ab:((n:Int)==0)=true:=fU.2 f'
    refine an (A7 (show(n:Int)/64<A.length from f') t1 t2 hw h4 hb ab) ?_;refine aO.mk a0b ?_;subst hn0;rw[<-af,<-hA];simp[dy]
   .have ab:((n:Int)==0)=false:=mH.2 f'
    have a5:sh (n:Int)=n:=by rw[ia f' f'];omega
    refine an (A9 (show(n:Int)/64<A.length from f') t1 t2 hw h4 hb ab a6 a5) ?_;exact pL
theorem MC(b:Bool)(x:List Int):(cx b x).length<=x.length:=by unfold cx;split<;>simp
theorem Bz.oq{n:Nat}{z:Int}(h:Bz n z)(hn:n<=3904):Lm (dg z.natAbs)/\(dg z.natAbs).length<62:=Bz.ln (k:=61) h hn _
theorem Wr(z e:Int):mh z (ce z e)=mh z e:=by
 unfold mh cH ce
 by_cases h:z=0
 .rw[au h,au h]
 .rw[aq h,aq h,aq h]
@[push_cast] def adt:Sp:=BG 0 (λ_ x e=>Lm x/\x.length<62/\-4000<=e/\e<=4000) (λb x e=>mh (zv b x) e)
theorem GK:aj a0c 43 adt:=by
 refine aj.D λb x e⟨hx,hxl,e1,e2⟩=>?_
 have hE:=eF vQ Ep;refine aB func43 ntmps43 ?_;have zx:=vl b x;obtain⟨lx,_⟩:=uO (b:=b) hx f';have af:(cx b x).length<62:=kO (MC b x) hxl;have bE:=pA (z:=zv b x) e1 e2;rw[<-Wr];obtain⟨E,ab⟩:=nm (ce (zv b x) e);rw[ab]at bE|-;refine an (A2 ab zx) ?_;exact pL
@[push_cast] def adu:Sp:=qS 0 (λ_ x e=>Lm x/\x.length<62/\-4000<=e/\e<=4000) (λb x e=>mh (zv b x) e)
theorem yi:aj a0c 42 adu:=by
 refine aj.ZI λb x e⟨hx,hxl,e1,e2⟩=>?_
 have hE:=di GK;refine aB func42 ntmps42 ?_;refine aK ?_;exact pL
theorem DT{b:Bool}{x:List Int}(hx:Lm x)(hl:x.length<21){n:Int}(hn:n<=2400):Bz 3680 (zv b x*2^sh n):=by
 have h:=(dN (b:=b) hx (k:=20) f').shl (sh n);refine h.mono ?_;rcases Fv n 0 with h0|h0
 .rw[QU h0];omega
 .rw[ia h0 f'];omega
@[push_cast] def ado:Sp:=BH 0 (λ_ x e _ y f=>(Lm x/\x.length<21/\-1200<=e/\e<=1200)/\(Lm y/\y.length<21/\-1200<=f/\f<=1200))
 (λb x e c y f=>mh (zv b x*2^sh (ce (zv b x) e-min (ce (zv b x) e) (ce (zv c y) f))+zv c y*2^sh (ce (zv c y) f-min (ce (zv b x) e) (ce (zv c y) f))) (min (ce (zv b x) e) (ce (zv c y) f)))
theorem V3:aj a0c 49 ado:=by
 refine aj.DD λb x e c y f⟨⟨hx,hxl,e1,e2⟩,⟨hy,hyl,f1,f2⟩⟩=>?_
 have hE:=iZ HY r7 Ep;refine aB func49 ntmps49 ?_;have bE:=pA (z:=zv b x) e1 e2;have bF:=pA (z:=zv c y) f1 f2;obtain⟨E,ab⟩:=nm (ce (zv b x) e);obtain⟨F,af⟩:=nm (ce (zv c y) f);rw[ab]at bE;rw[af]at bF;rw[ab,af];obtain⟨L,hL⟩:=nm (min E F);have z1:=DT (b:=b) hx hxl (n:=E-L) f';have z2:=DT (b:=c) hy hyl (n:=F-L) f';obtain⟨X,hX⟩:=nm (zv b x*2^sh (E-L));obtain⟨Y,hY⟩:=nm (zv c y*2^sh (F-L));rw[hX]at z1;rw[hY]at z2;obtain⟨o1,ao⟩:=z1.lz f';obtain⟨o2,aw⟩:=z2.lz f';have z3:=z1.add z2;rw[hL,hX,hY];obtain⟨Z,hZ⟩:=nm (X+Y);rw[hZ]at z3|-;obtain⟨o3,ax⟩:=z3.oq f';refine an (A6 ab af hL hX hY hZ) ?_;exact pL
@[push_cast] def adx:Sp:=BH 0 (λ_ x e _ y f=>(Lm x/\x.length<21/\-1200<=e/\e<=1200)/\(Lm y/\y.length<21/\-1200<=f/\f<=1200))
 (λb x e c y f=>mh (zv b x*2^sh (ce (zv b x) e-min (ce (zv b x) e) (ce (zv c y) f))-zv c y*2^sh (ce (zv c y) f-min (ce (zv b x) e) (ce (zv c y) f))) (min (ce (zv b x) e) (ce (zv c y) f)))
theorem Wo:aj a0c 226 adx:=by
 refine aj.DD λb x e c y f⟨⟨hx,hxl,e1,e2⟩,⟨hy,hyl,f1,f2⟩⟩=>?_
 have hE:=iZ HY zD Ep;refine aB func226 ntmps226 ?_;have bE:=pA (z:=zv b x) e1 e2;have bF:=pA (z:=zv c y) f1 f2;obtain⟨E,ab⟩:=nm (ce (zv b x) e);obtain⟨F,af⟩:=nm (ce (zv c y) f);rw[ab]at bE;rw[af]at bF;rw[ab,af];obtain⟨L,hL⟩:=nm (min E F);have z1:=DT (b:=b) hx hxl (n:=E-L) f';have z2:=DT (b:=c) hy hyl (n:=F-L) f';obtain⟨X,hX⟩:=nm (zv b x*2^sh (E-L));obtain⟨Y,hY⟩:=nm (zv c y*2^sh (F-L));rw[hX]at z1;rw[hY]at z2;obtain⟨o1,ao⟩:=z1.lz f';obtain⟨o2,aw⟩:=z2.lz f';have z3:=z1.sub z2;rw[hL,hX,hY];obtain⟨Z,hZ⟩:=nm (X-Y);rw[hZ]at z3|-;obtain⟨o3,ax⟩:=z3.oq f';refine an (A6 ab af hL hX hY hZ) ?_;exact pL
@[push_cast] def adv:Sp:=zf 0 (λ_ x e _=>Lm x/\x.length<62/\-2000<=e/\e<=2000) (λb x e n=>mh (zv b x) (ce (zv b x) e+max (-4000) (min n 4000)))
theorem Wm:aj a0c 235 adv:=by
 refine aj.DI λb x e n⟨hx,hxl,e1,e2⟩=>?_
 have hE:=iZ vQ Ik Ep;refine aB func235 ntmps235 ?_;have zx:=vl b x;obtain⟨lx,_⟩:=uO (b:=b) hx f';have af:(cx b x).length<62:=kO (MC b x) hxl;have bE:=pA (z:=zv b x) e1 e2;obtain⟨E,ab⟩:=nm (ce (zv b x) e);rw[ab]at bE|-;have bm:-4000<=max (-4000) (min n 4000)/\max (-4000) (min n 4000)<=4000:=f';obtain⟨K,hK⟩:=nm (max (-4000) (min n 4000));rw[hK]at bm|-;refine aT ?_;refine cy ab ?_;refine aG [(5,5),(4,4)] [] [] (A3 ab hK zx) ?_;exact pL
def kV(z e:Int):Int:=if 0<=e then z*2^e.toNat else z/2^(-e).toNat
def nr(z e:Int):Int:=if 0<=e then z*2^e.toNat else -((-z)/2^(-e).toNat)
@[push_cast] def adr:Sp:=zf 0 (λ_ x e q=>(Lm x/\x.length<62/\-2000<=e/\e<=2000)/\-2000<=q/\q<=2000) (λb x e q=>zi (kV (zv b x) (ce (zv b x) e+q)))
theorem MF:aj a0c 220 adr:=by
 refine aj.DI λb x e q⟨⟨hx,hxl,e1,e2⟩,q1,q2⟩=>?_
 have hE:=nZ vQ Ik Jr GM;refine aB func220 ntmps220 ?_;have zx:=vl b x;obtain⟨lx,ao⟩:=uO (b:=b) hx f';have bE:=pA (z:=zv b x) e1 e2;obtain⟨E,ab⟩:=nm (ce (zv b x) e);rw[ab]at bE|-;have hK:max (-4000) (min q 4000)=q:=f';obtain⟨S,hS⟩:=nm (E+q);rw[hS]
 by_cases h0:0<=S
 .have af:sh S=S.toNat:=ia h0 f'
  refine an (A5 ab hK hS h0 zx) ?_;refine aO.mk a0b ?_;unfold kV;rw[au h0,<-af]
  rfl
 .obtain⟨D,hD⟩:=nm (0-S)
  have af:sh D=(-S).toNat:=by rw[ia f' f'];congr 1;omega
  refine an (A6 ab hK hS h0 zx hD) ?_;refine aO.mk a0b ?_;unfold kV;rw[aq h0,<-af]
  rfl
@[push_cast] def adp:Sp:=zf 0 (λ_ x e q=>(Lm x/\x.length<62/\-2000<=e/\e<=2000)/\-2000<=q/\q<=2000) (λb x e q=>zi (nr (zv b x) (ce (zv b x) e+q)))
theorem V4:aj a0c 221 adp:=by
 refine aj.DI λb x e q⟨⟨hx,hxl,e1,e2⟩,q1,q2⟩=>?_
 have hE:=yk vQ Ik Jr GM vk;refine aB func221 ntmps221 ?_;have zx:=vl b x;obtain⟨lx,aw⟩:=uO (b:=b) hx f';have bE:=pA (z:=zv b x) e1 e2;have bX:=dN (b:=b) hx (k:=62) f';obtain⟨X,hX⟩:=nm (zv b x);rw[hX]at bX zx bE|-;obtain⟨E,ab⟩:=nm (ce X e);rw[ab]at bE|-;have hK:max (-4000) (min q 4000)=q:=f';obtain⟨S,hS⟩:=nm (E+q);rw[hS]
 by_cases h0:0<=S
 .have af:sh S=S.toNat:=ia h0 f'
  refine an (A6 ab hK hS h0 zx hX) ?_;refine aO.mk a0b ?_;unfold nr;rw[au h0,<-af]
  rfl
 .obtain⟨D,hD⟩:=nm (0-S)
  have af:sh D=(-S).toNat:=by rw[ia f' f'];congr 1;omega
  obtain⟨o1,ax⟩:=bX.neg.lz f';have z2:Bz (64*62) ((-X)/2^sh D):=bX.neg.div;obtain⟨o2,ao⟩:=z2.lz f';obtain⟨W,hW⟩:=nm ((-X)/2^sh D);rw[hW]at o2 ao;refine an (A8 ab hK hS h0 zx hX hD hW) ?_;refine aO.mk a0b ?_;unfold nr;rw[aq h0,<-af,hW]
  rfl
section
variable {a:Int}
@[push_cast] def ba(lo hi q:Int):AV:=.agg [decide (lo<0),dg lo.natAbs,decide (hi<0),dg hi.natAbs,q]
theorem Mq{b:Int}:dc a b<=0↔a<=b:=by
 unfold dc;split
 .omega
 .split<;>omega
def dp(b:Bool)(x:List Int)(c:Bool)(y:List Int)(q:Int):Prop:=(Lm x/\x.length<61)/\(Lm y/\y.length<61)/\zv b x<=zv c y/\0<=q/\q<=2048
@[push_cast] def ae6:Sp:=rS 0 (λq=>0<=q/\q<=2048) (λ_=>.r (.bool Z'))
theorem Ib:aj a0c 85 ae6:=by
 refine aj.I λq⟨q1,q2⟩=>?_
 have hE:=env dC;refine aB func85 ntmps85 ?_;refine an (A2 q1 q2) ?_;exact pL
@[push_cast] def aez:Sp:=BE 0 dp (λ_ _ _ _ _=>.r (.bool Z'))
theorem za:aj a0c 75 aez:=by
 refine aj.A λb x c y q⟨⟨hx,hxl⟩,⟨hy,hyl⟩,hle,q1,q2⟩=>?_
 have hE:=eF Ib tR;refine aB func75 ntmps75 ?_;refine an (Mq.2 hle) ?_;exact pL
def iM(a n:Int):Int:=if n<=0 then a*2^(-n).toNat else a/2^n.toNat
def lF(a n:Int):Int:=-(iM (-a) n)
@[push_cast] def acQ:Sp:=qS 0 (λ_ x n=>(Lm x/\x.length<10000000)/\-8000<=n/\n<=8000) (λb x n=>zi (iM (zv b x) n))
theorem CP:aj a0c 86 acQ:=by
 refine aj.ZI λb x n⟨⟨hx,hxl⟩,n1,n2⟩=>?_
 have hE:=eF oY Fg;refine aB func86 ntmps86 ?_
 by_cases h0:n<=0
 .obtain⟨D,hD⟩:=nm (0-n)
  have ab:sh D=(-n).toNat:=by rw[ia f' f'];congr 1;omega
  refine an (A2 h0 hD) ?_;refine aO.mk a0b ?_;unfold iM;rw[au h0,<-ab]
  rfl
 .have ab:sh n=n.toNat:=ia f' f'
  refine an h0 ?_;refine aO.mk a0b ?_;unfold iM;rw[aq h0,<-ab]
  rfl
theorem Bz.iM{k:Nat}{n:Int}(h:Bz k a)(m:Nat)(hm:-n<=m):Bz (k+m) (iM a n):=by
 unfold Hl.iM;split
 .exact(h.shl _).mono f'
 .exact h.div.mono f'
@[push_cast] def acW:Sp:=qS 0 (λ_ x n=>(Lm x/\x.length<61)/\-8000<=n/\n<=8000) (λb x n=>zi (lF (zv b x) n))
theorem Gx:aj a0c 87 acW:=by
 refine aj.ZI λb x n⟨⟨hx,hxl⟩,n1,n2⟩=>?_
 have hE:=eF vk CP;refine aB func87 ntmps87 ?_;have bX:=dN (b:=b) hx (k:=61) f';obtain⟨X,hX⟩:=nm (zv b x);rw[hX]at bX|-;have z1:=bX.neg;have z2:=z1.iM (n:=n) 8000 f';obtain⟨Y,hY⟩:=nm (-X);unfold lF;rw[hY]at z1 z2|-;obtain⟨o1,af⟩:=z1.lz f';obtain⟨o2,ab⟩:=z2.lz f';obtain⟨Z,hZ⟩:=nm (iM Y n);rw[hZ]at o2 ab|-;refine an (A3 hX hY hZ) ?_;exact pL
@[push_cast] def aey:Sp:=BF 0 (λb x c y q p=>dp b x c y q/\0<=p/\p<=2048) (λb x c y q p=>.aU [ba (iM (zv b x) (q-p)) (lF (zv c y) (q-p)) p,(0:Int)])
theorem IN:aj a0c 47 aey:=by
 refine aj.AI λb x c y q p⟨hB,p1,p2⟩=>?_
 have ab:=hB;obtain⟨⟨hx,af⟩,⟨hy,ao⟩,hle,q1,q2⟩:=ab;have hE:=nZ za Ib CP Gx;refine aB func47 ntmps47 ?_;obtain⟨D,hD⟩:=nm (q-p);rw[hD];refine aT ?_;refine ai.seq ?_;refine ig ?_;refine ai.dz (by rfl) ?_;refine ai.skip ?_;refine aG [(2,2),(4,4)] [] [(15,0,2),(17,2,2),(22,7,2),(24,9,2)] hD ?_;exact pL
end
theorem Bz.dB{n:Nat}{z:Int}(h:Bz n z)(hn:n<=3840):Lm (dg z.natAbs)/\(dg z.natAbs).length<61:=Bz.ln (k:=60) h hn _
@[push_cast] def aeo:Sp:=rR 0 (λb x c y q d u e v p=>dp b x c y q/\dp d u e v p/\q=p) (λ_ _ _ _ _ _ _ _ _ _=>.r (.bool Z'))
theorem IB:aj a0c 224 aeo:=by
 refine aj.AA λb x c y q d u e v p⟨h1,h2,h3⟩=>?_
 have hE:=di za;refine aB func224 ntmps224 ?_;have h4:(q==p)=true:=fU.2 h3;refine an h4 ?_;exact pL
@[push_cast] def aet:Sp:=zf 0 (λ_ x e q=>(Lm x/\x.length<62/\-2000<=e/\e<=2000)/\0<=q/\q<=2000) (λb x e q=>.aU [ba (kV (zv b x) (ce (zv b x) e+q)) (nr (zv b x) (ce (zv b x) e+q)) q,(0:Int)])
theorem aba:aj a0c 215 aet:=by
 refine aj.DI λb x e q⟨⟨hx,hxl,e1,e2⟩,q1,q2⟩=>?_
 have hE:=iZ Ib MF V4;refine aB func215 ntmps215 ?_;obtain⟨F,hF⟩:=nm (kV (zv b x) (ce (zv b x) e+q));obtain⟨C,hC⟩:=nm (nr (zv b x) (ce (zv b x) e+q));rw[hF,hC];refine aT ?_;refine ai.seq ?_;refine ig ?_;refine ai.dz (by rfl) ?_;refine ai.skip ?_;refine aG [(2,2),(4,4)] [] [] (A2 hF hC) ?_;exact pL
@[push_cast] def acO:Sp:=rR 0 (λb x c y q d u e v p=>dp b x c y q/\dp d u e v p/\q=p) (λb x c y q d u e v _=>.aU [ba (zv b x+zv d u) (zv c y+zv e v) q,(0:Int)])
theorem Lw:aj a0c 222 acO:=by
 refine aj.AA λb x c y q d u e v p⟨h1,h2,h3⟩=>?_
 have k1:=h1;have k2:=h2;obtain⟨⟨hx,af⟩,⟨hy,ao⟩,_,_,_⟩:=k1;obtain⟨⟨hu,og⟩,⟨hv,ab⟩,_,_,_⟩:=k2;have hE:=eF IB r7;refine aB func222 ntmps222 ?_;obtain⟨L,hL⟩:=nm (zv b x+zv d u);obtain⟨H,hH⟩:=nm (zv c y+zv e v);rw[hL,hH];refine aT ?_;refine ai.seq ?_;refine ig ?_;refine ai.dz (by rfl) ?_;refine ai.skip ?_;refine aG [(2,2),(3,3),(4,4)] [] [(11,0,2),(13,2,3),(16,5,2),(18,7,3),(21,10,2)] (A2 hL hH) ?_;exact pL
@[push_cast] def acU:Sp:=rR 0 (λb x c y q d u e v p=>dp b x c y q/\dp d u e v p/\q=p) (λb x c y q d u e v _=>.aU [ba (zv b x+-zv e v) (zv c y+-zv d u) q,(0:Int)])
theorem LS:aj a0c 216 acU:=by
 refine aj.AA λb x c y q d u e v p⟨h1,h2,h3⟩=>?_
 have k2:=h2;obtain⟨⟨hu,og⟩,⟨hv,ao⟩,hle,p1,p2⟩:=k2;have hE:=eF vk Lw;refine aB func216 ntmps216 ?_;have z1:=(dN (b:=d) hu (k:=60) f').neg;have z2:=(dN (b:=e) hv (k:=60) f').neg;obtain⟨D,hD⟩:=nm (-zv d u);obtain⟨E,ab⟩:=nm (-zv e v);rw[hD]at z1;rw[ab]at z2;rw[hD,ab];have af:dp (decide (E<0)) (dg E.natAbs) (decide (D<0)) (dg D.natAbs) p:=
  ⟨z2.dB f',z1.dB f',by rw[cI,cI];omega,p1,p2⟩
 refine aT ?_;refine aG [(3,3)] [] [(6,0,3),(9,3,3),(12,6,3),(13,8,3)] (A2 hD ab) ?_;exact pL
@[push_cast] def acT:Sp:=BF 0 (λb x c y q n=>dp b x c y q/\-4000<=n/\n<=4000) (λb x c y q n=>.aU [ba (iM (zv b x) (-n)) (lF (zv c y) (-n)) q,(0:Int)])
theorem UP:aj a0c 176 acT:=by
 refine aj.AI λb x c y q n⟨hB,n1,n2⟩=>?_
 have ab:=hB;obtain⟨⟨hx,ao⟩,⟨hy,aw⟩,hle,q1,q2⟩:=ab;have hE:=iZ za CP Gx;refine aB func176 ntmps176 ?_;obtain⟨D,hD⟩:=nm (0-n);have af:-n=D:=f';rw[af];refine aT ?_;refine ai.seq ?_;refine gl (A2 (show¬n< -4000 from f') (show¬4000<n from f')) ?_;refine ai.dz (by rfl) ?_;refine ai.skip ?_;refine aG [(2,2),(4,4)] [] [(18,0,2),(23,5,2),(28,10,2)] hD ?_;exact pL
def jJ(lo hi k:Int):Int:=if k<0 then hi*k else lo*k
def jI(lo hi k:Int):Int:=if k<0 then lo*k else hi*k
@[push_cast] def acV:Sp:=Rj 0 (λb x c y q _ z=>dp b x c y q/\Lm z/\z.length<61) (λb x c y q d z=>.aU [ba (jJ (zv b x) (zv c y) (zv d z)) (jI (zv b x) (zv c y) (zv d z)) q,(0:Int)])
theorem Gv:aj a0c 122 acV:=by
 refine aj.AZ λb x c y q d z⟨hB,hz,hzl⟩=>?_
 have ab:=hB;obtain⟨⟨hx,af⟩,⟨hy,ao⟩,hle,q1,q2⟩:=ab;have hE:=iZ za zA rP;refine aB func122 ntmps122 ?_;obtain⟨K,hK⟩:=nm (zv d z);obtain⟨L,hL⟩:=nm (zv b x*K);obtain⟨H,hH⟩:=nm (zv c y*K);rw[hK];refine aT ?_;refine ai.seq ?_;refine ig ?_;refine ai.dz (by rfl) ?_;refine ai.skip ?_;refine ai.seq ?_
 by_cases hn:K<0
 .have hs:K.sign<0:=by rw[Fy hn];decide
  refine ai.regionF [(2,2),(3,3)] [(6,8),(7,9)] [(12,0,2),(16,4,2)] hE.hT hE.hS hE.hm ?_ (an (A4 hK hL hH hs) ?_)
  .exact qF ⟨_,rfl⟩ ⟨_,rfl⟩
  refine aO.mk a0b ?_;unfold jJ jI;rw[au hn,au hn,hL,hH]
  rfl
 .have hs:¬K.sign<0:=λh=>hn (by
   rcases Ce K 0 with e|e|e
   .exact e
   .rw[e]at h;simp at h
   .rw[si e]at h;simp at h)
  refine ai.regionF [(2,2),(3,3)] [(6,8),(7,9)] [(12,0,2),(16,4,2)] hE.hT hE.hS hE.hm ?_ (an (A4 hK hL hH hs) ?_)
  .exact qF ⟨_,rfl⟩ ⟨_,rfl⟩
  refine aO.mk a0b ?_;unfold jJ jI;rw[aq hn,aq hn,hL,hH]
  rfl
section
variable {a b:Int}{n:Nat}
def ko(m z:Int):Int:=if z<m then z else m
def kp(m z:Int):Int:=if m<z then z else m
def Cn(b:Bool)(x:List Int):Prop:=b=decide (zv b x<0)/\x=dg (zv b x).natAbs/\Bz 30000 (zv b x)
theorem Cn.of{b:Bool}{x:List Int}(h:Cn b x):∃z,b=decide (z<0)/\x=dg z.natAbs/\zv b x=z/\Bz 30000 z:=⟨zv b x,h.1,h.2.1,rfl,h.2.2⟩
def yP(a b c d:Int):Nat->Int
 |0=>a
 |1=>b
 |2=>c
 |_=>d
theorem yf:dc a b<0↔a<b:=by
 unfold dc;split
 .omega
 .split<;>omega
theorem ye:0<dc a b↔b<a:=by
 unfold dc;split
 .omega
 .split<;>omega
theorem uv(z:Int)(h:Bz 30000 z):Cn (decide (z<0)) (dg z.natAbs):=by unfold Cn;rw[cI];exact⟨rfl,rfl,h⟩
theorem xZ(h:Bz n a)(k:Bz n b):Bz n (ko a b):=by unfold ko;split<;>assumption
theorem ya(h:Bz n a)(k:Bz n b):Bz n (kp a b):=by unfold kp;split<;>assumption
@[push_cast] def ae8:Sp where
 kind:=0
 pre
  |[.sl 2 4 [.r (.bool b0),.ns .u64 x0,.r (.bool b1),.ns .u64 x1,.r (.bool b2),.ns .u64 x2,.r (.bool b3),.ns .u64 x3],.fn 50 []]=>Cn b0 x0/\Cn b1 x1/\Cn b2 x2/\Cn b3 x3
  |_=>False
 res
  |[.sl 2 4 [.r (.bool b0),.ns .u64 x0,.r (.bool b1),.ns .u64 x1,.r (.bool b2),.ns .u64 x2,.r (.bool b3),.ns .u64 x3],.fn 50 []]=>zi (ko (ko (ko (zv b0 x0) (zv b1 x1)) (zv b2 x2)) (zv b3 x3))
  |_=>.any
theorem OQ:aj a0c 230 ae8:=by
 refine sz λargs hp=>?_
 split at hp;rotate_left;cases hp;rename_i b0 x0 b1 x1 b2 x2 b3 x3;obtain⟨h0,h1,h2,h3⟩:=hp;obtain⟨z0,e0,f0,g0,B0⟩:=h0.of;obtain⟨z1,e1,f1,g1,B1⟩:=h1.of;obtain⟨z2,e2,f2,g2,B2⟩:=h2.of;obtain⟨z3,e3,f3,g3,B3⟩:=h3.of;rw[g0,g1,g2,g3];subst e0 f0 e1 f1 e2 f2 e3 f3;clear h0 g0 h1 g1 h2 g2 h3 g3;have hE:=di tR;obtain⟨m1,ab⟩:=nm (ko z0 z1);obtain⟨m2,af⟩:=nm (ko m1 z2);obtain⟨m3,ao⟩:=nm (ko m2 z3);have C1:Bz 30000 m1:=ab▸xZ B0 B1;have C2:Bz 30000 m2:=af▸xZ C1 B2;have C3:Bz 30000 m3:=ao▸xZ C2 B3;rw[ab,af,ao];obtain⟨o0,aw⟩:=B0.lz f';obtain⟨o1,ax⟩:=B1.lz f';obtain⟨o2,ay⟩:=B2.lz f';obtain⟨o3,a0⟩:=B3.lz f';obtain⟨p1,a1⟩:=C1.lz f';obtain⟨p2,a3⟩:=C2.lz f';obtain⟨p3,a4⟩:=C3.lz f';refine aB func230 ntmps230 ?_;refine aK ?_;refine ai.loop (ι:={i:Nat // i<4}) (λi=>⟨[(0,.sl 2 4 [decide (z0<0),dg z0.natAbs,decide (z1<0),dg z1.natAbs,decide (z2<0),dg z2.natAbs,decide (z3<0),dg z3.natAbs]),(1,.fn 50 []),(4,.ptr 4 0),(5,.ptr 5 0),(6,((i.1:Int)+1:Int))],[(4,⟨Z',.c [a0a,.ns .u64 []]⟩),(5,⟨Z',.c [decide (yP z0 m1 m2 m3 i.1<0),dg (yP z0 m1 m2 m3 i.1).natAbs]⟩)]⟩) (λi=>3-i.1) ⟨0,p'⟩ (Le.mk a0b) ?_;rintro⟨i,hi⟩;obtain rfl|rfl|rfl|rfl:i=0\/i=1\/i=2\/i=3:=f'
 all_goals dsimp only[yP]
 .by_cases hc:z1<z0
  .have e:z1=m1:=by rw[<-ab];unfold ko;rw[au hc]
   refine an (yf.2 hc) ?_;exact⟨⟨1,p'⟩,Le.mk e,p'⟩
  .have e:z0=m1:=by rw[<-ab];unfold ko;rw[aq hc]
   refine an (show¬dc z1 z0<0 from λh=>hc (yf.1 h)) ?_;exact⟨⟨1,p'⟩,Le.mk e,p'⟩
 .by_cases hc:z2<m1
  .have e:z2=m2:=by rw[<-af];unfold ko;rw[au hc]
   refine an (yf.2 hc) ?_;exact⟨⟨2,p'⟩,Le.mk e,p'⟩
  .have e:m1=m2:=by rw[<-af];unfold ko;rw[aq hc]
   refine an (show¬dc z2 m1<0 from λh=>hc (yf.1 h)) ?_;exact⟨⟨2,p'⟩,Le.mk e,p'⟩
 .by_cases hc:z3<m2
  .have e:z3=m3:=by rw[<-ao];unfold ko;rw[au hc]
   refine an (yf.2 hc) ?_;exact⟨⟨3,p'⟩,Le.mk e,p'⟩
  .have e:m2=m3:=by rw[<-ao];unfold ko;rw[aq hc]
   refine an (show¬dc z3 m2<0 from λh=>hc (yf.1 h)) ?_;exact⟨⟨3,p'⟩,Le.mk e,p'⟩
 .refine aK ?_
  exact pL
@[push_cast] def ae5:Sp where
 kind:=0
 pre
  |[.sl 2 4 [.r (.bool b0),.ns .u64 x0,.r (.bool b1),.ns .u64 x1,.r (.bool b2),.ns .u64 x2,.r (.bool b3),.ns .u64 x3],.fn 50 []]=>Cn b0 x0/\Cn b1 x1/\Cn b2 x2/\Cn b3 x3
  |_=>False
 res
  |[.sl 2 4 [.r (.bool b0),.ns .u64 x0,.r (.bool b1),.ns .u64 x1,.r (.bool b2),.ns .u64 x2,.r (.bool b3),.ns .u64 x3],.fn 50 []]=>zi (kp (kp (kp (zv b0 x0) (zv b1 x1)) (zv b2 x2)) (zv b3 x3))
  |_=>.any
theorem OO:aj a0c 231 ae5:=by
 refine sz λargs hp=>?_
 split at hp;rotate_left;cases hp;rename_i b0 x0 b1 x1 b2 x2 b3 x3;obtain⟨h0,h1,h2,h3⟩:=hp;obtain⟨z0,e0,f0,g0,B0⟩:=h0.of;obtain⟨z1,e1,f1,g1,B1⟩:=h1.of;obtain⟨z2,e2,f2,g2,B2⟩:=h2.of;obtain⟨z3,e3,f3,g3,B3⟩:=h3.of;rw[g0,g1,g2,g3];subst e0 f0 e1 f1 e2 f2 e3 f3;clear h0 g0 h1 g1 h2 g2 h3 g3;have hE:=di tR;obtain⟨m1,ab⟩:=nm (kp z0 z1);obtain⟨m2,af⟩:=nm (kp m1 z2);obtain⟨m3,ao⟩:=nm (kp m2 z3);have C1:Bz 30000 m1:=ab▸ya B0 B1;have C2:Bz 30000 m2:=af▸ya C1 B2;have C3:Bz 30000 m3:=ao▸ya C2 B3;rw[ab,af,ao];obtain⟨o0,aw⟩:=B0.lz f';obtain⟨o1,ax⟩:=B1.lz f';obtain⟨o2,ay⟩:=B2.lz f';obtain⟨o3,a0⟩:=B3.lz f';obtain⟨p1,a1⟩:=C1.lz f';obtain⟨p2,a3⟩:=C2.lz f';obtain⟨p3,a4⟩:=C3.lz f';refine aB func231 ntmps231 ?_;refine aK ?_;refine ai.loop (ι:={i:Nat // i<4}) (λi=>⟨[(0,.sl 2 4 [decide (z0<0),dg z0.natAbs,decide (z1<0),dg z1.natAbs,decide (z2<0),dg z2.natAbs,decide (z3<0),dg z3.natAbs]),(1,.fn 50 []),(4,.ptr 4 0),(5,.ptr 5 0),(6,((i.1:Int)+1:Int))],[(4,⟨Z',.c [a0a,.ns .u64 []]⟩),(5,⟨Z',.c [decide (yP z0 m1 m2 m3 i.1<0),dg (yP z0 m1 m2 m3 i.1).natAbs]⟩)]⟩) (λi=>3-i.1) ⟨0,p'⟩ (Le.mk a0b) ?_;rintro⟨i,hi⟩;obtain rfl|rfl|rfl|rfl:i=0\/i=1\/i=2\/i=3:=f'
 all_goals dsimp only[yP]
 .by_cases hc:z0<z1
  .have e:z1=m1:=by rw[<-ab];unfold kp;rw[au hc]
   refine an (ye.2 hc) ?_;exact⟨⟨1,p'⟩,Le.mk e,p'⟩
  .have e:z0=m1:=by rw[<-ab];unfold kp;rw[aq hc]
   refine an (show¬0<dc z1 z0 from λh=>hc (ye.1 h)) ?_;exact⟨⟨1,p'⟩,Le.mk e,p'⟩
 .by_cases hc:m1<z2
  .have e:z2=m2:=by rw[<-af];unfold kp;rw[au hc]
   refine an (ye.2 hc) ?_;exact⟨⟨2,p'⟩,Le.mk e,p'⟩
  .have e:m1=m2:=by rw[<-af];unfold kp;rw[aq hc]
   refine an (show¬0<dc z2 m1 from λh=>hc (ye.1 h)) ?_;exact⟨⟨2,p'⟩,Le.mk e,p'⟩
 .by_cases hc:m2<z3
  .have e:z3=m3:=by rw[<-ao];unfold kp;rw[au hc]
   refine an (ye.2 hc) ?_;exact⟨⟨3,p'⟩,Le.mk e,p'⟩
  .have e:m2=m3:=by rw[<-ao];unfold kp;rw[aq hc]
   refine an (show¬0<dc z3 m2 from λh=>hc (ye.1 h)) ?_;exact⟨⟨3,p'⟩,Le.mk e,p'⟩
 .refine aK ?_
  exact pL
end
@[push_cast] def aev:Sp where
 kind:=0
 pre
  |[.agg [.r (.bool b),.ns .u64 x],.agg [.r (.bool c),.ns .u64 y],.vp [.r (.bool _),.ns .u64 _,.r (.bool _),.ns .u64 _,.r (.int .i64 q)]]=>(Lm x/\x.length<61)/\(Lm y/\y.length<61)/\0<=q/\q<=2048
  |_=>False
 res
  |[.agg [.r (.bool b),.ns .u64 x],.agg [.r (.bool c),.ns .u64 y],.vp [.r (.bool _),.ns .u64 _,.r (.bool _),.ns .u64 _,.r (.int .i64 q)]]=>zi ((zv b x*2^q.toNat).fdiv (zv c y))
  |_=>.any
theorem abm:aj a0c 239 aev:=by
 refine sz λargs hp=>?_
 split at hp;rotate_left;cases hp;rename_i b x c y b1 x1 b2 x2 q;obtain⟨⟨hx,ao⟩,⟨hy,aw⟩,q1,q2⟩:=hp;have hE:=iZ oY vk Js;have bX:=dN (b:=b) hx (k:=61) f';have bY:=dN (b:=c) hy (k:=61) f';have af:sh q=q.toNat:=ia q1 f';have z1:=bX.shl (sh q);have hq:sh q<=2048:=by rw[af];omega
 rw[<-af];obtain⟨A,hA⟩:=nm (zv b x*2^sh q);rw[hA]at z1|-;obtain⟨B,hB⟩:=nm (-A);have z2:=z1.neg;rw[hB]at z2;obtain⟨Y,hY⟩:=nm (zv c y);rw[hY]at bY|-;obtain⟨C,hC⟩:=nm (-((-B).fdiv Y));have ab:-B=A:=f';have z3:Bz (64*61+sh q+1) C:=by
  rw[<-hC,ab];refine Bz.neg ?_;refine Bz.mono (a:=64*61+sh q) ?_ f';exact kO (by have:=J4 A Y;exact this) z1
 obtain⟨o1,ax⟩:=z1.lz f';obtain⟨o2,ay⟩:=z2.D3 f';obtain⟨o3,a0⟩:=z3.lz f';refine aB func239 ntmps239 ?_;refine aT ?_;refine aG [(3,3),(4,4)] [(6,10)] [] (A4 hA hB hY hC) ?_;refine aO.mk a0b ?_;have:-C=A.fdiv Y:=by rw[<-hC,ab];omega
 rw[<-this]
 rfl
@[push_cast] def aew:Sp where
 kind:=0
 pre
  |[.agg [.r (.bool b),.ns .u64 x],.agg [.r (.bool c),.ns .u64 y],.vp [.r (.bool _),.ns .u64 _,.r (.bool _),.ns .u64 _,.r (.int .i64 q)]]=>(Lm x/\x.length<61)/\(Lm y/\y.length<61)/\0<=q/\q<=2048
  |_=>False
 res
  |[.agg [.r (.bool b),.ns .u64 x],.agg [.r (.bool c),.ns .u64 y],.vp [.r (.bool _),.ns .u64 _,.r (.bool _),.ns .u64 _,.r (.int .i64 q)]]=>zi (-((-(zv b x*2^q.toNat)).fdiv (zv c y)))
  |_=>.any
theorem abn:aj a0c 240 aew:=by
 refine sz λargs hp=>?_
 split at hp;rotate_left;cases hp;rename_i b x c y b1 x1 b2 x2 q;obtain⟨⟨hx,af⟩,⟨hy,ao⟩,q1,q2⟩:=hp;have hE:=iZ oY vk Js;have bX:=dN (b:=b) hx (k:=61) f';have bY:=dN (b:=c) hy (k:=61) f';have ab:sh q=q.toNat:=ia q1 f';have z1:=bX.shl (sh q);have hq:sh q<=2048:=by rw[ab];omega
 rw[<-ab];obtain⟨A,hA⟩:=nm (zv b x*2^sh q);rw[hA]at z1|-;obtain⟨Y,hY⟩:=nm (zv c y);rw[hY]at bY|-;obtain⟨C,hC⟩:=nm (-((-A).fdiv Y));rw[hC];obtain⟨o1,aw⟩:=z1.D3 f';refine aB func240 ntmps240 ?_;refine aT ?_;refine aG [(3,3),(4,4)] [(6,9)] [] (A3 hA hY hC) ?_;exact pL
def dq(g:Nat)(q X Y:Int):Int:=if g=239 then(X*2^q.toNat).fdiv Y else -((-(X*2^q.toNat)).fdiv Y)
def kC(a b c d:Int):Int:=ko (ko (ko a b) c) d
def kD(a b c d:Int):Int:=kp (kp (kp a b) c) d
theorem CY{n:Nat}{g:Nat}{q X Y:Int}(h:Bz n X)(hq:q<=2048):Bz (n+2048) (dq g q X Y):=by
 have z:Bz (n+2048) (X*2^q.toNat):=(h.shl _).mono f';unfold dq;split
 .exact kO (J4 _ _) z
 .exact Bz.neg (kO (J4 _ _) z.neg)
@[push_cast] def adf:Sp where
 kind:=0
 pre
  |[.agg [.r (.bool b0),.ns .u64 x0,.r (.bool b1),.ns .u64 x1,.r (.int .i64 q)],.agg [.r (.bool b2),.ns .u64 x2,.r (.bool b3),.ns .u64 x3,.r (.int .i64 p)],.fn 147 []]=>(dp b0 x0 b1 x1 q/\dp b2 x2 b3 x3 p)
  |_=>False
 res
  |[.agg [.r (.bool b0),.ns .u64 x0,.r (.bool b1),.ns .u64 x1,.r (.int .i64 q)],.agg [.r (.bool b2),.ns .u64 x2,.r (.bool b3),.ns .u64 x3,.r (.int .i64 p)],.fn 147 []]=>.aU [zi (kC ((zv b0 x0)*(zv b2 x2)) ((zv b0 x0)*(zv b3 x3)) ((zv b1 x1)*(zv b2 x2)) ((zv b1 x1)*(zv b3 x3))),zi (kD ((zv b0 x0)*(zv b2 x2)) ((zv b0 x0)*(zv b3 x3)) ((zv b1 x1)*(zv b2 x2)) ((zv b1 x1)*(zv b3 x3)))]
  |_=>.any
theorem VF:aj a0c 229 adf:=by
 refine sz λargs hp=>?_
 split at hp;rotate_left;cases hp;rename_i b0 x0 b1 x1 q b2 x2 b3 x3 p;obtain⟨⟨⟨h0,ab⟩,⟨h1,af⟩,_,q1,q2⟩,⟨⟨h2,ao⟩,⟨h3,aw⟩,_,p1,p2⟩⟩:=hp;have hE:=iZ zA OQ OO;have B0:=dN (b:=b0) h0 (k:=60) f';have B1:=dN (b:=b1) h1 (k:=60) f';have B2:=dN (b:=b2) h2 (k:=60) f';have B3:=dN (b:=b3) h3 (k:=60) f';obtain⟨X0,e0⟩:=nm (zv b0 x0);obtain⟨X1,e1⟩:=nm (zv b1 x1);obtain⟨Y0,e2⟩:=nm (zv b2 x2);obtain⟨Y1,e3⟩:=nm (zv b3 x3);rw[e0,e1,e2,e3];rw[e0]at B0;rw[e1]at B1;rw[e2]at B2;rw[e3]at B3;have C0:Bz 30000 ((X0*Y0)):=(B0.mul B2).mono f';obtain⟨W0,w0⟩:=nm ((X0*Y0));have C1:Bz 30000 ((X0*Y1)):=(B0.mul B3).mono f';obtain⟨W1,w1⟩:=nm ((X0*Y1));have C2:Bz 30000 ((X1*Y0)):=(B1.mul B2).mono f';obtain⟨W2,w2⟩:=nm ((X1*Y0));have C3:Bz 30000 ((X1*Y1)):=(B1.mul B3).mono f';obtain⟨W3,w3⟩:=nm ((X1*Y1));rw[w0,w1,w2,w3];rw[w0]at C0;have n0:=uv W0 C0;rw[w1]at C1;have n1:=uv W1 C1;rw[w2]at C2;have n2:=uv W2 C2;rw[w3]at C3;have n3:=uv W3 C3;unfold kC kD;refine aB func229 ntmps229 ?_;refine aT ?_;refine aG [(3,3),(4,4)] [] [(10,1,3),(12,3,4),(16,7,3),(18,9,4),(22,13,3),(24,15,4),(28,19,3),(30,21,4)] (A8 e0 e1 e2 e3 w0 w1 w2 w3) ?_;exact pL
@[push_cast] def ade:Sp where
 kind:=0
 pre
  |[.agg [.r (.bool b0),.ns .u64 x0,.r (.bool b1),.ns .u64 x1,.r (.int .i64 q)],.agg [.r (.bool b2),.ns .u64 x2,.r (.bool b3),.ns .u64 x3,.r (.int .i64 p)],.fn g [.vp [.r (.bool b4),.ns .u64 x4,.r (.bool b5),.ns .u64 x5,.r (.int .i64 r)]]]=>(dp b0 x0 b1 x1 q/\dp b2 x2 b3 x3 p)/\(g=239\/g=240)/\0<=r/\r<=2048
  |_=>False
 res
  |[.agg [.r (.bool b0),.ns .u64 x0,.r (.bool b1),.ns .u64 x1,.r (.int .i64 q)],.agg [.r (.bool b2),.ns .u64 x2,.r (.bool b3),.ns .u64 x3,.r (.int .i64 p)],.fn g [.vp [.r (.bool b4),.ns .u64 x4,.r (.bool b5),.ns .u64 x5,.r (.int .i64 r)]]]=>.aU [zi (kC (dq g r (zv b0 x0) (zv b2 x2)) (dq g r (zv b0 x0) (zv b3 x3)) (dq g r (zv b1 x1) (zv b2 x2)) (dq g r (zv b1 x1) (zv b3 x3))),zi (kD (dq g r (zv b0 x0) (zv b2 x2)) (dq g r (zv b0 x0) (zv b3 x3)) (dq g r (zv b1 x1) (zv b2 x2)) (dq g r (zv b1 x1) (zv b3 x3)))]
  |_=>.any
theorem VE:aj a0c 229 ade:=by
 refine sz λargs hp=>?_
 split at hp;rotate_left;cases hp;rename_i b0 x0 b1 x1 q b2 x2 b3 x3 p g b4 x4 b5 x5 r;obtain⟨⟨⟨⟨h0,ab⟩,⟨h1,af⟩,_,q1,q2⟩,⟨⟨h2,ao⟩,⟨h3,aw⟩,_,p1,p2⟩⟩,hg,r1,r2⟩:=hp;have hE:=nZ abm abn OQ OO;have B0:=dN (b:=b0) h0 (k:=60) f';have B1:=dN (b:=b1) h1 (k:=60) f';have B2:=dN (b:=b2) h2 (k:=60) f';have B3:=dN (b:=b3) h3 (k:=60) f';obtain⟨X0,e0⟩:=nm (zv b0 x0);obtain⟨X1,e1⟩:=nm (zv b1 x1);obtain⟨Y0,e2⟩:=nm (zv b2 x2);obtain⟨Y1,e3⟩:=nm (zv b3 x3);rw[e0,e1,e2,e3];rw[e0]at B0;rw[e1]at B1;rw[e2]at B2;rw[e3]at B3;have C0:Bz 30000 (dq g r X0 Y0):=(CY B0 r2).mono f';obtain⟨W0,w0⟩:=nm (dq g r X0 Y0);have C1:Bz 30000 (dq g r X0 Y1):=(CY B0 r2).mono f';obtain⟨W1,w1⟩:=nm (dq g r X0 Y1);have C2:Bz 30000 (dq g r X1 Y0):=(CY B1 r2).mono f';obtain⟨W2,w2⟩:=nm (dq g r X1 Y0);have C3:Bz 30000 (dq g r X1 Y1):=(CY B1 r2).mono f';obtain⟨W3,w3⟩:=nm (dq g r X1 Y1);rw[w0,w1,w2,w3];rw[w0]at C0;have n0:=uv W0 C0;rw[w1]at C1;have n1:=uv W1 C1;rw[w2]at C2;have n2:=uv W2 C2;rw[w3]at C3;have n3:=uv W3 C3;unfold kC kD;rcases hg with rfl|rfl
 .have v0:(X0*2^r.toNat).fdiv Y0=W0:=by rw[<-w0];rfl
  have v1:(X0*2^r.toNat).fdiv Y1=W1:=by rw[<-w1];rfl
  have v2:(X1*2^r.toNat).fdiv Y0=W2:=by rw[<-w2];rfl
  have v3:(X1*2^r.toNat).fdiv Y1=W3:=by rw[<-w3];rfl
  clear w0 w1 w2 w3 C0 C1 C2 C3 B0 B1 B2 B3;refine aB func229 ntmps229 ?_;refine aT ?_;refine aG [(3,3),(4,4)] [] [(10,1,3),(12,3,4),(16,7,3),(18,9,4),(22,13,3),(24,15,4),(28,19,3),(30,21,4)] (A8 e0 e1 e2 e3 v0 v1 v2 v3) ?_;exact pL
 .have v0:-((-(X0*2^r.toNat)).fdiv Y0)=W0:=by rw[<-w0];rfl
  have v1:-((-(X0*2^r.toNat)).fdiv Y1)=W1:=by rw[<-w1];rfl
  have v2:-((-(X1*2^r.toNat)).fdiv Y0)=W2:=by rw[<-w2];rfl
  have v3:-((-(X1*2^r.toNat)).fdiv Y1)=W3:=by rw[<-w3];rfl
  clear w0 w1 w2 w3 C0 C1 C2 C3 B0 B1 B2 B3;refine aB func229 ntmps229 ?_;refine aT ?_;refine aG [(3,3),(4,4)] [] [(10,1,3),(12,3,4),(16,7,3),(18,9,4),(22,13,3),(24,15,4),(28,19,3),(30,21,4)] (A8 e0 e1 e2 e3 v0 v1 v2 v3) ?_;exact pL
@[push_cast] def acR:Sp:=rR 0 (λb x c y q d u e v p=>(dp b x c y q/\dp d u e v p/\q=p)/\(x.length<30/\y.length<30/\u.length<30/\v.length<30))
 (λb x c y q d u e v _=>.aU [ba (iM (kC ((zv b x)*(zv d u)) ((zv b x)*(zv e v)) ((zv c y)*(zv d u)) ((zv c y)*(zv e v))) q) (lF (kD ((zv b x)*(zv d u)) ((zv b x)*(zv e v)) ((zv c y)*(zv d u)) ((zv c y)*(zv e v))) q) q,(0:Int)])
theorem UH:aj a0c 228 acR:=by
 refine aj.AA λb x c y q d u e v p⟨⟨h1,h2,h3⟩,l1,l2,l3,l4⟩=>?_
 have k1:=h1;have k2:=h2;obtain⟨⟨hx,af⟩,⟨hy,ao⟩,_,q1,q2⟩:=k1;obtain⟨⟨hu,og⟩,⟨hv,ab⟩,_,_,_⟩:=k2;have hE:=nZ IB VF CP Gx;have B0:=dN (b:=b) hx (k:=29) f';have B1:=dN (b:=c) hy (k:=29) f';have B2:=dN (b:=d) hu (k:=29) f';have B3:=dN (b:=e) hv (k:=29) f';obtain⟨X0,e0⟩:=nm (zv b x);obtain⟨X1,e1⟩:=nm (zv c y);obtain⟨Y0,e2⟩:=nm (zv d u);obtain⟨Y1,e3⟩:=nm (zv e v);rw[e0,e1,e2,e3];rw[e0]at B0;rw[e1]at B1;rw[e2]at B2;rw[e3]at B3;have z1:Bz (64*29+64*29) (kC (X0*Y0) (X0*Y1) (X1*Y0) (X1*Y1)):=xZ (xZ (xZ (B0.mul B2) (B0.mul B3)) (B1.mul B2)) (B1.mul B3);have z2:Bz (64*29+64*29) (kD (X0*Y0) (X0*Y1) (X1*Y0) (X1*Y1)):=ya (ya (ya (B0.mul B2) (B0.mul B3)) (B1.mul B2)) (B1.mul B3);obtain⟨N,eN⟩:=nm (kC (X0*Y0) (X0*Y1) (X1*Y0) (X1*Y1));obtain⟨M,eM⟩:=nm (kD (X0*Y0) (X0*Y1) (X1*Y0) (X1*Y1));rw[eN]at z1;rw[eM]at z2;obtain⟨o1,aw⟩:=z1.lz f';obtain⟨o2,ax⟩:=z2.dB f';rw[eN,eM];obtain⟨L,eL⟩:=nm (iM N q);obtain⟨H,eH⟩:=nm (lF M q);rw[eL,eH];refine aB func228 ntmps228 ?_;refine aT ?_;refine ai.seq ?_;refine ig ?_;refine aF ?_;refine cy (A6 e0 e1 e2 e3 eN eM) ?_;refine aG [(6,6),(2,2),(7,7),(4,4)] [] [(20,1,2),(24,5,2),(27,8,2)] (A2 eL eH) ?_;exact pL
end Go.Hl
