/- Lemmas for TopSound and TopBracket. -/
import Derived.Test.YtpgglolpkbepjaaGreatTAR
set_option linter.unusedVariables false
set_option linter.unusedSimpArgs false
namespace Go.Hl
open Option renaming some→T',none→Y'
open Bool renaming true→Z',false→a0a
section
variable {Y f w:Nat}
def xX(w Y:Nat):Int:=(Y:Int)*2^(w-116)
def xM(w Y:Nat):Int:=(Y:Int)*2^(w-Y.log2)
def xE(Y:Nat):Int:=(Y.log2:Int)-116
def me(w:Nat)(X k:Int):Int×Int:=
 let p:=if k%2=1 then na w (dW w X)else nd w (dW w X)
 if k/2%2=1 then ju p (-1)else p
def gI(f w Y:Nat):(Int×Int)×Int:=
 match f with
 |0=>(rj w (xX w Y),eT w (xX w Y))
 |1=>(sI w (xX w (Y%2^116)),((Y/2^116:Nat):Int))
 |2=>(ql w (xM w Y) (xE Y),0)
 |3=>(qm w (xM w Y) (xE Y),0)
 |4=>(me w (xX w Y) (fZ w (xX w Y)),0)
 |_=>(me w (xX w Y) (fZ w (xX w Y)+1),0)
def cD(f q Y:Nat):(Int×Int)×Int:=(pX (gI f (q+40) Y).1 40,(gI f (q+40) Y).2)
def vh(N:Nat)(r:Rat)(k:Int):Rat:=
 let v:=if k%2=1 then fm N r else fk N r
 if k/2%2=1 then -v else v
def kS(H Y:Nat):Int:=((Y*2^124/H:Nat):Int)
def tP(N f Y:Nat)(kl kh:Int):Rat:=
 let x:=(Y:Rat)/2^116
 let m:=(Y:Rat)/2^Y.log2
 match f with
 |0=>gQ N (x-(kl:Rat)*fM N)
 |1=>gQ N (((Y%2^116:Nat):Rat)/2^116*fM N)
 |2=>2*fE N ((m-1)/(m+1))+(xE Y:Rat)*fM N
 |3=>2*fE N ((m-1)/(m+1))/fM N+(xE Y:Rat)
 |4=>vh N (x-(kh:Rat)*(oF N/2)) kh
 |_=>vh N (x-(kh:Rat)*(oF N/2)) (kh+1)
def uL(f Y:Nat)(kl:Int):Int:=
 match f with
 |0=>kl
 |1=>((Y/2^116:Nat):Int)
 |_=>0
def zq(N f Y:Nat):Rat:=tP N f Y (kS qJ Y) (kS mj Y)
def Bc(f Y:Nat):Int:=uL f Y (kS qJ Y)
theorem An(hw:116<=w){x:Rat}(hx:x*2^116=(Y:Rat)):x*2^w=(xX w Y:Rat):=by
 rw[xX,cg,qp,cV,<-hx];have:(2:Rat)^w=2^116*2^(w-116):=by rw[<-kF];congr 1;omega
 rw[this];grind
theorem Oj(hw:200<=w)(ab:w<=900)(hY:Y<=2^126):eT w (xX w Y)=kS qJ Y:=by
 have hx:(Y:Rat)/2^116*2^116=(Y:Rat):=iy (by have:=two_pos 116;grind);obtain⟨l1,l2,l3,l4⟩:=pK ab;have li:=uQ (q:=w) ab 400 f';have af:=uQ (q:=240) f' 400 f';rw[Z5]at af;have hp:=cf w;refine Qj af.1 p' Z6 hw li.1.2 ?_ f' hx ?_ _ (An f' hx)
 .have:=cj.2 l2
  rw[jG,sN]at this;have:=li.1.1
  grind
 .have:Y*2^124<=2^126*2^124:=jD _ hY
  exact fC (Kv this) p'
theorem DM(hw:200<=w)(ab:w<=900)(hY:Y<=2^126):fZ w (xX w Y)=kS mj Y:=by
 have hx:(Y:Rat)/2^116*2^116=(Y:Rat):=iy (by have:=two_pos 116;grind);obtain⟨l1,l2,l3,l4⟩:=Hw ab;have li:=Dv (w:=w) ab 400 f';have af:=Dv (w:=240) f' 400 f';rw[YX]at af;have hp:=cf w;refine Qj af.1 p' YY hw li.1.2 ?_ f' hx ?_ _ (An f' hx)
 .have:=cj.2 l2
  rw[jG,sN]at this;have:=li.1.1
  grind
 .have:Y*2^124<=2^126*2^124:=jD _ hY
  exact fC (Kv this) p'
theorem R6(hw:200<=w)(ab:w<=900)(hY:Y<=2^126)(N:Nat)(hN:mB N)(k:Int):
 aW w (me w (xX w Y) k) (vh N ((Y:Rat)/2^116-(kS mj Y:Rat)*(oF N/2)) k)/\(me w (xX w Y) k).2-(me w (xX w Y) k).1<=2^40:=by
 have hx:(Y:Rat)/2^116*2^116=(Y:Rat):=iy (by have:=two_pos 116;grind);have hX:=An (w:=w) f' hx;have X0:0<=xX w Y:=dP f' (bo (cf _));have X1:xX w Y<=1024*2^w:=by
  have e:(2:Int)^w=2^116*2^(w-116):=by rw[<-gk];congr 1;omega
  have h1:(Y:Int)<=2^126:=by exact_mod_cast hY
  have:=gj h1 (bo (cf (w-116)));rw[e];unfold xX;generalize(2:Int)^(w-116)=V at*;omega
 obtain⟨r1,r2,r3,r4,r5,r6⟩:=IY f' ab hX X0 X1 N (by have:=hN.1;omega);rw[DM hw ab hY]at r1;have s:=QZ (a:=(dW w (xX w Y)).1) (b:=(dW w (xX w Y)).2) ab r4 r5 r6 r1 N hN;have c:=Mt (a:=(dW w (xX w Y)).1) (b:=(dW w (xX w Y)).2) f' ab r4 r5 r6 r1 N hN;have neg:∀(p:Int×Int)(v:Rat),aW w p v->p.2-p.1<=2^40->aW w (ju p (-1)) (-v)/\(ju p (-1)).2-(ju p (-1)).1<=2^40:=by
  intro p v h1 h2;have e:=HN h1 (-1);have e1:(((-1:Int)):Rat)*v=-v:=by have:((-1:Int):Rat)=-1:=rfl;rw[this];grind
  rw[e1]at e;refine⟨e,?_⟩;unfold ju;rw[au p'];simp only;omega
 unfold me vh
 by_cases h1:k%2=1
 .simp only[au h1]
  by_cases h2:k/2%2=1
  .simp only[au h2];exact neg _ _ c.1 c.2
  .simp only[aq h2];exact c
 .simp only[aq h1]
  by_cases h2:k/2%2=1
  .simp only[au h2];exact neg _ _ s.1 s.2
  .simp only[aq h2];exact s
theorem tC(hY:0<Y)(ao:Y<2^126)(hw:200<=w):
 (Y:Rat)/2^Y.log2*2^w=(xM w Y:Rat)/\2^w<=xM w Y/\xM w Y<=2*2^w/\-116<=xE Y/\xE Y<=10:=by
 have h1:=Cz (show Y≠0 from f');have h2:=FO (n:=Y);have hu:Y.log2<=125:=by
  rcases dQ 125 Y.log2 with h|h
  .have:=lC (n:=2) p' h
   omega
  .exact h
 unfold xM xE;generalize Y.log2=u at*;have e:(2:Rat)^w=2^u*2^(w-u):=by rw[<-kF];congr 1;omega
 have eI:(2:Int)^w=2^u*2^(w-u):=by rw[<-gk];congr 1;omega
 have hd:(Y:Rat)/2^u*2^u=(Y:Rat):=iy (by have:=two_pos u;grind);have ab:(2:Int)^u<=(Y:Int):=by exact_mod_cast h1
 have af:(Y:Int)<=2*2^u:=by
  rw[gH]at h2;have:(Y:Int)<2^u*2:=by exact_mod_cast h2
  omega
 have m1:=gj ab (bo (cf (w-u)));have m2:=gj af (bo (cf (w-u)));refine⟨?_,?_,?_,f',f'⟩
 .rw[cg,qp,cV,e]
  have:(Y:Rat)/2^u*(2^u*2^(w-u))=(Y:Rat)/2^u*2^u*2^(w-u):=E';rw[this,hd]
 .rw[eI];exact m1
 .rw[eI,<-mW];exact m2
theorem TB(w Y:Nat):gI 0 w Y=(rj w (xX w Y),eT w (xX w Y)):=rfl
theorem TC(w Y:Nat):gI 1 w Y=(sI w (xX w (Y%2^116)),((Y/2^116:Nat):Int)):=rfl
theorem TD(w Y:Nat):gI 2 w Y=(ql w (xM w Y) (xE Y),0):=rfl
theorem TE(w Y:Nat):gI 3 w Y=(qm w (xM w Y) (xE Y),0):=rfl
theorem TF(w Y:Nat):gI 4 w Y=(me w (xX w Y) (fZ w (xX w Y)),0):=rfl
theorem TG(n w Y:Nat):gI (n+5) w Y=(me w (xX w Y) (fZ w (xX w Y)+1),0):=rfl
theorem RS(N Y:Nat)(kl kh:Int):tP N 0 Y kl kh=gQ N ((Y:Rat)/2^116-(kl:Rat)*fM N):=rfl
theorem RT(N Y:Nat)(kl kh:Int):tP N 1 Y kl kh=gQ N (((Y%2^116:Nat):Rat)/2^116*fM N):=rfl
theorem RU(N Y:Nat)(kl kh:Int):tP N 2 Y kl kh=2*fE N (((Y:Rat)/2^Y.log2-1)/((Y:Rat)/2^Y.log2+1))+(xE Y:Rat)*fM N:=rfl
theorem RW(N Y:Nat)(kl kh:Int):tP N 3 Y kl kh=2*fE N (((Y:Rat)/2^Y.log2-1)/((Y:Rat)/2^Y.log2+1))/fM N+(xE Y:Rat):=rfl
theorem RX(N Y:Nat)(kl kh:Int):tP N 4 Y kl kh=vh N ((Y:Rat)/2^116-(kh:Rat)*(oF N/2)) kh:=rfl
theorem RY(n N Y:Nat)(kl kh:Int):tP N (n+5) Y kl kh=vh N ((Y:Rat)/2^116-(kh:Rat)*(oF N/2)) (kh+1):=rfl
theorem Oa(Y:Nat)(kl:Int):uL 0 Y kl=kl:=rfl
theorem Ob(Y:Nat)(kl:Int):uL 1 Y kl=((Y/2^116:Nat):Int):=rfl
theorem Oc(Y:Nat)(kl:Int):uL 2 Y kl=0:=rfl
theorem Od(Y:Nat)(kl:Int):uL 3 Y kl=0:=rfl
theorem Oe(Y:Nat)(kl:Int):uL 4 Y kl=0:=rfl
theorem Of(n Y:Nat)(kl:Int):uL (n+5) Y kl=0:=rfl
theorem Ey{m:Rat}(h:m+1≠0):(m-1)/(m+1)*(m+1)=m-1:=iy h
theorem Ws:(2:Int)^126=1024*2^116:=M'
theorem Zx{Y V:Int}(h1:Y<=2^126)(hV:0<=V):Y*V<=1024*(2^116*V):=by
 rw[Ws]at h1;have:=gj h1 hV;rw[mW]at this;exact this
theorem B4(hw:200<=w)(af:Y<2^126):(Y:Rat)/2^116*2^w=(xX w Y:Rat)/\0<=xX w Y/\xX w Y<=1024*2^w:=by
 have hx:(Y:Rat)/2^116*2^116=(Y:Rat):=iy (by have:=two_pos 116;grind);refine⟨An (w:=w) f' hx,dP f' (bo (cf _)),?_⟩;have ab:(2:Int)^w=2^116*2^(w-116):=by rw[<-gk];congr 1;omega
 have h1:(Y:Int)<=2^126:=by exact_mod_cast (kt af)
 rw[ab];unfold xX;exact Zx h1 (bo (cf (w-116)))
def nL(N f w Y:Nat)(kl kh:Int):Prop:=aW w (gI f w Y).1 (tP N f Y kl kh)/\(gI f w Y).1.2-(gI f w Y).1.1<=2^40/\(gI f w Y).2=uL f Y kl
theorem Uc(hw:200<=w)(af:w<=900)(ab:Y<2^126)(N:Nat)(hN:mB N):nL N 0 w Y (kS qJ Y) (kS mj Y):=by
 obtain⟨hX,X0,X1⟩:=B4 hw ab;have r:=Hb f' af hX X0 X1 N (by have:=hN.1;omega);have k:=Oj hw af (kt ab);rw[k]at r;unfold nL;rw[TB,RS,Oa];exact⟨r.1,r.2.1,k⟩
theorem Ud(hw:200<=w)(ao:w<=900)(N:Nat)(hN:mB N)(kl kh:Int):nL N 1 w Y kl kh:=by
 have ab:Y%2^116<2^116:=ph _ p';unfold nL;rw[TC,RT,Ob];generalize Y%2^116=Z at ab|-;generalize((Y/2^116:Nat):Int)=K;have hr:(Z:Rat)/2^116*2^116=(Z:Rat):=iy (by have:=two_pos 116;grind);have af:(2:Int)^w=2^116*2^(w-116):=by rw[<-gk];congr 1;omega
 have hZ:xX w Z<=2^w:=by
  have h1:(Z:Int)<=2^116:=by exact_mod_cast (kt ab)
  rw[af];exact gj h1 (bo (cf (w-116)))
 have r:=Xm (X:=xX w Z) f' ao (An (w:=w) f' hr) (dP f' (bo (cf _))) hZ N (by have:=hN.1;omega);exact⟨r.1,r.2.1,rfl⟩
theorem Ea(hY:0<Y)(ab:Y<2^126)(hw:200<=w):(Y:Rat)/2^Y.log2+1≠0:=by
 obtain⟨mb,m1,_⟩:=tC hY ab hw;have:0<=(Y:Rat)/2^Y.log2:=yu mb (by have:=cf w;omega)
 grind
theorem Ue(hw:200<=w)(af:w<=900)(hY:0<Y)(ab:Y<2^126)(N:Nat)(hN:mB N)(kl kh:Int):nL N 2 w Y kl kh:=by
 obtain⟨mb,m1,m2,E1,E2⟩:=tC hY ab hw;have r:=aa2 (e:=xE Y) f' af mb m1 m2 (Ey (Ea hY ab hw)) f' f' N (by have:=hN.1;omega);unfold nL;rw[TD,RU,Oc];exact⟨r.1,r.2,rfl⟩
theorem Uf(hw:200<=w)(af:w<=900)(hY:0<Y)(ab:Y<2^126)(N:Nat)(hN:mB N)(kl kh:Int):nL N 3 w Y kl kh:=by
 obtain⟨mb,m1,m2,E1,E2⟩:=tC hY ab hw;have lb:=uP N (by have:=hN.1;omega);have l0:fM N≠0:=by intro e;rw[e]at lb;grind
 have r:=OG (e:=xE Y) f' af mb m1 m2 (Ey (Ea hY ab hw)) N (by have:=hN.1;omega) (iy l0);unfold nL;rw[TE,RW,Od];exact⟨r.1,r.2.1,rfl⟩
theorem Ug(hw:200<=w)(af:w<=900)(ab:Y<2^126)(N:Nat)(hN:mB N):nL N 4 w Y (kS qJ Y) (kS mj Y):=by
 have r:=R6 hw af (kt ab) N hN (kS mj Y);have k:=DM hw af (kt ab);unfold nL;rw[TF,k];generalize kS mj Y=kh at r|-;rw[RX,Oe];exact⟨r.1,r.2,rfl⟩
theorem Uh(n:Nat)(hw:200<=w)(af:w<=900)(ab:Y<2^126)(N:Nat)(hN:mB N):nL N (n+5) w Y (kS qJ Y) (kS mj Y):=by
 have r:=R6 hw af (kt ab) N hN (kS mj Y+1);have k:=DM hw af (kt ab);unfold nL;rw[TG,k];generalize kS mj Y=kh at r|-;rw[RY,Of];exact⟨r.1,r.2,rfl⟩
theorem Lr(hw:200<=w)(ab:w<=900)(hY:0<Y)(af:Y<2^126)(N:Nat)(hN:mB N):nL N f w Y (kS qJ Y) (kS mj Y):=by
 match f with
 |0=>exact Uc hw ab af N hN
 |1=>exact Ud hw ab N hN _ _
 |2=>exact Ue hw ab hY af N hN _ _
 |3=>exact Uf hw ab hY af N hN _ _
 |4=>exact Ug hw ab af N hN
 |n+5=>exact Uh n hw ab af N hN
theorem qo{q:Nat}(af:160<=q)(ao:q<=800)(hY:0<Y)(ab:Y<2^126)(N:Nat)(hN:mB N):
 aW q (cD f q Y).1 (zq N f Y)/\(cD f q Y).1.2-(cD f q Y).1.1<=2/\(cD f q Y).2=Bc f Y:=by
 obtain⟨k1,k2,k3⟩:=Lr (f:=f) (w:=q+40) f' f' hY ab N hN;unfold cD;generalize gI f (q+40) Y=A at k1 k2 k3|-;exact⟨HM k1,IM (c:=1) (by rw[nR];exact k2),k3⟩
end
section
variable {k x:Int}{T d e u z:Rat}
def iU(T x:Int):Int:=let r:=x-x/T*T;if T-r<r then T-r else r
def gK(T H lo hi:Int):Int×Int:=
 let from_:=lo-lo/T*T
 let to:=hi-lo/T*T
 let a:=iU T from_
 let b:=iU T to
 let least:=if a>b then b else a
 let most:=if a>b then a else b
 let least:=if from_=0\/T<=to then 0 else least
 let middle:=if from_>H then H+T else H
 (least,if middle<=to then H else most)
def Nr(T y d:Rat):Prop:=∃m:Int,-d<=y-(m:Rat)*T/\y-(m:Rat)*T<=d
def Fr(T y d:Rat):Prop:=∀m:Int,d<=y-(m:Rat)*T\/d<=(m:Rat)*T-y
theorem Bm{T:Int}(hT:0<T):(∃m:Int,x-m*T=iU T x\/m*T-x=iU T x)/\(∀m:Int,iU T x<=x-m*T\/iU T x<=m*T-x)/\0<=iU T x/\2*iU T x<=T:=by
 have d:=ke (a:=x) hT;rw[nN]at d;obtain⟨k,hk⟩:=nm (x/T);unfold iU;rw[hk]at d|-;simp only;have e1:(k+1)*T=k*T+T:=by rw[nN];omega
 refine⟨?_,?_,?_,?_⟩
 .split
  .exact⟨k+1,.inr f'⟩
  .exact⟨k,.inl f'⟩
 .intro m
  rcases qc k m with h|h
  .have:=gj (show k+1<=m from f') (bo hT)
   right;split<;>omega
  .have:=gj h (bo hT)
   left;split<;>omega
 .split<;>omega
 .split<;>omega
theorem OZ{T:Int}(hT:0<T):Nr (T:Rat) (x:Rat) (iU T x:Rat)/\Fr (T:Rat) (x:Rat) (iU T x:Rat):=by
 obtain⟨⟨m,hm⟩,h2,h3,_⟩:=Bm (x:=x) hT;constructor
 .refine⟨m,?_⟩
  rw[<-cg,<-iY,<-zU,cj,cj];omega
 .intro m
  have:=h2 m;rw[<-cg,<-iY,<-iY,cj,cj];exact this
theorem Pd(h:Nr T u d)(h1:-e<=z-u)(h2:z-u<=e):Nr T z (d+e):=by
 obtain⟨m,a,b⟩:=h;exact⟨m,E',E'⟩
theorem Dp(h:Fr T u d)(h1:-e<=z-u)(h2:z-u<=e):Fr T z (d-e):=by
 intro m;rcases h m with a|a
 .left;grind
 .right;grind
theorem Pf(h:Nr T (z-(k:Rat)*T) d):Nr T z d:=by
 obtain⟨m,a,b⟩:=h;refine⟨m+k,?_,?_⟩<;>rw[jG]<;>grind
theorem Hn(h:Fr T (z-(k:Rat)*T) d):Fr T z d:=by
 intro m;have:=h (m-k);rw[iY]at this;rcases this with a|a
 .left;grind
 .right;grind
theorem aaG(h:Nr T z d)(hd:d<=e):Nr T z e:=by
 obtain⟨m,a,b⟩:=h;exact⟨m,E',E'⟩
theorem XE(h:Fr T z d)(hd:e<=d):Fr T z e:=by
 intro m;rcases h m with a|a
 .left;grind
 .right;grind
theorem XF(T z:Rat):Fr T z 0:=by
 intro m;rcases xI (a:=z) (b:=(m:Rat)*T)with h|h
 .right;grind
 .left;grind
theorem No(h:Fr T z d)(k:Nr T z e):d<=e:=by
 obtain⟨m,a,b⟩:=k;rcases h m with c|c<;>grind
theorem Hm(hT:0<T)(h0:d<=z)(h1:d<=T-z):Fr T z d:=by
 intro m;rcases qc 0 m with h|h
 .right
  have:=cA (cj.2 (show(1:Int)<=m from f')) (cL hT);rw[nl]at this
  grind
 .left
  have:=cA (cj.2 h) (cL hT);have e:((0:Int):Rat)=0:=rfl;rw[e]at this
  grind
theorem aaF{H:Rat}(hT:0<T)(hH:2*H=T):Nr T z H:=by
 obtain⟨k,hk⟩:∃k:Int,k=(z/T).floor:=⟨_,rfl⟩;have e:z/T*T=z:=iy E';have a:=cA (Rat.floor_le (z/T)) (cL hT);have b:=KL (Rat.lt_floor_add_one (z/T)) hT;rw[<-hk,e]at a b;rw[jG,nl]at b;rcases xI (a:=z-(k:Rat)*T) (b:=H)with h|h
 .exact⟨k,E',h⟩
 .refine⟨k+1,?_,?_⟩<;>rw[jG,nl]<;>grind
theorem Ho{T H lo hi:Int}(hT:0<T)(hH:2*H=T)(a3:lo<=hi):
 (∀y:Rat,(lo:Rat)<=y->y<=(hi:Rat)->
  Fr (T:Rat) y ((gK T H lo hi).1:Rat)/\Nr (T:Rat) y ((gK T H lo hi).2:Rat)/\
  Nr (T:Rat) y (((gK T H lo hi).1:Rat)+((hi:Rat)-(lo:Rat)))/\Fr (T:Rat) y (((gK T H lo hi).2:Rat)-((hi:Rat)-(lo:Rat))))/\
 0<=(gK T H lo hi).1/\(gK T H lo hi).1<=(gK T H lo hi).2/\(gK T H lo hi).2<=T:=by
 have ab:=cast_pos hT;have ao:2*(H:Rat)=(T:Rat):=by rw[<-sN,<-cg,hH]
 have d:=ke (a:=lo) hT;rw[nN,nR]at d;obtain⟨k,hk⟩:=nm (lo/T);rw[hk]at d;obtain⟨f,hf⟩:=nm (lo-k*T);obtain⟨t,ht⟩:=nm (hi-k*T);have a1:f<=t:=f';have f0:0<=f:=f';have f1:f<T:=f';obtain⟨_,_,aw,ax⟩:=Bm (x:=f) hT;obtain⟨_,_,ay,a0⟩:=Bm (x:=t) hT;have ra:=OZ (x:=f) hT;have rb:=OZ (x:=t) hT;have ea:iU T f=if T-f<f then T-f else f:=by
  have:f/T=0:=Ft f0 f1;simp only[iU,this];simp
 have eb:t<T->iU T t=if T-t<t then T-t else t:=by
  intro h;have:t/T=0:=Ft f' h;simp only[iU,this];simp
 have af:T<=t->t<2*T->iU T t=if 2*T-t<t-T then 2*T-t else t-T:=by
  intro h h2;have dd:=ke (a:=t) hT;have u1:t/T<2:=lX (zI dd.1 h2) (bo hT);have u2:1<t/T+1:=lX (zI f' dd.2) (bo hT);have:t/T=1:=f';simp only[iU,this];rw[nR,show T-(t-T)=2*T-t from f']
 obtain⟨A,hA⟩:=nm (iU T f);obtain⟨B,hB⟩:=nm (iU T t);rw[hA]at ea ra aw ax;rw[hB]at eb af rb ay a0;obtain⟨L,hL⟩:=nm ((gK T H lo hi).1);obtain⟨M,hM⟩:=nm ((gK T H lo hi).2);have eL:L=if f=0\/T<=t then 0 else if A>B then B else A:=by
  rw[<-hL];simp only[gK,hk,hf,ht,hA,hB]
 have eM:M=if(if f>H then H+T else H)<=t then H else if A>B then A else B:=by
  rw[<-hM];simp only[gK,hk,hf,ht,hA,hB]
 rw[hL,hM];have hd:(hi:Rat)-(lo:Rat)=(t:Rat)-(f:Rat):=by rw[<-hf,<-ht,iY,iY];grind
 rw[hd];refine⟨λy a4 a5=>?_,?_,?_,?_⟩
 .obtain⟨z,hz⟩:=nm (y-(k:Rat)*(T:Rat))
  have z1:(f:Rat)<=z:=by rw[<-hf,<-hz,iY,cg];grind
  have z2:z<=(t:Rat):=by rw[<-ht,<-hz,iY,cg];grind
  have c0:=cj.2 f0;have e0:((0:Int):Rat)=0:=rfl;rw[e0]at c0;refine⟨Hn (k:=k) ?_,Pf (k:=k) ?_,Pf (k:=k) ?_,Hn (k:=k) ?_⟩<;>rw[hz]
  .by_cases h:f=0\/T<=t
   .rw[eL,au h];exact XF _ _
   .rw[eL,aq h]
    have hb:=eb f';refine Hm ab ?_ ?_
    .have:=cj.2 (show(if A>B then B else A)<=f by split<;>split at ea<;>omega)
     grind
    .have:=cj.2 (show(if A>B then B else A)<=T-t by split<;>split at hb<;>omega)
     rw[iY]at this
     grind
  .by_cases h:(if f>H then H+T else H)<=t
   .rw[eM,au h];exact aaF ab ao
   .rw[eM,aq h]
    by_cases h2:f>H
    .rw[au h2]at h
     have m1:=cj.2 (show T-f<=(if A>B then A else B)by split<;>split at ea<;>omega);have m2:=cj.2 (show t-T<=(if A>B then A else B)by
      rcases qc t T with h3|h3
      .have:=eb h3;split<;>omega
      .have:=af h3 f';split at this<;>split<;>omega)
     rw[iY]at m1 m2;exact⟨1,by rw[nl];grind,by rw[nl];grind⟩
    .rw[aq h2]at h
     have hb:=eb f';have m1:=cj.2 (show t<=(if A>B then A else B)by split<;>split at hb<;>omega);exact⟨0,by rw[e0];grind,by rw[e0];grind⟩
  .by_cases h:f=0\/T<=t
   .rw[eL,au h,e0]
    rcases h with h|h
    .subst h
     exact⟨0,by rw[e0];grind,by rw[e0];grind⟩
    .have m1:=cj.2 h
     have m2:=cj.2 (bo f1);exact⟨1,by rw[nl];grind,by rw[nl];grind⟩
   .rw[eL,aq h]
    split
    .exact Pd rb.1 E' E'
    .exact Pd ra.1 E' E'
  .by_cases h:(if f>H then H+T else H)<=t
   .rw[eM,au h]
    by_cases h2:f>H
    .rw[au h2]at h
     have m1:=cj.2 h;have m2:=cj.2 (show f<=H+T from f');rw[jG]at m1 m2;refine Dp (u:=(H:Rat)+(T:Rat)) ?_ E' E';refine Hn (k:=1) ?_;rw[nl];exact Hm ab E' E'
    .rw[aq h2]at h
     have m1:=cj.2 h;have m2:=cj.2 (show f<=H from f');refine Dp (u:=(H:Rat)) ?_ E' E';exact Hm ab E' E'
   .rw[eM,aq h]
    split
    .exact Dp ra.2 E' E'
    .exact Dp rb.2 E' E'
 .rw[eL];split<;>(try split)<;>omega
 .rw[eL,eM];split<;>split<;>(try split)<;>omega
 .rw[eM];split<;>(try split)<;>omega
end
section
variable {p t:Int×Int}{N Y w:Nat}{r v:Rat}
theorem NQ(h:aW w p r)(h0:0<=p.1):0<=r:=by
 have h1:=h.1;have h2:(0:Rat)<=(p.1:Rat):=Tv.2 h0;exact cO (two_pos w) (by rw[KN];exact fD h2 h1)
theorem NP(h:aW w p r)(h1:p.2<=2*2^w):r<=2:=by
 have h2:=cj.2 h1;rw[cg,cV,sN]at h2;exact cO (two_pos w) (fD h.2 h2)
theorem Rd(N:Nat)(r0:0<=r)(r2:r<=2):-900<=fk N r/\fk N r<=900:=by
 have h:=Re N (mE:(0:Rat)<=0) r0 r2;rw[Rf]at h;generalize fk N r=v at h;exact⟨E',E'⟩
theorem Mv(n:Nat)(r0:0<=r)(r2:r<=2):-900<=fm (n+1) r/\fm (n+1) r<=900:=by
 have h:=Mw (mE:(0:Rat)<=0) r0 r2 (n+1);rw[Mx]at h;have m:=fg r2 r0;generalize fm (n+1) r=v at h;exact⟨E',E'⟩
theorem Zg(hi:aW w t v)(v1:-900<=v):-900*2^w<=t.2:=by
 have ab:((-900:Int):Rat)=-900:=rfl;rw[<-cj,cg,cV,ab];exact fD (cA v1 (cL (two_pos w))) hi.2
theorem HH(hi:aW w t v)(v2:v<=900):t.1<=900*2^w:=by
 have ab:((900:Int):Rat)=900:=rfl;rw[<-cj,cg,cV,ab];exact fD hi.1 (cA v2 (cL (two_pos w)))
theorem M7(N:Nat){t:Rat}(ht:0<=t):0<=gQ N t:=by
 have h:=G7 N (mE:(0:Rat)<=0) ht;have:0<=gQ N 0:=by
  have:∀n,0<=sm (ex 0) n:=by
   intro n
   induction n with
   |zero=>exact mE
   |succ n ih=>
    have e:0<=ex 0 n:=jL mE n;simp only[sm];generalize sm (ex 0) n=a at ih|-;generalize ex 0 n=b at e|-
    grind
  exact this N
 exact fD this h
def BD(v:Rat):Prop:=-900<=v/\v<=900
theorem Ly(h0:0<=v)(h1:v<=3):BD v:=⟨E',E'⟩
theorem R3(hN:1<=N)(r0:0<=r)(r2:r<=2)(k:Int):BD (vh N r k):=by
 obtain⟨n,rfl⟩:∃n,N=n+1:=⟨N-1,f'⟩;have s:=Rd (n+1) r0 r2;have c:=Mv n r0 r2;have neg:∀v:Rat,-900<=v/\v<=900->BD (-v):=λv h=>⟨E',E'⟩
 unfold vh
 by_cases h1:k%2=1
 .simp only[au h1]
  by_cases h2:k/2%2=1
  .simp only[au h2];exact neg _ c
  .simp only[aq h2];exact c
 .simp only[aq h1]
  by_cases h2:k/2%2=1
  .simp only[au h2];exact neg _ s
  .simp only[aq h2];exact s
theorem R7(ab:Y<2^126)(hN:400<=N):0<=(Y:Rat)/2^116-(kS mj Y:Rat)*(oF N/2)/\(Y:Rat)/2^116-(kS mj Y:Rat)*(oF N/2)<=2:=by
 obtain⟨hX,X0,X1⟩:=B4 (w:=200) p' ab;obtain⟨r1,k0,k1,l0,l1,l2⟩:=IY (w:=200) p' p' hX X0 X1 N hN;rw[DM p' p' (kt ab)]at r1;exact⟨NQ r1 l0,NP r1 l1⟩
theorem aa1(hN:400<=N){y:Rat}(y0:0<=y)(y3:3*y<=1):0<=2*fE N y/\2*fE N y<=2:=by
 have af:fE N y<=2*y:=by
  have:=(rQ (f:=ah y) (n:=0) (fK y0) (λk _=>by have:=rl y0 E' k;have:=fK y0 (k+1);grind) N).2;have h:=fK y0 (0+N);have e0:ah y 0=y:=by simp[ah,pw];grind
  have e1:sm (ah y) 0=0:=rfl;rw[e0,e1,du]at this;rw[du]at h;simp only[fE]
  grind
 have ab:0<=fE N y:=by
  have:=(rQ (f:=ah y) (n:=0) (fK y0) (λk _=>by have:=rl y0 E' k;have:=fK y0 (k+1);grind) N).1;rw[du]at this;exact this
 generalize fE N y=v at af ab;exact⟨E',E'⟩
theorem m_y(hY:0<Y)(ab:Y<2^126)(hN:400<=N):0<=((Y:Rat)/2^Y.log2-1)/((Y:Rat)/2^Y.log2+1)/\3*(((Y:Rat)/2^Y.log2-1)/((Y:Rat)/2^Y.log2+1))<=1:=by
 obtain⟨mb,m1,m2,E1,E2⟩:=tC (w:=200) hY ab p';obtain⟨_,_,y0,y3⟩:=EI (w:=200) p' p' mb m1 m2 (Ey (Ea hY ab (w:=200) p')) N hN;exact⟨y0,y3⟩
theorem MT{e:Int}(h1:-116<=e)(h2:e<=10):-116<=(e:Rat)/\(e:Rat)<=10:=by
 have a:=cj.2 h1;have b:=cj.2 h2;have e1:((-116:Int):Rat)=-116:=rfl;have e2:((10:Int):Rat)=10:=rfl;rw[e1]at a;rw[e2]at b;exact⟨a,b⟩
theorem TH{u e l:Rat}(u0:0<=u)(u2:u<=2)(e1:-116<=e)(e2:e<=10)(l1:2/3<=l)(l2:l<=3/4):BD (u+e*l):=by
 have a:=cA e1 (show 0<=l from E');have b:=cA e2 (show 0<=l from E');generalize e*l=z at a b|-;exact⟨E',E'⟩
theorem Gj{f:Nat}(hY:0<Y)(ab:Y<2^126)(hN:mB N):BD (zq N f Y):=by
 have af:400<=N:=by have:=hN.1;omega
 unfold zq
 match f with
 |0=>
  obtain⟨hX,X0,X1⟩:=B4 (w:=200) p' ab;have r:=Hb (w:=200) p' p' hX X0 X1 N af;rw[Oj p' p' (kt ab)]at r;rw[RS];exact Ly (M7 N r.2.2.2.2.1) (G6 N r.2.2.2.2.1 r.2.2.2.2.2)
 |1=>
  rw[RT];have lb:=uP N f';have aw:Y%2^116<2^116:=ph _ p';have h1:=lM (kt aw);have ao:((2^116:Nat):Rat)=2^116:=M';rw[ao]at h1;have p:=two_pos 116;have q0:0<=((Y%2^116:Nat):Rat)/2^116:=cO p (by rw[iy (by intro e;rw[e]at p;exact absurd p M'),KN];exact iS _);have q1:((Y%2^116:Nat):Rat)/2^116<=1:=cO p (by rw[iy (by intro e;rw[e]at p;exact absurd p M'),Rat.one_mul];exact h1);generalize((Y%2^116:Nat):Rat)/2^116=q at q0 q1|-;have t0:0<=q*fM N:=dV q0 E';have t1:q*fM N<=1:=by
   have:=cA q1 (show 0<=fM N from E');generalize q*fM N=z at this|-
   grind
  exact Ly (M7 N t0) (G6 N t0 t1)
 |2=>
  rw[RU];have lb:=uP N f';obtain⟨y0,y3⟩:=m_y hY ab af;obtain⟨a,b⟩:=aa1 af y0 y3;obtain⟨_,_,_,E1,E2⟩:=tC (w:=200) hY ab p';obtain⟨c,d⟩:=MT E1 E2;exact TH a b c d lb.1 lb.2
 |3=>
  rw[RW];have lb:=uP N f';obtain⟨mb,m1,m2,E1,E2⟩:=tC (w:=200) hY ab p';obtain⟨c,d⟩:=MT E1 E2;have l0:fM N≠0:=by intro e;rw[e]at lb;grind
  have r:=OG (w:=200) (e:=xE Y) p' p' mb m1 m2 (Ey (Ea hY ab (w:=200) p')) N af (iy l0);have z0:=r.2.2.1;have z1:=r.2.2.2;generalize 2*fE N (((Y:Rat)/2^Y.log2-1)/((Y:Rat)/2^Y.log2+1))/fM N=z at z0 z1|-;exact⟨E',E'⟩
 |4=>
  rw[RX];obtain⟨a,b⟩:=R7 ab af;exact R3 f' a b _
 |n+5=>
  rw[RY];obtain⟨a,b⟩:=R7 ab af;exact R3 f' a b _
end
end Go.Hl
