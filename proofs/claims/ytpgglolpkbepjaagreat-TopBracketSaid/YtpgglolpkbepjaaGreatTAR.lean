/- Lemmas for TopSound and TopBracket. -/
import Derived.Test.YtpgglolpkbepjaaGreatTAQ
set_option linter.unusedVariables false
set_option linter.unusedSimpArgs false
namespace Go.Hl
open Option renaming some→T',none→Y'
open Bool renaming true→Z',false→a0a
section
variable {t:Int}{m n q s:Nat}{r x:Rat}
theorem Xo(hx:x*2^q=(t:Rat))(ht:0<=t)(h1:t<=2^q)(hn:1<=n):
 (∀m,aW q (kH t q n) (gQ (n+m) x))/\(((kH t q n).2:Rat)-((kH t q n).1:Rat)<=5*(n:Rat)+10+2*(ex x n*2^q)):=by
 have hq:=two_pos q;have x0:0<=x:=cO hq (by rw[hx];have:=px ht;grind);have x1:x<=1:=cO hq (by rw[hx];have:=cj.2 h1;rw[cV]at this;grind);exact(QA hx ht h1).rising n (jL x0) (λk hk=>Dm x0 x1 k f')
theorem uV(hx:x*2^q=(t:Rat))(ht:0<=t)(h1:2*t<=2^q):0<=x/\2*x<=1:=by
 have hq:=two_pos q;refine⟨cO hq (by rw[hx];have:=px ht;grind),cO hq ?_⟩;have:=cj.2 h1;rw[cg,cV,<-hx]at this;have e:(((2:Int):Rat))=2:=rfl;rw[e]at this
 grind
theorem Lq(hx:x*2^q=(t:Rat))(ht:0<=t)(h1:2*t<=2^q):
 (∀m,aW q (dY t q n) (fE (n+m) x))/\(((dY t q n).2:Rat)-((dY t q n).1:Rat)<=5*(n:Rat)+10+2*(ah x n*2^q)):=by
 obtain⟨x0,x1⟩:=uV hx ht h1;exact(Ez hx ht h1).rising n (fK x0) (λk _=>by have:=rl x0 x1 k;have:=fK x0 (k+1);grind)
theorem Ub(hx:x*2^q=(t:Rat))(ht:0<=t)(h1:2*t<=2^q):
 (∀m,3<=m->aW q (dX t q n) (ni (2*n+m) x))/\(((dX t q n).2:Rat)-((dX t q n).1:Rat)<=10*(n:Rat)+5+ah x (2*n)*2^q):=by
 obtain⟨x0,x1⟩:=uV hx ht h1;have f:∀k,ah x (k+1)<=ah x k:=λk=>by have:=rl x0 x1 k;have:=fK x0 (k+1);grind
 have r:=(Ez hx ht h1).jg n (fK x0) (λk _=>f k);refine⟨λm hm=>?_,r.2⟩;obtain⟨a,b⟩:=r.1 m hm;have hq:=cL (two_pos q);have f1:=cA (f (2*n)) hq;have f2:=cA (f (2*n+1)) hq;constructor
 .show((jg n (t,t) (pW t q) lR).1:Rat)<=al (ah x) (2*n+m)*2^q
  grind
 .show al (ah x) (2*n+m)*2^q<=((jg n (t,t) (pW t q) lR).2:Rat)
  grind
theorem Av{T:Nat->Rat}(hr:0<r){a:Nat}(h:∀k,a<=k->T (k+1)*r<=T k)(m:Nat):T (a+m)*r^m<=T a:=by
 induction m with
 |zero=>simp
 |succ m ih=>
  have p:0<r^m:=KM hr;have h1:=cA (h (a+m) f') (cL p);rw[mF,<-ie]
  grind
theorem IW(h:m<=n):(2:Rat)^m<=2^n:=by
 obtain⟨k,rfl⟩:=l6 h;clear h
 induction k with
 |zero=>simp
 |succ k ih=>
  have:=two_pos (m+k);rw[<-ie,mF]
  grind
theorem ac2(a b:Nat):(2:Rat)^(a*b)=(2^a)^b:=by
 induction b with
 |zero=>simp
 |succ b ih=>
  have e:∀m n:Nat,(2:Rat)^(m+n)=2^m*2^n:=by
   intro m n
   induction n with
   |zero=>simp
   |succ n ih=>rw[<-ie,mF,ih,mF];grind
  rw[Nat.mul_succ,e,ih,mF]
theorem kF(m n:Nat):(2:Rat)^(m+n)=2^m*2^n:=by
 induction n with
 |zero=>simp
 |succ n ih=>rw[<-ie,mF,ih,mF];grind
theorem Ak{y:Rat}(hy:0<=y)(h:y*r^m<=1)(hr:(2:Rat)^s<=r)(hq:q<=s*m):y*2^q<=1:=by
 have h1:(2:Rat)^q<=r^m:=by
  refine fD (IW hq) ?_;rw[ac2];have p:=two_pos s;clear h hq
  induction m with
  |zero=>simp
  |succ m ih=>
   rw[mF,mF];exact oI ih hr (cL p) (cL (KM E'))
 exact fD (fg h1 hy) h
theorem KY(x0:0<=x)(x1:2*x<=1)(hr:0<r)(h:x*x*r<=1)(hs:(2:Rat)^s<=r)(hq:q<=s*n):ah x n*2^q<=1:=by
 have d:=Av (T:=ah x) (a:=0) hr (λk _=>by
  have h1:=Gb (r:=x*x) x0 (mE) k;have h2:=cA h1 (cL hr);have h3:=fg h (fK x0 k)
  grind) n
 have e0:ah x 0=x:=by simp[ah,pw];grind
 rw[du,e0]at d;exact Ak (fK x0 n) E' hs hq
end
section
variable {a b by_ c:Int}{p:Int×Int}{d n q w:Nat}{x y:Rat}
def fw(s:Int->Nat->Nat->Int×Int)(by_ times:Int)(w n:Nat):Int×Int:=
 ((s (1*2^w/by_) w n).1*times,(s (1*2^w/by_+1) w n).2*times)
def pX(p:Int×Int)(d:Nat):Int×Int:=(p.1/2^d,-((-p.2)/2^d))
def bq(q:Nat):Int×Int:=pX (fw dY 3 2 (q+16) ((q+16)/3+2)) 16
def ll(q:Nat):Int×Int:=
 pX ((fw dX 5 16 (q+16) ((q+16)/9+2)).1-(fw dX 239 4 (q+16) ((q+16)/9+2)).2,
  (fw dX 5 16 (q+16) ((q+16)/9+2)).2-(fw dX 239 4 (q+16) ((q+16)/9+2)).1) 16
theorem JH(p:Int×Int)(d:Nat):pX p d=rt p 1 (2^d):=by
 simp only[pX,rt,iI,Int.mul_one];rw[lW _ (bo (cf d))]
theorem HM(h:aW (q+d) p x):aW q (pX p d) x:=by
 rw[JH];have hd:=two_pos d;have h1:aW q (rt p 1 (2^d)) x:=by
  have h2:aW q p (x*2^d):=by
   obtain⟨a,b⟩:=h;rw[kF]at a b;exact⟨E',E'⟩
  refine rH h2 p' (cf d) ?_;rw[cV];simp
 exact h1
theorem IM(h:p.2-p.1<=c*2^d):(pX p d).2-(pX p d).1<=c+1:=by
 rw[JH];exact tK (cf d) (by simpa using h)
theorem Ll{s:Int->Nat->Nat->Int×Int}{F:Rat->Rat}{W L:Rat}(aw:3<=by_)(hw:6<=w)(hy:y*(by_:Rat)=1)(ab:∀(t:Int)(x:Rat),x*2^w=(t:Rat)->0<=t->t<=1*2^w/by_+1->2*t<=2^w->aW w (s t w n) (F x)/\((s t w n).2:Rat)-((s t w n).1:Rat)<=W)(hF:∀a b,0<=a->a<=b->2*b<=1->F a<=F b/\F b-F a<=L*(b-a)):
 aW w ((s (1*2^w/by_) w n).1,(s (1*2^w/by_+1) w n).2) (F y)/\
 ((s (1*2^w/by_+1) w n).2:Rat)-((s (1*2^w/by_) w n).1:Rat)<=2*W+L:=by
 have hq:=two_pos w;have af:(0:Int)<by_:=f';have ao:=cast_pos af;obtain⟨d,hd⟩:=nm (1*2^w/by_);have dl:=ke (a:=1*2^w) af;rw[hd]at dl ab|-;have d0:0<=d:=by rw[<-hd];exact jv (dP p' (bo (cf w))) f'
 have a1:(64:Int)<=2^w:=by
  obtain⟨k,rfl⟩:=l6 hw;rw[gk];have:=cf k;omega
 have d3:d*3<=d*by_:=jk aw d0;have x0:(d:Rat)/2^w*2^w=(d:Rat):=iy E';have x1:((d+1:Int):Rat)/2^w*2^w=((d+1:Int):Rat):=iy E';generalize(d:Rat)/2^w=a at x0;generalize((d+1:Int):Rat)/2^w=b at x1;have r0:=ab d a x0 d0 f' f';have r1:=ab (d+1) b x1 f' f' f';have a0:0<=a:=cO hq (by rw[x0];have:=px d0;grind);have ax:b-a=1/2^w:=by
  have e1:(1/(2:Rat)^w)*2^w=1:=iy E';rw[jG]at x1;have e2:(b-a)*2^w=1:=by
   have:((1:Int):Rat)=1:=rfl;rw[this]at x1
   grind
  refine FW (cO hq ?_) (cO hq ?_)<;>rw[e1,e2]<;>exact mE
 have ay:a<=y:=by
  refine cO (xJ hq ao) ?_;have l:=cj.2 dl.1;rw[cg,cg,cV,<-x0]at l;have:((1:Int):Rat)=1:=rfl;rw[this]at l;have e:y*(2^w*(by_:Rat))=1*2^w:=E';rw[e];grind
 have yb:y<=b:=by
  refine cO (xJ hq ao) ?_;have l:=Am.2 dl.2;rw[cg,cg,cV,<-x1]at l;have:((1:Int):Rat)=1:=rfl;rw[this]at l;have e:y*(2^w*(by_:Rat))=1*2^w:=E';rw[e];grind
 have b1:2*b<=1:=by
  refine cO hq ?_;have h1:2*(d+1)<=2^w:=f';have h2:=cj.2 h1;rw[cg,cV,<-x1]at h2;have:((2:Int):Rat)=2:=rfl;rw[this]at h2
  grind
 have f0:=hF a y a0 ay E';have f1:=hF y b E' yb b1;have f2:=hF a b a0 E' b1;obtain⟨⟨p1,p2⟩,p3⟩:=r0;obtain⟨⟨q1,q2⟩,q3⟩:=r1;have m0:=cA f0.1 (cL hq);have m1:=cA f1.1 (cL hq);have e1:(1/(2:Rat)^w)*2^w=1:=iy E';rw[ax]at f2;have m2:=cA f2.2 (cL hq);refine⟨⟨fD p1 m0,fD m1 q2⟩,?_⟩;have e3:L*(1/2^w)*2^w=L:=E';rw[e3]at m2
 grind
theorem rY(h:(b:Rat)-(a:Rat)<=x)(hx:x<=(c:Rat)):b-a<=c:=by
 rw[<-cj,iY];grind
theorem wc{k:Int}(h:aW q (a,b) x)(hk:0<=k):aW q (a*k,b*k) ((k:Rat)*x):=by
 obtain⟨h1,h2⟩:=h;have k':=px hk;have:=cA h1 k';have:=cA h2 k';constructor<;>rw[cg]<;>grind
def fM(N:Nat):Rat:=2*fE N (1/3)
def oF(N:Nat):Rat:=16*ni N (1/5)-4*ni N (1/239)
theorem lM{m:Nat}(h:m<=n):(m:Rat)<=(n:Rat):=zV.2 h
theorem OD(hw:8<=w)(hn:w<=3*n)(N:Nat)(hN:n<=N):
 aW w ((dY (1*2^w/3) w n).1,(dY (1*2^w/3+1) w n).2) (fE N (1/3))/\
 ((dY (1*2^w/3+1) w n).2:Rat)-((dY (1*2^w/3) w n).1:Rat)<=2*(5*(n:Rat)+12)+2:=by
 refine Ll (F:=fE N) p' f' M' (λt x hx ht ao h2=>?_) (λa b h0 ab hb=>⟨CI N h0 ab,KU N h0 ab hb⟩);have r:=Lq (n:=n) hx ht h2;obtain⟨x0,x1⟩:=uV hx ht h2;obtain⟨m,rfl⟩:=l6 hN;refine⟨r.1 m,fD r.2 ?_⟩;have hq:=two_pos w;have af:t*64<=22*2^w:=by
  have:=(ke (a:=1*2^w) (d:=3) p').1;have aw:(256:Int)<=2^w:=by
   obtain⟨k,rfl⟩:=l6 hw;rw[gk];have:=cf k;omega
  omega
 have x3:x*64<=22:=by
  refine cO hq ?_;have h3:=cj.2 af;rw[cg,cg,cV,<-hx]at h3;have e1:((64:Int):Rat)=64:=rfl;have e2:((22:Int):Rat)=22:=rfl;rw[e1,e2]at h3
  grind
 have sq:=oI x3 x3 E' E';have tl:=KY (x:=x) (r:=8) (s:=3) (n:=n) (q:=w) x0 x1 M' E' M' hn
 grind
theorem afi(h:x*1024*(x*1024)<=206*206):x*x*24<=1:=E'
theorem Gk(h5:5<=by_)(hy:y*(by_:Rat)=1)(hw:10<=w)(hn:w<=9*n)(N:Nat)(hN:2*n+3<=N):
 aW w ((dX (1*2^w/by_) w n).1,(dX (1*2^w/by_+1) w n).2) (ni N y)/\
 ((dX (1*2^w/by_+1) w n).2:Rat)-((dX (1*2^w/by_) w n).1:Rat)<=2*(10*(n:Rat)+6)+1:=by
 refine Ll (F:=ni N) f' f' hy (λt x hx ht ax h2=>?_) (λa b h0 ab hb=>⟨(Li N h0 ab hb).1,by have:=(Li N h0 ab hb).2;grind⟩);have r:=Ub (n:=n) hx ht h2;obtain⟨x0,x1⟩:=uV hx ht h2;obtain⟨m,rfl⟩:=l6 hN;refine⟨by rw[show 2*n+3+m=2*n+(3+m)from f'];exact r.1 (3+m) f',fD r.2 ?_⟩;have hq:=two_pos w;have ao:t*1024<=206*2^w:=by
  have d0:0<=1*2^w/by_:=jv (dP p' (bo (cf w))) f';have h1:=(ke (a:=1*2^w) (d:=by_) f').1;have h2:=jk h5 d0;have ay:(1024:Int)<=2^w:=by
   obtain⟨k,rfl⟩:=l6 hw;rw[gk];have:=cf k;omega
  generalize 1*2^w/by_=d at*;omega
 have x3:x*1024<=206:=by
  refine cO hq ?_;have h3:=cj.2 ao;rw[cg,cg,cV,<-hx]at h3;have e1:((1024:Int):Rat)=1024:=rfl;have e2:((206:Int):Rat)=206:=rfl;rw[e1,e2]at h3
  grind
 have sq:=oI x3 x3 E' E';have aw:=afi sq;have d:=Av (T:=ah x) (a:=0) (r:=24) M' (λk _=>by
  have h1:=Gb (r:=x*x) x0 (mE) k;have h3:=fg aw (fK x0 k)
  grind) (2*n)
 have e0:ah x 0=x:=by simp[ah,pw];grind
 rw[du,e0]at d;have af:(24:Rat)^(2*n)=576^n:=by
  clear hn r d
  induction n with
  |zero=>simp
  |succ n ih=>rw[show 2*(n+1)=2*n+1+1 from rfl,mF,mF,ih f',mF];grind
 rw[af]at d;have tl:=Ak (r:=576) (s:=9) (q:=w) (fK x0 (2*n)) E' M' hn
 grind
theorem HK{d:Int}(h:aW q (a,b) x)(k:aW q (c,d) y):aW q (a-d,b-c) (x-y):=NR h k
theorem uQ(hq:q<=900)(N:Nat)(hN:400<=N):aW q (bq q) (fM N)/\(bq q).2-(bq q).1<=2:=by
 have r:=OD (w:=q+16) (n:=(q+16)/3+2) f' f' N f';have t:=wc (k:=2) r.1 p';refine⟨HM t,IM (c:=1) ?_⟩;have hn:=lM (show(q+16)/3+2<=310 from f');have e:((310:Nat):Rat)=310:=rfl;rw[e]at hn;have i:=rY (c:=3126) r.2 (by have:((3126:Int):Rat)=3126:=rfl;rw[this];grind);simp only[fw];omega
theorem PW(hq:q<=900)(N:Nat)(hN:400<=N):aW q (ll q) (oF N)/\(ll q).2-(ll q).1<=2:=by
 have r:=Gk (w:=q+16) (n:=(q+16)/9+2) (by_:=5) (y:=1/5) p' M' f' f' N f';have s:=Gk (w:=q+16) (n:=(q+16)/9+2) (by_:=239) (y:=1/239) p' M' f' f' N f';have t:=HK (wc (k:=16) r.1 p') (wc (k:=4) s.1 p');refine⟨HM t,IM (c:=1) ?_⟩;have hn:=lM (show(q+16)/9+2<=110 from f');have e:((110:Nat):Rat)=110:=rfl;rw[e]at hn;have i:=rY (c:=2213) r.2 (by have:((2213:Int):Rat)=2213:=rfl;rw[this];grind);have j:=rY (c:=2213) s.2 (by have:((2213:Int):Rat)=2213:=rfl;rw[this];grind);simp only[fw];omega
end
section
variable {a b:Int}{w:Nat}{r x y:Rat}
theorem RH{s:Int->Int×Int}{F:Rat->Rat}{W L:Rat}(hx:x*2^w=(a:Rat))(hy:y*2^w=(b:Rat))(ra:aW w (s a) (F x)/\((s a).2:Rat)-((s a).1:Rat)<=W)(rb:aW w (s b) (F y)/\((s b).2:Rat)-((s b).1:Rat)<=W)(h1:F x<=F r)(h2:F r<=F y)(hL:F y-F x<=L*(y-x)):
 aW w ((s a).1,(s b).2) (F r)/\((s b).2:Rat)-((s a).1:Rat)<=2*W+L*((b:Rat)-(a:Rat)):=by
 have hq:=two_pos w;obtain⟨⟨p1,p2⟩,p3⟩:=ra;obtain⟨⟨q1,q2⟩,q3⟩:=rb;have m1:=cA h1 (cL hq);have m2:=cA h2 (cL hq);have m3:=cA hL (cL hq);have e:L*(y-x)*2^w=L*((b:Rat)-(a:Rat)):=by rw[<-hx,<-hy];grind
 rw[e]at m3;exact⟨⟨fD p1 m1,fD m2 q2⟩,E'⟩
theorem pC(a:Int)(w:Nat):∃x:Rat,x*2^w=(a:Rat):=⟨(a:Rat)/2^w,iy (by have:=two_pos w;grind)⟩
theorem ends(hx:x*2^w=(a:Rat))(hy:y*2^w=(b:Rat))(h:aW w (a,b) r):x<=r/\r<=y:=
 ⟨cO (two_pos w) (by rw[hx];exact h.1),cO (two_pos w) (by rw[hy];exact h.2)⟩
theorem AO{c:Rat}(hx:x*2^w=(a:Rat)):(a:Rat)<=c*2^w↔x<=c:=by
 rw[<-hx];exact⟨λh=>cO (two_pos w) h,λh=>cA h (cL (two_pos w))⟩
theorem yu(hx:x*2^w=(a:Rat))(h:0<=a):0<=x:=
 cO (two_pos w) (by rw[hx];have:=px h;grind)
theorem Xk(x0:0<=x)(x1:x<=1)(hw:20<=w):ex x (w/4+10)*2^w<=8388608:=by
 have d:=Av (T:=ex x) (a:=15) (r:=16) M' (λk hk=>by
  have h3:=lM hk;have e3:((15:Nat):Rat)=15:=rfl;rw[e3]at h3;have:=yQ (r:=1/16) (y:=ex x (k+1)) (x:=ex x k) (t:=x) (c:=(k:Rat)+1) E' (jL x0 k) (kz x k) E'
  grind) (w/4+10-15)
 rw[show 15+(w/4+10-15)=w/4+10 from f']at d;have ab:ex x 15<=1:=by
  have h:∀k,1<=k->ex x k<=1:=by
   intro k hk;obtain⟨j,rfl⟩:=l6 hk;clear hk
   induction j with
   |zero=>simp[ex];grind
   |succ j ih=>have:=Dm x0 x1 (1+j) f';have:=jL x0 (1+(j+1));rw[show 1+(j+1)=1+j+1 from rfl]at*;grind
  exact h 15 f'
 have b:=Ak (y:=ex x (w/4+10)) (r:=16) (s:=4) (q:=w-23) (jL x0 _) (fD d ab) M' f';have hn:=jL x0 (w/4+10);rcases dQ w 23 with h|h
 .have h1:(2:Rat)^w<=2^23:=IW f'
  have e:(2:Rat)^23=8388608:=M';have h2:=fg h1 hn;rw[show w-23=0 from f',Rat.pow_zero]at b
  grind
 .have e:(2:Rat)^w=2^(w-23)*2^23:=by rw[<-kF,show w-23+23=w from f']
  have e2:(2:Rat)^23=8388608:=M';rw[e,e2];have:=cA b (show(0:Rat)<=8388608 from M')
  grind
def my(w:Nat)(p:Int×Int):Int×Int:=((kH p.1 w (w/4+10)).1,(kH p.2 w (w/4+10)).2)
theorem Sz(hw:20<=w)(af:w<=900)(ha:0<=a)(hb:b<=2^w)(h:aW w (a,b) r)(N:Nat)(hN:400<=N):
 aW w (my w (a,b)) (gQ N r)/\((my w (a,b)).2:Rat)-((my w (a,b)).1:Rat)<=40000000+3*((b:Rat)-(a:Rat)):=by
 have ab:a<=b:=jq h;obtain⟨x,hx⟩:=pC a w;obtain⟨y,hy⟩:=pC b w;obtain⟨e1,e2⟩:=ends hx hy h;have x0:=yu hx ha;have y1:y<=1:=(AO hy).1 (by have:=cj.2 hb;rw[cV]at this;grind);have hn:=lM (show w/4+10<=235 from f');have e:((235:Nat):Rat)=235:=rfl;rw[e]at hn;have row:∀(t:Int)(z:Rat),z*2^w=(t:Rat)->0<=t->t<=2^w->aW w (kH t w (w/4+10)) (gQ N z)/\((kH t w (w/4+10)).2:Rat)-((kH t w (w/4+10)).1:Rat)<=16780000:=by
  intro t z hz h0 h1;have r:=Xo (n:=w/4+10) hz h0 h1 f';have z0:=yu hz h0;have z1:z<=1:=(AO hz).1 (by have:=cj.2 h1;rw[cV]at this;grind);have t:=Xk z0 z1 hw;obtain⟨m,hm⟩:=l6 (show w/4+10<=N from f');refine⟨hm▸r.1 m,fD r.2 ?_⟩
  grind
 have t:=RH (s:=λt=>kH t w (w/4+10)) (F:=gQ N) (L:=3) hx hy (row a x hx ha f') (row b y hy f' hb) (G7 N x0 e1) (G7 N E' e2) (Xh N x0 E' y1);exact⟨t.1,by have:=t.2;simp only[my];grind⟩
theorem uP(N:Nat)(hN:1<=N):2/3<=fM N/\fM N<=3/4:=by
 obtain⟨m,rfl⟩:=l6 hN;have h:=rQ (f:=ah (1/3)) (n:=1) (fK M') (λk _=>by
  have:=rl (t:=1/3) M' M' k;have:=fK (t:=1/3) M' (k+1)
  grind) m
 have h2:=fK (t:=1/3) M' (1+m);have e1:sm (ah (1/3)) 1=1/3:=M';have e2:ah (1/3) 1=1/81:=M';rw[e1,e2]at h;simp only[fM,fE];exact⟨E',E'⟩
def eT(w:Nat)(X:Int):Int:=X/(bq w).2
def qQ(w:Nat)(X:Int):Int×Int:=(X-eT w X*(bq w).2,X-eT w X*(bq w).1)
def rj(w:Nat)(X:Int):Int×Int:=my w (qQ w X)
theorem pK(ab:w<=900):(bq w).1<=(bq w).2/\(bq w).2<=(bq w).1+2/\2*2^w<=(bq w).2*3/\(bq w).1*4<=3*2^w:=by
 have h:=uQ (q:=w) ab 400 f';have b:=uP 400 f';have hq:=two_pos w;refine⟨jq h.1,f',?_,?_⟩
 .rw[<-cj,cg,cg,cV]
  have m:=cA b.1 (cL hq);have e1:((2:Int):Rat)=2:=rfl;have e2:((3:Int):Rat)=3:=rfl;rw[e1,e2];have:=h.1.2
  grind
 .rw[<-cj,cg,cg,cV]
  have m:=cA b.2 (cL hq);have e1:((4:Int):Rat)=4:=rfl;have e2:((3:Int):Rat)=3:=rfl;rw[e1,e2];have:=h.1.1
  grind
theorem jf{s:Nat}{c:Int}(hw:s<=w)(h:c<=2^s):c<=2^w:=by
 obtain⟨k,rfl⟩:=l6 hw;rw[gk];have h1:=jk (show(1:Int)<=2^k by have:=cf k;omega) (bo (cf s));omega
theorem Hb{X:Int}(hw:60<=w)(af:w<=900)(hx:x*2^w=(X:Rat))(h0:0<=X)(h1:X<=1024*2^w)(N:Nat)(hN:400<=N):
 aW w (rj w X) (gQ N (x-(eT w X:Rat)*fM N))/\(rj w X).2-(rj w X).1<=2^40/\0<=eT w X/\eT w X<=1536/\
 0<=x-(eT w X:Rat)*fM N/\x-(eT w X:Rat)*fM N<=1:=by
 obtain⟨l1,l2,l3,l4⟩:=pK af;have li:=uQ (q:=w) af N hN;have hq:=cf w;have ab:0<(bq w).2:=f';have dl:=ke (a:=X) ab;have k0:0<=eT w X:=jv h0 (bo ab);have k1:eT w X<=1536:=by
  unfold eT at*;generalize X/(bq w).2=k at*;rcases qc 1536 k with h|h
  .have:=gj (show 1537<=k from f') (bo ab)
   omega
  .exact h
 have ao:(1048576:Int)<=2^w:=jf (s:=20) f' p';have ay:eT w X*(bq w).2<=eT w X*(bq w).1+3072:=by
  have:=jk l2 k0;rw[tX]at this;omega
 have ax:eT w X*(bq w).1<=eT w X*(bq w).2:=jk l1 k0;have aw:eT w X*(bq w).2<=X/\X<eT w X*(bq w).2+(bq w).2:=by
  unfold eT;rw[nN]at dl;omega
 have r:aW w (qQ w X) (x-(eT w X:Rat)*fM N):=by
  have i1:aW w (X,X) x:=A0 hx;have i2:=wc (k:=eT w X) (a:=(bq w).1) (b:=(bq w).2) li.1 k0;have:=HK i1 i2;rw[gD (bq w).2,gD (bq w).1]at this;exact this
 have y:=Sz (a:=X-eT w X*(bq w).2) (b:=X-eT w X*(bq w).1) f' af f' f' r N hN;refine⟨y.1,?_,k0,k1,?_,?_⟩
 .refine rY y.2 ?_
  rw[<-iY];have:=cj.2 (show X-eT w X*(bq w).1-(X-eT w X*(bq w).2)<=3072 from f');have e:((3072:Int):Rat)=3072:=rfl;have e2:(((2:Int)^40:Int):Rat)=1099511627776:=M';rw[e]at this;rw[e2]
  grind
 .refine cO (two_pos w) (fD ?_ r.1)
  have:=px (show 0<=X-eT w X*(bq w).2 from f');simp only[qQ];grind
 .refine cO (two_pos w) (fD r.2 ?_)
  have:=cj.2 (show X-eT w X*(bq w).1<=2^w from f');rw[cV]at this;simp only[qQ];grind
end
section
variable {M:Int}{p:Int×Int}{w:Nat}{m x y:Rat}
theorem sN:((2:Int):Rat)=2:=rfl
theorem nl:((1:Int):Rat)=1:=rfl
theorem PR:(((2:Int)^40:Int):Rat)=1099511627776:=M'
def sI(w:Nat)(X:Int):Int×Int:=my w (rt (bq w) X (2^w))
theorem Xm{X:Int}(hw:60<=w)(ab:w<=900)(hx:x*2^w=(X:Rat))(h0:0<=X)(h1:X<=2^w)(N:Nat)(hN:400<=N):
 aW w (sI w X) (gQ N (x*fM N))/\(sI w X).2-(sI w X).1<=2^40/\0<=x*fM N/\x*fM N<=1:=by
 obtain⟨l1,l2,l3,l4⟩:=pK ab;have li:=uQ (q:=w) ab N hN;have hq:=cf w;have bn:=uP N f';have af:(1048576:Int)<=2^w:=jf (s:=20) f' p';have r:aW w (rt (bq w) X (2^w)) (x*fM N):=by
  refine rH li.1 h0 hq ?_;rw[cV,<-hx];grind
 have wd:=tK (p:=bq w) (t:=X) (d:=2^w) (c:=2) hq (qK f' h1 h0 p');have lo:0<=(rt (bq w) X (2^w)).1:=jv (dP f' h0) (bo hq);have hi:(rt (bq w) X (2^w)).2<=(bq w).2:=by
  have u:=(oO (a:=(bq w).2*X) hq).2;have m:=jk h1 (show 0<=(bq w).2 from f');have:=lX (Fw u m) (bo hq);simp only[rt];omega
 have y:=Sz (a:=(rt (bq w) X (2^w)).1) (b:=(rt (bq w) X (2^w)).2) f' ab lo f' r N hN;refine⟨y.1,?_,?_,?_⟩
 .refine rY y.2 ?_
  have:=cj.2 wd;rw[iY]at this;have e:((2+1:Int):Rat)=3:=rfl;rw[e]at this;rw[PR]
  grind
 .exact dV (yu hx h0) E'
 .have x1:x<=1:=(AO hx).1 (by have:=cj.2 h1;rw[cV]at this;grind)
  have:=oI x1 bn.2 E' M'
  grind
def il(w:Nat)(M:Int):Int×Int:=rt (M-1*2^w,M-1*2^w) (2^w) (M+1*2^w)
def fN(w:Nat)(M:Int):Int×Int:=((dY (il w M).1 w (w/3+2)).1*2,(dY (il w M).2 w (w/3+2)).2*2)
theorem afL{t:Int}(hw:8<=w)(hx:x*2^w=(t:Rat))(h:t*3<=2^w+3):x*64<=22:=by
 have ab:(256:Int)<=2^w:=jf (s:=8) hw p';refine cO (two_pos w) ?_;have h3:=cj.2 (show t*64<=22*2^w from f');rw[cg,cg,cV,<-hx]at h3;have e1:((64:Int):Rat)=64:=rfl;have e2:((22:Int):Rat)=22:=rfl;rw[e1,e2]at h3
 grind
theorem afj(h:x*64*(x*64)<=22*22):x*x*8<=1:=E'
theorem EI(hw:60<=w)(ax:w<=900)(hm:m*2^w=(M:Rat))(h0:2^w<=M)(h1:M<=2*2^w)(hy:y*(m+1)=m-1)(N:Nat)(hN:400<=N):
 aW w (fN w M) (2*fE N y)/\(fN w M).2-(fN w M).1<=10000/\0<=y/\3*y<=1:=by
 have hq:=cf w;have ab:=two_pos w;have ao:(256:Int)<=2^w:=jf (s:=8) f' p';have hd:0<M+1*2^w:=f';have m1:1<=m:=cO ab (by rw[hm];have:=cj.2 h0;rw[cV]at this;grind);have m2:m<=2:=(AO hm).1 (by have:=cj.2 h1;rw[cg,cV,sN]at this;grind);have y0:0<=y:=cO (c:=m+1) E' (by rw[hy];grind);have y3:3*y<=1:=by
  refine cO (c:=m+1) E' ?_;have:3*y*(m+1)=3*(m-1):=E';rw[this];grind
 have r:aW w (il w M) y:=by
  have i:aW w (M-1*2^w,M-1*2^w) (m-1):=A0 (by rw[iY,cg,cV,<-hm,nl];grind);refine rH i (bo hq) hd ?_;rw[jG,cg,cV,<-hm,nl];have:y*(m*2^w+1*2^w)=y*(m+1)*2^w:=E';rw[this,hy]
 have wd:=tK (p:=(M-1*2^w,M-1*2^w)) (t:=2^w) (d:=M+1*2^w) (c:=0) hd J';have lo:0<=(il w M).1:=jv (dP (show(0:Int)<=M-1*2^w from f') (bo hq)) (bo hd);have l3:(il w M).1*3<=2^w:=by
  have:=cj.2 (show(3:Int)*1<=3 from p');rw[<-cj,cg,cV];have e:((3:Int):Rat)=3:=rfl;rw[e];have:=r.1;have:=cA y3 (cL ab)
  grind
 have af:(il w M).2<=(il w M).1+1:=by have:(il w M).2-(il w M).1<=0+1:=wd;omega
 obtain⟨a,ea⟩:=nm ((il w M).1);obtain⟨b,eb⟩:=nm ((il w M).2);have r':aW w (a,b) y:=by rw[<-ea,<-eb];exact r
 have aw:a<=b:=jq r';simp only[fN,ea,eb]at*;obtain⟨x,hx⟩:=pC a w;obtain⟨z,hz⟩:=pC b w;obtain⟨e1,e2⟩:=ends hx hz r';have x0:=yu hx lo;have hn:=lM (show w/3+2<=302 from f');have e:((302:Nat):Rat)=302:=rfl;rw[e]at hn;have row:∀(t:Int)(u:Rat),u*2^w=(t:Rat)->0<=t->t*3<=2^w+3->aW w (dY t w (w/3+2)) (fE N u)/\((dY t w (w/3+2)).2:Rat)-((dY t w (w/3+2)).1:Rat)<=1522:=by
  intro t u hu h0 h1;have r:=Lq (n:=w/3+2) hu h0 f';obtain⟨u0,u1⟩:=uV hu h0 f';have u3:=afL f' hu h1;have tl:=KY (x:=u) (r:=8) (s:=3) (n:=w/3+2) (q:=w) u0 u1 M' (afj (oI u3 u3 E' M')) M' f';obtain⟨m,hm⟩:=l6 (show w/3+2<=N from f');exact⟨hm▸r.1 m,fD r.2 E'⟩
 have z1:2*z<=1:=(uV hz f' f').2;have t:=RH (s:=λt=>dY t w (w/3+2)) (F:=fE N) (L:=2) hx hz (row a x hx lo f') (row b z hz f' f') (CI N x0 e1) (CI N E' e2) (KU N x0 E' z1);refine⟨?_,?_,y0,y3⟩
 .have:=wc (k:=2) t.1 p'
  rw[sN]at this;exact this
 .have:=rY (c:=3046) t.2 (by
   have:=cj.2 af;rw[jG,nl]at this;have e:((3046:Int):Rat)=3046:=rfl;rw[e];grind)
  omega
def ju(p:Int×Int)(k:Int):Int×Int:=if k<0 then(p.2*k,p.1*k)else(p.1*k,p.2*k)
theorem HN{q:Nat}(h:aW q p x)(k:Int):aW q (ju p k) ((k:Rat)*x):=by
 unfold ju
 by_cases hk:k<0
 .rw[au hk]
  obtain⟨h1,h2⟩:=h;have k':(0:Rat)<=-(k:Rat):=by rw[<-zU];exact px f'
  have:=cA h1 k';have:=cA h2 k';constructor<;>rw[cg]<;>grind
 .rw[aq hk]
  exact wc (a:=p.1) (b:=p.2) h f'
theorem agO{k c:Int}(hc:p.2<=p.1+2)(k1:-c<=k)(k2:k<=c):(ju p k).2-(ju p k).1<=2*c:=by
 unfold ju
 by_cases hk:k<0
 .rw[au hk]
  have:=gj hc (show 0<=-k from f');rw[Ch,Ch,nN]at this;simp only;omega
 .rw[aq hk]
  have:=gj hc (show 0<=k from f');rw[nN]at this;simp only;omega
def ql(w:Nat)(M e:Int):Int×Int:=((fN w M).1+(ju (bq w) e).1,(fN w M).2+(ju (bq w) e).2)
theorem aa2{e:Int}(hw:60<=w)(ab:w<=900)(hm:m*2^w=(M:Rat))(h0:2^w<=M)(h1:M<=2*2^w)(hy:y*(m+1)=m-1)(af:-1100<=e)(ao:e<=1100)(N:Nat)(hN:400<=N):
 aW w (ql w M e) (2*fE N y+(e:Rat)*fM N)/\(ql w M e).2-(ql w M e).1<=2^40:=by
 obtain⟨s1,s2,_,_⟩:=EI hw ab hm h0 h1 hy N hN;obtain⟨_,l2,_,_⟩:=pK ab;refine⟨DE s1 (HN (uQ ab N hN).1 e),?_⟩;have:=agO (k:=e) (c:=1100) l2 af ao;simp only[ql];omega
def B5(w:Nat)(p l:Int×Int):Int×Int:=(p.1*2^w/l.2,iI (p.2*2^w) l.1)
theorem agM{l:Int×Int}{s t:Rat}(hs:aW w p s)(hl:aW w l t)(p0:0<=p.1)(l0:0<l.1)(hy:y*t=s):aW w (B5 w p l) y:=by
 have hq:=two_pos w;have hp:=jq hs;have ao:=jq hl;have ab:=cast_pos l0;have af:=cast_pos (show 0<l.2 from f');have t0:0<t:=by
  rcases xI (a:=t) (b:=0)with h|h
  .have:=cA h (cL hq)
   have:=hl.1
   grind
  .have:t≠0:=by intro e;have:=hl.1;rw[e]at this;grind
   grind
 have s0:0<=s:=cO hq (fD (by have:=px p0;grind) hs.1);have y0:0<=y:=cO t0 (by rw[hy];grind);constructor
 .refine cO af ?_
  have a:=cj.2 (ke (a:=p.1*2^w) (d:=l.2) f').1;rw[cg,cg,cV]at a;refine fD a ?_;have b:=cA hs.1 (cL hq);have c:=fg hl.2 (dV y0 (cL hq));rw[<-hy]at b
  grind
 .refine cO ab ?_
  have a:=cj.2 (oO (a:=p.2*2^w) l0).1;rw[cg,cg,cV]at a;refine fD ?_ a;have b:=cA hs.2 (cL hq);have c:=fg hl.1 (dV y0 (cL hq));rw[<-hy]at b
  grind
end
section
variable {t:Int}{w:Nat}
theorem abX{first:Int×Int}{next term:Nat->Int×Int->Int×Int}(h0:0<=first.1)(hn:∀k p,0<=p.1->0<=(next k p).1)(ht:∀k p,0<=p.1->0<=(term k p).1)(n:Nat):
 0<=(iV first next term n).1.1/\0<=(iV first next term n).2.1:=by
 induction n with
 |zero=>exact⟨by simp[iV],h0⟩
 |succ n ih=>
  refine⟨?_,hn _ _ ih.2⟩;have:=ht n _ ih.2;simp only[iV];omega
theorem QD{p:Int×Int}{d:Int}(h:0<=p.1)(ht:0<=t)(hd:0<=d):0<=(rt p t d).1:=jv (dP h ht) hd
theorem afk(t:Int):0<=t*t:=by
 rcases Fv 0 t with h|h
 .exact dP h h
 .have:=dP (show 0<=-t from f') (show 0<=-t from f')
  rwa[Int.neg_mul_neg]at this
theorem Lo{n:Nat}(ht:0<=t):0<=(dY t w n).1:=
 (abX (first:=(t,t)) ht (λ_ _ h=>QD h (afk t) (bo (jZ p' (cf _))))
  (λ_ _ h=>QD h p' (dP f' p')) n).1
def qm(w:Nat)(M e:Int):Int×Int:=
 ((B5 w (fN w M) (bq w)).1+(ju (1*2^w,1*2^w) e).1,(B5 w (fN w M) (bq w)).2+(ju (1*2^w,1*2^w) e).2)
theorem aaZ{a b p r f c Q:Int}(hQ:256<=Q)(hp:0<p)(h1:(c-1)*p<b*Q)(h2:a*Q<(f+1)*r)(hb:b<=a+10000)(hr:r<=p+2)(hf:f<=2*Q)(f0:0<=f)(ab:Q<=2*p):c-f<=20100:=by
 rcases qc 20100 (c-f)with h|h
 .exfalso
  have e1:=gj hb (show 0<=Q from f');have e2:(f+1)*r<=(f+1)*p+2*(f+1):=by
   have:=jk hr (show 0<=f+1 from f');rw[tX]at this;omega
  have e4:(f+1)*p=f*p+p:=by rw[nN];omega
  have e3:=gj (show f+20100<=c-1 from f') (bo hp);rw[nN]at e1 e3;omega
 .exact h
theorem OG{M e:Int}{m y z:Rat}(hw:60<=w)(ab:w<=900)(hm:m*2^w=(M:Rat))(h0:2^w<=M)(h1:M<=2*2^w)(hy:y*(m+1)=m-1)(N:Nat)(hN:400<=N)(hz:z*fM N=2*fE N y):
 aW w (qm w M e) (z+(e:Rat))/\(qm w M e).2-(qm w M e).1<=2^40/\0<=z/\z<=1:=by
 obtain⟨s1,s2,y0,y3⟩:=EI hw ab hm h0 h1 hy N hN;obtain⟨l1,l2,l3,l4⟩:=pK ab;have li:=uQ ab N hN;have bn:=uP N f';have hq:=cf w;have ao:=two_pos w;have af:(256:Int)<=2^w:=jf (s:=8) f' p';have p0:0<=(fN w M).1:=by
  have hd:0<M+1*2^w:=f';have:=Lo (t:=(il w M).1) (w:=w) (n:=w/3+2) (jv (dP (show(0:Int)<=M-1*2^w from f') (bo hq)) (bo hd));simp only[fN];omega
 have ov:=agM s1 li.1 p0 f' hz;have ay:fE N y<=2*y:=by
  have:=(rQ (f:=ah y) (n:=0) (fK y0) (λk _=>by have:=rl y0 E' k;have:=fK y0 (k+1);grind) N).2;have h:=fK y0 (0+N);have e0:ah y 0=y:=by simp[ah,pw];grind
  have e1:sm (ah y) 0=0:=rfl;rw[e0,e1,du]at this;rw[du]at h;simp only[fE]
  grind
 have ax:0<=fE N y:=by
  have:=(rQ (f:=ah y) (n:=0) (fK y0) (λk _=>by have:=rl y0 E' k;have:=fK y0 (k+1);grind) N).1;rw[du]at this;exact this
 have aw:(fN w M).1*3<=4*2^w:=by
  rw[<-cj,cg,cg,cV];have e1:((3:Int):Rat)=3:=rfl;have e2:((4:Int):Rat)=4:=rfl;rw[e1,e2];have:=cA (show 3*(2*fE N y)<=4 from E') (cL ao);have:=s1.1
  grind
 have fd:=ke (a:=(fN w M).1*2^w) (d:=(bq w).2) f';have cu:=oO (a:=(fN w M).2*2^w) (d:=(bq w).1) f';have f0:0<=(fN w M).1*2^w/(bq w).2:=jv (dP p0 (bo hq)) f';have f2:(fN w M).1*2^w/(bq w).2<=2*2^w:=by
  have m1:=gj (show(fN w M).1<=2*(bq w).2 from f') (bo hq);have e:2*(bq w).2*2^w=(2*2^w)*(bq w).2:=E';rw[e]at m1;exact Fu (nO fd.1 m1) f'
 have wd:=aaZ af (show 0<(bq w).1 from f') cu.2 fd.2 f' l2 f2 f0 f';refine⟨?_,?_,?_,?_⟩
 .have t:=DE ov (HN (p:=(1*2^w,1*2^w)) (HJ w) e)
  have e1:z+(e:Rat)*1=z+(e:Rat):=E';rw[e1]at t;exact t
 .have xt:(ju (1*2^w,1*2^w) e).2=(ju (1*2^w,1*2^w) e).1:=by unfold ju;split<;>rfl
  simp only[qm];rw[xt];simp only[B5];omega
 .exact cO (c:=fM N) E' (by rw[hz];grind)
 .have p1:2*fE N y<=fM N:=by
   have:=CI N y0 (show y<=1/3 from E');simp only[fM]
   grind
  exact cO (c:=fM N) E' (by rw[hz];grind)
end
section
variable {a b:Int}{w:Nat}{r t x:Rat}
def mB(N:Nat):Prop:=500<=N/\39*sn 2 (N-1)<=cs (1/2) 240/2
theorem VL(ht:0<t)(k:Nat):0<cs t k:=by
 induction k with
 |zero=>simp[cs];grind
 |succ k ih=>
  have e:=iF.step t k;have p:=xJ ih (xJ ht ht);have hc:=iF.qt k;have h0:=iF.fj (cL ht) (k+1);have:cs t (k+1)≠0:=by intro e0;rw[e0]at e;grind
  grind
theorem tG:∃N,mB N:=by
 have hp:=VL (t:=1/2) M' 240;unfold mB;generalize cs (1/2) 240=δ at hp|-;obtain⟨n0,h⟩:=acF (δ/78) E';refine⟨max 500 (n0+1),f',?_⟩;have h1:=h (max 500 (n0+1)-1) f';generalize sn 2 (max 500 (n0+1)-1)=τ at h1|-
 grind
theorem PV(N:Nat)(hN:2<=N):3<=oF N/\oF N<=16/5:=by
 obtain⟨m,rfl⟩:=l6 hN;have f:∀t:Rat,0<=t->2*t<=1->∀k,ah t (k+1)<=ah t k:=λt h0 h1 k=>by have:=rl h0 h1 k;have:=fK h0 (k+1);grind
 have a:=uj (f:=ah (1/5)) (n:=2) rfl (fK M') (λk _=>f _ M' M' k) m;have b:=uj (f:=ah (1/5)) (n:=0) rfl (fK M') (λk _=>f _ M' M' k) (2+m);have c:=uj (f:=ah (1/239)) (n:=0) rfl (fK M') (λk _=>f _ M' M' k) (2+m);have e1:al (ah (1/5)) 2=74/375:=M';have e2:ah (1/5) 0=1/5:=M';have e3:ah (1/239) 0=1/239:=M';have e4:al (ah (1/5)) 0=0:=rfl;have e5:al (ah (1/239)) 0=0:=rfl;rw[e1]at a;rw[e4,e2,du]at b;rw[e5,e3,du]at c;simp only[oF,ni];exact⟨E',E'⟩
def fP(w:Nat):Int×Int:=((ll w).1/2^1,-((-(ll w).2)/2^1))
theorem Dv(ab:w<=900)(N:Nat)(hN:400<=N):aW w (fP w) (oF N/2)/\(fP w).2-(fP w).1<=2:=by
 have p:=PW ab N hN;have e:fP w=rt (ll w) 1 (2^1):=JH (ll w) 1;rw[e];refine⟨rH p.1 p' p' ?_,?_⟩
 .have e1:(((2:Int)^1:Int):Rat)=2:=rfl
  rw[e1,nl];grind
 .exact tK (c:=1) p' (by have:=p.2;simp;omega)
theorem Hw(ab:w<=900):(fP w).1<=(fP w).2/\(fP w).2<=(fP w).1+2/\3*2^w<=(fP w).2*2/\(fP w).1*5<=8*2^w:=by
 have h:=Dv (w:=w) ab 400 f';have b:=PV 400 f';have hq:=two_pos w;have e2:((2:Int):Rat)=2:=rfl;have e3:((3:Int):Rat)=3:=rfl;have e5:((5:Int):Rat)=5:=rfl;have e8:((8:Int):Rat)=8:=rfl;refine⟨jq h.1,f',?_,?_⟩
 .rw[<-cj,cg,cg,cV,e2,e3]
  have m:=cA b.1 (cL hq);have:=h.1.2
  grind
 .rw[<-cj,cg,cg,cV,e5,e8]
  have m:=cA b.2 (cL hq);have:=h.1.1
  grind
def fZ(w:Nat)(X:Int):Int:=X/(fP w).2
def dW(w:Nat)(X:Int):Int×Int:=(X-fZ w X*(fP w).2,X-fZ w X*(fP w).1)
theorem IY{X:Int}(hw:60<=w)(af:w<=900)(hx:x*2^w=(X:Rat))(h0:0<=X)(h1:X<=1024*2^w)(N:Nat)(hN:400<=N):
 aW w (dW w X) (x-(fZ w X:Rat)*(oF N/2))/\0<=fZ w X/\fZ w X<=683/\0<=(dW w X).1/\(dW w X).2<=2*2^w/\(dW w X).2-(dW w X).1<=1366:=by
 obtain⟨l1,l2,l3,l4⟩:=Hw af;have li:=Dv (w:=w) af N hN;have hq:=cf w;have ab:0<(fP w).2:=f';have dl:=ke (a:=X) ab;have k0:0<=fZ w X:=jv h0 (bo ab);have k1:fZ w X<=683:=by
  unfold fZ at*;generalize X/(fP w).2=k at*;rcases qc 683 k with h|h
  .have:=gj (show 684<=k from f') (bo ab)
   omega
  .exact h
 have ao:(1048576:Int)<=2^w:=jf (s:=20) f' p';have ay:fZ w X*(fP w).2<=fZ w X*(fP w).1+1366:=by
  have:=jk l2 k0;rw[tX]at this;omega
 have ax:fZ w X*(fP w).1<=fZ w X*(fP w).2:=jk l1 k0;have aw:fZ w X*(fP w).2<=X/\X<fZ w X*(fP w).2+(fP w).2:=by
  unfold fZ;rw[nN]at dl;omega
 refine⟨?_,k0,k1,by simp only[dW];omega,by simp only[dW];omega,by simp only[dW];omega⟩;have i1:aW w (X,X) x:=A0 hx;have i2:=wc (k:=fZ w X) (a:=(fP w).1) (b:=(fP w).2) li.1 k0;have:=HK i1 i2;rw[gD (fP w).2,gD (fP w).1]at this;exact this
theorem acG(t0:0<=t)(t2:t<=2):sn t (2*(w/8+6))*2^w<=1:=by
 have t4:=xd t0 t2;have d:=Av (T:=sn t) (a:=4) (r:=16) M' (λk hk=>by
  obtain⟨j,rfl⟩:=l6 hk;have h2:=DH j 10 11 E' E';have e4:((4:Nat):Rat)=4:=rfl;have:=yQ (r:=1/16) (gh.qt (4+j)) (gh.fj t0 (4+j)) (gh.step t (4+j)) (by rw[FX,e4];grind)
  grind) (2*(w/8+6)-4)
 rw[show 4+(2*(w/8+6)-4)=2*(w/8+6)from f']at d;have f0:=tN t0 t2 0;have f1:=tN t0 t2 1;have f2:=tN t0 t2 2;have f3:=tN t0 t2 3;have e0:sn t 0=t:=rfl;exact Ak (r:=16) (m:=2*(w/8+6)-4) (s:=4) (q:=w) (gh.fj t0 _) E' M' f'
theorem VM(t0:0<=t)(t2:t<=2):cs t (2*(w/8+6))*2^w<=1:=by
 have t4:=xd t0 t2;have d:=Av (T:=cs t) (a:=4) (r:=16) M' (λk hk=>by
  obtain⟨j,rfl⟩:=l6 hk;have h2:=DH j 9 10 E' E';have e4:((4:Nat):Rat)=4:=rfl;have:=yQ (r:=1/16) (iF.qt (4+j)) (iF.fj t0 (4+j)) (iF.step t (4+j)) (by rw[FX,e4];grind)
  grind) (2*(w/8+6)-4)
 rw[show 4+(2*(w/8+6)-4)=2*(w/8+6)from f']at d;have f1:=uw t0 t2 1 f';have f2:=uw t0 t2 2 f';have f3:=uw t0 t2 3 f';have e1:cs t 1=t*t/2:=by simp[cs];grind
 exact Ak (r:=16) (m:=2*(w/8+6)-4) (s:=4) (q:=w) (iF.fj t0 _) E' M' f'
theorem EW{t:Int}(hx:x*2^w=(t:Rat))(ht:0<=t)(h1:t<=2*2^w):0<=x/\x<=2:=
 ⟨yu hx ht,(AO hx).1 (by have:=cj.2 h1;rw[cg,cV,sN]at this;exact this)⟩
def nd(w:Nat)(p:Int×Int):Int×Int:=((mT p.1 w (w/8+6)).1-(p.2-p.1),(mT p.1 w (w/8+6)).2+(p.2-p.1))
def na(w:Nat)(p:Int×Int):Int×Int:=((mS p.1 w (w/8+6)).1-(p.2-p.1),(mS p.1 w (w/8+6)).2+(p.2-p.1))
theorem QZ(aw:w<=900)(ha:0<=a)(hb:b<=2*2^w)(hw:b-a<=1366)(h:aW w (a,b) r)(N:Nat)(hN:mB N):
 aW w (nd w (a,b)) (fk N r)/\(nd w (a,b)).2-(nd w (a,b)).1<=2^40:=by
 have ao:a<=b:=jq h;have hq:=two_pos w;obtain⟨x,hx⟩:=pC a w;obtain⟨y,hy⟩:=pC b w;obtain⟨e1,e2⟩:=ends hx hy h;obtain⟨x0,x2⟩:=EW hx ha f';obtain⟨y0,y2⟩:=EW hy f' hb;obtain⟨N0,_⟩:=hN;have row:=(QB hx ha f').jg (w/8+6) (gh.fj x0) (λk _=>by have:=tN x0 x2 k;have:=gh.fj x0 k;grind);obtain⟨m,hm⟩:=l6 (show 2*(w/8+6)+3<=N from f');have r1:=row.1 (3+m) f';rw[show 2*(w/8+6)+(3+m)=N from f']at r1;have f1:sn x (2*(w/8+6)+1)<=sn x (2*(w/8+6)):=by have:=tN x0 x2 (2*(w/8+6));have:=gh.fj x0 (2*(w/8+6));grind
 have f2:sn x (2*(w/8+6)+2)<=sn x (2*(w/8+6)+1):=by have:=tN x0 x2 (2*(w/8+6)+1);have:=gh.fj x0 (2*(w/8+6)+1);grind
 have ab:=Re N x0 e1 (show r<=2 from E');have tl:=acG (w:=w) x0 x2;have hn:=lM (show w/8+6<=118 from f');have e:((118:Nat):Rat)=118:=rfl;rw[e]at hn;have g1:=cA f1 (cL hq);have g2:=cA f2 (cL hq);have g3:=cA ab.1 (cL hq);have g4:=cA ab.2 (cL hq);have g5:r*2^w<=(b:Rat):=h.2;have af:=row.2;simp only[fk]at g3 g4;refine⟨⟨?_,?_⟩,?_⟩
 .simp only[nd,iY,fk,mT]
  have:=r1.1
  grind
 .simp only[nd,iY,jG,fk,mT]
  have:=r1.2
  grind
 .have:=rY (c:=1186) af (by have e:((1186:Int):Rat)=1186:=rfl;rw[e];grind)
  simp only[nd,mT];omega
theorem Mt(ax:60<=w)(ay:w<=900)(ha:0<=a)(hb:b<=2*2^w)(hw:b-a<=1366)(h:aW w (a,b) r)(N:Nat)(hN:mB N):
 aW w (na w (a,b)) (fm N r)/\(na w (a,b)).2-(na w (a,b)).1<=2^40:=by
 have ab:a<=b:=jq h;have hq:=two_pos w;obtain⟨x,hx⟩:=pC a w;obtain⟨y,hy⟩:=pC b w;obtain⟨e1,e2⟩:=ends hx hy h;obtain⟨x0,x2⟩:=EW hx ha f';obtain⟨y0,y2⟩:=EW hy f' hb;obtain⟨N0,N1⟩:=hN;have row:=(Qz hx ha f').jg (w/8+6) (iF.fj x0) (λk hk=>by have:=uw x0 x2 k f';have:=iF.fj x0 k;grind);obtain⟨m,hm⟩:=l6 (show 2*(w/8+6)+3<=N from f');have r1:=row.1 (3+m) f';rw[show 2*(w/8+6)+(3+m)=N from f']at r1;have f1:=uw x0 x2 (2*(w/8+6)) f';have f2:=uw x0 x2 (2*(w/8+6)+1) f';have f3:=iF.fj x0 (2*(w/8+6));have f4:=iF.fj x0 (2*(w/8+6)+1);have r2:r<=2:=E';have AK:=Mw x0 e1 r2 N;have tl:=VM (w:=w) x0 x2;have hn:=lM (show w/8+6<=118 from f');have e:((118:Nat):Rat)=118:=rfl;rw[e]at hn;have g5:r*2^w<=(b:Rat):=h.2;have ao:=row.2;have low:fm N x-(cs x (2*(w/8+6))-cs x (2*(w/8+6)+1))-(r-x)<=fm N r:=by
  rcases xI (a:=r) (b:=1)with h1|h1
  .have:=fg (show(r+x)/2<=1 from E') (show 0<=r-x from E')
   grind
  .have af:=VI x0 e1 r2 (N-1)
   rw[show N-1+1=N from f']at af;have pE:r-x<=1/2:=by
    have h3:(y-x)<=1/2:=by
     refine cO hq ?_;have h4:=cj.2 (show(b-a)*2<=2^w by have:(4096:Int)<=2^w:=jf (s:=12) f' p';omega);rw[cg,iY,cV,<-hx,<-hy,sN]at h4
     grind
    grind
   have xh:1/2<=x:=E';have c1:=iF.mono (a:=1/2) M' xh (2*(w/8+6));have c2:cs (1/2) 240<=cs (1/2) (2*(w/8+6)):=by
    have hf:∀j k,1<=k->cs (1/2) (k+j)<=cs (1/2) k:=by
     intro j k hk
     induction j with
     |zero=>exact mE
     |succ j ih=>
      have:=uw (t:=1/2) M' M' (k+j) f';have:=iF.fj (t:=1/2) M' (k+j);rw[<-ie]
      grind
    have:=hf (240-2*(w/8+6)) (2*(w/8+6)) f';rwa[show 2*(w/8+6)+(240-2*(w/8+6))=240 from f']at this
   have a0:0<=sn 2 (N-1):=gh.fj M' _;have c3:=cA (show r-x<=1 from E') (show 0<=39*sn 2 (N-1)from E')
   grind
 have g1:=cA low (cL hq);have g2:=cA AK.1 (cL hq);have g3:=dV (show 0<=cs x (2*(w/8+6)+1)-cs x (2*(w/8+6)+2)from E') (cL hq);simp only[fm]at g1 g2;have aw:(0:Rat)<=(b:Rat)-(a:Rat):=by have:=cj.2 ab;grind
 refine⟨⟨?_,?_⟩,?_⟩
 .simp only[na,iY,fm,mS]
  have:=r1.1
  grind
 .simp only[na,iY,jG,fm,mS]
  have:=r1.2
  grind
 .have:=rY (c:=1186) ao (by have e:((1186:Int):Rat)=1186:=rfl;rw[e];grind)
  simp only[na,mS];omega
end
section
variable {H L:Nat}
def vJ(p:Nat->Bool):Nat->Bool
 |0=>Z'
 |n+1=>p n&&vJ p n
theorem Gf{p:Nat->Bool}{n:Nat}(h:vJ p n=Z'):∀k,k<n->p k=true:=by
 induction n with
 |zero=>intro k hk;omega
 |succ n ih=>
  simp only[vJ,dG]at h;intro k hk;rcases Nat.lt_succ_iff_lt_or_eq.1 hk with h1|h1
  .exact ih h.2 k h1
  .rw[h1];exact h.1
def Ao(L H:Nat)(k:Nat):Bool:=((k+1)*L-1)/2^124==((k+1)*H+2^53)/2^124
def OE:Nat:=1224685061431752149387114016819916847747660333428801675508466606222838698
def qJ:Nat:=1224685061431752149387114016819916847747660333428801675508466606222838699
def NL:Nat:=2775356879362230867616538564893568898417613047244204940481354912704001575
def mj:Nat:=2775356879362230867616538564893568898417613047244204940481354912704001576
theorem Z5:bq 240=((OE:Int),(qJ:Int)):=M'
theorem YX:fP 240=((NL:Int),(mj:Int)):=M'
theorem Z6:vJ (Ao OE qJ) 1537=true:=M'
theorem YY:vJ (Ao NL mj) 1537=true:=M'
theorem Ml{k:Nat}(h:Ao L H k=Z')(hL:0<L)(m:Nat)(h1:(k+1)*L<=m*2^124):(k+1)*H+2^53<m*2^124:=by
 simp only[Ao,fU]at h;have hp:0<(k+1)*L:=xF f' hL;generalize(k+1)*L=a at*;generalize(k+1)*H=b at*;rcases dQ (b+2^53) (m*2^124)with h2|h2
 .exact h2
 .exfalso
  have e1:m<=(b+2^53)/2^124:=(Kx p').2 h2;have e2:(a-1)/2^124<m:=Cy (by rw[iw];omega);omega
theorem Qj{c:Rat}(hi:aW 240 ((L:Int),(H:Int)) c)(hL:0<L)(ab:vJ (Ao L H) 1537=Z'){w:Nat}{h:Int}(hw:200<=w)(h1:c*2^w<=(h:Rat))(h2:(h:Rat)<=c*2^w+2)(h0:0<h){Y:Nat}{x:Rat}(hx:x*2^116=(Y:Rat))(hk:Y*2^124/H<=1536):
 ∀X:Int,x*2^w=(X:Rat)->X/h=((Y*2^124/H:Nat):Int):=by
 intro X hX;have hH:0<H:=by have:=jq hi;omega
 obtain⟨k,ek⟩:=nm (Y*2^124/H);rw[ek]at hk|-;have d1:k*H<=Y*2^124:=by rw[<-ek];exact FL _ _
 have d2:Y*2^124<(k+1)*H:=by rw[<-ek];exact Nat.lt_mul_of_div_lt (Nat.lt_succ_self _) hH
 have a3:(2:Rat)^240=2^116*2^124:=by rw[<-kF]
 have aw:(((2:Nat)^124:Nat):Rat)=2^124:=M';have ao:((Y*2^124:Nat):Rat)=x*2^240:=by rw[zW,aw,<-hx,a3];grind
 have a6:=two_pos 240;have qw:=two_pos w;obtain⟨i1,i2⟩:=hi;simp only at i1 i2;rw[qp]at i1 i2;have lh:L<=H:=by have:=cj.1 (fD (show((L:Int):Rat)<=_ by rw[qp];exact i1) (show _<=((H:Int):Rat)by rw[qp];exact i2));omega
 have af:=iS k;have up:x<((k:Rat)+1)*c:=by
  have n1:Y*2^124<(k+1)*L:=by
   rcases dQ (Y*2^124) ((k+1)*L)with h|h
   .exact h
   .have:=Ml (Gf ab k f') hL Y h
    omega
  have n2:=Tx.2 n1;rw[ao,zW,jQ]at n2;have n3:=fg i1 (show 0<=(k:Rat)+1 from E');have n4:x*2^240<((k:Rat)+1)*c*2^240:=E';exact Rat.lt_of_mul_lt_mul_right n4 (cL a6)
 have low:(k:Rat)*(h:Rat)<=(X:Rat):=by
  rcases re k with e0|e0
  .subst e0
   have x0:0<=x:=cO (two_pos 116) (by rw[hx];have:=iS Y;grind);have:=dV x0 (cL qw);rw[<-hX];simp only[show((0:Nat):Rat)=0 from rfl]
   grind
  .obtain⟨j,rfl⟩:∃j,k=j+1:=⟨k-1,f'⟩
   have n1:=Ml (Gf ab j f') hL Y (fC (kQ _ lh) d1);have n2:=Tx.2 n1;rw[ao,FX,zW]at n2;have ay:(((2:Nat)^53:Nat):Rat)=2^53:=M';rw[ay]at n2;have n3:=fg i2 af;have n4:(((j+1:Nat):Rat)*c)*2^240+2^53<=x*2^240:=E';obtain⟨v,rfl⟩:=l6 hw;have e:(2:Rat)^(200+v)*2^40=2^240*2^v:=by rw[<-kF,<-kF];congr 1;omega
   have qv:(1:Rat)<=2^v:=by have:=IW (dU v);rwa[Rat.pow_zero]at this
   have a7:=two_pos 40;have n5:=cA n4 (cL (two_pos v));have n6:((((j+1:Nat):Rat)*c)*2^(200+v))*2^40+2^53*2^v<=(x*2^(200+v))*2^40:=by
    have a1:((((j+1:Nat):Rat)*c)*2^(200+v))*2^40=(((j+1:Nat):Rat)*c)*(2^240*2^v):=by rw[<-e];grind
    have a2:(x*2^(200+v))*2^40=x*(2^240*2^v):=by rw[<-e];grind
    rw[a1,a2]
    grind
   have a4:=lM hk;have e6:((1536:Nat):Rat)=1536:=rfl;rw[e6]at a4;have n7:=fg h2 af;have ax:(2:Rat)^40=1099511627776:=M';have a0:(2:Rat)^53=9007199254740992:=M';rw[<-hX];refine cO a7 (fD ?_ n6);rw[ax,a0];generalize(2:Rat)^(200+v)=W at*;generalize(2:Rat)^v=V at*;generalize((j+1:Nat):Rat)=K at*
   grind
 have a5:(X:Rat)<((k:Rat)+1)*(h:Rat):=by
  have a:=KL up qw;have b:=fg h1 (show 0<=(k:Rat)+1 from E');rw[<-hX]
  grind
 have l1:(k:Int)*h<=X:=by rw[<-cj,cg,qp];exact low
 have l2:X<((k:Int)+1)*h:=by rw[<-Am,cg,jG,qp];exact a5
 have l3:=ke (a:=X) h0;have m1:X/h<(k:Int)+1:=lX (zI l3.1 l2) (bo h0);have m2:(k:Int)<X/h+1:=lX (zI l1 l3.2) (bo h0);omega
end
end Go.Hl
