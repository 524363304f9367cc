/- Lemmas for TopSound and TopBracket. -/
import Derived.Test.YtpgglolpkbepjaaGreatTAA
set_option linter.unusedVariables false
set_option linter.unusedSimpArgs false
namespace Go.Hl
open Option renaming some→T',none→Y'
open Bool renaming true→Z',false→a0a
section
variable {n:Nat}{f:Nat->Rat}
def sm(f:Nat->Rat):Nat->Rat
 |0=>0
 |n+1=>sm f n+f n
def al(f:Nat->Rat):Nat->Rat
 |0=>0
 |n+1=>if n%2=0 then al f n+f n else al f n-f n
theorem rQ(h0:∀k,0<=f k)(h:∀k,n<=k->2*f (k+1)<=f k)(m:Nat):
 sm f n<=sm f (n+m)/\sm f (n+m)+2*f (n+m)<=sm f n+2*f n:=by
 induction m with
 |zero=>simp
 |succ m ih=>
  have h1:=h0 (n+m);have h2:=h (n+m) f';rw[<-ie,sm]
  grind
theorem Q6{g:Nat->Rat}(h:∀k,f k<=g k)(n:Nat):sm f n<=sm g n:=by
 induction n with
 |zero=>simp[sm]
 |succ n ih=>have:=h n;simp only[sm];grind
theorem uj(hn:n%2=0)(h0:∀k,0<=f k)(h:∀k,n<=k->f (k+1)<=f k)(m:Nat):
 al f n<=al f (n+m)/\al f (n+m)<=al f n+f n/\
  (if(n+m)%2=0 then al f (n+m)+f (n+m)<=al f n+f n else al f n+f (n+m)<=al f (n+m)):=by
 induction m with
 |zero=>have:=h0 n;simp[hn];grind
 |succ m ih=>
  have h1:=h0 (n+m);have h2:=h (n+m) f';have h3:=h0 (n+m+1);obtain⟨a,b,c⟩:=ih;rw[<-ie,al]
  by_cases e:(n+m)%2=0
  .have e':¬(n+m+1)%2=0:=f'
   rw[au e]at c;rw[au e,aq e'];refine⟨?_,?_,?_⟩<;>grind
  .have e':(n+m+1)%2=0:=f'
   rw[aq e]at c;rw[aq e,au e'];refine⟨?_,?_,?_⟩<;>grind
theorem TJ(hn:n%2=0)(h0:∀k,0<=f k)(h:∀k,n<=k->f (k+1)<=f k)(m:Nat)(hm:3<=m):
 al f n+(f n-f (n+1))<=al f (n+m)/\al f (n+m)+(f (n+1)-f (n+2))<=al f n+f n:=by
 have e1:(n+1)%2≠0:=f';have e2:(n+2)%2=0:=f';have a:=uj (f:=f) e2 h0 (λk hk=>h k f') (m-2);rw[show n+2+(m-2)=n+m from f']at a;have s1:al f (n+1)=al f n+f n:=by rw[al,au hn]
 have s2:al f (n+2)=al f n+f n-f (n+1):=by rw[show n+2=(n+1)+1 from rfl,al,aq e1,s1]
 rw[s2]at a;obtain⟨a1,a2,_⟩:=a;exact⟨E',E'⟩
theorem zZ(f g:Nat->Rat)(n:Nat):al (λk=>f k-g k) n=al f n-al g n:=by
 induction n with
 |zero=>simp[al];grind
 |succ n ih=>
  simp only[al];split<;>grind
theorem acC(f g:Nat->Rat)(n:Nat):sm (λk=>f k-g k) n=sm f n-sm g n:=by
 induction n with
 |zero=>simp[sm];grind
 |succ n ih=>simp only[sm];grind
theorem Q7(c:Rat)(f:Nat->Rat)(n:Nat):sm (λk=>c*f k) n=c*sm f n:=by
 induction n with
 |zero=>simp[sm]
 |succ n ih=>simp only[sm];grind
end
section
variable {a b t:Rat}
theorem cO{c:Rat}(hc:0<c)(h:a*c<=b*c):a<=b:=Rat.le_of_mul_le_mul_right h hc
theorem oI{c d:Rat}(h:a<=b)(k:c<=d)(hc:0<=c)(hb:0<=b):a*c<=b*d:=
 fD (cA h hc) (fg k hb)
theorem iS(k:Nat):(0:Rat)<=(k:Rat):=Rat.natCast_nonneg
theorem jQ(k:Nat):((k+1:Nat):Rat)=(k:Rat)+1:=by simp[FX]
def ex(t:Rat):Nat->Rat
 |0=>1
 |k+1=>ex t k*t/((k:Rat)+1)
theorem kz(t:Rat)(k:Nat):ex t (k+1)*((k:Rat)+1)=ex t k*t:=by
 have:=iS k;rw[ex];exact iy E'
theorem jL(ht:0<=t)(k:Nat):0<=ex t k:=by
 induction k with
 |zero=>simp[ex];grind
 |succ k ih=>
  have h1:=iS k;refine cO (c:=(k:Rat)+1) E' ?_;rw[kz];have:=dV ih ht
  grind
theorem Dm(ht:0<=t)(h1:t<=1)(k:Nat)(hk:1<=k):2*ex t (k+1)<=ex t k:=by
 have h2:=iS k;have h3:(1:Rat)<=(k:Rat):=by
  have:=zV (a:=1) (b:=k)|>.2 hk
  simpa using this
 have h4:=jL ht k;refine cO (c:=(k:Rat)+1) E' ?_;have h5:=kz t k;have h6:ex t k*t<=ex t k*1:=fg h1 h4;have h7:ex t k*1<=ex t k*(k:Rat):=fg h3 h4
 grind
theorem Ha(ha:0<=a)(ab:a<=b)(k:Nat):ex a k<=ex b k:=by
 induction k with
 |zero=>simp[ex]
 |succ k ih=>
  have h1:=iS k;refine cO (c:=(k:Rat)+1) E' ?_;rw[kz,kz];exact oI ih ab ha (jL E' k)
theorem G8(ha:0<=a)(ab:a<=b)(k:Nat):ex b (k+1)-ex a (k+1)<=(b-a)*ex b k:=by
 have hb:0<=b:=E';have hd:0<=b-a:=E'
 induction k with
 |zero=>simp[ex];grind
 |succ k ih=>
  have h1:=iS k;refine cO (c:=((k+1:Nat):Rat)+1) (by rw[jQ];grind) ?_;have e1:=kz b (k+1);have e2:=kz a (k+1);have e3:=kz b k;have e4:=kz a k;have h2:=cA ih ha;have h3:(b-a)*ex b k*a<=(b-a)*ex b k*b:=fg ab (dV hd (jL hb k));have h4:(b-a)*ex b k*b=(b-a)*(ex b (k+1)*((k:Rat)+1)):=by rw[e3];grind
  rw[jQ]at e1 e2|-;have g1:(ex b (k+1+1)-ex a (k+1+1))*((k:Rat)+1+1)=ex b (k+1)*b-ex a (k+1)*a:=by rw[<-e1,<-e2];grind
  have g2:ex b (k+1)*b-ex a (k+1)*a=(b-a)*ex b (k+1)+(ex b (k+1)-ex a (k+1))*a:=E';have g3:(b-a)*ex b (k+1)*((k:Rat)+1+1)=(b-a)*ex b (k+1)+(b-a)*(ex b (k+1)*((k:Rat)+1)):=E';rw[g1,g2,g3,<-h4]
  grind
def gQ(N:Nat)(t:Rat):Rat:=sm (ex t) N
theorem G7(N:Nat)(ha:0<=a)(ab:a<=b):gQ N a<=gQ N b:=Q6 (Ha ha ab) N
theorem G6(N:Nat)(ht:0<=t)(h1:t<=1):gQ N t<=3:=by
 have h:=rQ (f:=ex t) (n:=1) (jL ht) (λk hk=>Dm ht h1 k hk);have e1:sm (ex t) 1=1:=by simp[sm,ex];grind
 have e2:ex t 1=t:=by simp[ex];grind
 cases N with
 |zero=>simp[gQ,sm];grind
 |succ n=>
  have:=(h n).2;have h3:=jL ht (1+n);rw[e1,e2]at this;simp only[gQ,q8 n 1]
  grind
theorem Xh(N:Nat)(ha:0<=a)(ab:a<=b)(hb:b<=1):gQ N b-gQ N a<=3*(b-a):=by
 have hd:0<=b-a:=E';cases N with
 |zero=>simp[gQ,sm];grind
 |succ n=>
  have key:∀n,sm (ex b) (n+1)-sm (ex a) (n+1)<=(b-a)*sm (ex b) n:=by
   intro n
   induction n with
   |zero=>simp[sm,ex];grind
   |succ n ih=>
    have h5:=G8 ha ab n;have g1:sm (ex b) (n+1+1)=sm (ex b) (n+1)+ex b (n+1):=rfl;have g2:sm (ex a) (n+1+1)=sm (ex a) (n+1)+ex a (n+1):=rfl;have g3:sm (ex b) (n+1)=sm (ex b) n+ex b n:=rfl;have g4:(b-a)*sm (ex b) (n+1)=(b-a)*sm (ex b) n+(b-a)*ex b n:=by rw[g3];grind
    rw[g1,g2,g4]
    grind
  have h1:=key n;have h2:=G6 n (t:=b) E' hb;have h3:=fg h2 hd;simp only[gQ]at*
  grind
structure Pow(p:Rat->Nat->Rat)(c:Nat->Rat)(s:Rat):Prop where
 qt:∀k,0<c k
 step:∀t k,p t (k+1)*c k=p t k*(t*t)
 zero:∀t,0<=t->0<=p t 0
 s0:0<=s
 base:∀a b,0<=a->a<=b->s*(b-a)*p a 0<=a*(p b 0-p a 0)
 D9:∀a b,a<=b->p a 0<=p b 0
section
variable {p:Rat->Nat->Rat}{c:Nat->Rat}{s:Rat}
theorem Pow.fj(h:Pow p c s)(ht:0<=t)(k:Nat):0<=p t k:=by
 induction k with
 |zero=>exact h.zero t ht
 |succ k ih=>
  refine cO (h.qt k) ?_;rw[h.step];have:=dV ih (dV ht ht)
  grind
theorem Pow.mono(h:Pow p c s)(ha:0<=a)(ab:a<=b)(k:Nat):p a k<=p b k:=by
 have hb:0<=b:=E'
 induction k with
 |zero=>exact h.D9 a b ab
 |succ k ih=>
  refine cO (h.qt k) ?_;rw[h.step,h.step];exact oI ih (oI ab ab ha hb) (dV ha ha) (h.fj hb k)
theorem Pow.low(h:Pow p c s)(ha:0<=a)(ab:a<=b)(k:Nat):(2*(k:Rat)+s)*(b-a)*p a k<=a*(p b k-p a k):=by
 have hb:0<=b:=E';have hd:0<=b-a:=E'
 induction k with
 |zero=>have:=h.base a b ha ab;simp only[show((0:Nat):Rat)=0 from rfl];grind
 |succ k ih=>
  have hw:0<=p b k-p a k:=by have:=h.mono ha ab k;grind
  have hp:=h.fj ha k;refine cO (h.qt k) ?_;have e1:=h.step a k;have e2:=h.step b k;have h1:=fg ih (dV ha ha);have h2:a*(p b k-p a k)*(a*a)<=a*(p b k-p a k)*(b*b):=
   fg (oI ab ab ha hb) (dV ha hw)
  have h3:(a*(b-a)*p a k)*(2*a)<=(a*(b-a)*p a k)*(b+a):=
   fg E' (dV (dV ha hd) hp)
  have e3:(2*((k+1:Nat):Rat)+s)*(b-a)*p a (k+1)*c k=(2*(k:Rat)+s+2)*(b-a)*(p a k*(a*a)):=by
   rw[jQ,<-e1];grind
  have e4:a*(p b (k+1)-p a (k+1))*c k=a*(p b k*(b*b)-p a k*(a*a)):=by
   rw[<-e1,<-e2];grind
  rw[e3,e4]
  grind
theorem Pow.AK(h:Pow p c s)(ha:0<=a)(ab:a<=b)(k:Nat):
 (2*(k:Rat)+s)*(c k*(p b (k+1)-p a (k+1)))<=(2*(k:Rat)+s+2)*(b*b)*(p b k-p a k):=by
 have hb:0<=b:=E';have hd:0<=b-a:=E';have hw:0<=p b k-p a k:=by have:=h.mono ha ab k;grind
 have hl:=h.low ha ab k;have e1:=h.step a k;have e2:=h.step b k;have h1:=cA hl (c:=b+a) E';have h2:(p b k-p a k)*(a*(b+a))<=(p b k-p a k)*(b*(2*b)):=
  fg (oI ab E' E' hb) hw
 have e3:c k*(p b (k+1)-p a (k+1))=p b k*(b*b)-p a k*(a*a):=by rw[<-e1,<-e2];grind
 rw[e3]
 grind
end
def pw(t:Rat):Nat->Rat
 |0=>t
 |k+1=>pw t k*(t*t)
theorem yV:Pow pw (λ_=>1) 1 where
 qt _:=E'
 step t k:=by simp[pw]
 zero t h:=h
 s0:=E'
 base a b _ _:=by simp[pw];grind
 D9 a b h:=h
def sn(t:Rat):Nat->Rat
 |0=>t
 |k+1=>sn t k*(t*t)/((2*(k:Rat)+2)*(2*(k:Rat)+3))
def cs(t:Rat):Nat->Rat
 |0=>1
 |k+1=>cs t k*(t*t)/((2*(k:Rat)+1)*(2*(k:Rat)+2))
theorem den_pos(k:Nat)(x y:Rat)(hx:0<x)(hy:0<y):0<(2*(k:Rat)+x)*(2*(k:Rat)+y):=by
 have:=iS k;exact xJ E' E'
theorem gh:Pow sn (λk=>(2*(k:Rat)+2)*(2*(k:Rat)+3)) 1 where
 qt k:=den_pos k _ _ E' E'
 step t k:=by
  have:=den_pos k 2 3 E' E';rw[sn];exact iy E'
 zero t h:=h
 s0:=E'
 base a b _ _:=by simp[sn];grind
 D9 a b h:=h
theorem iF:Pow cs (λk=>(2*(k:Rat)+1)*(2*(k:Rat)+2)) 0 where
 qt k:=den_pos k _ _ E' E'
 step t k:=by
  have:=den_pos k 1 2 E' E';rw[cs];exact iy E'
 zero t h:=by simp[cs];grind
 s0:=E'
 base a b _ _:=by simp[cs];grind
 D9 a b h:=by simp[cs]
end
section
variable {a b r t:Rat}
theorem Hx(ht:0<=t)(h:2*t<=1):4*(t*t)<=1:=by
 have h1:=oI h h E' E'
 grind
theorem xd(ht:0<=t)(h:t<=2):t*t<=4:=by
 have h1:=oI h h ht E'
 grind
def ah(t:Rat)(k:Nat):Rat:=pw t k/(2*(k:Rat)+1)
theorem qn(t:Rat)(k:Nat):ah t k*(2*(k:Rat)+1)=pw t k:=by
 have:=iS k;rw[ah];exact iy E'
theorem fK(ht:0<=t)(k:Nat):0<=ah t k:=by
 have:=iS k;refine cO (c:=2*(k:Rat)+1) E' ?_;rw[qn];have:=yV.fj ht k
 grind
theorem KX(ha:0<=a)(ab:a<=b)(k:Nat):ah a k<=ah b k:=by
 have:=iS k;refine cO (c:=2*(k:Rat)+1) E' ?_;rw[qn,qn];exact yV.mono ha ab k
theorem Gb(ht:0<=t)(hr:t*t<=r)(k:Nat):ah t (k+1)<=r*ah t k:=by
 have h1:=iS k;have h0:=fK ht k;have h2:=fK ht (k+1);have e1:=qn t k;have e2:=qn t (k+1);rw[jQ]at e2;rw[show pw t (k+1)=pw t k*(t*t)from rfl,<-e1]at e2;refine cO (c:=2*(k:Rat)+1) E' ?_;have h3:ah t k*(2*(k:Rat)+1)*(t*t)<=ah t k*(2*(k:Rat)+1)*r:=
  fg hr (dV h0 E')
 grind
def fE(N:Nat)(t:Rat):Rat:=sm (ah t) N
def ni(N:Nat)(t:Rat):Rat:=al (ah t) N
theorem rl(ht:0<=t)(h:2*t<=1)(k:Nat):4*ah t (k+1)<=ah t k:=by
 have:=Gb (r:=1/4) ht (by have:=Hx ht h;grind) k
 grind
theorem CI(N:Nat)(ha:0<=a)(ab:a<=b):fE N a<=fE N b:=Q6 (KX ha ab) N
theorem vH(ha:0<=a)(ab:a<=b)(k:Nat):0<=ah b k-ah a k:=by have:=KX ha ab k;grind
theorem KV(ha:0<=a)(ab:a<=b)(hb:2*b<=1)(k:Nat):4*(ah b (k+1)-ah a (k+1))<=ah b k-ah a k:=by
 have h1:=iS k;have h:=yV.AK ha ab k;have e1:=qn a k;have e2:=qn b k;have e3:=qn a (k+1);have e4:=qn b (k+1);have hw:=vH ha ab k;have h4:=Hx (t:=b) E' hb;rw[jQ]at e3 e4;rw[<-e1,<-e2,<-e3,<-e4]at h;have hp:0<(2*(k:Rat)+1)*(2*(k:Rat)+3):=xJ E' E';refine cO hp ?_;have h5:4*(b*b)*((ah b k-ah a k)*((2*(k:Rat)+1)*(2*(k:Rat)+3)))<=1*((ah b k-ah a k)*((2*(k:Rat)+1)*(2*(k:Rat)+3))):=
  cA h4 (dV hw E')
 grind
theorem KU(N:Nat)(ha:0<=a)(ab:a<=b)(hb:2*b<=1):fE N b-fE N a<=2*(b-a):=by
 have h:=rQ (f:=λk=>ah b k-ah a k) (n:=0) (λk=>vH ha ab k)
  (λk _=>by have:=KV ha ab hb k;have:=vH ha ab k;grind) N
 have sb:=acC (ah b) (ah a) N;have h2:=vH ha ab (0+N);have e1:ah b 0=b:=by simp[ah,pw];grind
 have e2:ah a 0=a:=by simp[ah,pw];grind
 simp only[du,sm,e1,e2]at h h2;simp only[fE]
 grind
theorem Li(N:Nat)(ha:0<=a)(ab:a<=b)(hb:2*b<=1):ni N a<=ni N b/\ni N b-ni N a<=b-a:=by
 have h:=uj (f:=λk=>ah b k-ah a k) (n:=0) rfl (λk=>vH ha ab k)
  (λk _=>by have:=KV ha ab hb k;have:=vH ha ab k;have:=vH ha ab (k+1);grind) N
 have sb:=zZ (ah b) (ah a) N;have e1:ah b 0=b:=by simp[ah,pw];grind
 have e2:ah a 0=a:=by simp[ah,pw];grind
 simp only[du,al,e1,e2]at h;simp only[ni]
 grind
def fk(N:Nat)(t:Rat):Rat:=al (sn t) N
def fm(N:Nat)(t:Rat):Rat:=al (cs t) N
theorem yQ{x y c:Rat}(hc:0<c)(hx:0<=x)(e:y*c=x*t)(h:t<=r*c):y<=r*x:=by
 refine cO hc ?_;have:=fg h hx
 grind
theorem DH(k:Nat)(x y:Rat)(hx:0<=x)(hy:0<=y):x*y<=(2*(k:Rat)+x)*(2*(k:Rat)+y):=by
 have h:=iS k;have h1:=dV h h;have h2:=dV h hx;have h3:=dV h hy
 grind
theorem tN(ht:0<=t)(h:t<=2)(k:Nat):3*sn t (k+1)<=2*sn t k:=by
 have h1:=xd ht h;have h2:=DH k 2 3 E' E';have:=yQ (r:=2/3) (gh.qt k) (gh.fj ht k) (gh.step t k) E'
 grind
theorem uw(ht:0<=t)(h:t<=2)(k:Nat)(hk:1<=k):3*cs t (k+1)<=cs t k:=by
 have h1:=xd ht h;obtain⟨j,rfl⟩:∃j,k=j+1:=⟨k-1,f'⟩;have h2:=DH j 3 4 E' E';have:=yQ (r:=1/3) (iF.qt (j+1)) (iF.fj ht (j+1)) (iF.step t (j+1)) (by rw[jQ];grind)
 grind
theorem Rg(ha:0<=a)(ab:a<=b)(hb:b<=2)(k:Nat):
 (2*(k:Rat)+1)*(2*(k:Rat)+2)*(sn b (k+1)-sn a (k+1))<=4*(sn b k-sn a k):=by
 have h1:=iS k;have h:=gh.AK ha ab k;have hw:0<=sn b k-sn a k:=by have:=gh.mono ha ab k;grind
 have h4:=xd (t:=b) E' hb;refine cO (c:=2*(k:Rat)+3) E' ?_;have h5:b*b*((sn b k-sn a k)*(2*(k:Rat)+3))<=4*((sn b k-sn a k)*(2*(k:Rat)+3)):=
  cA h4 (dV hw E')
 grind
theorem VK(ha:0<=a)(ab:a<=b)(hb:b<=2)(k:Nat)(hk:1<=k):
 2*(cs b (k+1)-cs a (k+1))<=2*(cs b k-cs a k):=by
 have h:=iF.AK ha ab k;have hw:0<=cs b k-cs a k:=by have:=iF.mono ha ab k;grind
 have af:0<=cs b (k+1)-cs a (k+1):=by have:=iF.mono ha ab (k+1);grind
 have h4:=xd (t:=b) E' hb;have h3:(1:Rat)<=(k:Rat):=by
  have:=zV (a:=1) (b:=k)|>.2 hk
  simpa using this
 refine cO (c:=2*(k:Rat)*(2*(k:Rat)+2)) (xJ E' E') ?_;have h5:b*b*((cs b k-cs a k)*(2*(k:Rat)+2))<=4*((cs b k-cs a k)*(2*(k:Rat)+2)):=
  cA h4 (dV hw E')
 have h6:3*((cs b (k+1)-cs a (k+1))*(2*(k:Rat)*(2*(k:Rat)+2)))<=(2*(k:Rat)+1)*((cs b (k+1)-cs a (k+1))*(2*(k:Rat)*(2*(k:Rat)+2))):=
  cA E' (dV af (dV E' E'))
 have h7:2*((cs b k-cs a k)*(2*(k:Rat)+2))<=(2*(k:Rat))*((cs b k-cs a k)*(2*(k:Rat)+2)):=
  cA E' (dV hw E')
 have h8:(2*(k:Rat)+1)*((cs b (k+1)-cs a (k+1))*(2*(k:Rat)*(2*(k:Rat)+2)))<=b*b*((cs b k-cs a k)*(2*(k:Rat)+2)):=by
  have e1:(2*(k:Rat)+1)*((cs b (k+1)-cs a (k+1))*(2*(k:Rat)*(2*(k:Rat)+2)))=(2*(k:Rat)+0)*((2*(k:Rat)+1)*(2*(k:Rat)+2)*(cs b (k+1)-cs a (k+1))):=E';have e2:b*b*((cs b k-cs a k)*(2*(k:Rat)+2))=(2*(k:Rat)+0+2)*(b*b)*(cs b k-cs a k):=E';rw[e1,e2];exact h
 have e3:2*(cs b k-cs a k)*(2*(k:Rat)*(2*(k:Rat)+2))=2*((2*(k:Rat))*((cs b k-cs a k)*(2*(k:Rat)+2))):=E';have hY:0<=(2*(k:Rat))*((cs b k-cs a k)*(2*(k:Rat)+2)):=dV E' (dV hw E');rw[e3,CD];generalize(cs b (k+1)-cs a (k+1))*(2*(k:Rat)*(2*(k:Rat)+2))=X' at*;generalize(2*(k:Rat))*((cs b k-cs a k)*(2*(k:Rat)+2))=Y at*;generalize(cs b k-cs a k)*(2*(k:Rat)+2)=X at*
 grind
theorem Re(N:Nat)(ha:0<=a)(ab:a<=b)(hb:b<=2):fk N b-fk N a<=b-a/\fk N a-fk N b<=b-a:=by
 have hn:∀k,0<=sn b k-sn a k:=λk=>by have:=gh.mono ha ab k;grind
 have f:∀k,1<=k->sn b (k+1)-sn a (k+1)<=sn b k-sn a k:=by
  intro k hk;have h3:(1:Rat)<=(k:Rat):=by
   have:=zV (a:=1) (b:=k)|>.2 hk
   simpa using this
  have h:=Rg ha ab hb k;have h1:=hn (k+1);have h2:12*(sn b (k+1)-sn a (k+1))<=(2*(k:Rat)+1)*(2*(k:Rat)+2)*(sn b (k+1)-sn a (k+1)):=
   cA (by have:=fg h3 (c:=(k:Rat)) E';grind) h1
  have h4:=hn k
  grind
 have f0:=Rg ha ab hb 0;simp at f0;have e1:sn b 0=b:=rfl;have e2:sn a 0=a:=rfl
 match N with
 |0=>simp[fk,al];grind
 |1=>simp[fk,al,e1,e2];grind
 |n+2=>
  have s:=zZ (sn b) (sn a) (n+2);have t2:al (λk=>sn b k-sn a k) 2=(b-a)-(sn b 1-sn a 1):=by simp[al,e1,e2];grind
  have h:=uj (f:=λk=>sn b k-sn a k) (n:=2) rfl hn (λk hk=>f k f') n;rw[t2,q8 2 n]at h;have f1:=f 1 f';simp only[fk]
  grind
end
section
variable {f:Nat->Rat}{a b t:Rat}
theorem Xi(ha:0<=a)(ab:a<=b)(k:Nat):(b-a)*ex a k<=ex b (k+1)-ex a (k+1):=by
 have hb:0<=b:=E';have hd:0<=b-a:=E'
 induction k with
 |zero=>simp[ex];grind
 |succ k ih=>
  have h1:=iS k;refine cO (c:=((k+1:Nat):Rat)+1) (by rw[jQ];grind) ?_;have e1:=kz b (k+1);have e2:=kz a (k+1);have e4:=kz a k;have h2:=cA ih ha;have h5:=fg (Ha ha ab (k+1)) hd;rw[jQ]at e1 e2|-;have h4:(b-a)*ex a k*a=(b-a)*(ex a (k+1)*((k:Rat)+1)):=by rw[e4];grind
  have g1:(ex b (k+1+1)-ex a (k+1+1))*((k:Rat)+1+1)=ex b (k+1)*b-ex a (k+1)*a:=by rw[<-e1,<-e2];grind
  have g2:ex b (k+1)*b-ex a (k+1)*a=(b-a)*ex b (k+1)+(ex b (k+1)-ex a (k+1))*a:=E';have g3:(b-a)*ex a (k+1)*((k:Rat)+1+1)=(b-a)*ex a (k+1)+(b-a)*(ex a (k+1)*((k:Rat)+1)):=E';rw[g1,g2,g3,<-h4]
  grind
theorem M9(ha:0<=a)(ab:a<=b)(k:Nat):
 0<=ex b (k+2)-ex a (k+2)-(b-a)*ex a (k+1)/\ex b (k+2)-ex a (k+2)-(b-a)*ex a (k+1)<=(b-a)*(b-a)*ex b k:=by
 have hd:0<=b-a:=E';have h1:=Xi ha ab (k+1);have h2:=G8 ha ab (k+1);have h3:=fg (G8 ha ab k) hd;exact⟨E',E'⟩
theorem Aq(t:Rat)(k:Nat):cs t k=ex t (2*k):=by
 induction k with
 |zero=>rfl
 |succ k ih=>
  have h:=iS k;have e:=iF.step t k;have e1:=kz t (2*k);have e2:=kz t (2*k+1);have h2:((2*k:Nat):Rat)=2*(k:Rat):=by simp[zW]
  have h3:((2*k+1:Nat):Rat)=2*(k:Rat)+1:=by rw[jQ,h2]
  rw[h2]at e1;rw[h3]at e2;have hp:=den_pos k 1 2 E' E';have e5:cs t (k+1)*((2*(k:Rat)+1)*(2*(k:Rat)+2))=ex t (2*(k+1))*((2*(k:Rat)+1)*(2*(k:Rat)+2)):=by
   rw[e,ih,show 2*(k+1)=2*k+1+1 from rfl];grind
  exact FW (cO hp (by rw[e5];exact mE)) (cO hp (by rw[e5];exact mE))
theorem BB(t:Rat)(k:Nat):sn t k=ex t (2*k+1):=by
 induction k with
 |zero=>simp[sn,ex];grind
 |succ k ih=>
  have h:=iS k;have e:=gh.step t k;have e1:=kz t (2*k+1);have e2:=kz t (2*k+2);have h2:((2*k:Nat):Rat)=2*(k:Rat):=by simp[zW]
  have h3:((2*k+1:Nat):Rat)=2*(k:Rat)+1:=by rw[jQ,h2]
  have h4:((2*k+2:Nat):Rat)=2*(k:Rat)+2:=by rw[jQ,h3];grind
  rw[h3]at e1;rw[h4]at e2;have hp:=den_pos k 2 3 E' E';have e5:sn t (k+1)*((2*(k:Rat)+2)*(2*(k:Rat)+3))=ex t (2*(k+1)+1)*((2*(k:Rat)+2)*(2*(k:Rat)+3)):=by
   rw[e,ih,show 2*(k+1)+1=2*k+2+1 from rfl];grind
  exact FW (cO hp (by rw[e5];exact mE)) (cO hp (by rw[e5];exact mE))
theorem Ge{g e:Nat->Rat}(h:∀k,0<=f k-g k/\f k-g k<=e k)(n:Nat):al f n-al g n<=sm e n/\al g n-al f n<=sm e n:=by
 induction n with
 |zero=>simp[al,sm];grind
 |succ n ih=>
  have:=h n;simp only[al,sm];split<;>grind
theorem vI(f:Nat->Rat)(n:Nat):al f (n+1)=f 0-al (λk=>f (k+1)) n:=by
 induction n with
 |zero=>simp[al];grind
 |succ n ih=>
  rw[al,ih,al]
  by_cases e:n%2=0
  .have e':¬(n+1)%2=0:=f'
   rw[au e,aq e'];grind
  .have e':(n+1)%2=0:=f'
   rw[aq e,au e'];grind
theorem Gd(c:Rat)(f:Nat->Rat)(n:Nat):al (λk=>c*f k) n=c*al f n:=by
 induction n with
 |zero=>simp[al]
 |succ n ih=>simp only[al];split<;>grind
theorem acD(f:Nat->Rat)(n:Nat):sm f (2*n)=sm (λk=>f (2*k)) n+sm (λk=>f (2*k+1)) n:=by
 induction n with
 |zero=>simp[sm];grind
 |succ n ih=>rw[show 2*(n+1)=2*n+1+1 from rfl,sm,sm,ih,sm,sm];grind
theorem Xj(ht:0<=t)(h:t<=2)(k:Nat)(hk:3<=k):2*ex t (k+1)<=ex t k:=by
 have h3:(3:Rat)<=(k:Rat):=by
  have:=zV (a:=3) (b:=k)|>.2 hk
  simpa using this
 have:=yQ (r:=1/2) (y:=ex t (k+1)) (x:=ex t k) (t:=t) (c:=(k:Rat)+1) E' (jL ht k) (kz t k) E'
 grind
theorem Xg(N:Nat)(ht:0<=t)(h:t<=2):gQ N t<=9:=by
 have hb:gQ (3+N) t<=9:=by
  have h1:=(rQ (f:=ex t) (n:=3) (jL ht) (λk hk=>Xj ht h k hk) N).2;have h2:=jL ht (3+N);have m:=Ha ht h;have e1:sm (ex t) 3+2*ex t 3=ex t 0+ex t 1+ex t 2+2*ex t 3:=by simp[sm];grind
  have m0:=m 0;have m1:=m 1;have m2:=m 2;have m3:=m 3;have v0:ex 2 0=1:=rfl;have v1:ex 2 1=2:=by rw[ex,ex];decide+kernel
  have v2:ex 2 2=2:=by rw[ex,v1];decide+kernel
  have v3:ex 2 3=4/3:=by rw[ex,v2];decide+kernel
  simp only[gQ]
  grind
 have hm:∀m,gQ N t<=gQ (m+N) t:=by
  intro m
  induction m with
  |zero=>simp
  |succ m ih=>
   have:=jL ht (m+N);rw[show m+1+N=(m+N)+1 from f'];simp only[gQ,sm]at*
   grind
 exact fD (hm 3) hb
theorem Bq{x y p q:Rat}(h1:-p<=x)(h2:x<=p)(h3:-q<=y)(h4:y<=q):x*y<=p*q:=by
 have a:=dV (show 0<=p-x from E') (show 0<=q+y from E');have b:=dV (show 0<=p+x from E') (show 0<=q-y from E')
 grind
theorem EJ(ht:0<=t)(h:t<=2)(n:Nat):sm (λk=>ex t (2*k)) n<=9/\sm (λk=>ex t (2*k+1)) n<=9:=by
 have h1:=acD (ex t) n;have h2:=Xg (2*n) ht h;have p:∀(f:Nat->Rat),(∀k,0<=f k)->∀n,0<=sm f n:=by
  intro f hf n
  induction n with
  |zero=>simp[sm]
  |succ n ih=>have:=hf n;simp only[sm];grind
 have h3:=p (λk=>ex t (2*k)) (λk=>jL ht _) n;have h4:=p (λk=>ex t (2*k+1)) (λk=>jL ht _) n;simp only[gQ]at h2;exact⟨E',E'⟩
theorem Gc(h:∀k,0<=f k)(n:Nat):-(sm f n)<=al f n/\al f n<=sm f n:=by
 have h1:=Ge (f:=f) (g:=λ_=>0) (e:=f) (λk=>by have:=h k;exact⟨E',E'⟩) n;have h2:al (λ_=>0) n=0:=by
  have:=Gd 0 f n;simpa using this
 rw[h2]at h1;exact⟨E',E'⟩
theorem Q9(ht:0<=t)(h:t<=2)(n:Nat):-9<=fk n t/\fk n t<=9:=by
 have h1:=Gc (f:=sn t) (gh.fj ht) n;have h2:=(EJ ht h n).2;have e:(λk=>ex t (2*k+1))=sn t:=by funext k;rw[BB]
 rw[e]at h2;simp only[fk];exact⟨E',E'⟩
theorem VH(ht:0<=t)(h:t<=2)(n:Nat):-9<=fm n t/\fm n t<=9:=by
 have h1:=Gc (f:=cs t) (iF.fj ht) n;have h2:=(EJ ht h n).1;have e:(λk=>ex t (2*k))=cs t:=by funext k;rw[Aq]
 rw[e]at h2;simp only[fm];exact⟨E',E'⟩
theorem aft(ha:0<=a)(ab:a<=b)(hb:b<=2)(n:Nat):
 -(9*((b-a)*(b-a)))<=fk (n+1) b-fk (n+1) a-(b-a)*fm (n+1) a/\
 fk (n+1) b-fk (n+1) a-(b-a)*fm (n+1) a<=9*((b-a)*(b-a)):=by
 have hd:0<=b-a:=E';have h:=Ge (f:=λk=>sn b (k+1)-sn a (k+1)) (g:=λk=>(b-a)*cs a (k+1)) (e:=λk=>(b-a)*(b-a)*ex b (2*k+1))
  (λk=>by
   have:=M9 ha ab (2*k+1);rw[BB,BB,Aq];exact this) n
 rw[Q7,Gd]at h;have s:=zZ (sn b) (sn a) (n+1);rw[vI]at s;have e1:sn b 0=b:=rfl;have e2:sn a 0=a:=rfl;have e3:cs a 0=1:=rfl;have s2:=vI (cs a) n;have h9:=fg (EJ (t:=b) E' hb n).2 (dV hd hd);simp only[fk,fm];simp only[e1,e2]at s;rw[e3]at s2;rw[s2,<-s];exact⟨E',E'⟩
theorem Rz(ha:0<=a)(ab:a<=b)(hb:b<=2)(n:Nat):
 -(9*((b-a)*(b-a)))<=fm (n+1) a-fm (n+1) b-(b-a)*fk n a/\
 fm (n+1) a-fm (n+1) b-(b-a)*fk n a<=9*((b-a)*(b-a)):=by
 have hd:0<=b-a:=E';have h:=Ge (f:=λk=>cs b (k+1)-cs a (k+1)) (g:=λk=>(b-a)*sn a k) (e:=λk=>(b-a)*(b-a)*ex b (2*k))
  (λk=>by
   have:=M9 ha ab (2*k);rw[BB,Aq,Aq];exact this) n
 rw[Q7,Gd]at h;have s:=zZ (λk=>cs b (k+1)) (λk=>cs a (k+1)) n;have s1:=vI (cs b) n;have s2:=vI (cs a) n;have e3:cs a 0=1:=rfl;have e4:cs b 0=1:=rfl;have h9:=fg (EJ (t:=b) E' hb n).1 (dV hd hd);rw[s]at h;simp only[fk,fm];rw[e3]at s2;rw[e4]at s1;rw[s1,s2];exact⟨E',E'⟩
theorem Rh(ht:0<=t)(h:t<=2)(n:Nat):-(sn 2 n)<=fk (n+1) t-fk n t/\fk (n+1) t-fk n t<=sn 2 n:=by
 have h1:=gh.mono ht h n;have h2:=gh.fj ht n;simp only[fk,al];split<;>exact⟨E',E'⟩
def en(n:Nat)(t:Rat):Rat:=fk (n+1) t*fk (n+1) t+fm (n+1) t*fm (n+1) t
theorem Xc{h:Rat}(ha:0<=a)(h0:0<=h)(h1:h<=1)(hb:a+h<=2)(n:Nat):en n (a+h)<=en n a+(18*h*sn 2 n+1000*(h*h)):=by
 have af:a<=a+h:=E';have ab:a<=2:=E';have s:=aft ha af hb n;have c:=Rz ha af hb n;have l:=Rh ha ab n;have bs:=Q9 ha ab (n+1);have bc:=VH ha ab (n+1);have b0:=Q9 ha ab n;have ht:0<=sn 2 n:=gh.fj E' n;have hh:0<=h*h:=dV h0 h0;have ax:h*h<=h:=by have:=fg h1 h0;grind
 rw[show a+h-a=h from E']at s c;simp only[en];generalize fk (n+1) (a+h)=S' at*;generalize fm (n+1) (a+h)=C' at*;generalize fk (n+1) a=S at*;generalize fm (n+1) a=C at*;generalize fk n a=s0 at*;generalize sn 2 n=τ at*;obtain⟨α,ao⟩:∃α,α=S'-S-h*C:=⟨_,rfl⟩;obtain⟨β,aw⟩:∃β,β=C-C'-h*s0:=⟨_,rfl⟩;rw[<-ao]at s;rw[<-aw]at c;have eS:S'=S+h*C+α:=E';have eC:C'=C-h*s0-β:=E';have p1:C*(S-s0)<=9*τ:=Bq E' E' E' E';have ay:=fg p1 h0;have p2:S*α<=9*(9*(h*h)):=Bq E' E' E' E';have p3:(-C)*β<=9*(9*(h*h)):=Bq E' E' E' E';have q1:-(9*h)<=h*C/\h*C<=9*h:=⟨by have:=fg bc.1 h0;grind,by have:=fg bc.2 h0;grind⟩;have q2:-(9*h)<=h*s0/\h*s0<=9*h:=⟨by have:=fg b0.1 h0;grind,by have:=fg b0.2 h0;grind⟩;have p4:(h*C+α)*(h*C+α)<=(18*h)*(18*h):=Bq E' E' E' E';have p5:(h*s0+β)*(h*s0+β)<=(18*h)*(18*h):=Bq E' E' E' E';have e1:S'*S'+C'*C'=(S*S+C*C)+2*(h*(C*(S-s0)))+2*(S*α)+2*((-C)*β)+(h*C+α)*(h*C+α)+(h*s0+β)*(h*s0+β):=by
  rw[eS,eC];grind
 rw[e1]
 grind
end
section
variable {a b h t:Rat}
theorem Lb(x:Rat):∃M:Nat,x<=(M:Rat):=by
 refine⟨x.ceil.toNat,fD Rat.le_ceil ?_⟩;have h:x.ceil<=(x.ceil.toNat:Int):=Int.self_le_toNat _;rw[<-FV];exact Tu.2 h
theorem Na(k:Nat):ex 0 (k+1)=0:=by
 have h:=iS k;have e:=kz 0 k;have h1:=jL (t:=0) E' (k+1);refine FW (cO (c:=(k:Rat)+1) E' ?_) h1;rw[e];grind
theorem KZ{f:Nat->Rat}(h:∀k,f k=0)(n:Nat):al f n=0:=by
 induction n with
 |zero=>rfl
 |succ n ih=>simp only[al,h n,ih];split<;>grind
theorem Rf(n:Nat):fk n 0=0:=KZ (λk=>by rw[BB,Na]) n
theorem Mx(n:Nat):fm (n+1) 0=1:=by
 rw[fm,vI,KZ (λk=>by rw[Aq,show 2*(k+1)=2*k+1+1 from rfl,Na])];simp[cs];grind
theorem Xd(h0:0<=h)(h1:h<=1)(n:Nat)(j:Nat)(hj:(j:Rat)*h<=2):
 en n ((j:Rat)*h)<=1+(j:Rat)*(18*h*sn 2 n+1000*(h*h)):=by
 induction j with
 |zero=>simp[en,Rf,Mx];grind
 |succ j ih=>
  have ab:=iS j;have e:((j+1:Nat):Rat)*h=(j:Rat)*h+h:=by rw[jQ];grind
  rw[e]at hj|-;have i:=ih E';have s:=Xc (a:=(j:Rat)*h) (dV ab h0) h0 h1 hj n;rw[jQ]
  grind
theorem parts(x:Rat)(hx:0<=x)(ε:Rat)(af:0<ε):∃(M:Nat)(h:Rat),0<=h/\(M:Rat)*h=x/\h<=ε:=by
 obtain⟨M,hM⟩:=Lb (x/ε+1);have h1:0<=x/ε:=by
  refine cO af ?_;rw[iy E'];grind
 have h2:0<(M:Rat):=E';have e:x/(M:Rat)*(M:Rat)=x:=iy E';have e2:x/ε*ε=x:=iy E';refine⟨M,x/(M:Rat),?_,E',?_⟩
 .refine cO h2 ?_;rw[e];grind
 .refine cO h2 ?_
  rw[e,<-e2];have:=cA (show x/ε<=(M:Rat)from E') (cL af)
  grind
theorem Xb(ht:0<=t)(h:t<=2)(n:Nat)(κ:Rat)(af:0<κ):en n t<=1+36*sn 2 n+κ:=by
 have ab:0<=sn 2 n:=gh.fj E' n;obtain⟨M,d,d0,e,d1⟩:=parts t ht (min 1 (κ/2000)) (by
  have:0<κ/2000:=E'
  grind)
 have d2:d<=1:=E';have d3:d<=κ/2000:=E';have s:=Xd d0 d2 n M E';rw[e]at s;have e1:(M:Rat)*(18*d*sn 2 n+1000*(d*d))=18*(((M:Rat)*d)*sn 2 n)+1000*(((M:Rat)*d)*d):=E';rw[e1,e]at s;have h1:=cA h ab;have h2:=cA h d0
 grind
theorem ZB{x y:Rat}(hy:1<=y)(h:x*x<=y):x<=y:=by
 rcases xI (a:=x) (b:=y)with h1|h1
 .exact h1
 .have b:=oI (show(1:Rat)<=x from E') (mE (a:=x)) E' E'
  grind
theorem sq_nonneg(x:Rat):0<=x*x:=by
 rcases xI (a:=0) (b:=x)with h|h
 .exact dV h h
 .have:=dV (show 0<=-x from E') (show 0<=-x from E')
  grind
theorem acE(ht:0<=t)(h:t<=2)(n:Nat)(κ:Rat)(ab:0<κ):fk n t<=1+37*sn 2 n+κ:=by
 have h1:=Xb ht h n κ ab;have af:0<=sn 2 n:=gh.fj E' n;have h2:=sq_nonneg (fm (n+1) t);have h3:=ZB (x:=fk (n+1) t) (y:=1+36*sn 2 n+κ) E' (by rw[en]at h1;grind);have h4:=Rh ht h n
 grind
theorem VJ{κ:Rat}(ha:0<=a)(h0:0<=h)(n:Nat)(af:0<κ)(j:Nat)(hj:a+(j:Rat)*h<=2):
 fm (n+1) a-fm (n+1) (a+(j:Rat)*h)<=(j:Rat)*(h*(1+37*sn 2 n+κ)+9*(h*h)):=by
 induction j with
 |zero=>simp;grind
 |succ j ih=>
  have ab:=iS j;have e:a+((j+1:Nat):Rat)*h=(a+(j:Rat)*h)+h:=by rw[jQ];grind
  rw[e]at hj|-;have i:=ih E';have p:=dV ab h0;have s:=(Rz (a:=a+(j:Rat)*h) (b:=a+(j:Rat)*h+h) E' E' hj n).2;have l:=fg (acE (t:=a+(j:Rat)*h) E' E' n κ af) h0;rw[show a+(j:Rat)*h+h-(a+(j:Rat)*h)=h from E']at s;rw[jQ]
  grind
theorem VI(ha:0<=a)(af:a<=b)(hb:b<=2)(n:Nat):fm (n+1) a-fm (n+1) b<=(b-a)*(1+39*sn 2 n):=by
 have hd:0<=b-a:=E';have ab:0<sn 2 n:=by
  induction n with
  |zero=>simp[sn];grind
  |succ n ih=>
   have hp:=den_pos n 2 3 E' E';have e:=gh.step 2 n;rcases xI (a:=sn 2 (n+1)) (b:=0)with h|h
   .have:=cA h (cL hp)
    grind
   .have:sn 2 (n+1)≠0:=by intro e0;rw[e0]at e;grind
    grind
 obtain⟨M,d,d0,e,d1⟩:=parts (b-a) hd (sn 2 n/9) E';have s:=VJ (κ:=sn 2 n) ha d0 n ab M (by rw[e];grind);rw[e,show a+(b-a)=b from E']at s;have e1:(M:Rat)*(d*(1+37*sn 2 n+sn 2 n)+9*(d*d))=((M:Rat)*d)*(1+37*sn 2 n+sn 2 n)+9*(((M:Rat)*d)*d):=E';rw[e1,e]at s;have h2:=fg d1 hd
 grind
theorem Mw(ha:0<=a)(ab:a<=b)(hb:b<=2)(N:Nat):fm N b<=fm N a/\fm N a-fm N b<=(b-a)*((b+a)/2):=by
 have hd:0<=b-a:=E';cases N with
 |zero=>
  have h2:=dV hd (show 0<=(b+a)/2 from E');simp only[fm,al];exact⟨E',E'⟩
 |succ n=>
  have h:=uj (f:=λk=>cs b (k+1)-cs a (k+1)) (n:=0) rfl (λk=>by have:=iF.mono ha ab (k+1);grind)
   (λk _=>by have:=VK ha ab hb (k+1) f';grind) n
  have s:=zZ (λk=>cs b (k+1)) (λk=>cs a (k+1)) n;have s1:=vI (cs b) n;have s2:=vI (cs a) n;have e3:cs a 0=1:=rfl;have e4:cs b 0=1:=rfl;have e5:cs b 1=b*b/2:=by simp[cs];grind
  have e6:cs a 1=a*a/2:=by simp[cs];grind
  simp only[du,al,e5,e6]at h;rw[s]at h;simp only[fm];rw[e3]at s2;rw[e4]at s1;rw[s1,s2];have e7:(b-a)*((b+a)/2)=b*b/2-a*a/2:=E';rw[e7];exact⟨E',E'⟩
theorem acF(δ:Rat)(af:0<δ):∃n0:Nat,∀n,n0<=n->sn 2 n<=δ:=by
 have h1:∀k:Nat,(k:Rat)*sn 2 k<=4:=by
  intro k;have h0:=iS k;have f:∀k:Nat,sn 2 k<=2/\((k:Rat)+1)*sn 2 k<=4:=by
   intro k
   induction k with
   |zero=>simp[sn];grind
   |succ k ih=>
    have hk:=iS k;have p:=gh.fj (t:=2) E' k;have f:=tN (t:=2) E' E' k;have e:=gh.step 2 k;have p1:=gh.fj (t:=2) E' (k+1);have p2:=dV hk p1;have p3:=dV hk p2;refine⟨E',?_⟩;rw[jQ]
    grind
  have:=(f k).2;have p:=gh.fj (t:=2) E' k
  grind
 obtain⟨M,hM⟩:=Lb (4/δ+1);have h2:4/δ*δ=4:=iy E';refine⟨M,λn hn=>?_⟩;have h3:(M:Rat)<=(n:Rat):=zV.2 hn;have h4:0<=4/δ:=by
  refine cO af ?_;rw[h2];grind
 have p:=gh.fj (t:=2) E' n;have h5:=h1 n;have h6:=cA (show 4/δ<=(n:Rat)from E') p;have h7:4/δ≠0:=by intro e;rw[e]at h2;grind
 refine cO (c:=4/δ) E' ?_
 grind
end
section
variable {a b d t:Int}{p r:Int×Int}{x y:Rat}
def iI(a b:Int):Int:=-((-a).fdiv b)
def rt(p:Int×Int)(t d:Int):Int×Int:=(p.1*t/d,iI (p.2*t) d)
theorem ke(hd:0<d):a/d*d<=a/\a<(a/d+1)*d:=by
 have h1:=pa a d;have h2:=o5 a (Int.ne_of_gt hd);have h3:=sd a hd;have e:d*(a/d)=a/d*d:=gD _ _;rw[nN];omega
theorem oO(hd:0<d):a<=iI a d*d/\(iI a d-1)*d<a:=by
 have h:=ke (a:=-a) hd;unfold iI;rw[lW _ (bo hd)];generalize(-a)/d=q at*;rw[nN]at h;rw[Fx,vA,Fx];omega
theorem cj:((a:Int):Rat)<=(b:Rat)↔a<=b:=Tu
theorem Am:((a:Int):Rat)<(b:Rat)↔a<b:=Rat.intCast_lt_intCast
theorem cast_pos(h:0<d):(0:Rat)<(d:Rat):=Rat.intCast_pos.2 h
theorem px(h:0<=d):(0:Rat)<=(d:Rat):=Tv.2 h
theorem two_pos(q:Nat):(0:Rat)<2^q:=KM E'
theorem cV(q:Nat):(((2:Int)^q:Int):Rat)=2^q:=by
 induction q with
 |zero=>simp
 |succ q ih=>rw[jw,mF,cg,ih];rfl
def aW(q:Nat)(p:Int×Int)(x:Rat):Prop:=(p.1:Rat)<=x*2^q/\x*2^q<=(p.2:Rat)
theorem rH{q:Nat}(h:aW q p x)(ht:0<=t)(hd:0<d)(e:y*(d:Rat)=x*(t:Rat)):aW q (rt p t d) y:=by
 have ab:=cast_pos hd;have af:=px ht;have l:=cj.2 (ke (a:=p.1*t) hd).1;have u:=cj.2 (oO (a:=p.2*t) hd).1;rw[cg,cg]at l u;have h1:=cA h.1 af;have h2:=cA h.2 af;have e2:x*2^q*(t:Rat)=y*2^q*(d:Rat):=E';rw[e2]at h1 h2;exact⟨cO ab (fD l h1),cO ab (fD h2 u)⟩
theorem jq{q:Nat}(h:aW q p x):p.1<=p.2:=cj.1 (fD h.1 h.2)
theorem DE{q:Nat}(h:aW q p x)(k:aW q r y):aW q (p.1+r.1,p.2+r.2) (x+y):=by
 obtain⟨a,b⟩:=h;obtain⟨c,d⟩:=k;constructor<;>rw[jG]<;>grind
theorem NR{q:Nat}(h:aW q p x)(k:aW q r y):aW q (p.1-r.2,p.2-r.1) (x-y):=by
 obtain⟨a,b⟩:=h;obtain⟨c,d⟩:=k;constructor<;>rw[iY]<;>grind
theorem tK{c:Int}(hd:0<d)(h:(p.2-p.1)*t<=c*d):(rt p t d).2-(rt p t d).1<=c+1:=by
 have l:=(ke (a:=p.1*t) hd).2;have u:=(oO (a:=p.2*t) hd).2;simp only[rt];generalize p.1*t/d=f at*;generalize iI (p.2*t) d=g at*;have:(g-1-(f+1))*d<c*d:=by
  rw[vA];have e:(p.2-p.1)*t=p.2*t-p.1*t:=vA _ _ _;omega
 have:=lX this (bo hd);omega
def iV(first:Int×Int)(next term:Nat->Int×Int->Int×Int):Nat->(Int×Int)×(Int×Int)
 |0=>((0,0),first)
 |k+1=>
  let s:=iV first next term k
  ((s.1.1+(term k s.2).1,s.1.2+(term k s.2).2),next (k+1) s.2)
def jT(first:Int×Int)(next term:Nat->Int×Int->Int×Int):Nat->(Int×Int)×(Int×Int)
 |0=>((0,0),first)
 |k+1=>
  let s:=jT first next term k
  (if k%2=0 then(s.1.1+(term k s.2).1,s.1.2+(term k s.2).2)else(s.1.1-(term k s.2).2,s.1.2-(term k s.2).1),next (k+1) s.2)
def rising(n:Nat)(first:Int×Int)(next term:Nat->Int×Int->Int×Int):Int×Int:=
 let s:=iV first next term n
 (s.1.1,s.1.2+2*(term n s.2).2)
def jg(n:Nat)(first:Int×Int)(next term:Nat->Int×Int->Int×Int):Int×Int:=
 let s:=jT first next term (2*n)
 (s.1.1,s.1.2+(term (2*n) s.2).2)
structure j8(q:Nat)(first:Int×Int)(next term:Nat->Int×Int->Int×Int)(P T:Nat->Rat):Prop where
 pI:aW q first (P 0)
 uK:first.2=first.1
 tk:∀k p,aW q p (P k)->aW q (next (k+1) p) (P (k+1))
 yy:∀k p,aW q p (P k)->p.2-p.1<=4->(k=0->p.2=p.1)->(next (k+1) p).2-(next (k+1) p).1<=4
 qD:∀k p,aW q p (P k)->aW q (term k p) (T k)
 rF:∀k p,aW q p (P k)->p.2-p.1<=4->(term k p).2-(term k p).1<=5
section
variable {q:Nat}{first:Int×Int}{next term:Nat->Int×Int->Int×Int}{P T:Nat->Rat}
theorem j8.pow(h:j8 q first next term P T)(n:Nat):aW q (iV first next term n).2 (P n)/\(iV first next term n).2.2-(iV first next term n).2.1<=4/\(n=0->(iV first next term n).2.2=(iV first next term n).2.1):=by
 induction n with
 |zero=>exact⟨h.pI,by simp only[iV];have:=h.uK;omega,λ_=>h.uK⟩
 |succ n ih=>exact⟨h.tk n _ ih.1,h.yy n _ ih.1 ih.2.1 ih.2.2,λe=>f'⟩
theorem j8.IG(h:j8 q first next term P T)(n:Nat):aW q (jT first next term n).2 (P n)/\(jT first next term n).2.2-(jT first next term n).2.1<=4/\(n=0->(jT first next term n).2.2=(jT first next term n).2.1):=by
 induction n with
 |zero=>exact⟨h.pI,by simp only[jT];have:=h.uK;omega,λ_=>h.uK⟩
 |succ n ih=>exact⟨h.tk n _ ih.1,h.yy n _ ih.1 ih.2.1 ih.2.2,λe=>f'⟩
theorem j8.sum(h:j8 q first next term P T)(n:Nat):aW q (iV first next term n).1 (sm T n)/\(iV first next term n).1.2-(iV first next term n).1.1<=5*(n:Int):=by
 induction n with
 |zero=>exact⟨by simp only[iV,sm,aW];constructor<;>grind,by simp[iV]⟩
 |succ n ih=>
  have hp:=h.pow n;refine⟨DE ih.1 (h.qD n _ hp.1),?_⟩;have:=h.rF n _ hp.1 hp.2.1;simp only[iV];omega
theorem j8.RL(h:j8 q first next term P T)(n:Nat):aW q (jT first next term n).1 (al T n)/\(jT first next term n).1.2-(jT first next term n).1.1<=5*(n:Int):=by
 induction n with
 |zero=>exact⟨by simp only[jT,al,aW];constructor<;>grind,by simp[jT]⟩
 |succ n ih=>
  have hp:=h.IG n;have hw:=h.rF n _ hp.1 hp.2.1;simp only[jT,al]
  by_cases e:n%2=0
  .simp only[au e]
   exact⟨DE ih.1 (h.qD n _ hp.1),f'⟩
  .simp only[aq e]
   exact⟨NR ih.1 (h.qD n _ hp.1),f'⟩
theorem j8.rising(h:j8 q first next term P T)(n:Nat)(h0:∀k,0<=T k)(hf:∀k,n<=k->2*T (k+1)<=T k):
 (∀m,aW q (rising n first next term) (sm T (n+m)))/\
 (((rising n first next term).2:Rat)-((rising n first next term).1:Rat)<=5*(n:Rat)+10+2*(T n*2^q)):=by
 have s:=h.sum n;have p:=h.pow n;have t:=h.qD n _ p.1;have tw:=h.rF n _ p.1 p.2.1;have hq:=two_pos q;have af:=cj.2 tw;have ab:=cj.2 s.2;simp only[Hl.rising];generalize iV first next term n=R at*;obtain⟨⟨a,b⟩,r⟩:=R;simp only at*;generalize term n r=tt at*;obtain⟨c,d⟩:=tt;obtain⟨s1,s2⟩:=s.1;obtain⟨t1,t2⟩:=t;simp only at*;rw[iY]at af ab;rw[cg,FV]at ab;refine⟨λm=>?_,?_⟩
 .have r:=rQ h0 hf m
  have h2:=h0 (n+m);have m1:=cA r.1 (cL hq);have m2:=cA (show sm T (n+m)<=sm T n+2*T n from E') (cL hq);constructor
  .exact fD s1 m1
  .rw[jG,cg]
   grind
 .rw[jG,cg]
  grind
theorem j8.jg(h:j8 q first next term P T)(n:Nat)(h0:∀k,0<=T k)(hf:∀k,2*n<=k->T (k+1)<=T k):
 (∀m,3<=m->((jg n first next term).1:Rat)<=(al T (2*n+m)-(T (2*n)-T (2*n+1)))*2^q/\
  (al T (2*n+m)+(T (2*n+1)-T (2*n+2)))*2^q<=((jg n first next term).2:Rat))/\
 (((jg n first next term).2:Rat)-((jg n first next term).1:Rat)<=10*(n:Rat)+5+T (2*n)*2^q):=by
 have s:=h.RL (2*n);have p:=h.IG (2*n);have t:=h.qD (2*n) _ p.1;have tw:=h.rF (2*n) _ p.1 p.2.1;have hq:=two_pos q;have af:=cj.2 tw;have ab:=cj.2 s.2;simp only[Hl.jg];generalize jT first next term (2*n)=R at*;obtain⟨⟨a,b⟩,r⟩:=R;simp only at*;generalize term (2*n) r=tt at*;obtain⟨c,d⟩:=tt;obtain⟨s1,s2⟩:=s.1;obtain⟨t1,t2⟩:=t;simp only at*;rw[iY]at af ab;rw[cg,FV,zW]at ab;refine⟨λm hm=>?_,?_⟩
 .have r:=TJ (n:=2*n) f' h0 hf m hm
  have m1:=cA r.1 (cL hq);have m2:=cA r.2 (cL hq);constructor
  .grind
  .rw[jG]
   grind
 .rw[jG]
  grind
end
end
section
variable {t:Int}{q:Nat}{x:Rat}
def rZ(q:Nat):Int×Int:=(1*2^q,1*2^q)
def lR(k:Nat)(p:Int×Int):Int×Int:=rt p 1 ((2*(k:Int)+1)*2^0)
def pW(t:Int)(q:Nat)(_:Nat)(p:Int×Int):Int×Int:=rt p (t*t) (1*2^(2*q))
def kH(t:Int)(q n:Nat):Int×Int:=rising n (rZ q) (λk p=>rt p t ((k:Int)*2^q)) (λ_ p=>p)
def dY(t:Int)(q n:Nat):Int×Int:=rising n (t,t) (pW t q) lR
def dX(t:Int)(q n:Nat):Int×Int:=jg n (t,t) (pW t q) lR
def mT(t:Int)(q n:Nat):Int×Int:=jg n (t,t) (λk p=>rt p (t*t) ((2*(k:Int)*(2*(k:Int)+1))*2^(2*q))) (λ_ p=>p)
def mS(t:Int)(q n:Nat):Int×Int:=jg n (rZ q) (λk p=>rt p (t*t) (((2*(k:Int)-1)*2*(k:Int))*2^(2*q))) (λ_ p=>p)
theorem qp(k:Nat):(((k:Int):Int):Rat)=(k:Rat):=FV k
theorem HJ(q:Nat):aW q (rZ q) 1:=by
 simp only[aW,rZ,cg,cV];constructor<;>simp
theorem A0(hx:x*2^q=(t:Rat)):aW q (t,t) x:=⟨by rw[hx];exact mE,by rw[hx];exact mE⟩
theorem cf(q:Nat):(0:Int)<2^q:=jl p'
theorem Jo(q:Nat):(2:Rat)^(2*q)=2^q*2^q:=by
 rw[Nat.two_mul]
 induction q with
 |zero=>simp
 |succ q ih=>rw[show q+1+(q+1)=(q+q)+1+1 from f',mF,mF,ih,mF];grind
theorem Jp(q:Nat):(2:Int)^(2*q)=2^q*2^q:=by rw[Nat.two_mul,gk]
theorem qK{a b c d:Int}(h:a<=b)(k:c<=d)(hc:0<=c)(hb:0<=b):a*c<=b*d:=
 nO (gj h hc) (jk k hb)
theorem QA(hx:x*2^q=(t:Rat))(ht:0<=t)(h1:t<=2^q):
 j8 q (rZ q) (λk p=>rt p t ((k:Int)*2^q)) (λ_ p=>p) (ex x) (ex x) where
 pI:=HJ q
 uK:=rfl
 tk k p h:=by
  refine rH h ht (jZ f' (cf q)) ?_;have e:=kz x k;rw[cg,qp,cV,jQ,<-hx]
  grind
 yy k p h hp h0:=by
  refine tK (c:=3) (jZ f' (cf q)) ?_;have hq:=cf q;rcases re k with e|e
  .rw[h0 e,J6,xw];exact dP p' (dP f' f')
  .have a:=qK hp h1 ht p'
   have b:=qK (show(2:Int)<=((k+1:Nat):Int)from f') (gu (2^q)) f' f';omega
 qD k p h:=h
 rF k p h hp:=f'
theorem Je{m:Int}(ht:0<=t)(h:t<=m):t*t<=m*m:=qK h h ht f'
theorem abc(hx:x*2^q=(t:Rat))(k:Nat)(p:Int×Int)(h:aW q p (pw x k)):aW q (pW t q (k+1) p) (pw x (k+1)):=by
 refine rH h (by
  rcases Fv 0 t with a|a
  .exact dP a a
  .have:=dP (show 0<=-t from f') (show 0<=-t from f');rw[Int.neg_mul_neg]at this;exact this) (jZ p' (cf _)) ?_
 rw[cg,cg,cV,Jo,<-hx];simp only[pw]
 grind
theorem Ez(hx:x*2^q=(t:Rat))(ht:0<=t)(h1:2*t<=2^q):
 j8 q (t,t) (pW t q) lR (pw x) (ah x) where
 pI:=A0 hx
 uK:=rfl
 tk k p h:=abc hx k p h
 yy k p h hp h0:=by
  refine tK (c:=3) (jZ p' (cf _)) ?_;have hq:=cf q;have a:=qK hp (gu (t*t)) (dP ht ht) p';have b:=Je (show 0<=2*t from f') h1;rw[Jp];rw[show 2*t*(2*t)=4*(t*t)from E']at b;have:=dP (bo hq) (bo hq);omega
 qD k p h:=by
  refine rH h p' (jZ f' p') ?_;have e:=qn x k;rw[cg,jG,cg,qp];simp
  grind
 rF k p h hp:=by
  refine tK (c:=4) (jZ f' p') ?_;rw[Int.pow_zero];omega
theorem QB(hx:x*2^q=(t:Rat))(ht:0<=t)(h1:t<=2*2^q):
 j8 q (t,t) (λk p=>rt p (t*t) ((2*(k:Int)*(2*(k:Int)+1))*2^(2*q))) (λ_ p=>p) (sn x) (sn x) where
 pI:=A0 hx
 uK:=rfl
 tk k p h:=by
  refine rH h (dP ht ht) (jZ (jZ f' f') (cf _)) ?_;have e:=gh.step x k;rw[cg,cg,cg,cg,jG,cg,qp,cV,Jo,jQ,<-hx];simp
  grind
 yy k p h hp h0:=by
  refine tK (c:=3) (jZ (jZ f' f') (cf _)) ?_;have hq:=cf q;have ab:=dP (bo hq) (bo hq);rw[Jp];rcases re k with e|e
  .rw[h0 e,J6,xw];exact dP p' (dP (dP f' f') ab)
  .have a:=qK hp (gu (t*t)) (dP ht ht) p'
   have b:=Je ht h1;rw[show 2*2^q*(2*2^q)=4*((2:Int)^q*2^q)from E']at b;have c:=qK (show(4:Int)<=2*((k+1:Nat):Int)from f') (show(5:Int)<=2*((k+1:Nat):Int)+1 from f') p' f';have d:=qK c (gu (2^q*2^q)) ab f';omega
 qD k p h:=h
 rF k p h hp:=f'
theorem Qz(hx:x*2^q=(t:Rat))(ht:0<=t)(h1:t<=2*2^q):
 j8 q (rZ q) (λk p=>rt p (t*t) (((2*(k:Int)-1)*2*(k:Int))*2^(2*q))) (λ_ p=>p) (cs x) (cs x) where
 pI:=HJ q
 uK:=rfl
 tk k p h:=by
  refine rH h (dP ht ht) (jZ (jZ (jZ f' p') f') (cf _)) ?_;have e:=iF.step x k;rw[cg,cg,cg,cg,iY,cg,qp,cV,Jo,jQ,<-hx];simp
  grind
 yy k p h hp h0:=by
  refine tK (c:=3) (jZ (jZ (jZ f' p') f') (cf _)) ?_;have hq:=cf q;have ab:=dP (bo hq) (bo hq);rw[Jp];rcases re k with e|e
  .rw[h0 e,J6,xw];exact dP p' (dP (dP (dP f' p') f') ab)
  .have a:=qK hp (gu (t*t)) (dP ht ht) p'
   have b:=Je ht h1;rw[show 2*2^q*(2*2^q)=4*((2:Int)^q*2^q)from E']at b;have c:=qK (show(6:Int)<=(2*((k+1:Nat):Int)-1)*2 from f') (show(2:Int)<=((k+1:Nat):Int)from f') p' f';have d:=qK c (gu (2^q*2^q)) ab f';omega
 qD k p h:=h
 rF k p h hp:=f'
end
end Go.Hl
