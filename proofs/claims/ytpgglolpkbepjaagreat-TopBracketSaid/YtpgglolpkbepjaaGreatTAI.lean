/- Lemmas for TopSound and TopBracket. -/
import Derived.Lib.SliceRun
import Derived.Test.YtpgglolpkbepjaaGreatTAH
set_option linter.unusedVariables false
set_option linter.unusedSimpArgs false
namespace Go.Hl
open Option renaming some→T',none→Y'
open Bool renaming true→Z',false→a0a
open Go Go.RowKit
set_option maxHeartbeats 4000000
def HR(T:aL)(σ:St)(t:TypeId)(x:AV):Prop×AV:=
 match x with
 |.vp cs=>ml T t (.c cs) 0
 |.ptr id off=>match σ.ae id with
  |some ae=>ml T t ae.con off
  |none=>(False,.any)
 |_=>(False,.any)
def IC(c a b:AV):Prop×AV:=
 match c with
 |.r (.bool t)=>(True,if t then a else b)
 |_=>(False,.any)
def GH(s d:Option IntKind)(x:AV):Prop×AV:=
 match x,s,d with
 |.r (.int _ n),T' _,T' k=>(True,.r (.int k (k.wrap n)))
 |_,_,_=>(False,.any)
def Hg(σ:St)(o:Option Nat)(x:AV):Prop×AV:=
 match o with
 |none=>(False,.any)
 |some d=>match x with
  |.ptr id off=>((σ.ae id).isSome=Z',.ptr id (off+d))
  |.vp cs=>(d<cs.length,.vp (cs.drop d))
  |_=>(False,.any)
def Hh(p:Option (Nat×Nat))(x:AV):Prop×AV:=
 match p,x with
 |some (d,n),.agg cs=>(d+n<=cs.length,.agg ((cs.drop d).take n))
 |_,_=>(False,.any)
def Hc(x:AV)(i:Nat):Prop×AV:=
 match x with
 |.aU cs=>(i<cs.length,cs.getD i .any)
 |_=>(False,.any)
def HF(T:aL)(t:TypeId)(x:AV)(i:Option Int):Prop×AV:=
 match x,i with
 |.r (.string s),T' i=>(T.str t=Z'/\0<=i/\i.toNat<s.size,.r (.int .u8 (s.data.getD i.toNat 0).toNat))
 |.agg cs,T' i=>(T.ar t=T' cs.length/\0<=i/\i.toNat<cs.length/\(cs.getD i.toNat .any).im=Z',cs.getD i.toNat .any)
 |_,_=>(False,.any)
def Il(G:Nat->Option cq)(x:AV):Prop×AV:=
 match x with
 |.vp cs=>(True,.vp cs)
 |.fn f cs=>(True,.fn f cs)
 |.ptr id off=>((G id).isSome=Z',.ptr id off)
 |_=>(False,.any)
def Ie(x y:AV):Prop×AV:=
 match x,y with
 |.r (.int k a),.r (.int _ b)=>(True,.r (.int k (if b<a then b else a)))
 |_,_=>(False,.any)
def ON(x y z:AV):Prop×AV:=
 match x,y,z with
 |.r (.int k a),.r (.int k2 b),.r (.int _ c)=>(k=k2,.r (.int k (if c>(if b>a then b else a)then c else(if b>a then b else a))))
 |_,_,_=>(False,.any)
def Ia(x y:AV):Prop×AV:=
 match x,y with
 |.r (.int k a),.r (.int _ b)=>(True,.r (.int k (if b>a then b else a)))
 |_,_=>(False,.any)
def pv(σ:St)(d:Option Nat)(r:Prop×AV):Prop×St:=(r.1,σ.put d r.2)
theorem abe(σ:St)(d:Nat)(p:Prop)(v:AV):pv σ (T' d) (p,v)=(p,⟨(d,v)::del σ.fr d,σ.hp⟩):=rfl
theorem abf(σ:St)(p:Prop)(v:AV):pv σ Y' (p,v)=(p,σ):=rfl
def qP(σ:St)(d:Option Nat)(r:Prop×AV):Prop×St:=(r.1/\r.2.im=Z',σ.put d r.2)
theorem abi(σ:St)(d:Nat)(p:Prop)(v:AV):qP σ (T' d) (p,v)=((p/\v.im=Z'),⟨(d,v)::del σ.fr d,σ.hp⟩):=rfl
theorem abj(σ:St)(p:Prop)(v:AV):qP σ Y' (p,v)=((p/\v.im=Z'),σ):=rfl
def wX(p:Prop)(σ:St)(d:Option Nat)(r:Prop×AV):Prop×St:=(p/\r.1,σ.put d r.2)
theorem abg(p:Prop)(σ:St)(d:Nat)(q:Prop)(v:AV):wX p σ (T' d) (q,v)=((p/\q),⟨(d,v)::del σ.fr d,σ.hp⟩):=rfl
theorem abh(p:Prop)(σ:St)(q:Prop)(v:AV):wX p σ Y' (q,v)=((p/\q),σ):=rfl
def pV(p:Prop)(r:Prop×St):Prop×St:=(p/\r.1,r.2)
theorem afO(p q:Prop)(σ:St):pV p (q,σ)=((p/\q),σ):=rfl
def CJ(r:Prop×St)(d:Option Nat):Prop×St:=(r.1,r.2.put d .any)
theorem TX(p:Prop)(σ:St)(d:Nat):CJ (p,σ) (T' d)=(p,⟨(d,.any)::del σ.fr d,σ.hp⟩):=rfl
theorem TW(p:Prop)(σ:St):CJ (p,σ) Y'=(p,σ):=rfl
def GB(T:aL)(S:FuncId->Option Sp)(d:Option Nat)(x:Operand)(xs:List Operand)(ts:List TypeId)(e:Prop×St):Prop×St:=
 wX e.1 e.2 d (mI S (ev e.2.get x) (cS T e.2.get xs ts))
theorem U6(T:aL)(S:FuncId->Option Sp)(d:Option Nat)(x:Operand)(xs:List Operand)(ts:List TypeId)(p:Prop)(σ:St):
 GB T S d x xs ts (p,σ)=wX p σ d (mI S (ev σ.get x) (cS T σ.get xs ts)):=rfl
def CZ(T:aL)(d:Option Nat)(sp:Sp)(xs:List Operand)(ts:List TypeId)(e:Prop×St):Prop×St:=
 (e.1/\(cS T e.2.get xs ts).all AV.im=Z'/\sp.kind=1/\sp.pre (cS T e.2.get xs ts)/\(uD e.2 d (sp.res (cS T e.2.get xs ts))).1,(uD e.2 d (sp.res (cS T e.2.get xs ts))).2)
theorem U7(T:aL)(d:Option Nat)(sp:Sp)(xs:List Operand)(ts:List TypeId)(p:Prop)(σ:St):
 CZ T d sp xs ts (p,σ)=((p/\(cS T σ.get xs ts).all AV.im=Z'/\sp.kind=1/\sp.pre (cS T σ.get xs ts)/\(uD σ d (sp.res (cS T σ.get xs ts))).1),(uD σ d (sp.res (cS T σ.get xs ts))).2):=rfl
def call2(T:aL)(S:FuncId->Option Sp)(d:Option Nat)(g:FuncId)(x0:Operand)(xs:List Operand)(ts:List TypeId)(e:Prop×St):Prop×St:=
 pV e.1 (yO S e.2 d g (ev e.2.get x0) (cS T e.2.get xs ts))
theorem U8(T:aL)(S:FuncId->Option Sp)(d:Option Nat)(g:FuncId)(x0:Operand)(xs:List Operand)(ts:List TypeId)(p:Prop)(σ:St):
 call2 T S d g x0 xs ts (p,σ)=pV p (yO S σ d g (ev σ.get x0) (cS T σ.get xs ts)):=rfl
def GC(T:aL)(S:FuncId->Option Sp)(σ:St)(d:Option Nat)(x:Operand)(xs:List Operand)(ts:List TypeId)(f:AV)(k:Nat):Prop×St:=
 match k with
 |0=>GB T S d x xs ts (dR T σ xs)
 |1=>match f with
  |.fn g []=>match S g with
   |some sp=>CZ T d sp xs ts (dR T σ xs)
   |none=>(False,σ)
  |_=>(False,σ)
 |2=>match f,xs,ts with
  |.fn g [],x0::xs,_::ts=>call2 T S d g x0 xs ts (dR T σ xs)
  |_,_,_=>(False,σ)
 |_=>(False,σ)
def C5(T:aL)(S:FuncId->Option Sp)(σ:St)(d:Option Nat)(x:Operand)(xs:List Operand)(ts:List TypeId)(f:AV):Prop×St:=GC T S σ d x xs ts f (DJ S f)
def C6(T:aL)(S:FuncId->Option Sp)(σ:St)(d:Option Nat)(x:Operand)(xs:List Operand)(ts:List TypeId)(g:FuncId)(ab:List AV)(o:Option Sp):Prop×St:=
 GC T S σ d x xs ts (.fn g ab) (match o with|some sp=>sp.kind|none=>0)
theorem Vb(T:aL)(S:FuncId->Option Sp)(σ:St)(d:Option Nat)(x:Operand)(xs:List Operand)(ts:List TypeId)(g:FuncId)(ab:List AV):
 C5 T S σ d x xs ts (.fn g ab)=C6 T S σ d x xs ts g ab (S g):=rfl
theorem Vd(T:aL)(S:FuncId->Option Sp)(σ:St)(d:Option Nat)(x:Operand)(xs:List Operand)(ts:List TypeId)(g:FuncId)(ab:List AV)(pre:List AV->Prop)(res:List AV->AV):
 C6 T S σ d x xs ts g ab (T' ⟨0,pre,res⟩)=GB T S d x xs ts (dR T σ xs):=rfl
def Mb(T:aL)(S:FuncId->Option Sp)(σ:St)(d:Option Nat)(xs:List Operand)(ts:List TypeId)(o:Option Sp):Prop×St:=
 match o with
 |some sp=>CZ T d sp xs ts (dR T σ xs)
 |none=>(False,σ)
theorem Ve(T:aL)(S:FuncId->Option Sp)(σ:St)(d:Option Nat)(x:Operand)(xs:List Operand)(ts:List TypeId)(g:FuncId)(pre:List AV->Prop)(res:List AV->AV):
 C6 T S σ d x xs ts g [] (T' ⟨1,pre,res⟩)=Mb T S σ d xs ts (S g):=rfl
theorem Vc(T:aL)(S:FuncId->Option Sp)(σ:St)(d:Option Nat)(xs:List Operand)(ts:List TypeId)(sp:Sp):Mb T S σ d xs ts (T' sp)=CZ T d sp xs ts (dR T σ xs):=rfl
theorem Vf(T:aL)(S:FuncId->Option Sp)(σ:St)(d:Option Nat)(x x0:Operand)(xs:List Operand)(t:TypeId)(ts:List TypeId)(g:FuncId)(pre:List AV->Prop)(res:List AV->AV):
 C6 T S σ d x (x0::xs) (t::ts) g [] (T' ⟨2,pre,res⟩)=call2 T S d g x0 xs ts (dR T σ xs):=rfl
def RB(T:aL)(d:Option Nat)(t:TypeId)(p v:Operand)(e:Prop×St):Prop×St:=pV e.1 (CJ (oN T e.2 t (ev e.2.get p) (ev e.2.get v)) d)
theorem afw(T:aL)(d:Option Nat)(t:TypeId)(p v:Operand)(q:Prop)(σ:St):RB T d t p v (q,σ)=pV q (CJ (oN T σ t (ev σ.get p) (ev σ.get v)) d):=rfl
def LM(d:Option Nat)(v:Operand)(e:Prop×St):Prop×St:=pV e.1 (sK e.2 d (ev e.2.get v))
theorem UJ(d:Option Nat)(v:Operand)(q:Prop)(σ:St):LM d v (q,σ)=pV q (sK σ d (ev σ.get v)):=rfl
def Nb(T:aL)(xs:List Operand)(e:Prop×St):Prop×St:=pV e.1 (dR T e.2 xs)
theorem Xp(T:aL)(xs:List Operand)(q:Prop)(σ:St):Nb T xs (q,σ)=pV q (dR T σ xs):=rfl
theorem Xr(T:aL)(σ:St):dR T σ []=(True,σ):=rfl
theorem Xq(T:aL)(σ:St)(x:Operand)(xs:List Operand):dR T σ (x::xs)=Nb T xs (gU T σ x):=rfl
def yr(F:Nat->AV):List (Nat×Operand)->List AV
 |[]=>[]
 |p::l=>ev F p.2::yr F l
theorem M4(F:Nat->AV)(l:List (Nat×Operand)):l.map (λp=>ev F p.2)=yr F l:=by
 induction l with
 |nil=>rfl
 |cons p l ih=>simp only[fX,yr,ih]
def vV(F:Nat->AV):List (Nat×Operand)->List (Nat×AV)
 |[]=>[]
 |p::l=>(p.1,ev F p.2)::vV F l
theorem M5(F:Nat->AV)(l:List (Nat×Operand)):l.map (λp=>(p.1,ev F p.2))=vV F l:=by
 induction l with
 |nil=>rfl
 |cons p l ih=>simp only[fX,vV,ih]
def BC:List (Nat×Operand)->List Operand
 |[]=>[]
 |p::l=>p.2::BC l
theorem acH(l:List (Nat×Operand)):l.map (·.2)=BC l:=by
 induction l with
 |nil=>rfl
 |cons p l ih=>simp only[fX,BC,ih]
def Gu(T:aL)(σ:St)(d:Option Nat)(t:TypeId)(len:Nat)(parts:List (Nat×Operand))(vs:List AV):Prop×St:=
 match d,T.sl t with
 |some d,T' (_,s,_)=>
  match T.nk t with
  |some k=>match qM k vs with
   |some xs=>(pS 0 parts=Z'/\parts.length=len/\len*s<=16777216,((σ.kill d).g7 d ⟨Z',.n k xs⟩).put (T' d) (.os d 1 0 len))
   |none=>(False,σ)
  |none=>match qs vs with
   |some cs=>(pS 0 parts=Z'/\parts.length=len/\len*s<=16777216/\(vs.all λv=>match v.cells with|some c=>c.length==s|none=>a0a)=Z',
    ((σ.kill d).g7 d ⟨Z',.c cs⟩).put (T' d) (.os d s 0 len))
   |none=>(False,σ)
 |_,_=>(False,σ)
def Gt(T:aL)(t:TypeId)(len:Nat)(parts:List (Nat×Operand))(vs:List AV):Prop×AV:=
 match T.sl t with
 |some (_,s,_)=>
  match T.nk t with
  |some k=>match qM k vs with
   |some xs=>(pS 0 parts=Z'/\parts.length=len/\len*s<=16777216,.ns k xs)
   |none=>(False,.any)
  |none=>match qs vs with
   |some cs=>(pS 0 parts=Z'/\parts.length=len/\len*s<=16777216/\cs.length=len*s/\
    (vs.all λv=>match v.cells with|some c=>c.length==s|none=>a0a)=Z',.sl s len cs)
   |none=>(False,.any)
 |none=>(False,.any)
def xY(T:aL)(t:TypeId)(vs:List (Nat×AV)):Prop×AV:=
 match T.zr t,T.st t with
 |some z,T' places=>match uC places z vs with
  |some cs=>(True,.agg cs)
  |none=>(False,.any)
 |_,_=>(False,.any)
def Gw(T:aL)(d:Option Nat)(t:TypeId)(ps:List (Nat×Operand))(e:Prop×St):Prop×St:=wX e.1 e.2 d (xY T t (vV e.2.get ps))
theorem US(T:aL)(d:Option Nat)(t:TypeId)(ps:List (Nat×Operand))(p:Prop)(σ:St):Gw T d t ps (p,σ)=wX p σ d (xY T t (vV σ.get ps)):=rfl
section
variable (T:aL)(S:FuncId->Option Sp)(σ:St)(d:Option Nat)(ty:TypeId)(pos:String)(af:Array Edge)(g:Option (Nat×Bool))
theorem Ya(x:Operand):dO T S ⟨d,.move x,ty,pos,af,g⟩ σ=pv σ d ((True,ev σ.get x)):=rfl
theorem XL(x:Operand):dO T S ⟨d,.assign x,ty,pos,af,g⟩ σ=pv σ d ((True,ev σ.get x)):=rfl
theorem XM(b:BinOp)(t t':TypeId)(x y:Operand):dO T S ⟨d,.binOp b t x y t',ty,pos,af,g⟩ σ=pv σ d (bin T t b (ev σ.get x) (ev σ.get y)):=rfl
theorem Ym(u:UnOp)(t:TypeId)(x:Operand):dO T S ⟨d,.unOp u t x,ty,pos,af,g⟩ σ=pv σ d (un u (ev σ.get x)):=rfl
theorem X2(t:TypeId)(x:Operand):dO T S ⟨d,.load t x,ty,pos,af,g⟩ σ=pv σ d (HR T σ t (ev σ.get x)):=rfl
theorem Yc(c x y:Operand):dO T S ⟨d,.pick c x y,ty,pos,af,g⟩ σ=pv σ d (IC (ev σ.get c) (ev σ.get x) (ev σ.get y)):=rfl
theorem XR(s t:TypeId)(x:Operand):dO T S ⟨d,.convert s t x,ty,pos,af,g⟩ σ=pv σ d (GH (T.ik s) (T.ik t) (ev σ.get x)):=rfl
theorem XW(s:TypeId)(x:Operand)(i:Nat):dO T S ⟨d,.fieldAddr s x i,ty,pos,af,g⟩ σ=pv σ d (Hg σ (T.fo s i) (ev σ.get x)):=rfl
theorem XV(s:TypeId)(x:Operand)(i:Nat):dO T S ⟨d,.field s x i,ty,pos,af,g⟩ σ=pv σ d (Hh (T.fa s i) (ev σ.get x)):=rfl
theorem X3(t:TypeId)(x:Operand):dO T S ⟨d,.makeInterface t x,ty,pos,af,g⟩ σ=pv σ d (wJ T t (ev σ.get x)):=rfl
theorem XY(t:TypeId)(x i:Operand):dO T S ⟨d,.indexAddr t x i,ty,pos,af,g⟩ σ=pv σ d (idx T σ.ae t (ev σ.get x) (ev σ.get i)):=rfl
theorem XU(x:Operand)(i:Nat):dO T S ⟨d,.extract x i,ty,pos,af,g⟩ σ=pv σ d (Hc (ev σ.get x) i):=rfl
theorem XX(t:TypeId)(x i:Operand):dO T S ⟨d,.index t x i,ty,pos,af,g⟩ σ=pv σ d (HF T t (ev σ.get x) (dI (ev σ.get i))):=rfl
theorem Yb(x:Operand):dO T S ⟨d,.nilCheck x,ty,pos,af,g⟩ σ=pv σ d (Il σ.ae (ev σ.get x)):=rfl
theorem Yd(t:TypeId)(x:Operand):dO T S ⟨d,.slice t x Y' Y' Y',ty,pos,af,g⟩ σ=pv σ d (gJ T t (ev σ.get x) Y' Y' Y'):=rfl
theorem Yh(t:TypeId)(x l:Operand):dO T S ⟨d,.slice t x (T' l) Y' Y',ty,pos,af,g⟩ σ=pv σ d (gJ T t (ev σ.get x) (T' (dI (ev σ.get l))) Y' Y'):=rfl
theorem Yf(t:TypeId)(x h:Operand):dO T S ⟨d,.slice t x Y' (T' h) Y',ty,pos,af,g⟩ σ=pv σ d (gJ T t (ev σ.get x) Y' (T' (dI (ev σ.get h))) Y'):=rfl
theorem Yj(t:TypeId)(x l h:Operand):dO T S ⟨d,.slice t x (T' l) (T' h) Y',ty,pos,af,g⟩ σ=pv σ d (gJ T t (ev σ.get x) (T' (dI (ev σ.get l))) (T' (dI (ev σ.get h))) Y'):=rfl
theorem Ye(t:TypeId)(x m:Operand):dO T S ⟨d,.slice t x Y' Y' (T' m),ty,pos,af,g⟩ σ=pv σ d (gJ T t (ev σ.get x) Y' Y' (T' (dI (ev σ.get m)))):=rfl
theorem Yi(t:TypeId)(x l m:Operand):dO T S ⟨d,.slice t x (T' l) Y' (T' m),ty,pos,af,g⟩ σ=pv σ d (gJ T t (ev σ.get x) (T' (dI (ev σ.get l))) Y' (T' (dI (ev σ.get m)))):=rfl
theorem Yg(t:TypeId)(x h m:Operand):dO T S ⟨d,.slice t x Y' (T' h) (T' m),ty,pos,af,g⟩ σ=pv σ d (gJ T t (ev σ.get x) Y' (T' (dI (ev σ.get h))) (T' (dI (ev σ.get m)))):=rfl
theorem Yk(t:TypeId)(x l h m:Operand):dO T S ⟨d,.slice t x (T' l) (T' h) (T' m),ty,pos,af,g⟩ σ=pv σ d (gJ T t (ev σ.get x) (T' (dI (ev σ.get l))) (T' (dI (ev σ.get h))) (T' (dI (ev σ.get m)))):=rfl
theorem XZ(x:Operand)(t:TypeId):dO T S ⟨d,.call ⟨.builtin .len,#[x],#[t]⟩,ty,pos,af,g⟩ σ=pv σ d (oy T t (ev σ.get x)):=rfl
theorem X7(x y:Operand)(ts:Array TypeId):dO T S ⟨d,.call ⟨.builtin .min,#[x,y],ts⟩,ty,pos,af,g⟩ σ=pv σ d (Ie (ev σ.get x) (ev σ.get y)):=rfl
theorem X6(x y z:Operand)(ts:Array TypeId):dO T S ⟨d,.call ⟨.builtin .max,#[x,y,z],ts⟩,ty,pos,af,g⟩ σ=pv σ d (ON (ev σ.get x) (ev σ.get y) (ev σ.get z)):=rfl
theorem X5(x y:Operand)(ts:Array TypeId):dO T S ⟨d,.call ⟨.builtin .max,#[x,y],ts⟩,ty,pos,af,g⟩ σ=pv σ d (Ia (ev σ.get x) (ev σ.get y)):=rfl
theorem XJ(t:TypeId):dO T S ⟨d,.alloc t,ty,pos,af,g⟩ σ=vK T σ d t:=rfl
theorem XN(t:TypeId)(v:Operand):dO T S ⟨d,.box t v,ty,pos,af,g⟩ σ=LM d v (gU T σ v):=rfl
theorem XP(t:TypeId)(n:Nat)(ps:Array (Nat×Operand)):dO T S ⟨d,.buildSlice t n ps,ty,pos,af,g⟩ σ=Gu T σ d t n ps.toList (yr σ.get ps.toList):=by
 show vO T σ d t n ps.toList=_;unfold vO Gu;rw[M4]
 rfl
theorem XO(t:TypeId)(ps:Array (Nat×Operand)):dO T S ⟨d,.build t ps,ty,pos,af,g⟩ σ=Gw T d t ps.toList (dR T σ (BC ps.toList)):=by
 rw[<-acH];simp only[dO,Gw,wX,xY,qv,M5]
 rfl
theorem X4(t:TypeId)(l c:Operand):dO T S ⟨d,.makeSlice t l c,ty,pos,af,g⟩ σ=wH T σ d t (ev σ.get l) (ev σ.get c):=rfl
theorem Yl(t:TypeId)(p v:Operand):dO T S ⟨d,.store t p v,ty,pos,af,g⟩ σ=RB T d t p v (gU T σ v):=rfl
theorem XK(s x:Operand)(t t':TypeId):dO T S ⟨d,.call ⟨.builtin .append,#[s,x],#[t,t']⟩,ty,pos,af,g⟩ σ=pV (t=t') (uk T σ d t (ev σ.get s) (ev σ.get x)):=rfl
theorem XT(x s:Operand)(t t':TypeId):dO T S ⟨d,.call ⟨.builtin .copy,#[x,s],#[t,t']⟩,ty,pos,af,g⟩ σ=vP T σ d t (ev σ.get x) (ev σ.get s):=rfl
theorem Va(x:Operand)(aZ9:List Operand)(ts:List TypeId):dO T S ⟨d,.call ⟨.value x,aZ9.toArray,ts.toArray⟩,ty,pos,af,g⟩ σ=C5 T S σ d x aZ9 ts (ev σ.get x):=by
 unfold C5 GC;simp only[dO];rcases DJ S (ev σ.get x)with _|_|_|k
 .rfl
 .rfl
 .rfl
 .rfl
theorem XQ(x:Operand)(aZ9:List Operand)(ts:List TypeId):dO T S ⟨d,.call ⟨.value x,aZ9.toArray,ts.toArray⟩,ty,pos,af,g⟩ σ=C5 T S σ d x aZ9 ts (ev σ.get x):=Va T S σ d ty pos af g x aZ9 ts
theorem jV(o:Oper)(r:Prop×AV)(h:dJ T S o σ=((qd T S σ.get σ.ae o).1,σ.put o.dst (qd T S σ.get σ.ae o).2))(h2:qd T S σ.get σ.ae o=(((qv T S σ.get σ.ae o).1/\(comes o.op=Z'->(qv T S σ.get σ.ae o).2.im=Z')),(qv T S σ.get σ.ae o).2))(h3:comes o.op=a0a)(h4:qv T S σ.get σ.ae o=r):dJ T S o σ=pv σ o.dst r:=by
 rw[h,h2,h4,h3];simp only[pv,mz,false_implies,and_true]
theorem xc(o:Oper)(r:Prop×AV)(h:dJ T S o σ=((qd T S σ.get σ.ae o).1,σ.put o.dst (qd T S σ.get σ.ae o).2))(h2:qd T S σ.get σ.ae o=(((qv T S σ.get σ.ae o).1/\(comes o.op=Z'->(qv T S σ.get σ.ae o).2.im=Z')),(qv T S σ.get σ.ae o).2))(h3:comes o.op=Z')(h4:qv T S σ.get σ.ae o=r):dJ T S o σ=qP σ o.dst r:=by
 rw[h,h2,h4,h3];simp only[qP,true_implies]
theorem WN(x:Operand):dJ T S ⟨d,.move x,ty,pos,af,g⟩ σ=pv σ d ((True,ev σ.get x)):=jV T S σ _ _ rfl rfl rfl rfl
theorem Wv(x:Operand):dJ T S ⟨d,.assign x,ty,pos,af,g⟩ σ=pv σ d ((True,ev σ.get x)):=jV T S σ _ _ rfl rfl rfl rfl
theorem Ww(b:BinOp)(t t':TypeId)(x y:Operand):dJ T S ⟨d,.binOp b t x y t',ty,pos,af,g⟩ σ=pv σ d (bin T t b (ev σ.get x) (ev σ.get y)):=jV T S σ _ _ rfl rfl rfl rfl
theorem W4(u:UnOp)(t:TypeId)(x:Operand):dJ T S ⟨d,.unOp u t x,ty,pos,af,g⟩ σ=pv σ d (un u (ev σ.get x)):=jV T S σ _ _ rfl rfl rfl rfl
theorem WJ(t:TypeId)(x:Operand):dJ T S ⟨d,.load t x,ty,pos,af,g⟩ σ=qP σ d (HR T σ t (ev σ.get x)):=xc T S σ _ _ rfl rfl rfl rfl
theorem WQ(c x y:Operand):dJ T S ⟨d,.pick c x y,ty,pos,af,g⟩ σ=pv σ d (IC (ev σ.get c) (ev σ.get x) (ev σ.get y)):=jV T S σ _ _ rfl rfl rfl rfl
theorem WA(s t:TypeId)(x:Operand):dJ T S ⟨d,.convert s t x,ty,pos,af,g⟩ σ=pv σ d (GH (T.ik s) (T.ik t) (ev σ.get x)):=jV T S σ _ _ rfl rfl rfl rfl
theorem WD(s:TypeId)(x:Operand)(i:Nat):dJ T S ⟨d,.fieldAddr s x i,ty,pos,af,g⟩ σ=pv σ d (Hg σ (T.fo s i) (ev σ.get x)):=jV T S σ _ _ rfl rfl rfl rfl
theorem WC(s:TypeId)(x:Operand)(i:Nat):dJ T S ⟨d,.field s x i,ty,pos,af,g⟩ σ=pv σ d (Hh (T.fa s i) (ev σ.get x)):=jV T S σ _ _ rfl rfl rfl rfl
theorem WK(t:TypeId)(x:Operand):dJ T S ⟨d,.makeInterface t x,ty,pos,af,g⟩ σ=pv σ d (wJ T t (ev σ.get x)):=jV T S σ _ _ rfl rfl rfl rfl
theorem WG(t:TypeId)(x i:Operand):dJ T S ⟨d,.indexAddr t x i,ty,pos,af,g⟩ σ=pv σ d (idx T σ.ae t (ev σ.get x) (ev σ.get i)):=jV T S σ _ _ rfl rfl rfl rfl
theorem WB(x:Operand)(i:Nat):dJ T S ⟨d,.extract x i,ty,pos,af,g⟩ σ=qP σ d (Hc (ev σ.get x) i):=xc T S σ _ _ rfl rfl rfl rfl
theorem WE(t:TypeId)(x i:Operand):dJ T S ⟨d,.index t x i,ty,pos,af,g⟩ σ=pv σ d (HF T t (ev σ.get x) (dI (ev σ.get i))):=jV T S σ _ _ rfl rfl rfl rfl
theorem WO(x:Operand):dJ T S ⟨d,.nilCheck x,ty,pos,af,g⟩ σ=pv σ d (Il σ.ae (ev σ.get x)):=jV T S σ _ _ rfl rfl rfl rfl
theorem WR(t:TypeId)(x:Operand):dJ T S ⟨d,.slice t x Y' Y' Y',ty,pos,af,g⟩ σ=pv σ d (gJ T t (ev σ.get x) Y' Y' Y'):=jV T S σ _ _ rfl rfl rfl rfl
theorem WV(t:TypeId)(x l:Operand):dJ T S ⟨d,.slice t x (T' l) Y' Y',ty,pos,af,g⟩ σ=pv σ d (gJ T t (ev σ.get x) (T' (dI (ev σ.get l))) Y' Y'):=jV T S σ _ _ rfl rfl rfl rfl
theorem WT(t:TypeId)(x h:Operand):dJ T S ⟨d,.slice t x Y' (T' h) Y',ty,pos,af,g⟩ σ=pv σ d (gJ T t (ev σ.get x) Y' (T' (dI (ev σ.get h))) Y'):=jV T S σ _ _ rfl rfl rfl rfl
theorem WX(t:TypeId)(x l h:Operand):dJ T S ⟨d,.slice t x (T' l) (T' h) Y',ty,pos,af,g⟩ σ=pv σ d (gJ T t (ev σ.get x) (T' (dI (ev σ.get l))) (T' (dI (ev σ.get h))) Y'):=jV T S σ _ _ rfl rfl rfl rfl
theorem WS(t:TypeId)(x m:Operand):dJ T S ⟨d,.slice t x Y' Y' (T' m),ty,pos,af,g⟩ σ=pv σ d (gJ T t (ev σ.get x) Y' Y' (T' (dI (ev σ.get m)))):=jV T S σ _ _ rfl rfl rfl rfl
theorem WW(t:TypeId)(x l m:Operand):dJ T S ⟨d,.slice t x (T' l) Y' (T' m),ty,pos,af,g⟩ σ=pv σ d (gJ T t (ev σ.get x) (T' (dI (ev σ.get l))) Y' (T' (dI (ev σ.get m)))):=jV T S σ _ _ rfl rfl rfl rfl
theorem WU(t:TypeId)(x h m:Operand):dJ T S ⟨d,.slice t x Y' (T' h) (T' m),ty,pos,af,g⟩ σ=pv σ d (gJ T t (ev σ.get x) Y' (T' (dI (ev σ.get h))) (T' (dI (ev σ.get m)))):=jV T S σ _ _ rfl rfl rfl rfl
theorem WY(t:TypeId)(x l h m:Operand):dJ T S ⟨d,.slice t x (T' l) (T' h) (T' m),ty,pos,af,g⟩ σ=pv σ d (gJ T t (ev σ.get x) (T' (dI (ev σ.get l))) (T' (dI (ev σ.get h))) (T' (dI (ev σ.get m)))):=jV T S σ _ _ rfl rfl rfl rfl
theorem WI(x:Operand)(t:TypeId):dJ T S ⟨d,.call ⟨.builtin .len,#[x],#[t]⟩,ty,pos,af,g⟩ σ=qP σ d (oy T t (ev σ.get x)):=xc T S σ _ _ rfl rfl rfl rfl
theorem WM(x y:Operand)(ts:Array TypeId):dJ T S ⟨d,.call ⟨.builtin .min,#[x,y],ts⟩,ty,pos,af,g⟩ σ=qP σ d (Ie (ev σ.get x) (ev σ.get y)):=xc T S σ _ _ rfl rfl rfl rfl
theorem WL(x y:Operand)(ts:Array TypeId):dJ T S ⟨d,.call ⟨.builtin .max,#[x,y],ts⟩,ty,pos,af,g⟩ σ=qP σ d (Ia (ev σ.get x) (ev σ.get y)):=xc T S σ _ _ rfl rfl rfl rfl
theorem Wz(x:Operand)(aZ9:List Operand)(ts:List TypeId):dJ T S ⟨d,.call ⟨.value x,aZ9.toArray,ts.toArray⟩,ty,pos,af,g⟩ σ=qP σ d (mI S (ev σ.get x) (cS T σ.get aZ9 ts)):=xc T S σ _ _ rfl rfl rfl rfl
theorem WH(x:Operand)(m:String)(aZ9:List Operand)(ts:List TypeId):dJ T S ⟨d,.call ⟨.invoke x m,aZ9.toArray,ts.toArray⟩,ty,pos,af,g⟩ σ=qP σ d (wg S (D4 T m (ev σ.get x)) (cS T σ.get aZ9 ts)):=xc T S σ _ _ rfl rfl rfl rfl
theorem Zh(S:FuncId->Option Sp)(g:FuncId)(r:AV)(aZ9:List AV):wg S (T' (g,r)) aZ9=mI S (.fn g []) (r::aZ9):=rfl
theorem aad(t:TypeId)(m:String)(T:aL):Bi t m T []=(T.mt t m).map λg=>(g,.agg []):=rfl
theorem aae(t:TypeId)(m:String)(T:aL)(v:Value):Bi t m T [v]=(T.mt t m).map λg=>(g,.agg [.r v]):=rfl
theorem aac(T:aL)(m:String)(t:TypeId)(vs:Array Value):D4 T m (.r (.iface t (.agg vs)))=Bi t m T vs.toList:=rfl
theorem aak(T:aL)(t:TypeId):wJ T t (.agg [])=(T.mi t=Z',.r (.iface t (.agg #[]))):=rfl
theorem aal(T:aL)(t:TypeId)(v:Value):wJ T t (.agg [.r v])=(T.mi t=Z',.r (.iface t (.agg #[v]))):=rfl
theorem Wu(t:TypeId)(d:Nat)(z:List AV)(h:T.zr t=T' z):dJ T S ⟨T' d,.alloc t,ty,pos,af,g⟩ σ=(True,(σ.g7 d ⟨Z',.c z⟩).put (T' d) (.ptr d 0)):=by simp only[dJ,h]
theorem WZ(t:TypeId)(p v:Operand):dJ T S ⟨Y',.store t p v,ty,pos,af,g⟩ σ=oN T σ t (ev σ.get p) (ev σ.get v):=by simp only[dJ,true_and]
theorem Wx(t:TypeId)(ps:Array (Nat×Operand)):dJ T S ⟨d,.build t ps,ty,pos,af,g⟩ σ=pv σ d (xY T t (vV σ.get ps.toList)):=jV T S σ _ _ rfl rfl rfl (by simp only[qv,xY,M5];rfl)
theorem Wy(t:TypeId)(n:Nat)(ps:Array (Nat×Operand)):dJ T S ⟨d,.buildSlice t n ps,ty,pos,af,g⟩ σ=pv σ d (Gt T t n ps.toList (yr σ.get ps.toList)):=by
 show pv σ d (sM T σ.get t n ps.toList)=_;unfold sM Gt;rw[M4]
 rfl
end
section
variable {c:Code}{Q:Exit->St->Prop}{fn:Func}{f:FuncId}{k:IntKind}{xs:List Int}{n:Nat}{P:Program}{σ:St}{T:aL}
def vF(t:Nat)(k:IntKind)(xs:List Int)(e:Exit)(σ:St):Prop:=
 (e=.normal\/e=.ret)/\((∃id wr,σ.get t=.os id 1 0 xs.length/\σ.ae id=T' ⟨wr,.n k xs⟩)\/(σ.get t=.dt/\xs=[]))
theorem nM.of(hT:cU P T){args:List AV}{t:Nat}(hf:P.funcs[f]?=T' fn)(hb:fn.body=T' c)(ax:(fn.name== "runtime.NumGoroutine")=a0a)(ay:fn.ntmps=n)(a1:fn.results=#[.tmp t])(aw:args.all AV.im=Z')(hn:args.length<=n)(h:ai P T n c (vF t k xs) ⟨gA 0 args,[]⟩):nM P f args (.ns k xs):=by
 subst ay;refine⟨k,xs,rfl,λw X vs hX hl hr=>⟨pR hf hb ax vs w,calls_of_wp hf hb ?_⟩⟩;have hC:av ⟨fn.ntmps,w,X,Y',λ_=>False,[],λ_=>Y'⟩ (λ_=>Y') (St.get ⟨gA 0 args,[]⟩) (St.ae ⟨gA 0 args,[]⟩) {tmps:=vs++Array.replicate (fn.ntmps-vs.size) undef,defers:=[]} w:=
  Ap aw hn hX hl hr
 refine wp_mono (h _ _ _ w rfl (λ_=>rfl) hC) λe a' w'⟨σ',β',⟨he,h1⟩,hC'⟩=>?_
 have ao:Below w.heap.size w w':=⟨hC'.aQ.os,hC'.aQ.tape,hC'.aQ.output,hC'.aQ.size,λk hk=>hC'.aQ.old k ⟨hk,λh=>h.elim⟩ (λ_ _ h=>by cases h)⟩;have a0:(results fn a'.tmps).run P w'=.ok (a'.tmps.getD t undef) w':=by
  unfold results;rw[a1];simp only[List.mapM_toArray,Km,List.mapM_nil,cC,Sem.run_map,cJ,cz]
  rfl
 have hv:=hC'.rel t;have key:a'.defers=[]/\∃v,(results fn a'.tmps).run P w'=.ok v w'/\∃ab,Ending.returned v=.returned ab/\Below w.heap.size w w'/\
  ((∃b o cap C e',ab=.slice (T' ⟨b,o,Y'⟩) xs.length cap/\xs.length<=cap/\o+cap<=C.size/\w.heap.size<=b/\w'.heap[b]?=T' (.cells C e' (0,0))/\
   ∀(j:Nat)(x:Int),xs[j]?=T' x->C[o+j]?=T' (.int k x))\/(xs=[]/\∃ad,ab=.slice ad 0 0)):=by
  refine⟨hC'.gp,_,a0,_,rfl,ao,?_⟩;rcases h1 with⟨id,wr,g1,g2⟩|⟨g1,rfl⟩
  .rw[g1]at hv
   obtain⟨ad,cap,q1,q2,q3⟩:=hv;rcases q3 _ g2 with q3|⟨b,base,C,e',q4,q5,q6,q7⟩
   .subst q3
    have hx:xs=[]:=lY f';subst hx;exact .inr ⟨rfl,ad,q1⟩
   .rcases hC'.hp id _ g2 with af|⟨b',a3,C',a4,p1,p2,p3,p4,p5⟩
    .rw[q4]at af;cases af.1
    .rw[q4]at p1
     simp only[aC,db]at p1;obtain⟨rfl,rfl⟩:=p1;rw[q6]at p2;simp only[aC,ma]at p2;obtain⟨rfl,rfl,_⟩:=p2;subst q5;refine .inl ⟨b,base,cap,C,e',q1,q2,f',?_,q6,λj x hj=>?_⟩
     .rcases p5 with p5|⟨_,_,p5,_⟩
      .exact nV (λh=>p5.1 ⟨h,λx=>x.elim⟩)
      .cases p5
     .obtain⟨v,v1,v2⟩:=p4 j (.r (.int k x)) (by simp[aN.val,hj])
      rw[v1,RI.aS v2]
  .rw[g1]at hv
   generalize a'.tmps.getD t undef=x at hv;cases hv with
   |dt ad=>exact .inr ⟨rfl,ad,rfl⟩
 rcases he with rfl|rfl
 .exact key
 .exact key
def sG(T:aL)(rs:List ResultVar)(ts:List TypeId)(r0:AV)(n:Nat)(k:IntKind)(ys:List Int)(e:Exit)(σ:St):Prop:=
 aO T rs ts r0 e σ/\∃wr,σ.ae n=T' ⟨wr,.n k ys⟩
theorem nU.of(hT:cU P T)(a6:T.mu=Z'){ys:List Int}{rest:List AV}{r0:AV}{rs:List ResultVar}{ts:List TypeId}(hf:P.funcs[f]?=T' fn)(hb:fn.body=T' c)(bt:(fn.name== "runtime.NumGoroutine")=a0a)(bw:fn.ntmps=n)(a1:fn.results.toList=rs)(a3:fn.resultTypes.toList=ts)(br:rest.all AV.im=Z')(hn:rest.length+1<=n)(hlen:ys.length=xs.length)(h:ai P T n c (sG T rs ts r0 n k ys) ⟨(0,.os n 1 0 xs.length)::gA 1 rest,[(n,⟨Z',.n k xs⟩)]⟩):
 nU P f (.ns k xs::rest) (.aU [r0,.ns k ys]):=by
 subst bw;refine⟨k,xs,rest,r0,ys,rfl,rfl,hlen,λw X vs b o cap C e' hX ax bA bB bc ab bH bd bx=>⟨pR hf hb bt vs w,calls_of_wp hf hb ?_⟩⟩;have bK:vs.size=rest.length+1:=by simpa using bA
 have a7:∀β G i,(∀id c' base,G id=T' ⟨Z',c'⟩->β id=T' (i,base)->i=b)->XG ⟨fn.ntmps,w,X,T' (b,o,o+xs.length),λ_=>False,[],λ_=>Y'⟩ β G i->X i:=by
  intro β G i hi hx;rcases hx with hx|⟨id,c',base,g1,g2⟩
  .exact hx
  .rw[hi id c' base g1 g2];exact ax
 have hC:av ⟨fn.ntmps,w,X,T' (b,o,o+xs.length),λ_=>False,[],λ_=>Y'⟩ (λi=>if i=fn.ntmps then T' (b,o)else Y') (St.get ⟨(0,.os fn.ntmps 1 0 xs.length)::gA 1 rest,[(fn.ntmps,⟨Z',.n k xs⟩)]⟩)
  (St.ae ⟨(0,.os fn.ntmps 1 0 xs.length)::gA 1 rest,[(fn.ntmps,⟨Z',.n k xs⟩)]⟩) {tmps:=vs++Array.replicate (fn.ntmps-vs.size) undef,defers:=[]} w:=by
  have ao:∀id ae,St.ae ⟨(0,.os fn.ntmps 1 0 xs.length)::gA 1 rest,[(fn.ntmps,⟨Z',.n k xs⟩)]⟩ id=T' ae->fn.ntmps=id/\ae=⟨Z',.n k xs⟩:=by
   intro id ae hi;simp only[St.ae,lk]at hi;split at hi
   .rename_i e;cases hi;exact⟨e,rfl⟩
   .cases hi
  refine⟨O',λt=>?_,rfl,λid ae hi=>?_,λi j b' c' x y bn hx hy=>?_,⟨rfl,rfl,rfl,aM _,λ_ _ _=>rfl,λb' lo hi hm=>?_⟩,λb hb=>⟨hX b hb,λh=>h.elim⟩,λ_ _ h=>(by cases h)⟩
  .have ay:∀j v,vs[j]?=T' v->(vs++Array.replicate (fn.ntmps-vs.size) undef).getD j undef=v:=by
    intro j v hv;have bs:j<vs.size:=(ir.1 hv).1;rw[iW,Ca bs,hv];rfl
   simp only[St.get,lk];split
   .rename_i e
    subst e;simp only[rf];rw[ay 0 _ bB];refine⟨_,cap,rfl,bc,λae bE=>.inr ⟨b,o,C,e',J',rfl,ab,f'⟩⟩
   .rename_i e
    rw[DU]
    by_cases h1:1<=t
    .rw[au h1]
     cases hc:rest[t-1]? with
     |none=>exact RI.any _
     |some c=>
      obtain⟨v,hv,bz⟩:=bx _ c hc;rw[Tq h1]at hv;have bm:c.im=true:=fq.1 br c (kL hc);simp only[rf];refine RV.of bm ?_;rw[ay t v hv];refine bz.cW (dZ.refl _ _) (λi _ hx=>a7 _ _ i (λid c' base g1 g2=>?_) hx);split at g2
      .simp only[aC,db]at g2;exact g2.1.symm
      .cases g2
    .omega
  .obtain⟨rfl,rfl⟩:=ao id ae hi
   refine .inr ⟨b,o,C,e',J',ab,by simp only[aN.len];omega,λj c hj=>?_,.inr ⟨o,o+xs.length,rfl,aM _,by simp only[aN.len];omega,ax,λ_=>rfl⟩⟩;simp only[aN.val,kR]at hj;obtain⟨x,hx,rfl⟩:=hj;exact⟨_,bd j x hx,RI.r _⟩
  .obtain⟨rfl,_⟩:=ao i x hx
   obtain⟨rfl,_⟩:=ao j y hy;exact(bn rfl).elim
  .simp only[aC,db]at hm
   obtain⟨rfl,rfl,rfl⟩:=hm;exact⟨C,C,e',ab,ab,rfl,λ_ _=>rfl⟩
 have a0:T.mu=a0a->(⟨fn.ntmps,w,X,T' (b,o,o+xs.length),λ_=>False,[],λ_=>Y'⟩:Ctx).mu=none:=λh=>by rw[a6]at h;cases h
 refine wp_mono (h _ _ _ w rfl a0 hC) λe a' w'⟨σ',β',⟨⟨he,h1,h2⟩,wr,h3⟩,hC'⟩=>?_
 obtain⟨v,v1,v2⟩:=Ex (fn:=fn) (r:=r0) hT a0 hC' (by rw[a1,a3];exact h1) (by rw[a1,a3];exact h2);have key:a'.defers=[]/\∃v,(results fn a'.tmps).run P w'=.ok v w'/\∃a4,Ending.returned v=.returned a4/\RI w' X r0 a4/\vG w w' b o (o+xs.length)/\
  ∀C',(∃aw,w'.heap[b]?=T' (.cells C' aw (0,0)))->∀(j:Nat)(y:Int),ys[j]?=T' y->C'[o+j]?=T' (.int k y):=by
  refine⟨hC'.gp,v,v1,v,rfl,v2,⟨hC'.aQ.os,hC'.aQ.tape,hC'.aQ.output,hC'.aQ.size,λi hi bu=>hC'.aQ.old i ⟨hi,λh=>h.elim⟩ (λlo bF hm=>?_),λC0 e0 a5=>?_⟩,λC'⟨aw,hC''⟩j y hj=>?_⟩
  .simp only[aC,db]at hm
   exact bu hm.1.symm
  .obtain⟨C1,C2,e1,g1,g2,g3,g4⟩:=hC'.aQ.Bj b o (o+xs.length) rfl
   have af:w.heap[b]?=T' (.cells C1 e1 (0,0)):=g1;rw[a5]at af;simp only[aC,ma]at af;obtain⟨rfl,rfl,_⟩:=af;exact⟨C2,g2,g3,g4⟩
  .rcases hC'.hp _ _ h3 with h4|⟨b2,bD,C2,e2,q1,q2,q3,q4,q5⟩
   .have:ys=[]:=lY (by simpa[aN.len]using h4.2)
    subst this;simp at hj
   .rcases q5 with q5|⟨lo,hi,q5,_,_,_,q6⟩
    .exact(q5.2 rfl).elim
    .simp only[aC,db]at q5
     obtain⟨rfl,rfl,_⟩:=q5;have bb:=q6 rfl;subst bb;rw[hC'']at q2;simp only[aC,ma]at q2;obtain⟨rfl,_,_⟩:=q2;obtain⟨u,u1,u2⟩:=q4 j (.r (.int k y)) (by simp[aN.val,hj]);rw[u1,RI.aS u2]
 rcases he with rfl|rfl
 .exact key
 .exact key
theorem ai.iG{x y:Code}{ι:Type}(J:ι->St)(h1:ai P T n x (ls (λσ=>∃i,Le σ (J i)) Q) σ)(h2:∀i,ai P T n y Q (J i)):ai P T n (.seq x y) Q σ:=
 .seq (h1.mono λe σ' h=>by
  cases e with
  |normal=>obtain⟨i,hi⟩:=h;exact(h2 i).dS hi
  |_=>exact h)
abbrev uA(d:Nat)(t:TypeId)(x:Operand)(t' ty:TypeId)(pos:String)(af:Array Edge):Oper:=
 {dst:=T' d,op:=.binOp .eql t x (.const (.slice Y' 0 0)) t',type:=ty,pos:=pos,after:=af,guard:=Y'}
theorem ai.abI{S:FuncId->Option Sp}(hT:cU P T)(hS:bh P S){id:Nat}{l:List Oper}{d:Nat}{t t' ty e:TypeId}{x:Operand}{pos:String}{af:Array Edge}(ay:P.underlying t=T' (.slice e))(gs:List (Option (Option Nat×Bool)))(hd:iz (l++[uA d t x t' ty pos af]).toArray n=Z')(hg:Du (l++[uA d t x t' ty pos af]).toArray l=gs)(h:Bp T S l gs (λab=>∃k xs,ev ab.get x=.ns k xs/\∀b,(xs≠[]->b=a0a)->Q .normal (ab.put (T' d) (.r (.bool b)))) σ):
 ai P T n (.region id (l++[uA d t x t' ty pos af]).toArray a0a) Q σ:=by
 intro κ β a w hn hm hC;refine wp_region_list ?_;have ao:∀o∈(l++[uA d t x t' ty pos af]),∀t,o.dst=T' t->t<κ.nt:=by
  intro o ho t ht;have:=lS.1 hd o (by simpa using ho);rw[ht]at this;rw[hn];simpa using this
 rw[<-hg,<-Iz]at h;have h':=h;refine wV hT hS hm (λab a3 a1 w1⟨k,xs,h1,h2⟩hc=>?_) l σ β a w (λo ho=>ao o (jm.2 (.inl ho))) h' hC;unfold wpList;simp only[Region.wanted,if_true];have hx:=hc.ev x;rw[h1]at hx;have hv:∃ad c,a1.eval x=.slice ad xs.length c/\(xs≠[]->ad.isNone=a0a):=by
  cases hx':a1.eval x with
  |slice ad m c=>
   rw[hx']at hx;cases hx with
   |ns _ _ _ b o _ _ ha _=>exact⟨ad,c,rfl,λax=>by rw[(ha (ue.2 ax)).1];rfl⟩
  |_=>rw[hx']at hx;cases hx
 obtain⟨ad,c,v1,v2⟩:=hv;refine .inl (Sn (κ:=κ) (σ:=ab.put (T' d) (.r (.bool ad.isNone))) ?_ (λa0 a' w' aw=>?_))
 .have e1:(execOp a1.eval (uA d t x t' ty pos af)).run P w1=.ok (.value (.bool ad.isNone)) w1:=by
   have e2:a1.eval (.const (.slice Y' 0 0))=.slice Y' 0 0:=rfl;simp only[execOp,eqGuard,Bool.not_true,mz,if_false,cC,v1,e2,Lib.run_eql_slice_nil w1 t e ad xs.length c 0 0 ay,cz,cJ]
  rw[e1];refine⟨a3,?_⟩;rw[St.fh,St.eQ];exact hc.put (λt ht=>ao _ (jm.2 (.inr (.head _))) t ht) (RI.r _)
 .unfold wpList
  exact⟨_,a0,h2 _ v2,aw⟩
end
section
variable {l li:Array Bool}{Q:Exit->Act->World->Prop}{S:FuncId->Option Sp}{s:NS}{Qf:NS->Prop}{b i i0 i1 i2 i3 i4 id j p p0 p1 p2 p3 p4:Nat}{o oi oj x y:Oper}{P:Program}{σ:St}{K:St->Prop}{T:aL}
def uY:Op->Option Nat
 |.load _ (.tmp p)=>T' p
 |.fieldAddr _ (.tmp p) _=>T' p
 |.store _ (.tmp p) _=>T' p
 |_=>Y'
def wj:Op->Bool
 |.load _ (.tmp _)=>Z'
 |.fieldAddr _ (.tmp _) _=>Z'
 |_=>a0a
section
variable {P:Program}{T:aL}{S:FuncId->Option Sp}{ops:Array Oper}
structure Cm(T:aL)(S:FuncId->Option Sp)(ops:Array Oper)(s:NS)(x y:Oper):Prop where
 xy:aY T S ops x (dw y.dst (aY T S ops y s).2 s)=aY T S ops x s
 yx:aY T S ops y (dw x.dst (aY T S ops x s).2 s)=aY T S ops y s
 cm:dw x.dst (aY T S ops x s).2 (dw y.dst (aY T S ops y s).2 s)=dw y.dst (aY T S ops y s).2 (dw x.dst (aY T S ops x s).2 s)
theorem Cm.symm(h:Cm T S ops s x y):Cm T S ops s y x:=⟨h.yx,h.xy,h.cm.symm⟩
theorem Vu(hap:Ae ops x y=Z')(hx:m7 x s)(hy:m7 y s):Cm T S ops s x y:=by
 obtain⟨a1,a2,a3,a4,a5⟩:=K7 hap;exact⟨GZ a3 rfl (λh=>⟨Bool.eq_false_iff.2 (λhs=>by rw[(a4 hs).1]at h;cases h),a5 h⟩) hy,GZ a1 rfl a4 hx,TY hap hx hy⟩
theorem TZ(h:x.apart ops y=Z'):y.apart ops x=true:=by
 obtain⟨a1,a2,a3⟩:=KH h;unfold Oper.apart;cases hx:x.dst with
 |none=>
  cases hy:y.dst with
  |none=>rfl
  |some e=>have:=a3 e hy;simp[this]
 |some d=>
  have h1:=a1 d hx;have h2:=a2 d hx;cases hy:y.dst with
  |none=>simp[h1]
  |some e=>
   have h3:=a3 e hy;rw[hy]at h2;have:d≠e:=λq=>h2 (by rw[q])
   simp[h1,h3,this]
theorem Ic{α:Type}:∀{l:List (Nat×α)}{p:Nat}{v:α},lk l p=T' v->(p,v)∈l
 |[],_,_,h=>by cases h
 |(k,u)::l,p,v,h=>by
  simp only[lk]at h;split at h
  .rename_i e;subst e;cases h;exact .head _
  .exact .tail _ (Ic h)
theorem Gh(hne:∀d,oi.dst=T' d->d≠p)(ef:Ef):(dw oi.dst ef s).1 p=s.1 p:=by
 cases ef with
 |put v=>exact Jt hne
 |all z=>
  simp only[dw];cases hd:oi.dst with
  |none=>rfl
  |some d=>exact bS _ _ (hne d hd)
 |lQ id c=>rfl
end
def rn(ops:Array Oper)(o:Oper):List Edge:=o.after.toList++(o.after.toList.filter (Region.binds .any)).flatMap λe=>match ops[e.on]? with
 |some o'=>o'.after.toList
 |none=>[]
def jo(ops:Array Oper)(o:Oper):Oper:={o with after:=(rn ops o).toArray}
def cT(l:List Oper):List Oper:=l.map (jo l.toArray)
theorem uo(l:List Oper)(i:Nat):(cT l).toArray[i]?=(l.toArray[i]?).map (jo l.toArray):=by simp[cT]
theorem Gl(l:List Oper):(cT l).toArray.size=l.toArray.size:=by simp[cT]
theorem Ls(l:List Oper)(j:Nat):((cT l).toArray[j]?).bind (·.dst)=(l.toArray[j]?).bind (·.dst):=by
 rw[uo];cases l.toArray[j]?<;>rfl
theorem Ui(l:List Oper)(tm:Array Value):yielded (cT l).toArray tm=yielded l.toArray tm:=by
 funext j
 unfold yielded;rw[Ls]
def Cl(ops:Array Oper)(li:Array Bool):Prop:=∀(i:Nat)(o:Oper),ops[i]?=T' o->li.getD i a0a=Z'->∀e∈o.after,Region.binds .any e=Z'->li.getD e.on a0a=Z'
theorem yW{l:List Oper}(h:Cl l.toArray li)(j:Nat):j∈Region.ready .any l.toArray li↔j∈Region.ready .any (cT l).toArray li:=by
 rw[mem_ready,mem_ready,uo];refine and_congr_right λ_=>⟨?_,?_⟩
 .rintro⟨o,ho,he⟩
  refine⟨jo l.toArray o,by rw[ho];rfl,λe hm hb=>?_⟩;have hm':e∈rn l.toArray o:=by simpa[jo]using hm
  unfold rn at hm';rcases jm.1 hm' with h1|h1
  .exact he e (by simpa using h1) hb
  .obtain⟨e',h2,h3⟩:=FG.1 h1
   obtain⟨h4,h5⟩:=FE.1 h2;have h6:=he e' (by simpa using h4) h5;split at h3
   .rename_i o' ho'
    exact h _ o' ho' h6 e (by simpa using h3) hb
   .cases h3
 .rintro⟨o',ho',he⟩
  cases ho:l.toArray[j]? with
  |none=>rw[ho]at ho';cases ho'
  |some o=>
   rw[ho]at ho';cases ho';refine⟨o,rfl,λe hm hb=>he e ?_ hb⟩;simp only[jo,List.mem_toArray,rn,jm];exact .inl (by simpa using hm)
theorem getD_set_true(li:Array Bool)(i j:Nat)(h:li.getD j a0a=Z'):(li.setIfInBounds i Z').getD j a0a=true:=by
 by_cases e:i=j
 .subst e
  rcases dQ i li.size with h'|h'
  .simp[Array.getD,h']
  .simp[Array.getD,KD.2 h']at h
 .rw[getD_set_ne a0a e];exact h
theorem Cl.step{ops:Array Oper}(h:Cl ops li)(hj:j∈Region.ready .any ops li):Cl ops (li.setIfInBounds j Z'):=by
 intro i o ho hi e he hb;refine getD_set_true li j _ ?_
 by_cases hij:j=i
 .subst hij
  obtain⟨_,o',ho',hall⟩:=mem_ready.1 hj;rw[ho]at ho';cases ho';exact hall e he hb
 .rw[getD_set_ne a0a hij]at hi
  exact h i o ho hi e he hb
theorem agD{l:List Oper}{K K':Act->World->Prop}{a:Act}{w:World}(hk:∀a w,K a w->K' a w)(h:wpOp P (cT l).toArray Q i K a w):wpOp P l.toArray Q i K' a w:=by
 refine wpOp_mono hk ?_;unfold wpOp at h|-;rw[uo,Ui]at h;cases ho:l.toArray[i]? with
 |none=>rw[ho]at h;exact h
 |some o=>rw[ho]at h;exact h
theorem EX{l:List Oper}:∀(fuel:Nat)(li:Array Bool)(a:Act)(w:World),Cl l.toArray li->wpAny P .any (cT l).toArray Q fuel li a w->wpAny P .any l.toArray Q fuel li a w
 |0,li,a,w,hc,h=>by
  refine⟨vC.2 λj hj=>?_,h.2⟩;have:=(yW hc j).1 hj;rw[h.1]at this;cases this
 |fuel+1,li,a,w,hc,h=>by
  refine⟨λh0=>h.1 (vC.2 λj hj=>?_),λi hi=>agD (λa w hh=>EX fuel _ a w (hc.step hi) hh) (h.2 i ((yW hc i).1 hi))⟩;have:=(yW hc j).2 hj;rw[h0]at this;cases this
theorem Cl.start(ops:Array Oper)(n:Nat):Cl ops (Array.replicate n a0a):=by
 intro i o _ hi;rcases dQ i n with h|h
 .simp[Array.getD,h]at hi
 .simp[Array.getD,KD.2 h]at hi
theorem uX(l:List Oper):∀(os:List Oper)(σ:St),cY T S l.toArray os K σ->cY T S (cT l).toArray (os.map (jo l.toArray)) K σ
 |[],σ,h=>h
 |o::os,σ,h=>by
  have hst:∀σ,dJ T S (jo l.toArray o) σ=dJ T S o σ:=λσ=>by cases o;rfl
  simp only[fX,cY,jh,Ls,hst]at h|-;show match o.guard with|none=>_|some (j,want)=>_
  cases hg:o.guard with
  |none=>
   simp only[hg]at h;exact⟨h.1,uX l os _ h.2⟩
  |some p=>
   obtain⟨j,want⟩:=p;simp only[hg]at h|-;split at h
   .exact uX l os _ h
   .split at h
    .exact⟨λe=>⟨(h.1 e).1,uX l os _ (h.1 e).2⟩,λe=>uX l os _ (h.2 e)⟩
    .exact uX l os _ h
    .exact h
theorem C8(f:Oper->Oper)(hf:∀o,(f o).dst=o.dst/\(f o).op=o.op):∀(os:List Oper)(σ:St),a8 (os.map f) σ=a8 os σ
 |[],σ=>rfl
 |o::os,σ=>by
  simp only[fX,a8,(hf o).1,(hf o).2,C8 f hf os]
def CQ(cs al:List (Nat×Nat))(fd:List (Nat×Nat×Nat))(o:Oper):Option Nat:=
 match uY o.op with
 |none=>Y'
 |some p=>match lk cs p with
  |some i=>T' i
  |none=>match lk al p with
   |some i=>if(o.after.toList.any λe=>Region.binds .any e&&e.on==i)then T' p else Y'
   |none=>match lk fd p with
    |some (i,b)=>if(o.after.toList.any λe=>Region.binds .any e&&e.on==i)then T' b else Y'
    |none=>Y'
def MG(cs al:List (Nat×Nat))(fd:List (Nat×Nat×Nat))(x y:Oper):Bool:=
 match CQ cs al fd x,CQ cs al fd y with
 |some i,T' j=>i !=j
 |_,_=>a0a
def Ad(cs al:List (Nat×Nat))(fd:List (Nat×Nat×Nat))(ops:Array Oper)(x y:Oper):Bool:=
 Ae ops x y||(x.apart ops y&&((wj x.op&&kB y.op)||(kB x.op&&wj y.op))&&MG cs al fd x y)
def yI(cs al:List (Nat×Nat))(fd:List (Nat×Nat×Nat))(o:Oper)(p b:Nat):Bool:=
 lk cs p==T' b||(match lk al p with|some i=>p==b&&(o.after.toList.any λe=>Region.binds .any e&&e.on==i)|none=>a0a)||
 (match lk fd p with|some (i,b')=>b'==b&&(o.after.toList.any λe=>Region.binds .any e&&e.on==i)|none=>a0a)
def Pm(cs al:List (Nat×Nat))(fd:List (Nat×Nat×Nat))(ops:Array Oper):Bool:=
 fd.all λq=>(match ops[q.2.1]? with
  |some o=>o.dst==T' q.1&&o.guard.isNone&&(match o.op with|.fieldAddr _ (.tmp p) _=>yI cs al fd o p q.2.2|.indexAddr _ (.tmp p) _=>yI cs al fd o p q.2.2|.move (.tmp p)=>yI cs al fd o p q.2.2|_=>a0a)
  |none=>a0a)&&(List.range ops.size).all λj=>j==q.2.1||(match ops[j]? with|some o=>o.dst !=T' q.1|none=>Z')
def okF(cs al:List (Nat×Nat))(fd:List (Nat×Nat×Nat))(ops:Array Oper):Bool:=
 Pm cs al fd ops&&((ops.toList.all λo=>match o.dst with|some d=>(lk cs d).isNone|none=>Z')&&(al.all λp=>match ops[p.2]? with|some o=>kA o.op&&o.dst==T' p.1&&o.guard.isNone|none=>a0a))&&
 (List.range ops.size).all λj=>match ops[j]? with
  |none=>Z'
  |some oj=>(oj.after.all λe=> !Region.binds .any e||decide (e.on<j))&&(List.range j).all λi=>match ops[i]? with
   |none=>Z'
   |some oi=>((oj.after.toList.any λe=>Region.binds .any e&&e.on==i)||Ad cs al fd ops oi oj)&&(!(kA oi.op||kA oj.op)||oi.dst !=oj.dst)
section
variable {P:Program}{T:aL}{S:FuncId->Option Sp}{κ:Ctx}{β:Nat->Option (Nat×Nat)}{a:Act}{w:World}{ops:Array Oper}{cs al:List (Nat×Nat)}{fd:List (Nat×Nat×Nat)}
def dL(b:Nat)(v:AV):Prop:=(∃off,v=.ptr b off)\/(∃s off len,v=.os b s off len)\/∃c,v=.vp c
structure tZ(cs al:List (Nat×Nat))(fd:List (Nat×Nat×Nat))(l:Array Bool)(s:NS):Prop where
 c:∀p i,lk cs p=T' i->dL i (s.1 p)
 a:∀p i,lk al p=T' i->l.getD i a0a=Z'->s.1 p=.ptr p 0
 f:∀p i b,lk fd p=T' (i,b)->l.getD i a0a=Z'->dL b (s.1 p)
theorem It(h:okF cs al fd ops=Z')(hi:ops[i]?=T' oi)(hj:ops[j]?=T' oj)(hij:i<j):
 ((∃e∈oj.after,Region.binds .any e=Z'/\e.on=i)\/Ad cs al fd ops oi oj=Z')/\(kA oi.op=Z'\/kA oj.op=Z'->oi.dst≠oj.dst):=by
 simp only[okF,dG]at h;have hlt:j<ops.size:=(ir.1 hj).1;have h1:=fq.1 h.2 j (j7.2 hlt);simp only[hj,dG]at h1;have h2:=fq.1 h1.2 i (j7.2 hij);simp only[hi,dG,Fo,Fz,bne_iff_ne,Fm,SX,fU]at h2;refine⟨?_,λha=>?_⟩
 .rcases h2.1 with⟨e,he,hb,ho⟩|h3
  .exact .inl ⟨e,by simpa using he,hb,ho⟩
  .exact .inr h3
 .rcases h2.2 with h3|h3
  .rcases ha with ha|ha
   .rw[h3.1]at ha;cases ha
   .rw[h3.2]at ha;cases ha
  .exact h3
theorem yS(h:okF cs al fd ops=Z')(hj:ops[j]?=T' oj):∀e∈oj.after,Region.binds .any e=Z'->e.on<j:=by
 simp only[okF,dG]at h;have hlt:j<ops.size:=(ir.1 hj).1;have h1:=fq.1 h.2 j (j7.2 hlt);simp only[hj,dG]at h1;intro e he hb;have h2:=lS.1 h1.1 e he;simpa[hb]using h2
theorem Pn(h:okF cs al fd ops=Z')(hi:ops[i]?=T' oi)(hj:ops[j]?=T' oj)(hij:i≠j)(ha:kA oi.op=Z'\/kA oj.op=Z'):oi.dst≠oj.dst:=by
 rcases dQ i j with h'|h'
 .exact(It h hi hj h').2 ha
 .have h'':j<i:=by omega
  exact mZ ((It h hj hi h'').2 ha.symm)
theorem aaQ(h:okF cs al fd ops=Z')(hi:ops[i]?=T' oi){d:Nat}(hd:oi.dst=T' d):lk cs d=none:=by
 simp only[okF,dG]at h;have:=fq.1 h.1.2.1 oi (by simpa using nK hi);rw[hd]at this;simpa using this
theorem aaO(h:okF cs al fd ops=Z')(hp:lk al p=T' i):∃o,ops[i]?=T' o/\kA o.op=Z'/\o.dst=T' p/\o.guard=none:=by
 simp only[okF,dG]at h;have:=fq.1 h.1.2.2 _ (Ic hp);simp only at this;split at this
 .rename_i o ho
  simp only[dG,fU,Tr]at this;exact⟨o,ho,this.1.1,this.1.2,this.2⟩
 .cases this
theorem aaP(h:okF cs al fd ops=Z')(hp:lk fd p=T' (i,b)):(∃o q,ops[i]?=T' o/\((∃s k,o.op=.fieldAddr s (.tmp q) k)\/(∃t y,o.op=.indexAddr t (.tmp q) y)\/o.op=.move (.tmp q))/\o.dst=T' p/\o.guard=Y'/\yI cs al fd o q b=Z')/\∀j oj,ops[j]?=T' oj->j≠i->oj.dst≠T' p:=by
 simp only[okF,Pm,dG]at h;have h0:=fq.1 h.1.1 _ (Ic hp);simp only[dG]at h0;obtain⟨h1,h2⟩:=h0;constructor
 .split at h1
  .rename_i o ho
   simp only[dG,fU,Tr]at h1;obtain⟨⟨a1,a2⟩,a3⟩:=h1;split at a3
   .rename_i s q k hop
    exact⟨o,q,ho,.inl ⟨s,k,hop⟩,a1,a2,a3⟩
   .rename_i t q y hop
    exact⟨o,q,ho,.inr (.inl ⟨t,y,hop⟩),a1,a2,a3⟩
   .rename_i q hop
    exact⟨o,q,ho,.inr (.inr hop),a1,a2,a3⟩
   .cases a3
  .cases h1
 .intro j oj hj hne
  have hlt:j<ops.size:=(ir.1 hj).1;have:=fq.1 h2 j (j7.2 hlt);simp only[hj,Fo,fU,bne_iff_ne,ne_eq]at this;rcases this with h|h
  .exact absurd h hne
  .exact h
theorem nS.step(hok:okF cs al fd ops=Z')(h:Inv ops l s)(hi:ops[i]?=T' oi)(hp:(aY T S ops oi s).1):
 Inv ops (l.setIfInBounds i Z') (dw oi.dst (aY T S ops oi s).2 s):=by
 intro k ok hk hun hA d hd u
 by_cases hki:i=k
 .subst hki
  have:(l.setIfInBounds i Z').getD i Z'=true:=by
   by_cases hlt:i<l.size
   iterate 2
    .simp[Array.getD,hlt]
  rw[this]at hun;cases hun
 .rw[getD_set_ne Z' hki]at hun
  refine aaC hp (h k ok hk hun) (λd hd he=>?_) hA d hd u;exact Pn hok hi hk hki (.inr hA) (by rw[hd,he])
theorem ZF(h:tZ cs al fd l s)(hw:∀e∈o.after,Region.binds .any e=Z'->l.getD e.on a0a=Z')(hb:yI cs al fd o p b=Z'):dL b (s.1 p):=by
 have aw:∀i,(o.after.toList.any λe=>Region.binds .any e&&e.on==i)=Z'->l.getD i a0a=true:=by
  intro i hany;obtain⟨e,he,hbo⟩:=Fz.1 hany;simp only[dG,fU]at hbo;have:=hw e (by simpa using he) hbo.1;rwa[hbo.2]at this
 simp only[yI,Fo]at hb;rcases hb with(hb|hb)|hb
 .exact h.c p b (by simpa using hb)
 .split at hb
  .rename_i i hi
   simp only[dG,fU]at hb;obtain⟨rfl,hb⟩:=hb;exact .inl ⟨0,h.a p i hi (aw i hb)⟩
  .cases hb
 .split at hb
  .rename_i i b' hi
   simp only[dG,fU]at hb;obtain⟨rfl,hb⟩:=hb;exact h.f p i _ hi (aw i hb)
  .cases hb
theorem tZ.step(hok:okF cs al fd ops=Z')(h:tZ cs al fd l s)(hi:ops[i]?=T' oi)(hw:∀e∈oi.after,Region.binds .any e=Z'->l.getD e.on a0a=Z')(hc:(aY T S ops oi s).1):tZ cs al fd (l.setIfInBounds i Z') (dw oi.dst (aY T S ops oi s).2 s):=by
 refine⟨λp j hp=>?_,λp j hp hl=>?_,λp j b hp hl=>?_⟩
 .have e:(dw oi.dst (aY T S ops oi s).2 s).1 p=s.1 p:=Gh (λd hd e=>by
   have:=aaQ hok hi hd;rw[e,hp]at this;cases this) _
  rw[e];exact h.c p j hp
 .obtain⟨o,ho,hA,hd,hg⟩:=aaO hok hp
  by_cases hij:i=j
  .subst hij
   rw[hi]at ho;cases ho;have hgw:gw ops s.1 oi=T' true:=by unfold gw;rw[hg]
   have he:∃z,(aY T S ops oi s).2=.all z:=by
    unfold aY at hc|-;simp only[hgw]at hc|-;cases hop:oi.op<;>rw[hop]at hA<;>simp only[kA,mz]at hA
    rename_i t;simp only[hop]at hc|-;cases hz:T.zr t with
    |none=>simp[hz]at hc
    |some z=>exact⟨z,by simp⟩
   obtain⟨z,he⟩:=he;rw[he,hd];simp only[dw];exact eu _ _ _
  .rw[getD_set_ne a0a hij]at hl
   rw[<-h.a p j hp hl];exact Gh (λd hd' e=>Pn hok hi ho hij (.inr hA) (by rw[hd',hd,e])) _
 .obtain⟨⟨o,q,ho,hop,hd,hg,hq⟩,hoth⟩:=aaP hok hp
  by_cases hij:i=j
  .subst hij
   rw[hi]at ho;cases ho;have hgw:gw ops s.1 oi=T' true:=by unfold gw;rw[hg]
   have h1:=ZF h hw hq;have he:∃v,(aY T S ops oi s).2=.put v/\dL b v:=by
    have hq2:aY T S ops oi s=((qd T S s.1 s.2 oi).1,.put (qd T S s.1 s.2 oi).2):=by
     unfold aY;rcases hop with⟨s',k,hop⟩|⟨t,y,hop⟩|hop<;>simp only[hgw,hop]
    have hqd:(qd T S s.1 s.2 oi).2=(qv T S s.1 s.2 oi).2/\((qd T S s.1 s.2 oi).1->(qv T S s.1 s.2 oi).1):=by
     unfold qd;rcases hop with⟨s',k,hop⟩|⟨t,y,hop⟩|hop
     all_goals
      simp only[hop];exact⟨by first|rfl|trivial,λh=>h.1⟩
    rw[hq2]at hc|-;have hc:=hqd.2 hc;refine⟨_,rfl,?_⟩;rw[hqd.1];unfold qv at hc|-;rcases hop with⟨s',k,hop⟩|⟨t,y,hop⟩|hop
    .simp only[hop,ev]at hc|-
     cases hfo:T.fo s' k with
     |none=>simp[hfo]at hc
     |some d=>
      rcases h1 with⟨off,h1⟩|⟨u,off,len,h1⟩|⟨cv,h1⟩
      .exact .inl ⟨off+d,by simp[h1]⟩
      .simp[hfo,h1]at hc
      .exact .inr (.inr ⟨cv.drop d,by simp[h1]⟩)
    .simp only[hop,ev]at hc|-
     unfold idx at hc|-;rcases h1 with⟨off,h1⟩|⟨u,off,len,h1⟩|⟨cv,h1⟩
     .simp only[h1]at hc|-
      split at hc
      .split at hc
       .simp_all
        exact .inl ⟨_,rfl⟩
       .exact hc.elim
      .split at hc
       iterate 2
        .exact hc.elim
     .simp only[h1]at hc|-
      split at hc
      .split at hc
       iterate 2
        .exact hc.elim
      .split at hc
       .exact hc.elim
       .simp_all
        exact .inl ⟨_,rfl⟩
     .simp only[h1]at hc
      split at hc<;>split at hc<;>exact hc.elim
    .simp only[hop,ev]
     exact h1
   obtain⟨v,he,hv⟩:=he;rw[he,hd];have:(dw (T' p) (.put v) s).1 p=v:=eu _ _ _;rw[this];exact hv
  .rw[getD_set_ne a0a hij]at hl
   have e:(dw oi.dst (aY T S ops oi s).2 s).1 p=s.1 p:=Gh (λd hd' e=>hoth i oi hi hij (by rw[hd',e])) _;rw[e];exact h.f p j b hp hl
theorem LC(h:tZ cs al fd l s)(hw:∀e∈o.after,Region.binds .any e=Z'->l.getD e.on a0a=Z')(hb:CQ cs al fd o=T' b):∃p,uY o.op=T' p/\dL b (s.1 p):=by
 unfold CQ at hb;split at hb
 .cases hb
 .rename_i p hp
  split at hb
  .rename_i i hi
   cases hb;exact⟨p,hp,h.c p _ hi⟩
  .split at hb
   .rename_i i hi
    split at hb
    .rename_i hany
     cases hb;obtain⟨e,he,hbo⟩:=Fz.1 hany;simp only[dG,fU]at hbo;have:=hw e (by simpa using he) hbo.1;rw[hbo.2]at this;exact⟨_,hp,.inl ⟨0,h.a _ i hi this⟩⟩
    .cases hb
   .split at hb
    .rename_i i b' hi
     split at hb
     .rename_i hany
      cases hb;obtain⟨e,he,hbo⟩:=Fz.1 hany;simp only[dG,fU]at hbo;have:=hw e (by simpa using he) hbo.1;rw[hbo.2]at this;exact⟨_,hp,h.f _ i _ hi this⟩
     .cases hb
    .cases hb
theorem aby(hx:wj x.op=Z')(hp:uY x.op=T' p)(hs:dL i (s.1 p)){c:cq}(hne:i≠id):qd T S s.1 (aD s.2 id (T' c)) x=qd T S s.1 s.2 x:=by
 refine IK x (λ_ _=>rfl) (λq hq id' hr=>?_);refine bS _ _ (λe=>?_);subst e;have:q=.tmp p:=by
  cases hop:x.op<;>rw[hop]at hx hp hq<;>simp only[wj,mz]at hx
  .rename_i t o
   cases o<;>simp only[mz,uY,aC]at hx hp
   subst hp;simpa[Op.operands]using hq
  .rename_i t o f
   cases o<;>simp only[mz,uY,aC]at hx hp
   subst hp;simpa[Op.operands]using hq
 subst this;rcases hs with⟨off,hs⟩|⟨u,off,n,hs⟩|⟨cv,hs⟩
 all_goals
  simp only[ev,hs,AV.refs]at hr
  first|exact hne (by simp at hr;exact hr)|cases hr|simp at hr
theorem Mm{q:Nat}(hap:x.apart ops y=Z')(hx:wj x.op=Z')(hy:kB y.op=Z')(hp:uY x.op=T' p)(hq:uY y.op=T' q)(e1:dL i (s.1 p))(e2:dL j (s.1 q))(hd:i≠j)(hxn:m7 x s):Cm T S ops s x y:=by
 obtain⟨a1,a2,a3⟩:=KH hap;have hxs:kB x.op=false:=by
  cases hop:x.op<;>rw[hop]at hx<;>first|rfl|(simp only[wj,mz]at hx)
 have hxa:kA x.op=false:=by
  cases hop:x.op<;>rw[hop]at hx<;>first|rfl|(simp only[wj,mz]at hx)
 have hya:kA y.op=false:=by
  cases hop:y.op<;>rw[hop]at hy<;>first|rfl|(simp only[kB,mz]at hy)
 have yx:aY T S ops y (dw x.dst (aY T S ops x s).2 s)=aY T S ops y s:=GZ a1 rfl (λh=>by rw[hxs]at h;cases h) hxn;generalize hey:(aY T S ops y s).2=ey at*;cases ey with
 |put v=>
  refine⟨?_,yx,?_⟩
  .rw[hey]
   refine Az (Hv a3) (λ_ _=>Qh a3) (λh=>by rw[hxs]at h;cases h)
  .rw[hey]
   generalize hex:(aY T S ops x s).2=ex;cases ex with
   |put u=>simp only[dw];rw[RR (λd hd=>λh=>a2 d h hd|>.elim)]
   |all z=>have:=yl hex;rw[hxa]at this;cases this
   |lQ id c=>have:=(ym hex).1;rw[hxs]at this;cases this
 |all z=>have:=yl hey;rw[hya]at this;cases this
 |lQ id c=>
  have hid:id=j:=by
   rcases e2 with⟨o2,e2⟩|⟨u,o2,n2,e2⟩|⟨cv,e2⟩
   all_goals
    unfold aY at hey;split at hey
    .cases hey
    .cases hey
    .cases hop:y.op<;>rw[hop]at hy hq hey<;>simp only[kB,mz]at hy
     rename_i t o v;cases o<;>simp only[uY,aC,reduceCtorEq]at hq
     subst hq;simp only[ev,e2]at hey
     first
     |cases hey
     |(
      split at hey
      .rename_i id' off' vs h1 h2
       cases h1;split at hey
       .split at hey
        .simp only[Ef.lQ.injEq]at hey;exact hey.1.symm
        .cases hey
       .cases hey
      .cases hey)
  subst hid;refine⟨?_,yx,?_⟩
  .rw[hey]
   refine Az rfl (λ_ _=>aby hx hp e1 hd) (λh=>by rw[hxs]at h;cases h)
  .rw[hey]
   generalize hex:(aY T S ops x s).2=ex;cases ex with
   |put u=>rfl
   |all z=>have:=yl hex;rw[hxa]at this;cases this
   |lQ id c=>have:=(ym hex).1;rw[hxs]at this;cases this
theorem Vt(hap:Ad cs al fd ops x y=Z')(hl:tZ cs al fd l s)(hx:m7 x s)(hy:m7 y s)(wx:∀e∈x.after,Region.binds .any e=Z'->l.getD e.on a0a=Z')(wy:∀e∈y.after,Region.binds .any e=Z'->l.getD e.on a0a=Z'):Cm T S ops s x y:=by
 simp only[Ad,Fo,dG]at hap;rcases hap with h|⟨⟨h1,h2⟩,h3⟩
 .exact Vu h hx hy
 .unfold MG at h3
  split at h3
  .rename_i i j hi hj
   simp only[bne_iff_ne,ne_eq]at h3;obtain⟨p,hp,e1⟩:=LC hl wx hi;obtain⟨q,hq,e2⟩:=LC hl wy hj;rcases h2 with h2|h2
   .exact Mm h1 h2.1 h2.2 hp hq e1 e2 h3 hx
   .exact(Mm (TZ h1) h2.2 h2.1 hq hp e2 e1 (λe=>h3 e.symm) hy).symm
  .cases h3
theorem K6(hok:okF cs al fd ops=Z')(hi:ops[i]?=T' oi):
 ∀(fuel:Nat)(l:Array Bool)(s:NS),
  (∀j oj,ops[j]?=T' oj->j≠i->l.getD j Z'=a0a->i<j)->
  Inv ops l s->tZ cs al fd l s->i∈Region.ready .any ops l->(aY T S ops oi s).1->
  po T S ops .any Qf fuel (l.setIfInBounds i Z') (dw oi.dst (aY T S ops oi s).2 s)->po T S ops .any Qf (fuel+1) l s:=by
 intro fuel
 induction fuel with
 |zero=>
  intro l s _ _ _ hr hc H;refine⟨λh=>(by rw[h]at hr;cases hr),λj hj oj hoj=>?_⟩
  by_cases hji:j=i
  .subst hji
   rw[hi]at hoj;simp only[aC]at hoj;subst hoj;exact⟨hc,H⟩
  .have:=ready_mono hj hji
   rw[H.1]at this;cases this
 |succ fuel ih=>
  intro l s pI hinv hlead hr hc H;refine⟨λh=>(by rw[h]at hr;cases hr),λj hj oj hoj=>?_⟩
  by_cases hji:j=i
  .subst hji
   rw[hi]at hoj;simp only[aC]at hoj;subst hoj;exact⟨hc,H⟩
  .obtain⟨h1c,h1⟩:=H.2 j (ready_mono hj hji) oj hoj
   obtain⟨hjun,oj',hoj',hall⟩:=mem_ready.1 hj;rw[hoj]at hoj';simp only[aC]at hoj';subst hoj';have hij:i<j:=pI j oj hoj hji hjun;have hap:Ad cs al fd ops oi oj=true:=by
    rcases(It hok hi hoj hij).1 with⟨e,he,hb,ho⟩|h
    .have h1:=hall e he hb
     have h0:=(mem_ready.1 hr).1;rw[ho]at h1;rcases dQ i l.size with h'|h'
     .simp[h']at h0 h1;rw[h0]at h1;cases h1
     .simp[qW h']at h1
    .exact h
   have hni:m7 oi s:=hinv i oi hi (mem_ready.1 hr).1;have hnj:m7 oj s:=hinv j oj hoj hjun;have hcm:Cm T S ops s oi oj:=Vt hap hlead hni hnj (by
    obtain⟨_,o1,ho1,ha1⟩:=mem_ready.1 hr;rw[hi]at ho1;cases ho1;exact ha1) hall
   have ej:=hcm.yx;have ei:=hcm.xy;rw[ej]at h1c h1;refine⟨h1c,ih (l.setIfInBounds j Z') _ (λk ok hk hki hun=>?_) (nS.step hok hinv hoj h1c) (hlead.step hok hoj hall h1c) (ready_mono hr (mZ hji)) (by rw[ei];exact hc) ?_⟩
   .refine pI k ok hk hki ?_
    by_cases hjk:j=k
    .subst hjk;exact hjun
    .rw[getD_set_ne Z' hjk]at hun;exact hun
   .rw[ei,Array.setIfInBounds_comm _ _ hji,hcm.cm]
    exact h1
theorem xP(hok:okF cs al fd ops=Z'):∀(l:List Oper)(k:Nat)(li:Array Bool)(σ:St),(∀j,l[j]?=ops[k+j]?)->li.size=ops.size->
 (∀j,j<k->li.getD j a0a=Z')->(∀j,k<=j->j<ops.size->li.getD j Z'=a0a)->Inv ops li (σ.get,σ.ae)->tZ cs al fd li (σ.get,σ.ae)->
 cY T S ops l K σ->po T S ops .any (λs=>∃σ',K σ'/\s=(σ'.get,σ'.ae)) l.length li (σ.get,σ.ae)
 |[],k,li,σ,hl,hsz,h1,h2,_,_,h=>by
  refine⟨?_,σ,h,rfl⟩;refine vC.2 (λj hj=>?_);obtain⟨hun,o,ho,_⟩:=mem_ready.1 hj;have hlt:j<ops.size:=(ir.1 ho).1;have hk:ops.size<=k:=by
   have:=hl 0;simp at this;exact this
  have:=h1 j (by omega);rw[Array.getD,dif_pos (by omega)]at this hun;rw[this]at hun;cases hun
 |o::l,k,li,σ,hl,hsz,h1,h2,hinv,hlead,h=>by
  have h0:ops[k]?=T' o:=by simpa using(hl 0).symm
  have hlt:k<ops.size:=(ir.1 h0).1;have hkun:li.getD k Z'=false:=h2 k (aM _) hlt;have hready:k∈Region.ready .any ops li:=mem_ready.2 ⟨hkun,o,h0,λe he hb=>h1 _ (yS hok h0 e he hb)⟩;simp only[cY]at h;have pI:∀j oj,ops[j]?=T' oj->j≠k->li.getD j Z'=a0a->k<j:=by
   intro j oj hoj hne hun;rcases dQ j k with h'|h'
   .have hlt':j<ops.size:=(ir.1 hoj).1
    have:=h1 j h';rw[Array.getD,dif_pos (by omega)]at this hun;rw[this]at hun;cases hun
   .omega
  have hl':∀j,l[j]?=ops[k+1+j]?:=λj=>by have:=hl (j+1);simpa[ie,q8 1 j]using this
  have hs1:∀j,j<k+1->(li.setIfInBounds k Z').getD j a0a=true:=by
   intro j hj
   by_cases e:k=j
   .subst e;simp[Array.getD,hsz,hlt]
   .rw[getD_set_ne a0a e];exact h1 j (by omega)
  have hs2:∀j,k+1<=j->j<ops.size->(li.setIfInBounds k Z').getD j Z'=false:=by
   intro j hj hj2;rw[getD_set_ne Z' (by omega)];exact h2 j (by omega) hj2
  rcases YE h with⟨hw,σ',e1,e2,h3,h4⟩|⟨hw,σ',e1,e2,h4⟩
  .have hw':gw ops σ'.get o=T' true:=by rw[e1];exact hw
   obtain⟨c1,c2⟩:=afm hw' h3;rw[e1,e2]at c1 c2;refine K6 hok h0 l.length li _ pI hinv hlead hready c1 ?_;rw[<-c2];refine xP hok l (k+1) _ _ hl' (by simpa using hsz) hs1 hs2 ?_ ?_ h4
   .rw[c2]
    exact nS.step hok hinv h0 c1
   .rw[c2]
    exact hlead.step hok h0 (λe he hb=>h1 _ (yS hok h0 e he hb)) c1
  .have c1:(aY T S ops o (σ.get,σ.ae)).1/\(aY T S ops o (σ.get,σ.ae)).2=.put (.r undef):=by
    unfold aY;simp only[hw];exact⟨a0b,a0b⟩
   refine K6 hok h0 l.length li _ pI hinv hlead hready c1.1 ?_;have c2:dw o.dst (aY T S ops o (σ.get,σ.ae)).2 (σ.get,σ.ae)=((σ'.put o.dst (.r undef)).get,(σ'.put o.dst (.r undef)).ae):=by
    rw[c1.2];simp only[dw,St.fh,St.eQ,e1,e2]
   rw[c2];refine xP hok l (k+1) _ _ hl' (by simpa using hsz) hs1 hs2 ?_ ?_ h4
   .rw[<-c2]
    exact nS.step hok hinv h0 c1.1
   .rw[<-c2]
    exact hlead.step hok h0 (λe he hb=>h1 _ (yS hok h0 e he hb)) c1.1
theorem Sf(hT:cU P T)(hS:bh P S)(hok:okF cs al fd ops=Z')(hd:∀(i:Nat)(o:Oper),ops[i]?=T' o->∀t,o.dst=T' t->t<κ.nt)(hQ:∀s β' a' w',Qf s->av κ β' s.1 s.2 a' w'->Q .normal a' w'):
 ∀(fuel:Nat)(l:Array Bool)(s:NS)(β:Nat->Option (Nat×Nat))(a:Act)(w:World),av κ β s.1 s.2 a w->Inv ops l s->po T S ops .any Qf fuel l s->wpAny P .any ops Q fuel l a w
 |0,l,s,β,a,w,hC,_,h=>⟨h.1,hQ s β a w h.2 hC⟩
 |fuel+1,l,s,β,a,w,hC,hinv,h=>by
  refine⟨λh0=>hQ s β a w (h.1 h0) hC,λi hi=>?_⟩;obtain⟨hun,o,ho,_⟩:=mem_ready.1 hi;obtain⟨h1,h2⟩:=h.2 i hi o ho;exact yp hT hS hC ho h1 (hinv i o ho hun) (hd i o ho) (λβ' a' w' hc=>Sf hT hS hok hd hQ fuel _ _ β' a' w' hc (nS.step hok hinv ho h1) h2)
end
theorem ai.regionF(cs al:List (Nat×Nat))(fd:List (Nat×Nat×Nat)){n:Nat}{Q:Exit->St->Prop}(hT:cU P T)(hS:bh P S)(hmix:P.follows .mixedOrders=Z'){l:List Oper}(hlead:∀p i,lk cs p=T' i->dL i ((a8 l σ).get p))(h:cY T S l.toArray l (Q .normal) (a8 l σ))(hd:iz l.toArray n=true:=by kernel_rfl)(hok:okF cs al fd (cT l).toArray=true:=by kernel_rfl):ai P T n (.region id l.toArray Z') Q σ:=by
 intro κ β a w hn hm hC;refine wp_region_any hmix (EX _ _ _ _ (Cl.start _ _) ?_);have hcl:a8 (cT l) σ=a8 l σ:=C8 (jo l.toArray) (λo=>⟨rfl,rfl⟩) l σ;have h':cY T S (cT l).toArray (cT l) (Q .normal) (a8 (cT l) σ):=by rw[hcl];exact uX l l _ h
 rw[<-hcl]at hlead;rw[<-Gl];have hdd:∀(i:Nat)(o:Oper),(cT l).toArray[i]?=T' o->∀t,o.dst=T' t->t<κ.nt:=by
  intro i o ho t ht;rw[uo]at ho;cases ho1:l.toArray[i]? with
  |none=>rw[ho1]at ho;cases ho
  |some o1=>
   rw[ho1]at ho;cases ho;have:=lS.1 hd o1 (nK ho1);have ht':o1.dst=T' t:=ht;rw[ht']at this;rw[hn];simpa using this
 generalize cT l=l at*;have hC':av κ β (a8 l σ).get (a8 l σ).ae a {w with drawn:=w.drawn+1}:=(rv l σ hC).below (sQ w);have hinv:Inv l.toArray (Array.replicate l.toArray.size a0a) ((a8 l σ).get,(a8 l σ).ae):=by
  intro i o ho _ hA d hd u;exact yX l σ o (by simpa using nK ho) hA d hd u
 have hlex:=xP (T:=T) (S:=S) (ops:=l.toArray) hok (K:=Q .normal) l 0 (Array.replicate l.toArray.size a0a) (a8 l σ) (by simp) (by simp) (by omega)
  (λj _ hj=>by
   have hj':j<l.length:=by simpa using hj
   simp[Array.getD,hj']) hinv ⟨hlead,λp i hp hl=>by
   rcases dQ i l.toArray.size with h'|h'
   .simp[Array.getD]at hl
   .simp[Array.getD]at hl,λp i b hp hl=>by
   rcases dQ i l.toArray.size with h'|h'
   .simp[Array.getD]at hl
   .simp[Array.getD]at hl⟩ h'
 have:=Sf (P:=P) (κ:=κ) hT hS hok hdd (Q:=λe a' w'=>∃σ' β',Q e σ'/\av κ β' σ'.get σ'.ae a' w') (λs β' a' w'⟨σ',h1,h2⟩h3=>⟨σ',β',h1,by rw[h2]at h3;exact h3⟩)
  l.length _ _ β a {w with drawn:=w.drawn+1} hC' hinv hlex
 simpa using this
theorem gy:∀p i,lk ([]:List (Nat×Nat)) p=T' i->dL i (σ.get p):=λ_ _ h=>by cases h
theorem ZC(h0:dL i0 (σ.get p0)):∀p i,lk [(p0,i0)] p=T' i->dL i (σ.get p):=by
 intro p i h;simp only[lk]at h
 repeat' split at h
 .rename_i e;cases h;rw[<-e];exact h0
 .cases h
theorem ki(h0:∃off,σ.get p0=.ptr i0 off):∀p i,lk [(p0,i0)] p=T' i->dL i (σ.get p):=ZC (.inl h0)
theorem Ot(h0:dL i0 (σ.get p0))(h1:dL i1 (σ.get p1)):∀p i,lk [(p0,i0),(p1,i1)] p=T' i->dL i (σ.get p):=by
 intro p i h;simp only[lk]at h
 repeat' split at h
 .rename_i e;cases h;rw[<-e];exact h0
 .rename_i e;cases h;rw[<-e];exact h1
 .cases h
theorem qF(h0:∃off,σ.get p0=.ptr i0 off)(h1:∃off,σ.get p1=.ptr i1 off):∀p i,lk [(p0,i0),(p1,i1)] p=T' i->dL i (σ.get p):=Ot (.inl h0) (.inl h1)
theorem Ou(h0:dL i0 (σ.get p0))(h1:dL i1 (σ.get p1))(h2:dL i2 (σ.get p2)):∀p i,lk [(p0,i0),(p1,i1),(p2,i2)] p=T' i->dL i (σ.get p):=by
 intro p i h;simp only[lk]at h
 repeat' split at h
 .rename_i e;cases h;rw[<-e];exact h0
 .rename_i e;cases h;rw[<-e];exact h1
 .rename_i e;cases h;rw[<-e];exact h2
 .cases h
theorem HV(h0:∃off,σ.get p0=.ptr i0 off)(h1:∃off,σ.get p1=.ptr i1 off)(h2:∃off,σ.get p2=.ptr i2 off):∀p i,lk [(p0,i0),(p1,i1),(p2,i2)] p=T' i->dL i (σ.get p):=Ou (.inl h0) (.inl h1) (.inl h2)
theorem ZD(h0:dL i0 (σ.get p0))(h1:dL i1 (σ.get p1))(h2:dL i2 (σ.get p2))(h3:dL i3 (σ.get p3)):∀p i,lk [(p0,i0),(p1,i1),(p2,i2),(p3,i3)] p=T' i->dL i (σ.get p):=by
 intro p i h;simp only[lk]at h
 repeat' split at h
 .rename_i e;cases h;rw[<-e];exact h0
 .rename_i e;cases h;rw[<-e];exact h1
 .rename_i e;cases h;rw[<-e];exact h2
 .rename_i e;cases h;rw[<-e];exact h3
 .cases h
theorem yH(h0:∃off,σ.get p0=.ptr i0 off)(h1:∃off,σ.get p1=.ptr i1 off)(h2:∃off,σ.get p2=.ptr i2 off)(h3:∃off,σ.get p3=.ptr i3 off):∀p i,lk [(p0,i0),(p1,i1),(p2,i2),(p3,i3)] p=T' i->dL i (σ.get p):=ZD (.inl h0) (.inl h1) (.inl h2) (.inl h3)
theorem ZE(h0:dL i0 (σ.get p0))(h1:dL i1 (σ.get p1))(h2:dL i2 (σ.get p2))(h3:dL i3 (σ.get p3))(h4:dL i4 (σ.get p4)):∀p i,lk [(p0,i0),(p1,i1),(p2,i2),(p3,i3),(p4,i4)] p=T' i->dL i (σ.get p):=by
 intro p i h;simp only[lk]at h
 repeat' split at h
 .rename_i e;cases h;rw[<-e];exact h0
 .rename_i e;cases h;rw[<-e];exact h1
 .rename_i e;cases h;rw[<-e];exact h2
 .rename_i e;cases h;rw[<-e];exact h3
 .rename_i e;cases h;rw[<-e];exact h4
 .cases h
theorem HX(h0:∃off,σ.get p0=.ptr i0 off)(h1:∃off,σ.get p1=.ptr i1 off)(h2:∃off,σ.get p2=.ptr i2 off)(h3:∃off,σ.get p3=.ptr i3 off)(h4:∃off,σ.get p4=.ptr i4 off):∀p i,lk [(p0,i0),(p1,i1),(p2,i2),(p3,i3),(p4,i4)] p=T' i->dL i (σ.get p):=ZE (.inl h0) (.inl h1) (.inl h2) (.inl h3) (.inl h4)
end
end Go.Hl
