/- Lemmas for TopSound and TopBracket. -/
import Derived.Laws.Bits64b
import Derived.Test.YtpgglolpkbepjaaGreatProg
import Derived.Laws.BitsLemmas
import Derived.Laws.Externs
import Derived.Test.YtpgglolpkbepjaaGreatTAJ
set_option linter.unusedVariables false
set_option linter.unusedSimpArgs false
namespace Go.Hl
open Go.Proofs.Tryz
open Go.Proofs.Tryz renaming prog→a0c
open Option renaming some→T',none→Y'
open Bool renaming true→Z',false→a0a
set_option maxHeartbeats 2000000
section
open Go Go.RowKit
section
variable {f:FuncId}{res:List Int->List Int->AV}{pre:List Int->List Int->Prop}{P:Program}
@[push_cast] def vb(k:Nat)(pre:List Int->Prop)(res:List Int->AV):Sp where
 kind:=k
 pre
  |[.ns .u64 x0]=>pre x0
  |_=>False
 res
  |[.ns .u64 x0]=>res x0
  |_=>.any
theorem aj.N{pre:List Int->Prop}{res:List Int->AV}(h:∀x0,pre x0->dh P f [x0] (res x0)):aj P f (vb 0 pre res):=by
 refine sz λargs hp=>?_
 split at hp
 .exact h _ hp
 .exact hp.elim
theorem aj.Nf{pre:List Int->Prop}{res:List Int->AV}(h:∀x0,pre x0->nM P f [x0] (res x0)):aj P f (vb 1 pre res):=by
 refine aj.one rfl λargs hp=>?_
 simp only[vb]at hp|-;split at hp
 .exact h _ hp
 .exact hp.elim
@[push_cast] def pT(k:Nat)(pre:List Int->List Int->Prop)(res:List Int->List Int->AV):Sp where
 kind:=k
 pre
  |[.ns .u64 x0,.ns .u64 x1]=>pre x0 x1
  |_=>False
 res
  |[.ns .u64 x0,.ns .u64 x1]=>res x0 x1
  |_=>.any
theorem aj.NN(h:∀x0 x1,pre x0 x1->dh P f [x0,x1] (res x0 x1)):aj P f (pT 0 pre res):=by
 refine sz λargs hp=>?_
 split at hp
 .exact h _ _ hp
 .exact hp.elim
theorem aj.Ks(h:∀x0 x1,pre x0 x1->nU P f [x0,x1] (res x0 x1)):aj P f (pT 2 pre res):=by
 refine aj.two rfl λargs hp=>?_
 simp only[pT]at hp|-;split at hp
 .exact h _ _ hp
 .exact hp.elim
@[push_cast] def I6(k:Nat)(pre:List Int->Int->Prop)(res:List Int->Int->AV):Sp where
 kind:=k
 pre
  |[.ns .u64 x0,.r (.int .i64 n1)]=>pre x0 n1
  |_=>False
 res
  |[.ns .u64 x0,.r (.int .i64 n1)]=>res x0 n1
  |_=>.any
theorem aj.NI{pre:List Int->Int->Prop}{res:List Int->Int->AV}(h:∀x0 n1,pre x0 n1->dh P f [x0,n1] (res x0 n1)):aj P f (I6 0 pre res):=by
 refine sz λargs hp=>?_
 split at hp
 .exact h _ _ hp
 .exact hp.elim
@[push_cast] def rS(k:Nat)(pre:Int->Prop)(res:Int->AV):Sp where
 kind:=k
 pre
  |[.r (.int .i64 n0)]=>pre n0
  |_=>False
 res
  |[.r (.int .i64 n0)]=>res n0
  |_=>.any
theorem aj.I{pre:Int->Prop}{res:Int->AV}(h:∀n0,pre n0->dh P f [n0] (res n0)):aj P f (rS 0 pre res):=by
 refine sz λargs hp=>?_
 split at hp
 .exact h _ hp
 .exact hp.elim
@[push_cast] def zj(k:Nat)(pre:Int->Prop)(res:Int->AV):Sp where
 kind:=k
 pre
  |[.r (.int .u64 u0)]=>pre u0
  |_=>False
 res
  |[.r (.int .u64 u0)]=>res u0
  |_=>.any
theorem aj.U{pre:Int->Prop}{res:Int->AV}(h:∀u0,pre u0->dh P f [.r (.int .u64 u0)] (res u0)):aj P f (zj 0 pre res):=by
 refine sz λargs hp=>?_
 split at hp
 .exact h _ hp
 .exact hp.elim
@[push_cast] def Ru(k:Nat)(pre:Int->Int->Prop)(res:Int->Int->AV):Sp where
 kind:=k
 pre
  |[.r (.int .u64 u0),.r (.int .u64 u1)]=>pre u0 u1
  |_=>False
 res
  |[.r (.int .u64 u0),.r (.int .u64 u1)]=>res u0 u1
  |_=>.any
theorem aj.UU{pre:Int->Int->Prop}{res:Int->Int->AV}(h:∀u0 u1,pre u0 u1->dh P f [.r (.int .u64 u0),.r (.int .u64 u1)] (res u0 u1)):aj P f (Ru 0 pre res):=by
 refine sz λargs hp=>?_
 split at hp
 .exact h _ _ hp
 .exact hp.elim
@[push_cast] def EM(k:Nat)(pre:Int->Int->Int->Prop)(res:Int->Int->Int->AV):Sp where
 kind:=k
 pre
  |[.r (.int .u64 u0),.r (.int .u64 u1),.r (.int .u64 u2)]=>pre u0 u1 u2
  |_=>False
 res
  |[.r (.int .u64 u0),.r (.int .u64 u1),.r (.int .u64 u2)]=>res u0 u1 u2
  |_=>.any
theorem aj.FZ{pre:Int->Int->Int->Prop}{res:Int->Int->Int->AV}(h:∀u0 u1 u2,pre u0 u1 u2->dh P f [.r (.int .u64 u0),.r (.int .u64 u1),.r (.int .u64 u2)] (res u0 u1 u2)):aj P f (EM 0 pre res):=by
 refine sz λargs hp=>?_
 split at hp
 .exact h _ _ _ hp
 .exact hp.elim
@[push_cast] def zk(k:Nat)(pre:Bool->List Int->Prop)(res:Bool->List Int->AV):Sp where
 kind:=k
 pre
  |[.agg [.r (.bool b0),.ns .u64 x0]]=>pre b0 x0
  |_=>False
 res
  |[.agg [.r (.bool b0),.ns .u64 x0]]=>res b0 x0
  |_=>.any
theorem aj.Z{pre:Bool->List Int->Prop}{res:Bool->List Int->AV}(h:∀b0 x0,pre b0 x0->dh P f [.agg [b0,x0]] (res b0 x0)):aj P f (zk 0 pre res):=by
 refine sz λargs hp=>?_
 split at hp
 .exact h _ _ hp
 .exact hp.elim
@[push_cast] def rT(k:Nat)(pre:Bool->List Int->Bool->List Int->Prop)(res:Bool->List Int->Bool->List Int->AV):Sp where
 kind:=k
 pre
  |[.agg [.r (.bool b0),.ns .u64 x0],.agg [.r (.bool b1),.ns .u64 x1]]=>pre b0 x0 b1 x1
  |_=>False
 res
  |[.agg [.r (.bool b0),.ns .u64 x0],.agg [.r (.bool b1),.ns .u64 x1]]=>res b0 x0 b1 x1
  |_=>.any
theorem aj.ZZ{pre:Bool->List Int->Bool->List Int->Prop}{res:Bool->List Int->Bool->List Int->AV}(h:∀b0 x0 b1 x1,pre b0 x0 b1 x1->dh P f [.agg [b0,x0],.agg [b1,x1]] (res b0 x0 b1 x1)):aj P f (rT 0 pre res):=by
 refine sz λargs hp=>?_
 split at hp
 .exact h _ _ _ _ hp
 .exact hp.elim
@[push_cast] def qS(k:Nat)(pre:Bool->List Int->Int->Prop)(res:Bool->List Int->Int->AV):Sp where
 kind:=k
 pre
  |[.agg [.r (.bool b0),.ns .u64 x0],.r (.int .i64 n1)]=>pre b0 x0 n1
  |_=>False
 res
  |[.agg [.r (.bool b0),.ns .u64 x0],.r (.int .i64 n1)]=>res b0 x0 n1
  |_=>.any
theorem aj.ZI{pre:Bool->List Int->Int->Prop}{res:Bool->List Int->Int->AV}(h:∀b0 x0 n1,pre b0 x0 n1->dh P f [.agg [b0,x0],n1] (res b0 x0 n1)):aj P f (qS 0 pre res):=by
 refine sz λargs hp=>?_
 split at hp
 .exact h _ _ _ hp
 .exact hp.elim
@[push_cast] def Rp(k:Nat)(pre:List Int->Int->Prop)(res:List Int->Int->AV):Sp where
 kind:=k
 pre
  |[.ns .u64 x0,.r (.int .u64 u1)]=>pre x0 u1
  |_=>False
 res
  |[.ns .u64 x0,.r (.int .u64 u1)]=>res x0 u1
  |_=>.any
theorem aj.NU{pre:List Int->Int->Prop}{res:List Int->Int->AV}(h:∀x0 u1,pre x0 u1->dh P f [x0,.r (.int .u64 u1)] (res x0 u1)):aj P f (Rp 0 pre res):=by
 refine sz λargs hp=>?_
 split at hp
 .exact h _ _ hp
 .exact hp.elim
@[push_cast] def I7(k:Nat)(pre:List Int->List Int->Int->Prop)(res:List Int->List Int->Int->AV):Sp where
 kind:=k
 pre
  |[.ns .u64 x0,.ns .u64 x1,.r (.int .u64 u2)]=>pre x0 x1 u2
  |_=>False
 res
  |[.ns .u64 x0,.ns .u64 x1,.r (.int .u64 u2)]=>res x0 x1 u2
  |_=>.any
theorem aj.Tk{pre:List Int->List Int->Int->Prop}{res:List Int->List Int->Int->AV}(h:∀x0 x1 u2,pre x0 x1 u2->nU P f [x0,x1,.r (.int .u64 u2)] (res x0 x1 u2)):aj P f (I7 2 pre res):=by
 refine aj.two rfl λargs hp=>?_
 simp only[I7]at hp|-;split at hp
 .exact h _ _ _ hp
 .exact hp.elim
@[push_cast] def Rk(k:Nat)(pre:Bool->List Int->Prop)(res:Bool->List Int->AV):Sp where
 kind:=k
 pre
  |[.r (.bool b0),.ns .u64 x1]=>pre b0 x1
  |_=>False
 res
  |[.r (.bool b0),.ns .u64 x1]=>res b0 x1
  |_=>.any
theorem aj.BN{pre:Bool->List Int->Prop}{res:Bool->List Int->AV}(h:∀b0 x1,pre b0 x1->dh P f [b0,x1] (res b0 x1)):aj P f (Rk 0 pre res):=by
 refine sz λargs hp=>?_
 split at hp
 .exact h _ _ hp
 .exact hp.elim
end
end
section
open Go Go.RowKit
section
variable {A F R:Prop}
section
variable {P:Program}{T:aL}{S:FuncId->Option Sp}
theorem Im.wD(E:F)(h:F->Im P T S R A:=by
 (intro E;(repeat(first|((with_reducible apply Im.Ei);rfl;exact Im.sR E;exact Im.pF E)|((with_reducible apply Im.En);rfl;rfl;exact Im.sR E;exact Im.sR E;exact Im.pF E)|((with_reducible apply Im.Ek);rfl;rfl;exact Im.sR E;rfl;exact Im.sR E)|((with_reducible apply Im.El);rfl;rfl;exact Im.sR E;rfl;exact Im.sR E)|((with_reducible apply Im.Em);rfl;rfl)|with_reducible apply Im.Ej));exact Im.refl)):Im P T S R A:=h E
theorem mw(hE:Env P T S)(E:F)(k:R)(hE:Env P T S:=by assumption)(h:F->Im P T S R A:=by(intro E;exact Im.wD E)):A:=h E hE k
theorem aH{n id:Nat}{Q:Exit->St->Prop}{σ ab:St}{y:Code}{l:List Oper}(cs al:List (Nat×Nat))(fd:List (Nat×Nat×Nat))(E:F)(k:ai P T n y Q ab)(hE:Env P T S:=by assumption)(h:F->Im P T S (ls (ai P T n y Q) Q .normal ab) (cY T S l.toArray l (ls (ai P T n y Q) Q .normal) (a8 l σ)):=by(intro E;exact Im.wD E))(af:okF cs al fd (cT l).toArray=true:=by kernel_rfl)(hd:iz l.toArray n=true:=by kernel_rfl)(hl:∀p i,lk cs p=T' i->dL i ((a8 l σ).get p):=by(first|exact gy|exact ki ⟨_,rfl⟩|exact qF ⟨_,rfl⟩ ⟨_,rfl⟩|exact HV ⟨_,rfl⟩ ⟨_,rfl⟩ ⟨_,rfl⟩|exact yH ⟨_,rfl⟩ ⟨_,rfl⟩ ⟨_,rfl⟩ ⟨_,rfl⟩|exact HX ⟨_,rfl⟩ ⟨_,rfl⟩ ⟨_,rfl⟩ ⟨_,rfl⟩ ⟨_,rfl⟩)):ai P T n (.seq (.region id l.toArray Z') y) Q σ:=aG cs al fd E k hE (λE=>h E) af hd hl
end
end
end
section
variable {x:Int}{xs:List Int}{B n:Nat}
def nv(B:Nat):List Int->Nat
 |[]=>0
 |x::xs=>x.toNat+B*nv B xs
def aR(B:Nat)(xs:List Int):Prop:=∀x∈xs,0<=x/\x<B
def iN(B n:Nat):List Int:=if n=0\/B<2 then[]else((n%B:Nat):Int)::iN B (n/B)
 termination_by n
 decreasing_by exact Nat.div_lt_self f' f'
theorem aR.nil:aR B []:=λ_ h=>by cases h
theorem aR.cons(h:0<=x/\x<B)(k:aR B xs):aR B (x::xs):=λy hy=>by
 cases hy with
 |head=>exact h
 |tail _ hy=>exact k y hy
theorem aR.head(h:aR B (x::xs)):0<=x/\x<B:=h x (.head _)
theorem aR.tail(h:aR B (x::xs)):aR B xs:=λy hy=>h y (.tail _ hy)
theorem aR.append{ys:List Int}(h:aR B xs)(k:aR B ys):aR B (xs++ys):=λy hy=>by
 rcases jm.1 hy with hy|hy
 .exact h y hy
 .exact k y hy
theorem aR.take(h:aR B xs)(n:Nat):aR B (xs.take n):=λy hy=>h y (zS hy)
theorem aR.drop(h:aR B xs)(n:Nat):aR B (xs.drop n):=λy hy=>h y (Ct hy)
theorem aR.get(h:aR B xs)(hB:0<B)(i:Nat):0<=xs.getD i 0/\xs.getD i 0<B:=by
 by_cases hi:i<xs.length
 .rw[cF,ed hi];exact h _ (qg hi)
 .rw[cF,iT f'];simp;omega
theorem aR.set(h:aR B xs)(i:Nat)(hx:0<=x/\x<B):aR B (xs.set i x):=λy hy=>by
 rcases List.mem_or_eq_of_mem_set hy with hy|rfl
 .exact h y hy
 .exact hx
theorem aR.xj(hB:0<B)(n:Nat):aR B (List.replicate n 0):=λy hy=>by
 have:=(List.mem_replicate.1 hy).2;subst this;omega
theorem Ir:nv B []=0:=rfl
theorem aaK(x:Int)(xs:List Int):nv B (x::xs)=x.toNat+B*nv B xs:=rfl
theorem Iq(xs ys:List Int):nv B (xs++ys)=nv B xs+B^xs.length*nv B ys:=by
 induction xs with
 |nil=>simp[nv]
 |cons x xs ih=>simp only[pc,nv,ih,gM,gH,mC,ie];congr 2;rw[<-pj,iw (B^xs.length) B]
theorem Is(n:Nat):nv B (List.replicate n 0)=0:=by
 induction n with
 |zero=>rfl
 |succ n ih=>simp[xB,nv,ih]
theorem wT(h:aR B xs):nv B xs<B^xs.length:=by
 induction xs with
 |nil=>simp[nv]
 |cons x xs ih=>
  have h1:=h.head;have h2:=ih h.tail;simp only[nv,gM,gH];have:B*nv B xs+B<=B*B^xs.length:=by
   have:=kQ B (Nat.succ_le_of_lt h2);rwa[Nat.mul_succ]at this
  rw[iw (B^xs.length) B];omega
theorem nY:iN B 0=[]:=by rw[iN];simp
theorem vS(hB:2<=B)(hn:n≠0):iN B n=((n%B:Nat):Int)::iN B (n/B):=by
 rw[iN,aq f']
theorem Df(hB:2<=B){C:Nat->Prop}(h0:C 0)(hs:∀n,n≠0->C (n/B)->C n)(n:Nat):C n:=by
 induction n using Nat.strongRecOn with
 |_ n ih=>
  by_cases hn:n=0
  .subst hn;exact h0
  .exact hs n hn (ih _ (Nat.div_lt_self f' f'))
theorem Ee(hB:2<=B)(n:Nat):nv B (iN B n)=n:=by
 refine Df hB (C:=λn=>nv B (iN B n)=n) ?_ (λn hn ih=>?_) n
 .rw[nY];rfl
 .rw[vS hB hn,nv,ih,dD]
  exact Kz n B
theorem wA(hB:2<=B)(n:Nat):aR B (iN B n):=by
 refine Df hB (C:=λn=>aR B (iN B n)) ?_ (λn hn ih=>?_) n
 .rw[nY];exact aR.nil
 .rw[vS hB hn]
  refine aR.cons ⟨f',?_⟩ ih;have:=ph n (show 0<B from f');omega
def qk(xs:List Int):Prop:=xs=[]\/xs.getD (xs.length-1) 0≠0
theorem qk.tail(h:qk (x::xs)):qk xs:=by
 rcases h with h|h
 .cases h
 .cases xs with
  |nil=>exact .inl rfl
  |cons y ys=>exact .inr (by simpa using h)
theorem Jk(hB:2<=B)(n:Nat):qk (iN B n):=by
 refine Df hB (C:=λn=>qk (iN B n)) ?_ (λn hn ih=>?_) n
 .rw[nY];exact .inl rfl
 .rw[vS hB hn]
  right
  rcases ih with ih|ih
  .rw[ih]
   have h0:n/B=0:=by
    have:=Ee hB (n/B);rw[ih]at this;exact this.symm
   have:n%B=n:=sD ((Nat.div_eq_zero_iff_lt f').1 h0);simp[this];exact hn
  .cases hd:iN B (n/B)with
   |nil=>rw[hd]at ih;simp at ih
   |cons y ys=>rw[hd]at ih;simpa using ih
theorem Xe(hB:2<=B)(h:aR B xs)(ht:qk xs):xs=iN B (nv B xs):=by
 induction xs with
 |nil=>rw[Ir,nY]
 |cons x xs ih=>
  have h1:=h.head;have ih:=ih h.tail ht.tail;have ab:nv B (x::xs)≠0:=by
   intro e;rw[nv]at e;have e1:nv B xs=0:=by
    have:B*nv B xs=0:=f';rcases Nat.mul_eq_zero.1 this with h|h
    .omega
    .exact h
   rw[e1,nY]at ih;subst ih;rcases ht with ht|ht
   .cases ht
   .apply ht
    simp only[gM,kK,du,sE,Kh];omega
  rw[vS hB ab,nv];have hx:x.toNat<B:=f';have e1:(x.toNat+B*nv B xs)%B=x.toNat:=by rw[Kt,sD hx]
  have e2:(x.toNat+B*nv B xs)/B=nv B xs:=by rw[Cx _ _ f',ug hx,du]
  rw[e1,e2,<-ih]
  congr 1
  omega
theorem Bn(xs:List Int)(n:Nat)(hn:n<=xs.length):nv B xs=nv B (xs.take n)+B^n*nv B (xs.drop n):=by
 have:=Iq (B:=B) (xs.take n) (xs.drop n);rw[xD,fT,sC hn]at this;exact this
theorem rA(hB:2<=B)(n k:Nat):(iN B n).length<=k↔n<B^k:=by
 constructor
 .intro h
  have:=wT (wA hB n);rw[Ee hB]at this;exact da this (lC f' h)
 .revert n
  induction k with
  |zero=>
   intro n h;have:n=0:=by simpa using h
   subst this;rw[nY];exact aM _
  |succ k ih=>
   intro n h
   by_cases hn:n=0
   .subst hn;rw[nY];simp
   .rw[vS hB hn,gM]
    have:=ih (n/B) (Cy (by rw[iw,<-gH];exact h));omega
theorem MH(hB:2<=B):iN B n=[]↔n=0:=by
 constructor
 .intro h
  have:=Ee hB n;rw[h]at this;exact this.symm
 .rintro rfl;exact nY
theorem nE(xs:List Int)(i:Nat):nv B (xs.take (i+1))=nv B (xs.take i)+B^i*(xs.getD i 0).toNat:=by
 by_cases h:i<xs.length
 .rw[List.take_succ_eq_append_getElem h,Iq,fT,sC f',cF,ed h]
  simp[nv]
 .rw[gG f',gG f',cF,iT f']
  simp
theorem yR(xs:List Int)(i:Nat)(x:Int)(h:i<xs.length):nv B ((xs.set i x).take (i+1))=nv B (xs.take i)+B^i*x.toNat:=by
 rw[nE,List.take_set_of_le (aM i),cF,List.getElem?_set_self h]
 rfl
def gq(B:Nat):Nat->Nat->List Int
 |0,_=>[]
 |n+1,v=>((v%B:Nat):Int)::gq B n (v/B)
theorem MZ(h:aR B xs):xs=gq B xs.length (nv B xs):=by
 induction xs with
 |nil=>rfl
 |cons x xs ih=>
  have h1:=h.head;simp only[gM,gq,nv];have hx:x.toNat<B:=f';have hB:0<B:=f';have e1:(x.toNat+B*nv B xs)%B=x.toNat:=by rw[Kt,sD hx]
  have e2:(x.toNat+B*nv B xs)/B=nv B xs:=by rw[Cx _ _ hB,ug hx,du]
  rw[e1,e2,<-ih h.tail]
  congr 1
  omega
theorem sW(B n v:Nat):(gq B n v).length=n:=by
 induction n generalizing v with
 |zero=>rfl
 |succ n ih=>simp[gq,ih]
theorem Bf(hB:0<B)(n v:Nat):aR B (gq B n v):=by
 induction n generalizing v with
 |zero=>exact aR.nil
 |succ n ih=>exact aR.cons ⟨f',by have:=ph v hB;omega⟩ (ih _)
theorem Eg(hB:0<B)(n v:Nat)(h:v<B^n):nv B (gq B n v)=v:=by
 induction n generalizing v with
 |zero=>simp at h;subst h;rfl
 |succ n ih=>
  rw[gq,nv,ih _ (Cy (by rw[iw,<-gH];exact h)),dD];exact Kz v B
theorem aga(xs:List Int)(h:0<xs.length)(h0:xs.getD (xs.length-1) 0=0):nv B (xs.take (xs.length-1))=nv B xs:=by
 rw[Bn xs (xs.length-1) f'];have:xs.drop (xs.length-1)=[0]:=by
  rw[sj f'];rw[cF,ed f']at h0;simp only[rf]at h0;rw[h0,List.drop_eq_nil_of_le f']
 rw[this];simp[nv]
end
theorem Ph{B:Nat}:∀(xs:List Int)(i:Nat)(v:Int),i<xs.length->nv B (xs.set i v)+B^i*(xs.getD i 0).toNat=nv B xs+B^i*v.toNat
 |[],_,_,h=>by simp at h
 |x::xs,0,v,_=>by simp[nv];omega
 |x::xs,i+1,v,h=>by
  have ih:=Ph (B:=B) xs i v (by simpa using h);simp only[gO,aaK,Cq,gH]
  grind
section
variable {B U V V' W g q t v:Nat}
theorem OL{a b w:Nat}(h:a*w<b*w):a<b:=To h
theorem Zo(hV:V=v*W+V')(hv:0<v)(hU:U<(t+1)*W)(hq:q*V<=U):q<=t/v:=by
 have h1:q*v*W<=q*V:=by rw[hV];grind
 have h2:q*v<t+1:=OL (w:=W) f';exact(Kx hv).2 f'
theorem Zp(hV:V=v*W+V')(af:V'<W)(hg:g*v<=t)(ht:t*W<=U)(ab:g<=B)(hB:B*W<=2*V)(hq:U<(q+1)*V):g<=q+2:=by
 refine nV λh=>?_
 have h1:g*V=g*v*W+g*V':=by rw[hV];grind
 have h2:g*v*W<=t*W:=jD _ hg;have h3:g*V'<=B*W:=Nat.mul_le_mul ab f';have h4:(q+3)*V<=g*V:=jD _ h
 grind
theorem Zq{v2 u2 r W':Nat}(hV:(v*B+v2)*W'<=V)(ht:t=g*v+r)(hU:U<(t*B+u2+1)*W')(hq:q*V<=U)(ab:g<=q):g*v2<=r*B+u2:=by
 have h1:g*V<=q*V:=jD _ ab;have h2:g*((v*B+v2)*W')<=g*V:=kQ _ hV;have h3:g*(v*B+v2)*W'<(t*B+u2+1)*W':=by rw[pj];omega
 have h4:=OL h3;subst ht
 grind
end
section
variable {c o x y:Int}{A B out:List Int}{i:Nat}
abbrev ak:Nat:=18446744073709551616
def dg(n:Nat):List Int:=iN ak n
def nb(xs:List Int):Nat:=nv ak xs
theorem jR(n:Nat):nb (dg n)=n:=Ee p' n
theorem wQ{xs:List Int}{v:Int}(h:i<xs.length):nb (xs.set i v)+ak^i*(xs.getD i 0).toNat=nb xs+ak^i*v.toNat:=Ph xs i v h
theorem ta(xs:List Int)(i j:Nat)(v:Int):(xs.set i v).getD j 0=if i=j/\j<xs.length then v else xs.getD j 0:=by
 simp only[cF,qf];split
 .rename_i h;subst h
  split
  .rename_i h;rw[au ⟨rfl,h⟩];rfl
  .rename_i h;rw[aq f',iT f']
 .rename_i h;rw[aq f']
def uS(x y o c:Int):Int:=((x*y%18446744073709551616+o)%18446744073709551616+c)%18446744073709551616
def wG(x y o c:Int):Int:=x*y/18446744073709551616+(x*y%18446744073709551616+o)/18446744073709551616+((x*y%18446744073709551616+o)%18446744073709551616+c)/18446744073709551616
theorem mL{M N:Int}(hx:0<=x)(hy:0<=y)(ab:x<=M)(af:y<=N):0<=x*y/\x*y<=M*N:=
 ⟨dP hx hy,Cg ab af hy (nO hx ab)⟩
theorem OM(hx:0<=x/\x<18446744073709551616)(hy:0<=y/\y<18446744073709551616)(ho:0<=o/\o<18446744073709551616)(hc:0<=c/\c<18446744073709551616):
 uS x y o c+18446744073709551616*wG x y o c=x*y+o+c/\(0<=uS x y o c/\uS x y o c<18446744073709551616)/\(0<=wG x y o c/\wG x y o c<18446744073709551616)/\
  (0<=x*y/18446744073709551616/\x*y/18446744073709551616+(x*y%18446744073709551616+o)/18446744073709551616<18446744073709551616):=by
 have h:=mL (M:=18446744073709551615) (N:=18446744073709551615) hx.1 hy.1 f' f';unfold uS wG;generalize x*y=p at*;omega
structure sw(A B out:List Int)(x:Int)(i k:Nat)(c:Int):Prop where
 hk:k<=B.length
 hl:out.length=A.length+B.length
 hd:aR ak out
 hc:0<=c/\c<18446744073709551616
 hz:∀j,i+B.length<=j->out.getD j 0=0
 he:nb out+ak^(i+k)*c.toNat=nb (A.take i)*nb B+ak^i*(x.toNat*nb (B.take k))
theorem aao{n' N p q o lo W hi c X x T y:Nat}(e1:n'+p*q*o=N+p*q*lo)(e2:N+p*q*c=X+p*(x*T))(key:lo+W*hi=x*y+o+c):n'+p*q*W*hi=X+p*(x*(T+q*y)):=E'
theorem sw.step{k:Nat}(h:sw A B out x i k c)(hB:aR ak B)(hi:i<A.length)(hx:0<=x/\x<18446744073709551616)(hk:k<B.length)(hy:y=B.getD k 0)(ho:o=out.getD (i+k) 0):sw A B (out.set (i+k) (uS x y o c)) x i (k+1) (wG x y o c):=by
 have h1:=hB.get p' k;have h2:=h.hd.get p' (i+k);have mK:((ak:Nat):Int)=18446744073709551616:=rfl;rw[<-hy,mK]at h1;rw[<-ho,mK]at h2;have hl:=h.hl;obtain⟨m1,m2,m3,_⟩:=OM hx h1 h2 h.hc;refine⟨hk,by rw[jC];exact hl,h.hd.set _ (by rw[mK];exact m2),m3,λj hj=>?_,?_⟩
 .rw[ta,aq f'];exact h.hz j hj
 .have e1:=wQ (xs:=out) (i:=i+k) (v:=uS x y o c) f'
  have e2:=h.he;have e3:nb (B.take (k+1))=nb (B.take k)+ak^k*(B.getD k 0).toNat:=nE B k;rw[<-ho]at e1;rw[e3,<-hy,<-ie,gH];have hc:=h.hc;have key:(uS x y o c).toNat+18446744073709551616*(wG x y o c).toNat=x.toNat*y.toNat+o.toNat+c.toNat:=by
   have:(x*y).toNat=x.toNat*y.toNat:=J7 hx.1 h1.1;rw[<-this];have:=dP hx.1 h1.1;omega
  have hp:ak^(i+k)=ak^i*ak^k:=mD ..;rw[hp]at e1 e2|-;exact aao e1 e2 key
theorem sw.start(hl:out.length=A.length+B.length)(hd:aR ak out)(hz:∀j,i+B.length<=j->out.getD j 0=0)(he:nb out=nb (A.take i)*nb B):
 sw A B out x i 0 0:=
 ⟨f',hl,hd,f',hz,by rw[he];simp[nb,nv]⟩
theorem sw.done(h:sw A B out x i B.length c)(hi:i<A.length)(hx:x=A.getD i 0):
 (out.set (i+B.length) c).length=A.length+B.length/\aR ak (out.set (i+B.length) c)/\(∀j,i+1+B.length<=j->(out.set (i+B.length) c).getD j 0=0)/\nb (out.set (i+B.length) c)=nb (A.take (i+1))*nb B:=by
 have hl:=h.hl;refine⟨by rw[jC];exact hl,h.hd.set _ (by have:=h.hc;exact⟨this.1,this.2⟩),λj hj=>?_,?_⟩
 .rw[ta,aq f'];exact h.hz j f'
 .have e1:=wQ (xs:=out) (i:=i+B.length) (v:=c) f'
  have e2:=h.he;have e3:nb (A.take (i+1))=nb (A.take i)+ak^i*(A.getD i 0).toNat:=nE A i;rw[h.hz _ (aM _)]at e1;rw[pf]at e2;rw[e3,<-hx];simp only[J8,uh,kN]at e1
  grind
end
section
variable {b c g o x:Int}{u u0 v xs:List Int}{N N0 T W c' i n' o' p:Nat}
theorem mK:((ak:Nat):Int)=18446744073709551616:=rfl
theorem de(h:aR ak xs)(i:Nat):0<=xs.getD i 0/\xs.getD i 0<18446744073709551616:=h.get p' i
theorem wB(h:aR ak xs)(i:Nat){v:Int}(hv:0<=v/\v<18446744073709551616):aR ak (xs.set i v):=h.set i hv
structure xO(u0 v u:List Int)(g:Int)(i:Nat)(b c:Int):Prop where
 hi:i<=v.length
 hl:u.length=v.length+1
 hd:aR ak u
 hb:0<=b/\b<=1
 hc:0<=c/\c<18446744073709551616
 he:nb u+g.toNat*nb (v.take i)=nb u0+ak^i*(b.toNat+c.toNat)
theorem RG{g x o lo b c b':Nat}(e1:n'+p*o=N+p*o')(e2:N+g*T=N0+p*(b+c))(k1:lo+W*c'=x*g+c)(k2:o'+lo+b=o+W*b'):n'+g*(T+p*x)=N0+p*W*(b'+c'):=E'
def tE(x g c:Int):Int:=(x*g%18446744073709551616+c)%18446744073709551616
def yN(x g c:Int):Int:=x*g/18446744073709551616+(x*g%18446744073709551616+c)/18446744073709551616
theorem OP{y:Int}(hx:0<=x/\x<18446744073709551616)(hy:0<=y/\y<18446744073709551616)(hc:0<=c/\c<18446744073709551616):
 tE x y c+18446744073709551616*yN x y c=x*y+c/\(0<=tE x y c/\tE x y c<18446744073709551616)/\(0<=yN x y c/\yN x y c<18446744073709551616):=by
 have h:=mL (M:=18446744073709551615) (N:=18446744073709551615) hx.1 hy.1 f' f';unfold tE yN;generalize x*y=p at*;omega
theorem xO.step(h:xO u0 v u g i b c)(hv:aR ak v)(hg:0<=g/\g<18446744073709551616)(hi:i<v.length)(hx:x=v.getD i 0)(ho:o=u.getD i 0):
 xO u0 v (u.set i ((o-tE x g c-b)%18446744073709551616)) g (i+1) (if o<tE x g c+b then 1 else 0) (yN x g c):=by
 have h1:=de hv i;have h2:=de h.hd i;rw[<-hx]at h1;rw[<-ho]at h2;have hb:=h.hb;have hc:=h.hc;obtain⟨m1,m2,m3⟩:=OP h1 hg hc;refine⟨hi,by rw[jC];exact h.hl,wB h.hd _ f',by split<;>omega,m3,?_⟩;have e1:=wQ (xs:=u) (i:=i) (v:=(o-tE x g c-b)%18446744073709551616) (by rw[h.hl];omega);have e3:nb (v.take (i+1))=nb (v.take i)+ak^i*(v.getD i 0).toNat:=nE v i;rw[<-ho]at e1;rw[e3,<-hx,gH];refine RG (lo:=(tE x g c).toNat) (c:=c.toNat) (b:=b.toNat) e1 h.he ?_ ?_
 .have:(x*g).toNat=x.toNat*g.toNat:=J7 h1.1 hg.1
  have q:=dP h1.1 hg.1;show _+18446744073709551616*_=_;omega
 .show _=_+18446744073709551616*_
  split<;>omega
theorem xO.done(h:xO u0 v u g v.length b c)(ho:o=u.getD v.length 0):
 (u.set v.length ((o-c-b)%18446744073709551616)).length=v.length+1/\aR ak (u.set v.length ((o-c-b)%18446744073709551616))/\
  nb (u.set v.length ((o-c-b)%18446744073709551616))+g.toNat*nb v=nb u0+ak^(v.length+1)*(if o<c+b then 1 else 0):=by
 have h2:=de h.hd v.length;rw[<-ho]at h2;have hb:=h.hb;have hc:=h.hc;refine⟨by rw[jC];exact h.hl,wB h.hd _ f',?_⟩;have e1:=wQ (xs:=u) (i:=v.length) (v:=(o-c-b)%18446744073709551616) (by rw[h.hl];omega);have e2:=h.he;rw[pf]at e2;rw[<-ho]at e1;rw[gH];have k:((o-c-b)%18446744073709551616).toNat+c.toNat+b.toNat=o.toNat+18446744073709551616*(if o<c+b then 1 else 0):=by
  split<;>omega
 generalize((o-c-b)%18446744073709551616).toNat=o' at*;generalize(if o<c+b then 1 else 0)=b' at*;have:=RG (lo:=c.toNat) (c:=c.toNat) (b:=b.toNat) (c':=0) (x:=0) (W:=18446744073709551616) (b':=b') (T:=nb v) e1 e2 f' f';simpa using this
structure xv(u0 v u:List Int)(i:Nat)(c:Int):Prop where
 hi:i<=v.length
 hl:u.length=v.length+1
 hd:aR ak u
 hc:0<=c/\c<=1
 he:nb u+ak^i*c.toNat=nb u0+nb (v.take i)
theorem Nw{x o c:Nat}(e1:n'+p*o=N+p*o')(e2:N+p*c=N0+T)(k2:o'+W*c'=o+x+c):n'+p*W*c'=N0+(T+p*x):=E'
theorem xv.step(h:xv u0 v u i c)(hv:aR ak v)(hi:i<v.length)(hx:x=v.getD i 0)(ho:o=u.getD i 0):
 xv u0 v (u.set i ((o+x+c)%18446744073709551616)) (i+1) ((o+x+c)/18446744073709551616):=by
 have h1:=de hv i;have h2:=de h.hd i;rw[<-hx]at h1;rw[<-ho]at h2;have hc:=h.hc;refine⟨hi,by rw[jC];exact h.hl,wB h.hd _ f',f',?_⟩;have e1:=wQ (xs:=u) (i:=i) (v:=(o+x+c)%18446744073709551616) (by rw[h.hl];omega);have e3:nb (v.take (i+1))=nb (v.take i)+ak^i*(v.getD i 0).toNat:=nE v i;rw[<-ho]at e1;rw[e3,<-hx,gH];exact Nw (c:=c.toNat) e1 h.he (by show _+18446744073709551616*_=_;omega)
theorem xv.done(h:xv u0 v u v.length c)(ho:o=u.getD v.length 0):
 (u.set v.length ((o+c)%18446744073709551616)).length=v.length+1/\aR ak (u.set v.length ((o+c)%18446744073709551616))/\
  nb (u.set v.length ((o+c)%18446744073709551616))+ak^(v.length+1)*((o+c)/18446744073709551616).toNat=nb u0+nb v:=by
 have h2:=de h.hd v.length;rw[<-ho]at h2;have hc:=h.hc;refine⟨by rw[jC];exact h.hl,wB h.hd _ f',?_⟩;have e1:=wQ (xs:=u) (i:=v.length) (v:=(o+c)%18446744073709551616) (by rw[h.hl];omega);have e2:=h.he;rw[pf]at e2;rw[<-ho]at e1;rw[gH];have:=Nw (c:=c.toNat) (x:=0) (W:=18446744073709551616) (c':=((o+c)/18446744073709551616).toNat) e1 e2 f';simpa using this
end
section
variable {g:Int}{u v:List Int}{U V n n1 q:Nat}
theorem Bl:nb (u.take (n+1))=nb (u.take n)+ak^n*(u.getD n 0).toNat:=nE u n
theorem qL(h:aR ak u)(hl:u.length<=n):nb u<ak^n:=
 da (wT h) (lC p' hl)
theorem uU(h:aR ak u)(n:Nat):nb (u.take n)<ak^n:=qL (h.take n) (by rw[fT];omega)
theorem wP(hl:u.length=n+1):nb u=nb (u.take n)+ak^n*(u.getD n 0).toNat:=by
 rw[<-Bl,gG f']
theorem ag8(h:aR ak u)(hl:u.length=n+1)(hs:nb u<ak^n):u.getD n 0=0:=by
 have h1:=de h n;have e:=wP hl;refine lr λab=>?_
 have:ak^n*1<=ak^n*(u.getD n 0).toNat:=kQ _ f';omega
theorem ag7(h:aR ak u)(hl:u.length=n+1)(hs:18446744073709551615*ak^n<=nb u):u.getD n 0=18446744073709551615:=by
 have h1:=de h n;have e:=wP hl;have h2:=uU h n;refine lr λab=>?_
 have:ak^n*(u.getD n 0).toNat<=ak^n*18446744073709551614:=kQ _ f';omega
structure kI(u v:List Int):Prop where
 hu:aR ak u
 hv:aR ak v
 h2:2<=v.length
 hl:u.length=v.length+1
 ht:9223372036854775808<=v.getD (v.length-1) 0
 hs:nb u<ak*nb v
theorem ab5(a b c d W B:Nat):a+W*d+W*B*c+W*B*B*b=(b*B+c)*(B*W)+d*W+a:=E'
theorem kI.parts(h:kI u v):∃W V' V2 U':Nat,ak^(v.length-1)=ak*W/\nb v=(v.getD (v.length-1) 0).toNat*(ak*W)+V'/\V'<ak*W/\
 V'=(v.getD (v.length-2) 0).toNat*W+V2/\V2<W/\
 nb u=((u.getD v.length 0).toNat*ak+(u.getD (v.length-1) 0).toNat)*(ak*W)+(u.getD (v.length-2) 0).toNat*W+U'/\U'<W:=by
 obtain⟨k,hk⟩:∃k,v.length=k+2:=⟨v.length-2,by have:=h.h2;omega⟩;have e1:nb v=nb (v.take (k+1))+ak^(k+1)*(v.getD (k+1) 0).toNat:=wP hk;have e2:nb (v.take (k+1))=nb (v.take k)+ak^k*(v.getD k 0).toNat:=Bl;have e3:nb u=nb (u.take (k+2))+ak^(k+2)*(u.getD (k+2) 0).toNat:=wP (by rw[h.hl,hk]);have e4:nb (u.take (k+2))=nb (u.take (k+1))+ak^(k+1)*(u.getD (k+1) 0).toNat:=Bl;have e5:nb (u.take (k+1))=nb (u.take k)+ak^k*(u.getD k 0).toNat:=Bl;have l1:=uU h.hv k;have l2:=uU h.hu k;have l3:=uU h.hv (k+1);rw[hk,show k+2-1=k+1 from f',show k+2-2=k from f'];refine⟨ak^k,nb (v.take (k+1)),nb (v.take k),nb (u.take k),by rw[gH,iw],?_,by rw[gH,iw]at l3;exact l3,?_,l1,?_,l2⟩
 .rw[e1,gH,iw (ak^k) ak,iw (ak*ak^k),q8]
 .rw[e2,iw (ak^k),q8]
 .rw[e3,e4,e5,show ak^(k+2)=ak^k*ak*ak from rfl,show ak^(k+1)=ak^k*ak from rfl]
  generalize ak^k=W;generalize nb (u.take k)=a;generalize(u.getD (k+2) 0).toNat=b;generalize(u.getD (k+1) 0).toNat=c;generalize(u.getD k 0).toNat=d;exact ab5 a b c d W ak
theorem kI.pos(h:kI u v):0<nb v:=by
 have:=h.hs;rcases re (nb v)with e|e
 .rw[e]at this;omega
 .exact e
structure vq(u v:List Int)(g r:Int):Prop where
 hg:0<=g/\g<18446744073709551616
 hr:0<=r
 he:g*v.getD (v.length-1) 0+r=u.getD v.length 0*18446744073709551616+u.getD (v.length-1) 0
 hq:nb u/nb v<=g.toNat
theorem Jj{a b c d:Int}(ha:0<=a)(hb:0<=b)(hc:0<=c)(hd:0<=d){x y:Int}(hx:0<=x)(hy:0<=y)(h:a*b+c=x*d+y):a.toNat*b.toNat+c.toNat=x.toNat*d.toNat+y.toNat:=by
 obtain⟨a,rfl⟩:=fI ha;obtain⟨b,rfl⟩:=fI hb;obtain⟨c,rfl⟩:=fI hc;obtain⟨d,rfl⟩:=fI hd;obtain⟨x,rfl⟩:=fI hx;obtain⟨y,rfl⟩:=fI hy;simp only[dD]
 exact_mod_cast h
theorem kI.div_lt(h:kI u v):nb u/nb v<18446744073709551616:=(FK h.pos).2 h.hs
theorem Wf(a b c w:Nat):(((a:Int)*(w:Int)+(b:Int))/(c:Int)).toNat=(a*w+b)/c:=by
 rw[<-se,<-vw,<-Cj,dD]
theorem vq.start(h:kI u v)(aw:u.getD v.length 0<v.getD (v.length-1) 0):
 vq u v ((u.getD v.length 0*18446744073709551616+u.getD (v.length-1) 0)/v.getD (v.length-1) 0) ((u.getD v.length 0*18446744073709551616+u.getD (v.length-1) 0)%v.getD (v.length-1) 0):=by
 have h1:=de h.hu v.length;have h2:=de h.hu (v.length-1);have h3:=de h.hv (v.length-1);have h4:=de h.hu (v.length-2);obtain⟨W,V',V2,U',w1,w2,w3,w4,w5,w6,w7⟩:=h.parts;have ht:=h.ht;generalize hgu:u.getD v.length 0=un at*;generalize hgu1:u.getD (v.length-1) 0=ab at*;generalize hgv:v.getD (v.length-1) 0=v1 at*;have ao:0<v1:=f';have e:=pa (un*18446744073709551616+ab) v1;have hr:=o5 (un*18446744073709551616+ab) (show v1≠0 from f');have af:0<=(un*18446744073709551616+ab)/v1:=jv f' f';refine⟨⟨af,tW ao f'⟩,hr,by rw[gD,hgv,hgu,hgu1];exact e,?_⟩;have hq:=FL (nb u) (nb v);have key:=Zo (q:=nb u/nb v) (V:=nb v) (U:=nb u) (t:=un.toNat*ak+ab.toNat) (v:=v1.toNat) (W:=ak*W) (V':=V') w2 f' (by
  have:(u.getD (v.length-2) 0).toNat*W+U'<ak*W:=by
   have:((u.getD (v.length-2) 0).toNat+1)*W<=ak*W:=jD _ (by show _<=18446744073709551616;omega);rw[pg,CC]at this;omega
  rw[w6,pg (un.toNat*ak+ab.toNat),CC];omega) hq
 refine fC key (FM ?_);obtain⟨un,rfl⟩:=fI h1.1;obtain⟨ab,rfl⟩:=fI h2.1;obtain⟨v1,rfl⟩:=fI h3.1;simp only[dD];exact(Wf un ab v1 _).symm
theorem afM{t B W u2 U':Nat}(h:U'<W):t*(B*W)+u2*W+U'<(t*B+u2+1)*W:=by
 have:(t*B+u2+1)*W=t*(B*W)+u2*W+W:=E';omega
theorem vq.step{r:Int}(h:kI u v)(k:vq u v g r)(hr:r<18446744073709551616)(ab:r*18446744073709551616+u.getD (v.length-2) 0<g*v.getD (v.length-2) 0):
 vq u v (g-1) (r+v.getD (v.length-1) 0):=by
 have h1:=de h.hu v.length;have h2:=de h.hu (v.length-1);have h3:=de h.hv (v.length-1);have h4:=de h.hu (v.length-2);have h5:=de h.hv (v.length-2);obtain⟨W,V',V2,U',w1,w2,w3,w4,w5,w6,w7⟩:=h.parts;have hg:=k.hg;have aw:=k.hr;have he:=Jj hg.1 h3.1 k.hr p' h1.1 h2.1 k.he;have af:g≠0:=by
  intro e;rw[e]at ab;omega
 have hq:=FL (nb u) (nb v);refine⟨f',f',by rw[vA,<-k.he];omega,?_⟩;refine nV λao=>?_
 have key:=Zq (g:=g.toNat) (q:=nb u/nb v) (V:=nb v) (U:=nb u) (t:=(u.getD v.length 0).toNat*ak+(u.getD (v.length-1) 0).toNat) (v:=(v.getD (v.length-1) 0).toNat) (v2:=(v.getD (v.length-2) 0).toNat)
  (u2:=(u.getD (v.length-2) 0).toNat) (r:=r.toNat) (W':=W) (B:=ak) (by rw[w2,w4,pg,pj];omega) he.symm (by
   rw[w6];exact afM w7) hq f'
 have e1:(g*v.getD (v.length-2) 0).toNat=g.toNat*(v.getD (v.length-2) 0).toNat:=J7 hg.1 h5.1;rw[<-e1]at key;have e2:r.toNat*ak=r.toNat*18446744073709551616:=rfl;rw[e2]at key;omega
theorem kI.half(h:kI u v):ak*ak^(v.length-1)<=2*nb v:=by
 obtain⟨W,V',V2,U',w1,w2,w3,w4,w5,w6,w7⟩:=h.parts;have ht:=h.ht;rw[w1,w2];have:9223372036854775808*(ak*W)<=(v.getD (v.length-1) 0).toNat*(ak*W):=jD _ f';show 18446744073709551616*(ak*W)<=_;omega
theorem kI.DN(h:kI u v)(hg:0<=g/\g<18446744073709551616)(he:g*v.getD (v.length-1) 0<=u.getD v.length 0*18446744073709551616+u.getD (v.length-1) 0):g.toNat<=nb u/nb v+2:=by
 have h1:=de h.hu v.length;have h2:=de h.hu (v.length-1);have h3:=de h.hv (v.length-1);have hh:=h.half;obtain⟨W,V',V2,U',w1,w2,w3,w4,w5,w6,w7⟩:=h.parts;rw[w1]at hh;refine Zp (V:=nb v) (U:=nb u) (t:=(u.getD v.length 0).toNat*ak+(u.getD (v.length-1) 0).toNat) (B:=ak) w2 w3 ?_ (by rw[w6];omega) (by show _<=18446744073709551616;omega) hh (by
  rw[iw];exact Nat.lt_mul_div_succ _ h.pos)
 obtain⟨c,hc⟩:∃c:Nat,g*v.getD (v.length-1) 0+(c:Int)=u.getD v.length 0*18446744073709551616+u.getD (v.length-1) 0:=
  ⟨(u.getD v.length 0*18446744073709551616+u.getD (v.length-1) 0-g*v.getD (v.length-1) 0).toNat,f'⟩
 have:=Jj hg.1 h3.1 f' p' h1.1 h2.1 hc;show _<=_*18446744073709551616+_;have e:(18446744073709551616:Int).toNat=18446744073709551616:=rfl;rw[e]at this;omega
theorem kI.max(h:kI u v)(eJ:¬u.getD v.length 0<v.getD (v.length-1) 0):
 nb u/nb v<=(18446744073709551615:Int).toNat/\(18446744073709551615:Int).toNat<=nb u/nb v+2:=by
 have h1:=de h.hu v.length;have h2:=de h.hu (v.length-1);have h3:=de h.hv (v.length-1);have:=h.div_lt;exact⟨by have e:(18446744073709551615:Int).toNat=18446744073709551615:=rfl;rw[e];omega,h.DN f' f'⟩
theorem afE{g:Nat}(e:n1+g*V=U)(hV:0<V)(hq:q=U/V)(hg:q<=g):g=q/\n1=U%V:=by
 have h1:g*V<=U:=f';have h2:g<=q:=by rw[hq];exact(Kx hV).2 h1
 have h3:g=q:=Kw h2 hg;refine⟨h3,?_⟩;have:=vD U V;rw[<-hq,<-h3,iw]at this;omega
theorem afF{n2 g M k:Nat}(e:n1+g*V=U+M)(hV:0<V)(hq:q=U/V)(hg:g<=q+2)(hM:n1<M)(e2:n2+M*k=n1+V)(hk:k<=1)(h2:n2<M):
 (g=q+1/\n2=U%V)\/(g=q+2/\n2+V=M+U%V):=by
 have hd:=vD U V;have hr:=ph U hV;rw[<-hq,iw]at hd;generalize U%V=R at*;have h1:q*V<g*V:=f';have h3:q<g:=To h1;have ab:k=0\/k=1:=f';have af:g=q+1\/g=q+2:=f';rcases af with rfl|rfl
 .left
  refine⟨rfl,?_⟩;rw[pg,CC]at e;rcases ab with rfl|rfl<;>omega
 .right
  refine⟨rfl,?_⟩;rw[pg]at e;rcases ab with rfl|rfl<;>omega
end
section
variable {b v x y:Int}{D a out q xs:List Int}{i r:Nat}
structure xK(a q:List Int)(b r:Int)(n:Nat):Prop where
 hn:n<=a.length
 hl:q.length=a.length
 hd:aR ak q
 hr:0<=r/\r<b
 he:nb (a.drop n)=b.toNat*nb (q.drop n)+r.toNat
theorem Eb(h:i<xs.length):nb (xs.drop i)=(xs.getD i 0).toNat+ak*nb (xs.drop (i+1)):=by
 rw[sj h,cF,ed h]
 rfl
theorem Nt(h:i<xs.length):(xs.set i v).getD i 0=v:=by
 rw[ta,au ⟨rfl,h⟩]
theorem Wl:(xs.set i v).drop (i+1)=xs.drop (i+1):=by
 rw[List.drop_set_of_lt f']
theorem xK.step{r:Int}{n:Nat}(h:xK a q b r (n+1))(ha:aR ak a)(hb:b<18446744073709551616)(hx:x=a.getD n 0):
 xK a (q.set n ((r*18446744073709551616+x)/b)) b ((r*18446744073709551616+x)%b) n:=by
 have h1:=de ha n;rw[<-hx]at h1;have hr:=h.hr;have hn:=h.hn;have hl:=h.hl;have ab:0<b:=f';have e:=pa (r*18446744073709551616+x) b;have m1:=o5 (r*18446744073709551616+x) (show b≠0 from f');have m2:=sd (r*18446744073709551616+x) ab;have d1:0<=(r*18446744073709551616+x)/b:=jv f' f';have d2:(r*18446744073709551616+x)/b<18446744073709551616:=tW ab f';refine⟨f',by rw[jC];exact hl,wB h.hd _ ⟨d1,d2⟩,⟨m1,m2⟩,?_⟩;rw[Eb f',Eb (xs:=q.set n _) (by rw[jC];omega),Nt f',Wl,h.he,<-hx];generalize(r*18446744073709551616+x)/b=d at*;generalize(r*18446744073709551616+x)%b=m at*;have key:b.toNat*d.toNat+m.toNat=r.toNat*18446744073709551616+x.toNat:=
  Jj f' d1 m1 p' hr.1 h1.1 e
 show x.toNat+18446744073709551616*_=b.toNat*(d.toNat+18446744073709551616*_)+m.toNat;rw[mC,mC];have e2:b.toNat*(18446744073709551616*nb (q.drop (n+1)))=18446744073709551616*(b.toNat*nb (q.drop (n+1))):=by
  rw[<-pj,<-pj,iw b.toNat]
 omega
theorem xK.done{r:Int}(h:xK a q b r 0):nb q=nb a/b.toNat/\r.toNat=nb a%b.toNat:=by
 have e:=h.he;have hr:=h.hr;rw[fe,fe]at e;have hb:0<b.toNat:=f';constructor
 .rw[e,KB hb,ug f'];rfl
 .rw[e,Nat.mul_add_mod,sD f']
structure xL(D out:List Int)(r i:Nat):Prop where
 hi:i<=D.length
 hl:out.length=D.length
 hd:aR ak out
 hz:∀j,i<=j->out.getD j 0=D.getD j 0
 he:2^r*nb (out.take i)+(D.getD 0 0).toNat%2^r=nb (D.take i)+ak^i*((D.getD i 0).toNat%2^r)
theorem acz{R T d X p x xr y v:Nat}(e:R*T+d=X+p*xr)(k:R*v+xr=x+18446744073709551616*y):R*(T+p*v)+d=X+p*x+p*18446744073709551616*y:=E'
def mQ(x y:Int)(r:Nat):Int:=x/2^r+(y*2^(64-r))%18446744073709551616
theorem Er(hr:r<=64):(18446744073709551616:Int)=2^r*2^(64-r):=by
 rw[<-gk,show r+(64-r)=64 from f'];rfl
theorem acw(y:Int)(hr:r<=64):(y*2^(64-r))%18446744073709551616=y%2^r*2^(64-r):=by
 rw[Er hr,gD y,gD (2^r),S7 _ _ (jl p'),gD]
theorem QW(hr:r<=64)(hx:0<=x/\x<18446744073709551616)(hy:0<=y/\y<18446744073709551616):
 2^r*(mQ x y r).toNat+x.toNat%2^r=x.toNat+18446744073709551616*(y.toNat%2^r)/\0<=mQ x y r/\mQ x y r<18446744073709551616/\
  (0<=x/2^r/\x/2^r<2^(64-r))/\(y*2^(64-r))%18446744073709551616%2^(64-r)=0:=by
 have hp:(0:Int)<2^r:=jl p';have hq:(0:Int)<2^(64-r):=jl p';have e1:=Er hr;have e2:=acw y hr;have d:=pa x (2^r);have m1:=o5 x (show(2:Int)^r≠0 from f');have m2:=sd x hp;have n1:=o5 y (show(2:Int)^r≠0 from f');have n2:=sd y hp;have d0:0<=x/2^r:=jv hx.1 f';have d1:x/2^r<2^(64-r):=tW hp (by rw[gD,<-e1];exact hx.2);have b1:y%2^r*2^(64-r)+2^(64-r)<=18446744073709551616:=by
  have:(y%2^r+1)*2^(64-r)<=2^r*2^(64-r):=gj f' f';rw[nN,nR,<-e1]at this;exact this
 have b0:0<=y%2^r*2^(64-r):=dP n1 f';refine⟨?_,?_,?_,⟨d0,d1⟩,by rw[e2,Cf]⟩
 .have key:2^r*mQ x y r+x%2^r=x+18446744073709551616*(y%2^r):=by
   unfold mQ;rw[e2,tX];have:(2:Int)^r*(y%2^r*2^(64-r))=18446744073709551616*(y%2^r):=by
    rw[e1,gD (y%2^r),mW]
   omega
  have hs:0<=mQ x y r:=by unfold mQ;rw[e2];omega
  obtain⟨x,rfl⟩:=fI hx.1;obtain⟨y,rfl⟩:=fI hy.1;obtain⟨s,hs⟩:=fI hs;rw[hs]at key|-;rw[dD,dD,dD];have e3:(2:Int)^r=((2^r:Nat):Int):=(kJ 2 r).symm;rw[e3]at key;generalize 2^r=P at key|-;omega
 .unfold mQ;rw[e2];omega
 .unfold mQ;rw[e2];omega
theorem xL.step(h:xL D out r i)(hD:aR ak D)(hi:i<D.length)(hr:r<=64)(hx:x=D.getD i 0)(hy:y=D.getD (i+1) 0):
 xL D (out.set i (mQ x y r)) r (i+1):=by
 have h1:=de hD i;have h2:=de hD (i+1);rw[<-hx]at h1;rw[<-hy]at h2;have hl:=h.hl;obtain⟨k1,k2,k3,_⟩:=QW hr h1 h2;refine⟨hi,by rw[jC];exact hl,wB h.hd _ ⟨k2,k3⟩,λj hj=>?_,?_⟩
 .rw[ta,aq f'];exact h.hz j f'
 .have e1:nb ((out.set i (mQ x y r)).take (i+1))=nb (out.take i)+ak^i*(mQ x y r).toNat:=yR _ _ _ f'
  rw[e1,Bl,<-hx,<-hy,gH];have:=h.he;rw[<-hx]at this;exact acz this k1
theorem xL.done(h:xL D out r D.length):nb out=nb D/2^r:=by
 have e:=h.he;rw[pf,gG (by have:=h.hl;omega),cF (l:=D) (i:=D.length),iT (aM _)]at e;simp only[Option.getD_none,J8,Nat.zero_mod,uh,kN]at e;have hp:0<2^r:=l7 r;rw[<-e,KB hp,ug (ph _ hp)]
 rfl
theorem Ij(h:aR ak xs){w:Nat}(hw:w<=xs.length):nb (xs.drop w)=nb xs/ak^w:=by
 have e:nb xs=nb (xs.take w)+ak^w*nb (xs.drop w):=Bn xs w hw;have hp:0<ak^w:=xH p';rw[e,Cx _ _ hp,ug (uU h w)];omega
end
section
variable {A:List Int}{n:Nat}
def bJ(n:Nat):Nat:=if n=0 then 0 else Nat.log2 n+1
theorem ku(n k:Nat):bJ n<=k↔n<2^k:=by
 unfold bJ;split
 .rename_i h;subst h;exact⟨λ_=>l7 k,λ_=>dU _⟩
 .rename_i h
  rw[<-Nat.log2_lt h];omega
theorem CV{k:Nat}(h:2^k<=n):bJ n=k+bJ (n/2^k):=by
 have key:∀j,bJ n<=k+j↔bJ (n/2^k)<=j:=λj=>by
  rw[ku,ku,FK (l7 k),mD,iw]
 have hk:k<=bJ n:=nV λab=>by
  have:=(ku n (bJ n)).1 (aM _);have:=lC (show 0<2 from p') (kt ab);omega
 have h1:=(key (bJ n-k)).1 f';have h2:=(key (bJ (n/2^k))).2 (aM _);omega
theorem Gp:bJ n=0↔n=0:=by
 constructor
 .intro h;have:=(ku n 0).1 f';simpa using this
 .rintro rfl;rfl
theorem Es(q r:Nat):2^(64*q+r)=ak^q*2^r:=by rw[mD,xG]
theorem OW(h:aR ak A){q r:Nat}(hq:A.length<=q):nb A/2^(64*q+r)=0:=by
 refine ug ?_;rw[Es];have:=qL h hq;have h2:ak^q*1<=ak^q*2^r:=kQ _ (l7 r);omega
theorem aar(h:aR ak A)(q r:Nat)(hr:r<64):nb A/2^(64*q+r)%2=(A.getD q 0).toNat/2^r%2:=by
 by_cases hq:q<A.length
 .rw[Es,<-FI,<-Ij h f',Eb hq]
  have e:ak=2^r*(2*2^(63-r)):=by
   rw[iw 2,<-gH,<-mD,show r+(63-r+1)=64 from f']
  generalize(A.getD q 0).toNat=x;generalize nb (A.drop (q+1))=y;rw[e,pj,Cx _ _ (l7 r),pj];omega
 .rw[OW h f',cF,iT f']
  simp
theorem UA(h:aR ak A)(hl:A.length=n+1)(ht:A.getD n 0≠0):bJ (nb A)=64*n+bJ (A.getD n 0).toNat:=by
 have e:=wP hl;have h2:=uU h n;have h1:=de h n;have hp:2^(64*n)=ak^n:=by rw[xG]
 have eJ:2^(64*n)<=nb A:=by
  rw[hp,e];have:ak^n*1<=ak^n*(A.getD n 0).toNat:=kQ _ f';omega
 rw[CV eJ,hp,e,Cx _ _ (xH p'),ug h2,du]
end
def sh(n:Int):Nat:=(if 0<(if 8192<n then 8192 else n)then(if 8192<n then 8192 else n)else 0).toNat
structure CF(A out:List Int)(q l i:Nat):Prop where
 hi:i<=A.length
 hl:out.length=A.length+q+1
 hd:aR ak out
 hz:∀j,i+q<j->out.getD j 0=0
 hc:out.getD (i+q) 0<2^l
 he:nb (out.take (i+q+1))=ak^q*2^l*nb (A.take i)
theorem CF.step{A out:List Int}{q l i:Nat}{v1 v2:Int}(h:CF A out q l i)(hA:aR ak A)(hi:i<A.length)(hl:l<64)
 (h1:v1=(A.getD i 0*2^l)%18446744073709551616) (h2:v2=(A.getD i 0*2^l)/18446744073709551616):
 CF A ((out.set (i+q) (out.getD (i+q) 0+v1)).set (i+q+1) v2) q l (i+1)/\out.getD (i+q) 0+v1<18446744073709551616/\v1%2^l=0:=by
 have hx:=hA.get p' i;have hB:((ak:Nat):Int)=18446744073709551616:=rfl;rw[hB]at hx;have hc:=h.hc;have ay:=(h.hd.get p' (i+q)).1;have ab:(0:Int)<2^l:=jl p';have hp:(18446744073709551616:Int)=2^l*2^(64-l):=by rw[<-gk,show l+(64-l)=64 from f'];rfl
 have hm:v1%2^l=0:=by
  rw[h1,S3 _ ⟨_,hp⟩,Cf]
 have a3:0<=A.getD i 0*2^l:=dP hx.1 (bo ab);have ax:0<=v1/\v1<18446744073709551616:=by rw[h1];omega
 have af:out.getD (i+q) 0+v1<18446744073709551616:=by
  have e:=pa v1 (2^l);rw[hm,vt]at e;have aw:v1/2^l<2^(64-l):=by
   refine tW ab ?_;rw[gD,<-hp];exact ax.2
  have:=jk (Int.add_one_le_of_lt aw) (bo ab);rw[tX,e,<-hp]at this;omega
 have ao:0<=v2/\v2<2^l:=by
  rw[h2];refine⟨f',tW p' ?_⟩;rw[gD];exact Int.mul_lt_mul_of_pos_left hx.2 ab
 have a0:(2:Int)^l<=18446744073709551616:=by
  rw[hp];have:(1:Int)<=2^(64-l):=jl p';have:=jk this (bo ab);omega
 have a1:=h.hl;refine⟨⟨hi,by simp only[jC];omega,(h.hd.set _ ⟨f',by rw[hB];exact af⟩).set _ ⟨ao.1,by rw[hB];omega⟩,λj hj=>?_,?_,?_⟩,af,hm⟩
 .rw[ta,ta,aq f',aq f']
  exact h.hz j f'
 .rw[ta,au ⟨f',by simp only[jC];omega⟩]
  exact ao.2
 .have e:=h.he
  unfold nb at e|-;rw[show i+1+q+1=(i+q+1)+1 from f',yR _ _ _ (by simp only[jC];omega),yR _ _ _ f',nE A];rw[nE]at e;have k1:v1.toNat+ak*v2.toNat=(A.getD i 0).toNat*2^l:=by
   have e1:A.getD i 0*2^l=(((A.getD i 0).toNat*2^l:Nat):Int):=by
    rw[se,tY hx.1]
    rfl
   rw[e1]at h1 h2;generalize(A.getD i 0).toNat*2^l=P at*;show _+18446744073709551616*_=_;omega
  have k2:(out.getD (i+q) 0+v1).toNat=(out.getD (i+q) 0).toNat+v1.toNat:=f';rw[k2,gH,mC,mC];have k3:ak^(i+q)*(v1.toNat+ak*v2.toNat)=ak^q*2^l*(ak^i*(A.getD i 0).toNat):=by
   rw[k1,mD];generalize ak^i=a;generalize ak^q=b;generalize 2^l=c;generalize(A.getD i 0).toNat=x
   ac_rfl
  rw[mC,<-pj]at k3;omega
section
variable {hi lo:Int}
structure lV(y y1 y0 n d:Int):Prop where
 hy:y=y1*4294967296+y0
 h1:2147483648<=y1/\y1<4294967296
 h0:0<=y0/\y0<4294967296
 hn:0<=n/\n<y
 hd:0<=d/\d<4294967296
structure mA(y y1 n d q r:Int):Prop where
 hq:0<=q
 hr:0<=r
 uJ:r<4294967296
 he:q*y1+r=n
 eJ:(n*4294967296+d)/y<=q
section
variable {y y1 y0 n d q r:Int}
theorem lV.lt(h:lV y y1 y0 n d):0<=(n*4294967296+d)/y/\(n*4294967296+d)/y<4294967296:=by
 have h1:=h.h1;have h0:=h.h0;have hn:=h.hn;have hd:=h.hd;exact⟨jv f' f',tW f' f'⟩
theorem lV.ZA(h:lV y y1 y0 n d)(hq:q*y<=n*4294967296+d):q<=(n*4294967296+d)/y:=
 J2 (by have:=h.h1;have:=h.h0;have:=h.hy;omega) hq
theorem mA.start(h:lV y y1 y0 n d):mA y y1 n d (n/y1) (n%y1)/\n/y1<=4294967297:=by
 have h1:=h.h1;have h0:=h.h0;have hn:=h.hn;have hd:=h.hd;have hy:=h.hy;have e:=pa n y1;have m1:=o5 n (show y1≠0 from f');have m2:=sd n (show 0<y1 from f');have g0:0<=n/y1:=jv hn.1 f';have hl:=h.lt;refine⟨⟨g0,m1,f',by rw[gD];exact e,?_⟩,?_⟩
 .refine J2 f' ?_
  have k1:=Int.ediv_mul_le (n*4294967296+d) (show y≠0 from f');generalize(n*4294967296+d)/y=Q at*;have k2:Q*y=Q*y1*4294967296+Q*y0:=by rw[hy];grind
  have k3:0<=Q*y0:=dP hl.1 h0.1;omega
 .refine S4 (tW f' ?_)
  omega
theorem OT(h:lV y y1 y0 n d)(he:q*y1+r=n):q*y+(r*4294967296+d-q*y0)=n*4294967296+d:=by
 have hy:=h.hy;subst he;subst hy;grind
theorem mA.step(h:lV y y1 y0 n d)(k:mA y y1 n d q r)(ht:4294967296<=q\/4294967296*r+d<q*y0):
 0<=q-1/\(q-1)*y1+(r+y1)=n/\(n*4294967296+d)/y<=q-1:=by
 have hl:=h.lt;have e:=k.he;have e2:=OT h e;refine⟨?_,by rw[vA,nR];omega,?_⟩
 .have:=k.hq
  have hr:=k.hr;have hd:=h.hd;rcases ht with ht|ht
  .omega
  .rcases Int.lt_or_eq_of_le this with h'|h'
   .omega
   .rw[<-h']at ht;omega
 .rcases ht with ht|ht
  .omega
  .refine S4 ?_
   have ab:0<y:=by have:=h.h1;have:=h.h0;have:=h.hy;omega
   have:(n*4294967296+d)/y<q:=tW ab f';omega
theorem mA.next(h:lV y y1 y0 n d)(k:mA y y1 n d q r)(ht:4294967296<=q\/4294967296*r+d<q*y0)(hr:r+y1<4294967296):mA y y1 n d (q-1) (r+y1):=by
 obtain⟨a,b,c⟩:=k.step h ht;have:=k.hr;have:=h.h1;exact⟨a,f',hr,b,c⟩
theorem lV.eq(h:lV y y1 y0 n d)(he:q*y1+r=n)(eJ:(n*4294967296+d)/y<=q)(hle:q*y0<=4294967296*r+d):q=(n*4294967296+d)/y:=by
 have e2:=OT h he;exact Int.le_antisymm (h.ZA f') eJ
theorem mA.last(h:lV y y1 y0 n d)(k:mA y y1 n d q r)(ht:4294967296<=q\/4294967296*r+d<q*y0)(hr:4294967296<=r+y1):q-1=(n*4294967296+d)/y:=by
 obtain⟨a,b,c⟩:=k.step h ht;have h1:=h.h1;have h0:=h.h0;have hn:=h.hn;have hd:=h.hd;have hy:=h.hy;refine h.eq b c ?_;have hq:q-1<4294967296:=by
  refine lX (a:=y1) ?_ f';omega
 have:=(mL (M:=4294967295) (N:=4294967295) a h0.1 f' f').2;omega
theorem mA.done(h:lV y y1 y0 n d)(k:mA y y1 n d q r)(ht:q*y0<=4294967296*r+d):q=(n*4294967296+d)/y:=h.eq k.he k.eJ ht
theorem lV.rest(h:lV y y1 y0 n d)(hy:y<18446744073709551616):
 ((
  (n*4294967296)%18446744073709551616+d)%18446744073709551616-((n*4294967296+d)/y*y)%18446744073709551616)%18446744073709551616=(n*4294967296+d)%y/\
  (0<=(n*4294967296+d)%y/\(n*4294967296+d)%y<y):=by
 have h1:=h.h1;have h0:=h.h0;have ab:=h.hy;have e:=pa (n*4294967296+d) y;have m1:=o5 (n*4294967296+d) (show y≠0 from f');have m2:=sd (n*4294967296+d) (show 0<y from f');rw[gD]at e;generalize(n*4294967296+d)/y*y=p at*;omega
end
theorem Wd{y P u1 u0 a b q1 q0 r1 r0 z:Int}(hz:z=y*P)(hP:0<P)(hu:u1*18446744073709551616+u0=(hi*18446744073709551616+lo)*P)(h0:u0=a*4294967296+b)(hy:0<y)(e1:q1*z+r1=u1*4294967296+a)(e0:q0*z+r0=r1*4294967296+b)(hr:0<=r0/\r0<z):
 q1*4294967296+q0=(hi*18446744073709551616+lo)/y/\r0/P=(hi*18446744073709551616+lo)%y:=by
 have key:((q1*4294967296+q0)*y)*P+r0=(hi*18446744073709551616+lo)*P:=by
  rw[<-hu];subst hz;subst h0;grind
 generalize hi*18446744073709551616+lo=N at*;generalize q1*4294967296+q0=Q at*;have ab:r0=(N-Q*y)*P:=by rw[vA];omega
 have c0:0<=N-Q*y:=by
  refine Fu (a:=P) ?_ hP;rw[<-ab];omega
 have c1:N-Q*y<y:=by
  refine lX (a:=P) ?_ f';rw[<-ab,<-hz];omega
 have e:N=(N-Q*y)+Q*y:=f';constructor
 .rw[e,Int.add_mul_ediv_right _ _ f',Ft c0 c1];omega
 .rw[ab,S5 _ f']
  have:=pa N y;rw[e,Int.add_mul_emod_self_right,zG c0 c1];omega
theorem Wg(hi a b P P':Int):(hi*P+a)*(P*P')+b*P=(hi*(P*P')+(P'*a+b))*P:=E'
theorem We{s:Nat}(hs:s<=64)(ab:0<=lo/\lo<18446744073709551616):
 (hi*2^s+lo/2^(64-s))*18446744073709551616+(lo*2^s)%18446744073709551616=(hi*18446744073709551616+lo)*2^s/\0<=lo/2^(64-s)/\lo/2^(64-s)<2^s:=by
 have hp:(0:Int)<2^s:=jl p';have hq:(0:Int)<2^(64-s):=jl p';have e1:=Er hs;have d:=pa lo (2^(64-s));have m1:=o5 lo (show(2:Int)^(64-s)≠0 from f');have m2:=sd lo hq;have e2:(lo*2^s)%18446744073709551616=lo%2^(64-s)*2^s:=by
  rw[e1,gD lo,S7 _ _ hp,gD]
 refine⟨?_,jv ab.1 f',tW hq (by rw[<-e1];exact ab.2)⟩;rw[e2,e1];generalize(2:Int)^s=P at*;generalize(2:Int)^(64-s)=P' at*;generalize lo/P'=a at*;generalize lo%P'=b at*;rw[<-d];exact Wg ..
end
section
variable {q u xs ys:List Int}{A V la len m n off:Nat}
theorem Ii(xs ys:List Int):nb (xs++ys)=nb xs+ak^xs.length*nb ys:=Iq xs ys
theorem Bk(xs:List Int)(n:Nat)(hn:n<=xs.length):nb xs=nb (xs.take n)+ak^n*nb (xs.drop n):=Bn xs n hn
theorem OX(n:Nat):nb (List.replicate n 0)=0:=Is n
def pU(xs ys:List Int)(off len:Nat):List Int:=xs.take off++ys++xs.drop (off+len)
theorem Ry(h:off+len<=xs.length)(hy:ys.length=len):(pU xs ys off len).length=xs.length:=by
 simp[pU];omega
theorem Rx(h:off+len<=xs.length):(pU xs ys off len).drop off=ys++xs.drop (off+len):=by
 unfold pU;rw[dH,Kb,fT,sC f',sE,fe,List.drop_take,sE,eD,mY]
theorem aff(h:aR ak xs)(hy:aR ak ys):aR ak (pU xs ys off len):=((h.take _).append hy).append (h.drop _)
theorem afh(h:off+len<=xs.length):(pU xs ys off len).take off=xs.take off:=by
 unfold pU;rw[dH,Cv,fT,sC f',sE,eD,jx,Kr,Nat.min_self]
theorem afg(h:off+len<=xs.length)(hy:ys.length=len):
 nb (pU xs ys off len)+ak^off*nb ((xs.drop off).take len)=nb xs+ak^off*nb ys:=by
 have hl:=Ry h hy;rw[Bk (pU xs ys off len) off f',afh h,Rx h,Ii,Bk xs off f',Bk (xs.drop off) len (by rw[j6];omega),List.drop_drop,hy];generalize nb (xs.take off)=a;generalize nb ((xs.drop off).take len)=b;generalize nb (xs.drop (off+len))=c;generalize nb ys=d;generalize ak^off=p;generalize ak^len=q;exact spl_ring a b c d p q
 where
 spl_ring (a b c d p q:Nat):a+p*(d+q*c)+p*b=a+p*(b+q*c)+p*d:=E'
structure sk(A V:Nat)(n la:Nat)(q u:List Int)(m:Nat):Prop where
 hm:m+n<=la+1
 hq:q.length=la+1-n
 oe:aR ak q
 hu:u.length=la+1
 og:aR ak u
 hz:∀j,j<m->q.getD j 0=0
 he:A=V*nb q+nb u
 hs:nb (u.drop m)<V
theorem sk.ags{v:List Int}(h:sk A V n la q u (m+1))(hv:aR ak v)(ab:v.length=n)(hV:nb v=V)(h2:2<=n)(ht:9223372036854775808<=v.getD (n-1) 0):
 kI ((u.drop m).take (n+1)) v/\nb ((u.drop m).take (n+1))=nb (u.drop m):=by
 have hm:=h.hm;have hu:=h.hu;have hs:=h.hs;have e1:nb (u.drop m)=(u.getD m 0).toNat+ak*nb (u.drop (m+1)):=Eb f';have l1:=de h.og m;have ao:nb (u.drop m)<ak*V:=by
  have:ak*(nb (u.drop (m+1))+1)<=ak*V:=kQ _ f';rw[mC,pk]at this;have hB:ak=18446744073709551616:=rfl;omega
 have af:V<ak^n:=by rw[<-hV];exact qL hv f'
 have hw:nb ((u.drop m).take (n+1))=nb (u.drop m):=by
  have e2:=Bk (u.drop m) (n+1) (by rw[j6];omega);have:nb ((u.drop m).drop (n+1))=0:=by
   refine lr λaw=>?_
   have k1:ak^(n+1)*1<=ak^(n+1)*nb ((u.drop m).drop (n+1)):=kQ _ f';have k2:ak*V<ak*ak^n:=Nat.mul_lt_mul_of_pos_left af p';rw[gH,iw]at k1;rw[gH]at e2;rw[iw (ak^n)]at e2 k1;omega
  rw[this,uh]at e2;exact e2.symm
 refine⟨⟨(h.og.drop m).take _,hv,f',by rw[fT,j6,ab];omega,by rw[ab];exact ht,by rw[hw,hV];exact ao⟩,hw⟩
theorem sk.step(h:sk A V n la q u (m+1))(hV:0<V)(a1:V<ak^n)(hn:0<n){W:Nat}(hW:nb ((u.drop m).take (n+1))=W)(ax:nb (u.drop m)=W)(hq:W/V<18446744073709551616):
 sk A V n la (q.set m ((W/V:Nat):Int)) (pU u (gq ak (n+1) (W%V)) m (n+1)) m:=by
 have hm:=h.hm;have hu:=h.hu;have oe:=h.hq;have hr:=ph W hV;have hB:ak^n<=ak^(n+1):=lC p' f';have ab:(gq ak (n+1) (W%V)).length=n+1:=sW ..;have af:nb (gq ak (n+1) (W%V))=W%V:=Eg p' _ _ f';have ay:=Ry (xs:=u) (ys:=gq ak (n+1) (W%V)) (off:=m) (len:=n+1) f' ab;have aw:=afg (xs:=u) (ys:=gq ak (n+1) (W%V)) (off:=m) (len:=n+1) f' ab;have ao:=wQ (xs:=q) (i:=m) (v:=((W/V:Nat):Int)) f';rw[h.hz m f',J8,uh,kN,dD]at ao;rw[hW,af]at aw;refine⟨f',by rw[jC];exact oe,wB h.oe _ ⟨Ta _,Int.ofNat_lt.2 hq⟩,by rw[ay];exact hu,aff h.og (Bf p' _ _),λj hj=>?_,?_,?_⟩
 .rw[ta,aq f'];exact h.hz j f'
 .have he:=h.he
  have hd:=vD W V;rw[ao];exact long_ring he hd aw
 .rw[Rx f',Ii,af,ab]
  have a0:nb (u.drop (m+(n+1)))=0:=by
   have e2:=Bk (u.drop m) (n+1) (by rw[j6];omega);rw[hW,ax,List.drop_drop]at e2;have hp:0<ak^(n+1):=xH p';have:ak^(n+1)*nb (u.drop (m+(n+1)))=0:=f';rcases Nat.mul_eq_zero.1 this with h1|h1
   .omega
   .exact h1
  rw[a0,uh,kN];exact hr
 where
 long_ring {A V nq nu p W Q R ns:Nat} (he:A=V*nq+nu) (hd:V*Q+R=W) (hs:ns+p*W=nu+p*R):A=V*(nq+p*Q)+ns:=by
  have:ns+p*W=nu+p*R:=hs;subst hd;subst he;have e:p*(V*Q+R)=V*(p*Q)+p*R:=E';rw[e]at this
  grind
theorem sk.done(h:sk A V n la q u 0):nb q=A/V/\nb u=A%V:=by
 have hs:=h.hs;rw[fe]at hs;have e:=h.he;constructor
 .rw[e,KB f',ug hs];rfl
 .rw[e,Nat.mul_add_mod,sD hs]
theorem aa4{B:Nat}{b:List Int}{s:Nat}(hb:aR ak b)(a1:b.length=n)(hn:2<=n)(hB:nb b=B)(hA:A<ak^la)(bb:n<=la)(hs:s<=63)(h1:9223372036854775808<=(b.getD (n-1) 0).toNat*2^s)(h2:(b.getD (n-1) 0).toNat*2^s<18446744073709551616):
 (dg (B*2^s)).length=n/\9223372036854775808<=(dg (B*2^s)).getD (n-1) 0/\(dg (A*2^s)).length<=la+1/\sk (A*2^s) (B*2^s) n la (List.replicate (la+1-n) 0) (gq ak (la+1) (A*2^s)) (la+1-n)/\0<B*2^s:=by
 obtain⟨k,rfl⟩:∃k,n=k+1:=⟨n-1,f'⟩;rw[Ku]at h1 h2|-;have e:=wP a1;rw[hB]at e;have l1:=uU hb k;have hp:0<2^s:=l7 s;have hw:0<ak^k:=xH p';have a7:B*2^s=nb (b.take k)*2^s+ak^k*((b.getD k 0).toNat*2^s):=by rw[e,pg,pj]
 have a4:ak^k*9223372036854775808<=B*2^s:=by
  have:=kQ (ak^k) h1;omega
 have a3:B*2^s<ak^(k+1):=by
  have hx:b.getD k 0<18446744073709551616:=(de hb k).2;have q1:nb (b.take k)*2^s<ak^k*2^s:=zT l1 hp;have q2:((b.getD k 0).toNat+1)*2^s<=18446744073709551616:=by
   have ab:2^s*2^(64-s)=18446744073709551616:=by rw[<-mD,show s+(64-s)=64 from f']
   have:(b.getD k 0).toNat<2^(64-s):=by
    refine Tn (a:=2^s) ?_;rw[ab,iw];exact h2
   have:=jD (2^s) this;rw[iw (2^(64-s)),ab]at this;exact this
  rw[pg,CC]at q2;have q3:=kQ (ak^k) q2;rw[mC]at q3;rw[gH];show _<ak^k*18446744073709551616;omega
 have hlen:(dg (B*2^s)).length=k+1:=by
  have g1:(dg (B*2^s)).length<=k+1:=(rA p' _ _).2 a3;have g2:¬(dg (B*2^s)).length<=k:=λh=>by
   have:=(rA (B:=ak) p' (B*2^s) k).1 h;have h3:ak^k*1<=ak^k*9223372036854775808:=kQ _ p';omega
  omega
 have ax:aR ak (dg (B*2^s)):=wA p' _;have a5:9223372036854775808<=(dg (B*2^s)).getD k 0:=by
  have e2:=wP hlen;rw[jR]at e2;have l2:=uU ax k;have l3:=de ax k;have:ak^k*9223372036854775808<ak^k*((((dg (B*2^s)).getD k 0).toNat)+1):=by
   rw[mC,pk];omega
  have:=Tn this;omega
 have a6:A*2^s<ak^la*2^s:=zT hA hp;have ay:2^s<=9223372036854775808:=by
  have:=lC (show 0<2 from p') hs;simpa using this
 have af:A*2^s<ak^(la+1):=by
  have:=kQ (ak^la) ay;rw[gH];have h3:ak^la*9223372036854775808<=ak^la*ak:=kQ _ p';omega
 have aw:nb (gq ak (la+1) (A*2^s))=A*2^s:=Eg p' _ _ af;have ao:(gq ak (la+1) (A*2^s)).length=la+1:=sW ..;have a0:0<B*2^s:=by
  have:0<ak^k*9223372036854775808:=xF hw p';omega
 refine⟨hlen,a5,(rA p' _ _).2 af,⟨f',pe,aR.xj p' _,ao,Bf p' _ _,λj _=>?_,by rw[OX,aw,uh,du],?_⟩,a0⟩
 .simp only[cF,qe]
  split<;>rfl
 .rw[Ij (Bf p' _ _) (by rw[ao];omega),aw]
  refine(FK (xH p')).2 ?_;have h3:ak^k*9223372036854775808*ak^(la+1-(k+1))<=B*2^s*ak^(la+1-(k+1)):=jD _ a4;have h4:ak^k*9223372036854775808*ak^(la+1-(k+1))=ak^la*9223372036854775808:=by
   rw[Nat.mul_right_comm,<-mD,show k+(la+1-(k+1))=la from f']
  have:=kQ (ak^la) ay;omega
end
section
open Go Go.RowKit
section
variable {a b n x:Int}
theorem wu8(h1:0<=n)(h2:n<256):IntKind.u8.wrap n=n:=by
 simp[IntKind.wrap,IntKind.bits,IntKind.signed];omega
theorem wi8(h1:-128<=n)(h2:n<128):IntKind.i8.wrap n=n:=by
 simp[IntKind.wrap,IntKind.bits,IntKind.signed];split<;>omega
theorem Ux:IntKind.u64.bits=64:=rfl
theorem Uw:IntKind.i64.bits=64:=rfl
theorem Uy:IntKind.u8.bits=8:=rfl
theorem Sv(n:Int)(ab:0<=n)(af:n<2^64):IntKind.u64.wrap n=n:=zz ab (by simpa using af)
theorem Aa(i:Nat)(hi:i<=64)(x:Int)(h0:0<=x)(h1:x<18446744073709551616):bits .and .u64 x (2^i-1)=x%2^i:=
 bits_mask .u64 64 p' Sv i hi x h0 (by simpa using h1)
theorem TU(h0:0<=x)(h1:x<18446744073709551616):bits .and .u64 x 63=x%64:=Aa 6 p' x h0 h1
theorem TO(h0:0<=x)(h1:x<18446744073709551616):bits .and .u64 x 1=x%2:=Aa 1 p' x h0 h1
theorem TQ(h0:0<=x)(h1:x<18446744073709551616):bits .and .u64 x 15=x%16:=Aa 4 p' x h0 h1
theorem TS(h0:0<=x)(h1:x<18446744073709551616):bits .and .u64 x 4294967295=x%4294967296:=Aa 32 p' x h0 h1
theorem IA(i:Nat)(x y:Int)(ab:0<=x)(hx:x%2^i=0)(af:x<18446744073709551616)(ao:0<=y)(hy:y<2^i)(aw:y<18446744073709551616):bits .or .u64 x y=x+y:=
 bits_join .u64 64 p' Sv i x y ab hx (by simpa using af) ao hy (by simpa using aw)
theorem aaW(x y:Int)(ab:0<=x)(ao:x<18446744073709551616)(af:0<=y)(aw:y<18446744073709551616):bits .or .u64 x y=bits .or .u64 y x:=by
 obtain⟨a,rfl⟩:=fI ab;obtain⟨b,rfl⟩:=fI af;rw[bits_or_u64_nat a b f' f',bits_or_u64_nat b a f' f',Nat.or_comm]
theorem Eo(i:Nat)(x y:Int)(ab:0<=x)(hx:x%2^i=0)(af:x<18446744073709551616)(ao:0<=y)(hy:y<2^i)(aw:y<18446744073709551616):bits .or .u64 y x=y+x:=by
 rw[aaW y x ao aw ab af,IA i x y ab hx af ao hy aw,Int.add_comm]
theorem Xw(h:0<=b):a.fdiv b=a/b:=lW a h
theorem afI(h:0<=a):a.tdiv b=a/b:=Int.tdiv_eq_ediv_of_nonneg h
theorem ag3(h:0<=a):a.tmod b=a%b:=Int.tmod_eq_emod_of_nonneg h
attribute [push_cast] Int.add_sub_cancel List.drop_of_length_le List.take_of_length_le sW jR Nat.min_eq_left Nat.min_eq_right wu8 wi8 Ux Uw Uy TU TO TQ TS Xw afI ag3 IntKind.signed IntKind.max
end
end
section
open Go Go.RowKit Go.Proofs
section
variable {t:Nat}{α:Type}
def Q2:List (Nat×(TypeId×Nat×Nat)):=[(34,(22,1,8)),(29,(5,1,1)),(33,(47,14,176)),(72,(4,1,1)),(135,(3,1,8)),(170,(38,3,40)),(303,(36,2,32)),(220,(219,2,16)),(130,(29,1,24))]
def nkT:List (Nat×IntKind):=[(34,.u64),(29,.u8),(135,.i64)]
def vrT:List (Nat×Option Nat):=[(2,Y'),(3,Y'),(5,Y'),(22,Y'),(27,Y'),(144,Y'),(153,Y'),(4,Y'),(9,Y'),(34,Y'),(29,Y'),(33,Y'),(72,Y'),(135,Y'),(170,Y'),(303,Y'),(220,Y'),(130,Y'),(203,Y'),(299,Y'),(211,Y'),(116,Y'),(115,Y'),(59,Y'),(31,Y'),(62,Y'),(126,Y'),(80,Y'),(223,Y'),(24,T' 5),(36,T' 2),(38,T' 3),(43,T' 5),(45,T' 13),(47,T' 14),(106,T' 5),(210,T' 4),(219,T' 2),(163,T' 1),(157,T' 0),(158,T' 0),(159,T' 0),(161,T' 0),(82,T' 1),(224,T' 1),(176,T' 6),(128,T' 13),(147,T' 5),(189,T' 8)]
def zrT:List (Nat×List AV):=[(2,[.r (.int .i64 0)]),(3,[.r (.int .i64 0)]),(5,[.r (.int .u8 0)]),(22,[.r (.int .u64 0)]),(27,[.r (.int .i64 0)]),(144,[.r (.int .u64 0)]),(153,[.r (.int .u16 0)]),(4,[.r (.bool a0a)]),(9,[.r (.string ⟨#[]⟩)]),(34,[.dt]),(29,[.dt]),(33,[.dt]),(72,[.dt]),(135,[.dt]),(170,[.dt]),(303,[.dt]),(220,[.dt]),(130,[.dt]),(24,[.r (.int .i64 0),.r (.int .i64 0),.r (.int .u64 0),.r (.int .u64 0),.r (.int .i64 0)]),(36,[.r (.bool a0a),.ns .u64 []]),(38,[.r (.bool a0a),.ns .u64 [],.r (.int .i64 0)]),(43,[.r (.bool a0a),.ns .u64 [],.r (.bool a0a),.ns .u64 [],.r (.int .i64 0)]),(45,[.r (.bool a0a),.ns .u64 [],.r (.bool a0a),.ns .u64 [],.r (.int .i64 0),.r (.int .i64 0),.r (.int .i64 0),.r (.int .i64 0),.r (.bool a0a),.ns .u64 [],.r (.bool a0a),.ns .u64 [],.r (.bool a0a)]),(47,[.r (.int .u64 0),.r (.bool a0a),.ns .u64 [],.r (.bool a0a),.ns .u64 [],.r (.int .i64 0),.r (.int .i64 0),.r (.int .i64 0),.r (.int .i64 0),.r (.bool a0a),.ns .u64 [],.r (.bool a0a),.ns .u64 [],.r (.bool a0a)]),(106,[.r (.bool a0a),.ns .u64 [],.r (.bool a0a),.ns .u64 [],.r (.int .i64 0)]),(210,[.r (.bool a0a),.ns .u64 [],.r (.bool a0a),.ns .u64 []]),(219,[.r (.int .u64 0),.r (.int .i64 0)]),(163,[.r (.int .i64 0)]),(157,[]),(158,[]),(159,[]),(161,[]),(82,[.ns .u8 []]),(224,[.ns .u8 []]),(176,[.r (.pointer Y'),.r (.int .i64 0),.r (.int .i64 0),.r (.int .i64 0),.r (.int .i64 0),.r (.bool a0a)]),(128,[.r (.int .i64 0),.r (.int .i64 0),.r (.int .u64 0),.r (.int .u64 0),.r (.int .i64 0),.r (.pointer Y'),.dt,.dt,.r (.bool a0a),.r (.bool a0a),.r (.int .i64 0),.r (.pointer Y'),.r (.pointer Y')]),(31,[.r (.pointer Y')]),(62,[.r (.pointer Y')]),(126,[.r (.pointer Y')]),(80,[.r (.pointer Y')]),(223,[.r (.pointer Y')]),(147,[.r (.int .u64 0),.r (.int .u64 0),.r (.int .u64 0),.r (.int .u64 0),.r (.int .u64 0)]),(189,[.r (.int .u8 0),.r (.int .u8 0),.r (.int .u8 0),.r (.int .u8 0),.r (.int .u8 0),.r (.int .u8 0),.r (.int .u8 0),.r (.int .u8 0)])]
def XD:List (Nat×Nat):=[(768,0),(769,1),(770,2),(771,3),(772,4),(1152,0),(1153,1),(1216,0),(1217,2),(1376,0),(1377,2),(1378,4),(1440,0),(1441,5),(1442,6),(1443,7),(1444,8),(1445,10),(1446,12),(1504,0),(1505,1),(3392,0),(6720,0),(6721,2),(7008,0),(7009,1),(5216,0),(2624,0),(7168,0),(5632,0),(5633,1),(5634,2),(5635,3),(5636,4),(5637,5),(4096,0),(4097,5),(4098,6),(4099,7),(4100,8),(4101,9),(4102,10),(4103,11),(4104,12)]
def Xs:List (Nat×(Nat×Nat)):=[(1216,(0,2)),(1376,(0,2)),(1377,(2,2)),(1440,(0,5)),(1444,(8,2)),(1445,(10,2)),(1505,(1,13)),(3392,(0,5)),(6720,(0,2)),(6721,(2,2)),(4096,(0,5))]
def stT:List (Nat×List (Nat×Nat)):=[(24,[(0,1),(1,1),(2,1),(3,1),(4,1)]),(36,[(0,1),(1,1)]),(38,[(0,2),(2,1)]),(43,[(0,2),(2,2),(4,1)]),(45,[(0,5),(5,1),(6,1),(7,1),(8,2),(10,2),(12,1)]),(47,[(0,1),(1,13)]),(106,[(0,5)]),(210,[(0,2),(2,2)]),(219,[(0,1),(1,1)]),(163,[(0,1)]),(157,[]),(158,[]),(159,[]),(161,[(0,0)]),(82,[(0,1)]),(224,[(0,1)]),(176,[(0,1),(1,1),(2,1),(3,1),(4,1),(5,1)]),(128,[(0,5),(5,1),(6,1),(7,1),(8,1),(9,1),(10,1),(11,1),(12,1)])]
def Za:List (Nat×IntKind):=[(2,.i64),(3,.i64),(5,.u8),(22,.u64),(27,.i64),(144,.u64),(153,.u16)]
def T5:List (Nat×Nat):=[(147,5),(189,8)]
def Ig:List (Nat×FuncId):=[(157,208),(158,225),(159,232),(161,241),(163,242)]
def ag(mu:Bool):aL where
 sl t:=lk Q2 t
 nk t:=lk nkT t
 vr t:=lk vrT t
 zr t:=lk zrT t
 fo t f:=if f<32 then lk XD (t*32+f)else Y'
 fa t f:=if f<32 then lk Xs (t*32+f)else Y'
 st t:=lk stT t
 ik t:=lk Za t
 str t:=t==9
 bl t:=t==4
 mi t:=(lk Ig t).isSome
 ar t:=lk T5 t
 mt t m:=if m= "hairline/elem.at" then lk Ig t else Y'
 mu:=mu
theorem NO{P:Program}{t:TypeId}{ti:TypeInfo}(h:P.types[t]?=T' ti):P.info? t=T' ti:=by
 have ab:t<P.types.size:=(ir.1 h).1;simp only[Tables.info?];rw[au ab];exact h
theorem DG{f:Nat}(h:f<32):(t*32+f)/32=t/\(t*32+f)%32=f:=f'
theorem ZY{l:List (Nat×α)}{v:α}(h:lk l t=T' v):(t,v)∈l:=by
 induction l with
 |nil=>cases h
 |cons p l ih=>
  obtain⟨k,u⟩:=p;simp only[lk]at h;split at h
  .rename_i e;subst e;cases h;exact .head _
  .exact .tail _ (ih h)
theorem qH{l:List (Nat×α)}{v:α}(C:Nat×α->Bool)(e:lk l t=T' v)(h:l.all C=Z'):C (t,v)=true:=fq.1 h _ (ZY e)
def zB(i:TypeInfo)(c:Value->Bool):Bool:=match i.zero with|some z=>c z|none=>a0a
def iB(P:Program)(t:Nat)(c:TypeInfo->Bool):Bool:=match P.info? t with|some i=>c i|none=>a0a
def uB(P:Program)(t:Nat)(c:TypeDesc->Bool):Bool:=match P.underlying t with|some i=>c i|none=>a0a
def fB(P:Program)(t f:Nat)(c:Field->Bool):Bool:=uB P t λ|.struct fs=>(match fs[f]? with|some i=>c i|none=>a0a)|_=>a0a
section
variable {P:Program}{t f:Nat}
theorem JJ{i:TypeInfo}{c:Value->Bool}(h:zB i c=Z'):∃z,i.zero=T' z/\c z=true:=by
 unfold zB at h;split at h
 .exact⟨_,‹_›,h⟩
 .cases h
theorem rG{c:TypeInfo->Bool}(h:iB P t c=Z'):∃z,P.info? t=T' z/\c z=true:=by
 unfold iB at h;split at h
 .exact⟨_,‹_›,h⟩
 .cases h
theorem rW{c:TypeDesc->Bool}(h:uB P t c=Z'):∃z,P.underlying t=T' z/\c z=true:=by
 unfold uB at h;split at h
 .exact⟨_,‹_›,h⟩
 .cases h
theorem Nc{c:Field->Bool}(h:fB P t f c=Z'):∃fs z,P.underlying t=T' (.struct fs)/\fs[f]?=T' z/\c z=true:=by
 obtain⟨d,h1,h2⟩:=rW h;split at h2
 .split at h2
  .exact⟨_,_,h1,‹_›,h2⟩
  .cases h2
 .cases h2
end
def cB:AV->Value->Bool
 |.r (.int k n),.int k' n'=>k==k'&&n==n'
 |.r (.bool b),.bool b'=>b==b'
 |.r (.string ⟨⟨[]⟩⟩),.string ⟨⟨[]⟩⟩=>Z'
 |.r (.pointer Y'),.pointer Y'=>Z'
 |.dt,.slice _ 0 0=>Z'
 |.ns _ [],.slice Y' 0 0=>Z'
 |_,_=>a0a
theorem U4{w:World}{X:Nat->Prop}{c:AV}{v:Value}(h:cB c v=Z'):RI w X c v:=by
 unfold cB at h;split at h
 .simp only[dG,fU]at h;obtain⟨rfl,rfl⟩:=h;exact RI.r _
 .simp only[fU]at h;subst h;exact RI.r _
 iterate 2
  .exact RI.r _
 .exact RI.dt _
 .exact RI.ns _ [] Y' 0 0 0 J' J' J'
 .cases h
theorem OS{g:FuncId}(h:lk Ig t=T' g):∃fs i r,a0c.underlying t=T' (.struct fs)/\a0c.info? t=T' i/\i.methods.find? (·.name== "hairline/elem.at")=T' r/\r.path=#[]/\r.func=T' (g,a0a):=by
 have:=qH (λx=>uB a0c x.1 λ|.struct _=>iB a0c x.1 λi=>(match i.methods.find? (·.name== "hairline/elem.at")with|some r=>r.path.isEmpty&&(match r.func with|some (g,a0a)=>g==x.2|_=>a0a)|none=>a0a)|_=>a0a) h I';obtain⟨d,h1,h2⟩:=rW this;split at h2
 .obtain⟨i,h3,h4⟩:=rG h2
  split at h4
  .simp only[dG,Array.isEmpty_iff]at h4
   obtain⟨h5,h6⟩:=h4;split at h6
   .cases fU.1 h6;exact⟨_,i,_,h1,h3,‹_›,h5,‹_›⟩
   .cases h6
  .cases h4
 .cases h2
theorem gi(mu:Bool):cU a0c (ag mu) where
 sl t e s b h:=by
  have:=qH (λx=>uB a0c x.1 (λ|.slice e=>e==x.2.1|_=>a0a)&&iB a0c x.2.1 λi=>i.size==x.2.2.1&&i.bytes==x.2.2.2&&zB i λz=>z.cells.size==x.2.2.1) h I';simp only[dG]at this;obtain⟨h1,h2⟩:=this;obtain⟨d,h1,h3⟩:=rW h1;obtain⟨i,h2,h4⟩:=rG h2;simp only[dG,fU]at h4;obtain⟨z,h5,h6⟩:=JJ h4.2;split at h3
  .simp only[fU]at h3 h6;rw[h3]at h1;exact⟨h1,i,h2,h4.1.1,h4.1.2,z,h5,h6⟩
  .cases h3
 xe t h:=by
  have:=qH (λx=>uB a0c x.1 λd=>iB a0c x.1 λi=>nh d==x.2.isSome&&i.size==x.2.getD 1) h I';obtain⟨d,h1,h2⟩:=rW this;obtain⟨i,h3,h4⟩:=rG h2;simp only[dG,fU]at h4;exact⟨⟨d,h1,h4.1⟩,i,h3,h4.2⟩
 BX t n h:=by
  have:=qH (λx=>uB a0c x.1 λd=>iB a0c x.1 λi=>nh d==x.2.isSome&&i.size==x.2.getD 1) h I';obtain⟨d,h1,h2⟩:=rW this;obtain⟨i,h3,h4⟩:=rG h2;simp only[dG,fU]at h4;exact⟨⟨d,h1,h4.1⟩,i,h3,h4.2⟩
 zr t z h:=by
  have:=qH (λx=>iB a0c x.1 λi=>zB i λv=>v.cells.size==x.2.length&&(List.range x.2.length).all λj=>match x.2[j]?,v.cells[j]? with|some c,T' u=>cB c u|_,_=>a0a) h I';obtain⟨i,h1,h2⟩:=rG this;obtain⟨v,h3,h4⟩:=JJ h2;simp only[dG,fU]at h4;refine⟨i,v,h1,h3,h4.1,λw X j c hj=>?_⟩;have k:=fq.1 h4.2 j (j7.2 (iu.1 hj).1);rw[hj]at k;split at k
  .rename_i e1 e2;cases e1;exact⟨_,e2,U4 k⟩
  .cases k
 fo t f d h:=by
  simp only[ag]at h;split at h
  .have:=qH (λx=>fB a0c (x.1/32) (x.1%32) λe=>e.offset==x.2&&iB a0c e.type λi=>i.size !=0) h I'
   dsimp only at this;rw[(DG ‹_›).1,(DG ‹_›).2]at this;obtain⟨fs,e,h1,h2,h3⟩:=Nc this;simp only[dG,fU]at h3;obtain⟨i,h4,h5⟩:=rG h3.2;exact⟨fs,e,i,h1,h2,h3.1,h4,bne_iff_ne.1 h5⟩
  .cases h
 fa t f d n h:=by
  simp only[ag]at h;split at h
  .have:=qH (λx=>fB a0c (x.1/32) (x.1%32) λe=>e.offset==x.2.1&&uB a0c e.type λD=>nh D&&iB a0c e.type λi=>i.size==x.2.2) h I'
   dsimp only at this;rw[(DG ‹_›).1,(DG ‹_›).2]at this;obtain⟨fs,e,h1,h2,h3⟩:=Nc this;simp only[dG,fU]at h3;obtain⟨D,h6,h7⟩:=rW h3.2;simp only[dG]at h7;obtain⟨i,h4,h5⟩:=rG h7.2;exact⟨fs,e,i,D,h1,h2,h3.1,h6,h7.1,h4,fU.1 h5⟩
  .cases h
 st t l h:=by
  have:=qH (λx=>uB a0c x.1 λ|.struct fs=>fs.size==x.2.length&&(List.range x.2.length).all λj=>(match x.2[j]?,fs[j]? with|some c,T' u=>u.offset==c.1&&iB a0c u.type λi=>i.size==c.2|_,_=>a0a)|_=>a0a) h I';obtain⟨d,h1,h2⟩:=rW this;split at h2
  .rename_i fs
   simp only[dG,fU]at h2;refine⟨fs,h1,h2.1,λj o s hj=>?_⟩;have k:=fq.1 h2.2 j (j7.2 (iu.1 hj).1);rw[hj]at k;split at k
   .rename_i e1 e2;cases e1
    simp only[dG,fU]at k;obtain⟨i,h4,h5⟩:=rG k.2;exact⟨_,i,e2,k.1,h4,fU.1 h5⟩
   .cases k
  .cases h2
 ik t k h:=by
  obtain⟨d,h1,h2⟩:=rW (qH (λx=>uB a0c x.1 λ|.int k=>k==x.2|_=>a0a) h I');split at h2
  .cases fU.1 h2;exact h1
  .cases h2
 nk t k h:=by
  have:=qH (λx=>match lk Q2 x.1 with|some (e,1,_)=>(iB a0c e λi=>zB i λ|.int k 0=>k==x.2|_=>a0a)|_=>a0a) h I';dsimp only at this;split at this
  .rename_i hq
   obtain⟨i,h1,h2⟩:=rG this;obtain⟨z,h3,h4⟩:=JJ h2;split at h4
   .cases fU.1 h4;exact⟨_,_,i,hq,h1,h3⟩
   .cases h4
  .cases this
 ar t n h:=by
  obtain⟨d,h1,h2⟩:=rW (qH (λx=>uB a0c x.1 λ|.array n e=>n==x.2&&uB a0c e λd=> !nh d&&iB a0c e λi=>i.size==1|_=>a0a) h I');split at h2
  .simp only[dG,fU]at h2
   obtain⟨rfl,h2⟩:=h2;obtain⟨D,h3,h4⟩:=rW h2;simp only[dG,Fm]at h4;obtain⟨i,h5,h6⟩:=rG h4.2;exact⟨_,D,i,h1,h3,h4.1,h5,fU.1 h6⟩
  .cases h2
 str t h:=by cases js h;exact underlying9
 bl t h:=by cases js h;exact underlying4
 mi t h:=by
  obtain⟨g,e⟩:=sF.1 h;obtain⟨fs,_,_,h1,_⟩:=OS e;exact⟨fs,h1⟩
 mt t m g h:=by
  simp only[ag]at h;split at h
  .subst_vars
   obtain⟨fs,i,r,h1,h2,h3,h4,h5⟩:=OS h;exact⟨i,r,fs,h2,h3,h4,h5,h1⟩
  .cases h
end
end
section
open Go Go.RowKit Go.Proofs
section
variable {S:FuncId->Option Sp}{f0 f1 f2 f3 f4 f5 f6 f7 f8:Nat}{s0 s1 s2 s3 s4 s5 s6 s7 s8:Sp}
section
variable (mu:Bool)
theorem tl0:(ag mu).nk 2=Y'/\(ag mu).vr 2=T' Y'/\(ag mu).zr 2=T' [.r (.int .i64 0)]/\(ag mu).ik 2=T' .i64/\(ag mu).nk 3=Y'/\(ag mu).vr 3=T' Y'/\(ag mu).zr 3=T' [.r (.int .i64 0)]/\(ag mu).ik 3=T' .i64/\(ag mu).sl 4=Y'/\(ag mu).nk 4=Y'/\(ag mu).vr 4=T' Y'/\(ag mu).zr 4=T' [.r (.bool a0a)]/\(ag mu).ik 4=Y'/\(ag mu).nk 5=Y'/\(ag mu).vr 5=T' Y'/\(ag mu).zr 5=T' [.r (.int .u8 0)]/\(ag mu).ik 5=T' .u8/\(ag mu).sl 9=Y'/\(ag mu).nk 9=Y'/\(ag mu).vr 9=T' Y'/\(ag mu).zr 9=T' [.r (.string ⟨#[]⟩)]/\(ag mu).ik 9=Y'/\(ag mu).nk 22=Y'/\(ag mu).vr 22=T' Y'/\(ag mu).zr 22=T' [.r (.int .u64 0)]:=by and_intros<;>rfl
theorem tl1:(ag mu).ik 22=T' .u64/\(ag mu).nk 24=Y'/\(ag mu).vr 24=T' (T' 5)/\(ag mu).zr 24=T' [.r (.int .i64 0),.r (.int .i64 0),.r (.int .u64 0),.r (.int .u64 0),.r (.int .i64 0)]/\(ag mu).st 24=T' [(0,1),(1,1),(2,1),(3,1),(4,1)]/\(ag mu).ik 24=Y'/\(ag mu).nk 27=Y'/\(ag mu).vr 27=T' Y'/\(ag mu).zr 27=T' [.r (.int .i64 0)]/\(ag mu).ik 27=T' .i64/\(ag mu).sl 29=T' (5,1,1)/\(ag mu).nk 29=T' .u8/\(ag mu).vr 29=T' Y'/\(ag mu).zr 29=T' [.dt]/\(ag mu).ik 29=Y'/\(ag mu).nk 31=Y'/\(ag mu).vr 31=T' Y'/\(ag mu).zr 31=T' [.r (.pointer Y')]/\(ag mu).ik 31=Y'/\(ag mu).sl 33=T' (47,14,176)/\(ag mu).nk 33=Y'/\(ag mu).vr 33=T' Y'/\(ag mu).zr 33=T' [.dt]/\(ag mu).ik 33=Y'/\(ag mu).sl 34=T' (22,1,8):=by and_intros<;>rfl
theorem tl2:(ag mu).nk 34=T' .u64/\(ag mu).vr 34=T' Y'/\(ag mu).zr 34=T' [.dt]/\(ag mu).ik 34=Y'/\(ag mu).nk 36=Y'/\(ag mu).vr 36=T' (T' 2)/\(ag mu).zr 36=T' [.r (.bool a0a),.ns .u64 []]/\(ag mu).st 36=T' [(0,1),(1,1)]/\(ag mu).ik 36=Y'/\(ag mu).nk 38=Y'/\(ag mu).vr 38=T' (T' 3)/\(ag mu).zr 38=T' [.r (.bool a0a),.ns .u64 [],.r (.int .i64 0)]/\(ag mu).st 38=T' [(0,2),(2,1)]/\(ag mu).ik 38=Y'/\(ag mu).nk 43=Y'/\(ag mu).vr 43=T' (T' 5)/\(ag mu).zr 43=T' [.r (.bool a0a),.ns .u64 [],.r (.bool a0a),.ns .u64 [],.r (.int .i64 0)]/\(ag mu).st 43=T' [(0,2),(2,2),(4,1)]/\(ag mu).ik 43=Y'/\(ag mu).nk 45=Y'/\(ag mu).vr 45=T' (T' 13)/\(ag mu).zr 45=T' [.r (.bool a0a),.ns .u64 [],.r (.bool a0a),.ns .u64 [],.r (.int .i64 0),.r (.int .i64 0),.r (.int .i64 0),.r (.int .i64 0),.r (.bool a0a),.ns .u64 [],.r (.bool a0a),.ns .u64 [],.r (.bool a0a)]/\(ag mu).st 45=T' [(0,5),(5,1),(6,1),(7,1),(8,2),(10,2),(12,1)]/\(ag mu).ik 45=Y'/\(ag mu).nk 47=none:=by and_intros<;>rfl
theorem tl3:(ag mu).vr 47=T' (T' 14)/\(ag mu).zr 47=T' [.r (.int .u64 0),.r (.bool a0a),.ns .u64 [],.r (.bool a0a),.ns .u64 [],.r (.int .i64 0),.r (.int .i64 0),.r (.int .i64 0),.r (.int .i64 0),.r (.bool a0a),.ns .u64 [],.r (.bool a0a),.ns .u64 [],.r (.bool a0a)]/\(ag mu).st 47=T' [(0,1),(1,13)]/\(ag mu).ik 47=Y'/\(ag mu).nk 59=Y'/\(ag mu).vr 59=T' Y'/\(ag mu).ik 59=Y'/\(ag mu).nk 62=Y'/\(ag mu).vr 62=T' Y'/\(ag mu).zr 62=T' [.r (.pointer Y')]/\(ag mu).ik 62=Y'/\(ag mu).sl 72=T' (4,1,1)/\(ag mu).nk 72=Y'/\(ag mu).vr 72=T' Y'/\(ag mu).zr 72=T' [.dt]/\(ag mu).ik 72=Y'/\(ag mu).nk 80=Y'/\(ag mu).vr 80=T' Y'/\(ag mu).zr 80=T' [.r (.pointer Y')]/\(ag mu).ik 80=Y'/\(ag mu).nk 82=Y'/\(ag mu).vr 82=T' (T' 1)/\(ag mu).zr 82=T' [.ns .u8 []]/\(ag mu).st 82=T' [(0,1)]/\(ag mu).ik 82=none:=by and_intros<;>rfl
theorem tl4:(ag mu).nk 106=Y'/\(ag mu).vr 106=T' (T' 5)/\(ag mu).zr 106=T' [.r (.bool a0a),.ns .u64 [],.r (.bool a0a),.ns .u64 [],.r (.int .i64 0)]/\(ag mu).st 106=T' [(0,5)]/\(ag mu).ik 106=Y'/\(ag mu).nk 115=Y'/\(ag mu).vr 115=T' Y'/\(ag mu).ik 115=Y'/\(ag mu).nk 116=Y'/\(ag mu).vr 116=T' Y'/\(ag mu).ik 116=Y'/\(ag mu).nk 126=Y'/\(ag mu).vr 126=T' Y'/\(ag mu).zr 126=T' [.r (.pointer Y')]/\(ag mu).ik 126=Y'/\(ag mu).nk 128=Y'/\(ag mu).vr 128=T' (T' 13)/\(ag mu).zr 128=T' [.r (.int .i64 0),.r (.int .i64 0),.r (.int .u64 0),.r (.int .u64 0),.r (.int .i64 0),.r (.pointer Y'),.dt,.dt,.r (.bool a0a),.r (.bool a0a),.r (.int .i64 0),.r (.pointer Y'),.r (.pointer Y')]/\(ag mu).st 128=T' [(0,5),(5,1),(6,1),(7,1),(8,1),(9,1),(10,1),(11,1),(12,1)]/\(ag mu).ik 128=Y'/\(ag mu).sl 130=T' (29,1,24)/\(ag mu).nk 130=Y'/\(ag mu).vr 130=T' Y'/\(ag mu).zr 130=T' [.dt]/\(ag mu).ik 130=none:=by and_intros<;>rfl
theorem tl5:(ag mu).sl 135=T' (3,1,8)/\(ag mu).nk 135=T' .i64/\(ag mu).vr 135=T' Y'/\(ag mu).zr 135=T' [.dt]/\(ag mu).ik 135=Y'/\(ag mu).nk 144=Y'/\(ag mu).vr 144=T' Y'/\(ag mu).zr 144=T' [.r (.int .u64 0)]/\(ag mu).ik 144=T' .u64/\(ag mu).sl 147=Y'/\(ag mu).nk 147=Y'/\(ag mu).vr 147=T' (T' 5)/\(ag mu).zr 147=T' [.r (.int .u64 0),.r (.int .u64 0),.r (.int .u64 0),.r (.int .u64 0),.r (.int .u64 0)]/\(ag mu).ik 147=Y'/\(ag mu).nk 153=Y'/\(ag mu).vr 153=T' Y'/\(ag mu).zr 153=T' [.r (.int .u16 0)]/\(ag mu).ik 153=T' .u16/\(ag mu).nk 157=Y'/\(ag mu).vr 157=T' (T' 0)/\(ag mu).zr 157=T' []/\(ag mu).st 157=T' []/\(ag mu).ik 157=Y'/\(ag mu).nk 158=Y'/\(ag mu).vr 158=T' (T' 0):=by and_intros<;>rfl
theorem tl6:(ag mu).zr 158=T' []/\(ag mu).st 158=T' []/\(ag mu).ik 158=Y'/\(ag mu).nk 159=Y'/\(ag mu).vr 159=T' (T' 0)/\(ag mu).zr 159=T' []/\(ag mu).st 159=T' []/\(ag mu).ik 159=Y'/\(ag mu).nk 161=Y'/\(ag mu).vr 161=T' (T' 0)/\(ag mu).zr 161=T' []/\(ag mu).st 161=T' [(0,0)]/\(ag mu).ik 161=Y'/\(ag mu).nk 163=Y'/\(ag mu).vr 163=T' (T' 1)/\(ag mu).zr 163=T' [.r (.int .i64 0)]/\(ag mu).st 163=T' [(0,1)]/\(ag mu).ik 163=Y'/\(ag mu).sl 170=T' (38,3,40)/\(ag mu).nk 170=Y'/\(ag mu).vr 170=T' Y'/\(ag mu).zr 170=T' [.dt]/\(ag mu).ik 170=Y'/\(ag mu).nk 176=Y'/\(ag mu).vr 176=T' (T' 6):=by and_intros<;>rfl
theorem tl7:(ag mu).zr 176=T' [.r (.pointer Y'),.r (.int .i64 0),.r (.int .i64 0),.r (.int .i64 0),.r (.int .i64 0),.r (.bool a0a)]/\(ag mu).st 176=T' [(0,1),(1,1),(2,1),(3,1),(4,1),(5,1)]/\(ag mu).ik 176=Y'/\(ag mu).sl 189=Y'/\(ag mu).nk 189=Y'/\(ag mu).vr 189=T' (T' 8)/\(ag mu).zr 189=T' [.r (.int .u8 0),.r (.int .u8 0),.r (.int .u8 0),.r (.int .u8 0),.r (.int .u8 0),.r (.int .u8 0),.r (.int .u8 0),.r (.int .u8 0)]/\(ag mu).ik 189=Y'/\(ag mu).nk 203=Y'/\(ag mu).vr 203=T' Y'/\(ag mu).ik 203=Y'/\(ag mu).nk 210=Y'/\(ag mu).vr 210=T' (T' 4)/\(ag mu).zr 210=T' [.r (.bool a0a),.ns .u64 [],.r (.bool a0a),.ns .u64 []]/\(ag mu).st 210=T' [(0,2),(2,2)]/\(ag mu).ik 210=Y'/\(ag mu).nk 211=Y'/\(ag mu).vr 211=T' Y'/\(ag mu).ik 211=Y'/\(ag mu).nk 219=Y'/\(ag mu).vr 219=T' (T' 2)/\(ag mu).zr 219=T' [.r (.int .u64 0),.r (.int .i64 0)]/\(ag mu).st 219=T' [(0,1),(1,1)]/\(ag mu).ik 219=Y'/\(ag mu).sl 220=T' (219,2,16):=by and_intros<;>rfl
theorem tl8:(ag mu).nk 220=Y'/\(ag mu).vr 220=T' Y'/\(ag mu).zr 220=T' [.dt]/\(ag mu).ik 220=Y'/\(ag mu).nk 223=Y'/\(ag mu).vr 223=T' Y'/\(ag mu).zr 223=T' [.r (.pointer Y')]/\(ag mu).ik 223=Y'/\(ag mu).nk 224=Y'/\(ag mu).vr 224=T' (T' 1)/\(ag mu).zr 224=T' [.ns .u8 []]/\(ag mu).st 224=T' [(0,1)]/\(ag mu).ik 224=Y'/\(ag mu).nk 299=Y'/\(ag mu).vr 299=T' Y'/\(ag mu).ik 299=Y'/\(ag mu).sl 303=T' (36,2,32)/\(ag mu).nk 303=Y'/\(ag mu).vr 303=T' Y'/\(ag mu).zr 303=T' [.dt]/\(ag mu).ik 303=Y'/\(ag mu).fa 38 0=T' (0,2)/\(ag mu).fa 43 0=T' (0,2)/\(ag mu).fa 43 1=T' (2,2)/\(ag mu).fa 45 0=T' (0,5):=by and_intros<;>rfl
theorem tl9:(ag mu).fa 45 4=T' (8,2)/\(ag mu).fa 45 5=T' (10,2)/\(ag mu).fa 47 1=T' (1,13)/\(ag mu).fa 106 0=T' (0,5)/\(ag mu).fa 210 0=T' (0,2)/\(ag mu).fa 210 1=T' (2,2)/\(ag mu).fa 128 0=T' (0,5)/\(ag mu).mi 157=Z'/\(ag mu).mt 157 "hairline/elem.at"=T' 208/\(ag mu).mi 158=Z'/\(ag mu).mt 158 "hairline/elem.at"=T' 225/\(ag mu).mi 159=Z'/\(ag mu).mt 159 "hairline/elem.at"=T' 232/\(ag mu).mi 161=Z'/\(ag mu).mt 161 "hairline/elem.at"=T' 241/\(ag mu).mi 163=Z'/\(ag mu).mt 163 "hairline/elem.at"=T' 242/\(ag mu).ar 147=T' 5/\(ag mu).ar 189=T' 8/\(ag mu).fo 24 0=T' 0/\(ag mu).fo 24 1=T' 1/\(ag mu).fo 24 2=T' 2/\(ag mu).fo 24 3=T' 3/\(ag mu).fo 24 4=T' 4/\(ag mu).fo 36 0=T' 0:=by and_intros<;>rfl
theorem afT:(ag mu).fo 36 1=T' 1/\(ag mu).fo 38 0=T' 0/\(ag mu).fo 38 1=T' 2/\(ag mu).fo 43 0=T' 0/\(ag mu).fo 43 1=T' 2/\(ag mu).fo 43 2=T' 4/\(ag mu).fo 45 0=T' 0/\(ag mu).fo 45 1=T' 5/\(ag mu).fo 45 2=T' 6/\(ag mu).fo 45 3=T' 7/\(ag mu).fo 45 4=T' 8/\(ag mu).fo 45 5=T' 10/\(ag mu).fo 45 6=T' 12/\(ag mu).fo 47 0=T' 0/\(ag mu).fo 47 1=T' 1/\(ag mu).fo 106 0=T' 0/\(ag mu).fo 210 0=T' 0/\(ag mu).fo 210 1=T' 2/\(ag mu).fo 219 0=T' 0/\(ag mu).fo 219 1=T' 1/\(ag mu).fo 163 0=T' 0/\(ag mu).fo 82 0=T' 0/\(ag mu).fo 224 0=T' 0/\(ag mu).fo 176 0=T' 0/\(ag mu).fo 176 1=T' 1:=by and_intros<;>rfl
theorem afU:(ag mu).fo 176 2=T' 2/\(ag mu).fo 176 3=T' 3/\(ag mu).fo 176 4=T' 4/\(ag mu).fo 176 5=T' 5/\(ag mu).fo 128 0=T' 0/\(ag mu).fo 128 1=T' 5/\(ag mu).fo 128 2=T' 6/\(ag mu).fo 128 3=T' 7/\(ag mu).fo 128 4=T' 8/\(ag mu).fo 128 5=T' 9/\(ag mu).fo 128 6=T' 10/\(ag mu).fo 128 7=T' 11/\(ag mu).fo 128 8=T' 12/\(ag mu).str 4=a0a/\(ag mu).bl 4=Z'/\(ag mu).str 9=Z'/\(ag mu).bl 9=a0a/\(ag mu).str 3=a0a/\(ag mu).bl 3=a0a/\(ag mu).mu=mu:=by and_intros<;>rfl
end
attribute [push_cast] tl0 tl1 tl2 tl3 tl4 tl5 tl6 tl7 tl8 tl9 afT afU
theorem dC:bh a0c (be []):=bh.nil
theorem mixed:a0c.follows .mixedOrders=true:=I'
theorem env(hS:bh a0c S):Env a0c (ag a0a) S:=⟨gi a0a,hS,mixed⟩
theorem G3(hS:bh a0c S):Env a0c (ag Z') S:=⟨gi Z',hS,mixed⟩
theorem di(h0:aj a0c f0 s0):Env a0c (ag a0a) (be [(f0,s0)]):=env (bh.cons h0 dC)
theorem eF(h0:aj a0c f0 s0)(h1:aj a0c f1 s1):Env a0c (ag a0a) (be [(f0,s0),(f1,s1)]):=env (bh.cons h0 (bh.cons h1 dC))
theorem iZ(h0:aj a0c f0 s0)(h1:aj a0c f1 s1)(h2:aj a0c f2 s2):Env a0c (ag a0a) (be [(f0,s0),(f1,s1),(f2,s2)]):=env (bh.cons h0 (bh.cons h1 (bh.cons h2 dC)))
theorem nZ(h0:aj a0c f0 s0)(h1:aj a0c f1 s1)(h2:aj a0c f2 s2)(h3:aj a0c f3 s3):Env a0c (ag a0a) (be [(f0,s0),(f1,s1),(f2,s2),(f3,s3)]):=env (bh.cons h0 (bh.cons h1 (bh.cons h2 (bh.cons h3 dC))))
theorem yk(h0:aj a0c f0 s0)(h1:aj a0c f1 s1)(h2:aj a0c f2 s2)(h3:aj a0c f3 s3)(h4:aj a0c f4 s4):Env a0c (ag a0a) (be [(f0,s0),(f1,s1),(f2,s2),(f3,s3),(f4,s4)]):=env (bh.cons h0 (bh.cons h1 (bh.cons h2 (bh.cons h3 (bh.cons h4 dC)))))
theorem Di(h0:aj a0c f0 s0)(h1:aj a0c f1 s1)(h2:aj a0c f2 s2)(h3:aj a0c f3 s3)(h4:aj a0c f4 s4)(h5:aj a0c f5 s5):Env a0c (ag a0a) (be [(f0,s0),(f1,s1),(f2,s2),(f3,s3),(f4,s4),(f5,s5)]):=env (bh.cons h0 (bh.cons h1 (bh.cons h2 (bh.cons h3 (bh.cons h4 (bh.cons h5 dC))))))
theorem MR(h0:aj a0c f0 s0)(h1:aj a0c f1 s1)(h2:aj a0c f2 s2)(h3:aj a0c f3 s3)(h4:aj a0c f4 s4)(h5:aj a0c f5 s5)(h6:aj a0c f6 s6):Env a0c (ag a0a) (be [(f0,s0),(f1,s1),(f2,s2),(f3,s3),(f4,s4),(f5,s5),(f6,s6)]):=env (bh.cons h0 (bh.cons h1 (bh.cons h2 (bh.cons h3 (bh.cons h4 (bh.cons h5 (bh.cons h6 dC)))))))
theorem MS(h0:aj a0c f0 s0)(h1:aj a0c f1 s1)(h2:aj a0c f2 s2)(h3:aj a0c f3 s3)(h4:aj a0c f4 s4)(h5:aj a0c f5 s5)(h6:aj a0c f6 s6)(h7:aj a0c f7 s7):Env a0c (ag a0a) (be [(f0,s0),(f1,s1),(f2,s2),(f3,s3),(f4,s4),(f5,s5),(f6,s6),(f7,s7)]):=env (bh.cons h0 (bh.cons h1 (bh.cons h2 (bh.cons h3 (bh.cons h4 (bh.cons h5 (bh.cons h6 (bh.cons h7 dC))))))))
theorem Dj(h0:aj a0c f0 s0)(h1:aj a0c f1 s1)(h2:aj a0c f2 s2)(h3:aj a0c f3 s3)(h4:aj a0c f4 s4)(h5:aj a0c f5 s5)(h6:aj a0c f6 s6)(h7:aj a0c f7 s7)(h8:aj a0c f8 s8):Env a0c (ag a0a) (be [(f0,s0),(f1,s1),(f2,s2),(f3,s3),(f4,s4),(f5,s5),(f6,s6),(f7,s7),(f8,s8)]):=env (bh.cons h0 (bh.cons h1 (bh.cons h2 (bh.cons h3 (bh.cons h4 (bh.cons h5 (bh.cons h6 (bh.cons h7 (bh.cons h8 dC)))))))))
theorem Wt{f9:Nat}{s9:Sp}(h0:aj a0c f0 s0)(h1:aj a0c f1 s1)(h2:aj a0c f2 s2)(h3:aj a0c f3 s3)(h4:aj a0c f4 s4)(h5:aj a0c f5 s5)(h6:aj a0c f6 s6)(h7:aj a0c f7 s7)(h8:aj a0c f8 s8)(h9:aj a0c f9 s9):Env a0c (ag a0a) (be [(f0,s0),(f1,s1),(f2,s2),(f3,s3),(f4,s4),(f5,s5),(f6,s6),(f7,s7),(f8,s8),(f9,s9)]):=env (bh.cons h0 (bh.cons h1 (bh.cons h2 (bh.cons h3 (bh.cons h4 (bh.cons h5 (bh.cons h6 (bh.cons h7 (bh.cons h8 (bh.cons h9 dC))))))))))
end
end
section
open Go Go.RowKit
section
variable {P:Program}{T:aL}{S:FuncId->Option Sp}
theorem ai.bare{F:Prop}{n:Nat}{c:Code}{Q:Exit->St->Prop}{σ ab:St}(id:Nat)(con:aN)(E:F)(k:ai P T n c Q ab)(af:id<1000000:=by decide)(h:F->(σ.kill id).g7 id ⟨Z',con⟩=ab:=by
 (intro E;exact Im.sR E)) (hl:con.len=0:=by rfl):ai P T n c Q σ:=by
 have h1:=h E;subst h1;exact ai.dS (Le.bare af hl) k
end
theorem toNat_sub_lit(n k:Nat):((n:Int)-(no_index (OfNat.ofNat k):Int)).toNat=n-OfNat.ofNat k:=by
 show((n:Int)-((OfNat.ofNat k:Nat):Int)).toNat=_;omega
theorem ag5(n k:Nat):((no_index (OfNat.ofNat k):Int)*(n:Int)).toNat=OfNat.ofNat k*n:=by
 show(((OfNat.ofNat k:Nat):Int)*(n:Int)).toNat=_;rw[<-se,dD]
attribute [push_cast] toNat_sub_lit ag5
end
section
open Go
theorem yz(n:Int)(k:Nat)(hk:k<=62)(m:Int)(h:(BitVec.ofInt 64 m).toNat=2^k-1):bits .and .i64 n m=n%((2^k:Nat):Int):=by
 have key:(BitVec.ofInt 64 n &&& BitVec.ofInt 64 m).toNat=(n%((2^64:Nat):Int)).toNat%2^k:=by
  rw[BitVec.toNat_and,BitVec.toNat_ofInt,h,Nat.and_two_pow_sub_one_eq_mod]
 show IntKind.i64.wrap ((BitVec.ofInt 64 n &&& BitVec.ofInt 64 m).toNat:Nat)=_;have hp:(2:Nat)^k<=2^62:=lC p' hk;have h0:0<2^k:=l7 k;have hd:2^k*2^(64-k)=2^64:=by rw[<-mD];congr 1;omega
 rw[key,qZ];have ab:(n%((2^64:Nat):Int)).toNat%2^k<2^k:=ph _ h0;have e1:(((n%((2^64:Nat):Int)).toNat%2^k:Nat):Int)=n%((2^k:Nat):Int):=by
  rw[Int.natCast_emod,tY (o5 _ p')];rw[<-hd,se];exact S3 _ ⟨_,rfl⟩
 omega
theorem Y4(n:Int):bits .and .i64 n 2047=n%2048:=yz n 11 p' 2047 p'
theorem Y6(n:Int):bits .and .i64 n 4095=n%4096:=yz n 12 p' 4095 p'
theorem YZ(n:Int):bits .and .i64 n 1023=n%1024:=yz n 10 p' 1023 p'
theorem Y5(n:Int):bits .and .i64 n 31=n%32:=yz n 5 p' 31 p'
theorem Y3(n:Int):bits .and .i64 n 15=n%16:=yz n 4 p' 15 p'
attribute [push_cast] Y4 Y6 YZ Y5 Y3
end
section
open Go Go.RowKit
section
variable {P:Program}{T:aL}{S:FuncId->Option Sp}{κ:Ctx}{β:Nat->Option (Nat×Nat)}{a:Act}{w:World}
theorem RI.XB{X:Nat->Prop}{g:FuncId}{cs:List AV}{vs:Array Value}(hl:vs.size=cs.length)(h:∀(j:Nat)(c:AV),cs[j]?=T' c->∃v:Value,vs[j]?=T' v/\RI w X c v):RI w X (.fn g cs) (.func (.func g) #[] vs):=by
 refine RI.fn g cs vs (λj=>vs.getD j undef) hl (λj c hj=>?_) (λj c hj=>?_)
 .obtain⟨v,h1,_⟩:=h j c hj
  rw[iW,h1];rfl
 .obtain⟨v,h1,h2⟩:=h j c hj
  rw[iW,h1];exact h2
def EG:List Nat->St->St
 |[],σ=>σ
 |i::l,σ=>EG l (σ.settle i)
theorem QS:∀(l:List Nat){σ:St},av κ β σ.get σ.ae a w->av κ β (EG l σ).get (EG l σ).ae a w
 |[],_,h=>h
 |i::l,σ,h=>QS l (by rw[Dt,xU];exact h.settle i)
theorem ai.wO(hT:cU P T)(hS:bh P S){n id:Nat}{ops:List Oper}{o:Oper}{Q:Exit->St->Prop}{σ:St}{K1:St->Prop}{d f:Nat}{xs:List Operand}(kk:Nat)
 (hA:et T S ops.toArray (ops.take kk) K1 σ)
 (hK:∀aw,K1 aw->∃ab af cs ids,(dR T aw xs).2=ab/\(dR T aw xs).1/\xs.map (ev ab.get)=cs/\(cs.all AV.im=Z')/\EG ids aw=af/\af.hp=ab.hp/\et T S ops.toArray (ops.drop (kk+1)) (Q .normal) (af.put (T' d) (.fn f cs)))
 (ho:ops[kk]?=T' o:=by rfl) (hop:o.op=.makeFunc (.func f) #[] xs.toArray:=by rfl) (hg:o.guard=none:=by rfl) (hd:o.dst=T' d:=by rfl) (bd:iz ops.toArray n=true:=by kernel_rfl):
 ai P T n (.region id ops.toArray a0a) Q σ:=by
 intro κ β a w hn hm hC;refine wp_region_list ?_;have bn:ops=ops.take kk++o::ops.drop (kk+1):=by
  have h1:kk<ops.length:=(iu.1 ho).1;rw[ed h1]at ho;cases ho;rw[<-sj h1,xD]
 have a3:∀o'∈ops,∀t,o'.dst=T' t->t<κ.nt:=λo' ax t ht=>by
  have:=lS.1 bd o' (by simpa using ax);rw[ht]at this;rw[hn];simpa using this
 have bm:o∈ops:=kL ho;have key:=wV (P:=P) (T:=T) (S:=S) (κ:=κ) (ops:=ops.toArray) (K:=K1) (tail:=o::ops.drop (kk+1)) (Q:=λe a' w'=>∃σ' a4,Q e σ'/\av κ a4 σ'.get σ'.ae a' w') hT hS hm
  (λaw a0 a1 w1 hk a5=>?_) (ops.take kk) σ β a w (λo' ax=>a3 o' (zS ax)) hA hC
 .have e2:(ops.toArray).toList=ops.take kk++o::ops.drop (kk+1):=by rw[Tf];exact bn
  rw[e2];exact key
 .obtain⟨ab,af,cs,ids,h1,h2,h3,h4,h5,h6,a7⟩:=hK aw hk
  have ay:=yt hm xs a5 h2;rw[h1]at ay;have ay:av κ a0 ab.get ab.ae a1 w1:=ay;have ao:=QS ids a5;rw[h5]at ao;have bc:af.ae=ab.ae:=by funext i;unfold St.ae;rw[h6]
  refine wpList_plain hg (λK' bb=>?_);unfold Oper.wp;have hex:(execOp a1.eval o).run P w1=.ok (.value (.func (.func f) #[] (xs.map a1.eval).toArray)) w1:=by
   unfold execOp;rw[hop];simp[Instr.makeFunc]
  rw[hex,KI];refine bb _ _ ?_;have a6:RI w1 (XG κ a0 ab.ae) (.fn f cs) (.func (.func f) #[] (xs.map a1.eval).toArray):=by
   refine RI.XB (by rw[<-h3];simp) (λj c hj=>?_);rw[<-h3,gv]at hj;cases hx:xs[j]? with
   |none=>rw[hx]at hj;cases hj
   |some x=>
    rw[hx]at hj;cases hj;refine⟨a1.eval x,by simp[hx],(ay.ev x).ri ?_⟩;refine fq.1 h4 _ ?_;rw[<-h3];exact mX.2 ⟨x,kL hx,rfl⟩
  rw[<-bc]at a6;have ao:av κ a0 (af.put (T' d) (.fn f cs)).get (af.put (T' d) (.fn f cs)).ae (a1.put o.dst (.func (.func f) #[] (xs.map a1.eval).toArray)) w1:=by
   rw[hd,St.fh,St.eQ];exact ao.put (λt' br=>by cases br;exact a3 o bm d hd) a6
  have:=wV (P:=P) (T:=T) (S:=S) (κ:=κ) (ops:=ops.toArray) (K:=Q .normal) (tail:=[]) (Q:=λe a' w'=>∃σ' a4,Q e σ'/\av κ a4 σ'.get σ'.ae a' w') hT hS hm
   (λab bs a2 w2 h2 ao=>wpList_nil ⟨ab,bs,h2,ao⟩) (ops.drop (kk+1)) _ a0 _ w1 (λo' ax=>a3 o' (Ct ax)) a7 ao
  rwa[jx]at this
end
end
section
open Go Go.RowKit Go.Proofs
def Lm(xs:List Int):Prop:=aR ak xs/\xs.length<1099511627776
@[push_cast] def aeU:Sp:=vb 0 (λxs=>Lm xs) (λxs=>.ns .u64 (dg (nb xs)))
theorem qT:aj a0c 117 aeU:=by
 refine aj.N λxs hp=>?_
 have hE:=env dC;refine aB func117 ntmps117 ?_;refine aK ?_;refine ai.loop (ι:={ys:List Int // Lm ys/\nb ys=nb xs}) (λys=>⟨[(0,ys.1)],[]⟩) (λys=>ys.1.length) ⟨xs,hp,rfl⟩ (Le.mk a0b) (λi=>?_);obtain⟨ys,hy,hv⟩:=i;have hlen:=hy.2;dsimp only
 by_cases h:0<ys.length/\ys.getD (ys.length-1) 0=0
 .have e1:(0:Int)<ys.length:=f'
  have h0:=h.2;have h1:=h.1;refine an (A2 e1 h0) ?_;refine⟨⟨ys.take (ys.length-1),⟨hy.1.take _,?_⟩,?_⟩,Le.mk a0b,?_⟩
  .simp;omega
  .rw[<-hv];exact aga ys h1 h0
  .simp;omega
 .have hT:qk ys:=by
   by_cases h1:ys=[]
   .exact .inl h1
   .exact .inr (λe=>h ⟨ue.2 h1,e⟩)
  have hr:ys=dg (nb xs):=by rw[<-hv];exact Xe p' hy.1 hT
  by_cases h1:0<ys.length
  .have e1:(0:Int)<ys.length:=f'
   have h0:(ys.getD (ys.length-1) 0==0)=false:=by
    rw[mH];exact λe=>h ⟨h1,e⟩
   refine an (A2 e1 h0) ?_;refine aO.mk a0b ?_;rw[<-hr]
  .have e1:¬(0:Int)<ys.length:=f'
   refine an e1 ?_;refine aO.mk a0b ?_;rw[<-hr]
theorem ai.Qp{P:Program}{T:aL}{S:FuncId->Option Sp}{n:Nat}{Q:Exit->St->Prop}{σ:St}(hE:Env P T S){id:Nat}{l:List Oper}{d:Nat}{t t' ty e:TypeId}{x:Operand}{pos:String}{af:Array Edge}
 (ao:P.underlying t=T' (.slice e)) (hd:iz (l++[uA d t x t' ty pos af]).toArray n=Z')
 (h:et T S (l++[uA d t x t' ty pos af]).toArray l (λab=>∃k xs,ev ab.get x=.ns k xs/\∀b,(xs≠[]->b=a0a)->Q .normal (ab.put (T' d) (.r (.bool b)))) σ):
 ai P T n (.region id (l++[uA d t x t' ty pos af]).toArray a0a) Q σ:=
 ai.abI hE.hT hE.hS ao _ hd rfl (by rw[<-Iz];exact h)
@[push_cast] def ad9:Sp:=vb 1 (λxs=>xs.length<1099511627776) (λxs=>.ns .u64 xs)
theorem GG:aj a0c 127 ad9:=by
 refine aj.Nf λxs hp=>?_
 have hS:=dC;have hE:=env hS;refine nM.body hE func127 ntmps127 results127 ?_;refine aT ?_;refine ai.seq (ai.seq ?_);refine ai.Qp (l:=[_]) hE underlying34 I' ?_;refine aK ?_;refine⟨_,_,by rfl,λb hb=>?_⟩;cases b with
 |true=>
  have hx:xs=[]:=lr λh=>(by cases hb h)
  subst hx;refine aK ?_;exact⟨.inr rfl,.inr ⟨rfl,rfl⟩⟩
 |false=>
  refine aK ?_;exact vF.mk a0b rfl
theorem Dd{xs:List Int}(h:Lm xs):(dg (nb xs)).length<1099511627776:=
 kO ((rA p' _ _).2 (wT h.1)) h.2
@[push_cast] def aef:Sp:=vb 1 (λxs=>Lm xs) (λxs=>.ns .u64 (dg (nb xs)))
theorem aaD:aj a0c 89 aef:=by
 refine aj.Nf λxs hp=>?_
 have hE:=eF qT GG;have hl:=Dd hp;refine nM.body hE func89 ntmps89 results89 ?_;refine aK ?_;exact vF.mk a0b rfl
end
section
open Go Go.RowKit Go.Proofs
section
variable {X:Nat->Prop}{w:World}
theorem Qv(x y:Value):RI w X (.aU [.r x,.r y]) (.tuple #[x,y]):=
 RI.aU [.r x,.r y] #[x,y] (λj=>if j=0 then x else y) rfl
  (λj c hj=>by
   match j with
   |0=>rfl
   |1=>rfl
   |j+2=>simp at hj)
  (λj c hj=>by
   match j with
   |0=>simp at hj;subst hj;exact RI.r _
   |1=>simp at hj;subst hj;exact RI.r _
   |j+2=>simp at hj)
theorem Ld{vs:Array Value}{a b c:Value}(hl:vs.size=3)(hr:∀(j:Nat)(d:AV),[AV.r a,.r b,.r c][j]?=T' d->∃v:Value,vs[j]?=T' v/\RI w X d v):vs=#[a,b,c]:=by
 obtain⟨x,hx,rx⟩:=hr 0 _ rfl;obtain⟨y,hy,ry⟩:=hr 1 _ rfl;obtain⟨z,hz,rz⟩:=hr 2 _ rfl;rw[RI.aS rx]at hx;rw[RI.aS ry]at hy;rw[RI.aS rz]at hz;apply Array.ext
 .simpa using hl
 .intro i h1 h2
  have h3:i<3:=f'
  match i,h3 with
  |0,_=>rw[sc f']at hx;simpa using hx
  |1,_=>rw[sc f']at hy;simpa using hy
  |2,_=>rw[sc f']at hz;simpa using hz
@[push_cast] def acK:Sp:=EM 0 (λx y c=>(0<=x/\x<18446744073709551616)/\(0<=y/\y<18446744073709551616)/\0<=c/\c<=1)
 (λx y c=>.aU [.r (.int .u64 ((x+y+c)%18446744073709551616)),.r (.int .u64 ((x+y+c)/18446744073709551616))])
theorem CH:aj a0c 144 acK:=by
 refine aj.FZ λx y c hp=>?_
 intro w X vs hX hl hr;have hv:=Ld hl hr;subst hv;refine .inl ⟨_,?_,Qv _ _⟩;rw[run_callFunc_extern func144 p' rfl I' (e:=add64Entry) I',run_add64 x y c hp.1.1 hp.2.1.1 hp.2.2.1 hp.2.2.2]
 rfl
def Jh:Array Value->Sem Value:=λargs=>do
 let(x,y,b)<-Extern.MathBitsCarry.three "Sub64" args
 pure (Extern.MathBitsCarry.pair ((x+Extern.MathBitsCarry.m64-y-b)%Extern.MathBitsCarry.m64) (if x<y+b then 1 else 0))
theorem aca{P:Program}(x y c:Int)(hx:0<=x)(hy:0<=y)(af:y<18446744073709551616)(ab:0<=c)(hc:c<=1)(w:World):
 (Jh #[.int .u64 x,.int .u64 y,.int .u64 c]).run P w=
  .ok (.tuple #[.int .u64 ((x-y-c)%18446744073709551616),.int .u64 (if x<y+c then 1 else 0)]) w:=by
 have key:∀k:Nat,k<=1->(Jh #[.int .u64 x,.int .u64 y,.int .u64 (k:Int)]).run P w=
  .ok (Extern.MathBitsCarry.pair ((x.toNat+Extern.MathBitsCarry.m64-y.toNat-k)%Extern.MathBitsCarry.m64) (if x.toNat<y.toNat+k then 1 else 0)) w:=by
  intro k hk;have:k=0\/k=1:=f';rcases this with rfl|rfl<;>rfl
 obtain⟨k,rfl⟩:=fI ab;rw[key k f'];obtain⟨X,rfl⟩:=fI hx;obtain⟨Y,rfl⟩:=fI hy;simp only[Extern.MathBitsCarry.pair,Extern.MathBitsCarry.m64,dD];have e1:(Int.ofNat ((X+2^64-Y-k)%2^64))=((X:Int)-Y-k)%18446744073709551616:=by
  simp only[Int.ofNat_eq_natCast];omega
 have e2:(Int.ofNat (if X<Y+k then 1 else 0))=(if(X:Int)<Y+k then 1 else 0:Int):=by
  by_cases h:X<Y+k
  .rw[au h,au f'];rfl
  .rw[aq h,aq f'];rfl
 rw[e1,e2]
@[push_cast] def aeO:Sp:=EM 0 (λx y c=>(0<=x/\x<18446744073709551616)/\(0<=y/\y<18446744073709551616)/\0<=c/\c<=1)
 (λx y c=>.aU [.r (.int .u64 ((x-y-c)%18446744073709551616)),.r (.int .u64 (if x<y+c then 1 else 0))])
theorem RC:aj a0c 158 aeO:=by
 refine aj.FZ λx y c hp=>?_
 intro w X vs hX hl hr;have hv:=Ld hl hr;subst hv;refine .inl ⟨_,?_,Qv _ _⟩;rw[run_callFunc_extern func158 p' rfl I' (e:=Jh) I',aca x y c hp.1.1 hp.2.1.1 hp.2.1.2 hp.2.2.1 hp.2.2.2]
 rfl
@[push_cast] def aeb:Sp:=Ru 0 (λx y=>(0<=x/\x<18446744073709551616)/\(0<=y/\y<18446744073709551616))
 (λx y=>.aU [.r (.int .u64 (x*y/18446744073709551616)),.r (.int .u64 (x*y%18446744073709551616))])
theorem aam{x y a b c d:Int}(ex:4294967296*a+b=x)(ey:4294967296*c+d=y):x*y=18446744073709551616*(a*c)+4294967296*(a*d)+4294967296*(b*c)+b*d:=E'
theorem Ih:aj a0c 174 aeb:=by
 refine aj.UU λx y⟨hx,hy⟩=>?_
 have hE:=env dC;have ab:0<=x%4294967296/\x%4294967296<=4294967295:=f';have af:0<=x/4294967296/\x/4294967296<=4294967295:=f';have ao:0<=y%4294967296/\y%4294967296<=4294967295:=f';have aw:0<=y/4294967296/\y/4294967296<=4294967295:=f';have ax:=mL ab.1 ao.1 ab.2 ao.2;have a0:=mL af.1 ao.1 af.2 ao.2;have ay:=mL ab.1 aw.1 ab.2 aw.2;have a1:=mL af.1 aw.1 af.2 aw.2;refine aB func174 ntmps174 ?_;refine aK ?_;refine aO.mk a0b ?_;have ex:=pa x 4294967296;have ey:=pa y 4294967296;generalize x/4294967296=a at*;generalize x%4294967296=b at*;generalize y/4294967296=c at*;generalize y%4294967296=d at*;have e:=aam ex ey;rw[eP]
 congr 3
 .congr 2
  generalize x*y=p at*;generalize a*c=p1 at*;generalize a*d=p2 at*;generalize b*c=p3 at*;generalize b*d=p4 at*;omega
@[push_cast] def adY:Sp:=zj 0 (λx=>0<=x/\x<18446744073709551616) (λx=>.r (.int .i64 (bJ x.toNat:Nat)))
theorem afC:∀i:Fin 256,(([0,1]++List.replicate 2 2++List.replicate 4 3++List.replicate 8 4++List.replicate 16 5++List.replicate 32 6++List.replicate 64 7++List.replicate 128 8:List UInt8).getD i.1 0).toNat=bJ i.1:=M'
theorem T6(l:List UInt8)(y:Nat):l.toArray.getD y 0=l.getD y 0:=by
 simp[iW]
theorem afB(y:Nat)(hy:y<256){l:List UInt8}(hl:l=[0,1]++List.replicate 2 2++List.replicate 4 3++List.replicate 8 4++List.replicate 16 5++List.replicate 32 6++List.replicate 64 7++List.replicate 128 8:=by decide+kernel):
 (l.toArray.getD y 0).toNat=bJ y:=by
 rw[T6,hl];exact afC ⟨y,hy⟩
set_option maxRecDepth 20000 in
theorem Ov:aj a0c 118 adY:=by
 refine aj.U λx hx=>?_
 have hE:=env dC;obtain⟨x,rfl⟩:=fI hx.1;refine aB func118 ntmps118 ?_;rw[dD];refine aK ?_;refine ai.join (ι:={p:Nat×Nat // p.1<4294967296/\p.2+bJ p.1=bJ x/\p.2<=32}) (λp=>⟨[(0,.r (.int .u64 (p.1.1:Nat))),(2,.r (.int .i64 (p.1.2:Nat)))],[]⟩) ?_ ?_
 .refine ai.test a0b (λh=>?_) (λh=>?_)
  .have h':=js h
   refine aK ?_;refine⟨⟨(x/4294967296,32),N',?_,N'⟩,Le.mk a0b⟩;rw[CV (n:=x) (k:=32) (by show 4294967296<=_;omega)]
  .have h':=rK h
   refine aK ?_;exact⟨⟨(x,0),N',J',N'⟩,Le.mk a0b⟩
 rintro⟨⟨y,n⟩,hy,hn,ab⟩;dsimp only at hy hn ab|-;refine aK ?_;refine ai.join (ι:={p:Nat×Nat // p.1<65536/\p.2+bJ p.1=bJ x/\p.2<=48}) (λp=>⟨[(0,.r (.int .u64 (p.1.1:Nat))),(2,.r (.int .i64 (p.1.2:Nat)))],[]⟩) ?_ ?_
 .refine ai.test a0b (λh=>?_) (λh=>?_)
  .have h':=js h
   refine aK ?_;refine⟨⟨(y/65536,n+16),N',?_,N'⟩,Le.mk a0b⟩;rw[<-hn,CV (n:=y) (k:=16) (by show 65536<=_;omega)];exact ie ..
  .have h':=rK h
   refine aK ?_;exact⟨⟨(y,n),N',hn,N'⟩,Le.mk a0b⟩
 clear hy hn ab y n;rintro⟨⟨y,n⟩,hy,hn,ab⟩;dsimp only at hy hn ab|-;refine aK ?_;refine ai.join (ι:={p:Nat×Nat // p.1<256/\p.2+bJ p.1=bJ x/\p.2<=56}) (λp=>⟨[(0,.r (.int .u64 (p.1.1:Nat))),(2,.r (.int .i64 (p.1.2:Nat)))],[]⟩) ?_ ?_
 .refine ai.test a0b (λh=>?_) (λh=>?_)
  .have h':=js h
   refine aK ?_;refine⟨⟨(y/256,n+8),N',?_,N'⟩,Le.mk a0b⟩;rw[<-hn,CV (n:=y) (k:=8) (by show 256<=_;omega)];exact ie ..
  .have h':=rK h
   refine aK ?_;exact⟨⟨(y,n),N',hn,N'⟩,Le.mk a0b⟩
 clear hy hn ab y n;rintro⟨⟨y,n⟩,hy,hn,ab⟩;dsimp only at hy hn ab|-;refine aK ?_;refine aO.mk a0b ?_;have hb:=(ku y 8).2 f';rw[afB y hy,vj (n:=(bJ y:Int)) f' f',vj f' f']
 congr 2
 omega
@[push_cast] def adX:Sp:=zj 0 (λx=>0<=x/\x<18446744073709551616) (λx=>.r (.int .i64 ((64-bJ x.toNat:Nat):Int)))
theorem Oq:aj a0c 172 adX:=by
 refine aj.U λx hx=>?_
 have hE:=di Ov;have hb:=(ku x.toNat 64).2 f';refine aB func172 ntmps172 ?_;refine aK ?_;refine aO.mk a0b ?_
 congr 2
 omega
end
end
section
open Go Go.RowKit Go.Proofs
section
variable {c x y:Int}{A B out:List Int}{i n:Nat}
theorem gY(h:(dg n).length<1099511627776):Lm (dg n):=⟨wA p' n,h⟩
structure xk(A B out:List Int)(i:Nat)(c:Int):Prop where
 hi:i<=A.length
 hl:out.length=A.length+1
 hd:aR ak out
 hc:0<=c/\c<=1
 he:nb (out.take i)+ak^i*c.toNat=nb (A.take i)+nb (B.take i)
theorem xk.step(h:xk A B out i c)(hA:aR ak A)(hB:aR ak B)(hi:i<A.length)(hx:x=A.getD i 0)(hy:y=B.getD i 0):
 xk A B (out.set i ((x+y+c)%18446744073709551616)) (i+1) ((x+y+c)/18446744073709551616):=by
 have h1:=hA.get p' i;have h2:=hB.get p' i;have hc:=h.hc;rw[<-hx]at h1;rw[<-hy]at h2;have hB:((ak:Nat):Int)=18446744073709551616:=rfl;rw[hB]at h1 h2;refine⟨hi,by rw[jC];exact h.hl,h.hd.set i (by rw[hB];omega),f',?_⟩;have e:=h.he;unfold nb at e|-;rw[yR _ _ _ (by rw[h.hl];omega),nE A,nE B,<-hx,<-hy,gH];have key:((x+y+c)%18446744073709551616).toNat+ak*((x+y+c)/18446744073709551616).toNat=x.toNat+y.toNat+c.toNat:=by
  show _+18446744073709551616*_=_;omega
 have k2:ak^i*(((x+y+c)%18446744073709551616).toNat+ak*((x+y+c)/18446744073709551616).toNat)=ak^i*(x.toNat+y.toNat+c.toNat):=by rw[key]
 rw[mC,<-pj,mC,mC]at k2;omega
theorem xk.done(h:xk A B out A.length c)(hB:B.length<=A.length):nb (out.set A.length c)=nb A+nb B:=by
 have e:=h.he;rw[pf,gG hB]at e;rw[<-e];unfold nb;have:=yR (B:=ak) out A.length c (by rw[h.hl];omega);rw[gG (by rw[jC,h.hl];omega)]at this;exact this
theorem ny{xs:List Int}(h:Lm xs)(hl:xs.length<n):(dg (nb xs)).length<n:=
 kO ((rA p' _ _).2 (wT h.1)) hl
@[push_cast] def acJ:Sp:=pT 0 (λxs ys=>Lm xs/\Lm ys/\xs.length<1000000000/\ys.length<1000000000) (λxs ys=>.ns .u64 (dg (nb xs+nb ys)))
theorem Ga:aj a0c 115 acJ:=by
 refine aj.NN λxs ys⟨hx,hy,hxl,hyl⟩=>?_
 have hE:=eF qT CH;have a0:=ny hx hxl;have a1:=ny hy hyl;refine aB func115 ntmps115 ?_;refine aK ?_;refine ai.join (ι:={p:List Int×List Int // Lm p.1/\Lm p.2/\p.2.length<=p.1.length/\p.1.length<1000000000/\nb p.1+nb p.2=nb xs+nb ys}) (λp=>⟨[(0,p.1.1),(1,p.1.2)],[]⟩) ?_ ?_
 .refine ai.test a0b (λh=>?_) (λh=>?_)
  .have h':=js h
   refine aK ?_;exact⟨⟨(dg (nb ys),dg (nb xs)),gY f',gY f',N',a1,by simp only[jR];omega⟩,Le.mk a0b⟩
  .have h':=rK h
   refine aK ?_;exact⟨⟨(dg (nb xs),dg (nb ys)),gY f',gY f',N',a0,by simp only[jR]⟩,Le.mk a0b⟩
 rintro⟨⟨A,B⟩,hA,hB,ab,ao,hN⟩;dsimp only at hA hB ab ao hN|-;refine aK ?_;refine ai.loop (ι:={p:Nat×List Int×Int // xk A B p.2.1 p.1 p.2.2}) (λp=>⟨[(0,A),(1,B),(5,.os 23 1 0 (A.length+1)),(6,.r (.int .u64 p.1.2.2)),(25,.r (.int .i64 (A.length:Nat))),(26,.r (.int .i64 (p.1.1:Nat)))],[(23,⟨Z',.n .u64 p.1.2.1⟩)]⟩)
  (λp=>A.length-p.1.1) ⟨(0,List.replicate (A.length+1) 0,0),N',J',aR.xj p' _,N',by simp[nb,nv]⟩ (Le.mk a0b) ?_
 rintro⟨⟨i,out,c⟩,hI⟩;dsimp only at hI|-;have a6:=hI.hl;have hc:=hI.hc;have a3:=de hA.1 i;have a4:=de hB.1 i
 by_cases hi:i<A.length
 .refine an (A2 (show(i:Int)<A.length from f') a0b) ?_
  refine ai.join (ι:=Unit) (λ_=>⟨[(0,A),(1,B),(5,.os 23 1 0 (A.length+1)),(6,.r (.int .u64 c)),(7,.r (.int .i64 (i:Nat))),(8,.r (.int .u64 (B.getD i 0))),(25,.r (.int .i64 (A.length:Nat))),(26,.r (.int .i64 (i:Nat)))],[(23,⟨Z',.n .u64 out⟩)]⟩) ?_ ?_
  .by_cases hb:i<B.length
   .refine an (show(i:Int)<B.length from f') ?_
    exact⟨(),Le.mk a0b⟩
   .have aw:B.getD i 0=0:=by rw[cF,iT f'];rfl
    refine an (show¬(i:Int)<B.length from f') ?_;exact⟨(),Le.mk aw⟩
  .rintro⟨⟩
   refine aK ?_;exact⟨⟨(i+1,out.set i ((A.getD i 0+B.getD i 0+c)%18446744073709551616),(A.getD i 0+B.getD i 0+c)/18446744073709551616),hI.step hA.1 hB.1 hi rfl rfl⟩,Le.mk a0b,N'⟩
 .have ax:i=A.length:=by have:=hI.hi;omega
  subst ax;have ay:(out.set A.length c).take (A.length+1)=out.set A.length c:=gG (by rw[jC];omega);have a5:Lm (out.set A.length c):=⟨hI.hd.set _ (by rw[mK];omega),by rw[jC];omega⟩;have af:=hI.done ab;rw[hN]at af;refine an (A2 (show¬(A.length:Int)<A.length from f') ay) ?_;refine aO.mk a0b ?_;rw[af]
structure xN(A B out:List Int)(i:Nat)(c:Int):Prop where
 hi:i<=A.length
 hl:out.length=A.length
 hd:aR ak out
 hc:0<=c/\c<=1
 he:nb (out.take i)+nb (B.take i)=nb (A.take i)+ak^i*c.toNat
theorem xN.step(h:xN A B out i c)(hA:aR ak A)(hB:aR ak B)(hi:i<A.length)(hx:x=A.getD i 0)(hy:y=B.getD i 0):
 xN A B (out.set i ((x-y-c)%18446744073709551616)) (i+1) (if x<y+c then 1 else 0):=by
 have h1:=hA.get p' i;have h2:=hB.get p' i;have hc:=h.hc;rw[<-hx]at h1;rw[<-hy]at h2;have hB:((ak:Nat):Int)=18446744073709551616:=rfl;rw[hB]at h1 h2;refine⟨hi,by rw[jC];exact h.hl,h.hd.set i (by rw[hB];omega),by split<;>omega,?_⟩;have e:=h.he;unfold nb at e|-;rw[yR _ _ _ (by rw[h.hl];omega),nE A,nE B,<-hx,<-hy,gH];have key:((x-y-c)%18446744073709551616).toNat+y.toNat+c.toNat=x.toNat+ak*(if x<y+c then 1 else 0:Int).toNat:=by
  show _=_+18446744073709551616*_;split
  iterate 2
   .simp;omega
 have k2:ak^i*(((x-y-c)%18446744073709551616).toNat+y.toNat+c.toNat)=ak^i*(x.toNat+ak*(if x<y+c then 1 else 0:Int).toNat):=by rw[key]
 rw[mC,mC,mC,<-pj]at k2;omega
theorem xN.done(h:xN A B out A.length c)(hB:B.length<=A.length)(hle:nb B<=nb A):out=gq ak A.length (nb A-nb B):=by
 have e:=h.he;rw[pf,gG hB,gG (by rw[h.hl];omega)]at e;have ab:=wT h.hd;rw[h.hl]at ab;have hc:=h.hc;have af:c=0\/c=1:=f';have e0:nb out=nb A-nb B:=by
  rcases af with rfl|rfl
  .simp at e;omega
  .simp at e
   have:nb out<ak^A.length:=ab;omega
 have:=MZ h.hd;rw[h.hl]at this;unfold nb at e0;rw[e0]at this;exact this
@[push_cast] def adZ:Sp:=pT 0 (λxs ys=>Lm xs/\Lm ys/\xs.length<1000000000/\ys.length<=xs.length/\nb ys<=nb xs) (λxs ys=>.ns .u64 (gq ak xs.length (nb xs-nb ys)))
theorem ZO:aj a0c 145 adZ:=by
 refine aj.NN λA B⟨hA,hB,hAl,hBA,hle⟩=>?_
 have hE:=di RC;refine aB func145 ntmps145 ?_;refine aK ?_;refine ai.loop (ι:={p:Nat×List Int×Int // xN A B p.2.1 p.1 p.2.2}) (λp=>⟨[(0,A),(1,B),(5,.os 11 1 0 A.length),(6,.r (.int .u64 p.1.2.2)),(13,.r (.int .i64 (A.length:Nat))),(14,.r (.int .i64 (p.1.1:Nat)))],[(11,⟨Z',.n .u64 p.1.2.1⟩)]⟩)
  (λp=>A.length-p.1.1) ⟨(0,List.replicate A.length 0,0),N',J',aR.xj p' _,N',by simp[nb,nv]⟩ (Le.mk a0b) ?_
 rintro⟨⟨i,out,c⟩,hI⟩;dsimp only at hI|-;have a0:=hI.hl;have hc:=hI.hc;have ax:=de hA.1 i;have ay:=de hB.1 i
 by_cases hi:i<A.length
 .refine an (show(i:Int)<A.length from f') ?_
  refine ai.join (ι:=Unit) (λ_=>⟨[(0,A),(1,B),(5,.os 11 1 0 A.length),(6,.r (.int .u64 c)),(7,.r (.int .i64 (i:Nat))),(8,.r (.int .u64 (B.getD i 0))),(13,.r (.int .i64 (A.length:Nat))),(14,.r (.int .i64 (i:Nat)))],[(11,⟨Z',.n .u64 out⟩)]⟩) ?_ ?_
  .by_cases hb:i<B.length
   .refine an (show(i:Int)<B.length from f') ?_
    exact⟨(),Le.mk a0b⟩
   .have af:B.getD i 0=0:=by rw[cF,iT f'];rfl
    refine an (show¬(i:Int)<B.length from f') ?_;exact⟨(),Le.mk af⟩
  .rintro⟨⟩
   refine aK ?_;exact⟨⟨(i+1,out.set i ((A.getD i 0-B.getD i 0-c)%18446744073709551616),(if A.getD i 0<B.getD i 0+c then 1 else 0)),hI.step hA.1 hB.1 hi rfl rfl⟩,Le.mk a0b,N'⟩
 .have ao:i=A.length:=by have:=hI.hi;omega
  subst ao;have ab:out.take A.length=out:=gG f';have aw:=hI.done hBA hle;refine an (A2 (show¬(A.length:Int)<A.length from f') ab) ?_;refine aO.mk ab ?_;rw[<-aw]
end
end
section
open Go Go.RowKit Go.Proofs
section
variable {A B:List Int}{n:Nat}
theorem De{a b:Nat}(h:(dg a).length<(dg b).length):a<b:=by
 have h1:a<ak^(dg a).length:=(rA p' a _).1 (aM _);have h2:¬b<ak^(dg a).length:=λh'=>by
  have:(dg b).length<=(dg a).length:=(rA (B:=ak) p' b _).2 h';omega
 omega
theorem OV(hA:aR ak A)(hB:aR ak B)(h1:n<A.length)(h2:n<B.length)(hd:A.drop (n+1)=B.drop (n+1))(h:A.getD n 0<B.getD n 0):nb A<nb B:=by
 unfold nb;rw[Bn A (n+1) f',Bn B (n+1) f',hd,nE,nE];have ha:=wT (hA.take n);rw[fT,sC f']at ha;have h3:=(hA.get p' n).1;have h4:(A.getD n 0).toNat+1<=(B.getD n 0).toNat:=f';have h5:=kQ (ak^n) h4;rw[mC]at h5;omega
def jK(a b:Nat):Int:=if a<b then -1 else if b<a then 1 else 0
theorem Wk(h1:n<A.length)(h2:n<B.length)(h:A.drop (n+1)=B.drop (n+1))(e:A.getD n 0=B.getD n 0):A.drop n=B.drop n:=by
 have g1:A.getD n 0=A[n]:=by rw[cF,ed h1];rfl
 have g2:B.getD n 0=B[n]:=by rw[cF,ed h2];rfl
 rw[sj h1,sj h2,h,<-g1,<-g2,e]
@[push_cast] def ada:Sp:=pT 0 (λxs ys=>Lm xs/\Lm ys) (λxs ys=>.r (.int .i64 (jK (nb xs) (nb ys))))
theorem Db:aj a0c 90 ada:=by
 refine aj.NN λxs ys⟨hx,hy⟩=>?_
 have hE:=di qT;have ao:=Dd hx;have aw:=Dd hy;have hA:=gY ao;have hB:=gY aw;refine aB func90 ntmps90 ?_;refine aK ?_;have eA:=jR (nb xs);have eB:=jR (nb ys);have ax:=De (a:=nb xs) (b:=nb ys);have ay:=De (a:=nb ys) (b:=nb xs);generalize dg (nb xs)=A at*;generalize dg (nb ys)=B at*;refine ai.test a0b (λh=>?_) (λh=>?_)
 .have h1:=js h
  refine aK ?_;refine aO.mk a0b ?_;unfold jK;rw[au (ax f')]
 have h1:=rK h;refine aK ?_;refine ai.test a0b (λh=>?_) (λh=>?_)
 .have h2:=js h
  refine aK ?_;refine aO.mk a0b ?_;have:=ay f';unfold jK;rw[aq f',au this]
 have h2:=rK h;have hl:B.length=A.length:=f';have a0:=hA.2;refine aK ?_;refine ai.loop (ι:={n:Nat // n<=A.length/\A.drop n=B.drop n}) (λn=>⟨[(0,A),(1,B),(5,((n.1:Int)-1:Int))],[]⟩) (λn=>n.1) ⟨A.length,aM _,by rw[Cp,<-hl,Cp]⟩ (Le.mk a0b) ?_;rintro⟨n,hn,ab⟩;dsimp only;cases n with
 |zero=>
  have af:A=B:=by simpa using ab
  refine aK ?_;refine aO.mk a0b ?_;subst af;unfold jK;rw[aq f',aq f']
 |succ n=>
  have a1:=de hA.1 n;have a2:=de hB.1 n;refine an (show(n:Int)+1-1=n from f') ?_;refine ai.test a0b (λh=>?_) (λh=>?_)
  .have h3:=js h
   refine aK ?_;refine aO.mk a0b ?_;have:=OV hA.1 hB.1 (n:=n) f' f' ab h3;unfold jK;rw[au f']
  have h3:=rK h;refine aK ?_;refine ai.test a0b (λh=>?_) (λh=>?_)
  .have h4:=js h
   refine aK ?_;refine aO.mk a0b ?_;have:=OV hB.1 hA.1 (n:=n) f' f' ab.symm h4;unfold jK;rw[aq f',au f']
  have h4:=rK h;refine aK ?_;exact⟨⟨n,f',Wk f' f' ab f'⟩,Le.mk a0b,N'⟩
@[push_cast] def aeN:Sp:=pT 0 (λxs ys=>Lm xs/\Lm ys/\xs.length<1000000000/\ys.length<1000000000) (λxs ys=>.aU [dg (nb xs-nb ys),decide (nb ys<=nb xs)])
theorem RE:aj a0c 116 aeN:=by
 refine aj.NN λxs ys⟨hx,hy,hxl,hyl⟩=>?_
 have hE:=iZ qT Db ZO;have ao:=ny hx hxl;have aw:=ny hy hyl;refine aB func116 ntmps116 ?_
 by_cases h:nb xs<nb ys
 .have e1:jK (nb xs) (nb ys)=-1:=by unfold jK;rw[au h]
  have e2:dg (nb xs-nb ys)=[]:=by rw[Nat.sub_eq_zero_of_le f'];exact nY
  refine an e1 ?_;refine aO.mk a0b ?_;rw[e2,lG f']
 .have e1:¬jK (nb xs) (nb ys)<0:=by unfold jK;rw[aq h];split<;>decide
  have hA:=gY (n:=nb xs) f';have hB:=gY (n:=nb ys) f';have hle:(dg (nb ys)).length<=(dg (nb xs)).length:=by
   have:=De (a:=nb xs) (b:=nb ys);omega
  have ab:nb xs-nb ys<ak^(dg (nb xs)).length:=by
   have:=wT hA.1;have q:=jR (nb xs);unfold nb at q this|-;omega
  have hn:nb (gq ak (dg (nb xs)).length (nb xs-nb ys))=nb xs-nb ys:=Eg p' _ _ ab;have hf:Lm (gq ak (dg (nb xs)).length (nb xs-nb ys)):=⟨Bf p' _ _,by rw[sW];omega⟩;have af:nb ys<=nb xs:=f';have c1:=jR (nb xs);have c2:=jR (nb ys);refine an (A4 e1 hn c1 c2) ?_;refine aO.mk a0b ?_;rw[fu af]
end
end
section
open Go Go.RowKit Go.Proofs
@[push_cast] def acY:Sp:=vb 0 (λxs=>Lm xs) (λxs=>.r (.int .i64 (bJ (nb xs):Nat)))
theorem LD:aj a0c 80 acY:=by
 refine aj.N λxs hx=>?_
 have hE:=eF qT Ov;have hA:=gY (Dd hx);have hT:qk (dg (nb xs)):=Jk p' _;have eA:=jR (nb xs);refine aB func80 ntmps80 ?_;rw[<-eA];refine aK ?_;generalize dg (nb xs)=A at*;rcases re A.length with h0|h0
 .have af:=lY h0
  subst af;refine aK ?_;exact pL
 .obtain⟨n,hn⟩:∃n,A.length=n+1:=⟨A.length-1,f'⟩
  have hl:=hA.2;have hz:((A.length:Int)==0)=false:=by rw[mH];omega
  have ab:A.length-1=n:=f';have h1:=de hA.1 n;refine an (A2 hz ab) ?_;refine aO.mk a0b ?_;have hb:=(ku (A.getD n 0).toNat 64).2 f';have ht:A.getD n 0≠0:=by
   rcases hT with rfl|hT
   .simp at h0
   .rwa[ab]at hT
  rw[UA hA.1 hn ht,vj f' f']
  congr 2
  omega
theorem acy{x:Int}{r:Nat}(h:0<=x/\x<18446744073709551616):0<=x/2^r/\x/2^r<18446744073709551616:=by
 have hp:(0:Int)<2^r:=jl p';exact⟨jv h.1 f',zI (Int.ediv_le_self _ h.1) h.2⟩
end
section
open Go Go.RowKit Go.Proofs
@[push_cast] def aea:Sp:=pT 0 (λxs ys=>Lm xs/\Lm ys/\xs.length<1000000000/\ys.length<1000000000) (λxs ys=>.ns .u64 (dg (nb xs*nb ys)))
structure Tj(A B out:List Int)(i:Nat):Prop where
 hi:i<=A.length
 hl:out.length=A.length+B.length
 hd:aR ak out
 hz:∀j,i+B.length<=j->out.getD j 0=0
 he:nb out=nb (A.take i)*nb B
theorem aan:aj a0c 161 aea:=by
 refine aj.NN λxs ys⟨hx,hy,hxl,hyl⟩=>?_
 have hE:=iZ qT CH Ih;have a7:=ny hx hxl;have bb:=ny hy hyl;have hA:=gY (n:=nb xs) f';have hB:=gY (n:=nb ys) f';have eA:=jR (nb xs);have eB:=jR (nb ys);refine aB func161 ntmps161 ?_;rw[<-eA,<-eB];refine aT ?_;refine aT ?_;generalize dg (nb xs)=A at*;generalize dg (nb ys)=B at*;have tn:((A.length:Int)+(B.length:Int)).toNat=A.length+B.length:=f';refine an tn ?_;refine ai.loop (ι:={p:Nat×List Int // Tj A B p.2 p.1}) (λp=>⟨[(0,A),(1,B),(5,.os 23 1 0 (A.length+B.length)),(24,A),(25,.r (.int .i64 (A.length:Nat))),(26,.r (.int .i64 (p.1.1:Nat)))],[(23,⟨Z',.n .u64 p.1.2⟩)]⟩)
  (λp=>A.length-p.1.1) ⟨(0,List.replicate (A.length+B.length) 0),N',J',aR.xj p' _,?_,by simp only[nb,Is,eD,Ir,FQ]⟩ (Le.mk a0b) ?_
 .intro j hj
  simp only[cF,qe];split<;>rfl
 rintro⟨⟨i,ab⟩,hO⟩;dsimp only at hO|-;have a6:=hO.hl;have aw:=de hA.1 i
 by_cases hi:i<A.length
 .refine an (show(i:Int)<A.length from f') ?_
  refine ai.loop (ι:={p:Nat×List Int×Int // sw A B p.2.1 (A.getD i 0) i p.1 p.2.2}) (λp=>⟨[(0,A),(1,B),(5,.os 23 1 0 (A.length+B.length)),(6,.r (.int .i64 (i:Nat))),(7,.r (.int .u64 (A.getD i 0))),(8,.r (.int .u64 p.1.2.2)),(24,A),(25,.r (.int .i64 (A.length:Nat))),(26,.r (.int .i64 (i:Nat))),(31,B),(32,.r (.int .i64 (B.length:Nat))),(33,.r (.int .i64 (p.1.1:Nat)))],[(23,⟨Z',.n .u64 p.1.2.1⟩)]⟩)
   (λp=>B.length-p.1.1) ⟨(0,ab,0),sw.start hO.hl hO.hd hO.hz hO.he⟩ (Le.mk a0b) ?_
  rintro⟨⟨k,out,c⟩,hI⟩;dsimp only at hI|-;have a4:=hI.hl;have ax:=de hB.1 k;have a1:=de hI.hd (i+k);have hc:=hI.hc
  by_cases hk:k<B.length
  .have ao:((i:Int)+(k:Int)).toNat=i+k:=f'
   obtain⟨m1,m2,m3,m4⟩:=OM aw ax a1 hc;have af:=hI.step hB.1 hi aw hk rfl rfl;unfold uS at m1 m2 af;unfold wG at m1 m3 af;refine an (A2 (show(k:Int)<B.length from f') ao) ?_;exact⟨⟨(k+1,_,_),af⟩,Le.mk a0b,N'⟩
  .have a0:k=B.length:=by have:=hI.hk;omega
   subst a0;have ao:((i:Int)+(B.length:Int)).toNat=i+B.length:=f';obtain⟨d1,d2,d3,d4⟩:=hI.done hi rfl;refine an (A2 (show¬(B.length:Int)<B.length from f') ao) ?_;exact⟨⟨(i+1,_),⟨hi,d1,d2,d3,d4⟩⟩,Le.mk a0b,N'⟩
 .have ay:i=A.length:=by have:=hO.hi;omega
  subst ay;have a3:ab.take (A.length+B.length)=ab:=gG f';have a5:Lm ab:=⟨hO.hd,f'⟩;have hv:=hO.he;rw[pf]at hv;refine an (A3 (show¬(A.length:Int)<A.length from f') a3 hv) ?_;exact aO.mk a0b rfl
end
end Go.Hl
