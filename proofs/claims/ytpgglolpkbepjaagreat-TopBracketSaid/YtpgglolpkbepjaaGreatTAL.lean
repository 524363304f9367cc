/- Lemmas for TopSound and TopBracket. -/
import Derived.Test.YtpgglolpkbepjaaGreatTAK
set_option linter.unusedVariables false
set_option linter.unusedSimpArgs false
namespace Go.Hl
open Go.Proofs.Tryz
open Go.Proofs.Tryz renaming prog→a0c
open Option renaming some→T',none→Y'
open Bool renaming true→Z',false→a0a
open Go Go.RowKit Go.Proofs
set_option maxHeartbeats 2000000
@[push_cast] def aeG:Sp:=I6 0 (λxs _=>Lm xs/\xs.length<1000000000) (λxs n=>.ns .u64 (dg (nb xs*2^sh n)))
theorem QT(n:Int):(if 0<(if 8192<n then 8192 else n)then(if 8192<n then 8192 else n)else 0)=((sh n:Nat):Int):=by unfold sh;split<;>split<;>omega
theorem I0(n:Int):sh n<=8192:=by unfold sh;split<;>split<;>omega
theorem acr{xs:List Int}{i:Nat}{v:Int}(h:xs.getD i 0=v):xs.set i v=xs:=by
 apply zM;intro j;rw[qf];split
 .rename_i e;subst e
  split
  .rename_i hl
   rw[cF,ed hl]at h;rw[ed hl];simp only[rf]at h;rw[h]
  .rename_i hl
   rw[iT f']
 .rfl
theorem I1:aj a0c 91 aeG:=by
 refine aj.NI λxs n⟨hx,hxl⟩=>?_
 have hE:=di qT;have bn:=ny hx hxl;have hA:=gY (n:=nb xs) f';have eA:=jR (nb xs);have hm:=QT n;have hs:=I0 n;refine aB func91 ntmps91 ?_;rw[<-eA];refine aT ?_;refine aT ?_;generalize dg (nb xs)=A at*;refine cy hm ?_;generalize sh n=s at*;clear hm;obtain⟨q,hq⟩:∃q,q=s/64:=⟨_,rfl⟩;obtain⟨l,hl⟩:∃l,l=s%64:=⟨_,rfl⟩;have a5:s=64*q+l:=f';have a1:l<64:=f';have bt:q<=128:=f';have t1:(s:Int)/64=q:=f';have t2:(s:Int)%64=l:=f';have hw:IntKind.u64.wrap (s:Int)=s:=zz f' f';clear hq hl;refine cy (A3 t1 hw t2) ?_;have bc:((A.length:Int)+(q:Int)+1).toNat=A.length+q+1:=f';refine an bc ?_;refine ai.loop (ι:={p:Nat×List Int // CF A p.2 q l p.1}) (λp=>⟨[(5,.r (.int .i64 (q:Nat))),(6,.r (.int .u64 (l:Nat))),(7,.os 25 1 0 (A.length+q+1)),(26,A),(27,.r (.int .i64 (A.length:Nat))),(28,.r (.int .i64 (p.1.1:Nat)))],[(25,⟨Z',.n .u64 p.1.2⟩)]⟩)
  (λp=>A.length-p.1.1) ⟨(0,List.replicate (A.length+q+1) 0),N',J',aR.xj p' _,?_,?_,?_⟩ (Le.mk a0b) ?_
 .intro j hj
  simp only[cF,qe];split<;>rfl
 .have:(0:Int)<2^l:=jl p'
  have e:(List.replicate (A.length+q+1) (0:Int)).getD (0+q) 0=0:=by
   simp only[cF,qe];split<;>rfl
  dsimp only;omega
 .dsimp only
  rw[Te];unfold nb;rw[Is,eD];rfl
 rintro⟨⟨i,out⟩,hI⟩;dsimp only at hI|-;have bs:=hI.hl;have bw:=de hA.1 i;have af:=de hI.hd (i+q)
 by_cases hi:i<A.length
 .obtain⟨ab,bu,a3⟩:=hI.step hA.1 hi a1 rfl rfl
  have ay:((i:Int)+(q:Int)).toNat=i+q:=f';have bd:((i:Int)+(q:Int)+1).toNat=i+q+1:=f';have ax:IntKind.u64.wrap (A.getD i 0*2^l)=(A.getD i 0*2^l)%18446744073709551616:=eP _;have ao:bits .or .u64 (out.getD (i+q) 0) ((A.getD i 0*2^l)%18446744073709551616)=out.getD (i+q) 0+(A.getD i 0*2^l)%18446744073709551616:=
   Eo l _ _ f' a3 f' af.1 hI.hc af.2
  by_cases h0:0<l
  .have bm:((64:Int)-(l:Int)).toNat=64-l:=f'
   have a6:(A.getD i 0).fdiv (2^(64-l))=(A.getD i 0*2^l)/18446744073709551616:=by
    rw[lW _ (bo (jl p'))];have hp:(18446744073709551616:Int)=2^(64-l)*2^l:=by rw[<-gk,show 64-l+l=64 from f'];rfl
    rw[hp,S6 _ _ (jl p')]
   refine an (A8 (show(i:Int)<A.length from f') ay bd ax ao (show(0:Int)<l from f') bm a6) ?_;exact⟨⟨(i+1,_),ab⟩,Le.mk a0b,N'⟩
  .have l0:l=0:=f'
   have hz:out.getD (i+q+1) 0=0:=hI.hz _ f';have bb:(A.getD i 0*2^l)/18446744073709551616=0:=by subst l0;rw[Int.pow_zero,Int.mul_one];omega
   have a7:((out.set (i+q) (out.getD (i+q) 0+(A.getD i 0*2^l)%18446744073709551616)).set (i+q+1) ((A.getD i 0*2^l)/18446744073709551616))=(out.set (i+q) (out.getD (i+q) 0+(A.getD i 0*2^l)%18446744073709551616)):=by
    rw[bb];refine acr ?_;rw[ta,aq f'];exact hz
   rw[a7]at ab;refine an (A5 (show(i:Int)<A.length from f') ay ax ao (show¬(0:Int)<l from f')) ?_;exact⟨⟨(i+1,_),ab⟩,Le.mk a0b,N'⟩
 .have a0:i=A.length:=by have:=hI.hi;omega
  subst a0;have aw:out.take (A.length+q+1)=out:=gG f';have br:Lm out:=⟨hI.hd,f'⟩;have a4:nb out=nb A*2^s:=by
   have:=hI.he;rw[aw,pf]at this;rw[this,a5,Es];exact iw _ _
  refine an (A3 (show¬(A.length:Int)<A.length from f') aw a4) ?_;exact aO.mk a0b rfl
@[push_cast] def aeI:Sp:=I6 0 (λxs _=>Lm xs/\xs.length<1000000000) (λxs n=>.ns .u64 (dg (nb xs/2^sh n)))
theorem QX:aj a0c 114 aeI:=by
 refine aj.NI λxs n⟨hx,hxl⟩=>?_
 have hE:=eF qT GG;have a6:=ny hx hxl;have hA:=gY (n:=nb xs) f';have eA:=jR (nb xs);have hm:=QT n;have hs:=I0 n;refine aB func114 ntmps114 ?_;rw[<-eA];refine aT ?_;refine aT ?_;generalize dg (nb xs)=A at*;refine cy hm ?_;generalize sh n=s at*;clear hm;obtain⟨q,hq⟩:∃q,q=s/64:=⟨_,rfl⟩;obtain⟨l,hl⟩:∃l,l=s%64:=⟨_,rfl⟩;have aw:s=64*q+l:=f';have bc:l<64:=f';have bn:q<=128:=f';have t1:(s:Int)/64=q:=f';have t2:(s:Int)%64=l:=f';have hw:IntKind.u64.wrap (s:Int)=s:=zz f' f';clear hq hl;have ao:(0:Int)<=2^l:=bo (jl p')
 by_cases oe:A.length<=q
 .refine an (A4 t1 hw t2 (show(A.length:Int)<=q from f')) ?_
  refine aO.mk a0b ?_;rw[aw,OW hA.1 oe];simp[dg,nY]
 obtain⟨D,hD⟩:∃D,D=A.drop q:=⟨_,rfl⟩;have a7:(A.take A.length).drop q=D:=by rw[pf,hD]
 have bb:D.length=A.length-q:=by rw[hD,j6]
 have ab:aR ak D:=by rw[hD];exact hA.1.drop q
 refine an (A5 t1 hw t2 (show¬(A.length:Int)<=q from f') hD.symm) ?_;refine ai.loop (ι:={p:Nat×List Int // xL D p.2 l p.1}) (λp=>⟨[(0,A),(5,.r (.int .i64 (q:Nat))),(6,.r (.int .u64 (l:Nat))),(7,.os 26 1 0 D.length),(28,.r (.int .i64 (D.length:Nat))),(29,.r (.int .i64 (p.1.1:Nat)))],[(26,⟨Z',.n .u64 p.1.2⟩)]⟩)
  (λp=>D.length-p.1.1) ⟨(0,D),N',rfl,ab,λ_ _=>rfl,?_⟩ (Le.mk a0b) ?_
 .simp only[eD,nb,Ir,uh,du,Nat.pow_zero,CC]
 rintro⟨⟨i,out⟩,hI⟩;dsimp only at hI|-;have bm:=hI.hl
 by_cases hi:i<D.length
 .have hz:=hI.hz i (aM _)
  have h1:=de ab i;have h2:=de ab (i+1);obtain⟨k1,k2,k3,k4,k5⟩:=QW (show l<=64 from f') h1 h2;have af:=hI.step ab hi (show l<=64 from f') rfl rfl;have hy:A.getD (i+1+q) 0=D.getD (i+1) 0:=by
   rw[hD,cF,cF,j5]
   congr 2;omega
  have ax:∀a b:Int,(out.set i a).set i b=out.set i b:=λa b=>List.set_set ..
  by_cases hc:0<l/\i+1+q<A.length
  .have tn:((i:Int)+1+(q:Int)).toNat=i+1+q:=f'
   have a5:((64:Int)-(l:Int)).toNat=64-l:=f';have a4:IntKind.u64.wrap (D.getD (i+1) 0*2^(64-l))=(D.getD (i+1) 0*2^(64-l))%18446744073709551616:=eP _;have hg:(out.set i (D.getD i 0/2^l)).getD i 0=D.getD i 0/2^l:=Nt f';have hp:(2:Int)^(64-l)<=2^64:=by exact_mod_cast lC (show 0<2 from p') (show 64-l<=64 from f')
   have a0:bits .or .u64 (D.getD i 0/2^l) ((D.getD (i+1) 0*2^(64-l))%18446744073709551616)=mQ (D.getD i 0) (D.getD (i+1) 0) l:=
    Eo (64-l) _ _ f' k5 f' k4.1 k4.2 f'
   refine an (Fi (show(i:Int)<D.length from f') hz ao (show(0:Int)<l from f') (show(i:Int)+1+q<A.length from f') tn hg hy a5 a4 a0 ax) ?_;exact⟨⟨(i+1,_),af⟩,Le.mk ax,N'⟩
  .have he:mQ (D.getD i 0) (D.getD (i+1) 0) l=D.getD i 0/2^l:=by
    unfold mQ
    by_cases h0:l=0
    .subst h0
     rw[show(2:Int)^(64-0)=18446744073709551616 from rfl,Cf,vt]
    .have:D.getD (i+1) 0=0:=by rw[cF,iT f'];rfl
     rw[this,xw];simp
   rw[he]at af
   by_cases h0:0<l
   .refine an (A5 (show(i:Int)<D.length from f') hz ao (show(0:Int)<l from f') (show¬(i:Int)+1+q<A.length from f')) ?_
    exact⟨⟨(i+1,_),af⟩,Le.mk a0b,N'⟩
   .refine an (A4 (show(i:Int)<D.length from f') hz ao (show¬(0:Int)<l from f')) ?_
    exact⟨⟨(i+1,_),af⟩,Le.mk a0b,N'⟩
 .have ay:i=D.length:=by have:=hI.hi;omega
  subst ay;have a3:out.take D.length=out:=gG f';have bd:Lm out:=⟨hI.hd,f'⟩;have a1:nb out=nb A/2^s:=by
   rw[hI.done,hD,Ij hA.1 f',aw,Es,FI]
  refine an (A3 (show¬(D.length:Int)<D.length from f') a3 a1) ?_;exact aO.mk a0b rfl
end Go.Hl
