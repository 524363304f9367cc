/- Lemmas for TopSound and TopBracket. -/
import Derived.Test.YtpgglolpkbepjaaGreatTAM
import Derived.Test.YtpgglolpkbepjaaGreatTAN
set_option linter.unusedVariables false
set_option linter.unusedSimpArgs false
namespace Go.Hl
open Go.Proofs.Tryz
open Go.Proofs.Tryz renaming prog→a0c
open Option renaming some→T',none→Y'
open Bool renaming true→Z',false→a0a
open Go Go.RowKit Go.Proofs
set_option maxHeartbeats 4000000
@[push_cast] def ady:Sp:=pT 2 (λu v=>kI u v/\v.length<1000000000) (λu v=>.aU [.r (.int .u64 ((nb u/nb v:Nat):Int)),gq ak (v.length+1) (nb u%nb v)])
theorem kI.vlt{u v:List Int}(h:kI u v):nb v<ak^v.length:=qL h.hv (aM _)
theorem Wa:aj a0c 173 ady:=by
 refine aj.Ks λu v⟨hP,hvl⟩=>?_
 have hE:=G3 (bh.cons MI (bh.cons Ih (bh.cons afH (bh.cons Yx dC))));have hl:=hP.hl;have h2:=hP.h2;have hu:=hP.hu;have hv:=hP.hv;refine nU.body hE func173 ntmps173 results173 (by rw[sW,hl]) ?_;rw[hl];have t1:((v.length:Int)-1).toNat=v.length-1:=f';have t2:((v.length:Int)-2).toNat=v.length-2:=f';have l1:=de hu v.length;have l2:=de hu (v.length-1);have l3:=de hv (v.length-1);have l4:=de hu (v.length-2);have l5:=de hv (v.length-2);refine aK ?_;refine ai.join (ι:={g:Int // (0<=g/\g<18446744073709551616)/\nb u/nb v<=g.toNat/\g.toNat<=nb u/nb v+2}) (λg=>⟨[(0,.os 110 1 0 (v.length+1)),(1,v),(5,.r (.int .i64 (v.length:Nat))),(6,.r (.int .u64 g.1))],[(110,⟨Z',.n .u64 u⟩)]⟩) ?_ ?_
 .refine ai.test a0b (λh=>?_) (λh=>?_)
  .have bt:=js h
   have ab:=vq.start hP bt;have bA:=sd (u.getD v.length 0*18446744073709551616+u.getD (v.length-1) 0) (show 0<v.getD (v.length-1) 0 from f');obtain⟨g0,a0⟩:=nm ((u.getD v.length 0*18446744073709551616+u.getD (v.length-1) 0)/v.getD (v.length-1) 0);obtain⟨r0,aw⟩:=nm ((u.getD v.length 0*18446744073709551616+u.getD (v.length-1) 0)%v.getD (v.length-1) 0);rw[a0,aw]at ab;rw[aw]at bA;refine an (A2 a0 aw) ?_;refine ai.HQ (ι:={g:Int // (0<=g/\g<18446744073709551616)/\nb u/nb v<=g.toNat/\g.toNat<=nb u/nb v+2}) (λg=>⟨[(0,.os 110 1 0 (v.length+1)),(1,v),(5,.r (.int .i64 (v.length:Nat))),(7,.r (.int .u64 g.1))],[(110,⟨Z',.n .u64 u⟩)]⟩) ?_ ?_
   .refine ai.loop (ι:={p:Int×Int // vq u v p.1 p.2/\p.2<18446744073709551616}) (λp=>⟨[(0,.os 110 1 0 (v.length+1)),(1,v),(5,.r (.int .i64 (v.length:Nat))),(7,.r (.int .u64 p.1.1)),(8,.r (.int .u64 p.1.2))],[(110,⟨Z',.n .u64 u⟩)]⟩) (λp=>p.1.1.toNat) ⟨(g0,r0),ab,N'⟩ (Le.mk a0b) ?_
    clear a0 aw ab bA bt h g0 r0;rintro⟨⟨g,r⟩,hG,hr⟩;dsimp only at hG hr|-;have hg:=hG.hg;have aw:=hG.hr;have he:=hG.he;have hm:=mL (M:=18446744073709551615) (N:=18446744073709551615) hg.1 l5.1 f' f';have bx:(0<=g/\g<18446744073709551616)/\nb u/nb v<=g.toNat/\g.toNat<=nb u/nb v+2:=⟨hg,hG.hq,hP.DN hg f'⟩
    by_cases c1:g*v.getD (v.length-2) 0/18446744073709551616<r
    .refine an (A2 t2 c1) ?_
     exact⟨⟨g,bx⟩,Le.mk a0b⟩
    by_cases c2:g*v.getD (v.length-2) 0/18446744073709551616=r
    .by_cases c3:g*v.getD (v.length-2) 0%18446744073709551616<=u.getD (v.length-2) 0
     .have e2:(g*v.getD (v.length-2) 0/18446744073709551616==r)=true:=by rw[c2];exact beq_self_eq_true _
      refine an (A4 c1 e2 t2 c3) ?_;exact⟨⟨g,bx⟩,Le.mk a0b⟩
     .have e2:(g*v.getD (v.length-2) 0/18446744073709551616==r)=true:=by rw[c2];exact beq_self_eq_true _
      have a1:r*18446744073709551616+u.getD (v.length-2) 0<g*v.getD (v.length-2) 0:=f';have ab:=hG.step hP hr a1;have a5:=ab.hg;have a6:=hP.DN ab.hg (by have:=ab.he;have:=ab.hr;omega)
      by_cases c4:r+v.getD (v.length-1) 0<18446744073709551616
      .refine an (A6 c1 e2 t2 c3 t1 (show¬r+v.getD (v.length-1) 0<r from f')) ?_
       exact⟨⟨(g-1,r+v.getD (v.length-1) 0),ab,c4⟩,Le.mk a0b,N'⟩
      .have bb:IntKind.u64.wrap (r+v.getD (v.length-1) 0)=r+v.getD (v.length-1) 0-18446744073709551616:=by rw[eP];omega
       refine an (A7 c1 e2 t2 c3 t1 bb (show r+v.getD (v.length-1) 0-18446744073709551616<r from f')) ?_;exact⟨⟨g-1,a5,ab.hq,a6⟩,Le.mk a0b⟩
    .have e2:(g*v.getD (v.length-2) 0/18446744073709551616==r)=false:=by rw[mH];exact c2
     have a1:r*18446744073709551616+u.getD (v.length-2) 0<g*v.getD (v.length-2) 0:=f';have ab:=hG.step hP hr a1;have a5:=ab.hg;have a6:=hP.DN ab.hg (by have:=ab.he;have:=ab.hr;omega)
     by_cases c4:r+v.getD (v.length-1) 0<18446744073709551616
     .refine an (A5 c1 e2 t2 t1 (show¬r+v.getD (v.length-1) 0<r from f')) ?_
      exact⟨⟨(g-1,r+v.getD (v.length-1) 0),ab,c4⟩,Le.mk a0b,N'⟩
     .have bb:IntKind.u64.wrap (r+v.getD (v.length-1) 0)=r+v.getD (v.length-1) 0-18446744073709551616:=by rw[eP];omega
      refine an (A6 c1 e2 t2 t1 bb (show r+v.getD (v.length-1) 0-18446744073709551616<r from f')) ?_;exact⟨⟨g-1,a5,ab.hq,a6⟩,Le.mk a0b⟩
   .rintro⟨g,hg⟩
    dsimp only;refine aK ?_;exact⟨⟨g,hg⟩,Le.mk a0b⟩
  .have eJ:=rK h
   obtain⟨m1,m2⟩:=hP.max eJ;refine aK ?_;exact⟨⟨18446744073709551615,p',m1,m2⟩,Le.mk a0b⟩
 rintro⟨g,hg,ao,af⟩;dsimp only;obtain⟨M,hM⟩:=nm (ak^(v.length+1));obtain⟨V,hV⟩:=nm (nb v);obtain⟨U,hU⟩:=nm (nb u);obtain⟨Q,hQ⟩:=nm (U/V);obtain⟨R,hR⟩:=nm (U%V);have ay:=hP.pos;have bE:=hP.vlt;have bc:nb u<ak^(v.length+1):=qL hu f';have bB:ak^(v.length+1)=ak^v.length*18446744073709551616:=rfl;have ax:=hP.div_lt;have bd:=vD U V;have bD:=ph U (show 0<V from f');rw[hM]at bc bB;rw[hV]at ay bE ao af ax;rw[hU]at bc ao af ax;rw[hQ]at ao af ax bd;rw[hR]at bd bD;obtain⟨g,rfl⟩:=fI hg.1;rw[dD]at ao af;rw[hU,hV,hQ,hR];have bw:∀n,n<M->nb (gq ak (v.length+1) n)=n:=λn hn=>Eg p' _ _ (by rw[hM];exact hn)
 have br:∀n,aR ak (gq ak (v.length+1) n):=λn=>Bf p' _ _
 by_cases hc:U<g*V
 .obtain⟨n1,bH⟩:=nm (U+M-g*V)
  have bQ:g*V<=U+2*V:=by
   have:g*V<=(Q+2)*V:=jD _ af;rw[pg,iw Q]at this;omega
  have bu:n1<M:=f';have e1:n1+g*V=U+M:=f';obtain⟨n2,a3⟩:=nm ((n1+V)%M);have bK:n2<M:=by rw[<-a3];exact ph _ f'
  have e2:n2+M*((n1+V)/M)=n1+V:=by rw[<-a3,Kz]
  have hk:(n1+V)/M<=1:=by
   refine Nat.le_of_lt_succ ((FK f').2 ?_);omega
  have key:=afF e1 ay hQ.symm af bu e2 hk bK;rw[hR]at key;have bM:=bw n1 bu;have bR:=br n1;have bP:=sW ak (v.length+1) n1;obtain⟨g',rfl⟩:∃g',g=g'+1:=⟨g-1,f'⟩;have bO:U<(g'+1)*V:=hc;refine an (A7 hM hV hU (eq_true hc) bH bM a3) ?_;refine ai.loop (ι:={p:Nat×Nat // (p.1=Q/\p.2=R)\/(p.1=Q+1/\p.2+V=M+R)}) (λp=>⟨[(0,.os 110 1 0 (v.length+1)),(1,v),(5,.r (.int .i64 (v.length:Nat))),(6,.r (.int .u64 (p.1.1:Nat)))],[(110,⟨Z',.n .u64 (gq ak (v.length+1) p.1.2)⟩)]⟩) (λp=>p.1.1) ⟨(g',n2),N'⟩ (Le.mk a0b) ?_;rintro⟨⟨q,n⟩,bz⟩;dsimp only at bz|-;have bL:n<M:=f';have a4:=bw n bL;have bs:=br n;have bm:(gq ak (v.length+1) n).length=v.length+1:=sW ..;rcases bz with⟨rfl,rfl⟩|⟨rfl,hn⟩
  .have a7:=ag8 bs bm (by rw[a4];omega)
   refine an a7 ?_;refine sG.mk a0b rfl rfl
  .have a7:=ag7 bs bm (by rw[a4];omega)
   have bN:(n+V)%M=R:=by rw[hn,Nat.add_mod_left,sD f']
   refine an (A5 a7 hM hV a4 bN) ?_;exact⟨⟨(Q,R),.inl ⟨rfl,rfl⟩⟩,Le.mk a0b,N'⟩
 .obtain⟨bF,bn⟩:=afE (n1:=U-g*V) f' ay hQ.symm ao
  rw[hR]at bn;refine an (A5 hM hV hU (eq_false hc) bn) ?_;refine sG.mk a0b ?_ rfl;rw[bF]
end Go.Hl
