/- Lemmas for TopSound and TopBracket. -/
import Derived.Test.YtpgglolpkbepjaaGreatTAK
set_option linter.unusedVariables false
set_option linter.unusedSimpArgs false
namespace Go.Hl
open Go.Proofs.Tryz
open Go.Proofs.Tryz renaming prog→a0c
open Option renaming some→T',none→Y'
open Bool renaming true→Z',false→a0a
open Go Go.RowKit Go.Proofs
set_option maxHeartbeats 4000000
@[push_cast] def adz:Sp:=EM 0 (λh l y=>0<=h/\h<y/\(0<=l/\l<18446744073709551616)/\y<18446744073709551616)
 (λh l y=>.aU [.r (.int .u64 ((h*18446744073709551616+l)/y)),.r (.int .u64 ((h*18446744073709551616+l)%y))])
theorem Pc{y:Nat}(h0:0<y)(h:y<2^64):9223372036854775808<=y*2^(64-bJ y)/\y*2^(64-bJ y)<18446744073709551616/\64-bJ y<=63:=by
 have h1:=(ku y (bJ y)).1 (aM _);have hb:bJ y<=64:=(ku y 64).2 h;have ab:bJ y≠0:=λe=>by rw[Gp]at e;omega
 have h2:¬y<2^(bJ y-1):=λh'=>by have:=(ku y (bJ y-1)).2 h';omega
 have e1:2^bJ y*2^(64-bJ y)=18446744073709551616:=by rw[<-mD,show bJ y+(64-bJ y)=64 from f']
 have e2:2^(bJ y-1)*2^(64-bJ y)=9223372036854775808:=by rw[<-mD,show bJ y-1+(64-bJ y)=63 from f']
 refine⟨?_,?_,f'⟩
 .rw[<-e2];exact jD _ f'
 .rw[<-e1];exact zT h1 (l7 _)
theorem MI:aj a0c 171 adz:=by
 refine aj.FZ λh l y⟨hh,hy,hl,hy2⟩=>?_
 have hE:=di Oq;refine aB func171 ntmps171 ?_;have bO:(y==0)=false:=by rw[mH];omega
 have hle:¬y<=h:=f'
 by_cases h0:h=0
 .subst h0
  have b0:y≠0:=f';have d1:0<=l/y:=jv hl.1 f';have d2:l/y<=l:=Int.ediv_le_self _ hl.1;refine an (A3 bO hle b0) ?_;refine aO.mk a0b ?_;simp only[xw,Int.zero_add]
 have bT:(h==0)=false:=by rw[mH];omega
 obtain⟨Y,rfl⟩:=fI (show 0<=y from f');obtain⟨n1,n2,n3⟩:=Pc (y:=Y) f' f';obtain⟨s,hs⟩:=nm (64-bJ Y);rw[hs]at n1 n2 n3;obtain⟨z,hz⟩:∃z:Int,z=(Y:Int)*2^s:=⟨_,rfl⟩;have bP:9223372036854775808<=z/\z<18446744073709551616:=by
  have:((Y*2^s:Nat):Int)=z:=by rw[hz,se,kJ];rfl
  omega
 obtain⟨t1,t2,t3⟩:=We (hi:=h) (lo:=l) (s:=s) f' hl;have hp:(0:Int)<2^s:=jl p';have hq:(0:Int)<=2^(64-s):=bo (jl p');have b3:(2:Int)^s<=18446744073709551616:=by
  have e:=Er (r:=s) f';have h1:(1:Int)<=2^(64-s):=jl p';have:=jk h1 (bo hp);omega
 have bR:0<=h*2^s/\h*2^s+2^s<=z:=by
  refine⟨dP hh f',?_⟩;have:(h+1)*2^s<=(Y:Int)*2^s:=gj f' f';rw[nN,nR]at this;omega
 have tn:((64:Int)-(s:Int)).toNat=64-s:=f';have bz:IntKind.u64.wrap ((Y:Int)*2^s)=z:=by rw[<-hz];exact zz f' f'
 have a5:bits .or .u64 (h*2^s) (l/2^(64-s))=h*2^s+l/2^(64-s):=
  IA s _ _ bR.1 (Cf _ _) f' t2 t3 f'
 have a7:IntKind.u64.wrap (l*2^s)=(l*2^s)%18446744073709551616:=eP _;obtain⟨u1,bN⟩:=nm (h*2^s+l/2^(64-s));obtain⟨u0,bM⟩:=nm ((l*2^s)%18446744073709551616);rw[bN,bM]at t1;rw[bN]at a5;rw[bM]at a7;have b4:0<=u0/\u0<18446744073709551616:=f';obtain⟨z1,bB⟩:=nm (z/4294967296);obtain⟨z0,bA⟩:=nm (z%4294967296);obtain⟨a,ha⟩:=nm (u0/4294967296);obtain⟨b,hb⟩:=nm (u0%4294967296);have hP:lV z z1 z0 u1 a:=⟨f',f',f',f',f'⟩;refine aT ?_;obtain⟨ao,bd⟩:=mA.start hP;obtain⟨qa,a1⟩:=nm (u1/z1);obtain⟨ra,br⟩:=nm (u1%z1);rw[a1,br]at ao;rw[a1]at bd;have bm:=ao.hq;have bL:=ao.hr;have bF:=ao.he;have bu:u1-qa*z1=ra:=f';have b6:=hP.h1;have bH:=dP bm (show 0<=z1 from f');have aw:=hP.h0;have bQ:z1≠0:=f';have b5:=hP.hn;refine an (JP bO hle bT hs bz tn a5 a7 bB bA ha hb a1 bu bQ) ?_;refine ai.HQ (ι:={q:Int // q=(u1*4294967296+a)/z}) (λq=>⟨[(2,.r (.int .u64 z)),(8,.r (.int .u64 (s:Nat))),(9,.r (.int .u64 z1)),(10,.r (.int .u64 z0)),(11,.r (.int .u64 u1)),(13,.r (.int .u64 a)),(14,.r (.int .u64 b)),(15,.r (.int .u64 q.1))],[]⟩) ?_ ?_
 .refine ai.loop (ι:={p:Int×Int // mA z z1 u1 a p.1 p.2}) (λp=>⟨[(2,.r (.int .u64 z)),(8,.r (.int .u64 (s:Nat))),(9,.r (.int .u64 z1)),(10,.r (.int .u64 z0)),(11,.r (.int .u64 u1)),(13,.r (.int .u64 a)),(14,.r (.int .u64 b)),(15,.r (.int .u64 p.1.1)),(16,.r (.int .u64 p.1.2))],[]⟩) (λp=>p.1.1.toNat) ⟨(qa,ra),ao⟩ (Le.mk a0b) ?_
  rintro⟨⟨q,r⟩,hI⟩;dsimp only at hI|-;have ab:=hI.hq;have bW:=hI.hr;have uJ:=hI.uJ;have bD:=hP.hd
  by_cases hc:4294967296<=q\/4294967296*r+a<q*z0
  .obtain⟨s1,s2,s3⟩:=hI.step hP hc
   have bU:q<18446744073709551616:=by
    refine lX (a:=z1) ?_ f';have:=hI.he;omega
   by_cases hb2:4294967296<=r+z1
   .have ay:=hI.last hP hc hb2
    by_cases hq32:4294967296<=q
    .refine an (A2 hq32 hb2) ?_
     exact⟨⟨_,ay⟩,Le.mk a0b⟩
    .have hm:=mL (M:=4294967295) (N:=4294967295) ab aw.1 f' f'
     refine an (A3 hq32 (show 4294967296*r+a<q*z0 from f') hb2) ?_;exact⟨⟨_,ay⟩,Le.mk a0b⟩
   .have a0:=hI.next hP hc f'
    by_cases hq32:4294967296<=q
    .refine an (A2 hq32 hb2) ?_
     exact⟨⟨(_,_),a0⟩,Le.mk a0b,N'⟩
    .have hm:=mL (M:=4294967295) (N:=4294967295) ab aw.1 f' f'
     refine an (A3 hq32 (show 4294967296*r+a<q*z0 from f') hb2) ?_;exact⟨⟨(_,_),a0⟩,Le.mk a0b,N'⟩
  .have hm:=mL (M:=4294967295) (N:=4294967295) ab aw.1 f' f'
   have hd:=hI.done hP f';refine an (A2 (show¬4294967296<=q from f') (show¬4294967296*r+a<q*z0 from f')) ?_;exact⟨⟨_,hd⟩,Le.mk a0b⟩
 rintro⟨q1,bc⟩;dsimp only;have bD:=hP.hd;obtain⟨a4,bX⟩:=hP.rest bP.2;have oe:=hP.lt;rw[<-bc]at a4 oe;have e1:q1*z+(u1*4294967296+a)%z=u1*4294967296+a:=by
  have:=pa (u1*4294967296+a) z;rw[<-bc,gD]at this;exact this
 obtain⟨v,hv⟩:=nm ((u1*4294967296+a)%z);rw[hv]at a4 bX e1;have bx:IntKind.u64.wrap (IntKind.u64.wrap (IntKind.u64.wrap (u1*4294967296)+a)-IntKind.u64.wrap (q1*z))=v:=by
  rw[eP,eP,eP,eP];exact a4
 have af:lV z z1 z0 v b:=⟨f',f',f',f',f'⟩;obtain⟨ax,bb⟩:=mA.start af;obtain⟨qb,a3⟩:=nm (v/z1);obtain⟨rb,bs⟩:=nm (v%z1);rw[a3,bs]at ax;rw[a3]at bb;have bn:=ax.hq;have a6:=ax.hr;have bE:=ax.he;have bw:v-qb*z1=rb:=f';have bK:=dP bn (show 0<=z1 from f');refine an (A4 bx a3 bw bQ) ?_;refine ai.HQ (ι:={q:Int // q=(v*4294967296+b)/z}) (λq=>⟨[(2,.r (.int .u64 z)),(8,.r (.int .u64 (s:Nat))),(14,.r (.int .u64 b)),(15,.r (.int .u64 q1)),(17,.r (.int .u64 v)),(18,.r (.int .u64 q.1))],[]⟩) ?_ ?_
 .refine ai.loop (ι:={p:Int×Int // mA z z1 v b p.1 p.2}) (λp=>⟨[(2,.r (.int .u64 z)),(8,.r (.int .u64 (s:Nat))),(9,.r (.int .u64 z1)),(10,.r (.int .u64 z0)),(14,.r (.int .u64 b)),(15,.r (.int .u64 q1)),(16,.r (.int .u64 p.1.2)),(17,.r (.int .u64 v)),(18,.r (.int .u64 p.1.1))],[]⟩) (λp=>p.1.1.toNat) ⟨(qb,rb),ax⟩ (Le.mk a0b) ?_
  clear bx a4 bc oe e1 bz a5 a7 bB bA ha hb a1 bu ao bF br bL bm bd bH bw a3 bs bK bE a6 bn bb;rintro⟨⟨q,r⟩,hI⟩;dsimp only at hI|-;have ab:=hI.hq;have bW:=hI.hr;have uJ:=hI.uJ;have bD:=af.hd
  by_cases hc:4294967296<=q\/4294967296*r+b<q*z0
  .obtain⟨s1,s2,s3⟩:=hI.step af hc
   have bU:q<18446744073709551616:=by
    refine lX (a:=z1) ?_ f';have:=hI.he;omega
   by_cases hb2:4294967296<=r+z1
   .have ay:=hI.last af hc hb2
    by_cases hq32:4294967296<=q
    .refine an (A2 hq32 hb2) ?_
     exact⟨⟨_,ay⟩,Le.mk a0b⟩
    .have hm:=mL (M:=4294967295) (N:=4294967295) ab aw.1 f' f'
     refine an (A3 hq32 (show 4294967296*r+b<q*z0 from f') hb2) ?_;exact⟨⟨_,ay⟩,Le.mk a0b⟩
   .have a0:=hI.next af hc f'
    by_cases hq32:4294967296<=q
    .refine an (A2 hq32 hb2) ?_
     exact⟨⟨(_,_),a0⟩,Le.mk a0b,N'⟩
    .have hm:=mL (M:=4294967295) (N:=4294967295) ab aw.1 f' f'
     refine an (A3 hq32 (show 4294967296*r+b<q*z0 from f') hb2) ?_;exact⟨⟨(_,_),a0⟩,Le.mk a0b,N'⟩
  .have hm:=mL (M:=4294967295) (N:=4294967295) ab aw.1 f' f'
   have hd:=hI.done af f';refine an (A2 (show¬4294967296<=q from f') (show¬4294967296*r+b<q*z0 from f')) ?_;exact⟨⟨_,hd⟩,Le.mk a0b⟩
 rintro⟨q0,ab⟩;dsimp only;have b1:=af.hd;obtain⟨bt,a6⟩:=af.rest bP.2;have bV:=af.lt;rw[<-ab]at bt bV;have e0:q0*z+(v*4294967296+b)%z=v*4294967296+b:=by
  have:=pa (v*4294967296+b) z;rw[<-ab,gD]at this;exact this
 obtain⟨x,hx⟩:=nm ((v*4294967296+b)%z);rw[hx]at bt a6 e0;have bY:IntKind.u64.wrap (IntKind.u64.wrap (IntKind.u64.wrap (v*4294967296)+b)-IntKind.u64.wrap (q0*z))=x:=by
  rw[eP,eP,eP,eP];exact bt
 obtain⟨f1,f2⟩:=Wd (y:=(Y:Int)) hz hp t1 (show u0=a*4294967296+b from f') f' e1 e0 a6;clear bx a4 bz a5 a7 bB bA ha hb a1 bu ao bF br bL bm bd bH bw a3 bs bK bE bn bb;refine an (A2 bY (bo hp)) ?_;refine aO.mk a0b ?_;rw[<-f1,<-f2]
end Go.Hl
