/- Lemmas for TopSound and TopBracket. -/
import Derived.Test.YtpgglolpkbepjaaGreatTAK
set_option linter.unusedVariables false
set_option linter.unusedSimpArgs false
namespace Go.Hl
open Go.Proofs.Tryz
open Go.Proofs.Tryz renaming prog→a0c
open Option renaming some→T',none→Y'
open Bool renaming true→Z',false→a0a
open Go Go.RowKit Go.Proofs
set_option maxHeartbeats 4000000
theorem Dl{xs:List Int}(h:aR ak xs){n v:Nat}(hl:xs.length=n)(hv:nb xs=v):xs=gq ak n v:=by
 subst hl;subst hv;exact MZ h
@[push_cast] def aeQ:Sp:=I7 2 (λu v g=>aR ak u/\aR ak v/\u.length=v.length+1/\v.length<1000000000/\0<=g/\g<18446744073709551616)
 (λu v g=>.aU [decide (nb u<g.toNat*nb v),gq ak (v.length+1) (nb u+(if nb u<g.toNat*nb v then ak^(v.length+1)else 0)-g.toNat*nb v)])
theorem afH:aj a0c 180 aeQ:=by
 refine aj.Tk λu v g⟨hu,hv,hl,hvl,hg0,hg1⟩=>?_
 have hE:=G3 (bh.cons CH (bh.cons Ih (bh.cons RC dC)));refine nU.body hE func180 ntmps180 results180 (by rw[sW,hl]) ?_;rw[hl];refine aK ?_;refine ai.loop (ι:={p:Nat×List Int×Int×Int // xO u v p.2.1 g p.1 p.2.2.1 p.2.2.2}) (λp=>⟨[(0,.os 67 1 0 (v.length+1)),(1,v),(2,.r (.int .u64 g)),(7,.r (.int .u64 p.1.2.2.1)),(8,.r (.int .u64 p.1.2.2.2)),(14,v),(15,.r (.int .i64 (v.length:Nat))),(16,.r (.int .i64 (p.1.1:Nat)))],[(67,⟨Z',.n .u64 p.1.2.1⟩)]⟩)
  (λp=>v.length-p.1.1) ⟨(0,u,0,0),N',hl,hu,N',N',by simp[nb,nv]⟩ (Le.mk a0b) ?_
 rintro⟨⟨i,w,b,c⟩,hI⟩;dsimp only at hI|-;have a1:=hI.hl;have hb:=hI.hb;have hc:=hI.hc;have h1:=de hv i;have h2:=de hI.hd i
 by_cases hi:i<v.length
 .obtain⟨m1,m2,m3⟩:=OP h1 ⟨hg0,hg1⟩ hc
  have af:=hI.step hv ⟨hg0,hg1⟩ hi rfl rfl;have hp:=mL (M:=18446744073709551615) (N:=18446744073709551615) h1.1 hg0 f' f';unfold tE at m1 m2 af;unfold yN at m1 m3 af;obtain⟨b',ao⟩:∃b':Int,(if w.getD i 0<(v.getD i 0*g%18446744073709551616+c)%18446744073709551616+b then 1 else 0)=b':=⟨_,rfl⟩;obtain⟨c',aw⟩:∃c':Int,v.getD i 0*g/18446744073709551616+(v.getD i 0*g%18446744073709551616+c)/18446744073709551616=c':=⟨_,rfl⟩;obtain⟨w',ax⟩:∃w':List Int,w.set i ((w.getD i 0-(v.getD i 0*g%18446744073709551616+c)%18446744073709551616-b)%18446744073709551616)=w':=⟨_,rfl⟩;rw[ao,aw,ax]at af;refine an (A4 (show(i:Int)<v.length from f') ao aw ax) ?_;exact⟨⟨(i+1,w',b',c'),af⟩,Le.mk a0b,N'⟩
 .have ay:i=v.length:=by have:=hI.hi;omega
  subst ay;obtain⟨d1,d2,d3⟩:=hI.done rfl;have a0:=qL d2 (FM d1)
  by_cases hb2:w.getD v.length 0<c+b
  .rw[au hb2,pk]at d3
   have ab:nb u<g.toNat*nb v:=f';refine an (A2 (show¬(v.length:Int)<v.length from f') hb2) ?_;refine sG.mk a0b ?_ ?_
   .rw[fu ab]
   .exact Dl d2 d1 (by rw[au ab];omega)
  .rw[aq hb2,uh]at d3
   have ab:¬nb u<g.toNat*nb v:=f';refine an (A2 (show¬(v.length:Int)<v.length from f') hb2) ?_;refine sG.mk a0b ?_ ?_
   .rw[lG ab]
   .exact Dl d2 d1 (by rw[aq ab];omega)
@[push_cast] def adU:Sp:=pT 2 (λu v=>aR ak u/\aR ak v/\u.length=v.length+1/\v.length<1000000000)
 (λu v=>.aU [.aU [],gq ak (v.length+1) ((nb u+nb v)%ak^(v.length+1))])
theorem Yx:aj a0c 181 adU:=by
 refine aj.Ks λu v⟨hu,hv,hl,hvl⟩=>?_
 have hE:=G3 (bh.cons CH dC);refine nU.body hE func181 ntmps181 (rs:=[]) rfl (by rw[sW,hl]) ?_;rw[hl];refine aK ?_;refine ai.loop (ι:={p:Nat×List Int×Int // xv u v p.2.1 p.1 p.2.2}) (λp=>⟨[(0,.os 36 1 0 (v.length+1)),(1,v),(4,.r (.int .u64 p.1.2.2)),(7,v),(8,.r (.int .i64 (v.length:Nat))),(9,.r (.int .i64 (p.1.1:Nat)))],[(36,⟨Z',.n .u64 p.1.2.1⟩)]⟩)
  (λp=>v.length-p.1.1) ⟨(0,u,0),N',hl,hu,N',by simp[nb,nv]⟩ (Le.mk a0b) ?_
 rintro⟨⟨i,w,c⟩,hI⟩;dsimp only at hI|-;have ax:=hI.hl;have hc:=hI.hc;have h1:=de hv i;have h2:=de hI.hd i
 by_cases hi:i<v.length
 .have ao:=hI.step hv hi rfl rfl
  refine an (show(i:Int)<v.length from f') ?_;exact⟨⟨(i+1,_,_),ao⟩,Le.mk a0b,N'⟩
 .have ab:i=v.length:=by have:=hI.hi;omega
  subst ab;obtain⟨d1,d2,d3⟩:=hI.done rfl;have aw:IntKind.u64.wrap (w.getD v.length 0+c)=(w.getD v.length 0+c)%18446744073709551616:=eP _;refine an (A2 (show¬(v.length:Int)<v.length from f') aw) ?_;have af:=qL d2 (FM d1);refine sG.mk a0b rfl ?_;refine Dl d2 d1 ?_;rw[<-d3,Kt,sD af]
end Go.Hl
