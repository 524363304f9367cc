/- Lemmas for TopSound and TopBracket. -/
import Derived.Test.YtpgglolpkbepjaaGreatTBC
import Derived.Test.YtpgglolpkbepjaaGreatTAU
set_option linter.unusedVariables false
set_option linter.unusedSimpArgs false
namespace Go.Hl
open Go.Proofs.Tryz
open Go.Proofs.Tryz renaming prog→a0c
open Option renaming some→T',none→Y'
open Bool renaming true→Z',false→a0a
open Go Go.RowKit Go.Proofs
set_option maxHeartbeats 8000000
set_option maxRecDepth 100000
theorem VX:aj a0c 242 adn:=by
 refine sz λargs hp=>?_
 split at hp;rotate_left;cases hp;rename_i u b x e c y d z w;obtain⟨hu,af,ab⟩:=hp;obtain⟨W,rfl⟩:=fI (show 0<=w by have:=ab.2.2.2;omega);rw[dD];have ao:0<=u/\u<=1:=f';exact VY (p:=(fZ W (xX W (yD (zv b x) e))+u)%2) f' ao af ab rfl
theorem aaX{q:Nat}{s t A B:Int}(h0:0<=s)(h1:s<=t)(hA:0<A)(ab:A<=B):
 kC (dq 239 q s A) (dq 239 q s B) (dq 239 q t A) (dq 239 q t B)=s*2^q/B/\kD (dq 240 q s A) (dq 240 q s B) (dq 240 q t A) (dq 240 q t B)=iI (t*2^q) A/\s*2^q/B<=iI (t*2^q) A:=by
 have hq:=cf q;have hB:0<B:=f';have d9:∀x y:Int,0<y->dq 239 q x y=x*2^q/y:=λx y hy=>by unfold dq;rw[au rfl,dD,lW _ (bo hy)]
 have d0:∀x y:Int,dq 240 q x y=iI (x*2^q) y:=λx y=>by unfold dq;rw[aq p',dD];rfl
 rw[d9 _ _ hA,d9 _ _ hB,d9 _ _ hA,d9 _ _ hB,d0,d0,d0,d0];have x0:0<=s*2^q:=dP h0 (bo hq);have xy:s*2^q<=t*2^q:=gj h1 (bo hq);generalize s*2^q=x at*;generalize t*2^q=y at*;have y0:0<=y:=f';have dA:∀z:Int,0<=z->z/B<=z/A:=λz hz=>by
  refine J2 hA ?_;have:=jk ab (jv hz (bo hB));have:=(ke (a:=z) hB).1;omega
 have m1:=Int.ediv_le_ediv hB xy;have m2:=dA x x0;have m3:=dA y y0;have un:∀z d:Int,0<=z->0<d->0<=iI z d:=λz d hz hd=>by
  have:=(oO (a:=z) hd).1;rcases qc (iI z d) 0 with h|h
  .have:=Int.mul_neg_of_neg_of_pos h hd;omega
  .exact h
 have uB:∀z:Int,0<=z->iI z B<=iI z A:=λz hz=>by
  have a:=(oO (a:=z) hB).2;have b:=(oO (a:=z) hA).1;have c:=jk ab (un z A hz hA);have:=lX (Fw a (nO b c)) (bo hB);omega
 have af:iI x A<=iI y A:=by
  have a:=(oO (a:=x) hA).2;have b:=(oO (a:=y) hA).1;have:=lX (Fw a (nO xy b)) (bo hA);omega
 have u1:=uB x x0;have u2:=uB y y0;have lu:x/B<=iI y A:=by
  have a:=(ke (a:=x) hB).1;have b:=(oO (a:=y) hA).1;have c:=jk ab (un y A y0 hA);exact Fu (show x/B*B<=iI y A*B from f') hB
 refine⟨?_,?_,lu⟩
 .unfold kC ko;repeat' split<;>omega
 .unfold kD kp;repeat' split<;>omega
@[push_cast] def adm:Sp where
 kind:=0
 pre
  |[.agg [],.agg [.r (.bool b),.ns .u64 x,.r (.int .i64 e)],.agg [.r (.bool c),.ns .u64 y,.r (.bool d),.ns .u64 z,.r (.int .i64 w)]]=>DX b x e/\LX c y d z w
  |_=>False
 res
  |[.agg [],.agg [.r (.bool b),.ns .u64 x,.r (.int .i64 e)],.agg [.r (.bool c),.ns .u64 y,.r (.bool d),.ns .u64 z,.r (.int .i64 w)]]=>
   .aU [ba (qm w.toNat (xM w.toNat (yD (zv b x) e)) (xE (yD (zv b x) e))).1 (qm w.toNat (xM w.toNat (yD (zv b x) e)) (xE (yD (zv b x) e))).2 w,(0:Int)]
  |_=>.any
theorem VV:aj a0c 241 adm:=by
 refine sz λargs hp=>?_
 split at hp;rotate_left;cases hp;rename_i b x e c y d z w;obtain⟨a0,a1⟩:=hp;obtain⟨⟨hx,a4⟩,hm,⟨e1,e2⟩,hY⟩:=id a0;obtain⟨⟨⟨hy,a5⟩,⟨hz,a6⟩⟩,ab,af,w1,w2⟩:=a1;have hE:=yk PS MY M6 AG G4;obtain⟨W,rfl⟩:=fI (show 0<=w from f');rw[dD]at ab af|-;have mb:=tC (w:=W) (sS (e:=e) hm e1 (w:=W) f').2 hY f';obtain⟨-,M1,M2,x1,x2⟩:=mb;obtain⟨D,hD⟩:=nm (xE (yD (zv b x) e));obtain⟨M,hM⟩:=nm (xM W (yD (zv b x) e));rw[hD]at x1 x2;rw[hM]at M1 M2;rw[hD,hM];have sr:=I3 (w:=W) (M:=M) f' f' M1 M2;have lint:=pK (w:=W) f';have hq:=cf W;obtain⟨A,eA⟩:=nm ((bq W).1);obtain⟨B,eB⟩:=nm ((bq W).2);have ea:qm W M D=((fN W M).1*2^W/B+jJ (1*2^W) (1*2^W) D,iI ((fN W M).2*2^W) A+jI (1*2^W) (1*2^W) D):=by
  unfold qm B5;rw[LY,eA,eB]
 rw[eA]at ab lint;rw[eB]at af lint;rw[ea];have a3:(65536:Int)<=2^W:=jf (s:=16) f' p';have hA:0<A:=f';obtain⟨U,hU⟩:=nm ((fN W M).1);obtain⟨V,hV⟩:=nm ((fN W M).2);rw[hU,hV]at sr|-;have mm:=aaX (q:=W) sr.1 sr.2.1 hA lint.1;obtain⟨m1,m2,m3⟩:=mm;have bU:Bz (W+2) U:=gP (n:=W+1) f' (by rw[jw];omega);have bV:Bz (W+2) V:=gP (n:=W+1) f' (by rw[jw];omega);have bP:Bz (W+2+W) (U*2^W/B):=(bU.shl W).div;have bQ:Bz (W+2+W) (iI (V*2^W) A):=by
  unfold iI;rw[lW _ (bo hA)];exact((bV.shl W).neg.div).neg
 obtain⟨O,hO⟩:∃O:Int,1*2^W=O:=⟨_,rfl⟩;have bO:Bz (W+1) O:=gP (n:=W) f' f';have bD:Bz 8 D:=Bz.small f' f';rw[hO];obtain⟨z1,z2⟩:=LV bO bO bD;have aw:=LU (k:=D) (gu O);obtain⟨T1,ax⟩:=nm (jJ O O D);obtain⟨T2,ay⟩:=nm (jI O O D);rw[ax]at z1 aw|-;rw[ay]at z2 aw|-;obtain⟨L,hL⟩:=nm (U*2^W/B);obtain⟨H,hH⟩:=nm (iI (V*2^W) A);rw[hL]at m1 m3 bP|-;rw[hH]at m2 m3 bQ|-;have ao:∀{k:Nat}{p r:Int},k<=3000->Bz k p->Bz k r->p<=r->dp (decide (p<0)) (dg p.natAbs) (decide (r<0)) (dg r.natAbs) (W:Int):=λhk hp hr hle=>
  ⟨hp.dB f',hr.dB f',by rw[cI,cI];exact hle,f',f'⟩
 have k1:=ao f' bU bV sr.2.1;have k2:dp c y d z (W:Int):=⟨⟨hy,f'⟩,⟨hz,f'⟩,by rw[ab,af];exact lint.1,f',f'⟩;have k3:=ao f' bP bQ m3;have k4:=ao f' bO bO (gu _);have k5:=ao f' z1 z2 aw;have tn:((W:Int)).toNat=W:=dD W;obtain⟨S,hS⟩:=nm (L+T1);obtain⟨Z,hZ⟩:=nm (H+T2);rw[hS,hZ];refine dh.wU func241 rfl p' ?_;refine aA.body hE func241 ntmps241 results241 (λen=>?_);refine aa.bG ?_;refine GL.box (C:=[]) rfl rfl rfl p' rfl (λbk=>?_);refine GL.gB 4 hE rfl rfl ?_;simp only[fy,eD,fS,fe];refine aK ?_;refine GL.nil ?_;refine aa.bG ?_;refine GL.agP rfl rfl rfl p' rfl I' underlying161 rfl (NO type159) rfl rfl rfl ?_;refine GL.agS rfl rfl rfl p' rfl underlying159 rfl (NO type159) rfl ?_;refine GL.gB 11 hE rfl rfl ?_;simp only[fy,eD,fS,fe];refine an (A5 tn hM hD hU hV) ?_;refine GL.nil ?_;refine aa.of (T:=ag a0a) ?_;refine aG [(8,8),(5,5),(6,6)] [] [(23,3,5),(24,4,5)] (vm ab af m1 m2 tn hO ax ay hS hZ) ?_;refine dM.of rfl (aO.mk a0b ?_)
 rfl
end Go.Hl
