/- Lemmas for TopSound and TopBracket. -/
import Derived.Deep.RegionHeld3
import Derived.Test.YtpgglolpkbepjaaGreatTAX
set_option linter.unusedVariables false
set_option linter.unusedSimpArgs false
namespace Go.Hl
open Go.Proofs.Tryz
open Go.Proofs.Tryz renaming prog→a0c
open Option renaming some→T',none→Y'
open Bool renaming true→Z',false→a0a
open Go Go.RowKit Go.Proofs Go.Shelf
set_option maxHeartbeats 2000000
set_option maxRecDepth 100000
attribute [local go_sem] Oper.semAt_some
def Fc(b off N:Nat)(k:Nat):Array Value:=#[.slice (T' ⟨b,off+512*k,Y'⟩) (min 512 (N-512*k)) (min 512 (N-512*k))]
theorem aah(a:Option Addr)(len cap:Nat)(w:World):
 CallsIn Fence.wide 10 a0c 105 #[.slice a len cap,.int .i64 512] w λe w'=>e=.returned (.func (.func 141) #[] #[.pointer (T' ⟨w.heap.size,0,Y'⟩),.pointer (T' ⟨w.heap.size+1,0,Y'⟩)])/\w'=(w.alloc (.cells #[.slice a len cap] 29)).alloc (.cells #[.int .i64 512] 3):=by
 refine callsIn_of_wp func105 rfl a0b ?_ rfl;simp only[ntmps105,jn,gM,kK,Nat.reduceAdd,Nat.reduceSub,tS,tT,uf,ua,mY,pc]
 gi_wp2
 go_ret
 exact⟨rfl,rfl⟩
theorem Vo(l B1 B2 b off cap N:Nat)(hN:0<N)(hlen:N<=1000000)(hcap:N<=cap)(J Jx:List Nat->World->Prop)(hJd:∀s W,J s W->J s W.drew)
 (hY:∀k W,512*k<N->J (List.range k) W->YieldAt Fence.wide 9 a0c l (Fc b off N k) W λe W'=>
  (e=.returned (.bool Z')/\J (List.range (k+1)) W'/\Kq B1 B2 W W')\/(e=.returned (.bool a0a)/\Jx (List.range (k+1)) W'))
 (W:World) (h1:W.cell? ⟨B1,0,Y'⟩=T' (.slice (T' ⟨b,off,Y'⟩) N cap)) (h2:W.cell? ⟨B2,0,Y'⟩=T' (.int .i64 512)) (h0:J [] W):
 CallsIn Fence.wide 10 a0c 141 #[.func (.yield l) #[] #[],.pointer (T' ⟨B1,0,Y'⟩),.pointer (T' ⟨B2,0,Y'⟩)] W λe W'=>(∃v,e=.returned v)/\
  ((∃ys,ys=List.range ((N+511)/512)/\J ys W')\/(∃pre,(∃k,k<=(N+511)/512/\pre=List.range k)/\Jx pre W')):=by
 refine callsIn_of_wp func141 rfl a0b ?_ rfl;simp only[ntmps141,jn,gM,kK,Nat.reduceAdd,Nat.reduceSub,tS,tT,uf,ua,mY,pc]
 gi_wp2
 gi_loopw [4] (λi wr=>∃k:Nat,512*k<N+512/\i=.int .i64 ((512*k:Nat):Int)/\J (List.range k) wr/\Kq B1 B2 W wr)
  (λi _=>(N+1024-intOf i).toNat)
 case atStart=>exact⟨0,f',J',h0,Kq.refl _ _ _⟩
 case round=>
  obtain⟨k,hk,rfl,hJs,hnx⟩:=hrel;have c1:=hnx.c1.trans h1;have c2:=hnx.c2.trans h2
  by_cases hlt:512*k<N
  .have b0:(0:Int)<=(k:Int):=f'
   have b3:(0:Int)<=512*(k:Int):=f';have b1:512*(k:Int)<=(N:Int):=f';have b2:(N:Int)<=(cap:Int):=f'
   gi_wp2
   refine wpIn_wide.2 ?_
   go_region_held3 (λw'=>w'.cell? ⟨B1,0,Y'⟩=T' (.slice (T' ⟨b,off,Y'⟩) N cap)/\w'.cell? ⟨B2,0,Y'⟩=T' (.int .i64 512)) (go_keep) (fail)
   have hJs:=hJd _ _ hJs;have c1:wr.drew.cell? ⟨B1,0,Y'⟩=T' (.slice (T' ⟨b,off,Y'⟩) N cap):=c1;have c2:wr.drew.cell? ⟨B2,0,Y'⟩=T' (.int .i64 512):=c2;have hnx:Kq B1 B2 W wr.drew:=hnx;obtain⟨fn,tmps,assign,body,hy,hR⟩:=hY k wr.drew hlt hJs;unfold Fc at hy;obtain⟨m,hm⟩:=nm (min 512 (N-512*k));have hm1:0<m/\m<=512/\512*k+m<=N:=f';have hmI:min (512:Int) ((N-512*k:Nat):Int)=(m:Int):=f';rw[hm]at hy;rw[show(512*(k:Int)).toNat=512*k from f',hmI];generalize wr.drew=wd at*
   gi_wp2
   refine hR.mono ?_;rintro e W3 (⟨rfl,hJ3,hk3⟩|⟨rfl,hJx3⟩)
   .have c3:=hk3.c1.trans c1
    have c4:=hk3.c2.trans c2
    gi_wp2
    go_roundw
    case rel=>exact⟨k+1,f',by congr 1,hJ3,hnx.trans hk3⟩
    case measure=>simp only[intOf,iW,zP,Ki,uc,rf]<;>omega
   .gi_wp2
    refine bodyPost_ret (results_none rfl _ _ _) rfl ?_;exact⟨⟨_,rfl⟩,.inr ⟨_,⟨k+1,f',rfl⟩,hJx3⟩⟩
  .have hkN:k=(N+511)/512:=f'
   gi_wp2
   go_end0
   exact⟨⟨_,rfl⟩,.inl ⟨_,by rw[hkN],hJs⟩⟩
theorem Vp(B1 B2 b off cap N:Nat)(hN:0<N)(hlen:N<=1000000)(af:N<=cap)(w:World)(h1:w.cell? ⟨B1,0,Y'⟩=T' (.slice (T' ⟨b,off,Y'⟩) N cap))(h2:w.cell? ⟨B2,0,Y'⟩=T' (.int .i64 512)):
 SeqStopsK Fence.wide 10 a0c 141 #[.pointer (T' ⟨B1,0,Y'⟩),.pointer (T' ⟨B2,0,Y'⟩)] (λk:Nat=>Fc b off N k) (Kq B1 B2) (λys=>ys=List.range ((N+511)/512)) (λpre=>∃k,k<=(N+511)/512/\pre=List.range k) ((N+511)/512) w:=λl J Jx W hW hJ _ hY h0=>by
 have b1:=nW w ⟨B1,0,Y'⟩ h1;have b2:=nW w ⟨B2,0,Y'⟩ h2;have ab:∀k W,512*k<N->J (List.range k) W->YieldAt Fence.wide 9 a0c l (Fc b off N k) W λe W'=>
  (e=.returned (.bool Z')/\J (List.range (k+1)) W'/\Kq B1 B2 W W')\/(e=.returned (.bool a0a)/\Jx (List.range (k+1)) W'):=λk W hk hJ=>by
  have:=hY (List.range k) k W hJ O';rw[xz];exact this
 refine(Vo l B1 B2 b off cap N hN hlen af J Jx (λs W hs=>hJ s W W.drew Y' hs ⟨rfl,rfl,rfl,aM _,λ_ _ _=>rfl⟩ (λr e=>by cases e)) ab W ((hW.cell (p:=⟨B1,0,Y'⟩) b1).trans h1) ((hW.cell (p:=⟨B2,0,Y'⟩) b2).trans h2) h0).mono ?_;rintro e W' ⟨he,⟨ys,rfl,hj⟩|⟨pre,⟨k,hk,rfl⟩,hj⟩⟩
 .exact⟨he,.inl ⟨_,rfl,hj⟩⟩
 .exact⟨he,.inr ⟨_,⟨k,hk,rfl⟩,hj⟩⟩
end Go.Hl
