/- Lemmas for TopSound and TopBracket. -/
import Derived.ProofKit
import Derived.Test.YtpgglolpkbepjaaGreatProg
import Derived.Test.YtpgglolpkbepjaaGreatTAX
import Derived.Test.YtpgglolpkbepjaaGreatTBH
set_option linter.unusedVariables false
set_option linter.unusedSimpArgs false
namespace Go.Hl
open Go.Proofs.Tryz
open Go.Proofs.Tryz renaming prog→a0c
open Option renaming some→T',none→Y'
open Bool renaming true→Z',false→a0a
open Go Go.RowKit Go.Proofs
set_option maxHeartbeats 8000000
set_option maxRecDepth 100000
theorem Md{P:Program}{f:FuncId}{fn:Func}{c:Code}(hf:P.funcs[f]?=T' fn)(hb:fn.body=T' c)(ab:(fn.name== "runtime.NumGoroutine")=a0a){args:List AV}{vs:Array Value}{w:World}{v:Value}
 (h:dh P f args (.r v)) (hl:vs.size=args.length) (hr:∀(j:Nat)(c:AV),args[j]?=T' c->∃v:Value,vs[j]?=T' v/\RI w (λ_=>False) c v):
 Calls P f vs w λe w'=>e=.returned v/\Below w.heap.size w w':=by
 rcases h w (λ_=>False) vs (λ_ h=>h.elim) hl hr with⟨v,h1,_⟩|⟨_,h2⟩
 .rw[pR hf hb ab]at h1
  cases h1
 .refine Fp h2 λe w'⟨v',he,hr',hbel⟩=>?_
  cases hr';exact⟨he,hbel⟩
theorem wf_u64{n:Int}(h:(Lit.int .u64 n).wf=Z'):0<=n/\n<18446744073709551616:=by
 simp[Lit.wf,IntKind.min,IntKind.max,IntKind.signed,IntKind.bits]at h;omega
section
open Go.Shelf
section
variable {a:Act}{Q:Exit->Act->World->Prop}{L:List (Int×List Int)}{b:Nat}{P:Program}{W w:World}
attribute [local go_sem] Oper.semAt_some
theorem Sm{c:Code}(h:c.wp P (λe a w=>e=.normal/\Q e a w) a w):c.wp P Q a w:=wp_mono h (λ_ _ _ h=>h.2)
theorem jO{o:Obj}(h:w.heap[b]?=T' o):b<w.heap.size:=by
 rcases dQ b w.heap.size with h'|h'
 .exact h'
 .simp[qW h']at h
theorem TN{ops:Array Oper}{S:World->Prop}{fuel:Nat}{ab:Array Bool}{o6 o7:Oper}{t:TypeId}{d:Nat}{y:Operand}{Z sv:Array Value}(uJ:Region.ready .any ops ab=[6])(a3:ops[6]?=T' o6)(a5:o6.op=.alloc t)(a0:o6.guard=Y')(aw:o6.dst=T' d)(a7:Region.ready .any ops (ab.setIfInBounds 6 Z')=[7])(a4:ops[7]?=T' o7)(a6:o7.op=.store t (.tmp d) y)(a1:o7.guard=Y')(ax:o7.dst=Y')(bb:Region.ready .any ops ((ab.setIfInBounds 6 Z').setIfInBounds 7 Z')=[])(hz:(zeroValue t).run P w=.ok (.agg Z) w)(ay:d<a.tmps.size)(hy:(a.put (T' d) (.pointer (T' ⟨w.heap.size,0,Y'⟩))).eval y=.agg sv)(hs:Z.size=sv.size)(hi:(P.info? t).map (·.size)=T' sv.size)(h1:∀v∈sv.toList,v.oneCell'=Z')(af:S (w.alloc (.cells Z t)))(ao:S ((w.alloc (.cells Z t)).setRow w.heap.size sv))(h:Q .normal (a.put (T' d) (.pointer (T' ⟨w.heap.size,0,Y'⟩))) ((w.alloc (.cells Z t)).setRow w.heap.size sv)):wpAnyH P .any ops Q S (fuel+2) ab a w:=by
 refine wpAnyH_ready uJ J' (AllReadyH.cons a3 (λK hK=>?_) AllReadyH.nil);rw[au (by simp[Region.wanted,a0])];refine Sl a5 hz (hK.out _ _ af (λ_=>?_));rw[aw];refine wpAnyH_ready a7 J' (AllReadyH.cons a4 (λK hK=>?_) AllReadyH.nil);rw[au (by simp[Region.wanted,a1])];refine wp_store_row (b:=w.heap.size) (t:=t) (old:=Z) (cells:=sv) a6 ?_ hy (World.alloc_heap_new w _) hs hi h1 (hK.out _ _ ao (λ_=>wpAnyH_done bb ?_ _))
 .simp[Act.eval,Act.put,ay]
 .rw[ax];exact h
theorem H6{i:Int}:∀(L:List (Int×List Int)){G:Int->List Int},(G i).length=512->(∀k,(L.getD k w0).2.length=512)->(pM L G i).length=512
 |[],G,hG,_=>hG
 |p::L,G,hG,hL=>by
  have h0:p.2.length=512:=hL 0;show(pM L (λk=>if k=p.1 then p.2 else G k) i).length=512;refine H6 L ?_ (λk=>hL (k+1));split
  .exact h0
  .exact hG
theorem Nl:∀(L:List (Int×List Int))(j t:Nat)(v:Value),(∀k,(L.getD k w0).2.length=512)->j<L.length->(wC (L.getD j w0))[t]?=T' v->(L.flatMap wC)[j*513+t]?=T' v
 |[],j,t,v,_,hj,_=>by simp at hj
 |p::L,j,t,v,hl,hj,hv=>by
  have h0:(wC p).length=513:=by rw[rX];have:p.2.length=512:=hl 0;omega
  rw[zO]
  match j with
  |0=>
   have ht:t<(wC p).length:=(iu.1 hv).1;rw[FQ,du,iK ht];exact hv
  |j+1=>
   rw[jz f',show(j+1)*513+t-(wC p).length=j*513+t from f'];exact Nl L j t v (λk=>hl (k+1)) (by simpa using hj) hv
theorem QC{g:Nat}{cur:Array Value}{j:Nat}(h:W.heap[g]?=T' (.cells cur 196 (0,0)))(ht:cur.toList.take (L.length*513)=L.flatMap wC)(hl:∀k,(L.getD k w0).2.length=512)(hj:j<L.length):W.rangeAt g (j*513) (wC (L.getD j w0)):=by
 intro t v hv;have h1:=Nl L j t v hl hj hv;rw[<-ht,ic]at h1;split at h1
 .rw[cell_of_row W g _ cur _ _ h]
  simpa using h1
 .cases h1
theorem Vr{S:List Int}(hS:S.length=512){B:Nat}(hW:W.heap[B]?=T' (.cells (cM S).toArray 191 (0,0))):Calls a0c 112 #[.slice (T' ⟨B,0,Y'⟩) 512 512] W λe w'=>∃v,e=.returned v/\RI w' (λk=>k<W.heap.size) (.ns .u8 S) v/\Below W.heap.size W w':=by
 obtain⟨k,xs,e,h⟩:=(Vq [.ns .u8 S] (by show S.length<_;omega)).2.1 rfl;have e':AV.ns .u8 S=AV.ns k xs:=e;cases e';have hlen:#[Value.slice (T' ⟨B,0,Y'⟩) 512 512].size=[AV.ns .u8 S].length:=rfl;obtain⟨_,hc⟩:=h W (λ_=>False) #[.slice (T' ⟨B,0,Y'⟩) 512 512] (λ_ h=>h.elim) hlen (λj c hj=>by
  match j,hj with
  |0,hj=>
   cases hj;refine⟨_,rfl,?_⟩;rw[show(512:Nat)=S.length from hS.symm];refine RI.ns .u8 S (T' ⟨B,0,Y'⟩) B 0 S.length (aM _) (λ_=>⟨rfl,λh=>h⟩) (λi x hx=>?_);rw[du,cell_of_row W B i _ _ _ hW];simp[cM,hx])
 refine hc.mono λe w'⟨v,h1,h2,h3⟩=>⟨v,h1,?_,h2⟩
 rcases h3 with⟨b,o,cap,C,e',q1,q2,q3,q4,q5,q6⟩|⟨q1,ad,q2⟩
 .rw[q1]
  refine RI.ns .u8 S _ b o cap q2 (λ_=>⟨rfl,f'⟩) (λi x hx=>?_);rw[cell_of_row w' b _ _ _ _ q5];exact q6 i x hx
 .rw[q1]at hS;simp at hS
theorem abA{m:Nat}{lv:Value}{n i:Int}{es:Array MapEntry}{clock:Nat}{F:List (Int×List Int)}(hb:w.heap[b]?=T' (.cells (ez n m lv) 76 (0,0)))(hm:w.heap[m]?=T' (.map es clock))(hF:kX es.toList F)(h0:0<=i)(hn:i<n)(a0:∀k,(L.getD k w0).2.length=512)(a6:(jd F i).length=512)(hL:w.ownsRow 0 196 513 lv L.length (L.flatMap wC))(bt:L.length<=1000000):
 Calls a0c 69 #[.pointer (T' ⟨b,0,Y'⟩),.int .i64 i] w λe w'=>∃v,e=.returned (.tuple #[v,.int .i64 0])/\RI w' (λk=>k<w.heap.size) (.ns .u8 (pM L (jd F) i)) v/\Below w.heap.size w w':=by
 have mixed:a0c.follows .mixedOrders=true:=I';obtain⟨Z,hz,bx⟩:∃Z:Array Value,(∀w,(zeroValue 191).run a0c w=.ok (.agg Z) w)/\Z.size=512:=⟨_,SC,by rw[jn,mr];rfl⟩;obtain⟨Y,hy,bF⟩:∃Y:Array Value,(∀w,(zeroValue 196).run a0c w=.ok (.agg Y) w)/\Y.size=513:=⟨_,JK,by rw[jn,rX];rfl⟩;obtain⟨sv,br,a3,bE⟩:∃sv:Array Value,(cM (jd F i)).toArray=sv/\sv.size=512/\∀v∈sv.toList,v.oneCell'=true:=⟨_,rfl,by rw[jn,mr,a6],λv hv=>zc _ v (by simpa using hv)⟩;refine(callsIn_wide (n:=11)).1 ?_;refine callsIn_of_wp_marks func69 rfl a0b ?_ rfl;simp only[ntmps69,jn,gM,kK,Nat.reduceAdd,Nat.reduceSub,tS,tT,uf,ua,mY,pc];obtain⟨W0,af⟩:=nm (w.alloc (.cells #[.int .i64 i] 3));have s0:W0.heap.size=w.heap.size+1:=by rw[<-af];simp
 have b0:Below w.heap.size w W0:=by rw[<-af];exact(iX _ _).alloc (aM _) _
 have k0:W0.heap[w.heap.size]?=T' (.cells #[.int .i64 i] 3 (0,0)):=by rw[<-af];exact World.alloc_heap_new w _
 have bb:W0.heap[b]?=T' (.cells (ez n m lv) 76 (0,0)):=(b0.block _ (je hb)).trans hb;have a7:=callsIn_wide (n:=10)|>.2 (Lk bb h0 hn)
 have bs:W0.cell? ⟨w.heap.size,0,Y'⟩=T' (.int .i64 i):=by simp only[World.cell?,k0];rfl
 gi_wp2_with (first|(rw[af];clear af)|(refine⟨a0b,?_⟩;gi_at_call 110;refine a7.mono ?_;rintro e w1 ⟨rfl,b1⟩))
 have ax:Below w.heap.size w w1:=b0.trans (b1.mono f');have s1:=b1.size;have bc:=(ax.block _ (je hb)).trans hb;have bm:=(ax.block _ (jO hm)).trans hm;have k1:=(b1.block _ f').trans k0;clear a7 bs bb k0;refine wpIn_wide.2 (Sm ?_);refine wp_region_held_drew (S:=λw'=>∀k,k<w1.heap.size->w'.heap[k]?=w1.heap[k]?) mixed (λk hk=>rfl) (λhS=>?_);refine wpAnyH_take (i:=0) (v:=.pointer (T' ⟨b,0,Y'⟩)) rfl I' I' I' (λc a w h=>(by cases h.1)) (.inl ⟨rfl,λw hw=>rfl⟩) hS ?_;simp only[Act.put,lZ,iv,gO];refine wpAnyH_take (i:=1) (v:=.pointer (T' ⟨b,0,Y'⟩)) rfl I' I' I' (λc a w h=>(by cases h.1)) (.inl ⟨rfl,λw hw=>by go_simp⟩) hS ?_;simp only[Act.put,lZ,iv,gO];refine wpAnyH_take (i:=2) (v:=.pointer (T' ⟨b,1,Y'⟩)) rfl I' I' I' (λc a w h=>(by cases h.1)) (.inl ⟨rfl,λw hw=>by go_simp⟩) hS ?_;simp only[Act.put,lZ,iv,gO];have cm:∀w':World,(∀k,k<w1.heap.size->w'.heap[k]?=w1.heap[k]?)->w'.cell? ⟨b,1,Y'⟩=T' (.map (T' m)):=λw' h=>by
  have:=(h b (jO bc)).trans bc;simp[World.cell?,this,ez]
 have ci:∀w':World,(∀k,k<w1.heap.size->w'.heap[k]?=w1.heap[k]?)->w'.cell? ⟨w.heap.size,0,Y'⟩=T' (.int .i64 i):=λw' h=>by
  have:=(h w.heap.size (jO k1)).trans k1;simp[World.cell?,this]
 refine wpAnyH_take (i:=3) (v:=.map (T' m)) rfl I' I' I' (λc a w h=>(by cases h.1)) (.inl ⟨rfl,λw hw=>by have:=cm w hw;go_simp⟩) hS ?_;simp only[Act.put,lZ,iv,gO];refine wpAnyH_take (i:=4) (v:=.int .i64 i) rfl I' I' I' (λc a w h=>(by cases h.1)) (.inl ⟨rfl,λw hw=>by have:=ci w hw;go_simp⟩) hS ?_;simp only[Act.put,lZ,iv,gO];refine wpAnyH_take (i:=5) (v:=.agg sv) rfl I' I' I' (λc a w h=>(by cases h.1)) (.inl ⟨rfl,λw hw=>?_⟩) hS ?_
 .have hr:=ac8 (P:=a0c) (w:=w) (t:=70) (k:=3) (e:=191) (i:=i) underlying70 underlying3 (SC w) ((hw m (jO bm)).trans bm) hF
  change Sem.run a0c (do let v<-Instr.lookup 70 (.map (T' m)) (.int .i64 i) a0a;pure (Next.value v)) w=.ok (.value (.agg sv)) w;rw[cC,hr];show Result.ok (Next.value (.agg (cM (jd F i)).toArray)) w=_;rw[br]
 refine TN (t:=191) (d:=7) (y:=.tmp 21) (Z:=Z) (sv:=sv) (o6:={dst:=T' 7,op:=Go.Op.alloc 191,type:=0,pos:= "disk.go:67",after:=#[],guard:=Y'}) (o7:={dst:=Y',op:=Go.Op.store 191 (Go.Operand.tmp 7) (Go.Operand.tmp 21),type:=0,pos:= "disk.go:67",after:=#[{on:=6,ground:=Go.Ground.data},{on:=5,ground:=Go.Ground.data},{on:=0,ground:=Go.Ground.phase},{on:=1,ground:=Go.Ground.phase},{on:=2,ground:=Go.Ground.phase},{on:=3,ground:=Go.Ground.phase},{on:=4,ground:=Go.Ground.phase},{on:=5,ground:=Go.Ground.phase},{on:=6,ground:=Go.Ground.phase}],guard:=Y'})
  I' I' rfl rfl rfl I' I' rfl rfl rfl I' (hz _) (by simp[Act.put]) I' (bx.trans a3.symm) (by rw[EH,a3]) bE (λk hk=>xn _ _ _ hk) (λk hk=>(setRow_other _ _ _ _ (KC hk)).trans (xn _ _ _ hk)) ⟨rfl,?_⟩
 obtain⟨W3,ao⟩:=nm (World.setRow (w1.drew.alloc (.cells Z 191)) w1.heap.size sv);have b3:Below w1.heap.size w1 W3:=by
  rw[<-ao];exact ze (w:=w1) (W:=w1.drew.alloc (.cells Z 191)) (B:=w1.heap.size) ⟨rfl,rfl,rfl,J',λk hk=>xn w1.drew _ _ hk⟩ _
 have s3:W3.heap.size=w1.heap.size+1:=by rw[<-ao];simp[World.setRow]
 have k3:W3.heap[w1.heap.size]?=T' (.cells sv 191 (0,0)):=by
  rw[<-ao];exact setRow_heap _ _ _ _ _ _ (World.alloc_heap_new w1.drew _)
 change Exit.then _ _ Exit.normal _ (World.setRow (w1.drew.alloc (.cells Z 191)) w1.heap.size sv);rw[ao];clear ao hS cm ci;change Exit.then _ _ Exit.normal {tmps:=#[.pointer (T' ⟨b,0,Y'⟩),.int .i64 i,undef,.pointer (T' ⟨w.heap.size,0,Y'⟩),.slice Y' 0 0,.int .i64 0,.int .i64 0,.pointer (T' ⟨w1.heap.size,0,Y'⟩),undef,undef,.pointer (T' ⟨b,0,Y'⟩),.int .i64 i,.int .i64 0,.int .i64 0,.bool a0a,undef,.pointer (T' ⟨b,0,Y'⟩),.pointer (T' ⟨b,0,Y'⟩),.pointer (T' ⟨b,1,Y'⟩),.map (T' m),.int .i64 i,.agg sv,undef,undef,undef,undef,undef,undef,undef,undef,undef,undef,undef,undef,undef,undef,undef],defers:=[]} W3;have a4:Below w.heap.size w W3:=ax.trans (b3.mono f');have bz:=(a4.block _ (je hb)).trans hb;have c2:W3.cell? ⟨b,2,Y'⟩=T' lv:=by simp[World.cell?,bz,ez]
 have bA:∃ad c,lv=.slice ad L.length c:=by
  rcases hL.2 with⟨e1,e2⟩|⟨g,cap,cur,e,_⟩
  .exact⟨Y',0,by rw[e1,e2]⟩
  .exact⟨_,_,e⟩
 obtain⟨ad,cc,a1⟩:=bA;subst a1
 gi_wp2_with (refine⟨a0b,?_⟩;gi_at_call 111;refine(aai _ _ _ _).mono ?_;rintro e w' ⟨rfl,rfl⟩)
 obtain⟨W5,aw⟩:=nm (W3.alloc (Obj.cells #[Value.slice ad L.length cc] 71));have s5:W5.heap.size=w1.heap.size+2:=by rw[<-aw];simp;omega
 have b5:Below W3.heap.size W3 W5:=by rw[<-aw];exact(iX _ W3).alloc (aM _) _
 have c5:W5.cell? ⟨w1.heap.size+1,0,Y'⟩=T' (.slice ad L.length cc):=by
  rw[<-aw];have:=World.alloc_heap_new W3 (Obj.cells #[Value.slice ad L.length cc] 71);rw[s3]at this;simp only[World.cell?,this]
  rfl
 have k5:W5.heap[w1.heap.size]?=T' (.cells sv 191 (0,0)):=(b5.block _ f').trans k3;have i5:W5.cell? ⟨w.heap.size,0,Y'⟩=T' (.int .i64 i):=by
  have h:=(b5.block w.heap.size f').trans ((b3.block _ f').trans k1);simp only[World.cell?,h]
  rfl
 have ay:Below w.heap.size w W5:=a4.trans (b5.mono f');obtain⟨gb,bB,a1⟩:∃gb,gb<W5.heap.size/\((Value.slice ad L.length cc=.slice Y' 0 0/\L=[])\/∃cap,Value.slice ad L.length cc=.slice (T' ⟨gb,0,Y'⟩) L.length cap/\gb<W5.heap.size/\∀j,j<L.length->W5.rangeAt gb (j*513) (wC (L.getD j w0))):=by
  rcases hL.2 with⟨e1,e2⟩|⟨g,cap,cur,e,q0,q1,q2,q3,q4,q5⟩
  .exact⟨0,f',.inl ⟨e1,lY e2⟩⟩
  .have bD:=je q1
   refine⟨g,f',.inr ⟨cap,e,f',λj hj=>QC ((ay.block g bD).trans q1) q5 (λk=>a0 k) hj⟩⟩
 rw[aw];refine abz (B0:=w.heap.size) (B1:=w1.heap.size) (g:=gb) (i:=i) (lv:=.slice ad L.length cc) (L:=L) (sv:=sv) (W5:=W5) (w1:=w1) (G:=jd F) c5 s5 i5 f' k5 br a3 bt a0 a1 bB ?_;intro D W k6 b6 hD hK;have s6:=b6.size;obtain⟨S,hS⟩:=nm (pM L (jd F) i);have bu:S.length=512:=by rw[<-hS];exact H6 L a6 a0
 rw[hS]at k6;have a5:D<W.heap.size:=(ir.1 hK).1;have bw:Below w.heap.size w W:=ay.trans (b6.mono f');have bd:=callsIn_wide (n:=10)|>.2 (Vr bu k6)
 have bn:∀(W0 w':World)(v:Value),Below W.heap.size W w'->Below w.heap.size w (w'.putObj D (Obj.deferred Y')):=λ_ w' _ ab=>by
  have h1:=bw.trans (ab.mono bw.size);refine⟨h1.os,h1.tape,h1.output,by simpa[World.putObj]using h1.size,λk hk=>?_⟩;rw[World.putObj_heap_other (by have:=ay.size;omega)];exact h1.block k hk
 constructor
 .gi_wp2_with (refine⟨a0b,?_⟩;gi_at_call 112;refine bd.mono ?_;rintro e w' ⟨v,rfl,hv,ab⟩)
  refine⟨J',.inl ⟨_,_,rfl,run_takeDeferred ((ab.block D a5).trans hK),?_⟩⟩;refine⟨.tuple #[v,.int .i64 0],by simp[results,results69,go_sem],v,rfl,?_,?_⟩
  .rw[hS]
   refine hv.cW ⟨by simp[World.putObj],λk hk hx=>World.putObj_heap_other (λe=>hx f')⟩ (λk _ hk=>?_);have:=bw.size;show k<W.heap.size;omega
  .exact bn W w' v ab
 .gi_wp2_with (refine⟨a0b,?_⟩;gi_at_call 112;refine bd.mono ?_;rintro e w' ⟨v,rfl,hv,ab⟩)
  refine⟨J',.inl ⟨_,_,rfl,run_takeDeferred ((ab.block D a5).trans hK),?_⟩⟩;refine⟨.tuple #[v,.int .i64 0],by simp[results,results69,go_sem],v,rfl,?_,?_⟩
  .rw[hS]
   refine hv.cW ⟨by simp[World.putObj],λk hk hx=>World.putObj_heap_other (λe=>hx f')⟩ (λk _ hk=>?_);have:=bw.size;show k<W.heap.size;omega
  .exact bn W w' v ab
end
end
section
open Go.Shelf
section
variable {w:World}
def u9(F:List (Int×List Int))(L:List (Int×List Int)):List (Int×List Int):=L.foldl (λF p=>oJ F p.1 p.2) F
theorem QN(F L:List (Int×List Int))(p:Int×List Int):u9 F (L++[p])=oJ (u9 F L) p.1 p.2:=by simp[u9]
theorem H5(i:Int):∀(n:Nat)(L F:List (Int×List Int)),L.length=n->jd (u9 F L) i=pM L (jd F) i
 |0,L,F,hn=>by rw[lY hn];rfl
 |n+1,L,F,hn=>by
  rcases Kc L with rfl|⟨L',p,rfl⟩
  .rfl
  .rw[Ka]at hn|-
   rw[QN,OH,yK,H5 i n L' F (by simp at hn;omega)]
theorem afG(L:List (Int×List Int))(k:Nat)(hk:k<L.length):L.take (k+1)=L.take k++[L.getD k w0]:=by
 rw[Ko,ed hk];simp[hk]
theorem IZ(w:World)(m j:Nat)(o:Obj)(h:j≠m):(ChangeMaps.setBlock w m o).heap[j]?=w.heap[j]?:=by
 show(w.heap.setIfInBounds m o)[j]?=_;exact Cb (mZ h)
theorem acj(w:World)(m:Nat)(o:Obj)(h:m<w.heap.size):(ChangeMaps.setBlock w m o).heap[m]?=T' o:=by
 show(w.heap.setIfInBounds m o)[m]?=_;rw[SS h]
theorem Zu{P:Program}{ops:Array Oper}{Q:Exit->Act->World->Prop}{S:World->Prop}{fuel:Nat}{ab:Array Bool}{a:Act}{w':World}{o8:Oper}{t:TypeId}{x y z:Operand}{vx vy vz:Value}(uJ:Region.ready .any ops ab=[8])(af:ops[8]?=T' o8)(hop:o8.op=.mapUpdate t x y z)(hg:o8.guard=Y')(hd:o8.dst=Y')(ao:Region.ready .any ops (ab.setIfInBounds 8 Z')=[])(hx:a.eval x=vx)(hy:a.eval y=vy)(hz:a.eval z=vz)(aw:(Instr.mapUpdate t vx vy vz).run P w=.ok () w')(hS:S w')(h:Q .normal a w'):wpAnyH P .any ops Q S (fuel+1) ab a w:=by
 refine wpAnyH_ready uJ J' (AllReadyH.cons af (λK hK=>?_) AllReadyH.nil);rw[au (by simp[Region.wanted,hg])];unfold Oper.wp execOp;simp only[hop,hx,hy,hz,cC,aw,cz,cJ];show K (a.put o8.dst undef) w';rw[hd];exact hK.out _ _ hS (λ_=>wpAnyH_done ao h _)
theorem Uq{b m:Nat}{lv:Value}{n:Int}{es:Array MapEntry}{clock:Nat}{F L:List (Int×List Int)}(hb:w.heap[b]?=T' (.cells (ez n m lv) 76 (0,0)))(hm:w.heap[m]?=T' (.map es clock))(hF:kX es.toList F)(hLl:∀k,(L.getD k w0).2.length=512)(hL:w.ownsRow 0 196 513 lv L.length (L.flatMap wC))(hLn:L.length<=1000000):
 Calls a0c 107 #[.pointer (T' ⟨b,0,Y'⟩)] w λe w'=>e=.returned (.int .i64 0)/\w'.heap[b]?=T' (.cells (ez n m (.slice Y' 0 0)) 76 (0,0))/\(∃es' clock',w'.heap[m]?=T' (.map es' clock')/\kX es'.toList (u9 F L))/\
  w'.os=w.os/\w'.tape=w.tape/\w'.output=w.output/\w.heap.size<=w'.heap.size/\∀k,k<w.heap.size->k≠b->k≠m->w'.heap[k]?=w.heap[k]?:=by
 have mixed:a0c.follows .mixedOrders=true:=I';obtain⟨Y,hy,hYs⟩:∃Y:Array Value,(∀w,(zeroValue 196).run a0c w=.ok (.agg Y) w)/\Y.size=513:=⟨_,JK,by rw[jn,rX];rfl⟩;have c3:w.cell? ⟨b,3,Y'⟩=T' (.bool a0a):=by simp[World.cell?,hb,ez]
 have hform:∃ad c,lv=.slice ad L.length c:=by
  rcases hL.2 with⟨e1,e2⟩|⟨g,cap,cur,e,_⟩
  .exact⟨Y',0,by rw[e1,e2]⟩
  .exact⟨_,_,e⟩
 obtain⟨ad,cc,hlv⟩:=hform;subst hlv;have hbm:b≠m:=λe=>by subst e;rw[hb]at hm;cases hm
 go_enter func107,ntmps107
 repeat(first
  |(go_at_call 142;refine(L3 hb).mono ?_;rintro e w1 ⟨rfl,b1⟩;have hb1:=(b1.block _ (je hb)).trans hb;have c21:w1.cell? ⟨b,2,Y'⟩=T' (.slice ad L.length cc):=by simp[World.cell?,hb1,ez])
  |go_values|go_skip|go_guarded|go_step|go_upon|go_back|(simp only[zK,zJ]at*;go_simp))
 have hm1:=(b1.block _ (jO hm)).trans hm
 go_loopw [18] (λi wr=>∃(k:Nat)(es':Array MapEntry)(clock':Nat),k<=L.length/\i=.int .i64 k/\wr.heap[m]?=T' (.map es' clock')/\kX es'.toList (u9 F (L.take k))/\(∀j,j<w1.heap.size->j≠m->wr.heap[j]?=w1.heap[j]?)/\w1.heap.size<=wr.heap.size/\wr.os=w1.os/\wr.tape=w1.tape/\wr.output=w1.output)
  (λi _=>L.length-(intOf i).toNat)
 case atStart=>exact⟨0,es,clock,dU _,rfl,hm1,hF,λ_ _ _=>rfl,aM _,rfl,rfl,rfl⟩
 case round=>
  obtain⟨k,es',clock',hk,rfl,hmw,hFk,hkp,hsz,ho1,ho2,ho3⟩:=hrel;have hbw:=(hkp b (je hb1) hbm).trans hb1;have c1w:wr.cell? ⟨b,1,Y'⟩=T' (.map (T' m)):=by simp[World.cell?,hbw,ez]
  by_cases hlt:k<L.length
  .have hlt':(k:Int)<L.length:=f'
   have hform:∃(g:Nat)(cur:Array Value),ad=T' ⟨g,0,Y'⟩/\w.heap[g]?=T' (.cells cur 196 (0,0))/\cur.toList.take (L.length*513)=L.flatMap wC:=by
    rcases hL.2 with⟨e1,e2⟩|⟨g,cap,cur,e,q0,q1,q2,q3,q4,q5⟩
    .omega
    .cases e;exact⟨g,cur,rfl,q1,q5⟩
   obtain⟨g,cur,rfl,q1,q5⟩:=hform;have hgm:g≠m:=λe=>by subst e;rw[q1]at hm;cases hm
   have q1w:=(hkp g (by have:=je q1;have:=b1.size;omega) hgm).trans ((b1.block g (je q1)).trans q1);have hr:=QC q1w q5 hLl hlt;obtain⟨p,hp⟩:=nm (L.getD k w0);have hpl:=hLl k;rw[hp]at hr hpl;obtain⟨cs,cE⟩:=nm (wC p);rw[cE]at hr;have hcl:cs.length=513:=by rw[<-cE,rX,hpl]
   have hco:∀v∈cs,v.oneCell'=true:=λv hv=>by rw[<-cE]at hv;exact EU _ v hv
   have hi2:(a0c.info? 196).map (·.size)=T' cs.length:=by rw[hcl];exact I2
   repeat(first|(refine wp_load_mid 196 (.tmp 20) rfl g (k*513) rfl cs _ hr underlying196 rfl hi2 ?_)|(refine Sl (t:=196) (v:=Y) rfl (hy _) ?_)|(refine wp_store_row (ty:=196) (x:=.tmp 4) (y:=.tmp 21) (b:=wr.heap.size) (t:=196) (old:=Y) (cells:=cs.toArray) rfl rfl rfl (World.alloc_heap_new wr _) (by rw[hYs];simp[hcl]) (by rw[I2];simp[hcl]) (λv hv=>hco v (by simpa using hv)) ?_)|go_values|go_skip|go_guarded|go_step|go_upon|go_back|(simp only[zK,zJ]at*;go_simp))
   simp only[Act.put,lZ,iv,gO];obtain⟨wa,hwa⟩:=nm ((wr.alloc (Obj.cells Y 196)).setRow wr.heap.size cs.toArray);have ba:Below wr.heap.size wr wa:=by rw[<-hwa];exact ze ((iX _ wr).alloc (aM _) _) _
   have ka:wa.heap[wr.heap.size]?=T' (.cells cs.toArray 196 (0,0)):=by rw[<-hwa];exact setRow_heap _ _ _ _ _ _ (World.alloc_heap_new wr _)
   have hma:=(ba.block m (jO hmw)).trans hmw;rw[hwa];clear hwa;obtain⟨es2,clock2,hup,hes2⟩:=acb (P:=a0c) (w:=wa.drew) (t:=70) (k:=3) (e:=191) (i:=p.1) (s:=p.2) underlying70 underlying3 hma hFk;obtain⟨tl,htl⟩:=nm (cM p.2);have htll:tl.length=512:=by rw[<-htl,mr,hpl]
   have hup':(Instr.mapUpdate 70 (.map (T' m)) (.int .i64 p.1) (.agg tl.toArray)).run a0c wa.drew=.ok () (ChangeMaps.setBlock wa.drew m (.map es2 clock2)):=by rw[<-htl];exact hup
   have hcsp:cs=.int .i64 p.1::tl:=by rw[<-cE,<-htl];rfl
   have ca0:∀w':World,w'.heap[wr.heap.size]?=T' (.cells cs.toArray 196 (0,0))->w'.cell? ⟨wr.heap.size,0,Y'⟩=T' (.int .i64 p.1):=λw' h=>by
    rw[cell_of_row w' wr.heap.size 0 _ _ _ h,hcsp];rfl
   have car:∀w':World,w'.heap[wr.heap.size]?=T' (.cells cs.toArray 196 (0,0))->w'.rangeAt wr.heap.size 1 tl:=λw' h j v hj=>by
    rw[cell_of_row w' wr.heap.size _ _ _ _ h,hcsp,q8 1 j];simpa using hj
   have cab:∀w':World,w'.heap[b]?=wa.heap[b]?->w'.cell? ⟨b,1,Y'⟩=T' (.map (T' m)):=λw' h=>by
    have:=h.trans ((ba.block b (je hbw)).trans hbw);simp[World.cell?,this,ez]
   clear cE hr;refine Sm ?_;refine wp_region_held_drew (S:=λw'=>w'.heap[wr.heap.size]?=T' (.cells cs.toArray 196 (0,0))/\w'.heap[b]?=wa.heap[b]?) mixed ⟨ka,rfl⟩ (λhS=>?_);refine wpAnyH_take (i:=0) (v:=.pointer (T' ⟨b,0,Y'⟩)) rfl I' I' I' (λc a w h=>(by cases h.1)) (.inl ⟨rfl,λw hw=>rfl⟩) hS ?_;refine wpAnyH_take (i:=1) (v:=.pointer (T' ⟨b,0,Y'⟩)) rfl I' I' I' (λc a w h=>(by cases h.1)) (.inl ⟨rfl,λw hw=>by go_simp⟩) hS ?_;refine wpAnyH_take (i:=2) (v:=.pointer (T' ⟨b,1,Y'⟩)) rfl I' I' I' (λc a w h=>(by cases h.1)) (.inl ⟨rfl,λw hw=>by go_simp⟩) hS ?_;refine wpAnyH_take (i:=3) (v:=.map (T' m)) rfl I' I' I' (λc a w h=>(by cases h.1)) (.inl ⟨rfl,λw hw=>by have:=cab w hw.2;go_simp⟩) hS ?_;refine wpAnyH_take (i:=4) (v:=.pointer (T' ⟨wr.heap.size,0,Y'⟩)) rfl I' I' I' (λc a w h=>(by cases h.1)) (.inl ⟨rfl,λw hw=>by go_simp⟩) hS ?_;refine wpAnyH_take (i:=5) (v:=.int .i64 p.1) rfl I' I' I' (λc a w h=>(by cases h.1)) (.inl ⟨rfl,λw hw=>by have:=ca0 w hw.1;go_simp⟩) hS ?_;refine wpAnyH_take (i:=6) (v:=.pointer (T' ⟨wr.heap.size,1,Y'⟩)) rfl I' I' I' (λc a w h=>(by cases h.1)) (.inl ⟨rfl,λw hw=>by go_simp⟩) hS ?_;refine wpAnyH_take (i:=7) (v:=.agg tl.toArray) rfl I' I' I' (λc a w h=>(by cases h.1)) (yieldsIf_load_mid I' 191 (.tmp 28) rfl wr.heap.size 1 I' tl _ (λw' h=>car w' h.1) underlying191 rfl (by rw[htll];exact EH)) hS ?_;have hSm:(ChangeMaps.setBlock wa.drew m (.map es2 clock2)).heap[wr.heap.size]?=T' (.cells cs.toArray 196 (0,0))/\(ChangeMaps.setBlock wa.drew m (.map es2 clock2)).heap[b]?=wa.heap[b]?:=by
    have h1:wr.heap.size≠m:=by have:=jO hmw;omega
    exact⟨(IZ _ _ _ _ h1).trans ka,IZ _ _ _ _ hbm⟩
   refine Zu (t:=70) (x:=.tmp 25) (y:=.tmp 27) (z:=.tmp 29) (vx:=.map (T' m)) (vy:=.int .i64 p.1) (vz:=.agg tl.toArray) (o8:={dst:=Y',op:=Op.mapUpdate 70 (Operand.tmp 25) (Operand.tmp 27) (Operand.tmp 29),type:=0,pos:= "disk.go:112",after:=#[{on:=3,ground:=Ground.data},{on:=5,ground:=Ground.data},{on:=7,ground:=Ground.data},{on:=0,ground:=Ground.phase},{on:=1,ground:=Ground.phase},{on:=2,ground:=Ground.phase},{on:=3,ground:=Ground.phase},{on:=4,ground:=Ground.phase},{on:=5,ground:=Ground.phase},{on:=6,ground:=Ground.phase},{on:=7,ground:=Ground.phase}],guard:=Y'})
    I' I' rfl rfl rfl I' I' I' I' hup' hSm ⟨rfl,?_⟩
   obtain⟨wb,hwb⟩:=nm (ChangeMaps.setBlock wa.drew m (.map es2 clock2));have fb:wb.heap.size=wa.heap.size/\wb.os=wa.os/\wb.tape=wa.tape/\wb.output=wa.output/\wb.heap[m]?=T' (.map es2 clock2)/\∀j,j≠m->wb.heap[j]?=wa.heap[j]?:=by
    rw[<-hwb];exact⟨by simp[ChangeMaps.setBlock],rfl,rfl,rfl,acj _ _ _ (jO hma),λj hj=>IZ _ _ _ _ hj⟩
   rw[hwb];obtain⟨f1,f2,f3,f4,f5,f6⟩:=fb;clear hwb hSm hup hup' cab car ca0;change Exit.inBlock 1 (Exit.then _ _) Exit.normal {tmps:=#[.pointer (T' ⟨b,0,Y'⟩),undef,.int .i64 0,undef,.pointer (T' ⟨wr.heap.size,0,Y'⟩),.pointer (T' ⟨b,0,Y'⟩),.pointer (T' ⟨b,0,Y'⟩),.pointer (T' ⟨b,3,Y'⟩),.bool a0a,.bool a0a,.pointer (T' ⟨b,0,Y'⟩),.bool a0a,.bool a0a,.pointer (T' ⟨b,0,Y'⟩),.pointer (T' ⟨b,0,Y'⟩),.pointer (T' ⟨b,2,Y'⟩),.slice (T' ⟨g,0,Y'⟩) L.length cc,.int .i64 L.length,.int .i64 k,.bool Z',.pointer (T' ⟨g,k*513,Y'⟩),.agg cs.toArray,.pointer (T' ⟨b,0,Y'⟩),.pointer (T' ⟨b,0,Y'⟩),.pointer (T' ⟨b,1,Y'⟩),.map (T' m),.pointer (T' ⟨wr.heap.size,0,Y'⟩),.int .i64 p.1,.pointer (T' ⟨wr.heap.size,1,Y'⟩),.agg tl.toArray,u30,undef,undef,undef],defers:=[]} wb;generalize Value.agg cs.toArray=vcs;generalize Value.agg tl.toArray=vtl
   go_wp2
   go_roundw
   case rel=>
    have sa:=ba.size;refine⟨k+1,es2,clock2,f',J',f5,?_,λj hj hjm=>?_,f',?_,?_,?_⟩
    .rw[afG L k hlt,hp,QN]
     exact hes2
    .rw[f6 j hjm,ba.block j f']
     exact hkp j hj hjm
    .rw[f2,ba.os,ho1]
    .rw[f3,ba.tape,ho2]
    .rw[f4,ba.output,ho3]
   case measure=>(try simp[intOf])<;>omega
  .obtain rfl:k=L.length:=f'
   have f2:wr.frozen? ⟨b,2,Y'⟩=false:=by simp[World.frozen?,hbw]
   have c2w:wr.cell? ⟨b,2,Y'⟩=T' (.slice ad L.length cc):=by simp[World.cell?,hbw,ez]
   go_wp2
   refine⟨rfl,.int .i64 0,by simp[results,results107,go_sem],?_⟩;rw[pf]at hFk;have hneb:∀j,j≠b->(wr.setCell ⟨b,2,Y'⟩ (.slice Y' 0 0)).heap[j]?=wr.heap[j]?:=λj hj=>tU _ _ _ _ (by exact hj)
   refine⟨rfl,by simp[World.setCell,xm,hbw,ez],⟨es',clock',by rw[hneb m (λe=>hbm e.symm)];exact hmw,hFk⟩,ho1.trans b1.os,ho2.trans b1.tape,ho3.trans b1.output,?_,λj hj h1 h2=>?_⟩
   .have:=b1.size
    simp[World.setCell];omega
   .rw[hneb j h1,hkp j (by have:=b1.size;omega) h2]
    exact b1.block j hj
end
end
section
variable {vs:Array Value}{args:List AV}{xs:List Value}{j n s:Nat}{X:Nat->Prop}{e:TypeId}{lv u:Value}{w:World}
theorem PO{w':World}(h:w.ownsRow 0 e s lv n xs)(hk:∀k,lv.ownBlock=T' k->w'.heap[k]?=w.heap[k]?):w'.ownsRow 0 e s lv n xs:=by
 refine⟨h.1,h.2.imp id (λ⟨g,cap,cur,q1,q2,q3,r⟩=>⟨g,cap,cur,q1,q2,?_,r⟩)⟩;rw[hk g (by rw[q1];rfl)];exact q3
theorem tH(h:w.ownsRow 0 e s lv n xs){k:Nat}(hk:lv.ownBlock=T' k):k<w.heap.size/\∃C,w.heap[k]?=T' (.cells C e (0,0)):=by
 rcases h.2 with⟨q1,_⟩|⟨g,cap,cur,q1,q2,q3,r⟩
 .rw[q1]at hk;cases hk
 .rw[q1]at hk
  simp only[Value.ownBlock,aC]at hk;subst hk;exact⟨jO q3,cur,q3⟩
structure JW(w:World)(b:Nat)(n:Int)(f:Int->List Int)(c m:Nat)(lv:Value):Prop where
 ae:w.heap[b]?=T' (.cells (ez n m lv) 76 (0,0))
 ex:∃es clock F L,w.heap[m]?=T' (.map es clock)/\kX es.toList F/\w.ownsRow 0 196 513 lv L.length (L.flatMap wC)/\L.length<=c/\(∀k,(L.getD k w0).2.length=512)/\(∀i,pM L (jd F) i=f i)/\∀i,(jd F i).length=512
def aZ(b:Nat)(n:Int)(f:Int->List Int)(c:Nat):GA where
 rel w fp _:=∃m lv,JW w b n f c m lv/\∀k,fp k↔k=b\/k=m\/lv.ownBlock=T' k
 loc:=by
  rintro w w' fp X X' hs hw hX ⟨m,lv,⟨h1,es,clock,F,L,h2,h3,h4,h5⟩,h6⟩;refine⟨m,lv,⟨?_,es,clock,F,L,?_,h3,PO h4 (λk hk=>hw k (tH h4 hk).1 (.inl ((h6 k).2 (.inr (.inr hk))))),h5⟩,h6⟩
  .rw[hw b (jO h1) (.inl ((h6 b).2 (.inl rfl)))];exact h1
  .rw[hw m (jO h2) (.inl ((h6 m).2 (.inr (.inl rfl))))];exact h2
 lt:=by
  rintro w fp X ⟨m,lv,⟨h1,es,clock,F,L,h2,h3,h4,h5⟩,h6⟩ k hk;rcases(h6 k).1 hk with rfl|rfl|h
  .exact jO h1
  .exact jO h2
  .exact(tH h4 h).1
theorem Af(h:vs.size=1):∃a,vs=#[a]:=by
 obtain⟨l⟩:=vs
 match l,h with
 |[a],_=>exact⟨a,rfl⟩
theorem CM(h:vs.size=2):∃a b,vs=#[a,b]:=by
 obtain⟨l⟩:=vs
 match l,h with
 |[a,b],_=>exact⟨a,b,rfl⟩
theorem Lg(h:vs.size=3):∃a b c,vs=#[a,b,c]:=by
 obtain⟨l⟩:=vs
 match l,h with
 |[a,b,c],_=>exact⟨a,b,c,rfl⟩
theorem mG(ha:∀(j:Nat)(c:AV),args[j]?=T' c->∃v:Value,vs[j]?=T' v/\RI w X c v){v:Value}(h1:args[j]?=T' (.r v))(h2:vs[j]?=T' u):u=v:=by
 obtain⟨x,q1,q2⟩:=ha j _ h1;rw[h2]at q1;cases q1;exact RI.aS q2
theorem CK(ha:∀(j:Nat)(c:AV),args[j]?=T' c->∃v:Value,vs[j]?=T' v/\RI w X c v){k:IntKind}{xs:List Int}(h1:args[j]?=T' (.ns k xs))(h2:vs[j]?=T' u):RI w X (.ns k xs) u:=by
 obtain⟨x,q1,q2⟩:=ha j _ h1;rw[h2]at q1;cases q1;exact q2
theorem rB(b:Nat)(n:Int)(f:Int->List Int)(c:Nat):aA a0c 58 [b] (aZ b n f c) (λr R=>r=.r (.int .i64 n)/\R=aZ b n f c):=by
 intro w X fp vs hX ab hr hl ha;obtain⟨v0,rfl⟩:=Af hl;obtain rfl:=mG (j:=0) ha rfl rfl;have af:=hr;obtain⟨m,lv,⟨h1,_⟩,_⟩:=af;refine(Wn h1).mono λe w'⟨he,hb⟩=>⟨_,_,_,fp,he,⟨rfl,rfl⟩,GA.loc _ hb.size (λk hk _=>hb.block k hk) (λk _ hk=>hk.elim id (ab k)) hr,RI.r _,λ_ _ h=>h,⟨hb.os,hb.tape,hb.output,hb.size,λk hk _=>hb.block k hk⟩⟩
theorem Au(b:Nat)(n:Int)(f:Int->List Int)(c:Nat):aA a0c 67 [b] (aZ b n f c) (λr R=>r=.r (.bool a0a)/\R=aZ b n f c):=by
 intro w X fp vs hX ab hr hl ha;obtain⟨v0,rfl⟩:=Af hl;obtain rfl:=mG (j:=0) ha rfl rfl;have af:=hr;obtain⟨m,lv,⟨h1,_⟩,_⟩:=af;refine(V6 h1).mono λe w'⟨he,hb⟩=>⟨_,_,_,fp,he,⟨rfl,rfl⟩,GA.loc _ hb.size (λk hk _=>hb.block k hk) (λk _ hk=>hk.elim id (ab k)) hr,RI.r _,λ_ _ h=>h,⟨hb.os,hb.tape,hb.output,hb.size,λk hk _=>hb.block k hk⟩⟩
theorem vT(b:Nat)(n:Int)(f:Int->List Int)(c:Nat)(i:Int)(h0:0<=i)(hn:i<n)(hc:c<=1000000):aA a0c 69 [b,(i:Int)] (aZ b n f c) (λr R=>r=.aU [.ns .u8 (f i),(0:Int)]/\R=aZ b n f c):=by
 intro w X fp vs hX ab hr hl ha;obtain⟨v0,v1,rfl⟩:=CM hl;obtain rfl:=mG (j:=0) ha rfl rfl;obtain rfl:=mG (j:=1) ha rfl rfl;have af:=hr;obtain⟨m,lv,⟨h1,es,clock,F,L,h2,h3,h4,h5,h7,h8,h9⟩,h6⟩:=af;refine(abA h1 h2 h3 h0 hn h7 (h9 i) h4 f').mono λe w'⟨v,he,hv,hb⟩=>⟨_,_,_,fp,he,⟨rfl,rfl⟩,GA.loc _ hb.size (λk hk _=>hb.block k hk) (λk _ hk=>hk.elim id (ab k)) hr,?_,λ_ _ h=>h,⟨hb.os,hb.tape,hb.output,hb.size,λk hk _=>hb.block k hk⟩⟩
 rw[h8 i]at hv;refine .aU _ _ (λj=>if j=0 then v else .int .i64 0) rfl (λj c hj=>?_) (λj c hj=>?_)
 .match j,hj with
  |0,_=>rfl
  |1,_=>rfl
 .match j,hj with
  |0,hj=>cases hj;exact hv.cW (dZ.refl _ _) (λk _ hk=>hk.elim (hX k) (λhf=>hX k (ab k hf)))
  |1,hj=>cases hj;exact RI.r _
theorem GI(b:Nat)(n:Int)(f:Int->List Int)(c:Nat)(hc:c<=1000000):aA a0c 107 [b] (aZ b n f c) (λr R=>r=.r (.int .i64 0)/\R=aZ b n f 0):=by
 intro w X fp vs hX af hr hl ha;obtain⟨v0,rfl⟩:=Af hl;obtain rfl:=mG (j:=0) ha rfl rfl;obtain⟨m,lv,⟨h1,es,clock,F,L,h2,h3,h4,h5,h7,h8,h9⟩,h6⟩:=hr;have ab:b≠m:=λe=>by subst e;rw[h1]at h2;cases h2
 refine(Uq h1 h2 h3 h7 h4 f').mono λe w'⟨he,k1,⟨es',clock',k2,k3⟩,k4,k5,k6,k7,k8⟩=>⟨_,_,_,λk=>k=b\/k=m,he,⟨rfl,rfl⟩,⟨m,.slice Y' 0 0,⟨k1,es',clock',u9 F L,[],k2,k3,World.ownsRow_nil _ _ _ _,aM _,λk=>rfl,λi=>?_,λi=>?_⟩,λk=>?_⟩,RI.r _,λk _ hk=>(h6 k).2 (hk.imp id .inl),⟨k4,k5,k6,k7,λk hk hf=>k8 k hk (λe=>hf ((h6 k).2 (.inl e))) (λe=>hf ((h6 k).2 (.inr (.inl e))))⟩⟩
 .show jd (u9 F L) i=f i
  rw[H5 i L.length L F rfl];exact h8 i
 .rw[H5 i L.length L F rfl]
  exact H6 L (h9 i) h7
 .simp[Value.ownBlock]
theorem GJ(n:Int)(h1:1<=n)(h2:n<=4096):aA a0c 9 [(n:Int)] .cQ (λr R=>∃b,r=.r (.pointer (T' ⟨b,0,Y'⟩))/\R=aZ b n (λ_=>Zb) 0):=by
 intro w X fp vs hX ab hr hl ha;obtain⟨v0,rfl⟩:=Af hl;obtain rfl:=mG (j:=0) ha rfl rfl;refine(Wi h1 h2 w).mono λe w'⟨b,m,he,q1,q2,q3,q4,hb⟩=>⟨_,_,_,λk=>k=b\/k=m,he,⟨b,rfl,rfl⟩,⟨m,.slice Y' 0 0,⟨q3,#[],0,[],[],q4,rfl,World.ownsRow_nil _ _ _ _,aM _,λk=>rfl,λi=>rfl,λi=>rfl⟩,λk=>by simp[Value.ownBlock]⟩,RI.r _,λk hk hh=>by rcases hh with rfl|rfl<;>omega,⟨hb.os,hb.tape,hb.output,hb.size,λk hk _=>hb.block k hk⟩⟩
theorem R4(L:List (Int×List Int))(p:Int×List Int)(hp:p.2.length=512)(hL:∀k,(L.getD k w0).2.length=512)(k:Nat):((L++[p]).getD k w0).2.length=512:=by
 rcases Nat.lt_trichotomy k L.length with h|h|h
 .rw[Dr _ _ _ h];exact hL k
 .subst h;simpa using hp
 .have:(L++[p]).getD k w0=w0:=by
   rw[cF,iT O'];rfl
  rw[this];rfl
theorem MO(b:Nat)(n:Int)(f:Int->List Int)(c:Nat)(i:Int)(xs:List Int)(h0:0<=i)(hn:i<n)(hc:c<=1000000)(hx:xs.length<=512):aA a0c 106 [b,(i:Int),.ns .u8 xs] (aZ b n f c) (λr R=>r=.r (.int .i64 0)/\R=aZ b n (λk=>if k=i then xs++List.replicate (512-xs.length) 0 else f k) (c+1)):=by
 intro w X fp vs hX ay hr hl ha;obtain⟨v0,v1,v2,rfl⟩:=Lg hl;obtain rfl:=mG (j:=0) ha rfl rfl;obtain rfl:=mG (j:=1) ha rfl rfl;have hN:=CK (j:=2) ha rfl rfl;obtain⟨m,lv,⟨h1,es,clock,F,L,h2,h3,h4,h5,h7,h8,h9⟩,h6⟩:=hr;cases hN with
 |ns _ _ ad bb oo cap hcap hadr hcell=>
  have ao:lv.ownBlock≠T' b:=λe=>by
   obtain⟨_,C,hC⟩:=tH h4 e;rw[h1]at hC;cases hC
  have aw:lv.ownBlock≠T' m:=λe=>by
   obtain⟨_,C,hC⟩:=tH h4 e;rw[h2]at hC;cases hC
  have af:b≠m:=λe=>by subst e;rw[h1]at h2;cases h2
  refine(Sw (l:=xs) h1 h0 hn hx rfl (λj v hj=>?_) h4 f' ao).mono λe w'⟨he,lv',k1,k2,k3,k4,k5,k6,k7,k8⟩=>⟨_,_,_,λk=>k=b\/k=m\/lv'.ownBlock=T' k,he,⟨rfl,rfl⟩,⟨m,lv',⟨k1,es,clock,F,L++[(i,xs++List.replicate (512-xs.length) 0)],?_,h3,by simpa using k2,by simpa using h5,R4 L _ O' h7,λk=>?_,h9⟩,λk=>dr⟩,RI.r _,λk hk hh=>?_,⟨k4,k5,k6,k7,λk hk hf=>k8 k hk (λe=>hf ((h6 k).2 (.inl e))) (λe=>hf ((h6 k).2 (.inr (.inr e))))⟩⟩
  .simp only[cM,gv,kR]at hj
   obtain⟨x,ab,rfl⟩:=hj;have ax:0<xs.length:=by have:=(iu.1 ab).1;omega
   exact⟨bb,oo,(hadr ax).1,hcell j x ab⟩
  .rw[k8 m (jO h2) (λe=>af e.symm) aw];exact h2
  .rw[yK]
   simp only[h8]
  .rcases hh with rfl|rfl|hh
   .exact(h6 _).2 (.inl rfl)
   .exact(h6 _).2 (.inr (.inl rfl))
   .rcases k3 with k3|⟨g,k3,k9⟩
    .exact(h6 _).2 (.inr (.inr (by rw[<-k3];exact hh)))
    .rw[k3]at hh;cases hh;omega
end
section
variable {xs:List Int}{v:Value}{w:World}
theorem QI(P:Program)(g o:Nat)(t:TypeId)(fz:Nat×Nat):∀(vs:List Value)(i:Nat)(cur:Array Value)(w:World),w.heap[g]?=T' (.cells cur t fz)->o+i+vs.length<=fz.1->o+i+vs.length<=cur.size->(∀v∈vs,v.oneCell'=Z')->
 (storeCells ⟨g,o,Y'⟩ vs i).run P w=.ok () (w.setRow g (cur.toList.take (o+i)++vs++cur.toList.drop (o+i+vs.length)).toArray)
 |[],i,cur,w,hg,_,_,_=>by
  simp only[storeCells,jx,kK,kN,xD,Fk];rw[setRow_self w g cur t fz hg]
  rfl
 |v::rest,i,cur,w,hg,hfz,hl,h1=>by
  have hi:o+i<cur.size:=by simp at hl;omega
  have ab:(⟨g,o,Y'⟩:Addr).add i=⟨g,o+i,Y'⟩:=by unfold Addr.add;split<;>simp_all
  have af:w.cell? ⟨g,o+i,Y'⟩=T' cur[o+i]:=by simp[World.cell?,hg,hi]
  have ao:w.frozen? ⟨g,o+i,Y'⟩=false:=by
   obtain⟨lo,ax⟩:=fz;simp only[World.frozen?,hg,SW,decide_eq_false_iff_not]
   left
   simp only[gM]at hfz;omega
  have aw:(store ((⟨g,o,Y'⟩:Addr).add i) v).run P w=.ok () (w.setRow g (cur.setIfInBounds (o+i) v)):=by
   rw[ab,run_store P w _ v _ (h1 v J'),af];simp[ao,setCell_eq_setRow w g (o+i) cur t fz v hg]
  have ih:=QI P g o t fz rest (i+1) (cur.setIfInBounds (o+i) v) (w.setRow g (cur.setIfInBounds (o+i) v)) (setRow_heap w g cur _ t _ hg) (by simp at hfz;omega) (by simp at hl|-;omega) (λx hx=>h1 x (by simp[hx]));simp only[storeCells,cC,aw,cz,ih,setRow_setRow]
  congr 3
  have e:=list_seg_step cur.toList (o+i) v rest (by simp at hl|-;omega);simpa[Array.toList_setIfInBounds,ie]using e
def lE(w:World)(v:Value)(xs:List Int):Prop:=
 (v=.slice Y' 0 0/\xs=[])\/∃g cap cur fz,v=.slice (T' ⟨g,0,Y'⟩) xs.length cap/\w.heap[g]?=T' (.cells cur 5 fz)/\(fz=(0,0)\/cap<=fz.1)/\xs.length<=cap/\cap<=maxLen/\cur.size=cap/\cur.toList.take xs.length=cM xs
theorem lE.cW{w':World}(h:lE w v xs)(hk:∀k,v.ownBlock=T' k->w'.heap[k]?=w.heap[k]?):lE w' v xs:=by
 rcases h with h|⟨g,cap,cur,fz,q1,q2,r⟩
 .exact .inl h
 .exact .inr ⟨g,cap,cur,fz,q1,by rw[hk g (by rw[q1];rfl)];exact q2,r⟩
theorem lE.lt(h:lE w v xs){k:Nat}(hk:v.ownBlock=T' k):k<w.heap.size:=by
 rcases h with⟨h,_⟩|⟨g,cap,cur,fz,q1,q2,r⟩
 .rw[h]at hk;cases hk
 .rw[q1]at hk;cases hk;exact jO q2
theorem lE.ri{X:Nat->Prop}(h:lE w v xs)(hX:∀k,v.ownBlock=T' k->¬X k):RI w X (.ns .u8 xs) v:=by
 rcases h with⟨rfl,rfl⟩|⟨g,cap,cur,fz,rfl,q2,q3,q4,q5,q6,q7⟩
 .exact RI.ns .u8 [] Y' 0 0 0 (aM _) (λh=>by simp at h) (λi x hx=>by simp at hx)
 .refine RI.ns .u8 xs _ g 0 cap q4 (λ_=>⟨rfl,hX g rfl⟩) (λi x hx=>?_)
  have hi:i<xs.length:=(iu.1 hx).1;rw[du,cell_of_row w g i cur _ _ q2];have h1:(cM xs)[i]?=T' (.int .u8 x):=by simp[cM,hx]
  rw[<-q7,ic,au hi]at h1;simpa using h1
def dE(v:Value)(xs:List Int):GA where
 rel w fp _:=lE w v xs/\∀k,fp k↔v.ownBlock=T' k
 loc:=λ_ hw _⟨h1,h2⟩=>⟨h1.cW (λk hk=>hw k (h1.lt hk) (.inl ((h2 k).2 hk))),h2⟩
 lt:=λ⟨h1,h2⟩k hk=>h1.lt ((h2 k).1 hk)
theorem AY:∃i,a0c.info? 5=T' i/\i.zero=T' (.int .u8 0)/\i.size=1/\i.bytes=1:=by
 have h:(a0c.info? 5).bind (·.zero)=T' (.int .u8 0):=I';obtain⟨i,h1,h2⟩:=vE.1 h;have h3:(a0c.info? 5).map (λi=>(i.size,i.bytes))=T' (1,1):=I';rw[h1]at h3;simp only[ft,aC,db]at h3;exact⟨i,h1,h2,h3.1,h3.2⟩
theorem QG{ys:List Int}{ty:TypeId}{ad:Addr}{c:Nat}(h:lE w v xs)(hl:xs.length+ys.length<=1000000000)(hc:∀j u,(cM ys)[j]?=T' u->w.cell? (ad.add j)=T' u):
 ∃v' w',(Builtin.append_ #[29,29] ty #[v,.slice (T' ad) ys.length c]).run a0c w=.ok v' w'/\lE w' v' (xs++ys)/\w.grownBy w' v.ownBlock/\(v'.ownBlock=v.ownBlock\/v'.ownBlock=T' w.heap.size):=by
 obtain⟨i5,h1,h2,h3,h4⟩:=AY;have ab:=mr ys;have a0:xs.length+ys.length<=maxLen:=by simp only[maxLen];omega
 have old:∀(n:Nat)(vv:Value),n=xs.length->w.ownsRow 0 5 1 vv n (cM xs)->∃v' w',(Builtin.append_ #[29,29] ty #[vv,.slice (T' ad) ys.length c]).run a0c w=.ok v' w'/\lE w' v' (xs++ys)/\w.grownBy w' vv.ownBlock/\(v'.ownBlock=vv.ownBlock\/v'.ownBlock=T' w.heap.size):=by
  intro n vv hn ax;obtain⟨v',w',r1,r2,r3,_,r5⟩:=run_append_own_at (P:=a0c) w 0 29 ty 5 i5 (.int .u8 0) 1 1 underlying29 h1 h2 h3 h4 rfl p' vv n (cM xs) ax ad ys.length c (cM ys) (by rw[ab,pk]) hc (zc ys) f' f' (dU _);refine⟨v',w',r1,?_,r3,r5⟩;rcases r2.2 with⟨e1,e2⟩|⟨g,cap,cur,e1,_,e3,e4,e5,e6,e7⟩
  .refine .inl ⟨e1,?_⟩
   have:(xs++ys).length=0:=by rw[aV];omega
   exact lY this
  .refine .inr ⟨g,cap,cur,(0,0),by rw[e1,aV,hn],e3,.inl rfl,by rw[aV];omega,e5,f',?_⟩
   rw[pk]at e7;rw[aV,<-hn,e7];simp[cM]
 rcases h with⟨rfl,rfl⟩|⟨g,cap,cur,fz,rfl,q2,q3,q4,q5,q6,q7⟩
 .exact old 0 _ rfl ⟨rfl,.inl ⟨rfl,rfl⟩⟩
 .rcases q3 with rfl|q3
  .exact old _ _ rfl ⟨by simp[cM],.inr ⟨g,cap,cur,rfl,dU _,q2,q4,q5,f',by rw[pk];exact q7⟩⟩
  .by_cases hroom:xs.length+ys.length<=cap
   .have hf:=run_firstCells_some (P:=a0c) w i5.size ys.length ad ys.length c (cM ys) (by rw[ab,h3,pk]) hc
    have ao:=QI a0c g xs.length 5 fz (cM ys) 0 cur w q2 (by rw[ab];omega) (by rw[ab];omega) (zc ys);simp only[kN]at ao;obtain⟨NC,af⟩:=nm ((cur.toList.take xs.length++cM ys++cur.toList.drop (xs.length+(cM ys).length)).toArray);rw[af]at ao;have ay:xs.length*i5.size=xs.length:=by rw[h3,pk]
    have hr:(Builtin.append_ #[29,29] ty #[.slice (T' ⟨g,0,Y'⟩) xs.length cap,.slice (T' ad) ys.length c]).run a0c w=.ok (.slice (T' ⟨g,0,Y'⟩) (xs.length+ys.length) cap) (w.setRow g NC):=by
     simp[Builtin.append_,run_underlying underlying29,sizeOf,typeInfo,h1,Builtin.lenOf,hroom,hf,ji,ao,ay]
    refine⟨_,_,hr,.inr ⟨g,cap,NC,fz,by rw[aV],setRow_heap w g cur _ 5 _ q2,.inr q3,by rw[aV];omega,q5,?_,?_⟩,⟨rfl,rfl,rfl,J',λk _ hk=>setRow_other w g k _ (λe=>hk (by simp[Value.ownBlock,e]))⟩,.inl rfl⟩
    .rw[<-af]
     simp only[jn,aV,fT,j6,qX,ab];omega
    .rw[<-af]
     show List.take _ (List.toArray _).toList=_;rw[Tf,q7,aV];have:xs.length+ys.length=(cM xs++cM ys).length:=by rw[aV,mr,mr]
     rw[this,kM]
     .simp[cM]
     .rfl
   .have holds:∀(j:Nat)(u:Value),(cM xs)[j]?=T' u->w.cell? ((⟨g,0,Y'⟩:Addr).add j)=T' u:=λj u hu=>by
     have hj:j<xs.length:=by have:=(iu.1 hu).1;rwa[mr]at this
     rw[Addr.add_mid,du,cell_of_row w g j cur _ _ q2];rw[<-q7,ic,au hj]at hu;simpa using hu
    have hr:=run_append_grow (P:=a0c) w 29 ty 5 i5 (.int .u8 0) underlying29 h1 h2 ⟨g,0,Y'⟩ xs.length cap (cM xs) (by rw[mr,h3,pk]) holds ad ys.length c (cM ys) (by rw[ab,h3,pk]) hc f' f' (growslice_fits f' (by rw[h4];omega));have eJ:=grownCap_ge w (xs.length+ys.length) cap 5;have aw:=grownCap_le_maxLen w (xs.length+ys.length) cap 5 a0;refine⟨_,_,hr,.inr ⟨w.heap.size,_,_,(0,0),by rw[aV],heap_alloc_new w.drew _,.inl rfl,by rw[aV];exact eJ,aw,?_,?_⟩,⟨rfl,rfl,rfl,J',λk hk _=>heap_alloc_old w.drew _ (h:=hk)⟩,.inr rfl⟩
    .have a1:(Value.int IntKind.u8 0).cells.size=1:=rfl
     simp only[Array.size_append,jn,size_zeroCells,a1,mr];omega
    .simp only[Array.toList_append,dH]
     rw[<-dH];have:(xs++ys).length=(cM xs++cM ys).length:=by rw[aV,aV,mr,mr]
     rw[this,kM]
     .simp[cM]
     .rfl
end
section
variable {post:AV->GA->Prop}{args:Array Operand}{ts:Array TypeId}{c:Code}{fn:Func}{f:FuncId}{Rc:GA}{args':List AV}{xs ys:List Int}{rest:List Oper}{d t x:Nat}{o:Oper}{v:Value}
section
variable {P:Program}{T:aL}{κ:Ctx}{β:Nat->Option (Nat×Nat)}{F:Nat->AV}{G:Nat->Option cq}{a:Act}{w:World}{n:Nat}{en:dK}{pn:Nat->Option Nat}{R R0:GA}{σ:St}{ops:Array Oper}{K:St->GA->Prop}
def JU(σ:St)(t:Nat)(ys:List Int):Prop:=σ.get t=.ns .u8 ys\/∃id wr,σ.get t=.os id 1 0 ys.length/\σ.ae id=T' ⟨wr,.n .u8 ys⟩
theorem UY(hC:av κ β σ.get σ.ae a w)(h:JU σ t ys)(af:0<ys.length):∃b o cap,a.tmps.getD t undef=.slice (T' ⟨b,o,Y'⟩) ys.length cap/\∀(j:Nat)(u:Value),(cM ys)[j]?=T' u->w.cell? ⟨b,o+j,Y'⟩=T' u:=by
 have hr:=hC.rel t;rcases h with h|⟨id,wr,h1,h2⟩
 .rw[h]at hr
  generalize a.tmps.getD t undef=x at hr;cases hr with
  |ns k xs ad b o cap hc ha hh=>
   obtain⟨e,_⟩:=ha af;subst e;refine⟨b,o,cap,rfl,λj u hj=>?_⟩;simp only[cM,gv,kR]at hj;obtain⟨x,hx,rfl⟩:=hj;exact hh j x hx
 .rw[h1]at hr
  obtain⟨ad,cap,q1,q2,q3⟩:=hr;rcases q3 _ h2 with q3|⟨b,base,C,e,q4,q5,q6,q7⟩
  .omega
  .rcases hC.hp id _ h2 with ab|⟨b',ao,C',aw,p1,p2,p3,p4,p5⟩
   .rw[q4]at ab;cases ab.1
   .rw[q4]at p1
    simp only[aC,db]at p1;obtain⟨rfl,rfl⟩:=p1;rw[q6]at p2;simp only[aC,ma]at p2;obtain⟨rfl,rfl,_⟩:=p2;rw[q5]at q1;refine⟨b,base+0,cap,q1,λj u hj=>?_⟩;simp only[cM,gv,kR]at hj;obtain⟨x,hx,rfl⟩:=hj;obtain⟨v,v1,v2⟩:=p4 j (.r (.int .u8 x)) (by simp[aN.val,hx]);rw[cell_of_block q6,kN,v1,RI.aS v2]
theorem GL.vM{y:Nat}(hop:o.op=.call ⟨.builtin .append,#[.tmp x,.tmp y],#[29,29]⟩)(ay:o.guard=Y')(aw:o.dst=T' d)(hd:d<n)(hx:σ.get x=.r v)(hy:JU σ y ys)(a0:0<ys.length)(hl:xs.length+ys.length<=1000000000)(k:∀v',GL a0c n en pn ops rest K (σ.live.put (T' d) (.r v')) (R0.star (dE v' (xs++ys)))):GL a0c n en pn ops (o::rest) K σ (R0.star (dE v xs)):=by
 intro κ β a w Q hn hg hC hQ;obtain⟨fp,⟨f,g,k1,k2,k3,k4,k5⟩,g2,g3,g4⟩:=hg.now hC;obtain⟨yb,yo,yc,a4,a3⟩:=UY hC hy a0;have ab:=hC.rel x;rw[hx]at ab;have ab:=RI.aS ab;obtain⟨v',w',r1,r2,r3,r4⟩:=QG (ty:=o.type) (ad:=⟨yb,yo,Y'⟩) (c:=yc) k4 hl (λj u hj=>by rw[Addr.add_mid];exact a3 j u hj);have a1:(execOp a.eval o).run a0c w=.ok (.value v') w':=by
  have e1:a.eval (.tmp x)=v:=ab;have e2:a.eval (.tmp y)=.slice (T' ⟨yb,yo,Y'⟩) ys.length yc:=a4;simp only[execOp,hop,resolve,invoke,builtin,cC,cJ,cz,lB,fX,kr,e1,e2,r1]
 have ax:=R0.lt k3;have hb:lU fp w w':=⟨r3.os,r3.tape,r3.output,r3.size,λj hj hf=>r3.block j hj (λe=>hf ((k1 j).2 (.inr ((k5 j).2 e.symm))))⟩;have ao:∀j,f j->v.ownBlock≠T' j:=λj hj e=>k2 j hj ((k5 j).2 e)
 have af:∀j,v'.ownBlock=T' j->j<w.heap.size->v.ownBlock=T' j:=λj e hj=>by
  rcases r4 with r4|r4
  .rw[<-r4];exact e
  .rw[r4]at e;cases e;omega
 obtain⟨a5,h1,h2,h3,h4⟩:=hg.call (w':=w') (R':=R0.star (dE v' (xs++ys))) (fp':=λj=>f j\/v'.ownBlock=T' j) hC g2 g3
  ⟨f,λj=>v'.ownBlock=T' j,λ_=>dr,λj hj e=>ao j hj (af j e (ax j hj)),R0.loc r3.size (λj hj hh=>r3.block j hj (λe=>by
   rcases hh with hh|hh
   .exact ao j hh e.symm
   .exact hh (.inl (g2 j ((k1 j).2 (.inr ((k5 j).2 e.symm))))))) (λj hj hx=>by
   rcases hx with hx|hx|hx
   .exact hx
   .exact .inl (g2 j ((k1 j).2 (.inl hx)))
   .exact .inl (g2 j ((k1 j).2 (.inr ((k5 j).2 (af j hx hj)))))) k3,r2,λ_=>dr⟩
  (λj hj hx=>by
   rcases hx with hx|hx
   .exact(k1 j).2 (.inl hx)
   .exact(k1 j).2 (.inr ((k5 j).2 (af j hx hj)))) hb
 refine oR (w':=w') ay a1 (k v' a5 β _ _ Q (h1.trans hn) h2 ?_ hQ);rw[St.fh,St.eQ,St.iD,St.gm,aw];exact h3.put (λt' ht=>by cases ht;rw[h1,hn];exact hd) (RI.r _)
theorem aA.n9{args:List AV}(h:aA P f args Rc post)(Fr:GA)(hR:R.le (Fr.star Rc)):aA P f args R (λr R'=>∃R1,post r R1/\R'=Fr.star R1):=
 (h.frame Fr).le (hR.trans (GA.comm _ _)) (λ_ _⟨R1,h1,h2⟩=>⟨Fr.star R1,by rw[h2];exact GA.comm _ _,R1,h1,rfl⟩)
theorem GL.C4(T:aL)(Fr:GA)(hG:aA P f args' Rc post)(hR:R.le (Fr.star Rc))(hop:o.op=.call ⟨.value (.func f),args,ts⟩)(ab:o.guard=Y')(hf:P.funcs[f]?=T' fn)(hb:fn.body=T' c)(ao:(fn.name== "runtime.NumGoroutine")=a0a)(hargs:cS T σ.get args.toList ts.toList=args')(af:args'.all AV.im=Z')(hd:∀t,o.dst=T' t->t<n)(k:∀r R',post r R'->r.im=Z'/\GL P n en pn ops rest K (σ.live.put o.dst r) (Fr.star R')):GL P n en pn ops (o::rest) K σ R:=
 GL.call T (hG.n9 Fr hR) hop ab hf hb ao hargs af hd (λr aw⟨R1,h1,h2⟩=>by subst h2;exact k r R1 h1)
theorem GL.le{os:List Oper}{R':GA}(hR:R.le R')(h:GL P n en pn ops os K σ R'):GL P n en pn ops os K σ R:=GL.ja (eZ.of (Le.refl σ) hR) h
theorem eZ.th(aw:∀b,¬en.fp b)(ht:σ.get t=.r v)(a3:t<n):eZ n en pn σ (R.star (dE v xs)) (σ.live.put (T' t) (.ns .u8 xs)) R:=by
 intro κ β a w hn hg hC;obtain⟨fp,⟨f,g,k1,k2,k3,k4,k5⟩,g2,g3,g4⟩:=hg.now hC;have a1:en.W.heap.size<=w.heap.size:=fC hg.size hC.aQ.size;have ay:∀b,v.ownBlock=T' b->en.W.heap.size<=b:=λb hb=>nV λax=>aw b (g3 b ax ((k1 b).2 (.inr ((k5 b).2 hb))))
 have af:=hC.wZ (G':=cN σ.ae) (w':=w) (X':=λc=>κ.X0 c/\v.ownBlock≠T' c) hg.mu (nD _) (λ_ _ _=>rfl) (aM _) (λc h0=>da (hC.x0 c h0.1).1 hC.aQ.size)
  (λc _ hx=>.inl hx.1) (λi base ae c q1 q2 hx=>hC.kq hg.mu (iR q1).1 q2 hx.1)
 have ao:∀c,XG ⟨κ.nt,w,λc=>κ.X0 c/\v.ownBlock≠T' c,Y',λb=>∃id base ae,cN σ.ae id=T' ae/\β id=T' (b,base),κ.df,κ.bC⟩ β (cN σ.ae) c->XG κ β σ.ae c/\v.ownBlock≠T' c:=by
  intro c hx;rcases hx with hx|⟨i,cn,base,q1,q2⟩
  .exact⟨.inl hx.1,hx.2⟩
  .refine⟨.inr ⟨i,cn,base,(iR q1).1,q2⟩,λe=>?_⟩
   exact hC.kq hg.mu (iR q1).1 q2 (g2 c ((k1 c).2 (.inr ((k5 c).2 e))))
 refine⟨⟨κ.nt,w,λc=>κ.X0 c/\v.ownBlock≠T' c,Y',λb=>∃id base ae,cN σ.ae id=T' ae/\β id=T' (b,base),κ.df,κ.bC⟩,β,hn,⟨rfl,hg.df,hg.bC,⟨f,R.loc (aM _) (λ_ _ _=>rfl) (λc _ hx=>?_) k3,λc hc=>⟨g2 c ((k1 c).2 (.inl hc)),λe=>k2 c hc ((k5 c).2 e)⟩,λc hc hx=>g3 c hc ((k1 c).2 (.inl hx))⟩,λc hc=>?_,λc hc hl=>hg.oS c hc.1 hl,λc hc⟨i,base,ae,q1,q2⟩=>?_,λc hc hf=>?_,hC.aQ.os.trans hg.os,hC.aQ.tape.trans hg.tape,hC.aQ.output.trans hg.output,a1⟩,?_⟩
 .rcases hx with hx|⟨i,base,ae,q1,q2⟩
  .exact .inl hx.1
  .obtain⟨q1,c',rfl⟩:=iR q1
   exact .inr ⟨i,c',base,q1,q2⟩
 .rcases hg.nJ c hc with h|h
  .exact .inl ⟨h,λe=>by
    have:=ay c e;have:=en.lt c hc;omega⟩
  .exact .inr h
 .have q:=hC.mM hg.mu (iR q1).1 q2
  exact hg.ow c hc (lr λa0=>q.1 ⟨da hc hg.size,λho=>absurd ho a0⟩)
 .show w.heap[c]?=_
  rw[hC.aQ.same hg.mu ⟨da hc hg.size,λho=>absurd (hg.ow c hc ho) hf⟩,hg.old c hc hf]
 .rw[St.fh,St.eQ,St.iD,St.gm]
  have ab:=hC.rel t;rw[ht]at ab;have ab:=RI.aS ab;refine af.Bu ?_;rw[ab];exact k4.ri (λk hk hx=>(ao k hx).2 hk)
def jX(s:ByteArray):List Int:=s.data.toList.map λb=>(b.toNat:Int)
theorem UZ(s:ByteArray)(c:Nat):(bytesRow s c).toList.take (jX s).length=cM (jX s):=by
 have e1:(bytesRow s c).toList=cM (jX s)++List.replicate (c-s.size) (.int .u8 0):=by simp[bytesRow,jX,cM]
 rw[e1,kM];simp[cM]
theorem GL.newRow(af:o.guard=Y')(ab:o.dst=T' d)(hd:d<n)(ao:∀(κ:Ctx)(β:Nat->Option (Nat×Nat))(a:Act)(w:World),κ.nt=n->cK en pn R κ->av κ β σ.get σ.ae a w->∃v w',(execOp a.eval o).run P w=.ok (.value v) w'/\lE w' v xs/\Below w.heap.size w w'/\(∀k,v.ownBlock=T' k->w.heap.size<=k))(k:∀v,GL P n en pn ops rest K (σ.live.put (T' d) (.r v)) (R.star (dE v xs))):GL P n en pn ops (o::rest) K σ R:=by
 intro κ β a w Q hn hg hC hQ;obtain⟨v,w',r1,r2,r3,r4⟩:=ao κ β a w hn hg hC;obtain⟨fp,g1,g2,g3,g4⟩:=hg.now hC;have hX:∀b,b<w.heap.size->XG κ β σ.ae b\/(fp b\/v.ownBlock=T' b)->XG κ β σ.ae b:=λb hb hx=>hx.elim id (λh=>h.elim (λh=>.inl (g2 b h)) (λe=>by have:=r4 b e;omega))
 obtain⟨aw,h1,h2,h3,h4⟩:=hg.call (w':=w') (R':=R.star (dE v xs)) (fp':=λb=>fp b\/v.ownBlock=T' b) hC g2 g3
  ⟨fp,λb=>v.ownBlock=T' b,λ_=>dr,λb hb e=>by have:=g4 b hb;have:=r4 b e;omega,R.loc r3.size (λb hb _=>r3.block b hb) hX g1,r2,λ_=>dr⟩
  (λb hb hx=>hx.elim id (λe=>by have:=r4 b e;omega)) ⟨r3.os,r3.tape,r3.output,r3.size,λb hb _=>r3.block b hb⟩
 refine oR (w':=w') af r1 (k v aw β _ _ Q (h1.trans hn) h2 ?_ hQ);rw[St.fh,St.eQ,St.iD,St.gm,ab];exact h3.put (λt' ht=>by cases ht;rw[h1,hn];exact hd) (RI.r _)
theorem GL.afz{R:GA}{K:St->GA->Prop}{s:ByteArray}(hop:o.op=.convert 9 29 (.tmp x))(a0:o.guard=Y')(ay:o.dst=T' d)(hd:d<n)(hx:σ.get x=.r (.string s))(hs:s.size<=1000000)(k:∀v,GL a0c n en pn ops rest K (σ.live.put (T' d) (.r v)) (R.star (dE v (jX s)))):GL a0c n en pn ops (o::rest) K σ R:=by
 refine GL.newRow a0 ay hd (λκ β a w hn hg hC=>?_) k;have hv:=hC.rel x;rw[hx]at hv;have hv:=RI.aS hv;have e1:a.eval (.tmp x)=.string s:=hv;have hr:=run_bytes_of_string (P:=a0c) w 9 29 5 s underlying9 underlying29 underlying5;have eJ:=grownCap_ge w s.size 0 5;have af:=grownCap_le_maxLen w s.size 0 5 (by simp only[maxLen];omega);obtain⟨cp,ax⟩:=nm (grownCap w s.size 0 5);rw[ax]at hr eJ af;have a3:(jX s).length=s.size:=by unfold jX;rw[fJ,qX];rfl
 have ab:(bytesRow s cp).size=cp:=by
  unfold bytesRow;rw[Array.size_append,Array.size_map,Array.size_replicate];have:s.data.size=s.size:=rfl;omega
 obtain⟨BR,aw⟩:=nm (bytesRow s cp);have ao:=UZ s cp;rw[aw]at hr ab ao;have a1:(execOp a.eval o).run a0c w=.ok (.value (.slice (T' ⟨w.heap.size,0,Y'⟩) s.size cp)) (w.drew.alloc (.cells BR 5 (BR.size,BR.size+1))):=by
  unfold execOp;simp only[hop,e1,cC,hr,cz,cJ]
 refine⟨_,_,a1,.inr ⟨w.heap.size,cp,BR,(BR.size,BR.size+1),by rw[a3],World.alloc_heap_new w.drew _,.inr (by rw[ab];exact aM _),f',af,ab,ao⟩,⟨rfl,rfl,rfl,J',λj hj=>xn w.drew _ _ hj⟩,λj hj=>by cases hj;exact aM _⟩
end
theorem pD{P:Program}{n:Nat}{en:dK}{pn:Nat->Option Nat}{R:GA}{σ:St}{ops:Array Oper}{K:St->GA->Prop}(T:aL)(Fr:GA)(hG:aA P f args' Rc post)(hR:R.le (Fr.star Rc))(hf:P.funcs[f]?=T' fn)(k:∀r R',post r R'->r.im=Z'/\GL P n en pn ops rest K (σ.live.put o.dst r) (Fr.star R'))(hop:o.op=.call ⟨.value (.func f),args,ts⟩:=by rfl)(ab:o.guard=none:=by rfl)(hb:fn.body=T' c:=by rfl)(ao:(fn.name== "runtime.NumGoroutine")=false:=by decide)(hargs:cS T σ.get args.toList ts.toList=args':=by rfl)(af:args'.all AV.im=true:=by rfl)(hd:∀t,o.dst=T' t->t<n:=by(intro t ht;cases ht;decide)):GL P n en pn ops (o::rest) K σ R:=
 GL.C4 T Fr hG hR hop ab hf hb ao hargs af hd k
theorem sZ{P:Program}{n:Nat}{en:dK}{pn:Nat->Option Nat}{R:GA}{σ:St}{ops:Array Oper}{K:St->GA->Prop}{B:GA}{a:AV}(T:aL)(Fr:GA)(hG:aA P f args' Rc (λr R'=>r=a/\R'=B))(hR:R.le (Fr.star Rc))(hf:P.funcs[f]?=T' fn)(k:GL P n en pn ops rest K (σ.live.put o.dst a) (Fr.star B))(hi:a.im=true:=by rfl)(hop:o.op=.call ⟨.value (.func f),args,ts⟩:=by rfl)(ab:o.guard=none:=by rfl)(hb:fn.body=T' c:=by rfl)(ao:(fn.name== "runtime.NumGoroutine")=false:=by decide)(hargs:cS T σ.get args.toList ts.toList=args':=by rfl)(af:args'.all AV.im=true:=by rfl)(hd:∀t,o.dst=T' t->t<n:=by(intro t ht;cases ht;decide)):GL P n en pn ops (o::rest) K σ R:=
 GL.C4 T Fr hG hR hop ab hf hb ao hargs af hd (λr R' hp=>by obtain⟨rfl,rfl⟩:=hp;exact⟨hi,k⟩)
end
def aI(n:Int)(k:Nat):List Int:=(List.range k).map λi=>n/256^i%256
theorem yE(n:Int)(k:Nat):aI n (k+1)=aI n k++[n/256^k%256]:=by simp[aI,xz]
theorem cX(n:Int)(k:Nat):(aI n k).length=k:=by simp[aI]
theorem uM(n:Int)(k:Nat):∀x∈aI n k,0<=x/\x<256:=by
 intro x hx;simp only[aI,mX]at hx;obtain⟨i,_,rfl⟩:=hx;omega
theorem DP(n:Int)(h0:0<=n):∀k,cP (aI n k)=n%256^k:=by
 intro k
 induction k with
 |zero=>simp[aI,cP,Int.emod_one]
 |succ k ih=>
  have h:=Oo (aI n (k+1)) k (by rw[cX];omega);rw[gG (by rw[cX];omega)]at h;have e1:(aI n (k+1)).take k=aI n k:=by rw[yE,kM (cX n k)]
  have e2:(aI n (k+1)).getD k 0=n/256^k%256:=by rw[yE,cF,jz (by rw[cX];omega),cX];simp
  rw[h,e1,e2,ih,jw];have hp:(0:Int)<256^k:=jl p';generalize(256:Int)^k=P at*;have a1:=S0 n P;have a2:=S0 (n/P) 256;have b1:=o5 n (show P≠0 from f');have b2:=sd n hp;obtain⟨r,hr⟩:=nm (n/P%256);obtain⟨q,hq⟩:=nm (n/P/256);obtain⟨t,ht⟩:=nm (n%P);rw[ht]at a1 b1 b2|-;rw[hr,hq]at a2;rw[hr];have c1:0<=r/\r<256:=f';have e1:n=t+r*P+P*256*q:=by rw[<-a1,<-a2,tX,<-mW,gD P r];omega
  have e2:0<=r*P:=dP c1.1 (bo hp);have e3:r*P<=255*P:=gj f' (bo hp);rw[e1,JY,zG f' f']
theorem wrap_u8(x:Int):IntKind.u8.wrap x=x%256:=by rw[J9]
theorem Ed{v:Value}{xs:List Int}{n:Int}(h0:0<=n)(h1:n<18446744073709551616)(hl:xs.length<=100000000):aA a0c 152 [.r v,.r (.int .u64 n)] (dE v xs) (λr R=>∃v',r=.r v'/\R=dE v' (xs++aI n 8)):=by
 have hE:=env dC;have hw:∀k,(xs++aI n k).length=xs.length+k:=λk=>by rw[aV,cX]
 refine(aA.body (R:=GA.cQ.star (dE v xs)) hE func152 ntmps152 results152 (post:=λr R=>∃v',r=.r v'/\R=GA.cQ.star (dE v' (xs++aI n 8))) (λen=>?_)).le (GA.vU _) (λr R'⟨v',h2,h3⟩=>⟨dE v' (xs++aI n 8),by rw[h3];exact GA.AE _,v',h2,rfl⟩);refine aa.seq (aa.of (T:=ag a0a) ?_);refine aK ?_;show aa _ _ _ _ _ _ _ _;refine aa.seq (aa.seq (aa.of (T:=ag a0a) ?_));refine aK ?_;show aa _ _ _ _ _ _ _ _;refine aa.block ?_;refine aa.loop (ι:={k:Nat // k<=8}×Value) (λp=>(⟨[(0,.r p.2),(1,.r (.int .u64 n)),(6,(p.1.1:Int))],[]⟩,GA.cQ.star (dE p.2 (xs++aI n p.1.1)))) (λp=>8-p.1.1) (⟨0,dU _⟩,v) ?_ ?_ ?_
 .exact Le.mk a0b
 .have:aI n 0=[]:=rfl
  rw[this,jx];exact GA.le.refl _
 rintro⟨⟨k,hk⟩,u⟩;dsimp only
 by_cases hlt:k<8
 .have ab:(k:Int)<8:=f'
  have hs:IntKind.u8.wrap (n.fdiv (2^(8*k)))=n/256^k%256:=by rw[wrap_u8,lW _ (bo (jl p')),Ck];rfl
  obtain⟨q,hq⟩:=nm (n/256^k%256);rw[hq]at hs;have l:xs++aI n (k+1)=xs++aI n k++[q]:=by rw[yE,dH,hq]
  refine a9 ab ?_;refine aa.seq (gT ?_);refine aa.seq (aa.block (aE ?_));refine aa.region ?_;refine GL.gB 7 hE rfl rfl ?_;simp only[fy,eD,fS,fe];refine an (A2 ab hs) ?_;refine GL.vM rfl rfl rfl p' rfl (.inr ⟨15,Z',rfl,rfl⟩) Nat.one_pos (by rw[hw];show _+1<=_;omega) (λv'=>?_);refine GL.gB 1 hE rfl rfl ?_;simp only[fy,eD,fS,fe];refine aK ?_;refine gN ?_;refine aa.of (T:=ag a0a) ?_;refine aK ?_;exact⟨(⟨k+1,f'⟩,v'),Le.mk a0b,by rw[<-l];exact GA.le.refl _,N'⟩
 obtain rfl:k=8:=f';refine aE ?_;refine aa.seq (gX ?_);refine aa.of (T:=ag a0a) ?_;refine aK ?_;exact dM.of ⟨u,rfl,rfl⟩ (aO.mk a0b rfl)
section
variable {h:Int}{xs:List Int}
theorem Hk(h0:0<=h)(h1:h<18446744073709551616)(xs:List Int):∀k,0<=fW h xs k/\fW h xs k<18446744073709551616
 |0=>⟨h0,h1⟩
 |k+1=>by
  show 0<=qC _ _/\qC _ _<_;unfold qC;rw[eP];omega
theorem B8.of(h:∀x∈xs,0<=x/\x<256)(hl:xs.length<1000000):B8 xs:=⟨λk hk=>by
 have:xs.getD k 0∈xs:=by rw[cF,ed hk];exact qg hk
 exact h _ this,hl⟩
theorem afy(s:ByteArray):∀x∈jX s,0<=x/\x<256:=by
 intro x hx;simp only[jX,mX]at hx;obtain⟨b,_,rfl⟩:=hx;have:=b.toNat_lt;omega
def pH(s:ByteArray)(a b:Int)(data:List Int):List Int:=jX s++aI a 8++aI b 8++aI data.length 8
def fO(s:ByteArray)(a b:Int)(data:List Int):List Int:=pH s a b data++aI (fW (fW 14695981039346656037 (pH s a b data) (pH s a b data).length) data data.length) 8
theorem HC(s:ByteArray)(a b:Int)(data:List Int):∀x∈pH s a b data,0<=x/\x<256:=by
 intro x hx;simp only[pH,jm]at hx;rcases hx with((h|h)|h)|h
 .exact afy s x h
 all_goals exact uM _ _ x h
def uI(s:ByteArray)(a b d:Int):Nat->List Int
 |0=>jX s
 |1=>jX s++aI a 8
 |2=>jX s++aI a 8++aI b 8
 |_=>jX s++aI a 8++aI b 8++aI d 8
theorem afA{v:Value}(hB:B8 xs):aA a0c 153 [.r (.int .u64 h),.r v] (dE v xs) (λr R=>r=.r (.int .u64 (fW h xs xs.length))/\R=dE v xs):=by
 refine aA.PU (args':=[.r (.int .u64 h),.ns .u8 xs]) func153 rfl p' ((Sx [.r (.int .u64 h),.ns .u8 xs] hB).1 rfl) rfl rfl (λw X fp hr ab j c c' h1 h2 u hu=>?_)
 match j,h1,h2 with
 |0,h1,h2=>
  cases h1;cases h2;rw[RI.aS hu];exact RI.r _
 |1,h1,h2=>
  cases h1;cases h2;rw[RI.aS hu];exact hr.1.ri (λk hk hx=>hx.2 ((hr.2 k).2 hk))
theorem YO{s:ByteArray}{a b:Int}{data:List Int}(hs:s.size<=100)(a0:0<=a)(a1:a<9223372036854775808)(b0:0<=b)(b1:b<9223372036854775808)(hB:B8 data):
 aA a0c 130 [.r (.string s),(a:Int),(b:Int),.ns .u8 data] .cQ (λr R=>r=.ns .u8 (fO s a b data)/\R=.cQ):=by
 have hE:=di Sx;have a6:data.length<1000000:=hB.2;have ab:(jX s).length=s.size:=by unfold jX;rw[fJ,qX];rfl
 obtain⟨DL,ax⟩:∃DL:Int,(data.length:Int)=DL:=⟨_,rfl⟩;have dl:0<=DL/\DL<1000000:=f';refine aA.sJ hE func130 ntmps130 results130 (λen a5=>?_);refine aE ?_;refine aa.bG ?_;refine GL.gB 1 hE rfl rfl ?_;simp only[fy,eD,fS,fe];refine aK ?_;refine GL.afz rfl rfl rfl p' rfl f' (λv0=>?_);refine GL.gB 1 hE rfl rfl ?_;simp only[fy,eD,fS,fe];refine aK ?_;refine GL.nil ?_;refine aa.seq (a9 ax ?_);refine aa.block ?_;refine aa.loop (ι:={k:Nat // k<=3}×Value) (λp=>(⟨[(3,.ns .u8 data),(9,.r p.2),(18,.os 18 1 0 3),(19,(3:Int)),(20,(p.1.1:Int))],[(18,⟨Z',.n .i64 [a,b,DL]⟩)]⟩,GA.cQ.star (dE p.2 (uI s a b DL p.1.1)))) (λp=>3-p.1.1) (⟨0,dU _⟩,v0) ?_ ?_ ?_
 .exact Le.mk a0b
 .exact GA.le.refl _
 rintro⟨⟨k,hk⟩,u⟩;dsimp only;have a4:k=0\/k=1\/k=2\/k=3:=f';rcases a4 with rfl|rfl|rfl|rfl
 .refine aE ?_
  refine aa.seq (gT ?_);refine aa.seq (aa.block (aE ?_));refine aa.region ?_;refine GL.gB 3 hE rfl rfl ?_;simp only[fy,eD,fS,fe];refine aK ?_;refine pD (ag a0a) .cQ (Ed (v:=u) (xs:=uI s a b DL 0) (n:=a) f' f' (by simp only[uI,aV,cX,ab];omega)) (GA.le.refl _) func152 (λr R' hp=>?_);obtain⟨v',rfl,rfl⟩:=hp;refine⟨rfl,?_⟩;refine GL.gB 1 hE rfl rfl ?_;simp only[fy,eD,fS,fe];refine aK ?_;refine gN ?_;refine aa.of (T:=ag a0a) ?_;refine aK ?_;exact⟨(⟨1,f'⟩,v'),Le.mk a0b,GA.le.refl _,N'⟩
 .refine aE ?_
  refine aa.seq (gT ?_);refine aa.seq (aa.block (aE ?_));refine aa.region ?_;refine GL.gB 3 hE rfl rfl ?_;simp only[fy,eD,fS,fe];refine aK ?_;refine pD (ag a0a) .cQ (Ed (v:=u) (xs:=uI s a b DL 1) (n:=b) f' f' (by simp only[uI,aV,cX,ab];omega)) (GA.le.refl _) func152 (λr R' hp=>?_);obtain⟨v',rfl,rfl⟩:=hp;refine⟨rfl,?_⟩;refine GL.gB 1 hE rfl rfl ?_;simp only[fy,eD,fS,fe];refine aK ?_;refine gN ?_;refine aa.of (T:=ag a0a) ?_;refine aK ?_;exact⟨(⟨2,f'⟩,v'),Le.mk a0b,GA.le.refl _,N'⟩
 .refine aE ?_
  refine aa.seq (gT ?_);refine aa.seq (aa.block (aE ?_));refine aa.region ?_;refine GL.gB 3 hE rfl rfl ?_;simp only[fy,eD,fS,fe];refine aK ?_;refine pD (ag a0a) .cQ (Ed (v:=u) (xs:=uI s a b DL 2) (n:=DL) f' f' (by simp only[uI,aV,cX,ab];omega)) (GA.le.refl _) func152 (λr R' hp=>?_);obtain⟨v',rfl,rfl⟩:=hp;refine⟨rfl,?_⟩;refine GL.gB 1 hE rfl rfl ?_;simp only[fy,eD,fS,fe];refine aK ?_;refine gN ?_;refine aa.of (T:=ag a0a) ?_;refine aK ?_;exact⟨(⟨3,f'⟩,v'),Le.mk a0b,GA.le.refl _,N'⟩
 .have hA:uI s a b DL 3=pH s a b data:=by rw[<-ax];rfl
  rw[hA];have a3:(pH s a b data).length=s.size+24:=by simp only[pH,aV,cX,ab]
  have aw:B8 (pH s a b data):=B8.of (HC s a b data) f';obtain⟨HA,ao⟩:=nm (pH s a b data);have af:fO s a b data=HA++aI (fW (fW 14695981039346656037 HA HA.length) data data.length) 8:=by rw[<-ao];rfl
  rw[ao]at a3 aw|-;have f1:=Hk (h:=14695981039346656037) p' p' HA HA.length;obtain⟨F1,e1⟩:=nm (fW 14695981039346656037 HA HA.length);have ay:=afA (v:=u) (h:=14695981039346656037) aw;rw[e1]at f1 af ay;have f2:=Hk f1.1 f1.2 data data.length;obtain⟨F2,e2⟩:=nm (fW F1 data data.length);rw[e2]at f2 af;refine aE ?_;refine aa.seq (gX ?_);refine aa.bG ?_;refine GL.gB 2 hE rfl rfl ?_;simp only[fy,eD,fS,fe];refine aK ?_;refine sZ (ag a0a) .cQ ay (GA.le.refl _) func153 ?_;refine GL.gB 2 hE rfl rfl ?_;simp only[fy,eD,fS,fe];refine an e2 ?_;refine pD (ag a0a) .cQ (Ed (v:=u) (xs:=HA) (n:=F2) f2.1 f2.2 f') (GA.le.refl _) func152 (λr R' hp=>?_);obtain⟨v',rfl,rfl⟩:=hp;refine⟨rfl,?_⟩;refine GL.gB 1 hE rfl rfl ?_;simp only[fy,eD,fS,fe];refine aK ?_;refine GL.ja (eZ.th (t:=8) (v:=v') (xs:=HA++aI F2 8) a5 rfl p') ?_;refine gN ?_;refine aa.ret ?_;refine dM.of ⟨rfl,rfl⟩ (aO.mk a0b ?_);rw[af]
end
section
variable {i n:Int}{f:Int->List Int}{xs:List Int}{b c:Nat}
def ib(f:Int->List Int)(i:Int)(xs:List Int):Int->List Int:=λk=>if k=i then xs++List.replicate (512-xs.length) 0 else f k
theorem Qd(h0:0<=i)(hn:i<n)(ax:n<=4096)(hc:c<=1000000)(x0:0<xs.length)(x1:xs.length<=512):
 aA a0c 136 [b,(i:Int),.ns .u8 xs] (aZ b n f c) (λr R=>r=.r (.int .i64 0)/\R=aZ b n (ib f i xs) (c+1)):=by
 have hE:=env dC;obtain⟨N,hN⟩:=nm (xs.length);rw[hN]at x0 x1;have aw:xs.take N=xs:=by rw[<-hN];exact pf
 have af:xs.drop N=[]:=by rw[<-hN];exact Cp
 refine aA.body hE func136 ntmps136 results136 (λen=>?_);refine aE ?_;refine aa.seq (aa.block ?_);refine aa.loop (ι:=Bool) (λp=>if p then(⟨[(0,b),(1,(i+1:Int)),(2,.ns .u8 [])],[]⟩,aZ b n (ib f i xs) (c+1))else(⟨[(0,b),(1,(i:Int)),(2,.ns .u8 xs)],[]⟩,aZ b n f c)) (λp=>if p then 0 else 1) a0a ?_ ?_ ?_
 .exact Le.mk a0b
 .exact GA.le.refl _
 intro p;cases p with
 |false=>
  have ao:(if(512:Int)<N then(512:Int)else N)=N:=aq f';refine aa.seq (a9 (A2 hN (show(0:Int)<N from f')) ?_);refine gT ?_;refine aa.block (aa.seq (aa.of (T:=ag a0a) ?_));refine cy (A2 hN ao) ?_;show aa _ _ _ _ _ _ _ _;refine aa.seq (aa.seq (aa.region ?_));refine GL.gB 5 hE rfl rfl ?_;simp only[fy,eD,fS,fe];refine an (A2 hN aw) ?_;refine gE (ag a0a) (MO b n f c i xs h0 hn hc f') func106 ?_;refine GL.gB 1 hE rfl rfl ?_;simp only[fy,eD,fS,fe];refine aK ?_;refine gN ?_;have ab:((0:Int)!=0)=false:=rfl;refine a9 ab ?_;refine gF ?_;refine aa.of (T:=ag a0a) ?_;refine an (A2 hN af) ?_;exact⟨Z',Le.mk a0b,GA.le.refl _,p'⟩
 |true=>
  refine aa.seq (aE ?_);refine gX ?_;refine aa.of (T:=ag a0a) ?_;refine aK ?_;exact pG
theorem Dn(h0:0<=i)(hn:i<n)(af:n<=4096)(hc:c<1000000)(x0:0<xs.length)(x1:xs.length<=512):
 aA a0c 129 [b,(i:Int),.ns .u8 xs] (aZ b n f c) (λr R=>r=.r (.int .i64 0)/\R=aZ b n (ib f i xs) 0):=by
 have hE:=env dC;refine aA.body hE func129 ntmps129 results129 (λen=>?_);refine aE ?_;refine aa.seq (aa.seq (aa.region ?_));refine GL.gB 3 hE rfl rfl ?_;simp only[fy,eD,fS,fe];refine aK ?_;refine gE (ag a0a) (Qd h0 hn af f' x0 x1) func136 ?_;refine GL.gB 1 hE rfl rfl ?_;simp only[fy,eD,fS,fe];refine aK ?_;refine gN ?_;have ab:((0:Int)!=0)=false:=rfl;refine a9 ab ?_;refine gF ?_;refine aa.bG ?_;refine GL.gB 1 hE rfl rfl ?_;simp only[fy,eD,fS,fe];refine aK ?_;refine gE (ag a0a) (GI b n _ (c+1) f') func107 ?_;refine GL.gB 1 hE rfl rfl ?_;simp only[fy,eD,fS,fe];refine aK ?_;refine GL.nil ?_;refine aa.ret ?_;exact pG
end
section
variable {i n:Int}{f:Int->List Int}{b c:Nat}
theorem GL.guarded{P:Program}{n:Nat}{en:dK}{pn:Nat->Option Nat}{ops:Array Oper}{K:St->GA->Prop}{σ:St}{R:GA}{o:Oper}{rest:List Oper}(hw:gw ops σ.get o=T' Z')(h:GL P n en pn ops ({o with guard:=Y'}::rest) K σ R):GL P n en pn ops (o::rest) K σ R:=by
 intro κ β a w Q hn hg hC hQ;have h1:=h κ β a w Q hn hg hC hQ;have ab:=Hu hC hw;unfold wpList at h1|-;rw[ab,au rfl];rw[au (by simp[Region.wanted])]at h1;exact h1
theorem HZ(hn:6<=n)(ab:n<=4096):
 aA a0c 108 [b,(0:Int),(2:Int)] (aZ b n f c) (λr R=>r=.r (.bool Z')/\R=aZ b n f c):=by
 have hE:=env dC;refine aA.body hE func108 ntmps108 results108 (λen=>?_);refine aE ?_;refine aa.bG ?_;refine GL.gB 9 hE rfl rfl ?_;simp only[fy,eD,fS,fe];refine aK ?_;refine GL.guarded rfl ?_;refine gE (ag a0a) (rB b n f c) func58 ?_;have h2:(2:Int)<=n:=f';refine GL.gB 5 hE rfl rfl ?_;simp only[fy,eD,fS,fe];refine an h2 ?_;refine GL.guarded rfl ?_;refine gE (ag a0a) (rB b n f c) func58 ?_;have h3:(0:Int)<=n-4:=f';have h4:-9223372036854775808<=n-4/\n-4<9223372036854775808:=f';refine GL.gB 6 hE rfl rfl ?_;simp only[fy,eD,fS,fe];refine an (A2 h3 h4) ?_;refine GL.nil ?_;refine aa.ret ?_;exact pG
theorem Yr:
 aA a0c 133 [b,(i:Int),(0:Int)] (aZ b n f c) (λr R=>r=.ns .u8 []/\R=aZ b n f c):=by
 have hE:=di By;have ab:(511:Int)/512=0:=p';refine aA.body hE func133 ntmps133 results133 (λen=>?_);refine aE ?_;refine aE ?_;show aa _ _ _ _ _ _ _ _;refine aa.seq (a9 ab ?_);refine aa.block ?_;refine aa.loop (ι:=Unit) (λ_=>(⟨[(0,b),(1,(i:Int)),(2,(0:Int)),(7,.ns .u8 []),(12,(0:Int)),(13,(0:Int))],[]⟩,aZ b n f c)) (λ_=>0) () ?_ ?_ ?_
 .exact Le.mk a0b
 .exact GA.le.refl _
 intro _;refine aE ?_;refine aa.seq (gX ?_);refine aE ?_;refine aa.ret ?_;exact pG
theorem Ys{m:Nat}(h0:0<=i)(hn:i<n)(ao:n<=4096)(hc:c<=1000000)(m0:0<m)(m1:m<=512)(hf:(f i).length=512):
 aA a0c 133 [b,(i:Int),(m:Int)] (aZ b n f c) (λr R=>r=.ns .u8 ((f i).take m)/\R=aZ b n f c):=by
 have hE:=di By;have af:((m:Int)+512-1)/512=1:=f';obtain⟨xs,ab⟩:=nm (f i);rw[ab]at hf|-;refine aA.body hE func133 ntmps133 results133 (λen=>?_);refine aE ?_;refine aE ?_;show aa _ _ _ _ _ _ _ _;refine aa.seq (a9 af ?_);refine aa.block ?_;refine aa.loop (ι:=Bool) (λp=>if p then(⟨[(0,b),(1,(i:Int)),(2,(m:Int)),(7,.os 26 1 0 512),(12,(1:Int)),(13,(1:Int))],[(26,⟨Z',.n .u8 xs⟩)]⟩,aZ b n f c)else(⟨[(0,b),(1,(i:Int)),(2,(m:Int)),(7,.dt),(12,(1:Int)),(13,(0:Int))],[]⟩,aZ b n f c)) (λp=>if p then 0 else 1) a0a ?_ ?_ ?_
 .exact Le.mk a0b
 .exact GA.le.refl _
 intro p;cases p with
 |false=>
  refine aE ?_;refine aa.seq (gT ?_);refine aa.seq (aa.block (aE ?_));refine aa.bG ?_;refine GL.gB 4 hE rfl rfl ?_;simp only[fy,eD,fS,fe];refine aK ?_;refine gC (ag a0a) (vT b n f c i h0 hn hc) func69 (λr R' hp=>?_);obtain⟨rfl,rfl⟩:=hp;rw[ab];refine⟨rfl,?_⟩;refine GL.gB 5 hE rfl rfl ?_;simp only[fy,eD,fS,fe];refine aK ?_;refine gN ?_;refine aa.of (T:=ag a0a) ?_;refine cy hf ?_;show aa _ _ _ _ _ _ _ _;refine aa.of (T:=ag a0a) ?_;refine aT ?_;exact⟨Z',Le.mk a0b,GA.le.refl _,p'⟩
 |true=>
  refine aE ?_;refine aa.seq (gX ?_);refine a9 hf ?_;refine aa.ret ?_;exact pG
end
section
variable {xs:List Int}
@[push_cast] def I4:Sp where
 kind:=0
 pre
  |[.r (.string s),.r (.int .i64 a),.r (.int .i64 b),.ns .u8 data]=>s.size<=100/\0<=a/\a<9223372036854775808/\0<=b/\b<9223372036854775808/\B8 data
  |_=>False
 res
  |[.r (.string s),.r (.int .i64 a),.r (.int .i64 b),.ns .u8 data]=>.ns .u8 (fO s a b data)
  |_=>.any
theorem HD:aj a0c 130 I4:=by
 refine sz λargs hp=>?_
 split at hp;rotate_left;cases hp;obtain⟨h1,h2,h3,h4,h5,h6⟩:=hp;exact dh.wU func130 rfl p' ((YO h1 h2 h3 h4 h5 h6).le (GA.le.refl _) (λr R' h=>⟨_,GA.le.refl _,h.1⟩))
theorem YM(s:ByteArray)(a b:Int)(data:List Int):(pH s a b data).length=s.size+24:=by
 have ab:(jX s).length=s.size:=by unfold jX;rw[fJ,qX];rfl
 simp only[pH,aV,cX,ab]
theorem yv(s:ByteArray)(a b:Int)(data:List Int):(fO s a b data).length=s.size+32:=by
 rw[fO,aV,YM,cX]
theorem YN(s:ByteArray)(a b:Int)(data:List Int)(hs:s.size<=100):B8 (fO s a b data):=by
 refine B8.of (λx hx=>?_) (by rw[yv];omega);simp only[fO,jm]at hx;exact hx.elim (HC _ _ _ _ x) (uM _ _ x)
theorem B8.BM(h:B8 xs)(k:Nat):B8 (xs.take k):=B8.of (λx hx=>h.mem (zS hx)) (by have:=h.2;rw[fT];omega)
theorem B8.kf(h:B8 xs)(k:Nat):B8 (xs.drop k):=B8.of (λx hx=>h.mem (Ct hx)) (by have:=h.2;rw[j6];omega)
theorem Gn{b:Nat}{n:Int}{f:Int->List Int}{c:Nat}{i:Int}{s:ByteArray}{a a2:Int}{most m:Nat}(h0:0<=i)(hn:i<n)(a7:n<=4096)(hc:c<=1000000)
 (hs:s.size<=100) (a0:0<=a) (a1:a<9223372036854775808) (b0:0<=a2) (b1:a2<9223372036854775808) (hm:cP (((f i).drop 20).take 8)=m) (bc:m<=most) (bb:most<=1000000) (a6:m=0\/m<=512/\i+1<n) (hf:∀k,(f k).length=512) (hB:∀k,B8 (f k)):
 aA a0c 98 [b,(i:Int),.r (.string s),(a:Int),(a2:Int),(most:Int)] (aZ b n f c)
  (λr R=>r=.aU [.ns .u8 ((f (i+1)).take m),kT ((f i).take 36) (fO s a a2 ((f (i+1)).take m))]/\R=aZ b n f c):=by
 have hE:=iZ IL HD M3;obtain⟨xs,ab⟩:=nm (f i);have hl:=hf i;have hb:=hB i;rw[ab]at hl hb hm|-;obtain⟨D,hD⟩:=nm ((f (i+1)).take m);have ao:B8 D:=hD▸(hB (i+1)).BM m;have a3:xs.length-20=492:=f';have ax:=hb.kf 20;have ay:=hb.BM 36;have a5:8<=(xs.drop 20).length:=by rw[j6];omega
 have aw:=YN s a a2 D hs;have a4:aA a0c 133 [b,(i+1:Int),(m:Int)] (aZ b n f c) (λr R=>r=.ns .u8 D/\R=aZ b n f c):=by
  subst hD;rcases re m with h|h
  .subst h;exact Yr
  .have:=a6.resolve_left f'
   exact Ys f' f' a7 hc h this.1 (hf _)
 rw[hD];refine aA.body hE func98 ntmps98 results98 (λen=>?_);refine aE ?_;refine aa.bG ?_;refine az 2 ?_;refine gC (ag a0a) (vT b n f c i h0 hn hc) func69 (λr R' hp=>?_);obtain⟨rfl,rfl⟩:=hp;rw[ab];refine⟨rfl,?_⟩;refine az 5 ?_;refine gN ?_;have af:((0:Int)!=0)=false:=rfl;refine aa.seq (a9 af ?_);refine gF ?_;refine a9 (A5 hl a3 ax a5 hm) ?_;refine aa.seq (a9 (show¬(most:Int)<m from f') ?_);refine gF ?_;refine aa.bG ?_;refine az 5 ?_;refine gE (ag a0a) a4 func133 ?_;refine az 1 ?_;refine gN ?_;refine aa.seq (aa.of (T:=ag a0a) ?_);refine ai.regionF [] [] [] hE.hT hE.hS hE.hm (λp i h=>by cases h) (an (A9 hl hs a0 a1 b0 b1 ao ay aw) ?_);show aa _ _ _ _ _ _ _ _;refine aa.ret ?_;exact pG
end
theorem GL.freeze{P:Program}{T:aL}{n:Nat}{en:dK}{pn:Nat->Option Nat}{ops:Array Oper}{os:List Oper}{K:St->GA->Prop}{σ ab:St}{R:GA}{F p:Prop}(x:Operand)(E:F)(k:GL P n en pn ops os K ab R)(h:F->gU T σ x=(p,ab):=by
 (intro E;exact Im.sR E)) (hp:F->p:=by
 (intro E;exact Im.pF E)):GL P n en pn ops os K σ R:=by
 intro κ β a w Q hn hg hC hQ;have e:=h E;have:=AJ (T:=T) (λ_=>hg.mu) hC (x:=x) (by rw[e];exact hp E);rw[e]at this;exact k κ β a w Q hn hg this hQ
def qR:ByteArray:=⟨#[83,76,79,84]⟩
def lN:ByteArray:=⟨#[74,82,78,76]⟩
def mP(f:Int->List Int)(xs:List Int):Int->List Int:=ib (ib (ib f 2 [0]) 3 xs) 2 (fO qR 1 0 xs)
theorem aci{b:Nat}{n:Int}{f:Int->List Int}{c:Nat}{xs:List Int}(hn:6<=n)(ab:n<=4096)(hc:c<1000000)(x0:0<xs.length)(x1:xs.length<=512)(hB:B8 xs):
 aA a0c 95 [b,(0:Int),(2:Int),(1:Int),.ns .u8 xs] (aZ b n f c) (λr R=>r=.r (.int .i64 0)/\R=aZ b n (mP f xs) 0):=by
 have hE:=eF HD By;have af:((0:Int)==0)=true:=rfl;obtain⟨N,hN⟩:=nm (xs.length);have ax:((N:Int)+512-1)/512=1:=f';have ao:0<N:=f';have aw:N<=512:=f';have hH:=yv qR 1 0 xs;have a0:qR.size=4:=rfl;have ay:bits .and .i64 1 1=1:=p';refine aA.body hE func95 ntmps95 results95 (λen=>?_);refine aE ?_;refine aa.seq (aa.block (aa.bG ?_));refine az 3 ?_;refine gE (ag a0a) (HZ hn ab) func108 ?_;refine az 10 ?_;refine gN ?_;refine aa.dz rfl ?_;refine a9 (A4 hN ax ao aw) ?_;refine gF ?_;refine a9 ay ?_;refine aa.bG ?_;refine az 2 ?_;refine GL.gB 1 hE rfl rfl ?_;simp only[fy,eD,fS,fe];refine et.step rfl rfl ⟨rfl,p',5,1,rfl,p',p'⟩ ?_;show GL _ _ _ _ _ _ _ _ _;refine GL.freeze (T:=ag a0a) (.tmp 42) a0b ?_;refine gE (ag a0a) (Dn (i:=2) (xs:=[0]) p' f' ab hc p' p') func129 ?_;refine az 1 ?_;refine gN ?_;refine aa.seq (a9 af ?_);refine aa.eo rfl (aa.region ?_);refine az 4 ?_;refine gE (ag a0a) (Dn (i:=3) (xs:=xs) p' f' ab p' x0 x1) func129 ?_;refine az 1 ?_;refine gN ?_;refine aa.seq (a9 af ?_);refine aa.eo rfl (aa.region ?_);refine fG 5 hB ?_;refine gE (ag a0a) (Dn (i:=2) (xs:=fO qR 1 0 xs) p' f' ab p' f' f') func129 ?_;refine az 1 ?_;refine gN ?_;refine aE ?_;refine aa.ret ?_;exact pG
section
variable {n:Int}{f:Int->List Int}{b c:Nat}
theorem Z8(hn:6<=n)(bc:n<=4096)(hc:c<=1000000)(a0:cP (((f 0).drop 4).take 8)=0)(a1:cP (((f 2).drop 4).take 8)=0)(hf:∀k,(f k).length=512)(hB:∀k,B8 (f k)):
 aA a0c 68 [b,(0:Int),(2:Int)] (aZ b n f c) (λr R=>r=.aU [(0:Int),.ns .u8 [],(0:Int)]/\R=aZ b n f c):=by
 have hE:=di IL;obtain⟨xs,ax⟩:=nm (f 0);obtain⟨ys,ay⟩:=nm (f 2);have ao:=hf 0;have aw:=hf 2;have ab:=hB 0;have af:=hB 2;rw[ax]at ao ab a0;rw[ay]at aw af a1;have a3:=ab.kf 4;have a4:=af.kf 4;have a7:xs.length-4=508:=f';have bb:ys.length-4=508:=f';have a5:8<=(xs.drop 4).length:=by rw[j6];omega
 have a6:8<=(ys.drop 4).length:=by rw[j6];omega
 refine aA.body hE func68 ntmps68 results68 (λen=>?_);refine aE ?_;refine aa.seq (aa.block (aa.bG ?_));refine az 3 ?_;refine gE (ag a0a) (HZ hn bc) func108 ?_;refine az 2 ?_;refine gN ?_;refine aa.dz rfl ?_;refine aa.bG ?_;refine az 1 ?_;refine gE (ag a0a) (Au b n f c) func67 ?_;refine az 1 ?_;refine gN ?_;refine gF ?_;refine aE ?_;refine aa.seq (aE ?_);refine aa.block ?_;refine aa.loop (ι:={k:Nat // k<=2}) (λk=>(⟨[(0,b),(1,(0:Int)),(2,(2:Int)),(9,(0:Int)),(10,.ns .u8 []),(27,(k.1:Int))],[]⟩,aZ b n f c)) (λk=>2-k.1) ⟨0,p'⟩ ?_ ?_ ?_
 .exact Le.mk a0b
 .exact GA.le.refl _
 rintro⟨k,hk⟩
 match k,hk with
 |0,hk=>
  refine aE ?_;refine aa.seq (gT ?_);refine aa.seq (aa.block ?_);refine aE ?_;refine aE ?_;refine aa.bG ?_;refine az 2 ?_;refine gC (ag a0a) (vT b n f c 0 p' f' hc) func69 (λr R' hp=>?_);obtain⟨rfl,rfl⟩:=hp;rw[ax];refine⟨rfl,?_⟩;refine az 5 ?_;refine gN ?_;refine a9 (A5 ao a7 a3 a5 a0) ?_;refine aa.seq (aE ?_);refine aa.eo rfl (aa.exit ?_);show aa _ _ _ _ _ _ _ _;refine aa.of (T:=ag a0a) ?_;refine aT ?_;exact⟨⟨1,p'⟩,Le.mk a0b,GA.le.refl _,N'⟩
 |1,hk=>
  refine aE ?_;refine aa.seq (gT ?_);refine aa.seq (aa.block ?_);refine aE ?_;refine aE ?_;refine aa.bG ?_;refine az 2 ?_;refine gC (ag a0a) (vT b n f c 2 p' f' hc) func69 (λr R' hp=>?_);obtain⟨rfl,rfl⟩:=hp;rw[ay];refine⟨rfl,?_⟩;refine az 5 ?_;refine gN ?_;refine a9 (A5 aw bb a4 a6 a1) ?_;refine aa.seq (aE ?_);refine aa.eo rfl (aa.exit ?_);show aa _ _ _ _ _ _ _ _;refine aa.of (T:=ag a0a) ?_;refine aT ?_;exact⟨⟨2,p'⟩,Le.mk a0b,GA.le.refl _,N'⟩
 |2,hk=>
  refine aE ?_;refine aa.seq (gX ?_);refine aE ?_;refine aa.ret ?_;exact pG
theorem Z9{m:Nat}(hn:6<=n)(a0:n<=4096)(hc:c<=1000000)(a4:cP (((f 0).drop 4).take 8)=0)(a5:cP (((f 2).drop 4).take 8)=1)(hm:cP (((f 2).drop 20).take 8)=m)(ay:m<=512)(he:kT ((f 2).take 36) (fO qR 1 0 ((f 3).take m))=Z')(hf:∀k,(f k).length=512)(hB:∀k,B8 (f k)):
 aA a0c 68 [b,(0:Int),(2:Int)] (aZ b n f c) (λr R=>r=.aU [(1:Int),.ns .u8 ((f 3).take m),(0:Int)]/\R=aZ b n f c):=by
 have hE:=di IL;have ab:aA a0c 98 _ (aZ b n f c) _:=Gn (i:=2) (s:=qR) (a:=1) (a2:=0) (most:=512) (m:=m) p' f' a0 hc p' p' p' p' p' hm ay p' (.inr ⟨ay,f'⟩) hf hB;have e3:(2:Int)+1=3:=rfl;rw[e3,he]at ab;obtain⟨D,hD⟩:=nm ((f 3).take m);rw[hD]at ab|-;obtain⟨xs,a1⟩:=nm (f 0);obtain⟨ys,a3⟩:=nm (f 2);have aw:=hf 0;have ax:=hf 2;have af:=hB 0;have ao:=hB 2;rw[a1]at aw af a4;rw[a3]at ax ao a5;have a6:=af.kf 4;have a7:=ao.kf 4;have bd:xs.length-4=508:=f';have bm:ys.length-4=508:=f';have bb:8<=(xs.drop 4).length:=by rw[j6];omega
 have bc:8<=(ys.drop 4).length:=by rw[j6];omega
 have e1:bits .and .u64 1 1=1:=p';refine aA.body hE func68 ntmps68 results68 (λen=>?_);refine aE ?_;refine aa.seq (aa.block (aa.bG ?_));refine az 3 ?_;refine gE (ag a0a) (HZ hn a0) func108 ?_;refine az 2 ?_;refine gN ?_;refine aa.dz rfl ?_;refine aa.bG ?_;refine az 1 ?_;refine gE (ag a0a) (Au b n f c) func67 ?_;refine az 1 ?_;refine gN ?_;refine gF ?_;refine aE ?_;refine aa.seq (aE ?_);refine aa.block ?_;refine aa.loop (ι:={k:Nat // k<=2}) (λk=>if k.1=2 then(⟨[(0,b),(1,(0:Int)),(2,(2:Int)),(9,(1:Int)),(10,.ns .u8 D),(27,(2:Int))],[]⟩,aZ b n f c)else(⟨[(0,b),(1,(0:Int)),(2,(2:Int)),(9,(0:Int)),(10,.ns .u8 []),(27,(k.1:Int))],[]⟩,aZ b n f c)) (λk=>2-k.1) ⟨0,p'⟩ ?_ ?_ ?_
 .exact Le.mk a0b
 .exact GA.le.refl _
 rintro⟨k,hk⟩
 match k,hk with
 |0,hk=>
  refine aE ?_;refine aa.seq (gT ?_);refine aa.seq (aa.block ?_);refine aE ?_;refine aE ?_;refine aa.bG ?_;refine az 2 ?_;refine gC (ag a0a) (vT b n f c 0 p' f' hc) func69 (λr R' hp=>?_);obtain⟨rfl,rfl⟩:=hp;rw[a1];refine⟨rfl,?_⟩;refine az 5 ?_;refine gN ?_;refine a9 (A5 aw bd a6 bb a4) ?_;refine aa.seq (aE ?_);refine aa.eo rfl (aa.exit ?_);show aa _ _ _ _ _ _ _ _;refine aa.of (T:=ag a0a) ?_;refine aT ?_;exact⟨⟨1,p'⟩,Le.mk a0b,GA.le.refl _,N'⟩
 |1,hk=>
  refine aE ?_;refine aa.seq (gT ?_);refine aa.seq (aa.block ?_);refine aE ?_;refine aE ?_;refine aa.bG ?_;refine az 2 ?_;refine gC (ag a0a) (vT b n f c 2 p' f' hc) func69 (λr R' hp=>?_);obtain⟨rfl,rfl⟩:=hp;rw[a3];refine⟨rfl,?_⟩;refine az 5 ?_;refine gN ?_;refine a9 (A5 ax bm a7 bc a5) ?_;refine aa.seq (a9 e1 ?_);refine gF ?_;refine aa.bG ?_;refine az 7 ?_;refine gE (ag a0a) ab func98 ?_;refine az 5 ?_;refine gN ?_;refine aE ?_;refine aa.eo rfl ?_;refine aa.of (T:=ag a0a) ?_;refine aT ?_;show aa _ _ _ _ _ _ _ _;refine aa.of (T:=ag a0a) ?_;refine aT ?_;exact⟨⟨2,p'⟩,Le.mk a0b,GA.le.refl _,N'⟩
 |2,hk=>
  refine aE ?_;refine aa.seq (gX ?_);refine aE ?_;refine aa.ret ?_;exact pG
end
def cZ(d:Nat)(a e ep nx:Int):List AV:=[.r (.pointer (T' ⟨d,0,Y'⟩)),.r (.int .i64 a),.r (.int .i64 e),.r (.int .i64 ep),.r (.int .i64 nx),.r (.bool a0a)]
theorem Ny{R:GA}{bj d:Nat}{a e ep nx:Int}{m:Nat}(hm:m<=512)(m0:0<m)(ha:0<=a)(af:a<=4096)(hn:0<=nx)(ao:nx<=4096):
 aA a0c 99 [bj,(m:Int)] (R.star (.aJ bj (cZ d a e ep nx))) (λr R'=>r=.aU []/\R'=R.star (.aJ bj (cZ d (a+2) e ep (nx+1)))):=by
 have hE:=di By;have ab:((m:Int)+512-1)/512=1:=f';unfold cZ;refine aA.LJ hE func99 ntmps99 results99 (λen=>?_);refine aa.seq (aa.of (T:=ag a0a) ?_);refine ai.regionF [] [] [] hE.hT hE.hS hE.hm gy (an ab ?_);show aa _ _ _ _ _ _ _ _;refine aa.of (T:=ag a0a) ?_;refine aT ?_;exact⟨_,rfl,dM.of ⟨rfl,rfl⟩ (aO.mk a0b rfl)⟩
end Go.Hl
