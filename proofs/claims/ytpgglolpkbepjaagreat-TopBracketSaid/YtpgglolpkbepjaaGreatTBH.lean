/- Lemmas for TopSound and TopBracket. -/
import Derived.Laws.IdiomStrings
import Derived.Laws.BytesString
import Derived.Test.YtpgglolpkbepjaaGreatTBG
set_option linter.unusedVariables false
set_option linter.unusedSimpArgs false
namespace Go.Hl
open Go.Proofs.Tryz
open Go.Proofs.Tryz renaming prog→a0c
open Option renaming some→T',none→Y'
open Bool renaming true→Z',false→a0a
open Go Go.RowKit Go.Proofs
set_option maxHeartbeats 8000000
set_option maxRecDepth 100000
theorem YL(l:List (Int×LK)):(cE l).all AV.one=true:=by
 induction l with
 |nil=>rfl
 |cons h l ih=>
  have e:cE (h::l)=ld h++cE l:=rfl;rw[e,List.all_append,ih]
  rfl
@[push_cast] def adR:Sp where
 kind:=0
 pre
  |[.r (.int .i64 f),.r (.int .u64 b),.r (.int .i64 n),.r (.int .i64 m)]=>(0<=f/\f<=5)/\(PD b/\PD (b+n-1))/\(1<=n/\n<=4)/\1<=m/\m<=128
  |_=>False
 res
  |[.r (.int .i64 f),.r (.int .u64 b),.r (.int .i64 n),.r (.int .i64 m)]=>.aU [.sl 14 (aP f.toNat m.toNat b n.toNat).length (cE (aP f.toNat m.toNat b n.toNat)),(0:Int)]
  |_=>.any
theorem Xy:aj a0c 101 adR:=by
 refine sz λargs hp=>?_
 split at hp;rotate_left;cases hp;rename_i f b n m;obtain⟨⟨f0,f5⟩,⟨ax,ay⟩,⟨n1,n2⟩,m1,m2⟩:=hp;have hE:=di W6;have cl:=uG (aP f.toNat m.toNat b n.toNat);have cn:=vY f.toNat m.toNat b n.toNat;have co:=YL (aP f.toNat m.toNat b n.toNat);obtain⟨H,hH⟩:=nm (aP f.toNat m.toNat b n.toNat);rw[hH]at cl cn co|-;obtain⟨CS,ab⟩:=nm (cE H);obtain⟨ao,af⟩:=nm (H.length);rw[ab,af]at cl;rw[af]at cn;rw[ab]at co;rw[ab,af];have aw:ao<=4:=f';clear cn;refine aB func101 ntmps101 ?_;refine an (A2 (show¬n<1 from f') (show¬64<n from f')) ?_;refine ai.loop (ι:=Bool) (λj=>if j then⟨[(0,f),(3,m),(10,.os 56 14 0 ao),(11,.os 25 2 0 0)],[(56,⟨Z',.c CS⟩),(25,⟨Z',.c [.r (.int .u64 b),n]⟩)]⟩
  else⟨[(0,f),(3,m),(10,.dt),(11,.os 25 2 0 1)],[(25,⟨Z',.c [.r (.int .u64 b),n]⟩)]⟩) (λj=>if j then 0 else 1) a0a ?_ ?_
 .exact Le.mk a0b
 intro j;cases j with
 |false=>
  have h0:((0:Int)!=0)=false:=rfl;refine an (A6 (show n<=4 from n2) hH ab af h0 co) ?_;exact⟨Z',Le.mk a0b,p'⟩
 |true=>
  refine aK ?_;exact pL
@[push_cast] def aeZ:Sp where
 kind:=0
 pre
  |[.agg [.r (.int .i64 F),.r (.int .i64 E),.r (.int .u64 A),.r (.int .u64 B),.r (.int .i64 M)],.r (.int .i64 i)]=>JT F E A B M/\nG A B=Z'/\(-64<=E/\E<=9)/\B<=4503599627370496/\0<=i/\i<(B-A+4-1)/4
  |_=>False
 res
  |[.agg [.r (.int .i64 _),.r (.int .i64 E),.r (.int .u64 A),.r (.int .u64 B),.r (.int .i64 _)],.r (.int .i64 i)]=>.aU [.r (.int .u64 (jP E (A+i*4))),(min (B-(A+i*4)) 4:Int),(0:Int)]
  |_=>.any
theorem agn:aj a0c 100 aeZ:=by
 refine sz λargs hp=>?_
 split at hp;rotate_left;cases hp;rename_i F E A B M i;obtain⟨ao,hs,⟨e1,e2⟩,hB,i0,i1⟩:=hp;obtain⟨_,_,⟨a1,a2⟩,⟨b1,b2⟩,_⟩:=id ao;obtain⟨s1,s2⟩:A<B/\B-A<=2048:=js hs;have hE:=eF EP yU;obtain⟨U,hU⟩:=nm ((B-A+4-1)/4);rw[hU]at i1;have ax:4*U<=B-A+3/\U<=600:=f';obtain⟨P,hP⟩:=nm (A+i*4);rw[hP];have pb:A<=P/\P<B:=f';obtain⟨W,hW⟩:=nm (jP E P);have aw:(E+1023)*4503599627370496+P=W:=hW;rw[hW];have ab:(if(4:Int)<B-P then(4:Int)else B-P)=min (B-P) 4:=by split<;>omega
 obtain⟨mn,af⟩:=nm (min (B-P) 4);have mb:1<=mn/\mn<=4:=f';rw[af]at ab|-;refine aB func100 ntmps100 ?_;refine aT ?_;refine ai.seq ?_;refine gl (A3 (show¬i<0 from f') hU (show¬U<=i from f')) ?_;refine aF ?_;refine cy hP ?_;refine aG [(2,2)] [] [(25,3,2)] (A2 aw ab) ?_;exact pL
def B8(xs:List Int):Prop:=(∀k,k<xs.length->0<=xs.getD k 0/\xs.getD k 0<256)/\xs.length<1000000
def qC(h c:Int):Int:=IntKind.u64.wrap (bits .xor .u64 h c*1099511628211)
def fW(h:Int)(xs:List Int):Nat->Int
 |0=>h
 |k+1=>qC (fW h xs k) (xs.getD k 0)
@[push_cast] def aeP:Sp where
 kind:=0
 pre
  |[.r (.int .u64 _),.ns .u8 xs]=>B8 xs
  |_=>False
 res
  |[.r (.int .u64 h),.ns .u8 xs]=>.r (.int .u64 (fW h xs xs.length))
  |_=>.any
theorem Sx:aj a0c 153 aeP:=by
 refine sz λargs hp=>?_
 split at hp;rotate_left;cases hp;rename_i h xs;obtain⟨hB,hl⟩:=hp;have hE:=env dC;obtain⟨N,hN⟩:=nm (xs.length);rw[hN]at hB hl|-;refine aB func153 ntmps153 ?_;refine an hN ?_;refine ai.loop (ι:={k:Nat // k<=N}) (λk=>⟨[(0,.r (.int .u64 (fW h xs k.1))),(7,.ns .u8 xs),(8,(N:Int)),(9,(k.1:Int))],[]⟩) (λk=>N-k.1) ⟨0,dU _⟩ ?_ ?_
 .exact Le.mk (show fW h xs 0=h from rfl)
 rintro⟨k,hk⟩;dsimp only;obtain⟨s,hs⟩:=nm (fW h xs k);rw[hs]
 by_cases hlt:k<N
 .have hc:=hB k hlt
  obtain⟨c,ec⟩:=nm (xs.getD k 0);rw[ec]at hc;have en:fW h xs (k+1)=qC s c:=by show qC (fW h xs k) (xs.getD k 0)=_;rw[hs,ec]
  obtain⟨x1,ab⟩:=nm (bits .xor .u64 s c);obtain⟨x2,af⟩:=nm (IntKind.u64.wrap (x1*1099511628211));have ao:fW h xs (k+1)=x2:=by rw[en,<-af,<-ab];rfl
  clear hB en;refine an (A4 (show(k:Int)<N from f') ec ab af) ?_;exact⟨⟨k+1,f'⟩,Le.mk ao,N'⟩
 .obtain rfl:k=N:=f'
  rw[hs];clear hB;refine an (show¬(k:Int)<k from f') ?_;exact pL
@[push_cast] def Rt:Sp where
 kind:=0
 pre
  |[.ns .u8 xs]=>B8 xs
  |_=>False
 res
  |[.ns .u8 xs]=>.r (.int .u64 (fW 14695981039346656037 xs xs.length))
  |_=>.any
theorem Mz:aj a0c 30 Rt:=by
 refine sz λargs hp=>?_
 split at hp;rotate_left;cases hp;rename_i xs;obtain⟨hB,hl⟩:=hp;have hE:=env dC;obtain⟨N,hN⟩:=nm (xs.length);rw[hN]at hB hl|-;refine aB func30 ntmps30 ?_;refine an hN ?_;refine ai.loop (ι:={k:Nat // k<=N}) (λk=>⟨[(3,.r (.int .u64 (fW 14695981039346656037 xs k.1))),(6,.ns .u8 xs),(7,(N:Int)),(8,(k.1:Int))],[]⟩) (λk=>N-k.1) ⟨0,dU _⟩ ?_ ?_
 .exact Le.mk (show fW 14695981039346656037 xs 0=14695981039346656037 from rfl)
 rintro⟨k,hk⟩;dsimp only;obtain⟨s,hs⟩:=nm (fW 14695981039346656037 xs k);rw[hs]
 by_cases hlt:k<N
 .have hc:=hB k hlt
  obtain⟨c,ec⟩:=nm (xs.getD k 0);rw[ec]at hc;have en:fW 14695981039346656037 xs (k+1)=qC s c:=by show qC (fW 14695981039346656037 xs k) (xs.getD k 0)=_;rw[hs,ec]
  obtain⟨x1,ab⟩:=nm (bits .xor .u64 s c);obtain⟨x2,af⟩:=nm (IntKind.u64.wrap (x1*1099511628211));have ao:fW 14695981039346656037 xs (k+1)=x2:=by rw[en,<-af,<-ab];rfl
  clear hB en;refine an (A4 (show(k:Int)<N from f') ec ab af) ?_;exact⟨⟨k+1,f'⟩,Le.mk ao,N'⟩
 .obtain rfl:k=N:=f'
  rw[hs];clear hB;refine an (show¬(k:Int)<k from f') ?_;exact pL
@[push_cast] def Ja:Sp:=rS 0 (λn=>0<=n/\n<=1000000000) (λn=>.r (.int .i64 ((n+512-1)/512)))
theorem By:aj a0c 128 Ja:=by
 refine aj.I λn⟨n1,n2⟩=>?_
 have hE:=env dC;refine aB func128 ntmps128 ?_;refine aK ?_;exact pL
@[push_cast] def Jb:Sp:=rS 0 (λn=>0<=n/\n<=1000000000) (λn=>.r (.int .i64 (2*n+2)))
theorem Q0:aj a0c 62 Jb:=by
 refine aj.I λn⟨n1,n2⟩=>?_
 have hE:=env dC;refine aB func62 ntmps62 ?_;refine aK ?_;exact pL
@[push_cast] def EK:Sp:=zg (λF E A B M=>JT F E A B M/\nG A B=Z') (λ_ _ A B _=>.r (.int .i64 (6+(2*((B-A+4-1)/4)+2))))
theorem IQ:aj a0c 59 EK:=by
 refine aj.J λF E A B M⟨hJT,hs⟩=>?_
 obtain⟨_,_,⟨a1,a2⟩,⟨b1,b2⟩,_⟩:=id hJT;obtain⟨s1,s2⟩:A<B/\B-A<=2048:=js hs;have hE:=eF EP Q0;obtain⟨U,hU⟩:=nm ((B-A+4-1)/4);have ab:0<=U/\U<=600:=f';rw[hU];refine aB func59 ntmps59 ?_;refine an hU ?_;exact pL
@[push_cast] def ad8:Sp where
 kind:=0
 pre
  |[.agg [.r (.int .u64 _),.r (.bool b1),.ns .u64 x1,.r (.bool b2),.ns .u64 x2,.r (.int .i64 q),.r (.int .i64 k),.r (.int .i64 _),.r (.int .i64 _),.r (.bool _),.ns .u64 _,.r (.bool _),.ns .u64 _,.r (.bool _)]]=>
   ((Lm x1/\x1.length<60)/\(Lm x2/\x2.length<60))/\(0<=q/\q<=2048)/\-65536<=k/\k<65536
  |_=>False
 res _:=.r (.bool Z')
theorem Vv:aj a0c 138 ad8:=by
 refine sz λargs hp=>?_
 split at hp;rotate_left;cases hp;rename_i p b1 x1 b2 x2 q k e s b3 x3 b4 x4 hd;obtain⟨⟨⟨h1,l1⟩,⟨h2,l2⟩⟩,⟨q1,q2⟩,k1,k2⟩:=hp;have hE:=di Fe;have z1:=(ku (zv b1 x1).natAbs _).2 (dN (b:=b1) h1 (k:=59) f');have z2:=(ku (zv b2 x2).natAbs _).2 (dN (b:=b2) h2 (k:=59) f');obtain⟨n1,e1⟩:∃v:Int,(bJ (zv b1 x1).natAbs:Int)=v:=⟨_,rfl⟩;obtain⟨n2,e2⟩:∃v:Int,(bJ (zv b2 x2).natAbs:Int)=v:=⟨_,rfl⟩;have m1:n1<=4096:=f';have m2:n2<=4096:=f';clear z1 z2;refine aB func138 ntmps138 ?_;refine an (A8 k1 k2 q1 q2 e1 e2 m1 m2) ?_;exact pL
@[push_cast] def aeF:Sp:=qS 0 (λ_ x s=>(Lm x/\x.length<62)/\0<=s/\s<=1000) (λb x s=>mh (zv b x) (0-s))
theorem QK:aj a0c 16 aeF:=by
 refine aj.ZI λb x s⟨⟨hx,hxl⟩,s1,s2⟩=>?_
 have hE:=di yi;obtain⟨M,hM⟩:=nm (ct (zv b x));obtain⟨E,ab⟩:=nm (cH (zv b x) (0-s));simp only[mh,hM,ab];refine aB func16 ntmps16 ?_;refine an (A2 hM ab) ?_;exact pL
@[push_cast] def Rm:Sp where
 kind:=1
 pre
  |[.ns .u8 xs]=>xs.length<1099511627776
  |_=>False
 res
  |[.ns .u8 xs]=>.ns .u8 xs
  |_=>.any
theorem Vq:aj a0c 112 Rm:=by
 refine aj.one rfl λargs hp=>?_
 simp only[Rm]at hp|-;split at hp
 case h_2=>exact hp.elim
 rename_i xs;have hE:=env dC;refine nM.body hE func112 ntmps112 results112 ?_;refine aT ?_;refine ai.seq (ai.seq ?_);refine ai.Qp (l:=[_]) hE underlying29 I' ?_;refine aK ?_;refine⟨_,_,by rfl,λb hb=>?_⟩;cases b with
 |true=>
  have hx:xs=[]:=lr λh=>(by cases hb h)
  subst hx;refine aK ?_;exact⟨.inr rfl,.inr ⟨rfl,rfl⟩⟩
 |false=>
  refine aK ?_;exact vF.mk a0b rfl
section
variable {x:Int}{xs:List Int}{P:Program}{w:World}
def cP:List Int->Int
 |[]=>0
 |x::r=>x+256*cP r
def lj(xs:List Int):List UInt8:=xs.map λx=>UInt8.ofNat x.toNat
theorem B8.mem(h:B8 xs)(hx:x∈xs):0<=x/\x<256:=by
 obtain⟨k,hk,rfl⟩:=Tc.1 hx;have:=h.1 k hk;simpa[hk]using this
theorem agk(h:B8 xs){j:Nat}(hj:xs[j]?=T' x):∃c,(lj xs)[j]?=T' c/\(c.toNat:Int)=x:=by
 have hm:=h.mem (kL hj);refine⟨UInt8.ofNat x.toNat,by simp[lj,hj],?_⟩;rw[KO];omega
theorem Jq:∀{xs ys:List Int},(∀x∈xs,0<=x/\x<256)->(∀x∈ys,0<=x/\x<256)->lj xs=lj ys->xs=ys
 |[],[],_,_,_=>rfl
 |[],_::_,_,_,h=>by simp[lj]at h
 |_::_,[],_,_,h=>by simp[lj]at h
 |x::xs,y::ys,h1,h2,h=>by
  simp only[lj,fX,zL]at h;have a:=h1 x J';have b:=h2 y J';have e:=fV UInt8.toNat h.1;rw[KO,KO]at e;rw[Jq (λz hz=>h1 z (by simp[hz])) (λz hz=>h2 z (by simp[hz])) h.2,show x=y from f']
theorem ac5{src dst e:TypeId}{b o cap:Nat}{l:List UInt8}(hs:P.underlying src=T' (.slice e))(he:P.underlying e=T' (.int .u8))(hd:P.underlying dst=T' .string)(hc:∀j(hj:j<l.length),w.cell? ⟨b,o+j,Y'⟩=T' (.int .u8 (l[j].toNat:Int))):
 (convert src dst (.slice (T' ⟨b,o,Y'⟩) l.length cap)).run P w=.ok (.string ⟨l.toArray⟩) w:=by
 refine run_convert_bytes_back w src dst e ⟨b,o,Y'⟩ cap l hs he hd (λj hj=>?_);rw[<-hc j hj];simp only[Addr.add];split
 .rename_i e;subst e;rfl
 .rfl
theorem ac6(w:World)(src dst e:TypeId)(hs:P.underlying src=T' (.slice e))(he:P.underlying e=T' (.int .u8))(hd:P.underlying dst=T' .string)(p:Option Addr)(c:Nat):(convert src dst (.slice p 0 c)).run P w=.ok (.string ByteArray.empty) w:=by
 rw[run_convert_bytes_string w src dst e _ 0 c hs he hd];cases p<;>simp[Conv.bytesToString,loadCells]
 all_goals rfl
theorem Ms{X:Nat->Prop}{v:Value}(h:RI w X (.ns .u8 xs) v)(hB:B8 xs):(convert 29 9 v).run a0c w=.ok (.string ⟨(lj xs).toArray⟩) w:=by
 cases h with
 |ns _ _ a b o cap hc ha hh=>
  have hlen:(lj xs).length=xs.length:=by simp[lj]
  rcases re xs.length with h0|h0
  .obtain rfl:=lY h0
   exact ac6 (P:=a0c) w 29 9 5 underlying29 underlying5 underlying9 a cap
  .obtain⟨rfl,_⟩:=ha h0
   rw[<-hlen];refine ac5 (src:=29) (dst:=9) (e:=5) underlying29 underlying5 underlying9 (λj hj=>?_);have ab:j<xs.length:=f';obtain⟨c,h1,h2⟩:=agk hB (ed ab);rw[hh j _ (ed ab),<-h2];rw[ed hj]at h1;cases h1
   rfl
def kT(xs ys:List Int):Bool:=decide (xs=ys)
@[push_cast] def adO:Sp where
 kind:=0
 pre
  |[.ns .u8 xs,.ns .u8 ys]=>B8 xs/\B8 ys
  |_=>False
 res
  |[.ns .u8 xs,.ns .u8 ys]=>.r (.bool (kT xs ys))
  |_=>.any
theorem M3:aj a0c 70 adO:=by
 refine sz λargs hp=>?_
 split at hp;rotate_left;cases hp;rename_i xs ys;obtain⟨hx,hy⟩:=hp;intro w X vs hX hl ha;refine .inr ⟨pR func70 rfl p' vs w,?_⟩;obtain⟨l⟩:=vs
 match l,hl with
 |[a,b],_=>
  obtain⟨a',q1,ra⟩:=ha 0 _ rfl;cases q1;obtain⟨b',q1,rb⟩:=ha 1 _ rfl;cases q1;have ca:(convert 29 9 a).run a0c w=.ok (.string ⟨(lj xs).toArray⟩) w:=Ms ra hx;have cb:(convert 29 9 b).run a0c w=.ok (.string ⟨(lj ys).toArray⟩) w:=Ms rb hy;clear ra rb;have he:(⟨(lj xs).toArray⟩:ByteArray)=⟨(lj ys).toArray⟩↔xs=ys:=⟨λh=>Jq (λ_=>hx.mem) (λ_=>hy.mem) (by simpa using h),λh=>by rw[h]⟩
  suffices hh:Calls a0c 70 #[a,b] w λe w'=>e=.returned (.bool (kT xs ys))/\Below w.heap.size w w' from hh.mono λe w' h=>⟨_,h.1,RI.r _,h.2⟩
  obtain⟨sa,ab⟩:=nm ((⟨(lj xs).toArray⟩:ByteArray));obtain⟨sb,af⟩:=nm ((⟨(lj ys).toArray⟩:ByteArray));rw[ab]at ca he;rw[af]at cb he
  go_enter func70,ntmps70
  have ao:(sa.toList==sb.toList)=kT xs ys:=by
   rw[<-ab,<-af];have h1:∀l:List UInt8,(⟨l.toArray⟩:ByteArray).toList=l:=λl=>by rw[ByteArray.toList_eq]
   rw[h1,h1];unfold kT
   by_cases e:xs=ys
   .subst e;simp
   .have:lj xs≠lj ys:=λh=>e (Jq (λ_=>hx.mem) (λ_=>hy.mem) h)
    simp[e,this]
  go_wp2
  refine⟨rfl,.bool (kT xs ys),by simp[results,results70,go_sem],rfl,iX _ _⟩
theorem Oo(xs:List Int):∀k,k<xs.length->cP (xs.take (k+1))=cP (xs.take k)+xs.getD k 0*256^k:=by
 induction xs with
 |nil=>intro k hk;simp at hk
 |cons x xs ih=>
  intro k hk;cases k with
  |zero=>simp[cP]
  |succ k=>
   have:=ih k (by simpa using hk);simp only[fy,cP,Cq];rw[this,jw,tX];have e:256*(xs.getD k 0*256^k)=xs.getD k 0*(256^k*256):=by rw[gD 256,mW]
   rw[e];omega
theorem DO:∀{xs:List Int},(∀x∈xs,0<=x/\x<256)->0<=cP xs/\cP xs<256^xs.length
 |[],_=>by simp[cP]
 |x::xs,h=>by
  have a:=h x J';have b:=DO (xs:=xs) (λy hy=>h y (by simp[hy]));simp only[cP,gM,jw];omega
@[push_cast] def aex:Sp where
 kind:=0
 pre
  |[.ns .u8 xs]=>B8 xs/\8<=xs.length
  |_=>False
 res
  |[.ns .u8 xs]=>.r (.int .u64 (cP (xs.take 8)))
  |_=>.any
theorem mq(hB:B8 xs)(k:Nat)(hk:k<8)(hl:8<=xs.length){P:Int}(hP:(256:Int)^k=P):bits .or .u64 (cP (xs.take k)) (xs.getD k 0*P)=cP (xs.take (k+1)):=by
 have hm:0<=xs.getD k 0/\xs.getD k 0<256:=hB.1 k f';have b:=DO (xs:=xs.take k) (λx hx=>hB.mem (zS hx));rw[fT,sC f']at b;have b2:=DO (xs:=xs.take (k+1)) (λx hx=>hB.mem (zS hx));rw[fT,sC f',jw]at b2;have e8:(256:Int)^(k+1)<=18446744073709551616:=by
  have h1:(256:Nat)^(k+1)<=256^8:=lC p' f';have h2:(((256:Nat)^(k+1):Nat):Int)<=((256^8:Nat):Int):=by exact_mod_cast h1
  rw[kJ]at h2;exact nO h2 p'
 rw[jw]at e8;have ab:0<P:=by rw[<-hP];exact jl (by decide:(0:Int)<256)
 have af:P=2^(8*k):=by rw[<-hP,Ck];rfl
 rw[Oo xs k f',hP]at b2|-;rw[hP]at b e8;have q0:0<=xs.getD k 0*P:=dP hm.1 (bo ab);have q1:xs.getD k 0*P<=255*P:=gj f' (bo ab);have hd:xs.getD k 0*P%2^(8*k)=0:=by rw[af];exact Cf _ _
 exact Eo (8*k) _ _ q0 hd f' b.1 (by rw[<-af];exact b.2) f'
theorem IL:aj a0c 109 aex:=by
 refine sz λargs hp=>?_
 split at hp;rotate_left;cases hp;rename_i xs;obtain⟨hB,hl⟩:=hp;have hE:=env dC;have s0:=mq hB 0 f' hl (P:=1) p';have s1:=mq hB 1 f' hl (P:=256) p';have s2:=mq hB 2 f' hl (P:=65536) p';have s3:=mq hB 3 f' hl (P:=16777216) p';have s4:=mq hB 4 f' hl (P:=4294967296) p';have s5:=mq hB 5 f' hl (P:=1099511627776) p';have s6:=mq hB 6 f' hl (P:=281474976710656) p';have s7:=mq hB 7 f' hl (P:=72057594037927936) p';have d0:=hB.1 0 f';have d1:=hB.1 1 f';have d2:=hB.1 2 f';have d3:=hB.1 3 f';have d4:=hB.1 4 f';have d5:=hB.1 5 f';have d6:=hB.1 6 f';have d7:=hB.1 7 f';clear hB;have z0:cP (xs.take 0)=0:=rfl;rw[z0]at s0;obtain⟨v1,z1⟩:=nm (cP (xs.take 1));obtain⟨v2,z2⟩:=nm (cP (xs.take 2));obtain⟨v3,z3⟩:=nm (cP (xs.take 3));obtain⟨v4,z4⟩:=nm (cP (xs.take 4));obtain⟨v5,z5⟩:=nm (cP (xs.take 5));obtain⟨v6,z6⟩:=nm (cP (xs.take 6));obtain⟨v7,z7⟩:=nm (cP (xs.take 7));obtain⟨v8,z8⟩:=nm (cP (xs.take 8));obtain⟨c0,y0⟩:=nm (xs.getD 0 0);rw[y0]at d0;obtain⟨c1,y1⟩:=nm (xs.getD 1 0);rw[y1]at d1;obtain⟨c2,y2⟩:=nm (xs.getD 2 0);rw[y2]at d2;obtain⟨c3,y3⟩:=nm (xs.getD 3 0);rw[y3]at d3;obtain⟨c4,y4⟩:=nm (xs.getD 4 0);rw[y4]at d4;obtain⟨c5,y5⟩:=nm (xs.getD 5 0);rw[y5]at d5;obtain⟨c6,y6⟩:=nm (xs.getD 6 0);rw[y6]at d6;obtain⟨c7,y7⟩:=nm (xs.getD 7 0);rw[y7]at d7;rw[y0,show 0+1=1 from rfl,z1]at s0;rw[y1,z1,show 1+1=2 from rfl,z2]at s1;rw[y2,z2,show 2+1=3 from rfl,z3]at s2;rw[y3,z3,show 3+1=4 from rfl,z4]at s3;rw[y4,z4,show 4+1=5 from rfl,z5]at s4;rw[y5,z5,show 5+1=6 from rfl,z6]at s5;rw[y6,z6,show 6+1=7 from rfl,z7]at s6;rw[y7,z7,show 7+1=8 from rfl,z8]at s7;rw[z8];refine aB func109 ntmps109 ?_;refine aK ?_;refine ai.loop (ι:={k:Nat // k<=8}) (λk=>⟨[(0,.ns .u8 xs),(3,.r (.int .u64 (cP (xs.take k.1)))),(5,(k.1:Int))],[]⟩) (λk=>8-k.1) ⟨0,dU _⟩ ?_ ?_
 .exact Le.mk (show cP []=0 from rfl)
 rintro⟨k,hk⟩;dsimp only;have ab:k=0\/k=1\/k=2\/k=3\/k=4\/k=5\/k=6\/k=7\/k=8:=f';rcases ab with rfl|rfl|rfl|rfl|rfl|rfl|rfl|rfl|rfl
 .rw[z0]
  refine an (A2 y0 s0) ?_;exact⟨⟨1,f'⟩,Le.mk z1,N'⟩
 .rw[z1]
  refine an (A2 y1 s1) ?_;exact⟨⟨2,f'⟩,Le.mk z2,N'⟩
 .rw[z2]
  refine an (A2 y2 s2) ?_;exact⟨⟨3,f'⟩,Le.mk z3,N'⟩
 .rw[z3]
  refine an (A2 y3 s3) ?_;exact⟨⟨4,f'⟩,Le.mk z4,N'⟩
 .rw[z4]
  refine an (A2 y4 s4) ?_;exact⟨⟨5,f'⟩,Le.mk z5,N'⟩
 .rw[z5]
  refine an (A2 y5 s5) ?_;exact⟨⟨6,f'⟩,Le.mk z6,N'⟩
 .rw[z6]
  refine an (A2 y6 s6) ?_;exact⟨⟨7,f'⟩,Le.mk z7,N'⟩
 .rw[z7]
  refine an (A2 y7 s7) ?_;exact⟨⟨8,f'⟩,Le.mk z8,N'⟩
 .rw[z8]
  refine aK ?_;exact pL
end
end Go.Hl
