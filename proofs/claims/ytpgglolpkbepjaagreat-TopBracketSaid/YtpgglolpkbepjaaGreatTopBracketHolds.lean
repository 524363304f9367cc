/- The law TopBracket answers true for every input, and each argument reads afterwards as it read before. No condition is set. -/
import Derived.Test.YtpgglolpkbepjaaGreatRows
import Derived.ProofKit
import Derived.OpenShut
import Derived.ShutString
import Derived.ChangeOld
import Derived.Below
import Derived.Test.YtpgglolpkbepjaaGreatTBT
namespace Go.Proofs.YtpgglolpkbepjaaGreat.topBracket
open Go.ChangeShapes Go.WideShapes Go.ChangeAt Go.RowKit
set_option linter.unusedVariables false
theorem own:ownKnob Tryz.prog.godebug=none:=by kernel_rfl
theorem laidOut:laidOutB Tryz.prog=true:=by kernel_rfl
theorem walk(F E A B M:Int)(w:World)(h:Hl.JT F E A B M):
 Calls Tryz.prog 4 #[.agg #[.int .i64 F,.int .i64 E,.int .u64 A,.int .u64 B,.int .i64 M]] w λe w'=>e=.returned (.bool true)/\Below w.heap.size w w':=
 Hl.Md Tryz.func4 rfl (by decide) (Hl.dh.wU Tryz.func4 rfl (by decide) (Hl.Zw h)) rfl (Hl.Mi _ (Hl.r9.cons (Hl.RI.agg _ _ (λj=>(#[.int .i64 F,.int .i64 E,.int .u64 A,.int .u64 B,.int .i64 M]:Array Value).getD j undef) rfl (λj c hj=>by
  rcases j with _|_|_|_|_|j<;>first|rfl|cases hj) (λj c hj=>by
  rcases j with _|_|_|_|_|j<;>cases hj<;>exact Hl.RI.r _)) Hl.r9.nil))
set_option maxRecDepth 100000 in
theorem lifted(os:Os)(started:os.Started)(H:Type)(enc:TypeId×Value->H):
 ReturnsInHanded {} Tryz.checked os 4 .any (Rows.topBracketSpec.pre6 enc Tryz.prog Tryz.f4 Rows.topBracketRow.domain false) (Rows.topBracketSpec.post enc Tryz.prog Tryz.f4 false true false false):=by
 refine returnsInHanded_of_change (C:=Tryz.checked) own started (by kernel_rfl) Tryz.func4
  (ChangeSpec.witness6 (enc:=enc) (C:=Tryz.checked) false ⟨#[],#[.agg #[.int .i64 0,.int .i64 0,.int .u64 0,.int .u64 0,.int .i64 0]],[]⟩ 8 (by kernel_rfl) (by kernel_rfl) (by kernel_rfl) (by kernel_rfl)) ?_
 intro W base args ds gs before hval0 hW hcnd _
 have hval:∀(j:Nat)t v,Tryz.f4.params[j]?=some t->args[j]?=some v->Value.okWide Tryz.prog W .any base t v:=hval0
 have hW':=hW
 obtain⟨p,q,hA0,hV,rfl,hfz,hnd⟩:=hW
 have hA:DataW.TrodAll enc Tryz.prog W 0 (λ_=>true) true Tryz.f4.params.toList args.toList ds p:=hA0
 rw[Tryz.params4]at hA hval
 obtain⟨v0,vs0,d0,ds0,p0,q0,hargs,rfl,rfl,h0,r0⟩:=trodAll_cons hA
 obtain⟨rfl,rfl,rfl⟩:=trodAll_nil r0
 obtain rfl:args=#[v0]:=by cases args;simp_all
 obtain⟨rfl,rfl⟩:=trodVars_none hV
 have k0:=h0
 have lt0:∀x∈p0,x.block<W.heap.size:=by obtain⟨m,hm⟩:=k0;exact DataW.trod_lt m _ _ _ hm
 obtain⟨F,E,A,B,M,rfl,hJT⟩:=Hl.Pr (hval 0 24 v0 rfl rfl) h0
 clear hA0 hval0
 refine(walk F E A B M W hJT).mono λe W'⟨he,xS⟩=>?_
 subst he
 exact⟨_,rfl,_,_,_,[],_,[],hW',trodAll_mk1 (shut_bool Tryz.underlying4 _),(trodAll_cons_mk (Below.trod laidOut (by kernel_rfl) (of_decide_eq_true (by kernel_rfl)) k0 xS lt0) trodAll_mk0),rfl,xS.frame _,λh=>by cases h⟩
set_option maxHeartbeats 8000000 in
theorem facts:joinedFacts Tryz.checked.prog 4 Tryz.f4 Rows.topBracketSpec Rows.topBracketRow=true:=
 by apply Hl.ah4<;>(as_aux_lemma=>kernel_rfl)
theorem over:Rows.topBracketRow.holds Tryz.pinned (OpenSpec.ofChange Rows.topBracketSpec):=
 OpenClaim.holds_of_wide 4 Tryz.f4 rfl rfl rfl rfl rfl rfl rfl ⟨rfl,rfl,rfl,rfl,rfl⟩ rfl rfl rfl rfl rfl (by as_aux_lemma=>kernel_rfl) Tryz.func4 facts
  (of_decide_eq_true (by kernel_rfl)) (by unfold Func.isWrapper;first|(rw[if_pos (by decide+kernel)];kernel_rfl)|(rw[if_neg (by decide+kernel)];exact⟨rfl,rfl⟩))
  (λos started H enc _=>lifted os started H enc)
theorem proved:Rows.TopBracketSaid:=over
#print axioms proved
end Go.Proofs.YtpgglolpkbepjaaGreat.topBracket
