/- The rules by which straight code is gone through at once. -/
import Derived.KernelRfl
import Derived.Test.YtccbmjkhplmgnaaHlD
set_option linter.unusedVariables false
set_option linter.unusedSimpArgs false
namespace Go.Hl
open Go Go.RowKit

theorem w64 {n : Int} (h1 : -9223372036854775808 ≤ n) (h2 : n < 9223372036854775808) : IntKind.i64.wrap n = n := by
  rw [IntKind.wrap_i64]; omega
theorem wu64 {n : Int} (h1 : 0 ≤ n) (h2 : n < 18446744073709551616) : IntKind.u64.wrap n = n := by
  rw [IntKind.wrap_u64]; omega
theorem toNat_sub1 (n : Nat) : ((n : Int) - 1).toNat = n - 1 := by omega
theorem toNat_add1 (n : Nat) : ((n : Int) + 1).toNat = n + 1 := by omega
theorem cast_succ (n : Nat) : ((n : Int) + 1) = ((n + 1 : Nat) : Int) := by omega

attribute [push_cast] g_move g_assign g_binOp g_unOp g_load g_pick g_convert g_fieldAddr g_indexAddr g_extract g_index g_nilCheck g_slice000 g_slice100 g_slice010 g_slice110 g_slice001 g_slice101 g_slice011 g_slice111 g_len g_min g_max g_alloc g_box g_buildSlice g_makeSlice g_store g_append g_copy g_build g_call e_move e_assign e_binOp e_unOp e_load e_pick e_convert e_fieldAddr e_indexAddr e_extract e_index e_nilCheck e_slice000 e_slice100 e_slice010 e_slice110 e_slice001 e_slice101 e_slice011 e_slice111 e_len e_min e_max e_call e_alloc e_store e_build e_buildSlice
attribute [push_cast] pv_mk pv_none pvi_mk pvi_none pva_mk pva_none thn_mk any1_some any1_none call0_mk call1_mk call2_mk callM_fn callN_0 callN_1 callN1_some callN_2 storeM_mk boxM_mk expoK_mk expoL_nil expoL_cons ldA pickA convA fieldA extA indexA nilA minA maxA allocS boxS makeS storeS appendS viewS Con.app Con.put Con.puts Con.len mkS mutS copyS bsliceL bsVL buildA buildM_mk evL evP sndL splice numsOf cellsOfL seqFrom fillAV ev ofConst St.put del St.get St.blk St.setB lk Option.getD_some Option.getD_none lenAV bin un idx intOfAV cutAV ldC argAV argsOf AV.cells AV.one List.length_nil List.length_cons List.length_append List.length_replicate List.length_set Option.isSome_some Option.isSome_none Option.map_some Option.map_none Int.toNat_natCast Int.natCast_nonneg Int.toNat_zero Int.natCast_zero List.drop_zero List.getD_cons_zero List.getD_cons_succ and_self and_true true_and if_true if_false decide_true decide_false beq_self_eq_true toNat_sub1 toNat_add1 Bool.not_true Bool.not_false Bool.false_eq_true boolOf gt_iff_lt ge_iff_le Nat.zero_add Nat.add_zero Nat.mul_one Nat.one_mul List.take_nil List.drop_nil kindOf expoT callAV List.map_nil List.map_cons AV.im List.all_nil List.all_cons Bool.and_true Bool.and_self freshS kil AV.refs St.kill St.settle List.toList_toArray List.append_nil List.nil_append List.cons_append List.take_zero List.take_length List.take_succ_cons List.drop_succ_cons w64 wu64 leL leH AV.leq_self AV.leq_nul_os AV.leq_nul_ns AV.leq_any retL ret1 cleanD isAlloc numd and_false false_and Option.some.injEq Int.sub_zero Int.add_zero Int.zero_add

/-- What a walk stands on. -/
structure Env (P : Program) (T : Tab) (S : FuncId → Option Sp) : Prop where
  hT : TabOK P T
  hS : SOK P S
  hm : P.follows .mixedOrders = true

/-- In such a place, A comes down to R. -/
def Im (P : Program) (T : Tab) (S : FuncId → Option Sp) (R A : Prop) : Prop := Env P T S → R → A

section
variable {P : Program} {T : Tab} {S : FuncId → Option Sp} {n : Nat} {R A : Prop} {Q : Exit → St → Prop} {next : St → Prop} {σ σ0 σ1 : St} {x y : Code} {l : List Oper} {id id' t : Nat}

theorem Im.refl : Im P T S A A := fun _ h => h
theorem Im.seqReg (hd : dstsB l.toArray n = true) (k : Im P T S R (opsA T S l.toArray l (fun σ => AWp P T n y Q σ) σ)) : Im P T S R (AWp P T n (.seq (.region id l.toArray false) y) Q σ) :=
  fun e r => .seq (.region e.hT e.hS hd (k e r))
theorem Im.lastReg (hd : dstsB l.toArray n = true) (k : Im P T S R (opsA T S l.toArray l (fun σ => Q .normal σ) σ)) : Im P T S R (AWp P T n (.region id l.toArray false) Q σ) :=
  fun e r => .region e.hT e.hS hd (k e r)
theorem Im.seqRegD (hd : dstsB l.toArray n = true) (hok : okN l.toArray = true) (hc : cleanD l σ = σ0) (k : Im P T S R (opsD T S l.toArray l (fun σ => AWp P T n y Q σ) σ0)) : Im P T S R (AWp P T n (.seq (.region id l.toArray true) y) Q σ) :=
  fun e r => .seq (.regionD e.hT e.hS e.hm hd hok (hc ▸ k e r))
theorem Im.lastRegD (hd : dstsB l.toArray n = true) (hok : okN l.toArray = true) (hc : cleanD l σ = σ0) (k : Im P T S R (opsD T S l.toArray l (fun σ => Q .normal σ) σ0)) : Im P T S R (AWp P T n (.region id l.toArray true) Q σ) :=
  fun e r => .regionD e.hT e.hS e.hm hd hok (hc ▸ k e r)
theorem Im.condT (hb : σ.get t = .raw (.bool true)) (k : Im P T S R (AWp P T n x Q σ)) : Im P T S R (AWp P T n (.cond (.tmp t) x y) Q σ) := fun e r => .condT hb (k e r)
theorem Im.condF (hb : σ.get t = .raw (.bool false)) (k : Im P T S R (AWp P T n y Q σ)) : Im P T S R (AWp P T n (.cond (.tmp t) x y) Q σ) := fun e r => .condF hb (k e r)
theorem Im.seq (k : Im P T S R (AWp P T n x (EThen (AWp P T n y Q) Q) σ)) : Im P T S R (AWp P T n (.seq x y) Q σ) := fun e r => .seq (k e r)
theorem Im.block (k : Im P T S R (AWp P T n x (EBlock id Q) σ)) : Im P T S R (AWp P T n (.block id x) Q σ) := fun e r => .block (k e r)
theorem Im.skip (k : Im P T S R (Q .normal σ)) : Im P T S R (AWp P T n .skip Q σ) := fun e r => .skip (k e r)
theorem Im.exit (k : Im P T S R (Q (.exit id) σ)) : Im P T S R (AWp P T n (.exit id) Q σ) := fun e r => .exit (k e r)
theorem Im.ret (k : Im P T S R (Q .ret σ)) : Im P T S R (AWp P T n .ret Q σ) := fun e r => .ret (k e r)
theorem Im.thn (k : Im P T S R (AWp P T n y Q σ)) : Im P T S R (EThen (AWp P T n y Q) Q .normal σ) := k
theorem Im.thnN (k : Im P T S R (next σ)) : Im P T S R (EThen next Q .normal σ) := k
theorem Im.thenX (k : Im P T S R (Q (.exit id) σ)) : Im P T S R (EThen next Q (.exit id) σ) := k
theorem Im.thenR (k : Im P T S R (Q .ret σ)) : Im P T S R (EThen next Q .ret σ) := k
theorem Im.blkN (k : Im P T S R (Q .normal σ)) : Im P T S R (EBlock id Q .normal σ) := k
theorem Im.blkR (k : Im P T S R (Q .ret σ)) : Im P T S R (EBlock id Q .ret σ) := k
theorem Im.blkX (k : Im P T S R (Q .normal σ)) : Im P T S R (EBlock id Q (.exit id) σ) := fun e r => by
  simp only [EBlock, if_true]; exact k e r
theorem Im.blkY (h : (id' = id) = False) (k : Im P T S R (Q (.exit id') σ)) : Im P T S R (EBlock id Q (.exit id') σ) := fun e r => by
  simp only [EBlock, h, if_false]; exact k e r

end
section
variable {P : Program} {T : Tab} {S : FuncId → Option Sp} {ops : Array Oper} {o : Oper} {os : List Oper} {K : St → Prop} {σ σ0 σ1 σ' : St} {R p : Prop} {t j : Nat} {b c : Bool} {v : Value}

theorem Im.opsA_nil (k : Im P T S R (K σ)) : Im P T S R (opsA T S ops [] K σ) := k
theorem opsA.step (hg : o.guard = none) (h : st1 T S o σ = (p, σ1)) (hp : p) (k : opsA T S ops os K σ1) : opsA T S ops (o :: os) K σ := by
  simp only [opsA, withGuard, hg, h]
  exact ⟨hp, k⟩
theorem Im.opsA_cons (hg : o.guard = none) (h : st1 T S o σ = (p, σ1)) (hp : p) (k : Im P T S R (opsA T S ops os K σ1)) : Im P T S R (opsA T S ops (o :: os) K σ) := by
  intro e r
  exact opsA.step hg h hp (k e r)
theorem Im.opsA_yes (hg : o.guard = some (j, b)) (ht : (ops[j]?).bind (·.dst) = some t) (hb : σ.get t = .raw (.bool b)) (h : st1 T S o (σ.put (some t) (.raw (.bool b))) = (p, σ1)) (hp : p) (k : Im P T S R (opsA T S ops os K σ1)) : Im P T S R (opsA T S ops (o :: os) K σ) := by
  intro e r
  simp only [opsA, withGuard, hg, ht, hb, h]
  exact ⟨fun _ => ⟨hp, k e r⟩, fun e => (by cases b <;> cases e)⟩
theorem Im.opsA_no (hg : o.guard = some (j, b)) (ht : (ops[j]?).bind (·.dst) = some t) (hb : σ.get t = .raw (.bool c)) (hc : c = !b) (hs : (σ.put (some t) (.raw (.bool (!b)))).put o.dst (.raw undef) = σ1) (k : Im P T S R (opsA T S ops os K σ1)) : Im P T S R (opsA T S ops (o :: os) K σ) := by
  intro e r
  subst hc; subst hs
  simp only [opsA, withGuard, hg, ht, hb]
  exact ⟨fun e => (by cases b <;> cases e), fun _ => k e r⟩
theorem Im.opsA_un (hg : o.guard = some (j, b)) (ht : (ops[j]?).bind (·.dst) = some t) (hb : σ.get t = .raw v) (hc : boolOf v = none) (hs : σ.put o.dst (.raw undef) = σ1) (k : Im P T S R (opsA T S ops os K σ1)) : Im P T S R (opsA T S ops (o :: os) K σ) := by
  intro e r
  subst hs
  simp only [opsA, withGuard, hg, ht, hb]
  split
  · rename_i e; cases e; cases hc
  · exact k e r
  · rename_i e; exact (e v rfl).elim
theorem Im.opsA_un0 (hg : o.guard = some (j, b)) (ht : (ops[j]?).bind (·.dst) = none) (k : Im P T S R (opsA T S ops os K (σ.put o.dst (.raw undef)))) : Im P T S R (opsA T S ops (o :: os) K σ) := by
  intro e r
  simp only [opsA, withGuard, hg, ht]
  exact k e r

theorem Im.opsD_nil (k : Im P T S R (K σ)) : Im P T S R (opsD T S ops [] K σ) := k
theorem opsD.step (hg : o.guard = none) (h : stD T S o σ = (p, σ1)) (hp : p) (k : opsD T S ops os K σ1) : opsD T S ops (o :: os) K σ := by
  simp only [opsD, withGuard, hg, h]
  exact ⟨hp, k⟩
theorem Im.opsD_cons (hg : o.guard = none) (h : stD T S o σ = (p, σ1)) (hp : p) (k : Im P T S R (opsD T S ops os K σ1)) : Im P T S R (opsD T S ops (o :: os) K σ) := by
  intro e r
  exact opsD.step hg h hp (k e r)
theorem Im.opsD_yes (hg : o.guard = some (j, b)) (ht : (ops[j]?).bind (·.dst) = some t) (hb : σ.get t = .raw (.bool b)) (h : stD T S o (σ.put (some t) (.raw (.bool b))) = (p, σ1)) (hp : p) (k : Im P T S R (opsD T S ops os K σ1)) : Im P T S R (opsD T S ops (o :: os) K σ) := by
  intro e r
  simp only [opsD, withGuard, hg, ht, hb, h]
  exact ⟨fun _ => ⟨hp, k e r⟩, fun e => (by cases b <;> cases e)⟩
theorem Im.opsD_no (hg : o.guard = some (j, b)) (ht : (ops[j]?).bind (·.dst) = some t) (hb : σ.get t = .raw (.bool c)) (hc : c = !b) (hs : (σ.put (some t) (.raw (.bool (!b)))).put o.dst (.raw undef) = σ1) (k : Im P T S R (opsD T S ops os K σ1)) : Im P T S R (opsD T S ops (o :: os) K σ) := by
  intro e r
  subst hc; subst hs
  simp only [opsD, withGuard, hg, ht, hb]
  exact ⟨fun e => (by cases b <;> cases e), fun _ => k e r⟩
theorem Im.opsD_un (hg : o.guard = some (j, b)) (ht : (ops[j]?).bind (·.dst) = some t) (hb : σ.get t = .raw v) (hc : boolOf v = none) (hs : σ.put o.dst (.raw undef) = σ1) (k : Im P T S R (opsD T S ops os K σ1)) : Im P T S R (opsD T S ops (o :: os) K σ) := by
  intro e r
  subst hs
  simp only [opsD, withGuard, hg, ht, hb]
  split
  · rename_i e; cases e; cases hc
  · exact k e r
  · rename_i e; exact (e v rfl).elim
theorem Im.opsD_un0 (hg : o.guard = some (j, b)) (ht : (ops[j]?).bind (·.dst) = none) (k : Im P T S R (opsD T S ops os K (σ.put o.dst (.raw undef)))) : Im P T S R (opsD T S ops (o :: os) K σ) := by
  intro e r
  simp only [opsD, withGuard, hg, ht]
  exact k e r
end

section
variable {P : Program} {T : Tab} {S : FuncId → Option Sp}
/-- Straight code gone through. -/
theorem wk {A R F : Prop} (hE : Env P T S) (E : F) (k : R) (h : F → Im P T S R A := by
  (intro E; (repeat (first | ((with_reducible apply Im.opsA_cons); rfl; (simp (disch := omega) only [push_cast, ↓Int.cast_ofNat_Int, Int.natCast_add, Int.cast_ofNat_Int, ↓reduceIte, Nat.reduceEqDiff, Nat.reduceBEq, Nat.reduceAdd, Nat.reduceMul, Nat.reduceSub, Nat.reduceLT, Nat.reduceLeDiff, Int.reduceToNat, Int.reduceLT, Int.reduceLE, Int.reduceAdd, Int.reduceSub, Int.reduceNeg, Int.reduceMul, reduceCtorEq, Nat.reducePow, Int.reducePow, Nat.reduceDiv, Nat.reduceMod, List.length_cons, Int.reduceEq, Int.reduceBEq, Int.reduceBNe, E] <;> rfl); (focus ((try simp (disch := omega) only [push_cast, ↓Int.cast_ofNat_Int, Int.natCast_add, Int.cast_ofNat_Int, ↓reduceIte, Nat.reduceEqDiff, Nat.reduceBEq, Nat.reduceAdd, Nat.reduceMul, Nat.reduceSub, Nat.reduceLT, Nat.reduceLeDiff, Int.reduceToNat, Int.reduceLT, Int.reduceLE, Int.reduceAdd, Int.reduceSub, Int.reduceNeg, Int.reduceMul, reduceCtorEq, Nat.reducePow, Int.reducePow, Nat.reduceDiv, Nat.reduceMod, List.length_cons, Int.reduceEq, Int.reduceBEq, Int.reduceBNe, E]) <;> (first | with_reducible trivial | with_reducible assumption | ((repeat' (first | with_reducible assumption | with_reducible apply And.intro)) <;> (first | with_reducible trivial | with_reducible assumption | omega | rfl | exact ⟨_, _, rfl⟩ | (refine ⟨_, _, rfl, ?_, ?_⟩ <;> omega) | assumption)))))) | ((with_reducible apply Im.opsA_yes); rfl; rfl; (simp (disch := omega) only [push_cast, ↓Int.cast_ofNat_Int, Int.natCast_add, Int.cast_ofNat_Int, ↓reduceIte, Nat.reduceEqDiff, Nat.reduceBEq, Nat.reduceAdd, Nat.reduceMul, Nat.reduceSub, Nat.reduceLT, Nat.reduceLeDiff, Int.reduceToNat, Int.reduceLT, Int.reduceLE, Int.reduceAdd, Int.reduceSub, Int.reduceNeg, Int.reduceMul, reduceCtorEq, Nat.reducePow, Int.reducePow, Nat.reduceDiv, Nat.reduceMod, List.length_cons, Int.reduceEq, Int.reduceBEq, Int.reduceBNe, E] <;> rfl); (simp (disch := omega) only [push_cast, ↓Int.cast_ofNat_Int, Int.natCast_add, Int.cast_ofNat_Int, ↓reduceIte, Nat.reduceEqDiff, Nat.reduceBEq, Nat.reduceAdd, Nat.reduceMul, Nat.reduceSub, Nat.reduceLT, Nat.reduceLeDiff, Int.reduceToNat, Int.reduceLT, Int.reduceLE, Int.reduceAdd, Int.reduceSub, Int.reduceNeg, Int.reduceMul, reduceCtorEq, Nat.reducePow, Int.reducePow, Nat.reduceDiv, Nat.reduceMod, List.length_cons, Int.reduceEq, Int.reduceBEq, Int.reduceBNe, E] <;> rfl); (focus ((try simp (disch := omega) only [push_cast, ↓Int.cast_ofNat_Int, Int.natCast_add, Int.cast_ofNat_Int, ↓reduceIte, Nat.reduceEqDiff, Nat.reduceBEq, Nat.reduceAdd, Nat.reduceMul, Nat.reduceSub, Nat.reduceLT, Nat.reduceLeDiff, Int.reduceToNat, Int.reduceLT, Int.reduceLE, Int.reduceAdd, Int.reduceSub, Int.reduceNeg, Int.reduceMul, reduceCtorEq, Nat.reducePow, Int.reducePow, Nat.reduceDiv, Nat.reduceMod, List.length_cons, Int.reduceEq, Int.reduceBEq, Int.reduceBNe, E]) <;> (first | with_reducible trivial | with_reducible assumption | ((repeat' (first | with_reducible assumption | with_reducible apply And.intro)) <;> (first | with_reducible trivial | with_reducible assumption | omega | rfl | exact ⟨_, _, rfl⟩ | (refine ⟨_, _, rfl, ?_, ?_⟩ <;> omega) | assumption)))))) | ((with_reducible apply Im.opsA_no); rfl; rfl; (simp (disch := omega) only [push_cast, ↓Int.cast_ofNat_Int, Int.natCast_add, Int.cast_ofNat_Int, ↓reduceIte, Nat.reduceEqDiff, Nat.reduceBEq, Nat.reduceAdd, Nat.reduceMul, Nat.reduceSub, Nat.reduceLT, Nat.reduceLeDiff, Int.reduceToNat, Int.reduceLT, Int.reduceLE, Int.reduceAdd, Int.reduceSub, Int.reduceNeg, Int.reduceMul, reduceCtorEq, Nat.reducePow, Int.reducePow, Nat.reduceDiv, Nat.reduceMod, List.length_cons, Int.reduceEq, Int.reduceBEq, Int.reduceBNe, E] <;> rfl); rfl; (simp (disch := omega) only [push_cast, ↓Int.cast_ofNat_Int, Int.natCast_add, Int.cast_ofNat_Int, ↓reduceIte, Nat.reduceEqDiff, Nat.reduceBEq, Nat.reduceAdd, Nat.reduceMul, Nat.reduceSub, Nat.reduceLT, Nat.reduceLeDiff, Int.reduceToNat, Int.reduceLT, Int.reduceLE, Int.reduceAdd, Int.reduceSub, Int.reduceNeg, Int.reduceMul, reduceCtorEq, Nat.reducePow, Int.reducePow, Nat.reduceDiv, Nat.reduceMod, List.length_cons, Int.reduceEq, Int.reduceBEq, Int.reduceBNe, E] <;> rfl)) | ((with_reducible apply Im.opsA_un); rfl; rfl; (simp (disch := omega) only [push_cast, ↓Int.cast_ofNat_Int, Int.natCast_add, Int.cast_ofNat_Int, ↓reduceIte, Nat.reduceEqDiff, Nat.reduceBEq, Nat.reduceAdd, Nat.reduceMul, Nat.reduceSub, Nat.reduceLT, Nat.reduceLeDiff, Int.reduceToNat, Int.reduceLT, Int.reduceLE, Int.reduceAdd, Int.reduceSub, Int.reduceNeg, Int.reduceMul, reduceCtorEq, Nat.reducePow, Int.reducePow, Nat.reduceDiv, Nat.reduceMod, List.length_cons, Int.reduceEq, Int.reduceBEq, Int.reduceBNe, E] <;> rfl); rfl; (simp (disch := omega) only [push_cast, ↓Int.cast_ofNat_Int, Int.natCast_add, Int.cast_ofNat_Int, ↓reduceIte, Nat.reduceEqDiff, Nat.reduceBEq, Nat.reduceAdd, Nat.reduceMul, Nat.reduceSub, Nat.reduceLT, Nat.reduceLeDiff, Int.reduceToNat, Int.reduceLT, Int.reduceLE, Int.reduceAdd, Int.reduceSub, Int.reduceNeg, Int.reduceMul, reduceCtorEq, Nat.reducePow, Int.reducePow, Nat.reduceDiv, Nat.reduceMod, List.length_cons, Int.reduceEq, Int.reduceBEq, Int.reduceBNe, E] <;> rfl)) | ((with_reducible apply Im.opsA_un0); rfl; rfl) | with_reducible apply Im.opsA_nil | with_reducible apply Im.thn | with_reducible apply Im.blkN | (with_reducible apply Im.seqReg (by kernel_rfl)) | (with_reducible apply Im.lastReg (by kernel_rfl)) | ((with_reducible apply Im.condT); (simp (disch := omega) only [push_cast, ↓Int.cast_ofNat_Int, Int.natCast_add, Int.cast_ofNat_Int, ↓reduceIte, Nat.reduceEqDiff, Nat.reduceBEq, Nat.reduceAdd, Nat.reduceMul, Nat.reduceSub, Nat.reduceLT, Nat.reduceLeDiff, Int.reduceToNat, Int.reduceLT, Int.reduceLE, Int.reduceAdd, Int.reduceSub, Int.reduceNeg, Int.reduceMul, reduceCtorEq, Nat.reducePow, Int.reducePow, Nat.reduceDiv, Nat.reduceMod, List.length_cons, Int.reduceEq, Int.reduceBEq, Int.reduceBNe, E] <;> rfl)) | ((with_reducible apply Im.condF); (simp (disch := omega) only [push_cast, ↓Int.cast_ofNat_Int, Int.natCast_add, Int.cast_ofNat_Int, ↓reduceIte, Nat.reduceEqDiff, Nat.reduceBEq, Nat.reduceAdd, Nat.reduceMul, Nat.reduceSub, Nat.reduceLT, Nat.reduceLeDiff, Int.reduceToNat, Int.reduceLT, Int.reduceLE, Int.reduceAdd, Int.reduceSub, Int.reduceNeg, Int.reduceMul, reduceCtorEq, Nat.reducePow, Int.reducePow, Nat.reduceDiv, Nat.reduceMod, List.length_cons, Int.reduceEq, Int.reduceBEq, Int.reduceBNe, E] <;> rfl)) | ((with_reducible apply Im.opsD_cons); rfl; (simp (disch := omega) only [push_cast, ↓Int.cast_ofNat_Int, Int.natCast_add, Int.cast_ofNat_Int, ↓reduceIte, Nat.reduceEqDiff, Nat.reduceBEq, Nat.reduceAdd, Nat.reduceMul, Nat.reduceSub, Nat.reduceLT, Nat.reduceLeDiff, Int.reduceToNat, Int.reduceLT, Int.reduceLE, Int.reduceAdd, Int.reduceSub, Int.reduceNeg, Int.reduceMul, reduceCtorEq, Nat.reducePow, Int.reducePow, Nat.reduceDiv, Nat.reduceMod, List.length_cons, Int.reduceEq, Int.reduceBEq, Int.reduceBNe, E] <;> rfl); (focus ((try simp (disch := omega) only [push_cast, ↓Int.cast_ofNat_Int, Int.natCast_add, Int.cast_ofNat_Int, ↓reduceIte, Nat.reduceEqDiff, Nat.reduceBEq, Nat.reduceAdd, Nat.reduceMul, Nat.reduceSub, Nat.reduceLT, Nat.reduceLeDiff, Int.reduceToNat, Int.reduceLT, Int.reduceLE, Int.reduceAdd, Int.reduceSub, Int.reduceNeg, Int.reduceMul, reduceCtorEq, Nat.reducePow, Int.reducePow, Nat.reduceDiv, Nat.reduceMod, List.length_cons, Int.reduceEq, Int.reduceBEq, Int.reduceBNe, E]) <;> (first | with_reducible trivial | with_reducible assumption | ((repeat' (first | with_reducible assumption | with_reducible apply And.intro)) <;> (first | with_reducible trivial | with_reducible assumption | omega | rfl | exact ⟨_, _, rfl⟩ | (refine ⟨_, _, rfl, ?_, ?_⟩ <;> omega) | assumption)))))) | ((with_reducible apply Im.opsD_yes); rfl; rfl; (simp (disch := omega) only [push_cast, ↓Int.cast_ofNat_Int, Int.natCast_add, Int.cast_ofNat_Int, ↓reduceIte, Nat.reduceEqDiff, Nat.reduceBEq, Nat.reduceAdd, Nat.reduceMul, Nat.reduceSub, Nat.reduceLT, Nat.reduceLeDiff, Int.reduceToNat, Int.reduceLT, Int.reduceLE, Int.reduceAdd, Int.reduceSub, Int.reduceNeg, Int.reduceMul, reduceCtorEq, Nat.reducePow, Int.reducePow, Nat.reduceDiv, Nat.reduceMod, List.length_cons, Int.reduceEq, Int.reduceBEq, Int.reduceBNe, E] <;> rfl); (simp (disch := omega) only [push_cast, ↓Int.cast_ofNat_Int, Int.natCast_add, Int.cast_ofNat_Int, ↓reduceIte, Nat.reduceEqDiff, Nat.reduceBEq, Nat.reduceAdd, Nat.reduceMul, Nat.reduceSub, Nat.reduceLT, Nat.reduceLeDiff, Int.reduceToNat, Int.reduceLT, Int.reduceLE, Int.reduceAdd, Int.reduceSub, Int.reduceNeg, Int.reduceMul, reduceCtorEq, Nat.reducePow, Int.reducePow, Nat.reduceDiv, Nat.reduceMod, List.length_cons, Int.reduceEq, Int.reduceBEq, Int.reduceBNe, E] <;> rfl); (focus ((try simp (disch := omega) only [push_cast, ↓Int.cast_ofNat_Int, Int.natCast_add, Int.cast_ofNat_Int, ↓reduceIte, Nat.reduceEqDiff, Nat.reduceBEq, Nat.reduceAdd, Nat.reduceMul, Nat.reduceSub, Nat.reduceLT, Nat.reduceLeDiff, Int.reduceToNat, Int.reduceLT, Int.reduceLE, Int.reduceAdd, Int.reduceSub, Int.reduceNeg, Int.reduceMul, reduceCtorEq, Nat.reducePow, Int.reducePow, Nat.reduceDiv, Nat.reduceMod, List.length_cons, Int.reduceEq, Int.reduceBEq, Int.reduceBNe, E]) <;> (first | with_reducible trivial | with_reducible assumption | ((repeat' (first | with_reducible assumption | with_reducible apply And.intro)) <;> (first | with_reducible trivial | with_reducible assumption | omega | rfl | exact ⟨_, _, rfl⟩ | (refine ⟨_, _, rfl, ?_, ?_⟩ <;> omega) | assumption)))))) | ((with_reducible apply Im.opsD_no); rfl; rfl; (simp (disch := omega) only [push_cast, ↓Int.cast_ofNat_Int, Int.natCast_add, Int.cast_ofNat_Int, ↓reduceIte, Nat.reduceEqDiff, Nat.reduceBEq, Nat.reduceAdd, Nat.reduceMul, Nat.reduceSub, Nat.reduceLT, Nat.reduceLeDiff, Int.reduceToNat, Int.reduceLT, Int.reduceLE, Int.reduceAdd, Int.reduceSub, Int.reduceNeg, Int.reduceMul, reduceCtorEq, Nat.reducePow, Int.reducePow, Nat.reduceDiv, Nat.reduceMod, List.length_cons, Int.reduceEq, Int.reduceBEq, Int.reduceBNe, E] <;> rfl); rfl; (simp (disch := omega) only [push_cast, ↓Int.cast_ofNat_Int, Int.natCast_add, Int.cast_ofNat_Int, ↓reduceIte, Nat.reduceEqDiff, Nat.reduceBEq, Nat.reduceAdd, Nat.reduceMul, Nat.reduceSub, Nat.reduceLT, Nat.reduceLeDiff, Int.reduceToNat, Int.reduceLT, Int.reduceLE, Int.reduceAdd, Int.reduceSub, Int.reduceNeg, Int.reduceMul, reduceCtorEq, Nat.reducePow, Int.reducePow, Nat.reduceDiv, Nat.reduceMod, List.length_cons, Int.reduceEq, Int.reduceBEq, Int.reduceBNe, E] <;> rfl)) | ((with_reducible apply Im.opsD_un); rfl; rfl; (simp (disch := omega) only [push_cast, ↓Int.cast_ofNat_Int, Int.natCast_add, Int.cast_ofNat_Int, ↓reduceIte, Nat.reduceEqDiff, Nat.reduceBEq, Nat.reduceAdd, Nat.reduceMul, Nat.reduceSub, Nat.reduceLT, Nat.reduceLeDiff, Int.reduceToNat, Int.reduceLT, Int.reduceLE, Int.reduceAdd, Int.reduceSub, Int.reduceNeg, Int.reduceMul, reduceCtorEq, Nat.reducePow, Int.reducePow, Nat.reduceDiv, Nat.reduceMod, List.length_cons, Int.reduceEq, Int.reduceBEq, Int.reduceBNe, E] <;> rfl); rfl; (simp (disch := omega) only [push_cast, ↓Int.cast_ofNat_Int, Int.natCast_add, Int.cast_ofNat_Int, ↓reduceIte, Nat.reduceEqDiff, Nat.reduceBEq, Nat.reduceAdd, Nat.reduceMul, Nat.reduceSub, Nat.reduceLT, Nat.reduceLeDiff, Int.reduceToNat, Int.reduceLT, Int.reduceLE, Int.reduceAdd, Int.reduceSub, Int.reduceNeg, Int.reduceMul, reduceCtorEq, Nat.reducePow, Int.reducePow, Nat.reduceDiv, Nat.reduceMod, List.length_cons, Int.reduceEq, Int.reduceBEq, Int.reduceBNe, E] <;> rfl)) | ((with_reducible apply Im.opsD_un0); rfl; rfl) | with_reducible apply Im.opsD_nil | ((with_reducible apply Im.seqRegD (by kernel_rfl) (by kernel_rfl)); (simp (disch := omega) only [push_cast, ↓Int.cast_ofNat_Int, Int.natCast_add, Int.cast_ofNat_Int, ↓reduceIte, Nat.reduceEqDiff, Nat.reduceBEq, Nat.reduceAdd, Nat.reduceMul, Nat.reduceSub, Nat.reduceLT, Nat.reduceLeDiff, Int.reduceToNat, Int.reduceLT, Int.reduceLE, Int.reduceAdd, Int.reduceSub, Int.reduceNeg, Int.reduceMul, reduceCtorEq, Nat.reducePow, Int.reducePow, Nat.reduceDiv, Nat.reduceMod, List.length_cons, Int.reduceEq, Int.reduceBEq, Int.reduceBNe, E] <;> rfl)) | ((with_reducible apply Im.lastRegD (by kernel_rfl) (by kernel_rfl)); (simp (disch := omega) only [push_cast, ↓Int.cast_ofNat_Int, Int.natCast_add, Int.cast_ofNat_Int, ↓reduceIte, Nat.reduceEqDiff, Nat.reduceBEq, Nat.reduceAdd, Nat.reduceMul, Nat.reduceSub, Nat.reduceLT, Nat.reduceLeDiff, Int.reduceToNat, Int.reduceLT, Int.reduceLE, Int.reduceAdd, Int.reduceSub, Int.reduceNeg, Int.reduceMul, reduceCtorEq, Nat.reducePow, Int.reducePow, Nat.reduceDiv, Nat.reduceMod, List.length_cons, Int.reduceEq, Int.reduceBEq, Int.reduceBNe, E] <;> rfl)) | with_reducible apply Im.seq | with_reducible apply Im.block | with_reducible apply Im.skip | with_reducible apply Im.exit | with_reducible apply Im.ret | with_reducible apply Im.thenX | with_reducible apply Im.thenR | with_reducible apply Im.blkR | with_reducible apply Im.blkX | (with_reducible apply Im.blkY (by decide)) | with_reducible apply Im.thnN)); exact Im.refl)) : A := h E hE k

/-- One region alone. -/
theorem wkR {A R F : Prop} (hE : Env P T S) (E : F) (k : R) (h : F → Im P T S R A := by
  (intro E; (first | (with_reducible apply Im.seqReg (by kernel_rfl)) | (with_reducible apply Im.lastReg (by kernel_rfl)) | skip); (repeat (first | ((with_reducible apply Im.opsA_cons); rfl; (simp (disch := omega) only [push_cast, ↓Int.cast_ofNat_Int, Int.natCast_add, Int.cast_ofNat_Int, ↓reduceIte, Nat.reduceEqDiff, Nat.reduceBEq, Nat.reduceAdd, Nat.reduceMul, Nat.reduceSub, Nat.reduceLT, Nat.reduceLeDiff, Int.reduceToNat, Int.reduceLT, Int.reduceLE, Int.reduceAdd, Int.reduceSub, Int.reduceNeg, Int.reduceMul, reduceCtorEq, Nat.reducePow, Int.reducePow, Nat.reduceDiv, Nat.reduceMod, List.length_cons, Int.reduceEq, Int.reduceBEq, Int.reduceBNe, E] <;> rfl); (focus ((try simp (disch := omega) only [push_cast, ↓Int.cast_ofNat_Int, Int.natCast_add, Int.cast_ofNat_Int, ↓reduceIte, Nat.reduceEqDiff, Nat.reduceBEq, Nat.reduceAdd, Nat.reduceMul, Nat.reduceSub, Nat.reduceLT, Nat.reduceLeDiff, Int.reduceToNat, Int.reduceLT, Int.reduceLE, Int.reduceAdd, Int.reduceSub, Int.reduceNeg, Int.reduceMul, reduceCtorEq, Nat.reducePow, Int.reducePow, Nat.reduceDiv, Nat.reduceMod, List.length_cons, Int.reduceEq, Int.reduceBEq, Int.reduceBNe, E]) <;> (first | with_reducible trivial | with_reducible assumption | ((repeat' (first | with_reducible assumption | with_reducible apply And.intro)) <;> (first | with_reducible trivial | with_reducible assumption | omega | rfl | exact ⟨_, _, rfl⟩ | (refine ⟨_, _, rfl, ?_, ?_⟩ <;> omega) | assumption)))))) | ((with_reducible apply Im.opsA_yes); rfl; rfl; (simp (disch := omega) only [push_cast, ↓Int.cast_ofNat_Int, Int.natCast_add, Int.cast_ofNat_Int, ↓reduceIte, Nat.reduceEqDiff, Nat.reduceBEq, Nat.reduceAdd, Nat.reduceMul, Nat.reduceSub, Nat.reduceLT, Nat.reduceLeDiff, Int.reduceToNat, Int.reduceLT, Int.reduceLE, Int.reduceAdd, Int.reduceSub, Int.reduceNeg, Int.reduceMul, reduceCtorEq, Nat.reducePow, Int.reducePow, Nat.reduceDiv, Nat.reduceMod, List.length_cons, Int.reduceEq, Int.reduceBEq, Int.reduceBNe, E] <;> rfl); (simp (disch := omega) only [push_cast, ↓Int.cast_ofNat_Int, Int.natCast_add, Int.cast_ofNat_Int, ↓reduceIte, Nat.reduceEqDiff, Nat.reduceBEq, Nat.reduceAdd, Nat.reduceMul, Nat.reduceSub, Nat.reduceLT, Nat.reduceLeDiff, Int.reduceToNat, Int.reduceLT, Int.reduceLE, Int.reduceAdd, Int.reduceSub, Int.reduceNeg, Int.reduceMul, reduceCtorEq, Nat.reducePow, Int.reducePow, Nat.reduceDiv, Nat.reduceMod, List.length_cons, Int.reduceEq, Int.reduceBEq, Int.reduceBNe, E] <;> rfl); (focus ((try simp (disch := omega) only [push_cast, ↓Int.cast_ofNat_Int, Int.natCast_add, Int.cast_ofNat_Int, ↓reduceIte, Nat.reduceEqDiff, Nat.reduceBEq, Nat.reduceAdd, Nat.reduceMul, Nat.reduceSub, Nat.reduceLT, Nat.reduceLeDiff, Int.reduceToNat, Int.reduceLT, Int.reduceLE, Int.reduceAdd, Int.reduceSub, Int.reduceNeg, Int.reduceMul, reduceCtorEq, Nat.reducePow, Int.reducePow, Nat.reduceDiv, Nat.reduceMod, List.length_cons, Int.reduceEq, Int.reduceBEq, Int.reduceBNe, E]) <;> (first | with_reducible trivial | with_reducible assumption | ((repeat' (first | with_reducible assumption | with_reducible apply And.intro)) <;> (first | with_reducible trivial | with_reducible assumption | omega | rfl | exact ⟨_, _, rfl⟩ | (refine ⟨_, _, rfl, ?_, ?_⟩ <;> omega) | assumption)))))) | ((with_reducible apply Im.opsA_no); rfl; rfl; (simp (disch := omega) only [push_cast, ↓Int.cast_ofNat_Int, Int.natCast_add, Int.cast_ofNat_Int, ↓reduceIte, Nat.reduceEqDiff, Nat.reduceBEq, Nat.reduceAdd, Nat.reduceMul, Nat.reduceSub, Nat.reduceLT, Nat.reduceLeDiff, Int.reduceToNat, Int.reduceLT, Int.reduceLE, Int.reduceAdd, Int.reduceSub, Int.reduceNeg, Int.reduceMul, reduceCtorEq, Nat.reducePow, Int.reducePow, Nat.reduceDiv, Nat.reduceMod, List.length_cons, Int.reduceEq, Int.reduceBEq, Int.reduceBNe, E] <;> rfl); rfl; (simp (disch := omega) only [push_cast, ↓Int.cast_ofNat_Int, Int.natCast_add, Int.cast_ofNat_Int, ↓reduceIte, Nat.reduceEqDiff, Nat.reduceBEq, Nat.reduceAdd, Nat.reduceMul, Nat.reduceSub, Nat.reduceLT, Nat.reduceLeDiff, Int.reduceToNat, Int.reduceLT, Int.reduceLE, Int.reduceAdd, Int.reduceSub, Int.reduceNeg, Int.reduceMul, reduceCtorEq, Nat.reducePow, Int.reducePow, Nat.reduceDiv, Nat.reduceMod, List.length_cons, Int.reduceEq, Int.reduceBEq, Int.reduceBNe, E] <;> rfl)) | ((with_reducible apply Im.opsA_un); rfl; rfl; (simp (disch := omega) only [push_cast, ↓Int.cast_ofNat_Int, Int.natCast_add, Int.cast_ofNat_Int, ↓reduceIte, Nat.reduceEqDiff, Nat.reduceBEq, Nat.reduceAdd, Nat.reduceMul, Nat.reduceSub, Nat.reduceLT, Nat.reduceLeDiff, Int.reduceToNat, Int.reduceLT, Int.reduceLE, Int.reduceAdd, Int.reduceSub, Int.reduceNeg, Int.reduceMul, reduceCtorEq, Nat.reducePow, Int.reducePow, Nat.reduceDiv, Nat.reduceMod, List.length_cons, Int.reduceEq, Int.reduceBEq, Int.reduceBNe, E] <;> rfl); rfl; (simp (disch := omega) only [push_cast, ↓Int.cast_ofNat_Int, Int.natCast_add, Int.cast_ofNat_Int, ↓reduceIte, Nat.reduceEqDiff, Nat.reduceBEq, Nat.reduceAdd, Nat.reduceMul, Nat.reduceSub, Nat.reduceLT, Nat.reduceLeDiff, Int.reduceToNat, Int.reduceLT, Int.reduceLE, Int.reduceAdd, Int.reduceSub, Int.reduceNeg, Int.reduceMul, reduceCtorEq, Nat.reducePow, Int.reducePow, Nat.reduceDiv, Nat.reduceMod, List.length_cons, Int.reduceEq, Int.reduceBEq, Int.reduceBNe, E] <;> rfl)) | ((with_reducible apply Im.opsA_un0); rfl; rfl) | with_reducible apply Im.opsA_nil)); exact Im.refl)) : A := h E hE k

/-- Told less, slot by slot. -/
theorem Le.mk {F : Prop} {σ σ' : St} (E : F) (h1 : F → leL σ σ'.fr := by
  (intro E; (focus ((try simp (disch := omega) only [push_cast, ↓Int.cast_ofNat_Int, Int.natCast_add, Int.cast_ofNat_Int, ↓reduceIte, Nat.reduceEqDiff, Nat.reduceBEq, Nat.reduceAdd, Nat.reduceMul, Nat.reduceSub, Nat.reduceLT, Nat.reduceLeDiff, Int.reduceToNat, Int.reduceLT, Int.reduceLE, Int.reduceAdd, Int.reduceSub, Int.reduceNeg, Int.reduceMul, reduceCtorEq, Nat.reducePow, Int.reducePow, Nat.reduceDiv, Nat.reduceMod, List.length_cons, Int.reduceEq, Int.reduceBEq, Int.reduceBNe, E]) <;> (first | with_reducible trivial | with_reducible assumption | ((repeat' (first | with_reducible assumption | with_reducible apply And.intro)) <;> (first | with_reducible trivial | with_reducible assumption | omega | rfl | exact ⟨_, _, rfl⟩ | (refine ⟨_, _, rfl, ?_, ?_⟩ <;> omega) | assumption))))))) (h2 : F → leH σ σ'.hp := by
  (intro E; (focus ((try simp (disch := omega) only [push_cast, ↓Int.cast_ofNat_Int, Int.natCast_add, Int.cast_ofNat_Int, ↓reduceIte, Nat.reduceEqDiff, Nat.reduceBEq, Nat.reduceAdd, Nat.reduceMul, Nat.reduceSub, Nat.reduceLT, Nat.reduceLeDiff, Int.reduceToNat, Int.reduceLT, Int.reduceLE, Int.reduceAdd, Int.reduceSub, Int.reduceNeg, Int.reduceMul, reduceCtorEq, Nat.reducePow, Int.reducePow, Nat.reduceDiv, Nat.reduceMod, List.length_cons, Int.reduceEq, Int.reduceBEq, Int.reduceBNe, E]) <;> (first | with_reducible trivial | with_reducible assumption | ((repeat' (first | with_reducible assumption | with_reducible apply And.intro)) <;> (first | with_reducible trivial | with_reducible assumption | omega | rfl | exact ⟨_, _, rfl⟩ | (refine ⟨_, _, rfl, ?_, ?_⟩ <;> omega) | assumption))))))) : Le σ σ' := .of (h1 E) (h2 E)

theorem oneOf1 (v : AV) : oneOf [v] = v := rfl
theorem oneOf2 (a b : AV) (l : List AV) : oneOf (a :: b :: l) = .tup (a :: b :: l) := rfl

/-- The results, told. -/
theorem PostL.mk {F p : Prop} {rs : List ResultVar} {ts : List TypeId} {r v : AV} {e : Exit} {σ σ' : St} {vs : List AV} (E : F) (k : v = r) (he : e = .normal ∨ e = .ret := by first | exact .inr rfl | exact .inl rfl) (h : F → retL T σ rs ts = (p, σ', vs) := by
  (intro E; (simp (disch := omega) only [push_cast, ↓Int.cast_ofNat_Int, Int.natCast_add, Int.cast_ofNat_Int, ↓reduceIte, Nat.reduceEqDiff, Nat.reduceBEq, Nat.reduceAdd, Nat.reduceMul, Nat.reduceSub, Nat.reduceLT, Nat.reduceLeDiff, Int.reduceToNat, Int.reduceLT, Int.reduceLE, Int.reduceAdd, Int.reduceSub, Int.reduceNeg, Int.reduceMul, reduceCtorEq, Nat.reducePow, Int.reducePow, Nat.reduceDiv, Nat.reduceMod, List.length_cons, Int.reduceEq, Int.reduceBEq, Int.reduceBNe, E] <;> rfl))) (hp : F → p := by
  (intro E; (focus ((try simp (disch := omega) only [push_cast, ↓Int.cast_ofNat_Int, Int.natCast_add, Int.cast_ofNat_Int, ↓reduceIte, Nat.reduceEqDiff, Nat.reduceBEq, Nat.reduceAdd, Nat.reduceMul, Nat.reduceSub, Nat.reduceLT, Nat.reduceLeDiff, Int.reduceToNat, Int.reduceLT, Int.reduceLE, Int.reduceAdd, Int.reduceSub, Int.reduceNeg, Int.reduceMul, reduceCtorEq, Nat.reducePow, Int.reducePow, Nat.reduceDiv, Nat.reduceMod, List.length_cons, Int.reduceEq, Int.reduceBEq, Int.reduceBNe, E]) <;> (first | with_reducible trivial | with_reducible assumption | ((repeat' (first | with_reducible assumption | with_reducible apply And.intro)) <;> (first | with_reducible trivial | with_reducible assumption | omega | rfl | exact ⟨_, _, rfl⟩ | (refine ⟨_, _, rfl, ?_, ?_⟩ <;> omega) | assumption))))))) (hv : oneOf vs = v := by first | exact oneOf1 _ | exact oneOf2 _ _ _) : PostL T rs ts r e σ := by
  have h1 := h E
  refine ⟨he, ?_, ?_⟩
  · rw [h1]; exact hp E
  · rw [h1]; exact hv.trans k

/-- The result is a block of the call's own. -/
theorem PostF.mk {F : Prop} {t id : Nat} {k : IntKind} {xs ys : List Int} {wr : Bool} {e : Exit} {σ : St} (E : F) (hk : ys = xs) (he : e = .normal ∨ e = .ret := by first | exact .inr rfl | exact .inl rfl) (h1 : F → σ.get t = .os id 1 0 ys.length := by
  (intro E; (simp (disch := omega) only [push_cast, ↓Int.cast_ofNat_Int, Int.natCast_add, Int.cast_ofNat_Int, ↓reduceIte, Nat.reduceEqDiff, Nat.reduceBEq, Nat.reduceAdd, Nat.reduceMul, Nat.reduceSub, Nat.reduceLT, Nat.reduceLeDiff, Int.reduceToNat, Int.reduceLT, Int.reduceLE, Int.reduceAdd, Int.reduceSub, Int.reduceNeg, Int.reduceMul, reduceCtorEq, Nat.reducePow, Int.reducePow, Nat.reduceDiv, Nat.reduceMod, List.length_cons, Int.reduceEq, Int.reduceBEq, Int.reduceBNe, E] <;> rfl))) (h2 : F → σ.blk id = some ⟨wr, .n k ys⟩ := by
  (intro E; (simp (disch := omega) only [push_cast, ↓Int.cast_ofNat_Int, Int.natCast_add, Int.cast_ofNat_Int, ↓reduceIte, Nat.reduceEqDiff, Nat.reduceBEq, Nat.reduceAdd, Nat.reduceMul, Nat.reduceSub, Nat.reduceLT, Nat.reduceLeDiff, Int.reduceToNat, Int.reduceLT, Int.reduceLE, Int.reduceAdd, Int.reduceSub, Int.reduceNeg, Int.reduceMul, reduceCtorEq, Nat.reducePow, Int.reducePow, Nat.reduceDiv, Nat.reduceMod, List.length_cons, Int.reduceEq, Int.reduceBEq, Int.reduceBNe, E] <;> rfl))) : PostF t k xs e σ := by
  subst hk
  exact ⟨he, .inl ⟨id, wr, h1 E, h2 E⟩⟩

/-- Where the ways of x meet, ahead of y. -/
theorem AWp.join {n : Nat} {Q : Exit → St → Prop} {σ : St} {x y : Code} {ι : Type} (J : ι → St) (h1 : AWp P T n x (EThen (fun σ => ∃ i, Le σ (J i)) Q) σ) (h2 : ∀ i, AWp P T n y Q (J i)) : AWp P T n x (EThen (AWp P T n y Q) Q) σ :=
  h1.mono fun e σ' h => by
    cases e with
    | normal => obtain ⟨i, hi⟩ := h; exact (h2 i).weak hi
    | _ => exact h

/-- The same inside a block. -/
theorem AWp.joinB {n id : Nat} {Q : Exit → St → Prop} {σ : St} {x y : Code} {ι : Type} (J : ι → St) (h1 : AWp P T n x (EBlock id (EThen (fun σ => ∃ i, Le σ (J i)) Q)) σ) (h2 : ∀ i, AWp P T n y Q (J i)) : AWp P T n x (EBlock id (EThen (AWp P T n y Q) Q)) σ :=
  h1.mono fun e σ' h => by
    cases e with
    | normal => obtain ⟨i, hi⟩ := h; exact (h2 i).weak hi
    | exit id' =>
      simp only [EBlock] at h ⊢
      split
      · rename_i e; rw [if_pos e] at h; obtain ⟨i, hi⟩ := h; exact (h2 i).weak hi
      · rename_i e; rw [if_neg e] at h; exact h
    | _ => exact h

/-- Into a function's body. -/
theorem ACall.body {f : FuncId} {fn : Func} {c : Code} {args : List AV} {r : AV} {n : Nat} {rs : List ResultVar} {ts : List TypeId} {l : List (Nat × AV)} (hE : Env P T S) (hf : P.funcs[f]? = some fn) (hnt : fn.ntmps = n) (hrs : fn.results = rs.toArray) (h : AWp P T n c (PostL T rs ts r) ⟨l, []⟩) (hb : fn.body = some c := by rfl)
    (hname : (fn.name == "runtime.NumGoroutine") = false := by decide) (hts : fn.resultTypes = ts.toArray := by rfl) (him : args.all AV.im = true := by rfl) (hn : args.length ≤ n := by simp) (hl : numd 0 args = l := by rfl) : ACall P f args r := by
  subst hl
  exact ACall.of hE.hT hf hb hname hnt (by rw [hrs]) (by rw [hts]) him hn h
theorem FCall.body {f : FuncId} {fn : Func} {c : Code} {args : List AV} {n t : Nat} {k : IntKind} {xs : List Int} {l : List (Nat × AV)} (hE : Env P T S) (hf : P.funcs[f]? = some fn) (hnt : fn.ntmps = n) (hrs : fn.results = #[.tmp t]) (h : AWp P T n c (PostF t k xs) ⟨l, []⟩) (hb : fn.body = some c := by rfl)
    (hname : (fn.name == "runtime.NumGoroutine") = false := by decide) (him : args.all AV.im = true := by rfl) (hn : args.length ≤ n := by simp) (hl : numd 0 args = l := by rfl) : FCall P f args (.ns k xs) := by
  subst hl
  exact FCall.of hE.hT hf hb hname hnt hrs him hn h

theorem MCall.body {f : FuncId} {fn : Func} {c : Code} {k : IntKind} {xs ys : List Int} {rest : List AV} {r0 : AV} {n : Nat} {rs : List ResultVar} {ts : List TypeId} {l : List (Nat × AV)} (hE : Env P T S) (hf : P.funcs[f]? = some fn) (hnt : fn.ntmps = n) (hrs : fn.results = rs.toArray) (hlen : ys.length = xs.length)
    (h : AWp P T n c (PostM T rs ts r0 n k ys) ⟨(0, .os n 1 0 xs.length) :: l, [(n, ⟨true, .n k xs⟩)]⟩) (hTm : T.mu = true := by rfl) (hb : fn.body = some c := by rfl)
    (hname : (fn.name == "runtime.NumGoroutine") = false := by decide) (hts : fn.resultTypes = ts.toArray := by rfl) (him : rest.all AV.im = true := by rfl) (hn : rest.length + 1 ≤ n := by simp) (hl : numd 1 rest = l := by rfl) : MCall P f (.ns k xs :: rest) (.tup [r0, .ns k ys]) := by
  subst hl
  exact MCall.of hE.hT hTm hf hb hname hnt (by rw [hrs]) (by rw [hts]) him hn hlen h
theorem oneOf0 : oneOf [] = .tup [] := rfl
theorem PostM.mk {F p : Prop} {rs : List ResultVar} {ts : List TypeId} {r v : AV} {n : Nat} {kk : IntKind} {xs ys : List Int} {wr : Bool} {e : Exit} {σ σ' : St} {vs : List AV} (E : F) (k : v = r) (k2 : xs = ys) (he : e = .normal ∨ e = .ret := by first | exact .inr rfl | exact .inl rfl) (h : F → retL T σ rs ts = (p, σ', vs) := by
  (intro E; (simp (disch := omega) only [push_cast, ↓Int.cast_ofNat_Int, Int.natCast_add, Int.cast_ofNat_Int, ↓reduceIte, Nat.reduceEqDiff, Nat.reduceBEq, Nat.reduceAdd, Nat.reduceMul, Nat.reduceSub, Nat.reduceLT, Nat.reduceLeDiff, Int.reduceToNat, Int.reduceLT, Int.reduceLE, Int.reduceAdd, Int.reduceSub, Int.reduceNeg, Int.reduceMul, reduceCtorEq, Nat.reducePow, Int.reducePow, Nat.reduceDiv, Nat.reduceMod, List.length_cons, Int.reduceEq, Int.reduceBEq, Int.reduceBNe, E] <;> rfl))) (hp : F → p := by
  (intro E; (focus ((try simp (disch := omega) only [push_cast, ↓Int.cast_ofNat_Int, Int.natCast_add, Int.cast_ofNat_Int, ↓reduceIte, Nat.reduceEqDiff, Nat.reduceBEq, Nat.reduceAdd, Nat.reduceMul, Nat.reduceSub, Nat.reduceLT, Nat.reduceLeDiff, Int.reduceToNat, Int.reduceLT, Int.reduceLE, Int.reduceAdd, Int.reduceSub, Int.reduceNeg, Int.reduceMul, reduceCtorEq, Nat.reducePow, Int.reducePow, Nat.reduceDiv, Nat.reduceMod, List.length_cons, Int.reduceEq, Int.reduceBEq, Int.reduceBNe, E]) <;> (first | with_reducible trivial | with_reducible assumption | ((repeat' (first | with_reducible assumption | with_reducible apply And.intro)) <;> (first | with_reducible trivial | with_reducible assumption | omega | rfl | exact ⟨_, _, rfl⟩ | (refine ⟨_, _, rfl, ?_, ?_⟩ <;> omega) | assumption))))))) (hv : oneOf vs = v := by first | exact oneOf0 | exact oneOf1 _ | exact oneOf2 _ _ _) (h2 : F → σ.blk n = some ⟨wr, .n kk xs⟩ := by
  (intro E; (simp (disch := omega) only [push_cast, ↓Int.cast_ofNat_Int, Int.natCast_add, Int.cast_ofNat_Int, ↓reduceIte, Nat.reduceEqDiff, Nat.reduceBEq, Nat.reduceAdd, Nat.reduceMul, Nat.reduceSub, Nat.reduceLT, Nat.reduceLeDiff, Int.reduceToNat, Int.reduceLT, Int.reduceLE, Int.reduceAdd, Int.reduceSub, Int.reduceNeg, Int.reduceMul, reduceCtorEq, Nat.reducePow, Int.reducePow, Nat.reduceDiv, Nat.reduceMod, List.length_cons, Int.reduceEq, Int.reduceBEq, Int.reduceBNe, E] <;> rfl))) : PostM T rs ts r n kk ys e σ := by
  subst k2
  exact ⟨PostL.mk E k he h hp hv, wr, h2 E⟩

/-- A slice of the call's own that will not be written any more. -/
theorem AWp.give {F p : Prop} {n : Nat} {c : Code} {Q : Exit → St → Prop} {σ σ1 : St} (t : Nat) (E : F) (k : AWp P T n c Q σ1) (h : F → expoT T σ (.tmp t) = (p, σ1) := by
  (intro E; (simp (disch := omega) only [push_cast, ↓Int.cast_ofNat_Int, Int.natCast_add, Int.cast_ofNat_Int, ↓reduceIte, Nat.reduceEqDiff, Nat.reduceBEq, Nat.reduceAdd, Nat.reduceMul, Nat.reduceSub, Nat.reduceLT, Nat.reduceLeDiff, Int.reduceToNat, Int.reduceLT, Int.reduceLE, Int.reduceAdd, Int.reduceSub, Int.reduceNeg, Int.reduceMul, reduceCtorEq, Nat.reducePow, Int.reducePow, Nat.reduceDiv, Nat.reduceMod, List.length_cons, Int.reduceEq, Int.reduceBEq, Int.reduceBNe, E] <;> rfl))) (hp : F → p := by
  (intro E; (focus ((try simp (disch := omega) only [push_cast, ↓Int.cast_ofNat_Int, Int.natCast_add, Int.cast_ofNat_Int, ↓reduceIte, Nat.reduceEqDiff, Nat.reduceBEq, Nat.reduceAdd, Nat.reduceMul, Nat.reduceSub, Nat.reduceLT, Nat.reduceLeDiff, Int.reduceToNat, Int.reduceLT, Int.reduceLE, Int.reduceAdd, Int.reduceSub, Int.reduceNeg, Int.reduceMul, reduceCtorEq, Nat.reducePow, Int.reducePow, Nat.reduceDiv, Nat.reduceMod, List.length_cons, Int.reduceEq, Int.reduceBEq, Int.reduceBNe, E]) <;> (first | with_reducible trivial | with_reducible assumption | ((repeat' (first | with_reducible assumption | with_reducible apply And.intro)) <;> (first | with_reducible trivial | with_reducible assumption | omega | rfl | exact ⟨_, _, rfl⟩ | (refine ⟨_, _, rfl, ?_, ?_⟩ <;> omega) | assumption))))))) : AWp P T n c Q σ := by
  intro κ β a w hn hm hC
  have h1 := h E
  have h2 := expo_sound (T := T) (x := .tmp t) hm hC (by rw [h1]; exact hp E)
  rw [h1] at h2
  exact k κ β a w hn hm h2

/-- A test that is not known: both ways. -/
theorem AWp.test {F : Prop} {n t : Nat} {Q : Exit → St → Prop} {σ : St} {x y : Code} {b : Bool} (E : F) (ht : b = true → AWp P T n x Q σ) (hf : b = false → AWp P T n y Q σ) (hb : F → σ.get t = .raw (.bool b) := by
  (intro E; (simp (disch := omega) only [push_cast, ↓Int.cast_ofNat_Int, Int.natCast_add, Int.cast_ofNat_Int, ↓reduceIte, Nat.reduceEqDiff, Nat.reduceBEq, Nat.reduceAdd, Nat.reduceMul, Nat.reduceSub, Nat.reduceLT, Nat.reduceLeDiff, Int.reduceToNat, Int.reduceLT, Int.reduceLE, Int.reduceAdd, Int.reduceSub, Int.reduceNeg, Int.reduceMul, reduceCtorEq, Nat.reducePow, Int.reducePow, Nat.reduceDiv, Nat.reduceMod, List.length_cons, Int.reduceEq, Int.reduceBEq, Int.reduceBNe, E] <;> rfl))) : AWp P T n (.cond (.tmp t) x y) Q σ := by
  cases b with
  | true => exact .condT (hb E) (ht rfl)
  | false => exact .condF (hb E) (hf rfl)
end
end Go.Hl
