/- Each kind of operation, its step told at once. Contracts of functions whose result is new memory; of functions that write into their first argument; of functions without a body. -/
import Derived.Lib.SliceRun
import Derived.Test.YtccbmjkhplmgnaaGreatHlAv22
set_option linter.unusedVariables false
set_option linter.unusedSimpArgs false
namespace Go.Hl
open Go Go.RowKit
def ldA (T : Tab) (σ : St) (t : TypeId) (x : AV) : Prop × AV :=
  match x with
  | .vp cs => ldC T t (.c cs) 0
  | .ptr id off => match σ.blk id with
    | some blk => ldC T t blk.con off
    | none => (False, .any)
  | _ => (False, .any)
def pickA (c a b : AV) : Prop × AV :=
  match c with
  | .raw (.bool t) => (True, if t then a else b)
  | _ => (False, .any)
def convA (s d : Option IntKind) (x : AV) : Prop × AV :=
  match x, s, d with
  | .raw (.int _ n), some _, some k => (True, .raw (.int k (k.wrap n)))
  | _, _, _ => (False, .any)
def fieldA (σ : St) (o : Option Nat) (x : AV) : Prop × AV :=
  match o with
  | none => (False, .any)
  | some d => match x with
    | .ptr id off => ((σ.blk id).isSome = true, .ptr id (off + d))
    | .vp cs => (d < cs.length, .vp (cs.drop d))
    | _ => (False, .any)
def extA (x : AV) (i : Nat) : Prop × AV :=
  match x with
  | .tup cs => (i < cs.length, cs.getD i .any)
  | _ => (False, .any)
def indexA (T : Tab) (t : TypeId) (x : AV) (i : Option Int) : Prop × AV :=
  match x, i with
  | .raw (.string s), some i => (T.str t = true ∧ 0 ≤ i ∧ i.toNat < s.size, .raw (.int .u8 (s.data.getD i.toNat 0).toNat))
  | _, _ => (False, .any)
def nilA (x : AV) : Prop × AV :=
  match x with
  | .vp cs => (True, .vp cs)
  | .fn f cs => (True, .fn f cs)
  | _ => (False, .any)
def minA (x y : AV) : Prop × AV :=
  match x, y with
  | .raw (.int k a), .raw (.int _ b) => (True, .raw (.int k (if b < a then b else a)))
  | _, _ => (False, .any)
def maxA (x y : AV) : Prop × AV :=
  match x, y with
  | .raw (.int k a), .raw (.int _ b) => (True, .raw (.int k (if b > a then b else a)))
  | _, _ => (False, .any)
def pv (σ : St) (d : Option Nat) (r : Prop × AV) : Prop × St := (r.1, σ.put d r.2)
theorem pv_mk (σ : St) (d : Nat) (p : Prop) (v : AV) : pv σ (some d) (p, v) = (p, ⟨(d, v) :: del σ.fr d, σ.hp⟩) := rfl
theorem pv_none (σ : St) (p : Prop) (v : AV) : pv σ none (p, v) = (p, σ) := rfl
def pvi (σ : St) (d : Option Nat) (r : Prop × AV) : Prop × St := (r.1 ∧ r.2.im = true, σ.put d r.2)
theorem pvi_mk (σ : St) (d : Nat) (p : Prop) (v : AV) : pvi σ (some d) (p, v) = ((p ∧ v.im = true), ⟨(d, v) :: del σ.fr d, σ.hp⟩) := rfl
theorem pvi_none (σ : St) (p : Prop) (v : AV) : pvi σ none (p, v) = ((p ∧ v.im = true), σ) := rfl
def pva (p : Prop) (σ : St) (d : Option Nat) (r : Prop × AV) : Prop × St := (p ∧ r.1, σ.put d r.2)
theorem pva_mk (p : Prop) (σ : St) (d : Nat) (q : Prop) (v : AV) : pva p σ (some d) (q, v) = ((p ∧ q), ⟨(d, v) :: del σ.fr d, σ.hp⟩) := rfl
theorem pva_none (p : Prop) (σ : St) (q : Prop) (v : AV) : pva p σ none (q, v) = ((p ∧ q), σ) := rfl
def thn (p : Prop) (r : Prop × St) : Prop × St := (p ∧ r.1, r.2)
theorem thn_mk (p q : Prop) (σ : St) : thn p (q, σ) = ((p ∧ q), σ) := rfl
def any1 (r : Prop × St) (d : Option Nat) : Prop × St := (r.1, r.2.put d .any)
theorem any1_some (p : Prop) (σ : St) (d : Nat) : any1 (p, σ) (some d) = (p, ⟨(d, .any) :: del σ.fr d, σ.hp⟩) := rfl
theorem any1_none (p : Prop) (σ : St) : any1 (p, σ) none = (p, σ) := rfl
def call0 (T : Tab) (S : FuncId → Option Sp) (d : Option Nat) (x : Operand) (xs : List Operand) (ts : List TypeId) (e : Prop × St) : Prop × St :=
  pva e.1 e.2 d (callAV S (ev e.2.get x) (argsOf T e.2.get xs ts))
theorem call0_mk (T : Tab) (S : FuncId → Option Sp) (d : Option Nat) (x : Operand) (xs : List Operand) (ts : List TypeId) (p : Prop) (σ : St) :
    call0 T S d x xs ts (p, σ) = pva p σ d (callAV S (ev σ.get x) (argsOf T σ.get xs ts)) := rfl
def call1 (T : Tab) (d : Option Nat) (sp : Sp) (xs : List Operand) (ts : List TypeId) (e : Prop × St) : Prop × St :=
  (e.1 ∧ (argsOf T e.2.get xs ts).all AV.im = true ∧ sp.kind = 1 ∧ sp.pre (argsOf T e.2.get xs ts) ∧ (freshS e.2 d (sp.res (argsOf T e.2.get xs ts))).1, (freshS e.2 d (sp.res (argsOf T e.2.get xs ts))).2)
theorem call1_mk (T : Tab) (d : Option Nat) (sp : Sp) (xs : List Operand) (ts : List TypeId) (p : Prop) (σ : St) :
    call1 T d sp xs ts (p, σ) = ((p ∧ (argsOf T σ.get xs ts).all AV.im = true ∧ sp.kind = 1 ∧ sp.pre (argsOf T σ.get xs ts) ∧ (freshS σ d (sp.res (argsOf T σ.get xs ts))).1), (freshS σ d (sp.res (argsOf T σ.get xs ts))).2) := rfl
def call2 (T : Tab) (S : FuncId → Option Sp) (d : Option Nat) (g : FuncId) (x0 : Operand) (xs : List Operand) (ts : List TypeId) (e : Prop × St) : Prop × St :=
  thn e.1 (mutS S e.2 d g (ev e.2.get x0) (argsOf T e.2.get xs ts))
theorem call2_mk (T : Tab) (S : FuncId → Option Sp) (d : Option Nat) (g : FuncId) (x0 : Operand) (xs : List Operand) (ts : List TypeId) (p : Prop) (σ : St) :
    call2 T S d g x0 xs ts (p, σ) = thn p (mutS S σ d g (ev σ.get x0) (argsOf T σ.get xs ts)) := rfl
def callG (T : Tab) (S : FuncId → Option Sp) (σ : St) (d : Option Nat) (x : Operand) (xs : List Operand) (ts : List TypeId) (f : AV) (k : Nat) : Prop × St :=
  match k with
  | 0 => call0 T S d x xs ts (expoL T σ xs)
  | 1 => match f with
    | .fn g [] => match S g with
      | some sp => call1 T d sp xs ts (expoL T σ xs)
      | none => (False, σ)
    | _ => (False, σ)
  | 2 => match f, xs, ts with
    | .fn g [], x0 :: xs, _ :: ts => call2 T S d g x0 xs ts (expoL T σ xs)
    | _, _, _ => (False, σ)
  | _ => (False, σ)
def callM (T : Tab) (S : FuncId → Option Sp) (σ : St) (d : Option Nat) (x : Operand) (xs : List Operand) (ts : List TypeId) (f : AV) : Prop × St := callG T S σ d x xs ts f (kindOf S f)
def callN (T : Tab) (S : FuncId → Option Sp) (σ : St) (d : Option Nat) (x : Operand) (xs : List Operand) (ts : List TypeId) (g : FuncId) (caps : List AV) (o : Option Sp) : Prop × St :=
  callG T S σ d x xs ts (.fn g caps) (match o with | some sp => sp.kind | none => 0)
theorem callM_fn (T : Tab) (S : FuncId → Option Sp) (σ : St) (d : Option Nat) (x : Operand) (xs : List Operand) (ts : List TypeId) (g : FuncId) (caps : List AV) :
    callM T S σ d x xs ts (.fn g caps) = callN T S σ d x xs ts g caps (S g) := rfl
theorem callN_0 (T : Tab) (S : FuncId → Option Sp) (σ : St) (d : Option Nat) (x : Operand) (xs : List Operand) (ts : List TypeId) (g : FuncId) (caps : List AV) (pre : List AV → Prop) (res : List AV → AV) :
    callN T S σ d x xs ts g caps (some ⟨0, pre, res⟩) = call0 T S d x xs ts (expoL T σ xs) := rfl
def callN1 (T : Tab) (S : FuncId → Option Sp) (σ : St) (d : Option Nat) (xs : List Operand) (ts : List TypeId) (o : Option Sp) : Prop × St :=
  match o with
  | some sp => call1 T d sp xs ts (expoL T σ xs)
  | none => (False, σ)
theorem callN_1 (T : Tab) (S : FuncId → Option Sp) (σ : St) (d : Option Nat) (x : Operand) (xs : List Operand) (ts : List TypeId) (g : FuncId) (pre : List AV → Prop) (res : List AV → AV) :
    callN T S σ d x xs ts g [] (some ⟨1, pre, res⟩) = callN1 T S σ d xs ts (S g) := rfl
theorem callN1_some (T : Tab) (S : FuncId → Option Sp) (σ : St) (d : Option Nat) (xs : List Operand) (ts : List TypeId) (sp : Sp) : callN1 T S σ d xs ts (some sp) = call1 T d sp xs ts (expoL T σ xs) := rfl
theorem callN_2 (T : Tab) (S : FuncId → Option Sp) (σ : St) (d : Option Nat) (x x0 : Operand) (xs : List Operand) (t : TypeId) (ts : List TypeId) (g : FuncId) (pre : List AV → Prop) (res : List AV → AV) :
    callN T S σ d x (x0 :: xs) (t :: ts) g [] (some ⟨2, pre, res⟩) = call2 T S d g x0 xs ts (expoL T σ xs) := rfl
def storeM (T : Tab) (d : Option Nat) (t : TypeId) (p v : Operand) (e : Prop × St) : Prop × St := thn e.1 (any1 (storeS T e.2 t (ev e.2.get p) (ev e.2.get v)) d)
theorem storeM_mk (T : Tab) (d : Option Nat) (t : TypeId) (p v : Operand) (q : Prop) (σ : St) : storeM T d t p v (q, σ) = thn q (any1 (storeS T σ t (ev σ.get p) (ev σ.get v)) d) := rfl
def boxM (d : Option Nat) (v : Operand) (e : Prop × St) : Prop × St := thn e.1 (boxS e.2 d (ev e.2.get v))
theorem boxM_mk (d : Option Nat) (v : Operand) (q : Prop) (σ : St) : boxM d v (q, σ) = thn q (boxS σ d (ev σ.get v)) := rfl
def expoK (T : Tab) (xs : List Operand) (e : Prop × St) : Prop × St := thn e.1 (expoL T e.2 xs)
theorem expoK_mk (T : Tab) (xs : List Operand) (q : Prop) (σ : St) : expoK T xs (q, σ) = thn q (expoL T σ xs) := rfl
theorem expoL_nil (T : Tab) (σ : St) : expoL T σ [] = (True, σ) := rfl
theorem expoL_cons (T : Tab) (σ : St) (x : Operand) (xs : List Operand) : expoL T σ (x :: xs) = expoK T xs (expoT T σ x) := rfl
def evL (F : Nat → AV) : List (Nat × Operand) → List AV
  | [] => []
  | p :: l => ev F p.2 :: evL F l
theorem evL_map (F : Nat → AV) (l : List (Nat × Operand)) : l.map (fun p => ev F p.2) = evL F l := by
  induction l with
  | nil => rfl
  | cons p l ih => simp only [List.map_cons, evL, ih]
def evP (F : Nat → AV) : List (Nat × Operand) → List (Nat × AV)
  | [] => []
  | p :: l => (p.1, ev F p.2) :: evP F l
theorem evP_map (F : Nat → AV) (l : List (Nat × Operand)) : l.map (fun p => (p.1, ev F p.2)) = evP F l := by
  induction l with
  | nil => rfl
  | cons p l ih => simp only [List.map_cons, evP, ih]
def sndL : List (Nat × Operand) → List Operand
  | [] => []
  | p :: l => p.2 :: sndL l
theorem sndL_map (l : List (Nat × Operand)) : l.map (·.2) = sndL l := by
  induction l with
  | nil => rfl
  | cons p l ih => simp only [List.map_cons, sndL, ih]
def bsliceL (T : Tab) (σ : St) (d : Option Nat) (t : TypeId) (len : Nat) (parts : List (Nat × Operand)) (vs : List AV) : Prop × St :=
  match d, T.sl t with
  | some d, some (_, s, _) =>
    match T.nk t with
    | some k => match numsOf k vs with
      | some xs => (seqFrom 0 parts = true ∧ parts.length = len ∧ len * s ≤ 16777216, ((σ.kill d).setB d ⟨true, .n k xs⟩).put (some d) (.os d 1 0 len))
      | none => (False, σ)
    | none => match cellsOfL vs with
      | some cs => (seqFrom 0 parts = true ∧ parts.length = len ∧ len * s ≤ 16777216 ∧ (vs.all fun v => match v.cells with | some c => c.length == s | none => false) = true,
          ((σ.kill d).setB d ⟨true, .c cs⟩).put (some d) (.os d s 0 len))
      | none => (False, σ)
  | _, _ => (False, σ)
def bsVL (T : Tab) (t : TypeId) (len : Nat) (parts : List (Nat × Operand)) (vs : List AV) : Prop × AV :=
  match T.sl t with
  | some (_, s, _) =>
    match T.nk t with
    | some k => match numsOf k vs with
      | some xs => (seqFrom 0 parts = true ∧ parts.length = len ∧ len * s ≤ 16777216, .ns k xs)
      | none => (False, .any)
    | none => match cellsOfL vs with
      | some cs => (seqFrom 0 parts = true ∧ parts.length = len ∧ len * s ≤ 16777216 ∧ cs.length = len * s ∧
          (vs.all fun v => match v.cells with | some c => c.length == s | none => false) = true, .sl s len cs)
      | none => (False, .any)
  | none => (False, .any)
def buildA (T : Tab) (t : TypeId) (vs : List (Nat × AV)) : Prop × AV :=
  match T.zr t, T.st t with
  | some z, some places => match fillAV places z vs with
    | some cs => (True, .agg cs)
    | none => (False, .any)
  | _, _ => (False, .any)
def buildM (T : Tab) (d : Option Nat) (t : TypeId) (ps : List (Nat × Operand)) (e : Prop × St) : Prop × St := pva e.1 e.2 d (buildA T t (evP e.2.get ps))
theorem buildM_mk (T : Tab) (d : Option Nat) (t : TypeId) (ps : List (Nat × Operand)) (p : Prop) (σ : St) : buildM T d t ps (p, σ) = pva p σ d (buildA T t (evP σ.get ps)) := rfl
section
variable (T : Tab) (S : FuncId → Option Sp) (σ : St) (d : Option Nat) (ty : TypeId) (pos : String) (af : Array Edge) (g : Option (Nat × Bool))
theorem g_move (x : Operand) : st1 T S ⟨d, .move x, ty, pos, af, g⟩ σ = pv σ d ((True, ev σ.get x)) := rfl
theorem g_assign (x : Operand) : st1 T S ⟨d, .assign x, ty, pos, af, g⟩ σ = pv σ d ((True, ev σ.get x)) := rfl
theorem g_binOp (b : BinOp) (t t' : TypeId) (x y : Operand) : st1 T S ⟨d, .binOp b t x y t', ty, pos, af, g⟩ σ = pv σ d (bin T t b (ev σ.get x) (ev σ.get y)) := rfl
theorem g_unOp (u : UnOp) (t : TypeId) (x : Operand) : st1 T S ⟨d, .unOp u t x, ty, pos, af, g⟩ σ = pv σ d (un u (ev σ.get x)) := rfl
theorem g_load (t : TypeId) (x : Operand) : st1 T S ⟨d, .load t x, ty, pos, af, g⟩ σ = pv σ d (ldA T σ t (ev σ.get x)) := rfl
theorem g_pick (c x y : Operand) : st1 T S ⟨d, .pick c x y, ty, pos, af, g⟩ σ = pv σ d (pickA (ev σ.get c) (ev σ.get x) (ev σ.get y)) := rfl
theorem g_convert (s t : TypeId) (x : Operand) : st1 T S ⟨d, .convert s t x, ty, pos, af, g⟩ σ = pv σ d (convA (T.ik s) (T.ik t) (ev σ.get x)) := rfl
theorem g_fieldAddr (s : TypeId) (x : Operand) (i : Nat) : st1 T S ⟨d, .fieldAddr s x i, ty, pos, af, g⟩ σ = pv σ d (fieldA σ (T.fo s i) (ev σ.get x)) := rfl
theorem g_indexAddr (t : TypeId) (x i : Operand) : st1 T S ⟨d, .indexAddr t x i, ty, pos, af, g⟩ σ = pv σ d (idx T σ.blk t (ev σ.get x) (ev σ.get i)) := rfl
theorem g_extract (x : Operand) (i : Nat) : st1 T S ⟨d, .extract x i, ty, pos, af, g⟩ σ = pv σ d (extA (ev σ.get x) i) := rfl
theorem g_index (t : TypeId) (x i : Operand) : st1 T S ⟨d, .index t x i, ty, pos, af, g⟩ σ = pv σ d (indexA T t (ev σ.get x) (intOfAV (ev σ.get i))) := rfl
theorem g_nilCheck (x : Operand) : st1 T S ⟨d, .nilCheck x, ty, pos, af, g⟩ σ = pv σ d (nilA (ev σ.get x)) := rfl
theorem g_slice000 (t : TypeId) (x  : Operand) : st1 T S ⟨d, .slice t x none none none, ty, pos, af, g⟩ σ = pv σ d (cutAV T t (ev σ.get x) none none none) := rfl
theorem g_slice100 (t : TypeId) (x l : Operand) : st1 T S ⟨d, .slice t x (some l) none none, ty, pos, af, g⟩ σ = pv σ d (cutAV T t (ev σ.get x) (some (intOfAV (ev σ.get l))) none none) := rfl
theorem g_slice010 (t : TypeId) (x h : Operand) : st1 T S ⟨d, .slice t x none (some h) none, ty, pos, af, g⟩ σ = pv σ d (cutAV T t (ev σ.get x) none (some (intOfAV (ev σ.get h))) none) := rfl
theorem g_slice110 (t : TypeId) (x l h : Operand) : st1 T S ⟨d, .slice t x (some l) (some h) none, ty, pos, af, g⟩ σ = pv σ d (cutAV T t (ev σ.get x) (some (intOfAV (ev σ.get l))) (some (intOfAV (ev σ.get h))) none) := rfl
theorem g_slice001 (t : TypeId) (x m : Operand) : st1 T S ⟨d, .slice t x none none (some m), ty, pos, af, g⟩ σ = pv σ d (cutAV T t (ev σ.get x) none none (some (intOfAV (ev σ.get m)))) := rfl
theorem g_slice101 (t : TypeId) (x l m : Operand) : st1 T S ⟨d, .slice t x (some l) none (some m), ty, pos, af, g⟩ σ = pv σ d (cutAV T t (ev σ.get x) (some (intOfAV (ev σ.get l))) none (some (intOfAV (ev σ.get m)))) := rfl
theorem g_slice011 (t : TypeId) (x h m : Operand) : st1 T S ⟨d, .slice t x none (some h) (some m), ty, pos, af, g⟩ σ = pv σ d (cutAV T t (ev σ.get x) none (some (intOfAV (ev σ.get h))) (some (intOfAV (ev σ.get m)))) := rfl
theorem g_slice111 (t : TypeId) (x l h m : Operand) : st1 T S ⟨d, .slice t x (some l) (some h) (some m), ty, pos, af, g⟩ σ = pv σ d (cutAV T t (ev σ.get x) (some (intOfAV (ev σ.get l))) (some (intOfAV (ev σ.get h))) (some (intOfAV (ev σ.get m)))) := rfl
theorem g_len (x : Operand) (t : TypeId) : st1 T S ⟨d, .call ⟨.builtin .len, #[x], #[t]⟩, ty, pos, af, g⟩ σ = pv σ d (lenAV T t (ev σ.get x)) := rfl
theorem g_min (x y : Operand) (ts : Array TypeId) : st1 T S ⟨d, .call ⟨.builtin .min, #[x, y], ts⟩, ty, pos, af, g⟩ σ = pv σ d (minA (ev σ.get x) (ev σ.get y)) := rfl
theorem g_max (x y : Operand) (ts : Array TypeId) : st1 T S ⟨d, .call ⟨.builtin .max, #[x, y], ts⟩, ty, pos, af, g⟩ σ = pv σ d (maxA (ev σ.get x) (ev σ.get y)) := rfl
theorem g_alloc (t : TypeId) : st1 T S ⟨d, .alloc t, ty, pos, af, g⟩ σ = allocS T σ d t := rfl
theorem g_box (t : TypeId) (v : Operand) : st1 T S ⟨d, .box t v, ty, pos, af, g⟩ σ = boxM d v (expoT T σ v) := rfl
theorem g_buildSlice (t : TypeId) (n : Nat) (ps : Array (Nat × Operand)) : st1 T S ⟨d, .buildSlice t n ps, ty, pos, af, g⟩ σ = bsliceL T σ d t n ps.toList (evL σ.get ps.toList) := by
  show bsliceS T σ d t n ps.toList = _
  unfold bsliceS bsliceL
  rw [evL_map]
  rfl
theorem g_build (t : TypeId) (ps : Array (Nat × Operand)) : st1 T S ⟨d, .build t ps, ty, pos, af, g⟩ σ = buildM T d t ps.toList (expoL T σ (sndL ps.toList)) := by
  rw [← sndL_map]
  simp only [st1, buildM, pva, buildA, qv, evP_map]
  rfl
theorem g_makeSlice (t : TypeId) (l c : Operand) : st1 T S ⟨d, .makeSlice t l c, ty, pos, af, g⟩ σ = makeS T σ d t (ev σ.get l) (ev σ.get c) := rfl
theorem g_store (t : TypeId) (p v : Operand) : st1 T S ⟨d, .store t p v, ty, pos, af, g⟩ σ = storeM T d t p v (expoT T σ v) := rfl
theorem g_append (s x : Operand) (t t' : TypeId) : st1 T S ⟨d, .call ⟨.builtin .append, #[s, x], #[t, t']⟩, ty, pos, af, g⟩ σ = thn (t = t') (appendS T σ d t (ev σ.get s) (ev σ.get x)) := rfl
theorem g_copy (x s : Operand) (t t' : TypeId) : st1 T S ⟨d, .call ⟨.builtin .copy, #[x, s], #[t, t']⟩, ty, pos, af, g⟩ σ = copyS T σ d t (ev σ.get x) (ev σ.get s) := rfl
theorem callM_eq (x : Operand) (as : List Operand) (ts : List TypeId) : st1 T S ⟨d, .call ⟨.value x, as.toArray, ts.toArray⟩, ty, pos, af, g⟩ σ = callM T S σ d x as ts (ev σ.get x) := by
  unfold callM callG
  simp only [st1]
  rcases kindOf S (ev σ.get x) with _ | _ | _ | k
  · rfl
  · rfl
  · rfl
  · rfl
theorem g_call (x : Operand) (as : List Operand) (ts : List TypeId) : st1 T S ⟨d, .call ⟨.value x, as.toArray, ts.toArray⟩, ty, pos, af, g⟩ σ = callM T S σ d x as ts (ev σ.get x) := callM_eq T S σ d ty pos af g x as ts
theorem stD_pv (o : Oper) (r : Prop × AV) (h : stD T S o σ = ((qd T S σ.get σ.blk o).1, σ.put o.dst (qd T S σ.get σ.blk o).2)) (h2 : qd T S σ.get σ.blk o = (((qv T S σ.get σ.blk o).1 ∧ (comes o.op = true → (qv T S σ.get σ.blk o).2.im = true)), (qv T S σ.get σ.blk o).2)) (h3 : comes o.op = false) (h4 : qv T S σ.get σ.blk o = r) : stD T S o σ = pv σ o.dst r := by
  rw [h, h2, h4, h3]; simp only [pv, Bool.false_eq_true, false_implies, and_true]
theorem stD_pvi (o : Oper) (r : Prop × AV) (h : stD T S o σ = ((qd T S σ.get σ.blk o).1, σ.put o.dst (qd T S σ.get σ.blk o).2)) (h2 : qd T S σ.get σ.blk o = (((qv T S σ.get σ.blk o).1 ∧ (comes o.op = true → (qv T S σ.get σ.blk o).2.im = true)), (qv T S σ.get σ.blk o).2)) (h3 : comes o.op = true) (h4 : qv T S σ.get σ.blk o = r) : stD T S o σ = pvi σ o.dst r := by
  rw [h, h2, h4, h3]; simp only [pvi, true_implies]
theorem e_move (x : Operand) : stD T S ⟨d, .move x, ty, pos, af, g⟩ σ = pv σ d ((True, ev σ.get x)) := stD_pv T S σ _ _ rfl rfl rfl rfl
theorem e_assign (x : Operand) : stD T S ⟨d, .assign x, ty, pos, af, g⟩ σ = pv σ d ((True, ev σ.get x)) := stD_pv T S σ _ _ rfl rfl rfl rfl
theorem e_binOp (b : BinOp) (t t' : TypeId) (x y : Operand) : stD T S ⟨d, .binOp b t x y t', ty, pos, af, g⟩ σ = pv σ d (bin T t b (ev σ.get x) (ev σ.get y)) := stD_pv T S σ _ _ rfl rfl rfl rfl
theorem e_unOp (u : UnOp) (t : TypeId) (x : Operand) : stD T S ⟨d, .unOp u t x, ty, pos, af, g⟩ σ = pv σ d (un u (ev σ.get x)) := stD_pv T S σ _ _ rfl rfl rfl rfl
theorem e_load (t : TypeId) (x : Operand) : stD T S ⟨d, .load t x, ty, pos, af, g⟩ σ = pvi σ d (ldA T σ t (ev σ.get x)) := stD_pvi T S σ _ _ rfl rfl rfl rfl
theorem e_pick (c x y : Operand) : stD T S ⟨d, .pick c x y, ty, pos, af, g⟩ σ = pv σ d (pickA (ev σ.get c) (ev σ.get x) (ev σ.get y)) := stD_pv T S σ _ _ rfl rfl rfl rfl
theorem e_convert (s t : TypeId) (x : Operand) : stD T S ⟨d, .convert s t x, ty, pos, af, g⟩ σ = pv σ d (convA (T.ik s) (T.ik t) (ev σ.get x)) := stD_pv T S σ _ _ rfl rfl rfl rfl
theorem e_fieldAddr (s : TypeId) (x : Operand) (i : Nat) : stD T S ⟨d, .fieldAddr s x i, ty, pos, af, g⟩ σ = pv σ d (fieldA σ (T.fo s i) (ev σ.get x)) := stD_pv T S σ _ _ rfl rfl rfl rfl
theorem e_indexAddr (t : TypeId) (x i : Operand) : stD T S ⟨d, .indexAddr t x i, ty, pos, af, g⟩ σ = pv σ d (idx T σ.blk t (ev σ.get x) (ev σ.get i)) := stD_pv T S σ _ _ rfl rfl rfl rfl
theorem e_extract (x : Operand) (i : Nat) : stD T S ⟨d, .extract x i, ty, pos, af, g⟩ σ = pvi σ d (extA (ev σ.get x) i) := stD_pvi T S σ _ _ rfl rfl rfl rfl
theorem e_index (t : TypeId) (x i : Operand) : stD T S ⟨d, .index t x i, ty, pos, af, g⟩ σ = pv σ d (indexA T t (ev σ.get x) (intOfAV (ev σ.get i))) := stD_pv T S σ _ _ rfl rfl rfl rfl
theorem e_nilCheck (x : Operand) : stD T S ⟨d, .nilCheck x, ty, pos, af, g⟩ σ = pv σ d (nilA (ev σ.get x)) := stD_pv T S σ _ _ rfl rfl rfl rfl
theorem e_slice000 (t : TypeId) (x  : Operand) : stD T S ⟨d, .slice t x none none none, ty, pos, af, g⟩ σ = pv σ d (cutAV T t (ev σ.get x) none none none) := stD_pv T S σ _ _ rfl rfl rfl rfl
theorem e_slice100 (t : TypeId) (x l : Operand) : stD T S ⟨d, .slice t x (some l) none none, ty, pos, af, g⟩ σ = pv σ d (cutAV T t (ev σ.get x) (some (intOfAV (ev σ.get l))) none none) := stD_pv T S σ _ _ rfl rfl rfl rfl
theorem e_slice010 (t : TypeId) (x h : Operand) : stD T S ⟨d, .slice t x none (some h) none, ty, pos, af, g⟩ σ = pv σ d (cutAV T t (ev σ.get x) none (some (intOfAV (ev σ.get h))) none) := stD_pv T S σ _ _ rfl rfl rfl rfl
theorem e_slice110 (t : TypeId) (x l h : Operand) : stD T S ⟨d, .slice t x (some l) (some h) none, ty, pos, af, g⟩ σ = pv σ d (cutAV T t (ev σ.get x) (some (intOfAV (ev σ.get l))) (some (intOfAV (ev σ.get h))) none) := stD_pv T S σ _ _ rfl rfl rfl rfl
theorem e_slice001 (t : TypeId) (x m : Operand) : stD T S ⟨d, .slice t x none none (some m), ty, pos, af, g⟩ σ = pv σ d (cutAV T t (ev σ.get x) none none (some (intOfAV (ev σ.get m)))) := stD_pv T S σ _ _ rfl rfl rfl rfl
theorem e_slice101 (t : TypeId) (x l m : Operand) : stD T S ⟨d, .slice t x (some l) none (some m), ty, pos, af, g⟩ σ = pv σ d (cutAV T t (ev σ.get x) (some (intOfAV (ev σ.get l))) none (some (intOfAV (ev σ.get m)))) := stD_pv T S σ _ _ rfl rfl rfl rfl
theorem e_slice011 (t : TypeId) (x h m : Operand) : stD T S ⟨d, .slice t x none (some h) (some m), ty, pos, af, g⟩ σ = pv σ d (cutAV T t (ev σ.get x) none (some (intOfAV (ev σ.get h))) (some (intOfAV (ev σ.get m)))) := stD_pv T S σ _ _ rfl rfl rfl rfl
theorem e_slice111 (t : TypeId) (x l h m : Operand) : stD T S ⟨d, .slice t x (some l) (some h) (some m), ty, pos, af, g⟩ σ = pv σ d (cutAV T t (ev σ.get x) (some (intOfAV (ev σ.get l))) (some (intOfAV (ev σ.get h))) (some (intOfAV (ev σ.get m)))) := stD_pv T S σ _ _ rfl rfl rfl rfl
theorem e_len (x : Operand) (t : TypeId) : stD T S ⟨d, .call ⟨.builtin .len, #[x], #[t]⟩, ty, pos, af, g⟩ σ = pvi σ d (lenAV T t (ev σ.get x)) := stD_pvi T S σ _ _ rfl rfl rfl rfl
theorem e_min (x y : Operand) (ts : Array TypeId) : stD T S ⟨d, .call ⟨.builtin .min, #[x, y], ts⟩, ty, pos, af, g⟩ σ = pvi σ d (minA (ev σ.get x) (ev σ.get y)) := stD_pvi T S σ _ _ rfl rfl rfl rfl
theorem e_max (x y : Operand) (ts : Array TypeId) : stD T S ⟨d, .call ⟨.builtin .max, #[x, y], ts⟩, ty, pos, af, g⟩ σ = pvi σ d (maxA (ev σ.get x) (ev σ.get y)) := stD_pvi T S σ _ _ rfl rfl rfl rfl
theorem e_call (x : Operand) (as : List Operand) (ts : List TypeId) : stD T S ⟨d, .call ⟨.value x, as.toArray, ts.toArray⟩, ty, pos, af, g⟩ σ = pvi σ d (callAV S (ev σ.get x) (argsOf T σ.get as ts)) := stD_pvi T S σ _ _ rfl rfl rfl rfl
theorem e_alloc (t : TypeId) (d : Nat) (z : List AV) (h : T.zr t = some z) : stD T S ⟨some d, .alloc t, ty, pos, af, g⟩ σ = (True, (σ.setB d ⟨true, .c z⟩).put (some d) (.ptr d 0)) := by simp only [stD, h]
theorem e_store (t : TypeId) (p v : Operand) : stD T S ⟨none, .store t p v, ty, pos, af, g⟩ σ = storeS T σ t (ev σ.get p) (ev σ.get v) := by simp only [stD, true_and]
theorem e_build (t : TypeId) (ps : Array (Nat × Operand)) : stD T S ⟨d, .build t ps, ty, pos, af, g⟩ σ = pv σ d (buildA T t (evP σ.get ps.toList)) := stD_pv T S σ _ _ rfl rfl rfl (by simp only [qv, buildA, evP_map]; rfl)
theorem e_buildSlice (t : TypeId) (n : Nat) (ps : Array (Nat × Operand)) : stD T S ⟨d, .buildSlice t n ps, ty, pos, af, g⟩ σ = pv σ d (bsVL T t n ps.toList (evL σ.get ps.toList)) := by
  show pv σ d (bsV T σ.get t n ps.toList) = _
  unfold bsV bsVL
  rw [evL_map]
  rfl
end
end Go.Hl

namespace Go.Hl
open Go Go.RowKit
def PostF (t : Nat) (k : IntKind) (xs : List Int) (e : Exit) (σ : St) : Prop :=
  (e = .normal ∨ e = .ret) ∧ ((∃ id wr, σ.get t = .os id 1 0 xs.length ∧ σ.blk id = some ⟨wr, .n k xs⟩) ∨ (σ.get t = .nul ∧ xs = []))
theorem FCall.of {P : Program} {T : Tab} (hT : TabOK P T) {f : FuncId} {fn : Func} {c : Code} {args : List AV} {n t : Nat} {k : IntKind} {xs : List Int} (hf : P.funcs[f]? = some fn) (hb : fn.body = some c)
    (hname : (fn.name == "runtime.NumGoroutine") = false) (hnt : fn.ntmps = n) (hrs : fn.results = #[.tmp t])
    (him : args.all AV.im = true) (hn : args.length ≤ n) (h : AWp P T n c (PostF t k xs) ⟨numd 0 args, []⟩) : FCall P f args (.ns k xs) := by
  subst hnt
  refine ⟨k, xs, rfl, fun w X vs hX hl hr => ⟨run_callFunc_body hf hb hname vs w, calls_of_wp hf hb ?_⟩⟩
  have hC : Conc ⟨fn.ntmps, w, X, none⟩ (fun _ => none) (St.get ⟨numd 0 args, []⟩) (St.blk ⟨numd 0 args, []⟩) { tmps := vs ++ Array.replicate (fn.ntmps - vs.size) undef, defers := [] } w :=
    conc_start him hn hX hl hr
  refine wp_mono (h _ _ _ w rfl (fun _ => rfl) hC) fun e a' w' ⟨σ', β', ⟨he, h1⟩, hC'⟩ => ?_
  have hbel : Below w.heap.size w w' := ⟨hC'.chg.os, hC'.chg.tape, hC'.chg.output, hC'.chg.size, fun k hk => hC'.chg.old k hk (fun _ _ h => by cases h)⟩
  have hres : (results fn a'.tmps).run P w' = .ok (a'.tmps.getD t undef) w' := by
    unfold results
    rw [hrs]
    simp only [List.mapM_toArray, List.mapM_cons, List.mapM_nil, Sem.run_bind, Sem.run_map, Sem.run_pure, Result.andThen_ok]
    rfl
  have hv := hC'.rel t
  have key : a'.defers = [] ∧ ∃ v, (results fn a'.tmps).run P w' = .ok v w' ∧ ∃ v_1, Ending.returned v = .returned v_1 ∧ Below w.heap.size w w' ∧
      ((∃ b o cap C e', v_1 = .slice (some ⟨b, o, none⟩) xs.length cap ∧ xs.length ≤ cap ∧ o + cap ≤ C.size ∧ w.heap.size ≤ b ∧ w'.heap[b]? = some (.cells C e' (0, 0)) ∧
          ∀ (j : Nat) (x : Int), xs[j]? = some x → C[o + j]? = some (.int k x)) ∨ (xs = [] ∧ ∃ ad, v_1 = .slice ad 0 0)) := by
    refine ⟨hC'.dfr, _, hres, _, rfl, hbel, ?_⟩
    rcases h1 with ⟨id, wr, g1, g2⟩ | ⟨g1, rfl⟩
    · rw [g1] at hv
      obtain ⟨ad, cap, q1, q2, q3⟩ := hv
      rcases q3 _ g2 with q3 | ⟨b, base, C, e', q4, q5, q6, q7⟩
      · subst q3
        have hx : xs = [] := List.eq_nil_of_length_eq_zero (by omega)
        subst hx
        exact .inr ⟨rfl, ad, q1⟩
      · rcases hC'.hp id _ g2 with hb' | ⟨b', base', C', e'', p1, p2, p3, p4, p5⟩
        · rw [q4] at hb'; cases hb'.1
        · rw [q4] at p1
          simp only [Option.some.injEq, Prod.mk.injEq] at p1
          obtain ⟨rfl, rfl⟩ := p1
          rw [q6] at p2
          simp only [Option.some.injEq, Obj.cells.injEq] at p2
          obtain ⟨rfl, rfl, _⟩ := p2
          subst q5
          refine .inl ⟨b, base, cap, C, e', q1, q2, by omega, ?_, q6, fun j x hj => ?_⟩
          · rcases p5 with p5 | ⟨_, _, p5, _⟩
            · exact p5.1
            · cases p5
          · obtain ⟨v, v1, v2⟩ := p4 j (.raw (.int k x)) (by simp [Con.val, hj])
            rw [v1, RI.raw_inv v2]
    · rw [g1] at hv
      generalize a'.tmps.getD t undef = x at hv
      cases hv with
      | nul ad => exact .inr ⟨rfl, ad, rfl⟩
  rcases he with rfl | rfl
  · exact key
  · exact key
def PostM (T : Tab) (rs : List ResultVar) (ts : List TypeId) (r0 : AV) (n : Nat) (k : IntKind) (ys : List Int) (e : Exit) (σ : St) : Prop :=
  PostL T rs ts r0 e σ ∧ ∃ wr, σ.blk n = some ⟨wr, .n k ys⟩
theorem MCall.of {P : Program} {T : Tab} (hT : TabOK P T) (hTm : T.mu = true) {f : FuncId} {fn : Func} {c : Code} {k : IntKind} {xs ys : List Int} {rest : List AV} {r0 : AV} {n : Nat} {rs : List ResultVar} {ts : List TypeId} (hf : P.funcs[f]? = some fn) (hb : fn.body = some c)
    (hname : (fn.name == "runtime.NumGoroutine") = false) (hnt : fn.ntmps = n) (hrs : fn.results.toList = rs) (hts : fn.resultTypes.toList = ts)
    (him : rest.all AV.im = true) (hn : rest.length + 1 ≤ n) (hlen : ys.length = xs.length) (h : AWp P T n c (PostM T rs ts r0 n k ys) ⟨(0, .os n 1 0 xs.length) :: numd 1 rest, [(n, ⟨true, .n k xs⟩)]⟩) :
    MCall P f (.ns k xs :: rest) (.tup [r0, .ns k ys]) := by
  subst hnt
  refine ⟨k, xs, rest, r0, ys, rfl, rfl, hlen, fun w X vs b o cap C e' hX hXb hsz hv0 hcap hheap hoc hcells hrest => ⟨run_callFunc_body hf hb hname vs w, calls_of_wp hf hb ?_⟩⟩
  have hvs : vs.size = rest.length + 1 := by simpa using hsz
  have hXG : ∀ β G i, (∀ id c' base, G id = some ⟨true, c'⟩ → β id = some (i, base) → i = b) → XG ⟨fn.ntmps, w, X, some (b, o, o + xs.length)⟩ β G i → X i := by
    intro β G i hi hx
    rcases hx with hx | ⟨id, c', base, g1, g2⟩
    · exact hx
    · rw [hi id c' base g1 g2]; exact hXb
  have hC : Conc ⟨fn.ntmps, w, X, some (b, o, o + xs.length)⟩ (fun i => if i = fn.ntmps then some (b, o) else none) (St.get ⟨(0, .os fn.ntmps 1 0 xs.length) :: numd 1 rest, [(fn.ntmps, ⟨true, .n k xs⟩)]⟩)
      (St.blk ⟨(0, .os fn.ntmps 1 0 xs.length) :: numd 1 rest, [(fn.ntmps, ⟨true, .n k xs⟩)]⟩) { tmps := vs ++ Array.replicate (fn.ntmps - vs.size) undef, defers := [] } w := by
    have hone : ∀ id blk, St.blk ⟨(0, .os fn.ntmps 1 0 xs.length) :: numd 1 rest, [(fn.ntmps, ⟨true, .n k xs⟩)]⟩ id = some blk → fn.ntmps = id ∧ blk = ⟨true, .n k xs⟩ := by
      intro id blk hi
      simp only [St.blk, lk] at hi
      split at hi
      · rename_i e; cases hi; exact ⟨e, rfl⟩
      · cases hi
    refine ⟨by simp; omega, fun t => ?_, rfl, fun id blk hi => ?_, fun i j b' c' x y hij hx hy => ?_, ⟨rfl, rfl, rfl, Nat.le_refl _, fun _ _ _ => rfl, fun b' lo hi hm => ?_⟩, hX⟩
    · have hget : ∀ j v, vs[j]? = some v → (vs ++ Array.replicate (fn.ntmps - vs.size) undef).getD j undef = v := by
        intro j v hv
        have hlt : j < vs.size := (Array.getElem?_eq_some_iff.1 hv).1
        rw [Array.getD_eq_getD_getElem?, Array.getElem?_append_left hlt, hv]; rfl
      simp only [St.get, lk]
      split
      · rename_i e
        subst e
        simp only [Option.getD_some]
        rw [hget 0 _ hv0]
        refine ⟨_, cap, rfl, hcap, fun blk hblk => .inr ⟨b, o, C, e', by simp, rfl, hheap, by omega⟩⟩
      · rename_i e
        rw [lk_numd]
        by_cases h1 : 1 ≤ t
        · rw [if_pos h1]
          cases hc : rest[t - 1]? with
          | none => exact RI.any _
          | some c =>
            obtain ⟨v, hv, hrv⟩ := hrest _ c hc
            rw [Nat.sub_add_cancel h1] at hv
            have hci : c.im = true := List.all_eq_true.1 him c (List.mem_of_getElem? hc)
            simp only [Option.getD_some]
            refine RV.of hci ?_
            rw [hget t v hv]
            refine hrv.keep (Keep.refl _ _) (fun i _ hx => hXG _ _ i (fun id c' base g1 g2 => ?_) hx)
            split at g2
            · simp only [Option.some.injEq, Prod.mk.injEq] at g2; exact g2.1.symm
            · cases g2
        · omega
    · obtain ⟨rfl, rfl⟩ := hone id blk hi
      refine .inr ⟨b, o, C, e', by simp, hheap, by simp only [Con.len]; omega, fun j c hj => ?_, .inr ⟨o, o + xs.length, rfl, Nat.le_refl _, by simp only [Con.len]; omega, hXb, fun _ => rfl⟩⟩
      simp only [Con.val, Option.map_eq_some_iff] at hj
      obtain ⟨x, hx, rfl⟩ := hj
      exact ⟨_, hcells j x hx, RI.raw _⟩
    · obtain ⟨rfl, _⟩ := hone i x hx
      obtain ⟨rfl, _⟩ := hone j y hy
      exact (hij rfl).elim
    · simp only [Option.some.injEq, Prod.mk.injEq] at hm
      obtain ⟨rfl, rfl, rfl⟩ := hm
      exact ⟨C, C, e', hheap, hheap, rfl, fun _ _ => rfl⟩
  have hmu : T.mu = false → (⟨fn.ntmps, w, X, some (b, o, o + xs.length)⟩ : Ctx).mu = none := fun h => by rw [hTm] at h; cases h
  refine wp_mono (h _ _ _ w rfl hmu hC) fun e a' w' ⟨σ', β', ⟨⟨he, h1, h2⟩, wr, h3⟩, hC'⟩ => ?_
  obtain ⟨v, v1, v2⟩ := results_sound (fn := fn) (r := r0) hT hmu hC' (by rw [hrs, hts]; exact h1) (by rw [hrs, hts]; exact h2)
  have key : a'.defers = [] ∧ ∃ v, (results fn a'.tmps).run P w' = .ok v w' ∧ ∃ v_1, Ending.returned v = .returned v_1 ∧ RI w' X r0 v_1 ∧ Wrote w w' b o (o + xs.length) ∧
      ∀ C', (∃ e'', w'.heap[b]? = some (.cells C' e'' (0, 0))) → ∀ (j : Nat) (y : Int), ys[j]? = some y → C'[o + j]? = some (.int k y) := by
    refine ⟨hC'.dfr, v, v1, v, rfl, v2, ⟨hC'.chg.os, hC'.chg.tape, hC'.chg.output, hC'.chg.size, fun i hi hne => hC'.chg.old i hi (fun lo hi' hm => ?_), fun C0 e0 hC0 => ?_⟩, fun C' ⟨e'', hC''⟩ j y hj => ?_⟩
    · simp only [Option.some.injEq, Prod.mk.injEq] at hm
      exact hne hm.1.symm
    · obtain ⟨C1, C2, e1, g1, g2, g3, g4⟩ := hC'.chg.muts b o (o + xs.length) rfl
      have g1' : w.heap[b]? = some (.cells C1 e1 (0, 0)) := g1
      rw [hC0] at g1'
      simp only [Option.some.injEq, Obj.cells.injEq] at g1'
      obtain ⟨rfl, rfl, _⟩ := g1'
      exact ⟨C2, g2, g3, g4⟩
    · rcases hC'.hp _ _ h3 with h4 | ⟨b2, base2, C2, e2, q1, q2, q3, q4, q5⟩
      · have : ys = [] := List.eq_nil_of_length_eq_zero (by simpa [Con.len] using h4.2)
        subst this
        simp at hj
      · rcases q5 with q5 | ⟨lo, hi, q5, _, _, _, q6⟩
        · exact (q5.2 rfl).elim
        · simp only [Option.some.injEq, Prod.mk.injEq] at q5
          obtain ⟨rfl, rfl, _⟩ := q5
          have hbase := q6 rfl
          subst hbase
          rw [hC''] at q2
          simp only [Option.some.injEq, Obj.cells.injEq] at q2
          obtain ⟨rfl, _, _⟩ := q2
          obtain ⟨u, u1, u2⟩ := q4 j (.raw (.int k y)) (by simp [Con.val, hj])
          rw [u1, RI.raw_inv u2]
  rcases he with rfl | rfl
  · exact key
  · exact key
theorem AWp.seqJ {P : Program} {T : Tab} {n : Nat} {Q : Exit → St → Prop} {σ : St} {x y : Code} {ι : Type} (J : ι → St) (h1 : AWp P T n x (EThen (fun σ => ∃ i, Le σ (J i)) Q) σ) (h2 : ∀ i, AWp P T n y Q (J i)) : AWp P T n (.seq x y) Q σ :=
  .seq (h1.mono fun e σ' h => by
    cases e with
    | normal => obtain ⟨i, hi⟩ := h; exact (h2 i).weak hi
    | _ => exact h)
abbrev eqNilO (d : Nat) (t : TypeId) (x : Operand) (t' ty : TypeId) (pos : String) (af : Array Edge) : Oper :=
  { dst := some d, op := .binOp .eql t x (.const (.slice none 0 0)) t', type := ty, pos := pos, after := af, guard := none }
theorem AWp.regNil {P : Program} {T : Tab} {S : FuncId → Option Sp} {n : Nat} {Q : Exit → St → Prop} {σ : St} (hT : TabOK P T) (hS : SOK P S) {id : Nat} {l : List Oper} {d : Nat} {t t' ty e : TypeId} {x : Operand} {pos : String} {af : Array Edge}
    (hsl : P.underlying t = some (.slice e)) (gs : List (Option (Option Nat × Bool))) (hd : dstsB (l ++ [eqNilO d t x t' ty pos af]).toArray n = true)
    (hg : gsOf (l ++ [eqNilO d t x t' ty pos af]).toArray l = gs)
    (h : opsG T S l gs (fun σ1 => ∃ k xs, ev σ1.get x = .ns k xs ∧ ∀ b, (xs ≠ [] → b = false) → Q .normal (σ1.put (some d) (.raw (.bool b)))) σ) :
    AWp P T n (.region id (l ++ [eqNilO d t x t' ty pos af]).toArray false) Q σ := by
  intro κ β a w hn hm hC
  refine wp_region_list ?_
  have hdd : ∀ o ∈ (l ++ [eqNilO d t x t' ty pos af]), ∀ t, o.dst = some t → t < κ.nt := by
    intro o ho t ht
    have := Array.all_eq_true_iff_forall_mem.1 hd o (by simpa using ho)
    rw [ht] at this
    rw [hn]
    simpa using this
  rw [← hg, ← opsA_G] at h
  have h' := h
  refine opsA_tail hT hS hm (fun σ1 β1 a1 w1 ⟨k, xs, h1, h2⟩ hc => ?_) l σ β a w (fun o ho => hdd o (List.mem_append.2 (.inl ho))) h' hC
  unfold wpList
  simp only [Region.wanted, if_true]
  have hx := hc.ev x
  rw [h1] at hx
  have hv : ∃ ad c, a1.eval x = .slice ad xs.length c ∧ (xs ≠ [] → ad.isNone = false) := by
    cases hx' : a1.eval x with
    | slice ad m c =>
      rw [hx'] at hx
      cases hx with
      | ns _ _ _ b o _ _ ha _ => exact ⟨ad, c, rfl, fun hne => by rw [(ha (List.length_pos_iff.2 hne)).1]; rfl⟩
    | _ => rw [hx'] at hx; cases hx
  obtain ⟨ad, c, v1, v2⟩ := hv
  refine .inl (wp_of_er (κ := κ) (σ := σ1.put (some d) (.raw (.bool ad.isNone))) ?_ (fun β' a' w' hc' => ?_))
  · have e1 : (execOp a1.eval (eqNilO d t x t' ty pos af)).run P w1 = .ok (.value (.bool ad.isNone)) w1 := by
      have e2 : a1.eval (.const (.slice none 0 0)) = .slice none 0 0 := rfl
      simp only [execOp, eqGuard, Bool.not_true, Bool.false_eq_true, if_false, Sem.run_bind, v1, e2, Lib.run_eql_slice_nil w1 t e ad xs.length c 0 0 hsl, Result.andThen_ok, Sem.run_pure]
    rw [e1]
    refine ⟨β1, ?_⟩
    rw [St.get_put, St.blk_put]
    exact hc.put (fun t ht => hdd _ (List.mem_append.2 (.inr (.head _))) t ht) (RI.raw _)
  · unfold wpList
    exact ⟨_, β', h2 _ v2, hc'⟩
end Go.Hl
