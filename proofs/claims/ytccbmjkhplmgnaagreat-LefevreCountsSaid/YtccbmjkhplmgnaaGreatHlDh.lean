/- The head's words: what a row asks of them, without the kernel's going through them all. -/
import Derived.ProofKit
import Derived.Test.YtccbmjkhplmgnaaGreatChecked
set_option linter.unusedVariables false
set_option linter.unusedSimpArgs false
namespace Go.Hl
open Go Go.RowKit Go.Proofs
set_option maxRecDepth 100000
set_option linter.unusedSimpArgs false
def chars (l : List Nat) : List Char := l.map Char.ofNat
def headA : List Char := chars [104, 97, 114, 110, 101, 115, 115]
def headB : List Char := chars [57, 49, 99, 52, 49, 55, 99, 97, 102, 51, 50, 102, 48, 48, 54, 57, 100, 49, 54, 54, 97, 98, 49, 55, 98, 100, 54, 49, 57, 49, 56, 98, 48, 54, 56, 52, 55, 49, 55, 52, 98, 56, 53, 56, 98, 100, 99, 50, 52, 100, 49, 50, 54, 50, 55, 97, 55, 97, 56, 56, 51, 50, 52, 55]
def headC : List Char := chars [99, 117, 116]
def headR : List Char := chars [97, 116, 32, 104, 97, 105, 114, 108, 105, 110, 101, 47, 104, 97, 105, 114, 108, 105, 110, 101, 108, 97, 119, 49, 53, 46, 76, 101, 102, 101, 118, 114, 101, 76, 101, 97, 115, 116, 115, 32, 104, 97, 105, 114, 108, 105, 110, 101, 47, 104, 97, 105, 114, 108, 105, 110, 101, 108, 97, 119, 49, 53, 46, 76, 101, 102, 101, 118, 114, 101, 67, 111, 117, 110, 116, 115]
def headL : List Char := headA ++ Char.ofNat 32 :: (headB ++ Char.ofNat 32 :: (headC ++ Char.ofNat 32 :: headR))
theorem head_eq : Tryz.prog.initOrder = String.ofList headL := by kernel_rfl
theorem head_list : Tryz.prog.initOrder.toList = headL := by rw [head_eq, String.toList_ofList]
theorem words_app (r : List Char) : ∀ p : List Char, (p.all fun c => decide (c ≠ Char.ofNat 32)) = true → wordsSigns (p ++ Char.ofNat 32 :: r) = p :: wordsSigns r
  | [], _ => rfl
  | c :: p, h => by
    simp only [List.all_cons, Bool.and_eq_true, decide_eq_true_eq] at h
    have ih := words_app r p h.2
    rw [List.cons_append]
    rw [wordsSigns.eq_def]
    split
    · rename_i e; cases e
    · rename_i r' e
      cases e
      exact (h.1 rfl).elim
    · rename_i c' r' _ e
      cases e
      rw [ih]
theorem head_words : wordsSigns headL = headA :: headB :: headC :: wordsSigns headR := by
  unfold headL
  rw [words_app _ headA (by decide), words_app _ headB (by decide), words_app _ headC (by decide)]
theorem behind_of {a b : List Char} {r : List (List Char)} (h1 : (a == "harness".toList) = true) (h2 : isSumSigns b = true) : behindMainWord (a :: b :: r) = r := by
  simp only [behindMainWord, h1, h2, Bool.true_or, Bool.and_self, if_true]
theorem behind : behindMainWord (wordsSigns Tryz.prog.initOrder.toList) = headC :: wordsSigns headR := by
  rw [head_list, head_words]
  exact behind_of (by decide) (by decide)
structure Cut (c : List Char) : Prop where
  gc : (c == "gc".toList) = false
  spec : (c == "spec".toList) = false
  cut : (c == "cut".toList) = true
  carried : (c == "carried".toList) = false
  lift : (liftWords.all fun o => !(c == o.toList)) = true
theorem cut_head : Cut headC := ⟨by decide, by decide, by decide, by decide, by decide⟩
theorem strip_cut {c : List Char} (r : List (List Char)) : ∀ l : List String, (l.all fun o => !(c == o.toList)) = true → stripLifts l (c :: r) = ([], c :: r)
  | [], _ => rfl
  | o :: l, h => by
    simp only [List.all_cons, Bool.and_eq_true, Bool.not_eq_true'] at h
    unfold stripLifts
    rw [if_neg (by rw [h.1]; decide)]
    exact strip_cut r l h.2
section
variable {P : Program} {c : List Char} {r : List (List Char)}
theorem make_of (h : behindMainWord (wordsSigns P.initOrder.toList) = c :: r) (hc : Cut c) : P.make = some .cut := by
  unfold Program.make
  rw [h]
  simp only [hc.gc, hc.spec, hc.cut, Bool.or_self, Bool.false_eq_true, if_false, Bool.true_or, if_true]
theorem lifts_of (h : behindMainWord (wordsSigns P.initOrder.toList) = c :: r) (hc : Cut c) : P.liftsFinal = false := by
  unfold Program.liftsFinal Program.headLifts
  rw [h, strip_cut r _ hc.lift]
  have h1 : (some c == some "carried".toList) = false := hc.carried
  have h3 : (some c == some "cut".toList) = true := hc.cut
  simp only [List.head?_cons, h1, h3, Bool.false_and, if_true, List.contains_nil, Bool.or_self]
theorem enter_of (h : behindMainWord (wordsSigns P.initOrder.toList) = c :: r) (hc : Cut c) (lays : P.laysLater = false) (bears : P.bearsReflect = false) (door : P.doorFits [] = true) : P.mayEnter = true := by
  unfold Program.mayEnter
  rw [h]
  have h3 : (some c == some "cut".toList) = true := hc.cut
  simp only [strip_cut r _ hc.lift, hc.gc, hc.spec, hc.carried, List.head?_cons, h3, lays, bears, door, Bool.or_self, Bool.false_and, Bool.false_or, List.contains_nil, Bool.not_false, Bool.or_true, Bool.and_self, Bool.not_true, Bool.true_and]
end
theorem make_eq : Tryz.prog.make = some .cut := make_of behind cut_head
theorem lifts_eq : Tryz.prog.liftsFinal = false := lifts_of behind cut_head
theorem lays : Tryz.prog.laysLater = false := by kernel_rfl
theorem bears : Tryz.prog.bearsReflect = false := by kernel_rfl
theorem door : Tryz.prog.doorFits [] = true := by kernel_rfl
theorem enter : Tryz.prog.mayEnter = true := enter_of behind cut_head lays bears door
end Go.Hl
