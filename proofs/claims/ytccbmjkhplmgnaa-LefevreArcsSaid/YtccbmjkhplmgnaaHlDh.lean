/- The head's words: what a row asks of them, without the kernel's going through them all. -/
import Derived.ProofKit
import Derived.Test.YtccbmjkhplmgnaaChecked
set_option linter.unusedVariables false
set_option linter.unusedSimpArgs false
namespace Go.Hl
open Go Go.RowKit Go.Proofs
set_option maxRecDepth 100000
set_option linter.unusedSimpArgs false
def chars (l : List Nat) : List Char := l.map Char.ofNat
def headA : List Char := chars [104, 97, 114, 110, 101, 115, 115]
def headB : List Char := chars [97, 102, 48, 102, 99, 57, 102, 97, 50, 51, 102, 50, 57, 100, 48, 52, 56, 54, 55, 51, 50, 48, 54, 52, 57, 48, 50, 51, 102, 53, 97, 55, 48, 51, 100, 53, 100, 52, 56, 99, 100, 51, 52, 99, 100, 49, 50, 50, 56, 57, 99, 100, 52, 51, 100, 101, 101, 48, 99, 56, 53, 53, 48, 55]
def headC : List Char := chars [99, 117, 116]
def headR : List Char := chars [97, 116, 32, 104, 97, 105, 114, 108, 105, 110, 101, 47, 104, 97, 105, 114, 108, 105, 110, 101, 108, 97, 119, 48, 49, 46, 78, 97, 116, 83, 104, 105, 102, 116, 115, 32, 104, 97, 105, 114, 108, 105, 110, 101, 47, 104, 97, 105, 114, 108, 105, 110, 101, 108, 97, 119, 48, 49, 46, 78, 97, 116, 68, 105, 118, 105, 100, 101, 115, 32, 104, 97, 105, 114, 108, 105, 110, 101, 47, 104, 97, 105, 114, 108, 105, 110, 101, 108, 97, 119, 48, 49, 46, 78, 97, 116, 71, 99, 100, 115, 32, 104, 97, 105, 114, 108, 105, 110, 101, 47, 104, 97, 105, 114, 108, 105, 110, 101, 108, 97, 119, 48, 49, 46, 78, 97, 116, 83, 116, 97, 110, 100, 115, 32, 104, 97, 105, 114, 108, 105, 110, 101, 47, 104, 97, 105, 114, 108, 105, 110, 101, 108, 97, 119, 48, 49, 46, 78, 97, 116, 80, 111, 119, 101, 114, 115, 32, 104, 97, 105, 114, 108, 105, 110, 101, 47, 104, 97, 105, 114, 108, 105, 110, 101, 108, 97, 119, 48, 49, 46, 78, 97, 116, 83, 117, 109, 115, 32, 104, 97, 105, 114, 108, 105, 110, 101, 47, 104, 97, 105, 114, 108, 105, 110, 101, 108, 97, 119, 48, 49, 46, 78, 97, 116, 85, 110, 100, 111, 101, 115, 32, 104, 97, 105, 114, 108, 105, 110, 101, 47, 104, 97, 105, 114, 108, 105, 110, 101, 108, 97, 119, 48, 49, 46, 78, 97, 116, 82, 105, 110, 103, 32, 104, 97, 105, 114, 108, 105, 110, 101, 47, 104, 97, 105, 114, 108, 105, 110, 101, 108, 97, 119, 48, 49, 46, 78, 97, 116, 67, 111, 109, 109, 111, 110, 32, 104, 97, 105, 114, 108, 105, 110, 101, 47, 104, 97, 105, 114, 108, 105, 110, 101, 108, 97, 119, 48, 49, 46, 78, 97, 116, 84, 101, 120, 116, 115, 32, 104, 97, 105, 114, 108, 105, 110, 101, 47, 104, 97, 105, 114, 108, 105, 110, 101, 108, 97, 119, 48, 49, 46, 78, 97, 116, 66, 97, 99, 107, 32, 104, 97, 105, 114, 108, 105, 110, 101, 47, 104, 97, 105, 114, 108, 105, 110, 101, 108, 97, 119, 48, 50, 46, 90, 101, 100, 83, 109, 97, 108, 108, 115, 32, 104, 97, 105, 114, 108, 105, 110, 101, 47, 104, 97, 105, 114, 108, 105, 110, 101, 108, 97, 119, 48, 50, 46, 90, 101, 100, 83, 104, 105, 102, 116, 115, 32, 104, 97, 105, 114, 108, 105, 110, 101, 47, 104, 97, 105, 114, 108, 105, 110, 101, 108, 97, 119, 48, 50, 46, 90, 101, 100, 68, 105, 118, 105, 100, 101, 115, 32, 104, 97, 105, 114, 108, 105, 110, 101, 47, 104, 97, 105, 114, 108, 105, 110, 101, 108, 97, 119, 48, 50, 46, 90, 101, 100, 83, 117, 109, 115, 32, 104, 97, 105, 114, 108, 105, 110, 101, 47, 104, 97, 105, 114, 108, 105, 110, 101, 108, 97, 119, 48, 50, 46, 90, 101, 100, 83, 116, 97, 110, 100, 115, 32, 104, 97, 105, 114, 108, 105, 110, 101, 47, 104, 97, 105, 114, 108, 105, 110, 101, 108, 97, 119, 48, 50, 46, 90, 101, 100, 72, 97, 108, 118, 101, 115, 32, 104, 97, 105, 114, 108, 105, 110, 101, 47, 104, 97, 105, 114, 108, 105, 110, 101, 108, 97, 119, 48, 50, 46, 90, 101, 100, 82, 105, 110, 103, 32, 104, 97, 105, 114, 108, 105, 110, 101, 47, 104, 97, 105, 114, 108, 105, 110, 101, 108, 97, 119, 48, 50, 46, 90, 101, 100, 82, 101, 115, 116, 115, 32, 104, 97, 105, 114, 108, 105, 110, 101, 47, 104, 97, 105, 114, 108, 105, 110, 101, 108, 97, 119, 49, 53, 46, 76, 101, 102, 101, 118, 114, 101, 70, 105, 114, 115, 116, 115, 32, 104, 97, 105, 114, 108, 105, 110, 101, 47, 104, 97, 105, 114, 108, 105, 110, 101, 108, 97, 119, 49, 53, 46, 76, 101, 102, 101, 118, 114, 101, 65, 114, 99, 115, 32, 104, 97, 105, 114, 108, 105, 110, 101, 47, 104, 97, 105, 114, 108, 105, 110, 101, 108, 97, 119, 49, 53, 46, 76, 101, 102, 101, 118, 114, 101, 84, 114, 105, 101, 115, 32, 104, 97, 105, 114, 108, 105, 110, 101, 47, 104, 97, 105, 114, 108, 105, 110, 101, 108, 97, 119, 49, 53, 46, 76, 101, 102, 101, 118, 114, 101, 84, 104, 114, 101, 101, 32, 104, 97, 105, 114, 108, 105, 110, 101, 47, 104, 97, 105, 114, 108, 105, 110, 101, 108, 97, 119, 49, 53, 46, 76, 101, 102, 101, 118, 114, 101, 84, 117, 114, 110, 115, 32, 104, 97, 105, 114, 108, 105, 110, 101, 47, 104, 97, 105, 114, 108, 105, 110, 101, 108, 97, 119, 49, 53, 46, 76, 101, 102, 101, 118, 114, 101, 83, 112, 108, 105, 116, 115, 32, 104, 97, 105, 114, 108, 105, 110, 101, 47, 104, 97, 105, 114, 108, 105, 110, 101, 108, 97, 119, 49, 53, 46, 76, 101, 102, 101, 118, 114, 101, 83, 105, 100, 101, 115, 32, 104, 97, 105, 114, 108, 105, 110, 101, 47, 104, 97, 105, 114, 108, 105, 110, 101, 108, 97, 119, 49, 53, 46, 76, 101, 102, 101, 118, 114, 101, 68, 105, 114, 105, 99, 104, 108, 101, 116]
def headL : List Char := headA ++ Char.ofNat 32 :: (headB ++ Char.ofNat 32 :: (headC ++ Char.ofNat 32 :: headR))
theorem head_eq : Try.prog.initOrder = String.ofList headL := by kernel_rfl
theorem head_list : Try.prog.initOrder.toList = headL := by rw [head_eq, String.toList_ofList]
theorem words_app (r : List Char) : ∀ p : List Char, (p.all fun c => decide (c ≠ Char.ofNat 32)) = true → wordsSigns (p ++ Char.ofNat 32 :: r) = p :: wordsSigns r
  | [], _ => rfl
  | c :: p, h => by
    simp only [List.all_cons, Bool.and_eq_true, decide_eq_true_eq] at h
    have ih := words_app r p h.2
    rw [List.cons_append]
    rw [wordsSigns.eq_def]
    split
    · rename_i e; cases e
    · rename_i r' e
      cases e
      exact (h.1 rfl).elim
    · rename_i c' r' _ e
      cases e
      rw [ih]
theorem head_words : wordsSigns headL = headA :: headB :: headC :: wordsSigns headR := by
  unfold headL
  rw [words_app _ headA (by decide), words_app _ headB (by decide), words_app _ headC (by decide)]
theorem behind_of {a b : List Char} {r : List (List Char)} (h1 : (a == "harness".toList) = true) (h2 : isSumSigns b = true) : behindMainWord (a :: b :: r) = r := by
  simp only [behindMainWord, h1, h2, Bool.true_or, Bool.and_self, if_true]
theorem behind : behindMainWord (wordsSigns Try.prog.initOrder.toList) = headC :: wordsSigns headR := by
  rw [head_list, head_words]
  exact behind_of (by decide) (by decide)
structure Cut (c : List Char) : Prop where
  gc : (c == "gc".toList) = false
  spec : (c == "spec".toList) = false
  cut : (c == "cut".toList) = true
  carried : (c == "carried".toList) = false
  lift : (liftWords.all fun o => !(c == o.toList)) = true
theorem cut_head : Cut headC := ⟨by decide, by decide, by decide, by decide, by decide⟩
theorem strip_cut {c : List Char} (r : List (List Char)) : ∀ l : List String, (l.all fun o => !(c == o.toList)) = true → stripLifts l (c :: r) = ([], c :: r)
  | [], _ => rfl
  | o :: l, h => by
    simp only [List.all_cons, Bool.and_eq_true, Bool.not_eq_true'] at h
    unfold stripLifts
    rw [if_neg (by rw [h.1]; decide)]
    exact strip_cut r l h.2
section
variable {P : Program} {c : List Char} {r : List (List Char)}
theorem make_of (h : behindMainWord (wordsSigns P.initOrder.toList) = c :: r) (hc : Cut c) : P.make = some .cut := by
  unfold Program.make
  rw [h]
  simp only [hc.gc, hc.spec, hc.cut, Bool.or_self, Bool.false_eq_true, if_false, Bool.true_or, if_true]
theorem lifts_of (h : behindMainWord (wordsSigns P.initOrder.toList) = c :: r) (hc : Cut c) : P.liftsFinal = false := by
  unfold Program.liftsFinal Program.headLifts
  rw [h, strip_cut r _ hc.lift]
  have h1 : (some c == some "carried".toList) = false := hc.carried
  have h3 : (some c == some "cut".toList) = true := hc.cut
  simp only [List.head?_cons, h1, h3, Bool.false_and, if_true, List.contains_nil, Bool.or_self]
theorem enter_of (h : behindMainWord (wordsSigns P.initOrder.toList) = c :: r) (hc : Cut c) (lays : P.laysLater = false) (bears : P.bearsReflect = false) (door : P.doorFits [] = true) : P.mayEnter = true := by
  unfold Program.mayEnter
  rw [h]
  have h3 : (some c == some "cut".toList) = true := hc.cut
  simp only [strip_cut r _ hc.lift, hc.gc, hc.spec, hc.carried, List.head?_cons, h3, lays, bears, door, Bool.or_self, Bool.false_and, Bool.false_or, List.contains_nil, Bool.not_false, Bool.or_true, Bool.and_self, Bool.not_true, Bool.true_and]
end
theorem make_eq : Try.prog.make = some .cut := make_of behind cut_head
theorem lifts_eq : Try.prog.liftsFinal = false := lifts_of behind cut_head
theorem lays : Try.prog.laysLater = false := by kernel_rfl
theorem bears : Try.prog.bearsReflect = false := by kernel_rfl
theorem door : Try.prog.doorFits [] = true := by kernel_rfl
theorem enter : Try.prog.mayEnter = true := enter_of behind cut_head lays bears door
end Go.Hl
