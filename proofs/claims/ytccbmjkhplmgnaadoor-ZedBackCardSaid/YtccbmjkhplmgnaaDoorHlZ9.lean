/- hairlinelaw02: cut -/
import Derived.Test.YtccbmjkhplmgnaaDoorHlZ8
import Derived.Test.YtccbmjkhplmgnaaDoorHlAv31
set_option linter.unusedVariables false
set_option linter.unusedSimpArgs false
namespace Go.Hl
open Go Go.RowKit Go.Proofs
set_option maxHeartbeats 8000000

@[push_cast] def spZCut : Sp := spZI 0 (fun _ _ n => 0 ≤ n ∧ n ≤ 1000) (fun b x n => .agg [.raw (.bool b), .ns .u64 (x.take n.toNat)])
theorem zcut_ok : SpOK Tryd.prog 6 spZCut := by
  refine SpOK.ZI fun b x n ⟨hn, hn2⟩ => ?_
  have hE := env (SOK.nil (P := Tryd.prog))
  obtain ⟨n, rfl⟩ := Int.eq_ofNat_of_zero_le hn
  have hlen : (x.take n).length < 10000000 := by have := List.length_take_le n x; omega
  refine ACall.body hE Tryd.func6 Tryd.ntmps6 Tryd.results6 ?_
  refine wk hE trivial ?_
  refine AWp.test trivial (fun h => ?_) (fun h => ?_)
  · have h := of_decide_eq_true h
    refine wkR hE (show (n : Int) < x.length from h) ?_
    change AWp _ _ _ (.seq _ _) _ _
    refine AWp.seq ?_
    refine AWp.regionT 18 (t := 22) (e := 41) (d2 := 17) (p := 5) (i2 := 2) (i3 := 3) (by_ := 8) (k := .u64) (ys := x.take n) hE.hT hE.hS hE.hm rfl (by omega) (by omega) (by rfl)
      (fun j o h => ?_) (by exact ⟨_, rfl, rfl, rfl, rfl⟩) (by exact ⟨_, rfl, rfl, rfl, rfl⟩) (fun j o h => ?_) (fun j o h ho => ?_) ?_
    · rcases j with _ | _ | _ | _ | _ | _ | _ | j <;> first
        | (cases h; first | exact ⟨_, rfl, rfl, rfl, rfl, rfl, .inl rfl⟩ | exact ⟨_, rfl, rfl, rfl, rfl, rfl, .inr (.inl ⟨rfl, rfl⟩)⟩ | exact ⟨_, rfl, rfl, rfl, rfl, rfl, .inr (.inr ⟨rfl, rfl⟩)⟩)
        | (cases h)
    · rcases j with _ | _ | _ | _ | _ | _ | _ | j <;> first
        | (cases h; exact ⟨fun e => absurd e (by decide), fun e => by first | rfl | exact absurd e (by decide), fun e => by first | rfl | exact absurd e (by decide)⟩)
        | (cases h)
    · rcases j with _ | _ | _ | _ | _ | _ | _ | j <;> first
        | (cases h; cases ho; done)
        | (cases h; exact ⟨_, rfl, ⟨⟨2, .data⟩, Array.mem_of_getElem? (i := 0) rfl, rfl, rfl⟩, ⟨⟨3, .data⟩, Array.mem_of_getElem? (i := 1) rfl, rfl, rfl⟩⟩)
        | (cases h)
    · simp only [List.map, twO]
      refine wk hE trivial ?_
      exact PostL.mk trivial rfl
  · have h := of_decide_eq_false h
    refine AWp.skip ?_
    change AWp _ _ _ (.seq _ _) _ _
    refine AWp.seq ?_
    refine AWp.regionT 18 (t := 22) (e := 41) (d2 := 17) (p := 5) (i2 := 2) (i3 := 3) (by_ := 8) (k := .u64) (ys := x) hE.hT hE.hS hE.hm rfl (by omega) (by omega) (by rfl)
      (fun j o h => ?_) (by exact ⟨_, rfl, rfl, rfl, rfl⟩) (by exact ⟨_, rfl, rfl, rfl, rfl⟩) (fun j o h => ?_) (fun j o h ho => ?_) ?_
    · rcases j with _ | _ | _ | _ | _ | _ | _ | j <;> first
        | (cases h; first | exact ⟨_, rfl, rfl, rfl, rfl, rfl, .inl rfl⟩ | exact ⟨_, rfl, rfl, rfl, rfl, rfl, .inr (.inl ⟨rfl, rfl⟩)⟩ | exact ⟨_, rfl, rfl, rfl, rfl, rfl, .inr (.inr ⟨rfl, rfl⟩)⟩)
        | (cases h)
    · rcases j with _ | _ | _ | _ | _ | _ | _ | j <;> first
        | (cases h; exact ⟨fun e => absurd e (by decide), fun e => by first | rfl | exact absurd e (by decide), fun e => by first | rfl | exact absurd e (by decide)⟩)
        | (cases h)
    · rcases j with _ | _ | _ | _ | _ | _ | _ | j <;> first
        | (cases h; cases ho; done)
        | (cases h; exact ⟨_, rfl, ⟨⟨2, .data⟩, Array.mem_of_getElem? (i := 0) rfl, rfl, rfl⟩, ⟨⟨3, .data⟩, Array.mem_of_getElem? (i := 1) rfl, rfl, rfl⟩⟩)
        | (cases h)
    · simp only [List.map, twO]
      refine wk hE trivial ?_
      refine PostL.mk trivial ?_
      rw [Int.toNat_natCast, List.take_of_length_le (by omega)]
end Go.Hl
