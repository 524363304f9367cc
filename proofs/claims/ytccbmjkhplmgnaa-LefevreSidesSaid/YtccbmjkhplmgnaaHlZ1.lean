/- slices.Reverse of bytes: its contract -/
import Derived.Test.YtccbmjkhplmgnaaHlAv29
import Derived.Test.YtccbmjkhplmgnaaHlB3
set_option linter.unusedVariables false
set_option linter.unusedSimpArgs false
namespace Go.Hl
open Go Go.RowKit Go.Proofs Go.Sort
@[push_cast] def spRev : Sp where
  kind := 2
  pre | [.ns .u8 x] => x.length < 1000000000
      | _ => False
  res | [.ns .u8 x] => .tup [.tup [], .ns .u8 x.reverse]
      | _ => .any
theorem heap_putRow {w : World} {n b o : Nat} {d : Array Int} (k : Nat) : (putRow encB (Sort.ahead w n) b o d).heap[k]? = if b = k then (w.heap[k]?).map (onCells (putCells encB o d)) else w.heap[k]? := by
  simp only [putRow, mapBlock, Sort.ahead, Array.getElem?_modify]
theorem reverse_ok : SpOK Try.prog 156 spRev := by
  refine SpOK.two rfl fun args hp => ?_
  simp only [spRev] at hp ⊢
  split at hp
  · rename_i x
    refine ⟨.u8, x, [], .tup [], x.reverse, rfl, rfl, by simp, fun w X vs b o cap C e' hX hXb hsz hv0 hcap hheap hoc hcells hrest => ⟨run_callFunc_body Try.func156 rfl (by decide) vs w, ?_⟩⟩
    have hvs : vs = #[.slice (some ⟨b, o, none⟩) x.toArray.size cap] := by
      apply Array.ext_getElem?
      intro i
      match i with
      | 0 => simpa using hv0
      | i + 1 =>
        have : vs.size = 1 := by simpa using hsz
        rw [Array.getElem?_eq_none (by omega), Array.getElem?_eq_none (by simp)]
    subst hvs
    have hH : Holds encB w b o x.toArray := by
      intro j hj
      have hj' : j < x.length := by simpa using hj
      refine ⟨?_, Lib.frozen_of_heap hheap _⟩
      rw [Lib.cell_of_heap hheap, hcells j x[j] (by simp [hj'])]
      simp [encB, getElem!_pos, hj']
    refine (reverse_arr b o cap x.toArray w hH (by simp; omega)).mono ?_
    rintro e w' ⟨rfl, n, rfl⟩
    refine ⟨_, rfl, RI.tup [] _ (fun _ => undef) rfl (fun j c hc => by simp at hc) (fun j c hc => by simp at hc), ⟨rfl, rfl, rfl, by simp [Sort.ahead], fun k hk hne => ?_, fun C2 e2 hC2 => ?_⟩, fun C' ⟨e'', hC'⟩ j y hy => ?_⟩
    · rw [heap_putRow, if_neg (fun h => hne h.symm)]
    · rw [heap_putRow, if_pos rfl, hC2]
      refine ⟨_, rfl, by simp [putCells], fun j hj => ?_⟩
      simp only [putCells, Array.getElem?_mapIdx]
      cases C2[j]? with
      | none => rfl
      | some z =>
        rw [Option.map_some, if_neg]
        intro h
        have : (x.toArray.reverse).size = x.length := by simp
        exact hj ⟨h.1, by omega⟩
    · rw [heap_putRow, if_pos rfl, hheap] at hC'
      simp only [Option.map_some, onCells, Option.some.injEq, Obj.cells.injEq] at hC'
      obtain ⟨rfl, _, _⟩ := hC'
      have hj : j < x.length := by
        have := (List.getElem?_eq_some_iff.1 hy).1
        simpa using this
      have hin : o + j < C.size := by omega
      simp only [putCells, Array.getElem?_mapIdx, Array.getElem?_eq_getElem hin, Option.map_some]
      have hs : (x.toArray.reverse).size = x.length := by simp
      rw [if_pos ⟨by omega, by omega⟩, Nat.add_sub_cancel_left]
      have e1 : x.toArray.reverse[j]! = y := by
        rw [getElem!_pos _ j (by omega)]
        have h2 : x.toArray.reverse = x.reverse.toArray := by simp
        have h3 : x.reverse[j]? = some y := hy
        simp only [h2, List.getElem_toArray]
        rw [List.getElem?_eq_getElem (by simpa using hj)] at h3
        exact Option.some.inj h3
      rw [e1]
  · exact hp.elim
end Go.Hl
