/- Words of the proof. -/
import Derived.Test.YtdgipencedlbmaaGreatDoorZWWords
namespace Go.Proofs.YtdgipencedlbmaaGreatDoorW.PrintWords
open Go.RowKit
namespace Kd
theorem reps_set {α : Type} {R : α → List Value → Prop} {size : Nat} {ps : List α} {cs : List Value} (h : Reps R size ps cs) {i : Nat} (hi : i < ps.length) {x : α} {seg : List Value} (hx : R x seg) (hl : seg.length = size) : Reps R size (ps.set i x) (cs.take (i * size) ++ seg ++ cs.drop (i * size + seg.length)) := by
  have hfit : i * size + size ≤ cs.length := by rw [h.1, ← Nat.succ_mul]; exact Nat.mul_le_mul_right _ hi
  refine ⟨?_, fun m p hm => ?_⟩
  · rw [List.length_set, ← h.1]
    simp only [List.length_append, List.length_take, List.length_drop]
    omega
  · have hml : m < ps.length := by
      have := (List.getElem?_eq_some_iff.1 hm).1
      rwa [List.length_set] at this
    by_cases hmi : m = i
    · subst hmi
      rw [List.getElem?_set_self hml] at hm
      injection hm with hm
      subst hm
      rw [show ((cs.take (m * size) ++ seg ++ cs.drop (m * size + seg.length)).drop (m * size)).take size = seg by
        rw [List.append_assoc, List.drop_left' (by rw [List.length_take]; omega), List.take_left' hl]]
      exact hx
    · rw [List.getElem?_set_ne (Ne.symm hmi)] at hm
      have hmf : m * size + size ≤ cs.length := by rw [h.1, ← Nat.succ_mul]; exact Nat.mul_le_mul_right _ hml
      rw [show ((cs.take (i * size) ++ seg ++ cs.drop (i * size + seg.length)).drop (m * size)).take size = (cs.drop (m * size)).take size from by
        apply List.ext_getElem?
        intro q
        rw [List.getElem?_take, List.getElem?_take, List.getElem?_drop, List.getElem?_drop, seg_get cs seg _ (by omega)]
        by_cases hq : q < size
        · rw [if_pos hq, if_pos hq]
          rcases Nat.lt_or_gt_of_ne hmi with hlt | hgt
          · have : m * size + size ≤ i * size := by rw [← Nat.succ_mul]; exact Nat.mul_le_mul_right _ hlt
            rw [if_pos (by omega)]
          · have : i * size + size ≤ m * size := by rw [← Nat.succ_mul]; exact Nat.mul_le_mul_right _ hgt
            rw [if_neg (by omega), if_neg (by omega)]
        · rw [if_neg hq, if_neg hq]]
      exact h.2 m p hm
section
variable {α : Type} {n : Nat} {d : Kd α} {hs : 0 < d.sz} {w : World} {base : Nat} {ok : Nat → Prop} {xs : List α} {cs : List Value}
end
section
variable {α : Type} {n : Nat} {enc : α → Value} {h1 : ∀ x, (enc x).oneCell' = true} {hs : 0 < (scalar enc h1).sz} {w : World} {base : Nat} {ok : Nat → Prop} {xs : List α} {cs : List Value}
end
end Kd
end Go.Proofs.YtdgipencedlbmaaGreatDoorW.PrintWords
