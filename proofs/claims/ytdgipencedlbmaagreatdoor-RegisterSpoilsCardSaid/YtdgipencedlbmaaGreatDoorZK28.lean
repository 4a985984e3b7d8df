/- The reference's Split and number. The reference's Read answers as readS says. -/
import Derived.Test.YtdgipencedlbmaaGreatDoorZJ24
import Derived.RegionTactic
import Derived.ChangeAlike
import Derived.Test.YtdgipencedlbmaaGreatDoorZD15
import Derived.Test.YtdgipencedlbmaaGreatDoorZJ23
namespace Go.Proofs.YtdgipencedlbmaaGreatDoor.Pr
set_option linter.unusedVariables false
set_option linter.unusedSimpArgs false
open Go.RowKit Go.Proofs.YtdgipencedlbmaaGreatDoorW.PrintWords Go.Proofs.YtdgipencedlbmaaGreatDoorW.PrintLast Go.Proofs.YtdgipencedlbmaaGreatDoorW.PrintMore Go.Proofs.YtdgipencedlbmaaGreatDoor.Hand
end Go.Proofs.YtdgipencedlbmaaGreatDoor.Pr
namespace Go.Proofs.YtdgipencedlbmaaGreatDoor.Pr
set_option linter.unusedVariables false
set_option linter.unusedSimpArgs false
open Go.RowKit Go.Proofs.YtdgipencedlbmaaGreatDoorW.PrintWords Go.Proofs.YtdgipencedlbmaaGreatDoorW.PrintLast Go.Proofs.YtdgipencedlbmaaGreatDoorW.PrintMore Go.Proofs.YtdgipencedlbmaaGreatDoor.Hand
structure RRd (w W : World) (r g n c x : Nat) (ws : List ByteArray) (e : S24) : Prop where
  below : Below w.heap.size w W
  res : W.heap[r]? = some (.cells (cellsE z24) 34 (0, 0))
  lo : w.heap.size ≤ r
  len : ws.length = n
  pos : 0 < n
  own : Kd.R Kd.string 9 W w.heap.size (fun _ => True) (.slice (some ⟨g, 0, none⟩) n c) ws
  ent : W.heap[x]? = some (.cells (cellsE e) 34 (0, 0))
  xl : w.heap.size ≤ x
  xr : x ≠ r
theorem RRd.keep {w W W' : World} {r g n c x : Nat} {ws : List ByteArray} {e : S24} (h : RRd w W r g n c x ws e) (hB : Below W.heap.size W W') : RRd w W' r g n c x ws e :=
  ⟨below_then h.below hB, below_keeps hB (blk_lt h.res) h.res, h.lo, h.len, h.pos, Kd.R_below h.own hB, below_keeps hB (blk_lt h.ent) h.ent, h.xl, h.xr⟩
theorem RRd.set {w W : World} {r g n c x : Nat} {ws : List ByteArray} {e e' : S24} (h : RRd w W r g n c x ws e) (j : Nat) (u : Value) (he : (cellsE e).setIfInBounds j u = cellsE e') : RRd w (W.setCell ⟨x, j, none⟩ u) r g n c x ws e' := by
  have hb := but_setCell W x j u
  refine ⟨hb.below h.below h.xl h.below.size, hb.keeps h.xr.symm h.res, h.lo, h.len, h.pos, Kd.R_set h.own h.ent (by intro q hq e9; subst e9; revert hq; decide) j u, ?_, h.xl, h.xr⟩
  rw [← he]; exact heap_setCell_same W x j _ 34 u h.ent
structure RRc (W : World) (x : Nat) (e : S24) : Prop where
  x0 : W.cell? ⟨x, 0, none⟩ = some (.int .i64 e.f0)
  x1 : W.cell? ⟨x, 1, none⟩ = some (.string e.f1)
  x2 : W.cell? ⟨x, 2, none⟩ = some (.int .i64 e.f2)
  fx : ∀ j, W.frozen? ⟨x, j, none⟩ = false
theorem RRd.cells {w W : World} {r g n c x : Nat} {ws : List ByteArray} {e : S24} (h : RRd w W r g n c x ws e) : RRc W x e := by
  obtain ⟨a, b, d⟩ := entry_cells3 h.ent
  exact ⟨a, b, d, fun j => frozen_of_row W x j _ 34 h.ent⟩
theorem RRd.part {w W : World} {r g n c x : Nat} {ws : List ByteArray} {e : S24} (h : RRd w W r g n c x ws e) (j : Nat) (hj : j < n) : W.cell? ⟨g, j, none⟩ = some (.string (ws.getD j ByteArray.empty)) := by
  have hl := h.len
  obtain ⟨_, _, hC⟩ := Kd.R_reads' h.own
  obtain ⟨ad, cc, e2, hll, hK, hcell⟩ := Kd.C_get hC ByteArray.empty ((j : Nat) : Int) (by omega) (by omega)
  cases e2
  have : cc = [.string (ws.getD j ByteArray.empty)] := hK
  subst this
  have hq := hcell 0 _ rfl
  have e3 : j * Kd.string.sz + 0 = j := Nat.mul_one _
  rw [Int.toNat_natCast, e3] at hq
  have e4 : (⟨g, 0, none⟩ : Addr).add j = ⟨g, j, none⟩ := by simp [Addr.add] <;> omega
  rwa [e4] at hq
end Go.Proofs.YtdgipencedlbmaaGreatDoor.Pr
