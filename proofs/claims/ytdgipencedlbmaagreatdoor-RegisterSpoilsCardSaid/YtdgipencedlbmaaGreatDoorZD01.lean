/- What the library's package-level variables hold, as a fact on a world that stands wherever nothing below has turned. -/
import Derived.Test.YtdgipencedlbmaaGreatDoorProg
import Derived.Below
import Derived.WalkKit
import Derived.WalkSmall
import Derived.KernelRfl
import Derived.Lib.LaidTab
import Derived.Lib.ItoaNum
namespace Go.Proofs.YtdgipencedlbmaaGreatDoor.Pr
open Go.RowKit
structure GOOD (w : World) : Prop where
  low : 8 ≤ w.heap.size
  mlen : ∃ m, w.cell? ⟨0, 0, none⟩ = some (.int .i64 m)
  esyn : ∃ tp p, w.var? Tryz.prog "strconv.ErrSyntax" = some #[.iface tp p]
  erng : ∃ tp p, w.var? Tryz.prog "strconv.ErrRange" = some #[.iface tp p]
  tab : Lib.TabIs Tryz.prog w "internal/strconv.uint64pow10" .u64 Lib.pow10Tab
theorem g1 : Tryz.prog.globalNamed "strconv.ErrSyntax" = some 1 := by kernel_rfl
theorem g2 : Tryz.prog.globalNamed "strconv.ErrRange" = some 2 := by kernel_rfl
theorem g3 : Tryz.prog.globalNamed "internal/strconv.uint64pow10" = some 3 := by kernel_rfl
theorem GOOD.step {B : Nat} {w W : World} (h : GOOD w) (hb : Below B w W) (hB : 8 ≤ B) : GOOD W := by
  obtain ⟨low, ⟨m, hm⟩, ⟨tp, p, hs⟩, ⟨tq, q, hr⟩, ht⟩ := h
  exact ⟨Nat.le_trans low hb.size, ⟨m, by rw [hb.cell (p := ⟨0, 0, none⟩) (show 0 < B by omega)]; exact hm⟩,
    ⟨tp, p, var?_below hb g1 (by omega) hs⟩, ⟨tq, q, var?_below hb g2 (by omega) hr⟩, var?_below hb g3 (by omega) ht⟩
theorem GOOD.below {w W : World} (h : GOOD w) (hb : Below w.heap.size w W) : GOOD W := h.step hb h.low
theorem GOOD.drew {w : World} (h : GOOD w) : GOOD w.drew := h.below ⟨rfl, rfl, rfl, Nat.le_refl _, fun _ _ => rfl⟩
theorem GOOD.drewN {w : World} (h : GOOD w) (n : Nat) : GOOD (w.drewN n) := h.below ⟨rfl, rfl, rfl, Nat.le_refl _, fun _ _ => rfl⟩
theorem GOOD.alloc {w : World} (h : GOOD w) (o : Obj) : GOOD (w.alloc o) := h.below ((Below.refl _ _).alloc (Nat.le_refl _) o)
end Go.Proofs.YtdgipencedlbmaaGreatDoor.Pr
