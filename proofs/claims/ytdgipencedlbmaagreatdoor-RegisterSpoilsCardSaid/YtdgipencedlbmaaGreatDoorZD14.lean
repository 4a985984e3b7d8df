/- What a row's reading gives the walks: the library's variables, registers and entries among the arguments. -/
import Derived.Test.YtdgipencedlbmaaGreatDoorZD01
import Derived.Test.YtdgipencedlbmaaGreatDoorZD06
import Derived.Test.YtdgipencedlbmaaGreatDoorZD13
import Derived.Test.YtdgipencedlbmaaGreatDoorRows
import Derived.WalkKit
import Derived.ProofKit
import Derived.OpenShut
import Derived.ShutString
import Derived.ChangeOld
import Derived.Carry
import Derived.SizedLaws
import Derived.Deep.Slices
import Derived.Deep.Strs
import Derived.Deep.DeepHandedRow
import Derived.Lib.LaidTab
import Derived.LaidLaws
namespace Go.Proofs.YtdgipencedlbmaaGreatDoor.Pr
open Go.ChangeShapes Go.WideShapes Go.RowKit Go.Proofs.YtdgipencedlbmaaGreatDoorW.PrintWords Go.Proofs.YtdgipencedlbmaaGreatDoor.Hand
set_option linter.unusedVariables false
set_option maxRecDepth 100000
theorem laid_tail {P : Program} {W : World} {x : String × DataW Unit} {rest : List (String × DataW Unit)} (h : laidMet P (x :: rest) W) : laidMet P rest W := by
  obtain ⟨ps, ⟨g, t, cs, fuel, p, q, _, _, _, _, hr, rfl⟩, hn, hs⟩ := h
  exact ⟨q, hr, (List.nodup_append.mp hn).2.1, fun b off hb => hs b off (by simp [hb])⟩
theorem laid_iface {P : Program} {W : World} {n nm : String} {d : DataW Unit} {rest : List (String × DataW Unit)} {g ti : Nat} {ms : Array (String × TypeId)} (hg : P.globalNamed n = some g) (ht : (P.globals[g]?).map (·.type) = some ti) (hi : P.underlying ti = some (.interface ms))
    (h : laidMet P ((n, .iface nm d) :: rest) W) : ∃ tp p, W.var? P n = some #[.iface tp p] := by
  obtain ⟨ps, ⟨g', t', cs, fuel, p, q, hg', ht', hv, hd, _, _⟩, _⟩ := h
  obtain rfl := Option.some.inj (hg.symm.trans hg')
  obtain rfl := Option.some.inj (ht.symm.trans ht')
  obtain ⟨_, u, v, hcs, _, _⟩ := iface_of_trod hi hd
  refine ⟨u, v, ?_⟩
  rw [hv]
  cases cs
  simp at hcs
  simp [hcs]
theorem gt1 : (Tryz.prog.globals[1]?).map (·.type) = some 104 := by kernel_rfl
theorem gt2 : (Tryz.prog.globals[2]?).map (·.type) = some 104 := by kernel_rfl
theorem gt3 : (Tryz.prog.globals[3]?).map (·.type) = some 224 := by kernel_rfl
theorem gsz : Tryz.prog.globals.size = 8 := by kernel_rfl
theorem z0 : (((begin Tryz.prog (fun _ _ => 0) default).world.heap[0]?).bind Obj.row?) = some (#[Value.int .i64 0], 3) := by kernel_rfl
theorem z7 : (((begin Tryz.prog (fun _ _ => 0) default).world.heap[7]?).bind Obj.row?).isSome = true := by kernel_rfl
theorem mlen_of {W : World} (h : W.ShapedOpen Tryz.prog) : ∃ m, W.cell? ⟨0, 0, none⟩ = some (.int .i64 m) := by
  obtain ⟨cs, hh, hs, hr⟩ := h.1 0 _ _ (by rw [gsz]; decide) z0
  obtain ⟨ts, hts, _, hall⟩ := hr (by kernel_rfl)
  rw [show Tryz.prog.cellTypes Tryz.prog.depth 3 = some [3] by kernel_rfl] at hts
  cases hts
  have h1 : 0 < cs.size := by rw [hs]; decide
  obtain ⟨u, hu', hok⟩ := hall 0 cs[0] (by simp [h1])
  have : u = 3 := by simpa using hu'.symm
  subst this
  have hcell : W.cell? ⟨0, 0, none⟩ = some cs[0] := by simp [World.cell?, hh, h1]
  rw [hcell]
  unfold Cell.ok at hok
  rw [Tryz.underlying3] at hok
  cases hv : cs[0] <;> rw [hv] at hok <;> first | (obtain ⟨rfl, _⟩ := hok; exact ⟨_, rfl⟩) | simp at hok
theorem low_of {W : World} (h : W.ShapedOpen Tryz.prog) : 8 ≤ W.heap.size := by
  obtain ⟨⟨z, t⟩, hz⟩ := Option.isSome_iff_exists.mp z7
  obtain ⟨cs, hh, _⟩ := h.1 7 _ _ (by rw [gsz]; decide) hz
  exact blk_lt hh
theorem good_of {W : World} (hsh : W.ShapedOpen Tryz.prog) (hl : laidMet Tryz.prog Rows.registerDoesRow.laid W) : GOOD W where
  low := low_of hsh
  mlen := mlen_of hsh
  esyn := laid_iface g1 gt1 Tryz.underlying104 (laid_tail (laid_tail (laid_tail (laid_tail (laid_tail hl)))))
  erng := laid_iface g2 gt2 Tryz.underlying104 (laid_tail (laid_tail (laid_tail (laid_tail hl))))
  tab := Lib.tabIs_of_head g3 gt3 Tryz.underlying224 Tryz.underlying188 (by kernel_rfl) (by kernel_rfl) (laid_tail (laid_tail hl))
theorem c24 : Tryz.prog.cellsOf 24 = 3 := by kernel_rfl
theorem c9 : Tryz.prog.cellsOf 9 = 1 := by kernel_rfl
theorem c3 : Tryz.prog.cellsOf 3 = 1 := by kernel_rfl
section
variable {H : Type} {enc : TypeId × Value → H} {W : World} {base : Nat} {spare : Nat → Bool} {held : Bool}
theorem entry_cells {fuel : Nat} {cs : List Value} {x : DataW H × List MemPlace} (h : DataW.trod enc Tryz.prog W base spare held fuel 24 cs = some x) : ∃ y : S24, cs = (cellsE y).toList := by
  obtain ⟨xs, n, _, _, hl, hlen, hf⟩ := DataW.trod_struct Tryz.underlying24 h
  rw [c24] at hl
  match cs, hl with
  | [a0, a1, a2], _ =>
    match xs, hlen with
    | [y0, y1, y2], _ =>
      have h0 : DataW.trod enc Tryz.prog W base spare held n 3 ((List.drop 0 [a0, a1, a2]).take (Tryz.prog.cellsOf 3)) = some y0 := hf 0 _ rfl
      have h1 : DataW.trod enc Tryz.prog W base spare held n 9 ((List.drop 1 [a0, a1, a2]).take (Tryz.prog.cellsOf 9)) = some y1 := hf 1 _ rfl
      have h2 : DataW.trod enc Tryz.prog W base spare held n 3 ((List.drop 2 [a0, a1, a2]).take (Tryz.prog.cellsOf 3)) = some y2 := hf 2 _ rfl
      rw [c3] at h0 h2
      rw [c9] at h1
      obtain ⟨n0, e0, _⟩ := DataW.trod_int Tryz.underlying3 (h0)
      obtain ⟨s, e1, _⟩ := DataW.trod_string Tryz.underlying9 (h1)
      obtain ⟨n2, e2, _⟩ := DataW.trod_int Tryz.underlying3 (h2)
      injection e0 with e0
      injection e1 with e1
      injection e2 with e2
      exact ⟨⟨n0, s, n2⟩, by rw [e0, e1, e2]; rfl⟩
end
end Go.Proofs.YtdgipencedlbmaaGreatDoor.Pr
