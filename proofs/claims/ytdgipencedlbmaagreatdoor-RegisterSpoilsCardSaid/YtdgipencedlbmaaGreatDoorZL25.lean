/- The reference's checksums, lines and journals. The reference's cut: what stands before the first of a byte and behind it; strings.Cut at one byte. The reference's Begun: what is loaded of a text, up t -/
import Derived.Test.YtdgipencedlbmaaGreatDoorZJ24
import Derived.Test.YtdgipencedlbmaaGreatDoorZT21
import Derived.Test.YtdgipencedlbmaaGreatDoorZD15
import Derived.Test.YtdgipencedlbmaaGreatDoorZK28
namespace Go.Proofs.YtdgipencedlbmaaGreatDoor.Pr
set_option linter.unusedVariables false
set_option linter.unusedSimpArgs false
open Go.RowKit Go.Proofs.YtdgipencedlbmaaGreatDoorW.PrintWords Go.Proofs.YtdgipencedlbmaaGreatDoorW.PrintLast Go.Proofs.YtdgipencedlbmaaGreatDoorW.PrintMore Go.Proofs.YtdgipencedlbmaaGreatDoor.Hand
theorem bytesA_size' (a : List UInt8) : (bytesA a).size = a.length := by simp [bytesA, ByteArray.size]
def lineT (h : Int) (s : List UInt8) : List UInt8 := Lib.itoa (sumS h s) ++ 32 :: (s ++ [10])
theorem itoa_len7 {n : Int} (h : 0 ≤ n ∧ n < 1000003) : (Lib.itoa n).length ≤ 7 := by
  rw [itoa_pos h.1]; exact dec_len (d := 6) (by omega)
theorem linesL_len : ∀ {l : List S24} (h : Int), (∀ x ∈ l, rightE x = 0) → (linesL h l).length ≤ 49 * l.length
  | [], h, _ => Nat.le_refl _
  | x :: l, h, hr => by
    have ih := linesL_len (l := l) (sumS h (textE x)) (fun y hy => hr y (by simp [hy]))
    have h1 := (textE_len (hr x (by simp))).2
    have h2 := itoa_len7 (sumS_range h (textE x))
    show (lineL h x ++ linesL _ l).length ≤ _
    unfold lineL
    simp only [List.length_append, List.length_cons, List.length_nil] at *
    omega
theorem linesL_snoc (h : Int) (l : List S24) (x : S24) : linesL h (l ++ [x]) = linesL h l ++ lineL (sumsL h l) x ∧ sumsL h (l ++ [x]) = sumS (sumsL h l) (textE x) := by
  rw [linesL_app, sumsL_app]
  exact ⟨by show _ ++ (lineL _ x ++ []) = _; rw [List.append_nil], rfl⟩
end Go.Proofs.YtdgipencedlbmaaGreatDoor.Pr
namespace Go.Proofs.YtdgipencedlbmaaGreatDoor.Pr
set_option linter.unusedVariables false
set_option linter.unusedSimpArgs false
open Go.RowKit Go.Proofs.YtdgipencedlbmaaGreatDoorW.PrintWords Go.Proofs.YtdgipencedlbmaaGreatDoor.Hand
def cutA (c : UInt8) (s : ByteArray) : ByteArray × ByteArray × Bool := match cutL c s.data.toList with | none => (s, ⟨#[]⟩, false) | some p => (bytesA p.1, bytesA p.2, true)
theorem cutA_none {c : UInt8} {s : ByteArray} (h : cutL c s.data.toList = none) : cutA c s = (s, ⟨#[]⟩, false) := by unfold cutA; rw [h]
theorem cutA_some {c : UInt8} {s : ByteArray} {a b : List UInt8} (h : cutL c s.data.toList = some (a, b)) : cutA c s = (bytesA a, bytesA b, true) := by unfold cutA; rw [h]
theorem Cut_is (s p : ByteArray) (v : ByteArray × ByteArray × Bool) (c : UInt8) (hp : p = ⟨#[c]⟩) (hv : cutA c s = v) (w : World) (hG : GOOD w) (hs : s.size < 4294967281) :
    Calls Tryz.prog 133 #[.string s, .string p] w fun e w' => e = .returned (.tuple #[.string v.1, .string v.2.1, .bool v.2.2]) ∧ ∃ n, w' = w.drewN n := by
  subst hp
  obtain ⟨m, hm⟩ := hG.mlen
  refine (Tryz.strings_Cut s ⟨#[c]⟩ m w hs hm).mono fun e w' h => ⟨?_, h.2⟩
  rw [h.1]
  have hl : Lib.cut s.data.toList [c] = match cutL c s.data.toList with | none => (s.data.toList, [], false) | some p => (p.1, p.2, true) := lib_cut c s.data.toList
  have e3 : (⟨#[c]⟩ : ByteArray).data.toList = [c] := rfl
  rw [e3, hl, ← hv]
  unfold cutA
  cases cutL c s.data.toList with
  | none => cases s; rfl
  | some p => rfl
end Go.Proofs.YtdgipencedlbmaaGreatDoor.Pr
namespace Go.Proofs.YtdgipencedlbmaaGreatDoor.Pr
set_option linter.unusedVariables false
set_option linter.unusedSimpArgs false
open Go.RowKit Go.Proofs.YtdgipencedlbmaaGreatDoorW.PrintWords Go.Proofs.YtdgipencedlbmaaGreatDoorW.PrintLast Go.Proofs.YtdgipencedlbmaaGreatDoorW.PrintMore Go.Proofs.YtdgipencedlbmaaGreatDoor.Hand
end Go.Proofs.YtdgipencedlbmaaGreatDoor.Pr
namespace Go.Proofs.YtdgipencedlbmaaGreatDoor.Pr
set_option linter.unusedVariables false
set_option linter.unusedSimpArgs false
open Go.RowKit Go.Proofs.YtdgipencedlbmaaGreatDoorW.PrintWords Go.Proofs.YtdgipencedlbmaaGreatDoorW.PrintLast Go.Proofs.YtdgipencedlbmaaGreatDoorW.PrintMore Go.Proofs.YtdgipencedlbmaaGreatDoor.Hand
noncomputable def loadR (z : ByteArray) : List S57 × Int × Int :=
  if 262144 < z.size then ([], 0, 17) else if (loadS [] 0 1 z.data.toList).2.2.2 ≠ 0 then ([], (loadS [] 0 1 z.data.toList).2.1, (loadS [] 0 1 z.data.toList).2.2.2)
  else ((loadS [] 0 1 z.data.toList).1, (loadS [] 0 1 z.data.toList).2.1, 0)
noncomputable def repairR (z : ByteArray) : ByteArray :=
  (z.extract 0 (min z.size 262144)).extract 0 ((z.extract 0 (min z.size 262144)).size - (loadS [] 0 1 (z.extract 0 (min z.size 262144)).data.toList).2.2.1.length)
end Go.Proofs.YtdgipencedlbmaaGreatDoor.Pr
