/- The reference's integers at numerals of at most eight digits: Of, number, brief, Shared, Parted, Lowest, Over. -/
import Derived.Test.YtdgipencedlbmaaGreatDoorD02
import Derived.Test.YtdgipencedlbmaaGreatDoorD15
import Derived.RegionTactic
-- PRINTED by print.py (a twelfth state) out of the translation. Not trusted: Lean checks it.
namespace Go.Proofs.YtdgipencedlbmaaGreatDoor.Pr
open Go.RowKit Go.Proofs.YtdgipencedlbmaaGreatDoorW.PrintWords Go.Proofs.YtdgipencedlbmaaGreatDoorW.PrintLast Go.Proofs.YtdgipencedlbmaaGreatDoorW.PrintMore
attribute [local go_sem] max2_int min2_int max_two min_two max_three min_three max_four min_four   -- for this text's walks alone
set_option linter.unusedVariables false
set_option linter.unusedSimpArgs false

/-! ### metrolabref01_Below: function 122 -/
def metrolabref01_Below.f (a0 : ByteArray) : Option (Bool) := if 0 < (a0.size : Int) then (some ((bt a0 0) == 45)) else (none)
set_option maxHeartbeats 8000000 in
set_option maxRecDepth 100000 in
theorem metrolabref01_Below.calls (a0 : ByteArray) (r : Bool) (w : World) (h : metrolabref01_Below.f a0 = some r) :
    Calls Tryz.prog 122 #[.string a0] w fun e w' => e = .returned (.bool r) ∧ Drawn0 w w' := by
  have H : (if 0 < (a0.size : Int) then (some ((bt a0 0) == 45)) else (none)) = some r := h
  clear h
  by_cases c2 : 0 < (a0.size : Int)
  · rw [if_pos c2] at H
    have c2b0 : decide (0 < (a0.size : Int)) = true := decide_eq_true c2
    have c2b1 : decide (0 < a0.size) = true := decide_eq_true (by omega)
    clear c2
    obtain rfl := Option.some.inj H
    have p3 : 0 ≤ (0 : Int) := (by omega)
    have q3 : 0 < a0.size := (by have : (0 : Int) < (a0.size : Int) := of_decide_eq_true (by first | (with_reducible assumption) | assumption); omega)
    have hx3 : ∀ h : 0 < a0.size, ((a0[0]'h).toNat : Int) = bt a0 0 := bt_at a0 0
    clear p3
    have qi3 : (0 < (a0.size : Int)) = True := eq_true (of_decide_eq_true (by first | (with_reducible assumption) | assumption))
    replace q3 := eq_true q3
    go_enter Tryz.func122, Tryz.ntmps122
    go_wp2
    go_ret
    exact ⟨by first | rfl | (simp; done) | (simp [*]; done), by repeat (first | exact Drawn0.refl _ | apply Drawn0.step)⟩
  · rw [if_neg c2] at H
    exact absurd H (by simp)

end Go.Proofs.YtdgipencedlbmaaGreatDoor.Pr
-- PRINTED by print.py (a twelfth state) out of the translation. Not trusted: Lean checks it.
namespace Go.Proofs.YtdgipencedlbmaaGreatDoor.Pr
open Go.RowKit Go.Proofs.YtdgipencedlbmaaGreatDoorW.PrintWords Go.Proofs.YtdgipencedlbmaaGreatDoorW.PrintLast Go.Proofs.YtdgipencedlbmaaGreatDoorW.PrintMore
attribute [local go_sem] max2_int min2_int max_two min_two max_three min_three max_four min_four   -- for this text's walks alone
set_option linter.unusedVariables false
set_option linter.unusedSimpArgs false

/-! ### metrolabref01_signed: function 148 -/
def metrolabref01_signed.f (a0 : ByteArray) (a1 : Bool) : Option (ByteArray) := if a1 = true then (if a0.toList = ([48] : List UInt8) then (some a0) else (if 1 + a0.size ≤ 9223372036854775807 then (some ((⟨#[45]⟩ : ByteArray) ++ a0)) else (none))) else (some a0)
set_option maxHeartbeats 8000000 in
set_option maxRecDepth 100000 in
theorem metrolabref01_signed.calls (a0 : ByteArray) (a1 : Bool) (r : ByteArray) (w : World) (h : metrolabref01_signed.f a0 a1 = some r) :
    Calls Tryz.prog 148 #[.string a0, .bool a1] w fun e w' => e = .returned (.string r) ∧ Drawn0 w w' := by
  have H : (if a1 = true then (if a0.toList = ([48] : List UInt8) then (some a0) else (if 1 + a0.size ≤ 9223372036854775807 then (some ((⟨#[45]⟩ : ByteArray) ++ a0)) else (none))) else (some a0)) = some r := h
  clear h
  by_cases c3 : a1 = true
  · subst c3
    have H1 : (if a0.toList = ([48] : List UInt8) then (some a0) else (if 1 + a0.size ≤ 9223372036854775807 then (some ((⟨#[45]⟩ : ByteArray) ++ a0)) else (none))) = some r := by rw [if_pos rfl] at H; exact H
    clear H
    have H := H1
    clear H1
    by_cases c4 : a0.toList = ([48] : List UInt8)
    · rw [if_pos c4] at H
      have c4b0 : (a0.toList == ([48] : List UInt8)) = true := beq_iff_eq.mpr c4
      have c4b1 : (a0.toList != ([48] : List UInt8)) = false := bne_eq_false_iff_eq.mpr c4
      clear c4
      obtain rfl := Option.some.inj H
      go_enter Tryz.func148, Tryz.ntmps148
      go_wp2
      go_ret
      exact ⟨by first | rfl | (simp; done) | (simp [*]; done), by repeat (first | exact Drawn0.refl _ | apply Drawn0.step)⟩
    · rw [if_neg c4] at H
      have c4b0 : (a0.toList == ([48] : List UInt8)) = false := beq_eq_false_iff_ne.mpr c4
      have c4b1 : (a0.toList != ([48] : List UInt8)) = true := bne_iff_ne.mpr c4
      by_cases c5 : 1 + a0.size ≤ 9223372036854775807
      · rw [if_pos c5] at H
        have c5b0 := eq_true c5
        have c5b1 : decide (1 + a0.size ≤ 9223372036854775807) = true := decide_eq_true c5
        try have c5b2 : (9223372036854775807 < 1 + a0.size) = False := eq_false (Nat.not_lt.2 c5)
        obtain rfl := Option.some.inj H
        go_enter Tryz.func148, Tryz.ntmps148
        go_wp2
        go_ret
        exact ⟨by first | rfl | (simp; done) | (simp [*]; done), by repeat (first | exact Drawn0.refl _ | apply Drawn0.step)⟩
      · rw [if_neg c5] at H
        exact absurd H (by simp)
  · replace c3 := Bool.eq_false_iff.mpr c3
    subst c3
    have H1 : (some a0) = some r := by rw [if_neg (show ¬ (false = true) by decide)] at H; exact H
    clear H
    have H := H1
    clear H1
    obtain rfl := Option.some.inj H
    go_enter Tryz.func148, Tryz.ntmps148
    go_wp2
    go_ret
    exact ⟨by first | rfl | (simp; done) | (simp [*]; done), by repeat (first | exact Drawn0.refl _ | apply Drawn0.step)⟩

end Go.Proofs.YtdgipencedlbmaaGreatDoor.Pr
-- PRINTED by print.py (a twelfth state) out of the translation. Not trusted: Lean checks it.
namespace Go.Proofs.YtdgipencedlbmaaGreatDoor.Pr
open Go.RowKit Go.Proofs.YtdgipencedlbmaaGreatDoorW.PrintWords Go.Proofs.YtdgipencedlbmaaGreatDoorW.PrintLast Go.Proofs.YtdgipencedlbmaaGreatDoorW.PrintMore
attribute [local go_sem] max2_int min2_int max_two min_two max_three min_three max_four min_four   -- for this text's walks alone
set_option linter.unusedVariables false
set_option linter.unusedSimpArgs false

/-! ### metrolabref01_size: function 149 -/
def metrolabref01_size.f (a0 : ByteArray) : Option (ByteArray) := if a0.toList = ([] : List UInt8) then (some a0) else (if 0 < (a0.size : Int) then (if (bt a0 0) = 45 then (if 1 ≤ (a0.size : Int) then (some (a0.extract 1 a0.size)) else (none)) else (some a0)) else (none))
set_option maxHeartbeats 8000000 in
set_option maxRecDepth 100000 in
theorem metrolabref01_size.calls (a0 : ByteArray) (r : ByteArray) (w : World) (h : metrolabref01_size.f a0 = some r) :
    Calls Tryz.prog 149 #[.string a0] w fun e w' => e = .returned (.string r) ∧ Drawn0 w w' := by
  have H : (if a0.toList = ([] : List UInt8) then (some a0) else (if 0 < (a0.size : Int) then (if (bt a0 0) = 45 then (if 1 ≤ (a0.size : Int) then (some (a0.extract 1 a0.size)) else (none)) else (some a0)) else (none))) = some r := h
  clear h
  by_cases c2 : a0.toList = ([] : List UInt8)
  · rw [if_pos c2] at H
    have c2b0 : (a0.toList == ([] : List UInt8)) = true := beq_iff_eq.mpr c2
    have c2b1 : (a0.toList != ([] : List UInt8)) = false := bne_eq_false_iff_eq.mpr c2
    clear c2
    obtain rfl := Option.some.inj H
    go_enter Tryz.func149, Tryz.ntmps149
    go_wp2
    go_ret
    exact ⟨by first | rfl | (simp; done) | (simp [*]; done), by repeat (first | exact Drawn0.refl _ | apply Drawn0.step)⟩
  · rw [if_neg c2] at H
    have c2b0 : (a0.toList == ([] : List UInt8)) = false := beq_eq_false_iff_ne.mpr c2
    have c2b1 : (a0.toList != ([] : List UInt8)) = true := bne_iff_ne.mpr c2
    by_cases c3 : 0 < (a0.size : Int)
    · rw [if_pos c3] at H
      have c3b0 : decide (0 < (a0.size : Int)) = true := decide_eq_true c3
      have c3b1 : decide (0 < a0.size) = true := decide_eq_true (by omega)
      clear c3
      by_cases c5 : (bt a0 0) = 45
      · rw [if_pos c5] at H
        have c5b0 : ((bt a0 0) == 45) = true := beq_iff_eq.mpr c5
        have c5b1 : ((bt a0 0) != 45) = false := bne_eq_false_iff_eq.mpr c5
        clear c5
        by_cases c6 : 1 ≤ (a0.size : Int)
        · rw [if_pos c6] at H
          have c6b0 := eq_true c6
          have c6b1 : decide (1 ≤ (a0.size : Int)) = true := decide_eq_true c6
          clear c6
          obtain rfl := Option.some.inj H
          have p4 : 0 ≤ (0 : Int) := (by omega)
          have q4 : 0 < a0.size := (by have : (0 : Int) < (a0.size : Int) := of_decide_eq_true (by first | (with_reducible assumption) | assumption); omega)
          have hx4 : ∀ h : 0 < a0.size, ((a0[0]'h).toNat : Int) = bt a0 0 := bt_at a0 0
          clear p4
          have qi4 : (0 < (a0.size : Int)) = True := eq_true (of_decide_eq_true (by first | (with_reducible assumption) | assumption))
          replace q4 := eq_true q4
          go_enter Tryz.func149, Tryz.ntmps149
          go_wp2
          go_ret
          exact ⟨by first | rfl | (simp; done) | (simp [*]; done), by repeat (first | exact Drawn0.refl _ | apply Drawn0.step)⟩
        · rw [if_neg c6] at H
          exact absurd H (by simp)
      · rw [if_neg c5] at H
        have c5b0 : ((bt a0 0) == 45) = false := beq_eq_false_iff_ne.mpr c5
        have c5b1 : ((bt a0 0) != 45) = true := bne_iff_ne.mpr c5
        obtain rfl := Option.some.inj H
        have p4 : 0 ≤ (0 : Int) := (by omega)
        have q4 : 0 < a0.size := (by have : (0 : Int) < (a0.size : Int) := of_decide_eq_true (by first | (with_reducible assumption) | assumption); omega)
        have hx4 : ∀ h : 0 < a0.size, ((a0[0]'h).toNat : Int) = bt a0 0 := bt_at a0 0
        clear p4
        have qi4 : (0 < (a0.size : Int)) = True := eq_true (of_decide_eq_true (by first | (with_reducible assumption) | assumption))
        replace q4 := eq_true q4
        go_enter Tryz.func149, Tryz.ntmps149
        go_wp2
        go_ret
        exact ⟨by first | rfl | (simp; done) | (simp [*]; done), by repeat (first | exact Drawn0.refl _ | apply Drawn0.step)⟩
    · rw [if_neg c3] at H
      exact absurd H (by simp)

end Go.Proofs.YtdgipencedlbmaaGreatDoor.Pr
-- PRINTED by print.py (a twelfth state) out of the translation. Not trusted: Lean checks it.
namespace Go.Proofs.YtdgipencedlbmaaGreatDoor.Pr
open Go.RowKit Go.Proofs.YtdgipencedlbmaaGreatDoorW.PrintWords Go.Proofs.YtdgipencedlbmaaGreatDoorW.PrintLast Go.Proofs.YtdgipencedlbmaaGreatDoorW.PrintMore
attribute [local go_sem] max2_int min2_int max_two min_two max_three min_three max_four min_four   -- for this text's walks alone
set_option linter.unusedVariables false
set_option linter.unusedSimpArgs false

/-! ### metrolabref01_Turned: function 123 -/
def metrolabref01_Turned.f (a0 : ByteArray) : Option (ByteArray) := (metrolabref01_size.f a0).bind fun t289 => ((metrolabref01_Below.f a0).bind fun t290 => ((metrolabref01_signed.f t289 (!t290)).bind fun t291 => (some t291)))
set_option maxHeartbeats 8000000 in
set_option maxRecDepth 100000 in
theorem metrolabref01_Turned.calls (a0 : ByteArray) (r : ByteArray) (w : World) (h : metrolabref01_Turned.f a0 = some r) :
    Calls Tryz.prog 123 #[.string a0] w fun e w' => e = .returned (.string r) ∧ Drawn0 w w' := by
  have H : ((metrolabref01_size.f a0).bind fun t289 => ((metrolabref01_Below.f a0).bind fun t290 => ((metrolabref01_signed.f t289 (!t290)).bind fun t291 => (some t291)))) = some r := h
  clear h
  replace H := Option.bind_eq_some_iff.mp H
  obtain ⟨t289, A20, H⟩ := H
  replace H : ((metrolabref01_Below.f a0).bind fun t290 => ((metrolabref01_signed.f t289 (!t290)).bind fun t291 => (some t291))) = some r := H
  have A2 := Aside0.mk A20
  clear A20
  replace H := Option.bind_eq_some_iff.mp H
  obtain ⟨t290, A30, H⟩ := H
  replace H : ((metrolabref01_signed.f t289 (!t290)).bind fun t291 => (some t291)) = some r := H
  have A3 := Aside0.mk A30
  clear A30
  replace H := Option.bind_eq_some_iff.mp H
  obtain ⟨t291, A40, H⟩ := H
  replace H : (some t291) = some r := H
  have A4 := Aside0.mk A40
  clear A40
  obtain rfl := Option.some.inj H
  go_enter Tryz.func123, Tryz.ntmps123
  go_wp2_with (first | ((with_reducible refine gate_callee (f := 149) rfl ?_); refine goesL_ (some 4) rfl rfl Tryz.func149 (by kernel_rfl) rfl #[.string a0] rfl (by (try simp only [List.map_toArray, List.map_cons, List.map_nil]); first | done | rfl | (simp only [List.length_drop, List.length_take]; rfl)) ?_; (with_reducible refine (metrolabref01_size.calls a0 t289 _ A2.out).mono ?_); rintro e w' ⟨rfl, ⟨nd, rfl⟩⟩; refine ⟨_, rfl, ?_⟩) | ((with_reducible refine gate_callee (f := 122) rfl ?_); refine goesL_ (some 6) rfl rfl Tryz.func122 (by kernel_rfl) rfl #[.string a0] rfl (by (try simp only [List.map_toArray, List.map_cons, List.map_nil]); first | done | rfl | (simp only [List.length_drop, List.length_take]; rfl)) ?_; (with_reducible refine (metrolabref01_Below.calls a0 t290 _ A3.out).mono ?_); rintro e w' ⟨rfl, ⟨nd, rfl⟩⟩; refine ⟨_, rfl, ?_⟩) | ((with_reducible refine gate_callee (f := 148) rfl ?_); refine goesL_ (some 8) rfl rfl Tryz.func148 (by kernel_rfl) rfl #[.string t289, .bool (!t290)] rfl (by (try simp only [List.map_toArray, List.map_cons, List.map_nil]); first | done | rfl | (simp only [List.length_drop, List.length_take]; rfl)) ?_; (with_reducible refine (metrolabref01_signed.calls t289 (!t290) t291 _ A4.out).mono ?_); rintro e w' ⟨rfl, ⟨nd, rfl⟩⟩; refine ⟨_, rfl, ?_⟩))
  go_ret
  exact ⟨by first | rfl | (simp; done) | (simp [*]; done), by repeat (first | exact Drawn0.refl _ | apply Drawn0.step)⟩

end Go.Proofs.YtdgipencedlbmaaGreatDoor.Pr
-- PRINTED by print.py (a twelfth state) out of the translation. Not trusted: Lean checks it.
namespace Go.Proofs.YtdgipencedlbmaaGreatDoor.Pr
open Go.RowKit Go.Proofs.YtdgipencedlbmaaGreatDoorW.PrintWords Go.Proofs.YtdgipencedlbmaaGreatDoorW.PrintLast Go.Proofs.YtdgipencedlbmaaGreatDoorW.PrintMore
attribute [local go_sem] max2_int min2_int max_two min_two max_three min_three max_four min_four   -- for this text's walks alone
set_option linter.unusedVariables false
set_option linter.unusedSimpArgs false

/-! ### metrolabref01_Of: function 103 -/
mutual
def metrolabref01_Of.j0 : Nat → Int → Bool → Option (ByteArray)
  | 0, _, _ => none
  | k + 1, x0, x11 => if x11 = true then (some (⟨#[45, 57, 50, 50, 51, 51, 55, 50, 48, 51, 54, 56, 53, 52, 55, 55, 53, 56, 48, 56]⟩ : ByteArray)) else (if x0 < 0 then ((metrolabref01_Of.f k (wrap64 (-x0))).bind fun t292 => ((metrolabref01_Turned.f t292).bind fun t293 => (some t293))) else (metrolabref01_Of.l0 k x0 (⟨#[]⟩ : ByteArray)))
def metrolabref01_Of.l0 : Nat → Int → ByteArray → Option (ByteArray)
  | 0, _, _ => none
  | k + 1, x0, x3 => if x0 > 9 then ((some (([(wrap64 (48 + (Int.tmod x0 10))) % 256] : List Int) : List Int)).bind fun y294 => (if (strOfNums y294).size + x3.size ≤ 9223372036854775807 then (metrolabref01_Of.l0 k (wrap64 (Int.tdiv x0 10)) ((strOfNums y294) ++ x3)) else (none))) else ((some (([(wrap64 (48 + x0)) % 256] : List Int) : List Int)).bind fun y297 => (if (strOfNums y297).size + x3.size ≤ 9223372036854775807 then (some ((strOfNums y297) ++ x3)) else (none)))
def metrolabref01_Of.f : Nat → Int → Option (ByteArray)
  | 0, _ => none
  | k + 1, a0 => if a0 = (wrap64 (-a0)) then (metrolabref01_Of.j0 k a0 (a0 != 0)) else (metrolabref01_Of.j0 k a0 false)
end
theorem metrolabref01_Of.mono_l : ∀ k, (∀ y0, LeO (metrolabref01_Of.f k y0) (metrolabref01_Of.f (k + 1) y0)) ∧ (∀ y0 y1, LeO (metrolabref01_Of.j0 k y0 y1) (metrolabref01_Of.j0 (k + 1) y0 y1)) ∧ (∀ y0 y1, LeO (metrolabref01_Of.l0 k y0 y1) (metrolabref01_Of.l0 (k + 1) y0 y1))
  | 0 => ⟨fun _ r h => by simp [metrolabref01_Of.f] at h, fun _ _ r h => by simp [metrolabref01_Of.j0] at h, fun _ _ r h => by simp [metrolabref01_Of.l0] at h⟩
  | k + 1 => by
    obtain ⟨ih0, ih1, ih2⟩ := metrolabref01_Of.mono_l k
    refine ⟨?_, ?_, ?_⟩
    · intro y0
      unfold metrolabref01_Of.f
      repeat' first
      | (with_reducible exact ih0 _)
      | (with_reducible exact ih1 _ _)
      | (with_reducible exact ih2 _ _)
      | (with_reducible exact LeO.refl _)
      | (with_reducible exact LeO.none _)
      | (with_reducible refine LeO.ite ?_ ?_)
      | (with_reducible refine LeO.bind ?_ (fun _ => ?_))
      | exact ih0 _
      | exact ih1 _ _
      | exact ih2 _ _
      | exact LeO.none _
      | refine LeO.ite ?_ ?_
      | refine LeO.bind ?_ (fun _ => ?_)
    · intro y0 y1
      unfold metrolabref01_Of.j0
      repeat' first
      | (with_reducible exact ih0 _)
      | (with_reducible exact ih1 _ _)
      | (with_reducible exact ih2 _ _)
      | (with_reducible exact LeO.refl _)
      | (with_reducible exact LeO.none _)
      | (with_reducible refine LeO.ite ?_ ?_)
      | (with_reducible refine LeO.bind ?_ (fun _ => ?_))
      | exact ih0 _
      | exact ih1 _ _
      | exact ih2 _ _
      | exact LeO.none _
      | refine LeO.ite ?_ ?_
      | refine LeO.bind ?_ (fun _ => ?_)
    · intro y0 y1
      unfold metrolabref01_Of.l0
      repeat' first
      | (with_reducible exact ih0 _)
      | (with_reducible exact ih1 _ _)
      | (with_reducible exact ih2 _ _)
      | (with_reducible exact LeO.refl _)
      | (with_reducible exact LeO.none _)
      | (with_reducible refine LeO.ite ?_ ?_)
      | (with_reducible refine LeO.bind ?_ (fun _ => ?_))
      | exact ih0 _
      | exact ih1 _ _
      | exact ih2 _ _
      | exact LeO.none _
      | refine LeO.ite ?_ ?_
      | refine LeO.bind ?_ (fun _ => ?_)
theorem metrolabref01_Of.mono : ∀ a0 k, LeO (metrolabref01_Of.f k a0) (metrolabref01_Of.f (k + 1) a0) := by
  intro a0 k
  obtain ⟨ih0, ih1, ih2⟩ := metrolabref01_Of.mono_l k
  exact ih0 a0
set_option maxHeartbeats 8000000 in
set_option maxRecDepth 100000 in
theorem metrolabref01_Of.calls (k : Nat) : ∀ (a0 : Int) (r : ByteArray) (w : World) (h : metrolabref01_Of.f k a0 = some r),
    Calls Tryz.prog 103 #[.int .i64 a0] w fun e w' => e = .returned (.string r) ∧ Below w.heap.size w w' := by
  induction k using Nat.strongRecOn with
  | _ k ih =>
  intro a0 r w h
  cases k with
  | zero => exact absurd h (by simp [metrolabref01_Of.f])
  | succ k =>
  simp only [metrolabref01_Of.f] at h
  have HB := Aside0.mk (Below.refl w.heap.size w)
  have H : (if a0 = (wrap64 (-a0)) then (metrolabref01_Of.j0 k a0 (a0 != 0)) else (metrolabref01_Of.j0 k a0 false)) = some r := h
  clear h
  have HC2 := Aside0.mk H
  clear H
  go_enter Tryz.func103, Tryz.ntmps103
  go_upto_region 1 with (fail)
  go_cut [11] (fun v11 wc => ∃ (kq : Nat) (x11_1 : Bool), v11 = .bool x11_1 ∧ Aside0 (metrolabref01_Of.j0 kq a0 x11_1 = some r) ∧ Aside0 (kq ≤ k) ∧ Aside0 (Below w.heap.size w wc))
  case first =>
    have H := HC2.out
    clear HC2
    by_cases c3 : a0 = (wrap64 (-a0))
    · rw [if_pos c3] at H
      have c3b0 : (a0 == (wrap64 (-a0))) = true := beq_iff_eq.mpr c3
      have c3b1 : (a0 != (wrap64 (-a0))) = false := bne_eq_false_iff_eq.mpr c3
      clear c3
      (first | rw [c3b0] | (simp only [i64_w, i32_w]; rw [c3b0]) | skip)
      have H' := Aside0.mk H
      clear H
      go_wp2
      go_meet
      case rel => exact ⟨_, ((a0 != 0)), (by first | rfl | (simp; done) | (simp [*]; done)), H', ⟨by first | omega | exact Nat.le_refl _⟩, ⟨by repeat (first | (with_reducible first | exact HB.out | apply below_alloc | apply pw_below_drewN | apply below_drew1) | exact HB.out)⟩⟩
    · rw [if_neg c3] at H
      have c3b0 : (a0 == (wrap64 (-a0))) = false := beq_eq_false_iff_ne.mpr c3
      have c3b1 : (a0 != (wrap64 (-a0))) = true := bne_iff_ne.mpr c3
      (first | rw [c3b0] | (simp only [i64_w, i32_w]; rw [c3b0]) | skip)
      have H' := Aside0.mk H
      clear H
      go_wp2
      go_meet
      case rel => exact ⟨_, (false), (by first | rfl | (simp; done) | (simp [*]; done)), H', ⟨by first | omega | exact Nat.le_refl _⟩, ⟨by repeat (first | (with_reducible first | exact HB.out | apply below_alloc | apply pw_below_drewN | apply below_drew1) | exact HB.out)⟩⟩
  case rest =>
    clear HC2
    try clear c1
    try clear p2
    try clear c3
    try clear c3b0
    try clear c3b1
    obtain ⟨kq, x11_1, rfl, HA, HJ1, HB⟩ := hcut
    cases kq with
    | zero => exact absurd HA.out (by simp [metrolabref01_Of.j0])
    | succ kj1 =>
      have H := HA.out
      clear HA
      simp only [metrolabref01_Of.j0] at H
      by_cases c4 : x11_1 = true
      · subst c4
        have H1 : (some (⟨#[45, 57, 50, 50, 51, 51, 55, 50, 48, 51, 54, 56, 53, 52, 55, 55, 53, 56, 48, 56]⟩ : ByteArray)) = some r := by rw [if_pos rfl] at H; exact H
        clear H
        have H := H1
        clear H1
        obtain rfl := Option.some.inj H
        go_wp2
        go_ret
        exact ⟨by first | rfl | (simp [errW_none, errW_some] <;> rfl) | (simp [*, errW_none, errW_some] <;> rfl), by repeat (first | (with_reducible first | exact HB.out | apply below_alloc | apply pw_below_drewN | apply below_drew1) | exact HB.out)⟩
      · replace c4 := Bool.eq_false_iff.mpr c4
        subst c4
        have H1 : (if a0 < 0 then ((metrolabref01_Of.f kj1 (wrap64 (-a0))).bind fun t292 => ((metrolabref01_Turned.f t292).bind fun t293 => (some t293))) else (metrolabref01_Of.l0 kj1 a0 (⟨#[]⟩ : ByteArray))) = some r := by rw [if_neg (show ¬ (false = true) by decide)] at H; exact H
        clear H
        have H := H1
        clear H1
        by_cases c5 : a0 < 0
        · rw [if_pos c5] at H
          have c5b0 : decide (a0 < 0) = true := decide_eq_true c5
          clear c5
          replace H := Option.bind_eq_some_iff.mp H
          obtain ⟨t292, A60, H⟩ := H
          replace H : ((metrolabref01_Turned.f t292).bind fun t293 => (some t293)) = some r := H
          have A6 := Aside0.mk A60
          clear A60
          replace H := Option.bind_eq_some_iff.mp H
          obtain ⟨t293, A70, H⟩ := H
          replace H : (some t293) = some r := H
          have A7 := Aside0.mk A70
          clear A70
          obtain rfl := Option.some.inj H
          go_wp2_with (first | ((with_reducible refine gate_callee (f := 103) rfl ?_); refine goesL_ (some 16) rfl rfl Tryz.func103 (by kernel_rfl) rfl #[.int .i64 (wrap64 (-a0))] rfl (by (try simp only [List.map_toArray, List.map_cons, List.map_nil]); first | done | rfl | (simp only [List.length_drop, List.length_take]; rfl)) ?_; (with_reducible refine (ih kj1 (by have := HJ1.out; omega) (wrap64 (-a0)) t292 _ A6.out).mono ?_); rintro e w8 ⟨rfl, hb⟩; refine ⟨_, rfl, ?_⟩; have n0_ := Aside0.mk (below_step (by repeat (first | (with_reducible first | exact HB.out | apply below_alloc | apply pw_below_drewN | apply below_drew1) | exact HB.out)) hb); clear HB; have HB := n0_; clear n0_; (try clear hb); (try clear hb2); (try clear hk); (try clear hi)) | ((with_reducible refine gate_callee (f := 123) rfl ?_); refine goesL_ (some 17) rfl rfl Tryz.func123 (by kernel_rfl) rfl #[.string t292] rfl (by (try simp only [List.map_toArray, List.map_cons, List.map_nil]); first | done | rfl | (simp only [List.length_drop, List.length_take]; rfl)) ?_; (with_reducible refine (metrolabref01_Turned.calls t292 t293 _ A7.out).mono ?_); rintro e w' ⟨rfl, ⟨nd, rfl⟩⟩; refine ⟨_, rfl, ?_⟩))
          go_ret
          exact ⟨by first | rfl | (simp [errW_none, errW_some] <;> rfl) | (simp [*, errW_none, errW_some] <;> rfl), by repeat (first | (with_reducible first | exact HB.out | apply below_alloc | apply pw_below_drewN | apply below_drew1) | exact HB.out)⟩
        · rw [if_neg c5] at H
          have c5b0 : decide (a0 < 0) = false := decide_eq_false c5
          clear c5
          have H' := Aside0.mk H
          clear H
          go_wp2
          go_loopg [0, 3] kj1 (fun kq v0 v3 w' => ∃ (x0_2 : Int) (x3_2 : ByteArray), v0 = .int .i64 x0_2 ∧ v3 = .string x3_2 ∧ Aside0 (metrolabref01_Of.l0 kq x0_2 x3_2 = some r) ∧ Aside0 (kq ≤ kj1) ∧ Aside0 (Below w.heap.size w w'))
          case atStart => exact ⟨(a0), ((⟨#[]⟩ : ByteArray)), (by first | rfl | (simp; done) | (simp [*]; done)), (by first | rfl | (simp; done) | (simp [*]; done)), H', ⟨Nat.le_refl _⟩, ⟨by repeat (first | (with_reducible first | exact HB.out | apply below_alloc | apply pw_below_drewN | apply below_drew1) | exact HB.out)⟩⟩
          case round =>
            clear H'
            try clear c1
            try clear p2
            try clear c3
            try clear c3b0
            try clear c3b1
            try clear c4
            try clear c5
            try clear c5b0
            try clear p6
            try clear p2
            obtain ⟨x0_2, x3_2, rfl, rfl, HA, HK2, HB⟩ := hrel
            cases gk with
            | zero => exact absurd HA.out (by simp [metrolabref01_Of.l0])
            | succ k2 =>
              have H := HA.out
              clear HA
              simp only [metrolabref01_Of.l0] at H
              by_cases c9 : x0_2 > 9
              · rw [if_pos c9] at H
                have c9b0 : decide (9 < x0_2) = true := decide_eq_true c9
                clear c9
                obtain ⟨y294, hy294⟩ : ∃ y_ : List Int, y_ = (([(wrap64 (48 + (Int.tmod x0_2 10))) % 256] : List Int)) := ⟨_, rfl⟩
                replace H : (if (strOfNums y294).size + x3_2.size ≤ 9223372036854775807 then (metrolabref01_Of.l0 k2 (wrap64 (Int.tdiv x0_2 10)) ((strOfNums y294) ++ x3_2)) else (none)) = some r := by first | (rw [hy294]; with_reducible exact H) | (have H2_ := (Option.bind_some _ _).symm.trans H; rw [hy294]; with_reducible exact H2_) | (have H2_ := (Option.bind_some _ _).symm.trans H; with_reducible exact H2_) | with_reducible exact H | (rw [hy294]; exact H) | exact H
                have Ny294 := Aside0.mk hy294
                clear hy294
                by_cases c10 : (strOfNums y294).size + x3_2.size ≤ 9223372036854775807
                · rw [if_pos c10] at H
                  have c10b0 := eq_true c10
                  have c10b1 : decide ((strOfNums y294).size + x3_2.size ≤ 9223372036854775807) = true := decide_eq_true c10
                  try have c10b2 : (9223372036854775807 < (strOfNums y294).size + x3_2.size) = False := eq_false (Nat.not_lt.2 c10)
                  have H' := Aside0.mk H
                  clear H
                  go_wp2_with (first | ((with_reducible refine gate_dst (N := 24) rfl ?_); refine Kd.R_lit (Kd.int .u8) _ 5 ?hg (N := 24) ?hd (xs := ([(wrap64 (48 + (Int.tmod x0_2 10))) % 256] : List Int)) (inner := [.int .u8 ((wrap64 (48 + (Int.tmod x0_2 10))) % 256)]) (ok := fun _ => True) (okp := fun _ => True) ?hr ?hp (fun _ hk => hk) trivial (Below.refl _ _) (Nat.le_refl _) (by simp) ?_; (case hd => rfl); (case hg => rfl); (case hr => first | (go_simp; done) | (go_simp; rfl)); (case hp => exact (Reps.one (show Kd.M (Kd.int .u8) _ _ _ ((wrap64 (48 + (Int.tmod x0_2 10))) % 256) [.int .u8 ((wrap64 (48 + (Int.tmod x0_2 10))) % 256)] from rfl) (Reps.none _ _))); intro v295 w11 ho12 hb hg_ hnew_; clear hg_ hnew_; (first | rw [← Ny294.out] at ho12 | (simp only [Int.reduceToNat] at ho12; rw [← Ny294.out] at ho12)); have n0_ := Aside0.mk (Kd.R_lower ho12 (below_size (by repeat (first | (with_reducible first | exact HB.out | apply below_alloc | apply pw_below_drewN | apply below_drew1) | exact HB.out)))); have n1_ := Aside0.mk (below_step (by repeat (first | (with_reducible first | exact HB.out | apply below_alloc | apply pw_below_drewN | apply below_drew1) | exact HB.out)) hb); clear HB; have HO296 := n0_; have HB := n1_; clear n0_ n1_; clear hb ho12; have hcv13 := own_string (P := Tryz.prog) Tryz.underlying82 Tryz.underlying5 Tryz.underlying9 (Kd.own_of_R HO296.out)))
                  go_roundg k2
                  case measure => have := HJ1.out; have := HK2.out; omega
                  case rel => exact ⟨(wrap64 (Int.tdiv x0_2 10)), ((strOfNums y294) ++ x3_2), (by first | rfl | (simp; done) | (simp [*]; done)), (by first | rfl | (simp; done) | (simp [*]; done)), H', ⟨by have := HJ1.out; have := HK2.out; omega⟩, ⟨by repeat (first | (with_reducible first | exact HB.out | apply below_alloc | apply pw_below_drewN | apply below_drew1) | exact HB.out)⟩⟩
                · rw [if_neg c10] at H
                  exact absurd H (by simp)
              · rw [if_neg c9] at H
                have c9b0 : decide (9 < x0_2) = false := decide_eq_false c9
                clear c9
                obtain ⟨y297, hy297⟩ : ∃ y_ : List Int, y_ = (([(wrap64 (48 + x0_2)) % 256] : List Int)) := ⟨_, rfl⟩
                replace H : (if (strOfNums y297).size + x3_2.size ≤ 9223372036854775807 then (some ((strOfNums y297) ++ x3_2)) else (none)) = some r := by first | (rw [hy297]; with_reducible exact H) | (have H2_ := (Option.bind_some _ _).symm.trans H; rw [hy297]; with_reducible exact H2_) | (have H2_ := (Option.bind_some _ _).symm.trans H; with_reducible exact H2_) | with_reducible exact H | (rw [hy297]; exact H) | exact H
                have Ny297 := Aside0.mk hy297
                clear hy297
                by_cases c14 : (strOfNums y297).size + x3_2.size ≤ 9223372036854775807
                · rw [if_pos c14] at H
                  have c14b0 := eq_true c14
                  have c14b1 : decide ((strOfNums y297).size + x3_2.size ≤ 9223372036854775807) = true := decide_eq_true c14
                  try have c14b2 : (9223372036854775807 < (strOfNums y297).size + x3_2.size) = False := eq_false (Nat.not_lt.2 c14)
                  obtain rfl := Option.some.inj H
                  go_wp2_with (first | ((with_reducible refine gate_dst (N := 33) rfl ?_); refine Kd.R_lit (Kd.int .u8) _ 5 ?hg (N := 33) ?hd (xs := ([(wrap64 (48 + x0_2)) % 256] : List Int)) (inner := [.int .u8 ((wrap64 (48 + x0_2)) % 256)]) (ok := fun _ => True) (okp := fun _ => True) ?hr ?hp (fun _ hk => hk) trivial (Below.refl _ _) (Nat.le_refl _) (by simp) ?_; (case hd => rfl); (case hg => rfl); (case hr => first | (go_simp; done) | (go_simp; rfl)); (case hp => exact (Reps.one (show Kd.M (Kd.int .u8) _ _ _ ((wrap64 (48 + x0_2)) % 256) [.int .u8 ((wrap64 (48 + x0_2)) % 256)] from rfl) (Reps.none _ _))); intro v298 w15 ho16 hb hg_ hnew_; clear hg_ hnew_; (first | rw [← Ny297.out] at ho16 | (simp only [Int.reduceToNat] at ho16; rw [← Ny297.out] at ho16)); have n0_ := Aside0.mk (Kd.R_lower ho16 (below_size (by repeat (first | (with_reducible first | exact HB.out | apply below_alloc | apply pw_below_drewN | apply below_drew1) | exact HB.out)))); have n1_ := Aside0.mk (below_step (by repeat (first | (with_reducible first | exact HB.out | apply below_alloc | apply pw_below_drewN | apply below_drew1) | exact HB.out)) hb); clear HB; have HO299 := n0_; have HB := n1_; clear n0_ n1_; clear hb ho16; have hcv17 := own_string (P := Tryz.prog) Tryz.underlying82 Tryz.underlying5 Tryz.underlying9 (Kd.own_of_R HO299.out)))
                  go_ret
                  exact ⟨by first | rfl | (simp [errW_none, errW_some] <;> rfl) | (simp [*, errW_none, errW_some] <;> rfl), by repeat (first | (with_reducible first | exact HB.out | apply below_alloc | apply pw_below_drewN | apply below_drew1) | exact HB.out)⟩
                · rw [if_neg c14] at H
                  exact absurd H (by simp)

end Go.Proofs.YtdgipencedlbmaaGreatDoor.Pr
namespace Go.Proofs.YtdgipencedlbmaaGreatDoor.Pr
set_option linter.unusedVariables false
set_option linter.unusedSimpArgs false
open Go.RowKit Go.Proofs.YtdgipencedlbmaaGreatDoorW.PrintWords Go.Proofs.YtdgipencedlbmaaGreatDoorW.PrintLast Go.Proofs.YtdgipencedlbmaaGreatDoorW.PrintMore Go.Proofs.YtdgipencedlbmaaGreatDoor.Hand

theorem num_dig0 {s : ByteArray} (h : Num s) : ∃ h0 : 0 < s.size, ((s[0].toNat : Int) == 45) = false := by
  have h0 : 0 < s.size := h.pos
  refine ⟨h0, ?_⟩
  have := h.dig s[0] (by rw [ByteArray.getElem_eq_getElem_data, ← Array.getElem_toList]; exact List.getElem_mem _)
  rw [beq_eq_false_iff_ne]; omega
theorem num_ne {s : ByteArray} (h : Num s) : s.toList.isEmpty = false := by
  rw [toList_eq]
  cases hl : s.data.toList with
  | nil => have := (size_zero_iff s).2 hl; have := h.pos; omega
  | cons c r => rfl
theorem rsize_calls (s : ByteArray) (h : Num s) (w : World) : Calls Tryz.prog 149 #[.string s] w fun e w' => e = .returned (.string s) ∧ w = w' := by
  obtain ⟨h0, h1⟩ := num_dig0 h
  have h2 := num_ne h
  clear h
  go_enter Tryz.func149, Tryz.ntmps149
  go_wp2
  go_ret
  exact ⟨rfl, rfl⟩
theorem rbelow_calls (s : ByteArray) (h : Num s) (w : World) : Calls Tryz.prog 122 #[.string s] w fun e w' => e = .returned (.bool false) ∧ w = w' := by
  obtain ⟨h0, h1⟩ := num_dig0 h
  clear h
  go_enter Tryz.func122, Tryz.ntmps122
  go_wp2
  go_ret
  exact ⟨rfl, rfl⟩
theorem rsigned_calls (s : ByteArray) (w : World) : Calls Tryz.prog 148 #[.string s, .bool false] w fun e w' => e = .returned (.string s) ∧ w = w' := by
  go_enter Tryz.func148, Tryz.ntmps148
  go_wp2
  go_ret
  exact ⟨rfl, rfl⟩
/-- What digits spell. -/
def spellD (l : List UInt8) : Int := l.foldl (fun n c => 10 * n + ((c.toNat : Int) - 48)) 0
theorem spell_snoc (l : List UInt8) (c : UInt8) : spellD (l ++ [c]) = 10 * spellD l + ((c.toNat : Int) - 48) := by
  unfold spellD; rw [List.foldl_append]; rfl
theorem spell_dec (u : Nat) : spellD (Lib.decDigits u) = u := by
  induction u using Nat.strongRecOn with
  | _ u ih =>
    rw [Lib.decDigits]
    split
    · rename_i h
      show 10 * 0 + (((UInt8.ofNat (48 + u)).toNat : Int) - 48) = u
      rw [u8_digit h]; omega
    · rename_i h
      rw [spell_snoc, ih (u / 10) (by omega), u8_digit (by omega)]
      omega
theorem spell_take (s : ByteArray) (k : Nat) (h : k < s.size) : spellD (s.data.toList.take (k + 1)) = 10 * spellD (s.data.toList.take k) + (bt s k - 48) := by
  rw [List.take_succ_eq_append_getElem (by simpa using h), spell_snoc, bt_u8 s k h]
  simp [ByteArray.getElem_eq_getElem_data]
theorem spell_from (l : List UInt8) (h : ∀ c ∈ l, 48 ≤ c.toNat ∧ c.toNat ≤ 57) : ∀ (a : Nat) (d : Nat), a < 10 ^ d → ∃ v : Nat, l.foldl (fun (n : Int) c => 10 * n + ((c.toNat : Int) - 48)) a = v ∧ v < 10 ^ (d + l.length) := by
  induction l with
  | nil => intro a d ha; exact ⟨a, rfl, ha⟩
  | cons c l ih =>
    intro a d ha
    have hc := h c (by simp)
    obtain ⟨v, h1, h2⟩ := ih (fun x hx => h x (by simp [hx])) (10 * a + (c.toNat - 48)) (d + 1) (by rw [Nat.pow_succ]; omega)
    refine ⟨v, ?_, by rw [List.length_cons, show d + (l.length + 1) = d + 1 + l.length by omega]; exact h2⟩
    rw [List.foldl_cons, ← h1]
    congr 1
    omega
theorem spell_range (l : List UInt8) (h : ∀ c ∈ l, 48 ≤ c.toNat ∧ c.toNat ≤ 57) (hl : l.length ≤ 8) : 0 ≤ spellD l ∧ spellD l < 100000000 := by
  obtain ⟨v, h1, h2⟩ := spell_from l h 0 0 (by decide)
  have h3 : 10 ^ (0 + l.length) ≤ 10 ^ 8 := Nat.pow_le_pow_right (by decide) (by omega)
  have h4 : spellD l = v := h1
  rw [h4]
  have : (10 : Nat) ^ 8 = 100000000 := by decide
  omega
theorem num_bt {s : ByteArray} (h : Num s) (k : Nat) (hk : k < s.size) : 48 ≤ bt s k ∧ bt s k ≤ 57 := by
  have := h.dig s[k] (by rw [ByteArray.getElem_eq_getElem_data, ← Array.getElem_toList]; exact List.getElem_mem _)
  rw [bt_u8 s k hk]; omega
theorem spell_small {s : ByteArray} (h : Num s) (k : Nat) : 0 ≤ spellD (s.data.toList.take k) ∧ spellD (s.data.toList.take k) < 100000000 :=
  spell_range (s.data.toList.take k) (fun c hc => h.dig c (List.mem_of_mem_take hc)) (by
    have := h.small
    have h4 : s.data.toList.length = s.size := by simp
    rw [List.length_take]; omega)
set_option maxHeartbeats 1000000 in
set_option maxRecDepth 100000 in
theorem rnumber_calls (s : ByteArray) (h : Num s) (w : World) : Calls Tryz.prog 181 #[.string s] w fun e w' => e = .returned (.int .i64 (spellD s.data.toList)) ∧ w = w' := by
  have HN := Lib.hid h
  have hs8 := h.small
  clear h
  go_enter Tryz.func181, Tryz.ntmps181
  go_wp2_with (go_at_call 149; refine (rsize_calls s HN.out _).mono ?_; rintro e w' ⟨rfl, rfl⟩)
  go_loop [3, 5, 8, 9, 10, 11, 12, 13, 14, 15, 16, 17, 18, 19, 20, 21] (fun n i _ _ _ _ _ _ _ _ _ _ _ _ _ _ => ∃ (k : Nat) (x : Int), k ≤ s.size ∧ i = .int .i64 k ∧ n = .int .i64 x ∧ Hid (spellD (s.data.toList.take k) = x)) (fun _ i _ _ _ _ _ _ _ _ _ _ _ _ _ _ => s.size - (intOf i).toNat)
  case atStart => exact ⟨0, 0, Nat.zero_le _, rfl, rfl, rfl⟩
  case round =>
    obtain ⟨k, x, hk, rfl, rfl, hx⟩ := hrel
    obtain ⟨x1, x2⟩ := spell_small HN.out k
    rw [hx.out] at x1 x2
    by_cases hlt : k < s.size
    · have HLT := Lib.hid hlt
      obtain ⟨b1, b2⟩ := num_bt HN.out k hlt
      have hst := Lib.hid (spell_take s k hlt)
      have hb : (bt s (k : Int) - 48) % 256 = bt s (k : Int) - 48 := by omega
      go_wp2
      go_round
      case rel => exact ⟨k + 1, _, HLT.out, by go_num, rfl, by
        show _ = _
        rw [hst.out, hx.out]
        have := bt_u8 s k HLT.out
        omega⟩
      case measure => have := HLT.out; simp [intOf]; omega
    · have HK := Lib.hid (show k = s.size by omega)
      go_wp2_with (go_at_call 122; refine (rbelow_calls s HN.out _).mono ?_; rintro e w' ⟨rfl, rfl⟩)
      go_ret
      refine ⟨?_, rfl⟩
      rw [← hx.out, List.take_of_length_le (by rw [HK.out]; simp)]
      rfl
/-- The numeral of a number. -/
def numA (m : Nat) : ByteArray := bytesA (Lib.decDigits m)
theorem numA_num {m : Nat} (h : m < 100000000) : Num (numA m) := num_dec h
theorem numA_spell (m : Nat) : spellD (numA m).data.toList = m := by
  have : (numA m).data.toList = Lib.decDigits m := by simp [numA, bytesA]
  rw [this]; exact spell_dec m
theorem rnum_calls (m : Nat) (h : m < 100000000) (w : World) : Calls Tryz.prog 181 #[.string (numA m)] w fun e w' => e = .returned (.int .i64 m) ∧ w = w' := by
  have := rnumber_calls (numA m) (numA_num h) w
  rwa [numA_spell] at this
theorem numA_small {m : Nat} (h : m < 100000000) : decide (18 < ((numA m).size : Int)) = false := by
  have := (numA_num h).small
  exact decide_eq_false (by omega)
set_option maxHeartbeats 1000000 in
set_option maxRecDepth 100000 in
theorem rbrief_calls (m n : Nat) (hm : m < 100000000) (hn : n < 100000000) (w : World) :
    Calls Tryz.prog 150 #[.string (numA m), .string (numA n)] w fun e w' => e = .returned (.tuple #[.int .i64 m, .int .i64 n, .bool true]) ∧ w = w' := by
  have e1 := numA_small hm
  have e2 := numA_small hn
  have HM := Lib.hid hm
  have HN := Lib.hid hn
  obtain ⟨a, ha⟩ : ∃ a, numA m = a := ⟨_, rfl⟩
  obtain ⟨b, hb⟩ : ∃ b, numA n = b := ⟨_, rfl⟩
  have HA := Lib.hid ha
  have HB := Lib.hid hb
  rw [ha] at e1 ⊢
  rw [hb] at e2 ⊢
  clear ha hb hm hn
  go_enter Tryz.func150, Tryz.ntmps150
  go_wp2_with (first
    | (go_at_call 149; (with_reducible refine (rsize_calls a (HA.out ▸ numA_num HM.out) _).mono ?_); rintro e w' ⟨rfl, rfl⟩)
    | (go_at_call 149; (with_reducible refine (rsize_calls b (HB.out ▸ numA_num HN.out) _).mono ?_); rintro e w' ⟨rfl, rfl⟩)
    | (go_at_call 181; (with_reducible refine ((HA.out ▸ rnum_calls m HM.out _ : Calls Tryz.prog 181 #[.string a] _ _)).mono ?_); rintro e w' ⟨rfl, rfl⟩)
    | (go_at_call 181; (with_reducible refine ((HB.out ▸ rnum_calls n HN.out _ : Calls Tryz.prog 181 #[.string b] _ _)).mono ?_); rintro e w' ⟨rfl, rfl⟩))
  go_ret3
  exact ⟨rfl, rfl⟩
/-! the reference's Of, as its printed function says -/
theorem digit_str {d : Nat} (h : d < 10) : strOfNums ([(wrap64 (48 + (d : Int))) % 256] : List Int) = bytesA [UInt8.ofNat (48 + d)] := by
  have e : (wrap64 (48 + (d : Int))) % 256 = ((48 + d : Nat) : Int) := by unfold wrap64; omega
  rw [e]
  rcases (show d = 0 ∨ d = 1 ∨ d = 2 ∨ d = 3 ∨ d = 4 ∨ d = 5 ∨ d = 6 ∨ d = 7 ∨ d = 8 ∨ d = 9 by omega) with rfl | rfl | rfl | rfl | rfl | rfl | rfl | rfl | rfl | rfl <;> rfl
theorem bytesA_app (a b : List UInt8) : bytesA a ++ bytesA b = bytesA (a ++ b) := by
  apply ByteArray.ext
  simp [bytesA]
theorem bytesA_size (a : List UInt8) : (bytesA a).size = a.length := by simp [bytesA, ByteArray.size]
theorem rOf_l0 : ∀ (k u : Nat) (t : List UInt8), u < 10 ^ k → t.length + k ≤ 100 → u < 1000000000 → metrolabref01_Of.l0 (k + 1) (u : Int) (bytesA t) = some (bytesA (Lib.decDigits u ++ t)) := by
  intro k
  induction k with
  | zero =>
    intro u t hu ht _
    obtain rfl : u = 0 := by simpa using hu
    simp only [metrolabref01_Of.l0]
    rw [if_neg (by omega)]
    simp only [Option.bind_some]
    rw [digit_str (d := 0) (by omega), if_pos (by rw [bytesA_size, bytesA_size]; simp; omega), bytesA_app, dec_zero]
    rfl
  | succ k ih =>
    intro u t hu ht hk
    by_cases h9 : u < 10
    · simp only [metrolabref01_Of.l0]
      rw [if_neg (by omega)]
      simp only [Option.bind_some]
      rw [digit_str h9, if_pos (by rw [bytesA_size, bytesA_size]; simp; omega), bytesA_app]
      have : Lib.decDigits u = [UInt8.ofNat (48 + u)] := by rw [Lib.decDigits, dif_pos h9]
      rw [this]
    · have e1 : Int.tmod (u : Int) 10 = ((u % 10 : Nat) : Int) := by rw [Int.tmod_eq_emod_of_nonneg (by omega)]; omega
      have e2 : wrap64 (Int.tdiv (u : Int) 10) = ((u / 10 : Nat) : Int) := by
        rw [Int.tdiv_eq_ediv_of_nonneg (by omega)]
        unfold wrap64; omega
      conv => lhs; unfold metrolabref01_Of.l0
      rw [if_pos (by omega)]
      simp only [Option.bind_some]
      rw [e1, digit_str (by omega), if_pos (by rw [bytesA_size, bytesA_size]; simp; omega), e2, bytesA_app]
      rw [ih (u / 10) ([UInt8.ofNat (48 + u % 10)] ++ t) (by rw [Nat.pow_succ] at hu; omega) (by simp; omega) (by omega)]
      have : Lib.decDigits u = Lib.decDigits (u / 10) ++ [UInt8.ofNat (48 + u % 10)] := by
        conv => lhs; rw [Lib.decDigits, dif_neg h9]
      rw [this, List.append_assoc]
theorem rOf_f (n : Nat) (h : n < 100000000) : metrolabref01_Of.f 12 (n : Int) = some (numA n) := by
  have hl := rOf_l0 9 n [] (by omega) (by simp) (by omega)
  have e : bytesA [] = (⟨#[]⟩ : ByteArray) := rfl
  rw [e, List.append_nil] at hl
  have hj : metrolabref01_Of.j0 11 (n : Int) false = some (numA n) := by
    unfold metrolabref01_Of.j0
    rw [if_neg (by simp), if_neg (by omega)]
    exact hl
  unfold metrolabref01_Of.f
  by_cases h0 : n = 0
  · subst h0
    rw [if_pos (by unfold wrap64; omega)]
    exact hj
  · rw [if_neg (by unfold wrap64; omega)]
    exact hj
theorem rOf_calls (n : Nat) (h : n < 100000000) (w : World) : Calls Tryz.prog 103 #[.int .i64 n] w fun e w' => e = .returned (.string (numA n)) ∧ Below w.heap.size w w' :=
  metrolabref01_Of.calls 12 n _ w (rOf_f n h)
set_option maxHeartbeats 1000000 in
set_option maxRecDepth 100000 in
theorem rparted_calls (m n : Nat) (hm : m < 100000000) (hn : n < 100000000) (h1 : 1 ≤ n) (w : World) :
    Calls Tryz.prog 124 #[.string (numA m), .string (numA n)] w fun e w' => e = .returned (.tuple #[.string (numA (m / n)), .string (numA (m % n))]) ∧ Below w.heap.size w w' := by
  have HM := Lib.hid hm
  have HN := Lib.hid hn
  obtain ⟨r, hr⟩ : ∃ r, m % n = r := ⟨_, rfl⟩
  obtain ⟨q, hq⟩ : ∃ q, m / n = q := ⟨_, rfl⟩
  have hrn : r < n := by rw [← hr]; exact Nat.mod_lt _ h1
  have hqm : q ≤ m := by rw [← hq]; exact Nat.div_le_self _ _
  have hrm : r ≤ m := by rw [← hr]; exact Nat.mod_le _ _
  have hsum : n * q + r = m := by rw [← hq, ← hr]; exact Nat.div_add_mod m n
  have t1 : Int.tmod (m : Int) (n : Int) = (r : Int) := by rw [Int.tmod_eq_emod_of_nonneg (by omega), ← hr]; exact (Int.natCast_emod m n).symm
  have t2 : (m : Int) % (n : Int) = (r : Int) := by rw [← hr]; exact (Int.natCast_emod m n).symm
  have hsub : ((m : Int) - (r : Int)) = ((m - r : Nat) : Int) := by omega
  have t3 : ((m : Int) - (r : Int)) / (n : Int) = (q : Int) := by
    rw [hsub, ← Int.natCast_ediv]
    have : (m - r) / n = q := by
      rw [show m - r = n * q by omega, Nat.mul_div_cancel_left _ h1]
    rw [this]
  have t4 : Int.tdiv ((m : Int) - (r : Int)) (n : Int) = (q : Int) := by
    rw [Int.tdiv_eq_ediv_of_nonneg (by omega)]; exact t3
  have hq8 : q < 100000000 := by omega
  have hr8 : r < 100000000 := by omega
  have hn0 : ¬ (n : Int) = 0 := by omega
  have HQ := Lib.hid hq8
  have HR := Lib.hid hr8
  rw [hr, hq]
  clear hr hq hsub hsum
  obtain ⟨a, ha⟩ : ∃ a, numA m = a := ⟨_, rfl⟩
  obtain ⟨b, hb⟩ : ∃ b, numA n = b := ⟨_, rfl⟩
  have HC := Lib.hid (show ∀ w : World, Calls Tryz.prog 150 #[.string a, .string b] w fun e w' => e = .returned (.tuple #[.int .i64 m, .int .i64 n, .bool true]) ∧ w = w' from by rw [← ha, ← hb]; exact rbrief_calls m n hm hn)
  rw [ha, hb]
  clear ha hb
  have c1 : decide ((r : Int) < 0) = false := decide_eq_false (by omega)
  have c2 : decide ((n : Int) < 0) = false := decide_eq_false (by omega)
  have hc3 : ((r : Int) != 0) = true ∨ ((r : Int) != 0) = false := by cases ((r : Int) != 0) <;> simp
  rcases hc3 with c3 | c3
  all_goals
    go_enter Tryz.func124, Tryz.ntmps124
    go_wp2_with (first
      | (go_at_call 150; (with_reducible refine (HC.out _).mono ?_); rintro e w' ⟨rfl, rfl⟩)
      | (go_at_call 103; (with_reducible refine (rOf_calls q HQ.out w).mono ?_); rintro e w1 ⟨rfl, hB1⟩; have HB1 := Lib.hid hB1; clear hB1)
      | (go_at_call 103; (with_reducible refine (rOf_calls r HR.out w1).mono ?_); rintro e w2 ⟨rfl, hB2⟩; have HB2 := Lib.hid (below_then HB1.out hB2); clear hB2))
    go_ret2
    exact ⟨rfl, HB2.out⟩
theorem numA_is_zero {n : Nat} (h : n < 100000000) : ((numA n).toList == [48]) = decide (n = 0) := by
  rw [toList_eq]
  have e : (numA n).data.toList = Lib.decDigits n := by simp [numA, bytesA]
  rw [e]
  by_cases h0 : n = 0
  · subst h0; rw [dec_zero]; rfl
  · rw [decide_eq_false h0, beq_eq_false_iff_ne]
    exact fun h1 => h0 ((dec_is_zero (by omega)).1 h1)
set_option maxHeartbeats 1000000 in
set_option maxRecDepth 100000 in
theorem rshared_calls (m n : Nat) (hm : m < 100000000) (hn : n < 100000000) (h1 : 1 ≤ n) (w : World) :
    Calls Tryz.prog 121 #[.string (numA m), .string (numA n)] w fun e w' => e = .returned (.string (numA (m.gcd n))) ∧ Below w.heap.size w w' := by
  have HM := Lib.hid hm
  have HN := Lib.hid hn
  have H1 := Lib.hid h1
  obtain ⟨g, hg⟩ : ∃ g, m.gcd n = g := ⟨_, rfl⟩
  have HG := Lib.hid hg
  have hg8 : g < 100000000 := Nat.lt_of_le_of_lt (by rw [← hg]; exact Nat.gcd_le_right m h1) hn
  have HG8 := Lib.hid hg8
  rw [hg]
  have b0 : ((numA n).toList == [48]) = false := by rw [numA_is_zero hn]; exact decide_eq_false (by omega)
  obtain ⟨a, ha⟩ : ∃ a, numA m = a := ⟨_, rfl⟩
  obtain ⟨b, hb⟩ : ∃ b, numA n = b := ⟨_, rfl⟩
  have HC := Lib.hid (show ∀ w : World, Calls Tryz.prog 150 #[.string a, .string b] w fun e w' => e = .returned (.tuple #[.int .i64 m, .int .i64 n, .bool true]) ∧ w = w' from by rw [← ha, ← hb]; exact rbrief_calls m n hm hn)
  have HA := Lib.hid (show Num a from ha ▸ numA_num hm)
  have HB := Lib.hid (show Num b from hb ▸ numA_num hn)
  rw [hb] at b0
  have b1 : (!b.toList == [48]) = true := by rw [b0]; rfl
  rw [ha, hb]
  clear ha hb hg hm hn h1 hg8
  go_enter Tryz.func121, Tryz.ntmps121
  go_wp2_with (first
    | (go_at_call 149; (with_reducible refine (rsize_calls a HA.out w).mono ?_); rintro e w' ⟨rfl, rfl⟩)
    | (go_at_call 149; (with_reducible refine (rsize_calls b HB.out w).mono ?_); rintro e w' ⟨rfl, rfl⟩)
    | (go_at_call 148; (with_reducible refine (rsigned_calls a w).mono ?_); rintro e w' ⟨rfl, rfl⟩)
    | (go_at_call 148; (with_reducible refine (rsigned_calls b w).mono ?_); rintro e w' ⟨rfl, rfl⟩))
  go_loop [0, 1] (fun u v => u = .string a ∧ v = .string b) (fun _ _ => 0)
  case atStart => exact ⟨rfl, rfl⟩
  case round =>
    obtain ⟨rfl, rfl⟩ := hrel
    go_wp2_with (first
      | (go_at_call 150; (with_reducible refine (HC.out _).mono ?_); rintro e w' ⟨rfl, rfl⟩))
    go_loopw [5, 6] (fun u v wr => ∃ x y : Nat, u = .int .i64 x ∧ v = .int .i64 y ∧ x < 100000000 ∧ y < 100000000 ∧ Hid (x.gcd y = g) ∧ Hid (Below w.heap.size w wr)) (fun _ v _ => (intOf v).toNat)
    case atStart => exact ⟨m, n, rfl, rfl, HM.out, HN.out, HG.out, Below.refl _ _⟩
    case round =>
      obtain ⟨x, y, rfl, rfl, hx, hy, hxy, hB⟩ := hrel
      by_cases h0 : y = 0
      · have hx : x = g := by rw [← hxy.out, h0, Nat.gcd_zero_right]
        subst hx
        have d0 : decide (0 < (y : Int)) = false := decide_eq_false (by omega)
        have d1 : decide (0 < y) = false := decide_eq_false (by omega)
        clear h0
        go_wp2_with (go_at_call 103; (with_reducible refine (rOf_calls x HG8.out wr).mono ?_); rintro e w2 ⟨rfl, hB2⟩; have HB2 := Lib.hid (below_then hB.out hB2); clear hB2)
        go_ret
        exact ⟨rfl, HB2.out⟩
      · have d0 : decide (0 < (y : Int)) = true := decide_eq_true (by omega)
        have d1 : decide (0 < y) = true := decide_eq_true (by omega)
        have t1 : Int.tmod (x : Int) (y : Int) = ((x % y : Nat) : Int) := by rw [Int.tmod_eq_emod_of_nonneg (by omega)]; exact (Int.natCast_emod x y).symm
        have hr : x % y < y := Nat.mod_lt _ (by omega)
        obtain ⟨r, hr0⟩ : ∃ r, x % y = r := ⟨_, rfl⟩
        rw [hr0] at t1 hr
        have hgc := Lib.hid (show y.gcd r = g by rw [← hr0, ← hxy.out, Nat.gcd_comm x y, Nat.gcd_rec y x, Nat.gcd_comm])
        have hy0 : ¬ (y : Int) = 0 := by omega
        have t2 : (x : Int) % (y : Int) = (r : Int) := by rw [← hr0]; exact (Int.natCast_emod x y).symm
        have HR := Lib.hid hr
        have HY := Lib.hid hy
        clear hr0 hr
        go_wp2
        go_quiet (fail)
        go_wp2
        go_roundw
        case rel => exact ⟨y, r, rfl, rfl, HY.out, by have := HR.out; have := HY.out; omega, hgc.out, pw_below_drewN hB.out _⟩
        case measure => have := HR.out; simp [intOf]; omega
set_option maxHeartbeats 1000000 in
set_option maxRecDepth 100000 in
theorem rlowest_calls (m n : Nat) (hm : m < 100000000) (hn : n < 100000000) (h1 : 1 ≤ n) (w : World) :
    Calls Tryz.prog 102 #[.string (numA m), .string (numA n)] w fun e w' => e = .returned (.string (bytesA (overL m n))) ∧ Below w.heap.size w w' := by
  obtain ⟨g, hg⟩ : ∃ g, m.gcd n = g := ⟨_, rfl⟩
  have hg1 : 1 ≤ g := by rw [← hg]; exact Nat.gcd_pos_of_pos_right m h1
  have hg8 : g < 100000000 := Nat.lt_of_le_of_lt (by rw [← hg]; exact Nat.gcd_le_right m h1) hn
  obtain ⟨p, hp⟩ : ∃ p, m / g = p := ⟨_, rfl⟩
  obtain ⟨q, hq⟩ : ∃ q, n / g = q := ⟨_, rfl⟩
  have hp8 : p < 100000000 := Nat.lt_of_le_of_lt (by rw [← hp]; exact Nat.div_le_self _ _) hm
  have hq8 : q < 100000000 := Nat.lt_of_le_of_lt (by rw [← hq]; exact Nat.div_le_self _ _) hn
  have HS := Lib.hid (hg ▸ rshared_calls m n hm hn h1 w)
  have HP := Lib.hid (show ∀ w : World, Calls Tryz.prog 124 #[.string (numA m), .string (numA g)] w fun e w' => ∃ s, e = .returned (.tuple #[.string (numA p), s]) ∧ Below w.heap.size w w' from fun w => (rparted_calls m g hm hg8 hg1 w).mono fun e w' ⟨h, hb⟩ => ⟨_, hp ▸ h, hb⟩)
  have HQ := Lib.hid (show ∀ w : World, Calls Tryz.prog 124 #[.string (numA n), .string (numA g)] w fun e w' => ∃ s, e = .returned (.tuple #[.string (numA q), s]) ∧ Below w.heap.size w w' from fun w => (rparted_calls n g hn hg8 hg1 w).mono fun e w' ⟨h, hb⟩ => ⟨_, hq ▸ h, hb⟩)
  have HBN := Lib.hid (show Num (numA n) from numA_num hn)
  have e0 : overL m n = joinL p q := by unfold overL joinL; rw [hg, hp, hq]
  rw [e0]
  have hq1 : ((numA q).toList == [49]) = decide (q = 1) := by
    rw [toList_eq, show (numA q).data.toList = Lib.decDigits q by simp [numA, bytesA]]
    by_cases h : q = 1
    · subst h; rw [dec_one]; rfl
    · rw [decide_eq_false h, beq_eq_false_iff_ne]; exact fun h2 => h ((dec_is_one (by omega)).1 h2)
  have s1 := (numA_num hp8).small
  have s2 := (numA_num hq8).small
  have g1 : ¬ 9223372036854775807 < (numA p).size + 1 := by omega
  have g2 : ¬ 9223372036854775807 < (numA p).size + 1 + (numA q).size := by omega
  have hres : joinL p q = if q = 1 then Lib.decDigits p else Lib.decDigits p ++ 47 :: Lib.decDigits q := rfl
  have hr1 := Lib.hid (show q = 1 → numA p = bytesA (joinL p q) from fun h => by subst h; rw [joinL_one]; rfl)
  have hr2 := Lib.hid (show q ≠ 1 → numA p ++ ⟨#[47]⟩ ++ numA q = bytesA (joinL p q) from fun h => by rw [joinL_ne h]; exact bytes_join _ _)
  clear hg hp hq e0 hres hm hn hg8 hp8 hq8 s1 s2 hg1 h1
  obtain ⟨x, hx⟩ : ∃ x, bytesA (joinL p q) = x := ⟨_, rfl⟩
  rw [hx] at hr1 hr2 ⊢
  clear hx
  obtain ⟨a, ha⟩ : ∃ a, numA m = a := ⟨_, rfl⟩
  obtain ⟨b, hb⟩ : ∃ b, numA n = b := ⟨_, rfl⟩
  obtain ⟨c, hc⟩ : ∃ c, numA g = c := ⟨_, rfl⟩
  obtain ⟨d, hd⟩ : ∃ d, numA p = d := ⟨_, rfl⟩
  obtain ⟨f, hf⟩ : ∃ f, numA q = f := ⟨_, rfl⟩
  rw [ha, hb, hc] at HS
  rw [ha, hc, hd] at HP
  rw [hb, hc, hf] at HQ
  rw [hb] at HBN
  rw [hf] at hq1 g2 hr2
  rw [hd] at g1 g2 hr1 hr2
  rw [ha, hb]
  clear ha hb hc hd hf
  by_cases h : q = 1
  · rw [decide_eq_true h] at hq1
    have HE := Lib.hid (hr1.out h)
    clear h hr1 hr2
    go_enter Tryz.func102, Tryz.ntmps102
    go_wp2_with (first
      | (go_at_call 121; (with_reducible refine HS.out.mono ?_); rintro e w1 ⟨rfl, hB1⟩; have HB1 := Lib.hid hB1; clear hB1)
      | (go_at_call 122; (with_reducible refine (rbelow_calls b HBN.out w1).mono ?_); rintro e w' ⟨rfl, rfl⟩)
      | (go_at_call 124; (with_reducible refine (HP.out w1).mono ?_); rintro e w2 ⟨v2, rfl, hB2⟩; have HB2 := Lib.hid (below_then HB1.out hB2); clear hB2)
      | (go_at_call 124; (with_reducible refine (HQ.out w2).mono ?_); rintro e w3 ⟨v3, rfl, hB3⟩; have HB3 := Lib.hid (below_then HB2.out hB3); clear hB3))
    go_ret
    exact ⟨by rw [← HE.out]; rfl, HB3.out⟩
  · rw [decide_eq_false h] at hq1
    have HE := Lib.hid (hr2.out h)
    clear h hr1 hr2
    go_enter Tryz.func102, Tryz.ntmps102
    go_wp2_with (first
      | (go_at_call 121; (with_reducible refine HS.out.mono ?_); rintro e w1 ⟨rfl, hB1⟩; have HB1 := Lib.hid hB1; clear hB1)
      | (go_at_call 122; (with_reducible refine (rbelow_calls b HBN.out w1).mono ?_); rintro e w' ⟨rfl, rfl⟩)
      | (go_at_call 124; (with_reducible refine (HP.out w1).mono ?_); rintro e w2 ⟨v2, rfl, hB2⟩; have HB2 := Lib.hid (below_then HB1.out hB2); clear hB2)
      | (go_at_call 124; (with_reducible refine (HQ.out w2).mono ?_); rintro e w3 ⟨v3, rfl, hB3⟩; have HB3 := Lib.hid (below_then HB2.out hB3); clear hB3))
    go_ret
    exact ⟨by rw [← HE.out]; rfl, HB3.out⟩
set_option maxHeartbeats 1000000 in
set_option maxRecDepth 100000 in
theorem rover_calls (m n : Nat) (hm : m < 100000000) (hn : n < 100000000) (h1 : 1 ≤ n) (w : World) :
    Calls Tryz.prog 58 #[.int .i64 m, .int .i64 n] w fun e w' => e = .returned (.string (bytesA (overL m n))) ∧ Below w.heap.size w w' := by
  have HM := Lib.hid hm
  have HN := Lib.hid hn
  have HL := Lib.hid (rlowest_calls m n hm hn h1)
  clear hm hn h1
  go_enter Tryz.func58, Tryz.ntmps58
  go_wp2_with (first
    | (go_at_call 103; (with_reducible refine (rOf_calls m HM.out w).mono ?_); rintro e w1 ⟨rfl, hB1⟩; have HB1 := Lib.hid hB1; clear hB1)
    | (go_at_call 103; (with_reducible refine (rOf_calls n HN.out w1).mono ?_); rintro e w2 ⟨rfl, hB2⟩; have HB2 := Lib.hid (below_then HB1.out hB2); clear hB2)
    | (go_at_call 102; (with_reducible refine (HL.out w2).mono ?_); rintro e w3 ⟨rfl, hB3⟩; have HB3 := Lib.hid (below_then HB2.out hB3); clear hB3))
  go_ret
  exact ⟨rfl, HB3.out⟩
end Go.Proofs.YtdgipencedlbmaaGreatDoor.Pr
