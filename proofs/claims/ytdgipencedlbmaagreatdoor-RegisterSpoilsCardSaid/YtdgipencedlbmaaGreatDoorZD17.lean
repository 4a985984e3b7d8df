/- The small functions of the laws: lots, FewLots, Same, slices.Equal, Seven. -/
import Derived.Test.YtdgipencedlbmaaGreatDoorZD02
import Derived.Test.YtdgipencedlbmaaGreatDoorZD16
namespace Go.Proofs.YtdgipencedlbmaaGreatDoor.Pr
open Go.RowKit Go.Proofs.YtdgipencedlbmaaGreatDoorW.PrintWords Go.Proofs.YtdgipencedlbmaaGreatDoorW.PrintLast Go.Proofs.YtdgipencedlbmaaGreatDoorW.PrintMore
attribute [local go_sem] max2_int min2_int max_two min_two max_three min_three max_four min_four   -- for this text's walks alone
set_option linter.unusedVariables false
set_option linter.unusedSimpArgs false
mutual
def metrolabref56_FewLots.j0 : Nat → List (S84) → Bool → Option (Bool)
  | 0, _, _ => none
  | k + 1, x0, x16 => if x16 = true then (some false) else (metrolabref56_FewLots.l0 k x0 0)
def metrolabref56_FewLots.l0 : Nat → List (S84) → Int → Option (Bool)
  | 0, _, _ => none
  | k + 1, x0, x3 => if x3 < (x0.length : Int) then (if 0 ≤ x3 then (if (((rd_T84 x0 x3).f0).size : Int) > 60 then (some false) else (metrolabref56_FewLots.l0 k x0 (wrap64 (x3 + 1)))) else (none)) else (some true)
end
def metrolabref56_FewLots.f (k : Nat) (l0 : List (S84)) : Option (Bool) := if (l0.length : Int) > 10 then (if (l0.length : Int) < 256 then (metrolabref56_FewLots.j0 k l0 true) else (metrolabref56_FewLots.j0 k l0 (decide ((l0.length : Int) > 512)))) else (metrolabref56_FewLots.j0 k l0 (decide ((l0.length : Int) > 512)))
theorem metrolabref56_FewLots.mono_l : ∀ k, (∀ y0 y1, LeO (metrolabref56_FewLots.j0 k y0 y1) (metrolabref56_FewLots.j0 (k + 1) y0 y1)) ∧ (∀ y0 y1, LeO (metrolabref56_FewLots.l0 k y0 y1) (metrolabref56_FewLots.l0 (k + 1) y0 y1))
  | 0 => ⟨fun _ _ r h => by simp [metrolabref56_FewLots.j0] at h, fun _ _ r h => by simp [metrolabref56_FewLots.l0] at h⟩
  | k + 1 => by
    obtain ⟨ih0, ih1⟩ := metrolabref56_FewLots.mono_l k
    refine ⟨?_, ?_⟩
    · intro y0 y1
      unfold metrolabref56_FewLots.j0
      repeat' first
      | (with_reducible exact ih0 _ _)
      | (with_reducible exact ih1 _ _)
      | (with_reducible exact LeO.refl _)
      | (with_reducible exact LeO.none _)
      | (with_reducible refine LeO.ite ?_ ?_)
      | (with_reducible refine LeO.bind ?_ (fun _ => ?_))
      | exact ih0 _ _
      | exact ih1 _ _
      | exact LeO.none _
      | refine LeO.ite ?_ ?_
      | refine LeO.bind ?_ (fun _ => ?_)
    · intro y0 y1
      unfold metrolabref56_FewLots.l0
      repeat' first
      | (with_reducible exact ih0 _ _)
      | (with_reducible exact ih1 _ _)
      | (with_reducible exact LeO.refl _)
      | (with_reducible exact LeO.none _)
      | (with_reducible refine LeO.ite ?_ ?_)
      | (with_reducible refine LeO.bind ?_ (fun _ => ?_))
      | exact ih0 _ _
      | exact ih1 _ _
      | exact LeO.none _
      | refine LeO.ite ?_ ?_
      | refine LeO.bind ?_ (fun _ => ?_)
theorem metrolabref56_FewLots.mono : ∀ a0 k, LeO (metrolabref56_FewLots.f k a0) (metrolabref56_FewLots.f (k + 1) a0) := by
  intro a0 k
  obtain ⟨ih0, ih1⟩ := metrolabref56_FewLots.mono_l k
  unfold metrolabref56_FewLots.f
  repeat' first
      | (with_reducible exact ih0 _ _)
      | (with_reducible exact ih1 _ _)
      | (with_reducible exact LeO.refl _)
      | (with_reducible exact LeO.none _)
      | (with_reducible refine LeO.ite ?_ ?_)
      | (with_reducible refine LeO.bind ?_ (fun _ => ?_))
      | exact ih0 _ _
      | exact ih1 _ _
      | exact LeO.none _
      | refine LeO.ite ?_ ?_
      | refine LeO.bind ?_ (fun _ => ?_)
set_option maxHeartbeats 8000000 in
set_option maxRecDepth 100000 in
theorem metrolabref56_FewLots.calls (k : Nat) (A0 : Option Addr) (c0 : Nat) (l0 : List (S84)) (r : Bool) (w : World) (hr0 : Kd.C k84 w A0 l0.length l0) (hc0 : l0.length ≤ c0) (h : metrolabref56_FewLots.f k l0 = some r) :
    Calls Tryz.prog 13 #[.slice A0 l0.length c0] w fun e w' => e = .returned (.bool r) ∧ Drawn0 w w' := by
  have HR0 := Aside0.mk hr0
  have HC0 := Aside0.mk hc0
  clear hr0 hc0
  have H : (if (l0.length : Int) > 10 then (if (l0.length : Int) < 256 then (metrolabref56_FewLots.j0 k l0 true) else (metrolabref56_FewLots.j0 k l0 (decide ((l0.length : Int) > 512)))) else (metrolabref56_FewLots.j0 k l0 (decide ((l0.length : Int) > 512)))) = some r := h
  clear h
  have HC2 := Aside0.mk H
  clear H
  go_enter Tryz.func13, Tryz.ntmps13
  go_upto_region 1 with (fail)
  go_cut [16] (fun v16 wc => ∃ (kq : Nat) (x16_1 : Bool), v16 = .bool x16_1 ∧ Aside0 (metrolabref56_FewLots.j0 kq l0 x16_1 = some r) ∧ Aside0 (kq ≤ k) ∧ Drawn0 w wc)
  case first =>
    have H := HC2.out
    clear HC2
    by_cases c3 : (l0.length : Int) > 10
    · rw [if_pos c3] at H
      have c3b0 : decide (10 < (l0.length : Int)) = true := decide_eq_true c3
      have c3b1 : decide (10 < l0.length) = true := decide_eq_true (by omega)
      clear c3
      (first | rw [c3b0] | (simp only [i64_w, i32_w]; rw [c3b0]) | skip)
      by_cases c4 : (l0.length : Int) < 256
      · rw [if_pos c4] at H
        have c4b0 : decide ((l0.length : Int) < 256) = true := decide_eq_true c4
        have c4b1 : decide (l0.length < 256) = true := decide_eq_true (by omega)
        clear c4
        have H' := Aside0.mk H
        clear H
        go_wp2
        go_meet
        case rel => exact ⟨_, (true), (by first | rfl | (simp; done) | (simp [*]; done)), H', ⟨by first | omega | exact Nat.le_refl _⟩, by repeat (first | exact Drawn0.refl _ | apply Drawn0.step)⟩
      · rw [if_neg c4] at H
        have c4b0 : decide ((l0.length : Int) < 256) = false := decide_eq_false c4
        have c4b1 : decide (l0.length < 256) = false := decide_eq_false (by omega)
        clear c4
        have H' := Aside0.mk H
        clear H
        go_wp2
        go_meet
        case rel => exact ⟨_, (decide ((l0.length : Int) > 512)), (by first | rfl | (simp; done) | (simp [*]; done)), H', ⟨by first | omega | exact Nat.le_refl _⟩, by repeat (first | exact Drawn0.refl _ | apply Drawn0.step)⟩
    · rw [if_neg c3] at H
      have c3b0 : decide (10 < (l0.length : Int)) = false := decide_eq_false c3
      have c3b1 : decide (10 < l0.length) = false := decide_eq_false (by omega)
      clear c3
      (first | rw [c3b0] | (simp only [i64_w, i32_w]; rw [c3b0]) | skip)
      have H' := Aside0.mk H
      clear H
      go_wp2
      go_meet
      case rel => exact ⟨_, (decide ((l0.length : Int) > 512)), (by first | rfl | (simp; done) | (simp [*]; done)), H', ⟨by first | omega | exact Nat.le_refl _⟩, by repeat (first | exact Drawn0.refl _ | apply Drawn0.step)⟩
  case rest =>
    clear HC2
    try clear c1
    try clear p2
    try clear c3
    try clear c3b0
    try clear c3b1
    try clear c4
    try clear c4b0
    try clear c4b1
    obtain ⟨kq, x16_1, rfl, HA, HJ1, ⟨mc1, rfl⟩⟩ := hcut
    cases kq with
    | zero => exact absurd HA.out (by simp [metrolabref56_FewLots.j0])
    | succ kj1 =>
      have H := HA.out
      clear HA
      simp only [metrolabref56_FewLots.j0] at H
      by_cases c5 : x16_1 = true
      · subst c5
        have H1 : (some false) = some r := by rw [if_pos rfl] at H; exact H
        clear H
        have H := H1
        clear H1
        obtain rfl := Option.some.inj H
        go_wp2
        go_ret
        exact ⟨by first | rfl | (simp; done) | (simp [*]; done), by repeat (first | exact Drawn0.refl _ | apply Drawn0.step)⟩
      · replace c5 := Bool.eq_false_iff.mpr c5
        subst c5
        have H1 : (metrolabref56_FewLots.l0 kj1 l0 0) = some r := by rw [if_neg (show ¬ (false = true) by decide)] at H; exact H
        clear H
        have H := H1
        clear H1
        have H' := Aside0.mk H
        clear H
        go_wp2
        go_loopg [3] kj1 (fun kq v3 w' => ∃ (x3_2 : Int), v3 = .int .i64 x3_2 ∧ Aside0 (metrolabref56_FewLots.l0 kq l0 x3_2 = some r) ∧ Aside0 (kq ≤ kj1) ∧ Drawn0 w w')
        case atStart => exact ⟨(0), (by first | rfl | (simp; done) | (simp [*]; done)), H', ⟨Nat.le_refl _⟩, by repeat (first | exact Drawn0.refl _ | apply Drawn0.step)⟩
        case round =>
          clear H'
          try clear c1
          try clear p2
          try clear c3
          try clear c3b0
          try clear c3b1
          try clear c4
          try clear c4b0
          try clear c4b1
          try clear c5
          try clear p2
          obtain ⟨x3_2, rfl, HA, HK2, ⟨m2, rfl⟩⟩ := hrel
          cases gk with
          | zero => exact absurd HA.out (by simp [metrolabref56_FewLots.l0])
          | succ k2 =>
            have H := HA.out
            clear HA
            simp only [metrolabref56_FewLots.l0] at H
            by_cases c6 : x3_2 < (l0.length : Int)
            · rw [if_pos c6] at H
              have c6b0 : decide (x3_2 < (l0.length : Int)) = true := decide_eq_true c6
              clear c6
              by_cases c7 : 0 ≤ x3_2
              · rw [if_pos c7] at H
                have c7b0 : decide (0 ≤ x3_2) = true := decide_eq_true c7
                clear c7
                by_cases c8 : (((rd_T84 l0 x3_2).f0).size : Int) > 60
                · rw [if_pos c8] at H
                  have c8b0 : decide (60 < (((rd_T84 l0 x3_2).f0).size : Int)) = true := decide_eq_true c8
                  have c8b1 : decide (60 < ((rd_T84 l0 x3_2).f0).size) = true := decide_eq_true (by omega)
                  clear c8
                  obtain rfl := Option.some.inj H
                  have p101 : 0 ≤ (x3_2 : Int) := of_decide_eq_true (by first | (with_reducible assumption) | assumption)
                  have q101 : x3_2 < (l0.length : Int) := of_decide_eq_true (by first | (with_reducible assumption) | assumption)
                  obtain ⟨ad101, e101, hx101_0, hx101_1, hx101_2, hx101_3, hx101_4, hx101_5, hx101_6⟩ := at_T84 HR0.out x3_2 p101 q101
                  cases e101
                  replace p101 := eq_true p101
                  replace q101 := eq_true q101
                  go_wp2
                  go_ret
                  exact ⟨by first | rfl | (simp; done) | (simp [*]; done), by repeat (first | exact Drawn0.refl _ | apply Drawn0.step)⟩
                · rw [if_neg c8] at H
                  have c8b0 : decide (60 < (((rd_T84 l0 x3_2).f0).size : Int)) = false := decide_eq_false c8
                  have c8b1 : decide (60 < ((rd_T84 l0 x3_2).f0).size) = false := decide_eq_false (by omega)
                  clear c8
                  have H' := Aside0.mk H
                  clear H
                  have p101 : 0 ≤ (x3_2 : Int) := of_decide_eq_true (by first | (with_reducible assumption) | assumption)
                  have q101 : x3_2 < (l0.length : Int) := of_decide_eq_true (by first | (with_reducible assumption) | assumption)
                  obtain ⟨ad101, e101, hx101_0, hx101_1, hx101_2, hx101_3, hx101_4, hx101_5, hx101_6⟩ := at_T84 HR0.out x3_2 p101 q101
                  cases e101
                  replace p101 := eq_true p101
                  replace q101 := eq_true q101
                  go_wp2
                  go_roundg k2
                  case measure => have := HJ1.out; have := HK2.out; omega
                  case rel => exact ⟨(wrap64 (x3_2 + 1)), (by first | rfl | (simp; done) | (simp [*]; done)), H', ⟨by have := HJ1.out; have := HK2.out; omega⟩, by repeat (first | exact Drawn0.refl _ | apply Drawn0.step)⟩
              · rw [if_neg c7] at H
                exact absurd H (by simp)
            · rw [if_neg c6] at H
              have c6b0 : decide (x3_2 < (l0.length : Int)) = false := decide_eq_false c6
              clear c6
              obtain rfl := Option.some.inj H
              go_wp2
              go_ret
              exact ⟨by first | rfl | (simp; done) | (simp [*]; done), by repeat (first | exact Drawn0.refl _ | apply Drawn0.step)⟩
end Go.Proofs.YtdgipencedlbmaaGreatDoor.Pr
namespace Go.Proofs.YtdgipencedlbmaaGreatDoor.Pr
open Go.RowKit Go.Proofs.YtdgipencedlbmaaGreatDoorW.PrintWords Go.Proofs.YtdgipencedlbmaaGreatDoorW.PrintLast Go.Proofs.YtdgipencedlbmaaGreatDoorW.PrintMore
attribute [local go_sem] max2_int min2_int max_two min_two max_three min_three max_four min_four   -- for this text's walks alone
set_option linter.unusedVariables false
set_option linter.unusedSimpArgs false
def metrolablaw56_lots.l0 : Nat → List (S84) → List (S57) → Int → Int → Option ((List (S84)))
  | 0, _, _, _, _ => none
  | k + 1, x3, x6, x7, x8 => if x8 < x7 then (if 0 ≤ x8 then (if x8 < (x6.length : Int) then (if x3.length < 2199023255552 then (metrolablaw56_lots.l0 k (x3 ++ [(⟨(rd_T57 x6 x8).f0, (rd_T57 x6 x8).f1, (rd_T57 x6 x8).f2, (rd_T57 x6 x8).f3, (rd_T57 x6 x8).f4, (rd_T57 x6 x8).f5, (rd_T57 x6 x8).f6⟩ : S84)]) x6 x7 (wrap64 (x8 + 1))) else (none)) else (none)) else (none)) else (some x3)
def metrolablaw56_lots.f (k : Nat) (l0 : List (S57)) : Option ((List (S84))) := metrolablaw56_lots.l0 k ([] : List (S84)) l0 (l0.length : Int) 0
theorem metrolablaw56_lots.mono_l : ∀ k, (∀ y0 y1 y2 y3, LeO (metrolablaw56_lots.l0 k y0 y1 y2 y3) (metrolablaw56_lots.l0 (k + 1) y0 y1 y2 y3))
  | 0 => fun _ _ _ _ r h => by simp [metrolablaw56_lots.l0] at h
  | k + 1 => by
    have ih0 := metrolablaw56_lots.mono_l k
    · intro y0 y1 y2 y3
      unfold metrolablaw56_lots.l0
      repeat' first
      | (with_reducible exact ih0 _ _ _ _)
      | (with_reducible exact LeO.refl _)
      | (with_reducible exact LeO.none _)
      | (with_reducible refine LeO.ite ?_ ?_)
      | (with_reducible refine LeO.bind ?_ (fun _ => ?_))
      | exact ih0 _ _ _ _
      | exact LeO.none _
      | refine LeO.ite ?_ ?_
      | refine LeO.bind ?_ (fun _ => ?_)
theorem metrolablaw56_lots.mono : ∀ a0 k, LeO (metrolablaw56_lots.f k a0) (metrolablaw56_lots.f (k + 1) a0) := by
  intro a0 k
  have ih0 := metrolablaw56_lots.mono_l k
  unfold metrolablaw56_lots.f
  repeat' first
      | (with_reducible exact ih0 _ _ _ _)
      | (with_reducible exact LeO.refl _)
      | (with_reducible exact LeO.none _)
      | (with_reducible refine LeO.ite ?_ ?_)
      | (with_reducible refine LeO.bind ?_ (fun _ => ?_))
      | exact ih0 _ _ _ _
      | exact LeO.none _
      | refine LeO.ite ?_ ?_
      | refine LeO.bind ?_ (fun _ => ?_)
set_option maxHeartbeats 8000000 in
set_option maxRecDepth 100000 in
theorem metrolablaw56_lots.calls (k : Nat) (A0 : Option Addr) (c0 : Nat) (l0 : List (S57)) (r : List (S84)) (w : World) (hr0 : Kd.C k57 w A0 l0.length l0) (hc0 : l0.length ≤ c0) (h : metrolablaw56_lots.f k l0 = some r) :
    Calls Tryz.prog 14 #[.slice A0 l0.length c0] w fun e w' => ∃ v0_ : Value, e = .returned (v0_) ∧ Kd.R k84 84 w' w.heap.size (fun _ => True) v0_ r ∧ Below w.heap.size w w' := by
  have hu57 := Tryz.underlying57
  have HR0 := Aside0.mk hr0
  have HC0 := Aside0.mk hc0
  clear hr0 hc0
  have HB := Aside0.mk (Below.refl w.heap.size w)
  have H : (metrolablaw56_lots.l0 k ([] : List (S84)) l0 (l0.length : Int) 0) = some r := h
  clear h
  have H' := Aside0.mk H
  clear H
  go_enter Tryz.func14, Tryz.ntmps14
  go_wp2
  go_loopg [3, 8] k (fun kq v3 v8 w' => ∃ (x3_1 : List (S84)) (x8_1 : Int), v8 = .int .i64 x8_1 ∧ Aside0 (metrolablaw56_lots.l0 kq x3_1 l0 (l0.length : Int) x8_1 = some r) ∧ Aside0 (kq ≤ k) ∧ Aside0 (Kd.R k84 84 w' w.heap.size (fun _ => True) v3 x3_1) ∧ Aside0 (Below w.heap.size w w'))
  case atStart => exact ⟨(([] : List (S84))), (0), (by first | rfl | (simp; done) | (simp [*]; done)), H', ⟨Nat.le_refl _⟩, ⟨by first | exact Kd.R_nil _ _ _ _ _ | exact Kd.N_nil _ _ _ _ _ | exact Kd.V_nil _ _ _ _ _ | exact Kd.Q_nil _ _ _ _ _ | exact Kd.S_nil _ _ _ _ _⟩, ⟨by repeat (first | (with_reducible first | exact HB.out | apply below_alloc | apply pw_below_drewN | apply below_drew1) | exact HB.out)⟩⟩
  case round =>
    clear H'
    try clear c1
    obtain ⟨x3_1, x8_1, rfl, HA, HK1, HO_3, HB⟩ := hrel
    cases gk with
    | zero => exact absurd HA.out (by simp [metrolablaw56_lots.l0])
    | succ k1 =>
      have H := HA.out
      clear HA
      simp only [metrolablaw56_lots.l0] at H
      by_cases c2 : x8_1 < (l0.length : Int)
      · rw [if_pos c2] at H
        have c2b0 : decide (x8_1 < (l0.length : Int)) = true := decide_eq_true c2
        clear c2
        by_cases c3 : 0 ≤ x8_1
        · rw [if_pos c3] at H
          have c3b0 : decide (0 ≤ x8_1) = true := decide_eq_true c3
          clear c3
          by_cases c4 : x8_1 < (l0.length : Int)
          · rw [if_pos c4] at H
            have c4b0 : decide (x8_1 < (l0.length : Int)) = true := decide_eq_true c4
            clear c4
            by_cases c5 : x3_1.length < 2199023255552
            · rw [if_pos c5] at H
              have LMc5 := Aside0.mk c5
              clear c5
              obtain ⟨y104, hy104⟩ : ∃ y_ : List (S84), y_ = (x3_1 ++ [(⟨(rd_T57 l0 x8_1).f0, (rd_T57 l0 x8_1).f1, (rd_T57 l0 x8_1).f2, (rd_T57 l0 x8_1).f3, (rd_T57 l0 x8_1).f4, (rd_T57 l0 x8_1).f5, (rd_T57 l0 x8_1).f6⟩ : S84)]) := ⟨_, rfl⟩
              replace H : (metrolablaw56_lots.l0 k1 y104 l0 (l0.length : Int) (wrap64 (x8_1 + 1))) = some r := by first | (rw [hy104]; with_reducible exact H) | (have H2_ := (Option.bind_some _ _).symm.trans H; rw [hy104]; with_reducible exact H2_) | (have H2_ := (Option.bind_some _ _).symm.trans H; with_reducible exact H2_) | with_reducible exact H | (rw [hy104]; exact H) | exact H
              have Ny104 := Aside0.mk hy104
              clear hy104
              have H' := Aside0.mk H
              clear H
              have p102 : 0 ≤ (x8_1 : Int) := of_decide_eq_true (by first | (with_reducible assumption) | assumption)
              have q102 : x8_1 < (l0.length : Int) := of_decide_eq_true (by first | (with_reducible assumption) | assumption)
              obtain ⟨ad102, e102, hx102_0, hx102_1, hx102_2, hx102_3, hx102_4, hx102_5, hx102_6⟩ := at_T57 HR0.out x8_1 p102 q102
              cases e102
              replace hx102_0 := (HB.out.cell (World.block_lt_of_cell? w _ hx102_0)).trans hx102_0
              replace hx102_1 := (HB.out.cell (World.block_lt_of_cell? w _ hx102_1)).trans hx102_1
              replace hx102_2 := (HB.out.cell (World.block_lt_of_cell? w _ hx102_2)).trans hx102_2
              replace hx102_3 := (HB.out.cell (World.block_lt_of_cell? w _ hx102_3)).trans hx102_3
              replace hx102_4 := (HB.out.cell (World.block_lt_of_cell? w _ hx102_4)).trans hx102_4
              replace hx102_5 := (HB.out.cell (World.block_lt_of_cell? w _ hx102_5)).trans hx102_5
              replace hx102_6 := (HB.out.cell (World.block_lt_of_cell? w _ hx102_6)).trans hx102_6
              replace p102 := eq_true p102
              replace q102 := eq_true q102
              go_wp2_with (first | ((with_reducible refine gate_dst (N := 5) rfl ?_); refine box_event ?hg (N := 5) ?hd (cs := #[.string (⟨#[]⟩ : ByteArray), .int .i64 0, .int .i64 0, .int .i64 0, .int .i64 0, .int .i64 0, .int .i64 0]) (t := 57) ?hr ?_; (case hd => rfl); (case hg => rfl); (case hr => first | (go_simp; done) | (go_simp; rfl)); intro gb103 hg w6 hbox hb; have n0_ := Aside0.mk (Kd.R_below (by (with_reducible repeat (first | apply Kd.R_alloc | apply Kd.R_drewN | apply Kd.R_drew)); exact HO_3.out) hb); have n1_ := Aside0.mk (below_step (by repeat (first | (with_reducible first | exact HB.out | apply below_alloc | apply pw_below_drewN | apply below_drew1) | exact HB.out)) hb); have n2_ := Aside0.mk (hbox); have n3_ := Aside0.mk ((by rw [hg]; exact (below_size (by repeat (first | (with_reducible first | exact HB.out | apply below_alloc | apply pw_below_drewN | apply below_drew1) | exact HB.out))) : w.heap.size ≤ gb103)); have n4_ := Aside0.mk ((by rw [hg]; exact (below_size (by repeat (first | (with_reducible first | exact HB.out | apply below_alloc | apply pw_below_drewN | apply below_drew1) | exact HB.out))) : w.heap.size ≤ gb103)); clear HO_3; clear HB; have HO_3 := n0_; have HB := n1_; have BK103 := n2_; have GW103 := n3_; have GE103 := n4_; clear n0_ n1_ n2_ n3_ n4_; clear hb hbox hg; have hcz7_0 : w6.cell? ⟨gb103, 0, none⟩ = some (.string (⟨#[]⟩ : ByteArray)) := (blk_cell BK103.out 0).trans rfl; have hcz7_1 : w6.cell? ⟨gb103, 1, none⟩ = some (.int .i64 0) := (blk_cell BK103.out 1).trans rfl; have hcz7_2 : w6.cell? ⟨gb103, 2, none⟩ = some (.int .i64 0) := (blk_cell BK103.out 2).trans rfl; have hcz7_3 : w6.cell? ⟨gb103, 3, none⟩ = some (.int .i64 0) := (blk_cell BK103.out 3).trans rfl; have hcz7_4 : w6.cell? ⟨gb103, 4, none⟩ = some (.int .i64 0) := (blk_cell BK103.out 4).trans rfl; have hcz7_5 : w6.cell? ⟨gb103, 5, none⟩ = some (.int .i64 0) := (blk_cell BK103.out 5).trans rfl; have hcz7_6 : w6.cell? ⟨gb103, 6, none⟩ = some (.int .i64 0) := (blk_cell BK103.out 6).trans rfl; have hfz7_0 := blk_frozen BK103.out 0; have hfz7_1 := blk_frozen BK103.out 1; have hfz7_2 := blk_frozen BK103.out 2; have hfz7_3 := blk_frozen BK103.out 3; have hfz7_4 := blk_frozen BK103.out 4; have hfz7_5 := blk_frozen BK103.out 5; have hfz7_6 := blk_frozen BK103.out 6) | ((with_reducible refine gate_builtin (b := .append) (xs := #[.tmp 12, .tmp 14]) rfl ?_); at_builtin; refine Kd.R_append k84 (w0 := w) w.heap.size rfl (.tmp 12) (.tmp 14) 26 84 (.agg #[(.string ⟨#[]⟩), (.int .i64 0), (.int .i64 0), (.int .i64 0), (.int .i64 0), (.int .i64 0), (.int .i64 0)]) 64 rfl Tryz.underlying26 info84 rfl (by decide) (by omega) u3 x3_1 (⟨(rd_T57 l0 x8_1).f0, (rd_T57 l0 x8_1).f1, (rd_T57 l0 x8_1).f2, (rd_T57 l0 x8_1).f3, (rd_T57 l0 x8_1).f4, (rd_T57 l0 x8_1).f5, (rd_T57 l0 x8_1).f6⟩ : S84) [.string ((rd_T57 l0 x8_1).f0), .int .i64 ((rd_T57 l0 x8_1).f1), .int .i64 ((rd_T57 l0 x8_1).f2), .int .i64 ((rd_T57 l0 x8_1).f3), .int .i64 ((rd_T57 l0 x8_1).f4), .int .i64 ((rd_T57 l0 x8_1).f5), .int .i64 ((rd_T57 l0 x8_1).f6)] (fun _ => True) (fun _ => False) rfl (by first | (go_simp; done) | (go_simp; rfl)) ?aP (fun _ hk => hk.elim) ?aF ?aO ?aB ?aS ?aL ?_; (case aP => exact k84_mkM _ _ _ (⟨(rd_T57 l0 x8_1).f0, (rd_T57 l0 x8_1).f1, (rd_T57 l0 x8_1).f2, (rd_T57 l0 x8_1).f3, (rd_T57 l0 x8_1).f4, (rd_T57 l0 x8_1).f5, (rd_T57 l0 x8_1).f6⟩ : S84)); (case aB => exact (by repeat (first | (with_reducible first | exact HB.out | apply below_alloc | apply pw_below_drewN | apply below_drew1 | refine below_set ?_ GE103.out) | exact HB.out))); (case aF => exact (fun _ _ => trivial)); (case aO => exact (by (with_reducible repeat (first | apply Kd.R_alloc | apply Kd.R_drewN | apply Kd.R_drew)); exact Kd.R_mono (Kd.R_far (p := ⟨gb103, 6, none⟩) (Kd.R_far (p := ⟨gb103, 5, none⟩) (Kd.R_far (p := ⟨gb103, 4, none⟩) (Kd.R_far (p := ⟨gb103, 3, none⟩) (Kd.R_far (p := ⟨gb103, 2, none⟩) (Kd.R_far (p := ⟨gb103, 1, none⟩) (Kd.R_far (p := ⟨gb103, 0, none⟩) (Kd.R_types HO_3.out BK103.out (by decide)) (fun _ hk => hk.2) (.string ((rd_T57 l0 x8_1).f0))) (fun _ hk => hk.2) (.int .i64 ((rd_T57 l0 x8_1).f1))) (fun _ hk => hk.2) (.int .i64 ((rd_T57 l0 x8_1).f2))) (fun _ hk => hk.2) (.int .i64 ((rd_T57 l0 x8_1).f3))) (fun _ hk => hk.2) (.int .i64 ((rd_T57 l0 x8_1).f4))) (fun _ hk => hk.2) (.int .i64 ((rd_T57 l0 x8_1).f5))) (fun _ hk => hk.2) (.int .i64 ((rd_T57 l0 x8_1).f6))) (fun _ hk => trivial))); (case aS => exact (below_size (by repeat (first | (with_reducible first | exact HB.out | apply below_alloc | apply pw_below_drewN | apply below_drew1 | refine below_set ?_ GE103.out) | exact HB.out)))); (case aL => have := LMc5.out; omega); intro v105 w8 ho hb hg hat; rw [← Ny104.out] at ho; have n0_ := Aside0.mk (blk_grown (g := gb103) (o := .cells #[.string ((rd_T57 l0 x8_1).f0), .int .i64 ((rd_T57 l0 x8_1).f1), .int .i64 ((rd_T57 l0 x8_1).f2), .int .i64 ((rd_T57 l0 x8_1).f3), .int .i64 ((rd_T57 l0 x8_1).f4), .int .i64 ((rd_T57 l0 x8_1).f5), .int .i64 ((rd_T57 l0 x8_1).f6)] 57 (0, 0)) (by (with_reducible repeat (first | refine blk_drewN ?_ _ | refine blk_drew ?_ | refine blk_alloc ?_ _)); refine blk_put (cs := #[.string ((rd_T57 l0 x8_1).f0), .int .i64 ((rd_T57 l0 x8_1).f1), .int .i64 ((rd_T57 l0 x8_1).f2), .int .i64 ((rd_T57 l0 x8_1).f3), .int .i64 ((rd_T57 l0 x8_1).f4), .int .i64 ((rd_T57 l0 x8_1).f5), .int .i64 0]) ?_ 6 _ rfl; (with_reducible repeat (first | refine blk_drewN ?_ _ | refine blk_drew ?_ | refine blk_alloc ?_ _)); refine blk_put (cs := #[.string ((rd_T57 l0 x8_1).f0), .int .i64 ((rd_T57 l0 x8_1).f1), .int .i64 ((rd_T57 l0 x8_1).f2), .int .i64 ((rd_T57 l0 x8_1).f3), .int .i64 ((rd_T57 l0 x8_1).f4), .int .i64 0, .int .i64 0]) ?_ 5 _ rfl; (with_reducible repeat (first | refine blk_drewN ?_ _ | refine blk_drew ?_ | refine blk_alloc ?_ _)); refine blk_put (cs := #[.string ((rd_T57 l0 x8_1).f0), .int .i64 ((rd_T57 l0 x8_1).f1), .int .i64 ((rd_T57 l0 x8_1).f2), .int .i64 ((rd_T57 l0 x8_1).f3), .int .i64 0, .int .i64 0, .int .i64 0]) ?_ 4 _ rfl; (with_reducible repeat (first | refine blk_drewN ?_ _ | refine blk_drew ?_ | refine blk_alloc ?_ _)); refine blk_put (cs := #[.string ((rd_T57 l0 x8_1).f0), .int .i64 ((rd_T57 l0 x8_1).f1), .int .i64 ((rd_T57 l0 x8_1).f2), .int .i64 0, .int .i64 0, .int .i64 0, .int .i64 0]) ?_ 3 _ rfl; (with_reducible repeat (first | refine blk_drewN ?_ _ | refine blk_drew ?_ | refine blk_alloc ?_ _)); refine blk_put (cs := #[.string ((rd_T57 l0 x8_1).f0), .int .i64 ((rd_T57 l0 x8_1).f1), .int .i64 0, .int .i64 0, .int .i64 0, .int .i64 0, .int .i64 0]) ?_ 2 _ rfl; (with_reducible repeat (first | refine blk_drewN ?_ _ | refine blk_drew ?_ | refine blk_alloc ?_ _)); refine blk_put (cs := #[.string ((rd_T57 l0 x8_1).f0), .int .i64 0, .int .i64 0, .int .i64 0, .int .i64 0, .int .i64 0, .int .i64 0]) ?_ 1 _ rfl; (with_reducible repeat (first | refine blk_drewN ?_ _ | refine blk_drew ?_ | refine blk_alloc ?_ _)); refine blk_put (cs := #[.string (⟨#[]⟩ : ByteArray), .int .i64 0, .int .i64 0, .int .i64 0, .int .i64 0, .int .i64 0, .int .i64 0]) ?_ 0 _ rfl; (with_reducible repeat (first | refine blk_drewN ?_ _ | refine blk_drew ?_ | refine blk_alloc ?_ _)); exact BK103.out) hg (Kd.R_ne HO_3.out BK103.out (by decide))); have n1_ := Aside0.mk (hb); have n2_ := Aside0.mk (ho); clear BK103; clear HB; clear HO_3; have BK103 := n0_; have HB := n1_; have HO106 := n2_; clear n0_ n1_ n2_; clear ho hb hg hat))
              go_roundg k1
              case measure => have := HK1.out; omega
              case rel => exact ⟨(y104), (wrap64 (x8_1 + 1)), (by first | rfl | (simp; done) | (simp [*]; done)), H', ⟨by have := HK1.out; omega⟩, ⟨by (with_reducible repeat (first | apply Kd.R_alloc | apply Kd.R_drewN | apply Kd.R_drew)); exact HO106.out⟩, ⟨by repeat (first | (with_reducible first | exact HB.out | apply below_alloc | apply pw_below_drewN | apply below_drew1 | refine below_set ?_ GE103.out) | exact HB.out)⟩⟩
            · rw [if_neg c5] at H
              exact absurd H (by simp)
          · rw [if_neg c4] at H
            exact absurd H (by simp)
        · rw [if_neg c3] at H
          exact absurd H (by simp)
      · rw [if_neg c2] at H
        have c2b0 : decide (x8_1 < (l0.length : Int)) = false := decide_eq_false c2
        clear c2
        obtain rfl := Option.some.inj H
        go_wp2
        go_ret
        exact ⟨_, by first | rfl | (simp [errW_none, errW_some] <;> rfl) | (simp [*, errW_none, errW_some] <;> rfl), by (with_reducible repeat (first | apply Kd.R_alloc | apply Kd.R_drewN | apply Kd.R_drew)); exact HO_3.out, by repeat (first | (with_reducible first | exact HB.out | apply below_alloc | apply pw_below_drewN | apply below_drew1) | exact HB.out)⟩
end Go.Proofs.YtdgipencedlbmaaGreatDoor.Pr
namespace Go.Proofs.YtdgipencedlbmaaGreatDoor.Pr
open Go.RowKit Go.Proofs.YtdgipencedlbmaaGreatDoorW.PrintWords Go.Proofs.YtdgipencedlbmaaGreatDoorW.PrintLast Go.Proofs.YtdgipencedlbmaaGreatDoorW.PrintMore
attribute [local go_sem] max2_int min2_int max_two min_two max_three min_three max_four min_four   -- for this text's walks alone
set_option linter.unusedVariables false
set_option linter.unusedSimpArgs false
def metrolablaw56_Seven.f  : Option ((List (S24))) := some (([(⟨0, (⟨#[65]⟩ : ByteArray), 10⟩ : S24), (⟨1, (⟨#[65]⟩ : ByteArray), 6⟩ : S24), (⟨2, (⟨#[65]⟩ : ByteArray), 4⟩ : S24), (⟨3, (⟨#[65]⟩ : ByteArray), 3⟩ : S24), (⟨4, (⟨#[65]⟩ : ByteArray), 1⟩ : S24), (⟨5, (⟨#[65]⟩ : ByteArray), 0⟩ : S24), (⟨6, (⟨#[65]⟩ : ByteArray), 0⟩ : S24)] : List (S24)))
set_option maxHeartbeats 8000000 in
set_option maxRecDepth 100000 in
theorem metrolablaw56_Seven.calls  (r : List (S24)) (w : World) (h : metrolablaw56_Seven.f  = some r) :
    Calls Tryz.prog 47 #[] w fun e w' => ∃ v0_ : Value, e = .returned (v0_) ∧ Kd.R k24 24 w' w.heap.size (fun _ => True) v0_ r ∧ Below w.heap.size w w' := by
  have hu24 := Tryz.underlying24
  have HB := Aside0.mk (Below.refl w.heap.size w)
  have H : (some (([(⟨0, (⟨#[65]⟩ : ByteArray), 10⟩ : S24), (⟨1, (⟨#[65]⟩ : ByteArray), 6⟩ : S24), (⟨2, (⟨#[65]⟩ : ByteArray), 4⟩ : S24), (⟨3, (⟨#[65]⟩ : ByteArray), 3⟩ : S24), (⟨4, (⟨#[65]⟩ : ByteArray), 1⟩ : S24), (⟨5, (⟨#[65]⟩ : ByteArray), 0⟩ : S24), (⟨6, (⟨#[65]⟩ : ByteArray), 0⟩ : S24)] : List (S24)))) = some r := h
  clear h
  obtain ⟨y130, hy130⟩ : ∃ y_ : List (S24), y_ = (([(⟨0, (⟨#[65]⟩ : ByteArray), 10⟩ : S24), (⟨1, (⟨#[65]⟩ : ByteArray), 6⟩ : S24), (⟨2, (⟨#[65]⟩ : ByteArray), 4⟩ : S24), (⟨3, (⟨#[65]⟩ : ByteArray), 3⟩ : S24), (⟨4, (⟨#[65]⟩ : ByteArray), 1⟩ : S24), (⟨5, (⟨#[65]⟩ : ByteArray), 0⟩ : S24), (⟨6, (⟨#[65]⟩ : ByteArray), 0⟩ : S24)] : List (S24))) := ⟨_, rfl⟩
  replace H : (some y130) = some r := by first | (rw [hy130]; with_reducible exact H) | (have H2_ := (Option.bind_some _ _).symm.trans H; rw [hy130]; with_reducible exact H2_) | (have H2_ := (Option.bind_some _ _).symm.trans H; with_reducible exact H2_) | with_reducible exact H | (rw [hy130]; exact H) | exact H
  have Ny130 := Aside0.mk hy130
  clear hy130
  obtain rfl := Option.some.inj H
  go_enter Tryz.func47, Tryz.ntmps47
  go_wp2_with (first | ((with_reducible refine gate_dst (N := 8) rfl ?_); refine Kd.R_lit k24 _ 24 ?hg (N := 8) ?hd (xs := ([(⟨0, (⟨#[65]⟩ : ByteArray), 10⟩ : S24), (⟨1, (⟨#[65]⟩ : ByteArray), 6⟩ : S24), (⟨2, (⟨#[65]⟩ : ByteArray), 4⟩ : S24), (⟨3, (⟨#[65]⟩ : ByteArray), 3⟩ : S24), (⟨4, (⟨#[65]⟩ : ByteArray), 1⟩ : S24), (⟨5, (⟨#[65]⟩ : ByteArray), 0⟩ : S24), (⟨6, (⟨#[65]⟩ : ByteArray), 0⟩ : S24)] : List (S24))) (inner := [.int .i64 0, .string (⟨#[65]⟩ : ByteArray), .int .i64 10, .int .i64 1, .string (⟨#[65]⟩ : ByteArray), .int .i64 6, .int .i64 2, .string (⟨#[65]⟩ : ByteArray), .int .i64 4, .int .i64 3, .string (⟨#[65]⟩ : ByteArray), .int .i64 3, .int .i64 4, .string (⟨#[65]⟩ : ByteArray), .int .i64 1, .int .i64 5, .string (⟨#[65]⟩ : ByteArray), .int .i64 0, .int .i64 6, .string (⟨#[65]⟩ : ByteArray), .int .i64 0]) (ok := fun _ => True) (okp := fun _ => True) ?hr ?hp (fun _ hk => hk) trivial (Below.refl _ _) (Nat.le_refl _) (by simp) ?_; (case hd => rfl); (case hg => rfl); (case hr => first | (go_simp; done) | (go_simp; rfl)); (case hp => exact (Reps.c3 (show Kd.M k24 _ _ _ (⟨0, (⟨#[65]⟩ : ByteArray), 10⟩ : S24) [.int .i64 0, .string (⟨#[65]⟩ : ByteArray), .int .i64 10] from (k24_mkM _ _ _ (⟨0, (⟨#[65]⟩ : ByteArray), 10⟩ : S24) )) (Reps.c3 (show Kd.M k24 _ _ _ (⟨1, (⟨#[65]⟩ : ByteArray), 6⟩ : S24) [.int .i64 1, .string (⟨#[65]⟩ : ByteArray), .int .i64 6] from (k24_mkM _ _ _ (⟨1, (⟨#[65]⟩ : ByteArray), 6⟩ : S24) )) (Reps.c3 (show Kd.M k24 _ _ _ (⟨2, (⟨#[65]⟩ : ByteArray), 4⟩ : S24) [.int .i64 2, .string (⟨#[65]⟩ : ByteArray), .int .i64 4] from (k24_mkM _ _ _ (⟨2, (⟨#[65]⟩ : ByteArray), 4⟩ : S24) )) (Reps.c3 (show Kd.M k24 _ _ _ (⟨3, (⟨#[65]⟩ : ByteArray), 3⟩ : S24) [.int .i64 3, .string (⟨#[65]⟩ : ByteArray), .int .i64 3] from (k24_mkM _ _ _ (⟨3, (⟨#[65]⟩ : ByteArray), 3⟩ : S24) )) (Reps.c3 (show Kd.M k24 _ _ _ (⟨4, (⟨#[65]⟩ : ByteArray), 1⟩ : S24) [.int .i64 4, .string (⟨#[65]⟩ : ByteArray), .int .i64 1] from (k24_mkM _ _ _ (⟨4, (⟨#[65]⟩ : ByteArray), 1⟩ : S24) )) (Reps.c3 (show Kd.M k24 _ _ _ (⟨5, (⟨#[65]⟩ : ByteArray), 0⟩ : S24) [.int .i64 5, .string (⟨#[65]⟩ : ByteArray), .int .i64 0] from (k24_mkM _ _ _ (⟨5, (⟨#[65]⟩ : ByteArray), 0⟩ : S24) )) (Reps.c3 (show Kd.M k24 _ _ _ (⟨6, (⟨#[65]⟩ : ByteArray), 0⟩ : S24) [.int .i64 6, .string (⟨#[65]⟩ : ByteArray), .int .i64 0] from (k24_mkM _ _ _ (⟨6, (⟨#[65]⟩ : ByteArray), 0⟩ : S24) )) (Reps.none _ _))))))))); intro v131 w1 ho2 hb hg_ hnew_; clear hg_ hnew_; (first | rw [← Ny130.out] at ho2 | (simp only [Int.reduceToNat] at ho2; rw [← Ny130.out] at ho2)); have n0_ := Aside0.mk (Kd.R_lower ho2 (below_size (by repeat (first | (with_reducible first | exact HB.out | apply below_alloc | apply pw_below_drewN | apply below_drew1) | exact HB.out)))); have n1_ := Aside0.mk (below_step (by repeat (first | (with_reducible first | exact HB.out | apply below_alloc | apply pw_below_drewN | apply below_drew1) | exact HB.out)) hb); clear HB; have HO132 := n0_; have HB := n1_; clear n0_ n1_; clear hb ho2))
  go_ret
  exact ⟨_, by first | rfl | (simp [errW_none, errW_some] <;> rfl) | (simp [*, errW_none, errW_some] <;> rfl), by (with_reducible repeat (first | apply Kd.R_alloc | apply Kd.R_drewN | apply Kd.R_drew)); exact HO132.out, by repeat (first | (with_reducible first | exact HB.out | apply below_alloc | apply pw_below_drewN | apply below_drew1) | exact HB.out)⟩
end Go.Proofs.YtdgipencedlbmaaGreatDoor.Pr
namespace Go.Proofs.YtdgipencedlbmaaGreatDoor.Pr
open Go.RowKit Go.Proofs.YtdgipencedlbmaaGreatDoorW.PrintWords Go.Proofs.YtdgipencedlbmaaGreatDoorW.PrintLast Go.Proofs.YtdgipencedlbmaaGreatDoorW.PrintMore
attribute [local go_sem] max2_int min2_int max_two min_two max_three min_three max_four min_four   -- for this text's walks alone
set_option linter.unusedVariables false
set_option linter.unusedSimpArgs false
theorem eqA57 (d : Nat) (w : World) (x0 y0 : ByteArray) (x1 y1 : Int) (x2 y2 : Int) (x3 y3 : Int) (x4 y4 : Int) (x5 y5 : Int) (x6 y6 : Int) :
    (Op.equalIn (d + 2) 57 (.agg #[.string x0, .int .i64 x1, .int .i64 x2, .int .i64 x3, .int .i64 x4, .int .i64 x5, .int .i64 x6]) (.agg #[.string y0, .int .i64 y1, .int .i64 y2, .int .i64 y3, .int .i64 y4, .int .i64 y5, .int .i64 y6])).run Tryz.prog w = .ok (x0.toList == y0.toList && (x1 == y1 && (x2 == y2 && (x3 == y3 && (x4 == y4 && (x5 == y5 && (x6 == y6))))))) w := by
  refine eqA_of Tryz.underlying57 (by kernel_rfl) ?_
  refine eqf_cons (by rfl) (by go_simp; rfl) (by go_simp; rfl) (by go_simp) ?_
  refine eqf_cons (by rfl) (by go_simp; rfl) (by go_simp; rfl) (by go_simp) ?_
  refine eqf_cons (by rfl) (by go_simp; rfl) (by go_simp; rfl) (by go_simp) ?_
  refine eqf_cons (by rfl) (by go_simp; rfl) (by go_simp; rfl) (by go_simp) ?_
  refine eqf_cons (by rfl) (by go_simp; rfl) (by go_simp; rfl) (by go_simp) ?_
  refine eqf_cons (by rfl) (by go_simp; rfl) (by go_simp; rfl) (by go_simp) ?_
  exact eqf_last (by rfl) (by go_simp; rfl) (by go_simp; rfl) (by go_simp)
end Go.Proofs.YtdgipencedlbmaaGreatDoor.Pr
namespace Go.Proofs.YtdgipencedlbmaaGreatDoor.Pr
open Go.RowKit Go.Proofs.YtdgipencedlbmaaGreatDoorW.PrintWords Go.Proofs.YtdgipencedlbmaaGreatDoorW.PrintLast Go.Proofs.YtdgipencedlbmaaGreatDoorW.PrintMore
attribute [local go_sem] max2_int min2_int max_two min_two max_three min_three max_four min_four   -- for this text's walks alone
set_option linter.unusedVariables false
set_option linter.unusedSimpArgs false
attribute [local go_sem high] eqA57
def register_Lot_48.l0 : Nat → List (S57) → List (S57) → Int → Int → Option (Bool)
  | 0, _, _, _, _ => none
  | k + 1, x0, x1, x12, x13 => if x13 < x12 then (if 0 ≤ x13 then (if x13 < (x0.length : Int) then (if x13 < (x1.length : Int) then (if (!((((rd_T57 x0 x13).f0).toList) == (((rd_T57 x1 x13).f0).toList)) || (!(((rd_T57 x0 x13).f1) == ((rd_T57 x1 x13).f1)) || (!(((rd_T57 x0 x13).f2) == ((rd_T57 x1 x13).f2)) || (!(((rd_T57 x0 x13).f3) == ((rd_T57 x1 x13).f3)) || (!(((rd_T57 x0 x13).f4) == ((rd_T57 x1 x13).f4)) || (!(((rd_T57 x0 x13).f5) == ((rd_T57 x1 x13).f5)) || (!(((rd_T57 x0 x13).f6) == ((rd_T57 x1 x13).f6))))))))) = true then (some false) else (register_Lot_48.l0 k x0 x1 x12 (wrap64 (x13 + 1)))) else (none)) else (none)) else (none)) else (some true)
def register_Lot_48.f (k : Nat) (l0 : List (S57)) (l1 : List (S57)) : Option (Bool) := if (l0.length : Int) = (l1.length : Int) then (register_Lot_48.l0 k l0 l1 (l0.length : Int) 0) else (some false)
theorem register_Lot_48.mono_l : ∀ k, (∀ y0 y1 y2 y3, LeO (register_Lot_48.l0 k y0 y1 y2 y3) (register_Lot_48.l0 (k + 1) y0 y1 y2 y3))
  | 0 => fun _ _ _ _ r h => by simp [register_Lot_48.l0] at h
  | k + 1 => by
    have ih0 := register_Lot_48.mono_l k
    · intro y0 y1 y2 y3
      unfold register_Lot_48.l0
      repeat' first
      | (with_reducible exact ih0 _ _ _ _)
      | (with_reducible exact LeO.refl _)
      | (with_reducible exact LeO.none _)
      | (with_reducible refine LeO.ite ?_ ?_)
      | (with_reducible refine LeO.bind ?_ (fun _ => ?_))
      | exact ih0 _ _ _ _
      | exact LeO.none _
      | refine LeO.ite ?_ ?_
      | refine LeO.bind ?_ (fun _ => ?_)
theorem register_Lot_48.mono : ∀ a0 a1 k, LeO (register_Lot_48.f k a0 a1) (register_Lot_48.f (k + 1) a0 a1) := by
  intro a0 a1 k
  have ih0 := register_Lot_48.mono_l k
  unfold register_Lot_48.f
  repeat' first
      | (with_reducible exact ih0 _ _ _ _)
      | (with_reducible exact LeO.refl _)
      | (with_reducible exact LeO.none _)
      | (with_reducible refine LeO.ite ?_ ?_)
      | (with_reducible refine LeO.bind ?_ (fun _ => ?_))
      | exact ih0 _ _ _ _
      | exact LeO.none _
      | refine LeO.ite ?_ ?_
      | refine LeO.bind ?_ (fun _ => ?_)
set_option maxHeartbeats 8000000 in
set_option maxRecDepth 100000 in
theorem register_Lot_48.calls (k : Nat) (A0 : Option Addr) (c0 : Nat) (l0 : List (S57)) (A1 : Option Addr) (c1 : Nat) (l1 : List (S57)) (r : Bool) (w : World) (hr0 : Kd.C k57 w A0 l0.length l0) (hc0 : l0.length ≤ c0) (hr1 : Kd.C k57 w A1 l1.length l1) (hc1 : l1.length ≤ c1) (h : register_Lot_48.f k l0 l1 = some r) :
    Calls Tryz.prog 48 #[.slice A0 l0.length c0, .slice A1 l1.length c1] w fun e w' => e = .returned (.bool r) ∧ Drawn0 w w' := by
  have hu57 := Tryz.underlying57
  have HR0 := Aside0.mk hr0
  have HC0 := Aside0.mk hc0
  clear hr0 hc0
  have HR1 := Aside0.mk hr1
  have HC1 := Aside0.mk hc1
  clear hr1 hc1
  have H : (if (l0.length : Int) = (l1.length : Int) then (register_Lot_48.l0 k l0 l1 (l0.length : Int) 0) else (some false)) = some r := h
  clear h
  by_cases c3 : (l0.length : Int) = (l1.length : Int)
  · rw [if_pos c3] at H
    have c3b0 : ((l0.length : Int) == (l1.length : Int)) = true := beq_iff_eq.mpr c3
    have c3b1 : ((l0.length : Int) != (l1.length : Int)) = false := bne_eq_false_iff_eq.mpr c3
    have c3b2 : (l0.length == l1.length) = true := by first | simpa using c3 | (simp at c3 ⊢; omega)
    clear c3
    have H' := Aside0.mk H
    clear H
    go_enter Tryz.func48, Tryz.ntmps48
    go_wp2
    repeat (go_quiet (fail); try go_wp2)
    go_loopg [13] k (fun kq v13 w' => ∃ (x13_1 : Int), v13 = .int .i64 x13_1 ∧ Aside0 (register_Lot_48.l0 kq l0 l1 (l0.length : Int) x13_1 = some r) ∧ Aside0 (kq ≤ k) ∧ Drawn0 w w')
    case atStart => exact ⟨(0), (by first | rfl | (simp; done) | (simp [*]; done)), H', ⟨Nat.le_refl _⟩, by repeat (first | exact Drawn0.refl _ | apply Drawn0.step)⟩
    case round =>
      clear H'
      try clear c1
      try clear p2
      try clear c3
      try clear c3b0
      try clear c3b1
      try clear c3b2
      obtain ⟨x13_1, rfl, HA, HK1, ⟨m1, rfl⟩⟩ := hrel
      cases gk with
      | zero => exact absurd HA.out (by simp [register_Lot_48.l0])
      | succ k1 =>
        have H := HA.out
        clear HA
        simp only [register_Lot_48.l0] at H
        by_cases c4 : x13_1 < (l0.length : Int)
        · rw [if_pos c4] at H
          have c4b0 : decide (x13_1 < (l0.length : Int)) = true := decide_eq_true c4
          clear c4
          by_cases c5 : 0 ≤ x13_1
          · rw [if_pos c5] at H
            have c5b0 : decide (0 ≤ x13_1) = true := decide_eq_true c5
            clear c5
            by_cases c6 : x13_1 < (l0.length : Int)
            · rw [if_pos c6] at H
              have c6b0 : decide (x13_1 < (l0.length : Int)) = true := decide_eq_true c6
              clear c6
              by_cases c7 : x13_1 < (l1.length : Int)
              · rw [if_pos c7] at H
                have c7b0 : decide (x13_1 < (l1.length : Int)) = true := decide_eq_true c7
                clear c7
                by_cases c8 : (!((((rd_T57 l0 x13_1).f0).toList) == (((rd_T57 l1 x13_1).f0).toList)) || (!(((rd_T57 l0 x13_1).f1) == ((rd_T57 l1 x13_1).f1)) || (!(((rd_T57 l0 x13_1).f2) == ((rd_T57 l1 x13_1).f2)) || (!(((rd_T57 l0 x13_1).f3) == ((rd_T57 l1 x13_1).f3)) || (!(((rd_T57 l0 x13_1).f4) == ((rd_T57 l1 x13_1).f4)) || (!(((rd_T57 l0 x13_1).f5) == ((rd_T57 l1 x13_1).f5)) || (!(((rd_T57 l0 x13_1).f6) == ((rd_T57 l1 x13_1).f6))))))))) = true
                · rw [if_pos c8] at H
                  have c8b0 : (!((((rd_T57 l0 x13_1).f0).toList) == (((rd_T57 l1 x13_1).f0).toList)) || (!(((rd_T57 l0 x13_1).f1) == ((rd_T57 l1 x13_1).f1)) || (!(((rd_T57 l0 x13_1).f2) == ((rd_T57 l1 x13_1).f2)) || (!(((rd_T57 l0 x13_1).f3) == ((rd_T57 l1 x13_1).f3)) || (!(((rd_T57 l0 x13_1).f4) == ((rd_T57 l1 x13_1).f4)) || (!(((rd_T57 l0 x13_1).f5) == ((rd_T57 l1 x13_1).f5)) || (!(((rd_T57 l0 x13_1).f6) == ((rd_T57 l1 x13_1).f6))))))))) = true := c8
                  clear c8
                  obtain rfl := Option.some.inj H
                  have p133 : 0 ≤ (x13_1 : Int) := of_decide_eq_true (by first | (with_reducible assumption) | assumption)
                  have q133 : x13_1 < (l0.length : Int) := of_decide_eq_true (by first | (with_reducible assumption) | assumption)
                  obtain ⟨ad133, e133, hx133_0, hx133_1, hx133_2, hx133_3, hx133_4, hx133_5, hx133_6⟩ := at_T57 HR0.out x13_1 p133 q133
                  cases e133
                  replace p133 := eq_true p133
                  replace q133 := eq_true q133
                  have p134 : 0 ≤ (x13_1 : Int) := of_decide_eq_true (by first | (with_reducible assumption) | assumption)
                  have q134 : x13_1 < (l1.length : Int) := of_decide_eq_true (by first | (with_reducible assumption) | assumption)
                  obtain ⟨ad134, e134, hx134_0, hx134_1, hx134_2, hx134_3, hx134_4, hx134_5, hx134_6⟩ := at_T57 HR1.out x13_1 p134 q134
                  cases e134
                  replace p134 := eq_true p134
                  replace q134 := eq_true q134
                  go_wp2
                  repeat (go_quiet (fail); try go_wp2)
                  go_ret
                  exact ⟨by first | rfl | (simp; done) | (simp [*]; done), by repeat (first | exact Drawn0.refl _ | apply Drawn0.step)⟩
                · rw [if_neg c8] at H
                  have c8b0 : (!((((rd_T57 l0 x13_1).f0).toList) == (((rd_T57 l1 x13_1).f0).toList)) || (!(((rd_T57 l0 x13_1).f1) == ((rd_T57 l1 x13_1).f1)) || (!(((rd_T57 l0 x13_1).f2) == ((rd_T57 l1 x13_1).f2)) || (!(((rd_T57 l0 x13_1).f3) == ((rd_T57 l1 x13_1).f3)) || (!(((rd_T57 l0 x13_1).f4) == ((rd_T57 l1 x13_1).f4)) || (!(((rd_T57 l0 x13_1).f5) == ((rd_T57 l1 x13_1).f5)) || (!(((rd_T57 l0 x13_1).f6) == ((rd_T57 l1 x13_1).f6))))))))) = false := by simpa using c8
                  clear c8
                  have H' := Aside0.mk H
                  clear H
                  have p133 : 0 ≤ (x13_1 : Int) := of_decide_eq_true (by first | (with_reducible assumption) | assumption)
                  have q133 : x13_1 < (l0.length : Int) := of_decide_eq_true (by first | (with_reducible assumption) | assumption)
                  obtain ⟨ad133, e133, hx133_0, hx133_1, hx133_2, hx133_3, hx133_4, hx133_5, hx133_6⟩ := at_T57 HR0.out x13_1 p133 q133
                  cases e133
                  replace p133 := eq_true p133
                  replace q133 := eq_true q133
                  have p134 : 0 ≤ (x13_1 : Int) := of_decide_eq_true (by first | (with_reducible assumption) | assumption)
                  have q134 : x13_1 < (l1.length : Int) := of_decide_eq_true (by first | (with_reducible assumption) | assumption)
                  obtain ⟨ad134, e134, hx134_0, hx134_1, hx134_2, hx134_3, hx134_4, hx134_5, hx134_6⟩ := at_T57 HR1.out x13_1 p134 q134
                  cases e134
                  replace p134 := eq_true p134
                  replace q134 := eq_true q134
                  go_wp2
                  repeat (go_quiet (fail); try go_wp2)
                  go_roundg k1
                  case measure => have := HK1.out; omega
                  case rel => exact ⟨(wrap64 (x13_1 + 1)), (by first | rfl | (simp; done) | (simp [*]; done)), H', ⟨by have := HK1.out; omega⟩, by repeat (first | exact Drawn0.refl _ | apply Drawn0.step)⟩
              · rw [if_neg c7] at H
                exact absurd H (by simp)
            · rw [if_neg c6] at H
              exact absurd H (by simp)
          · rw [if_neg c5] at H
            exact absurd H (by simp)
        · rw [if_neg c4] at H
          have c4b0 : decide (x13_1 < (l0.length : Int)) = false := decide_eq_false c4
          clear c4
          obtain rfl := Option.some.inj H
          go_wp2
          repeat (go_quiet (fail); try go_wp2)
          go_ret
          exact ⟨by first | rfl | (simp; done) | (simp [*]; done), by repeat (first | exact Drawn0.refl _ | apply Drawn0.step)⟩
  · rw [if_neg c3] at H
    have c3b0 : ((l0.length : Int) == (l1.length : Int)) = false := beq_eq_false_iff_ne.mpr c3
    have c3b1 : ((l0.length : Int) != (l1.length : Int)) = true := bne_iff_ne.mpr c3
    have c3b2 : (l0.length == l1.length) = false := by first | simpa using c3 | (simp at c3 ⊢; omega)
    obtain rfl := Option.some.inj H
    go_enter Tryz.func48, Tryz.ntmps48
    go_wp2
    repeat (go_quiet (fail); try go_wp2)
    go_ret
    exact ⟨by first | rfl | (simp; done) | (simp [*]; done), by repeat (first | exact Drawn0.refl _ | apply Drawn0.step)⟩
end Go.Proofs.YtdgipencedlbmaaGreatDoor.Pr
namespace Go.Proofs.YtdgipencedlbmaaGreatDoor.Pr
open Go.RowKit Go.Proofs.YtdgipencedlbmaaGreatDoorW.PrintWords Go.Proofs.YtdgipencedlbmaaGreatDoorW.PrintLast Go.Proofs.YtdgipencedlbmaaGreatDoorW.PrintMore
attribute [local go_sem] max2_int min2_int max_two min_two max_three min_three max_four min_four   -- for this text's walks alone
set_option linter.unusedVariables false
set_option linter.unusedSimpArgs false
theorem eqA84 (d : Nat) (w : World) (x0 y0 : ByteArray) (x1 y1 : Int) (x2 y2 : Int) (x3 y3 : Int) (x4 y4 : Int) (x5 y5 : Int) (x6 y6 : Int) :
    (Op.equalIn (d + 2) 84 (.agg #[.string x0, .int .i64 x1, .int .i64 x2, .int .i64 x3, .int .i64 x4, .int .i64 x5, .int .i64 x6]) (.agg #[.string y0, .int .i64 y1, .int .i64 y2, .int .i64 y3, .int .i64 y4, .int .i64 y5, .int .i64 y6])).run Tryz.prog w = .ok (x0.toList == y0.toList && (x1 == y1 && (x2 == y2 && (x3 == y3 && (x4 == y4 && (x5 == y5 && (x6 == y6))))))) w := by
  refine eqA_of Tryz.underlying84 (by kernel_rfl) ?_
  refine eqf_cons (by rfl) (by go_simp; rfl) (by go_simp; rfl) (by go_simp) ?_
  refine eqf_cons (by rfl) (by go_simp; rfl) (by go_simp; rfl) (by go_simp) ?_
  refine eqf_cons (by rfl) (by go_simp; rfl) (by go_simp; rfl) (by go_simp) ?_
  refine eqf_cons (by rfl) (by go_simp; rfl) (by go_simp; rfl) (by go_simp) ?_
  refine eqf_cons (by rfl) (by go_simp; rfl) (by go_simp; rfl) (by go_simp) ?_
  refine eqf_cons (by rfl) (by go_simp; rfl) (by go_simp; rfl) (by go_simp) ?_
  exact eqf_last (by rfl) (by go_simp; rfl) (by go_simp; rfl) (by go_simp)
end Go.Proofs.YtdgipencedlbmaaGreatDoor.Pr
namespace Go.Proofs.YtdgipencedlbmaaGreatDoor.Pr
open Go.RowKit Go.Proofs.YtdgipencedlbmaaGreatDoorW.PrintWords Go.Proofs.YtdgipencedlbmaaGreatDoorW.PrintLast Go.Proofs.YtdgipencedlbmaaGreatDoorW.PrintMore
attribute [local go_sem] max2_int min2_int max_two min_two max_three min_three max_four min_four   -- for this text's walks alone
set_option linter.unusedVariables false
set_option linter.unusedSimpArgs false
attribute [local go_sem high] eqA84
def metrolabref56_Same.l0 : Nat → List (S84) → List (S84) → Int → Option (Bool)
  | 0, _, _, _ => none
  | k + 1, x0, x1, x5 => if x5 < (x0.length : Int) then (if 0 ≤ x5 then (if x5 < (x1.length : Int) then (if (!((((rd_T84 x0 x5).f0).toList) == (((rd_T84 x1 x5).f0).toList)) || (!(((rd_T84 x0 x5).f1) == ((rd_T84 x1 x5).f1)) || (!(((rd_T84 x0 x5).f2) == ((rd_T84 x1 x5).f2)) || (!(((rd_T84 x0 x5).f3) == ((rd_T84 x1 x5).f3)) || (!(((rd_T84 x0 x5).f4) == ((rd_T84 x1 x5).f4)) || (!(((rd_T84 x0 x5).f5) == ((rd_T84 x1 x5).f5)) || (!(((rd_T84 x0 x5).f6) == ((rd_T84 x1 x5).f6))))))))) = true then (some false) else (metrolabref56_Same.l0 k x0 x1 (wrap64 (x5 + 1)))) else (none)) else (none)) else (some true)
def metrolabref56_Same.f (k : Nat) (l0 : List (S84)) (l1 : List (S84)) : Option (Bool) := if (l0.length : Int) = (l1.length : Int) then (metrolabref56_Same.l0 k l0 l1 0) else (some false)
theorem metrolabref56_Same.mono_l : ∀ k, (∀ y0 y1 y2, LeO (metrolabref56_Same.l0 k y0 y1 y2) (metrolabref56_Same.l0 (k + 1) y0 y1 y2))
  | 0 => fun _ _ _ r h => by simp [metrolabref56_Same.l0] at h
  | k + 1 => by
    have ih0 := metrolabref56_Same.mono_l k
    · intro y0 y1 y2
      unfold metrolabref56_Same.l0
      repeat' first
      | (with_reducible exact ih0 _ _ _)
      | (with_reducible exact LeO.refl _)
      | (with_reducible exact LeO.none _)
      | (with_reducible refine LeO.ite ?_ ?_)
      | (with_reducible refine LeO.bind ?_ (fun _ => ?_))
      | exact ih0 _ _ _
      | exact LeO.none _
      | refine LeO.ite ?_ ?_
      | refine LeO.bind ?_ (fun _ => ?_)
theorem metrolabref56_Same.mono : ∀ a0 a1 k, LeO (metrolabref56_Same.f k a0 a1) (metrolabref56_Same.f (k + 1) a0 a1) := by
  intro a0 a1 k
  have ih0 := metrolabref56_Same.mono_l k
  unfold metrolabref56_Same.f
  repeat' first
      | (with_reducible exact ih0 _ _ _)
      | (with_reducible exact LeO.refl _)
      | (with_reducible exact LeO.none _)
      | (with_reducible refine LeO.ite ?_ ?_)
      | (with_reducible refine LeO.bind ?_ (fun _ => ?_))
      | exact ih0 _ _ _
      | exact LeO.none _
      | refine LeO.ite ?_ ?_
      | refine LeO.bind ?_ (fun _ => ?_)
set_option maxHeartbeats 8000000 in
set_option maxRecDepth 100000 in
theorem metrolabref56_Same.calls (k : Nat) (A0 : Option Addr) (c0 : Nat) (l0 : List (S84)) (A1 : Option Addr) (c1 : Nat) (l1 : List (S84)) (r : Bool) (w : World) (hr0 : Kd.C k84 w A0 l0.length l0) (hc0 : l0.length ≤ c0) (hr1 : Kd.C k84 w A1 l1.length l1) (hc1 : l1.length ≤ c1) (h : metrolabref56_Same.f k l0 l1 = some r) :
    Calls Tryz.prog 22 #[.slice A0 l0.length c0, .slice A1 l1.length c1] w fun e w' => e = .returned (.bool r) ∧ Drawn0 w w' := by
  have hu84 := Tryz.underlying84
  have HR0 := Aside0.mk hr0
  have HC0 := Aside0.mk hc0
  clear hr0 hc0
  have HR1 := Aside0.mk hr1
  have HC1 := Aside0.mk hc1
  clear hr1 hc1
  have H : (if (l0.length : Int) = (l1.length : Int) then (metrolabref56_Same.l0 k l0 l1 0) else (some false)) = some r := h
  clear h
  by_cases c3 : (l0.length : Int) = (l1.length : Int)
  · rw [if_pos c3] at H
    have c3b0 : ((l0.length : Int) == (l1.length : Int)) = true := beq_iff_eq.mpr c3
    have c3b1 : ((l0.length : Int) != (l1.length : Int)) = false := bne_eq_false_iff_eq.mpr c3
    have c3b2 : (l0.length == l1.length) = true := by first | simpa using c3 | (simp at c3 ⊢; omega)
    clear c3
    have H' := Aside0.mk H
    clear H
    go_enter Tryz.func22, Tryz.ntmps22
    go_wp2
    repeat (go_quiet (fail); try go_wp2)
    go_loopg [5] k (fun kq v5 w' => ∃ (x5_1 : Int), v5 = .int .i64 x5_1 ∧ Aside0 (metrolabref56_Same.l0 kq l0 l1 x5_1 = some r) ∧ Aside0 (kq ≤ k) ∧ Drawn0 w w')
    case atStart => exact ⟨(0), (by first | rfl | (simp; done) | (simp [*]; done)), H', ⟨Nat.le_refl _⟩, by repeat (first | exact Drawn0.refl _ | apply Drawn0.step)⟩
    case round =>
      clear H'
      try clear c1
      try clear c2
      try clear p2
      try clear c3
      try clear c3b0
      try clear c3b1
      try clear c3b2
      obtain ⟨x5_1, rfl, HA, HK1, ⟨m1, rfl⟩⟩ := hrel
      cases gk with
      | zero => exact absurd HA.out (by simp [metrolabref56_Same.l0])
      | succ k1 =>
        have H := HA.out
        clear HA
        simp only [metrolabref56_Same.l0] at H
        by_cases c4 : x5_1 < (l0.length : Int)
        · rw [if_pos c4] at H
          have c4b0 : decide (x5_1 < (l0.length : Int)) = true := decide_eq_true c4
          clear c4
          by_cases c5 : 0 ≤ x5_1
          · rw [if_pos c5] at H
            have c5b0 : decide (0 ≤ x5_1) = true := decide_eq_true c5
            clear c5
            by_cases c6 : x5_1 < (l1.length : Int)
            · rw [if_pos c6] at H
              have c6b0 : decide (x5_1 < (l1.length : Int)) = true := decide_eq_true c6
              clear c6
              by_cases c7 : (!((((rd_T84 l0 x5_1).f0).toList) == (((rd_T84 l1 x5_1).f0).toList)) || (!(((rd_T84 l0 x5_1).f1) == ((rd_T84 l1 x5_1).f1)) || (!(((rd_T84 l0 x5_1).f2) == ((rd_T84 l1 x5_1).f2)) || (!(((rd_T84 l0 x5_1).f3) == ((rd_T84 l1 x5_1).f3)) || (!(((rd_T84 l0 x5_1).f4) == ((rd_T84 l1 x5_1).f4)) || (!(((rd_T84 l0 x5_1).f5) == ((rd_T84 l1 x5_1).f5)) || (!(((rd_T84 l0 x5_1).f6) == ((rd_T84 l1 x5_1).f6))))))))) = true
              · rw [if_pos c7] at H
                have c7b0 : (!((((rd_T84 l0 x5_1).f0).toList) == (((rd_T84 l1 x5_1).f0).toList)) || (!(((rd_T84 l0 x5_1).f1) == ((rd_T84 l1 x5_1).f1)) || (!(((rd_T84 l0 x5_1).f2) == ((rd_T84 l1 x5_1).f2)) || (!(((rd_T84 l0 x5_1).f3) == ((rd_T84 l1 x5_1).f3)) || (!(((rd_T84 l0 x5_1).f4) == ((rd_T84 l1 x5_1).f4)) || (!(((rd_T84 l0 x5_1).f5) == ((rd_T84 l1 x5_1).f5)) || (!(((rd_T84 l0 x5_1).f6) == ((rd_T84 l1 x5_1).f6))))))))) = true := c7
                clear c7
                obtain rfl := Option.some.inj H
                have p247 : 0 ≤ (x5_1 : Int) := of_decide_eq_true (by first | (with_reducible assumption) | assumption)
                have q247 : x5_1 < (l0.length : Int) := of_decide_eq_true (by first | (with_reducible assumption) | assumption)
                obtain ⟨ad247, e247, hx247_0, hx247_1, hx247_2, hx247_3, hx247_4, hx247_5, hx247_6⟩ := at_T84 HR0.out x5_1 p247 q247
                cases e247
                replace p247 := eq_true p247
                replace q247 := eq_true q247
                have p248 : 0 ≤ (x5_1 : Int) := of_decide_eq_true (by first | (with_reducible assumption) | assumption)
                have q248 : x5_1 < (l1.length : Int) := of_decide_eq_true (by first | (with_reducible assumption) | assumption)
                obtain ⟨ad248, e248, hx248_0, hx248_1, hx248_2, hx248_3, hx248_4, hx248_5, hx248_6⟩ := at_T84 HR1.out x5_1 p248 q248
                cases e248
                replace p248 := eq_true p248
                replace q248 := eq_true q248
                go_wp2
                repeat (go_quiet (fail); try go_wp2)
                go_ret
                exact ⟨by first | rfl | (simp; done) | (simp [*]; done), by repeat (first | exact Drawn0.refl _ | apply Drawn0.step)⟩
              · rw [if_neg c7] at H
                have c7b0 : (!((((rd_T84 l0 x5_1).f0).toList) == (((rd_T84 l1 x5_1).f0).toList)) || (!(((rd_T84 l0 x5_1).f1) == ((rd_T84 l1 x5_1).f1)) || (!(((rd_T84 l0 x5_1).f2) == ((rd_T84 l1 x5_1).f2)) || (!(((rd_T84 l0 x5_1).f3) == ((rd_T84 l1 x5_1).f3)) || (!(((rd_T84 l0 x5_1).f4) == ((rd_T84 l1 x5_1).f4)) || (!(((rd_T84 l0 x5_1).f5) == ((rd_T84 l1 x5_1).f5)) || (!(((rd_T84 l0 x5_1).f6) == ((rd_T84 l1 x5_1).f6))))))))) = false := by simpa using c7
                clear c7
                have H' := Aside0.mk H
                clear H
                have p247 : 0 ≤ (x5_1 : Int) := of_decide_eq_true (by first | (with_reducible assumption) | assumption)
                have q247 : x5_1 < (l0.length : Int) := of_decide_eq_true (by first | (with_reducible assumption) | assumption)
                obtain ⟨ad247, e247, hx247_0, hx247_1, hx247_2, hx247_3, hx247_4, hx247_5, hx247_6⟩ := at_T84 HR0.out x5_1 p247 q247
                cases e247
                replace p247 := eq_true p247
                replace q247 := eq_true q247
                have p248 : 0 ≤ (x5_1 : Int) := of_decide_eq_true (by first | (with_reducible assumption) | assumption)
                have q248 : x5_1 < (l1.length : Int) := of_decide_eq_true (by first | (with_reducible assumption) | assumption)
                obtain ⟨ad248, e248, hx248_0, hx248_1, hx248_2, hx248_3, hx248_4, hx248_5, hx248_6⟩ := at_T84 HR1.out x5_1 p248 q248
                cases e248
                replace p248 := eq_true p248
                replace q248 := eq_true q248
                go_wp2
                repeat (go_quiet (fail); try go_wp2)
                go_roundg k1
                case measure => have := HK1.out; omega
                case rel => exact ⟨(wrap64 (x5_1 + 1)), (by first | rfl | (simp; done) | (simp [*]; done)), H', ⟨by have := HK1.out; omega⟩, by repeat (first | exact Drawn0.refl _ | apply Drawn0.step)⟩
            · rw [if_neg c6] at H
              exact absurd H (by simp)
          · rw [if_neg c5] at H
            exact absurd H (by simp)
        · rw [if_neg c4] at H
          have c4b0 : decide (x5_1 < (l0.length : Int)) = false := decide_eq_false c4
          clear c4
          obtain rfl := Option.some.inj H
          go_wp2
          repeat (go_quiet (fail); try go_wp2)
          go_ret
          exact ⟨by first | rfl | (simp; done) | (simp [*]; done), by repeat (first | exact Drawn0.refl _ | apply Drawn0.step)⟩
  · rw [if_neg c3] at H
    have c3b0 : ((l0.length : Int) == (l1.length : Int)) = false := beq_eq_false_iff_ne.mpr c3
    have c3b1 : ((l0.length : Int) != (l1.length : Int)) = true := bne_iff_ne.mpr c3
    have c3b2 : (l0.length == l1.length) = false := by first | simpa using c3 | (simp at c3 ⊢; omega)
    obtain rfl := Option.some.inj H
    go_enter Tryz.func22, Tryz.ntmps22
    go_wp2
    repeat (go_quiet (fail); try go_wp2)
    go_ret
    exact ⟨by first | rfl | (simp; done) | (simp [*]; done), by repeat (first | exact Drawn0.refl _ | apply Drawn0.step)⟩
end Go.Proofs.YtdgipencedlbmaaGreatDoor.Pr
namespace Go.Proofs.YtdgipencedlbmaaGreatDoor.Pr
set_option linter.unusedVariables false
set_option linter.unusedSimpArgs false
open Go.RowKit Go.Proofs.YtdgipencedlbmaaGreatDoorW.PrintWords Go.Proofs.YtdgipencedlbmaaGreatDoorW.PrintLast Go.Proofs.YtdgipencedlbmaaGreatDoorW.PrintMore Go.Proofs.YtdgipencedlbmaaGreatDoor.Hand
theorem wrap_nat {i : Nat} (h : i < 9223372036854775807) : wrap64 ((i : Int) + 1) = ((i + 1 : Nat) : Int) := by unfold wrap64; omega
theorem lots_l0 (l : List S57) (hl : l.length < 2199023255552) : ∀ (d i k : Nat), i + d = l.length → d < k → metrolablaw56_lots.l0 k ((l.take i).map t84) l (l.length : Int) i = some (l.map t84) := by
  intro d
  induction d with
  | zero =>
    intro i k hi hk
    obtain ⟨k, rfl⟩ : ∃ j, k = j + 1 := ⟨k - 1, by omega⟩
    simp only [metrolablaw56_lots.l0]
    rw [if_neg (by omega), List.take_of_length_le (by omega)]
  | succ d ih =>
    intro i k hi hk
    obtain ⟨k, rfl⟩ : ∃ j, k = j + 1 := ⟨k - 1, by omega⟩
    have hlt : i < l.length := by omega
    simp only [metrolablaw56_lots.l0]
    rw [if_pos (by omega), if_pos (by omega), if_pos (by omega), if_pos (by rw [List.length_map, List.length_take]; omega), wrap_nat (by omega)]
    have e : (l.take i).map t84 ++ [(⟨(rd_T57 l i).f0, (rd_T57 l i).f1, (rd_T57 l i).f2, (rd_T57 l i).f3, (rd_T57 l i).f4, (rd_T57 l i).f5, (rd_T57 l i).f6⟩ : S84)] = (l.take (i + 1)).map t84 := by
      have er : rd_T57 l (i : Int) = l[i]'hlt := by unfold rd_T57; rw [Int.toNat_natCast, List.getD, List.getElem?_eq_getElem hlt]; rfl
      rw [List.take_succ_eq_append_getElem hlt, List.map_append, er]
      rfl
    rw [e]
    exact ih (i + 1) k (by omega) (by omega)
theorem M84 {w : World} {base : Nat} {ok : Nat → Prop} {x : S57} {c : List Value} (h : k84.M w base ok (t84 x) c) : k57.M w base ok x c := h
theorem R84 {w : World} {base : Nat} {v : Value} {l : List S57} (h : Kd.R k84 84 w base (fun _ => True) v (l.map t84)) : Kd.R k57 84 w base (fun _ => True) v l := by
  obtain ⟨h0, inner, ho, hr1, hr2⟩ := h
  refine ⟨h0, inner, ?_, ?_, ?_⟩
  · rw [List.length_map] at ho; exact ho
  · rw [List.length_map] at hr1; exact hr1
  · intro j p hp
    exact M84 (hr2 j (t84 p) (by rw [List.getElem?_map, hp]; rfl))
theorem lots_calls (A0 : Option Addr) (c0 : Nat) (l : List S57) (w : World) (hr0 : Kd.C k57 w A0 l.length l) (hc0 : l.length ≤ c0) (hl : l.length < 2199023255552) :
    Calls Tryz.prog 14 #[.slice A0 l.length c0] w fun e w' => ∃ A c, e = .returned (.slice A l.length c) ∧ l.length ≤ c ∧ Kd.C k57 w' A l.length l ∧ Below w.heap.size w w' := by
  have hf : metrolablaw56_lots.f (l.length + 1) l = some (l.map t84) := by
    unfold metrolablaw56_lots.f
    exact lots_l0 l hl l.length 0 (l.length + 1) (by omega) (by omega)
  refine (metrolablaw56_lots.calls _ A0 c0 l _ w hr0 hc0 hf).mono ?_
  rintro e w' ⟨v, rfl, hR, hB⟩
  obtain ⟨A, c, rfl, hc, hC⟩ := Kd.R_reads (R84 hR)
  exact ⟨A, c, rfl, hc, hC, hB⟩
theorem same_l0 (l : List S57) (hl : l.length < 9223372036854775807) : ∀ (d i k : Nat), i + d = l.length → d < k → metrolabref56_Same.l0 k (l.map t84) (l.map t84) i = some true := by
  intro d
  induction d with
  | zero =>
    intro i k hi hk
    obtain ⟨k, rfl⟩ : ∃ j, k = j + 1 := ⟨k - 1, by omega⟩
    simp only [metrolabref56_Same.l0]
    rw [if_neg (by rw [List.length_map]; omega)]
  | succ d ih =>
    intro i k hi hk
    obtain ⟨k, rfl⟩ : ∃ j, k = j + 1 := ⟨k - 1, by omega⟩
    simp only [metrolabref56_Same.l0]
    rw [if_pos (by rw [List.length_map]; omega), if_pos (by omega), if_pos (by rw [List.length_map]; omega), if_neg (by simp), wrap_nat (by omega)]
    exact ih (i + 1) k (by omega) (by omega)
theorem same_calls (A0 A1 : Option Addr) (c0 c1 : Nat) (l : List S57) (w : World) (hr0 : Kd.C k57 w A0 l.length l) (hc0 : l.length ≤ c0) (hr1 : Kd.C k57 w A1 l.length l) (hc1 : l.length ≤ c1) (hl : l.length < 9223372036854775807) :
    Calls Tryz.prog 22 #[.slice A0 l.length c0, .slice A1 l.length c1] w fun e w' => e = .returned (.bool true) ∧ Below w.heap.size w w' := by
  have hf : metrolabref56_Same.f (l.length + 1) (l.map t84) (l.map t84) = some true := by
    unfold metrolabref56_Same.f
    rw [if_pos rfl]
    exact same_l0 l hl l.length 0 (l.length + 1) (by omega) (by omega)
  have h := metrolabref56_Same.calls (l.length + 1) A0 c0 (l.map t84) A1 c1 (l.map t84) _ w (by rw [List.length_map]; exact C84 hr0) (by rw [List.length_map]; exact hc0) (by rw [List.length_map]; exact C84 hr1) (by rw [List.length_map]; exact hc1) hf
  rw [List.length_map] at h
  exact h.mono fun _ _ h => ⟨h.1, h.2.below⟩
def sA : ByteArray := ⟨#[65]⟩
def sevenL : List S24 := [⟨0, sA, 10⟩, ⟨1, sA, 6⟩, ⟨2, sA, 4⟩, ⟨3, sA, 3⟩, ⟨4, sA, 1⟩, ⟨5, sA, 0⟩, ⟨6, sA, 0⟩]
theorem Seven_calls (w : World) : Calls Tryz.prog 47 #[] w fun e w' => ∃ ad c, e = .returned (.slice (some ad) 7 c) ∧ 7 ≤ c ∧ Kd.C k24 w' (some ad) 7 sevenL ∧ Below w.heap.size w w' := by
  refine (metrolablaw56_Seven.calls sevenL w rfl).mono ?_
  rintro e w' ⟨v, rfl, hR, hB⟩
  obtain ⟨g, cap, hv, _⟩ := Kd.R_form hR (by decide)
  obtain ⟨A, c, hv2, hc, hC⟩ := Kd.R_reads hR
  rw [hv] at hv2 ⊢
  injection hv2 with e1 _ e3
  subst e1 e3
  exact ⟨_, _, rfl, hc, hC, hB⟩
theorem equal_one (A0 A1 : Option Addr) (c0 c1 : Nat) (x : S57) (w : World) (hr0 : Kd.C k57 w A0 1 [x]) (hc0 : 1 ≤ c0) (hr1 : Kd.C k57 w A1 1 [x]) (hc1 : 1 ≤ c1) :
    Calls Tryz.prog 48 #[.slice A0 1 c0, .slice A1 1 c1] w fun e w' => e = .returned (.bool true) ∧ Below w.heap.size w w' := by
  have hf : register_Lot_48.f 3 [x] [x] = some true := by
    unfold register_Lot_48.f
    rw [if_pos rfl]
    show register_Lot_48.l0 3 [x] [x] 1 0 = some true
    simp only [register_Lot_48.l0]
    rw [if_pos (by decide), if_pos (by decide), if_pos (by simp), if_pos (by simp), if_neg (by simp)]
    show (if wrap64 (0 + 1) < 1 then _ else _) = _
    rw [if_neg (by unfold wrap64; omega)]
  exact (register_Lot_48.calls 3 A0 c0 [x] A1 c1 [x] true w hr0 hc0 hr1 hc1 hf).mono fun _ _ h => ⟨h.1, h.2.below⟩
end Go.Proofs.YtdgipencedlbmaaGreatDoor.Pr
