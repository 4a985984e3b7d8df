/- The reference's lot answers as fitsS says. The reference's names and entries answer as the program's own. The reference's Check answers as checkS says. -/
import Derived.Test.YtdgipencedlbmaaGreatDoorZD02
import Derived.Test.YtdgipencedlbmaaGreatDoorZD03
namespace Go.Proofs.YtdgipencedlbmaaGreatDoor.Pr
open Go.RowKit Go.Proofs.YtdgipencedlbmaaGreatDoorW.PrintWords Go.Proofs.YtdgipencedlbmaaGreatDoorW.PrintLast Go.Proofs.YtdgipencedlbmaaGreatDoorW.PrintMore
attribute [local go_sem] max2_int min2_int max_two min_two max_three min_three max_four min_four   -- for this text's walks alone
set_option linter.unusedVariables false
set_option linter.unusedSimpArgs false
def metrolabref56_Left.f (a0_0 : ByteArray) (a0_1 : Int) (a0_2 : Int) (a0_3 : Int) (a0_4 : Int) (a0_5 : Int) (a0_6 : Int) : Option (Int) := some (wrap64 ((wrap64 ((wrap64 ((wrap64 (a0_1 - a0_2)) - a0_3)) - a0_4)) - a0_5))
set_option maxHeartbeats 8000000 in
set_option maxRecDepth 100000 in
theorem metrolabref56_Left.calls (a0_0 : ByteArray) (a0_1 : Int) (a0_2 : Int) (a0_3 : Int) (a0_4 : Int) (a0_5 : Int) (a0_6 : Int) (r : Int) (w : World) (h : metrolabref56_Left.f a0_0 a0_1 a0_2 a0_3 a0_4 a0_5 a0_6 = some r) :
    Calls Tryz.prog 87 #[.agg #[.string a0_0, .int .i64 a0_1, .int .i64 a0_2, .int .i64 a0_3, .int .i64 a0_4, .int .i64 a0_5, .int .i64 a0_6]] w fun e w' => e = .returned (.int .i64 r) ∧ Below w.heap.size w w' := by
  have hu84 := Tryz.underlying84
  have HB := Aside0.mk (Below.refl w.heap.size w)
  have H : (some (wrap64 ((wrap64 ((wrap64 ((wrap64 (a0_1 - a0_2)) - a0_3)) - a0_4)) - a0_5))) = some r := h
  clear h
  obtain rfl := Option.some.inj H
  go_enter Tryz.func87, Tryz.ntmps87
  go_wp2_with (first | ((with_reducible refine gate_dst (N := 1) rfl ?_); refine box_event ?hg (N := 1) ?hd (cs := #[.string a0_0, .int .i64 a0_1, .int .i64 a0_2, .int .i64 a0_3, .int .i64 a0_4, .int .i64 a0_5, .int .i64 a0_6]) (t := 84) ?hr ?_; (case hd => rfl); (case hg => rfl); (case hr => first | (go_simp; done) | (go_simp; rfl)); intro gb211 hg w2 hbox hb; have n0_ := Aside0.mk (below_step (by repeat (first | (with_reducible first | exact HB.out | apply below_alloc | apply pw_below_drewN | apply below_drew1) | exact HB.out)) hb); have n1_ := Aside0.mk (hbox); have n2_ := Aside0.mk ((by rw [hg]; exact (below_size (by repeat (first | (with_reducible first | exact HB.out | apply below_alloc | apply pw_below_drewN | apply below_drew1) | exact HB.out))) : w.heap.size ≤ gb211)); have n3_ := Aside0.mk ((by rw [hg]; exact (below_size (by repeat (first | (with_reducible first | exact HB.out | apply below_alloc | apply pw_below_drewN | apply below_drew1) | exact HB.out))) : w.heap.size ≤ gb211)); clear HB; have HB := n0_; have BK211 := n1_; have GW211 := n2_; have GE211 := n3_; clear n0_ n1_ n2_ n3_; clear hb hbox hg; have hcz3_0 : w2.cell? ⟨gb211, 0, none⟩ = some (.string a0_0) := (blk_cell BK211.out 0).trans rfl; have hcz3_1 : w2.cell? ⟨gb211, 1, none⟩ = some (.int .i64 a0_1) := (blk_cell BK211.out 1).trans rfl; have hcz3_2 : w2.cell? ⟨gb211, 2, none⟩ = some (.int .i64 a0_2) := (blk_cell BK211.out 2).trans rfl; have hcz3_3 : w2.cell? ⟨gb211, 3, none⟩ = some (.int .i64 a0_3) := (blk_cell BK211.out 3).trans rfl; have hcz3_4 : w2.cell? ⟨gb211, 4, none⟩ = some (.int .i64 a0_4) := (blk_cell BK211.out 4).trans rfl; have hcz3_5 : w2.cell? ⟨gb211, 5, none⟩ = some (.int .i64 a0_5) := (blk_cell BK211.out 5).trans rfl; have hcz3_6 : w2.cell? ⟨gb211, 6, none⟩ = some (.int .i64 a0_6) := (blk_cell BK211.out 6).trans rfl; have hfz3_0 := blk_frozen BK211.out 0; have hfz3_1 := blk_frozen BK211.out 1; have hfz3_2 := blk_frozen BK211.out 2; have hfz3_3 := blk_frozen BK211.out 3; have hfz3_4 := blk_frozen BK211.out 4; have hfz3_5 := blk_frozen BK211.out 5; have hfz3_6 := blk_frozen BK211.out 6))
  go_ret
  exact ⟨by first | rfl | (simp [errW_none, errW_some] <;> rfl) | (simp [*, errW_none, errW_some] <;> rfl), by repeat (first | (with_reducible first | exact HB.out | apply below_alloc | apply pw_below_drewN | apply below_drew1 | refine below_set ?_ GE211.out) | exact HB.out)⟩
end Go.Proofs.YtdgipencedlbmaaGreatDoor.Pr
namespace Go.Proofs.YtdgipencedlbmaaGreatDoor.Pr
set_option linter.unusedVariables false
set_option linter.unusedSimpArgs false
open Go.RowKit Go.Proofs.YtdgipencedlbmaaGreatDoorW.PrintWords Go.Proofs.YtdgipencedlbmaaGreatDoor.Hand
end Go.Proofs.YtdgipencedlbmaaGreatDoor.Pr
namespace Go.Proofs.YtdgipencedlbmaaGreatDoor.Pr
open Go.RowKit Go.Proofs.YtdgipencedlbmaaGreatDoorW.PrintWords Go.Proofs.YtdgipencedlbmaaGreatDoorW.PrintLast Go.Proofs.YtdgipencedlbmaaGreatDoorW.PrintMore
attribute [local go_sem] max2_int min2_int max_two min_two max_three min_three max_four min_four   -- for this text's walks alone
set_option linter.unusedVariables false
set_option linter.unusedSimpArgs false
def metrolabref17_letter.f (a0 : Int) : Option (Bool) := if a0 ≥ 97 then (if a0 ≤ 122 then (some true) else (if a0 ≥ 65 then (some (decide (a0 ≤ 90))) else (some false))) else (if a0 ≥ 65 then (some (decide (a0 ≤ 90))) else (some false))
set_option maxHeartbeats 8000000 in
set_option maxRecDepth 100000 in
theorem metrolabref17_letter.calls (a0 : Int) (r : Bool) (w : World) (h : metrolabref17_letter.f a0 = some r) :
    Calls Tryz.prog 72 #[.int .u8 a0] w fun e w' => e = .returned (.bool r) ∧ Drawn0 w w' := by
  have H : (if a0 ≥ 97 then (if a0 ≤ 122 then (some true) else (if a0 ≥ 65 then (some (decide (a0 ≤ 90))) else (some false))) else (if a0 ≥ 65 then (some (decide (a0 ≤ 90))) else (some false))) = some r := h
  clear h
  by_cases c2 : a0 ≥ 97
  · rw [if_pos c2] at H
    have c2b0 : decide (97 ≤ a0) = true := decide_eq_true c2
    clear c2
    by_cases c3 : a0 ≤ 122
    · rw [if_pos c3] at H
      have c3b0 : decide (a0 ≤ 122) = true := decide_eq_true c3
      clear c3
      obtain rfl := Option.some.inj H
      go_enter Tryz.func72, Tryz.ntmps72
      go_wp2
      go_ret
      exact ⟨by first | rfl | (simp; done) | (simp [*]; done), by repeat (first | exact Drawn0.refl _ | apply Drawn0.step)⟩
    · rw [if_neg c3] at H
      have c3b0 : decide (a0 ≤ 122) = false := decide_eq_false c3
      clear c3
      by_cases c4 : a0 ≥ 65
      · rw [if_pos c4] at H
        have c4b0 : decide (65 ≤ a0) = true := decide_eq_true c4
        clear c4
        obtain rfl := Option.some.inj H
        go_enter Tryz.func72, Tryz.ntmps72
        go_wp2
        go_ret
        exact ⟨by first | rfl | (simp; done) | (simp [*]; done), by repeat (first | exact Drawn0.refl _ | apply Drawn0.step)⟩
      · rw [if_neg c4] at H
        have c4b0 : decide (65 ≤ a0) = false := decide_eq_false c4
        clear c4
        obtain rfl := Option.some.inj H
        go_enter Tryz.func72, Tryz.ntmps72
        go_wp2
        go_ret
        exact ⟨by first | rfl | (simp; done) | (simp [*]; done), by repeat (first | exact Drawn0.refl _ | apply Drawn0.step)⟩
  · rw [if_neg c2] at H
    have c2b0 : decide (97 ≤ a0) = false := decide_eq_false c2
    clear c2
    by_cases c5 : a0 ≥ 65
    · rw [if_pos c5] at H
      have c5b0 : decide (65 ≤ a0) = true := decide_eq_true c5
      clear c5
      obtain rfl := Option.some.inj H
      go_enter Tryz.func72, Tryz.ntmps72
      go_wp2
      go_ret
      exact ⟨by first | rfl | (simp; done) | (simp [*]; done), by repeat (first | exact Drawn0.refl _ | apply Drawn0.step)⟩
    · rw [if_neg c5] at H
      have c5b0 : decide (65 ≤ a0) = false := decide_eq_false c5
      clear c5
      obtain rfl := Option.some.inj H
      go_enter Tryz.func72, Tryz.ntmps72
      go_wp2
      go_ret
      exact ⟨by first | rfl | (simp; done) | (simp [*]; done), by repeat (first | exact Drawn0.refl _ | apply Drawn0.step)⟩
end Go.Proofs.YtdgipencedlbmaaGreatDoor.Pr
namespace Go.Proofs.YtdgipencedlbmaaGreatDoor.Pr
open Go.RowKit Go.Proofs.YtdgipencedlbmaaGreatDoorW.PrintWords Go.Proofs.YtdgipencedlbmaaGreatDoorW.PrintLast Go.Proofs.YtdgipencedlbmaaGreatDoorW.PrintMore
attribute [local go_sem] max2_int min2_int max_two min_two max_three min_three max_four min_four   -- for this text's walks alone
set_option linter.unusedVariables false
set_option linter.unusedSimpArgs false
mutual
def metrolabref17_Name.j0 : Nat → ByteArray → Bool → Option (Int)
  | 0, _, _ => none
  | k + 1, x0, x15 => if x15 = true then (some 3) else (metrolabref17_Name.l0 k x0 0)
def metrolabref17_Name.l0 : Nat → ByteArray → Int → Option (Int)
  | 0, _, _ => none
  | k + 1, x0, x3 => if x3 < (x0.size : Int) then (if 0 ≤ x3 then ((metrolabref17_letter.f (bt x0 x3)).bind fun t186 => (if t186 = true then (metrolabref17_Name.l0 k x0 (wrap64 (x3 + 1))) else (if (bt x0 x3) < 48 then (some 3) else (if (bt x0 x3) > 57 then (some 3) else (metrolabref17_Name.l0 k x0 (wrap64 (x3 + 1))))))) else (none)) else (some 0)
end
def metrolabref17_Name.f (k : Nat) (a0 : ByteArray) : Option (Int) := if (a0.size : Int) > 24 then (some 17) else (if (a0.size : Int) = 0 then (metrolabref17_Name.j0 k a0 true) else (if 0 < (a0.size : Int) then ((metrolabref17_letter.f (bt a0 0)).bind fun t185 => (metrolabref17_Name.j0 k a0 (!t185))) else (none)))
theorem metrolabref17_Name.mono_l : ∀ k, (∀ y0 y1, LeO (metrolabref17_Name.j0 k y0 y1) (metrolabref17_Name.j0 (k + 1) y0 y1)) ∧ (∀ y0 y1, LeO (metrolabref17_Name.l0 k y0 y1) (metrolabref17_Name.l0 (k + 1) y0 y1))
  | 0 => ⟨fun _ _ r h => by simp [metrolabref17_Name.j0] at h, fun _ _ r h => by simp [metrolabref17_Name.l0] at h⟩
  | k + 1 => by
    obtain ⟨ih0, ih1⟩ := metrolabref17_Name.mono_l k
    refine ⟨?_, ?_⟩
    · intro y0 y1
      unfold metrolabref17_Name.j0
      repeat' first
      | (with_reducible exact ih0 _ _)
      | (with_reducible exact ih1 _ _)
      | (with_reducible exact LeO.refl _)
      | (with_reducible exact LeO.none _)
      | (with_reducible refine LeO.ite ?_ ?_)
      | (with_reducible refine LeO.bind ?_ (fun _ => ?_))
      | exact ih0 _ _
      | exact ih1 _ _
      | exact LeO.none _
      | refine LeO.ite ?_ ?_
      | refine LeO.bind ?_ (fun _ => ?_)
    · intro y0 y1
      unfold metrolabref17_Name.l0
      repeat' first
      | (with_reducible exact ih0 _ _)
      | (with_reducible exact ih1 _ _)
      | (with_reducible exact LeO.refl _)
      | (with_reducible exact LeO.none _)
      | (with_reducible refine LeO.ite ?_ ?_)
      | (with_reducible refine LeO.bind ?_ (fun _ => ?_))
      | exact ih0 _ _
      | exact ih1 _ _
      | exact LeO.none _
      | refine LeO.ite ?_ ?_
      | refine LeO.bind ?_ (fun _ => ?_)
theorem metrolabref17_Name.mono : ∀ a0 k, LeO (metrolabref17_Name.f k a0) (metrolabref17_Name.f (k + 1) a0) := by
  intro a0 k
  obtain ⟨ih0, ih1⟩ := metrolabref17_Name.mono_l k
  unfold metrolabref17_Name.f
  repeat' first
      | (with_reducible exact ih0 _ _)
      | (with_reducible exact ih1 _ _)
      | (with_reducible exact LeO.refl _)
      | (with_reducible exact LeO.none _)
      | (with_reducible refine LeO.ite ?_ ?_)
      | (with_reducible refine LeO.bind ?_ (fun _ => ?_))
      | exact ih0 _ _
      | exact ih1 _ _
      | exact LeO.none _
      | refine LeO.ite ?_ ?_
      | refine LeO.bind ?_ (fun _ => ?_)
set_option maxHeartbeats 8000000 in
set_option maxRecDepth 100000 in
theorem metrolabref17_Name.calls (k : Nat) (a0 : ByteArray) (r : Int) (w : World) (h : metrolabref17_Name.f k a0 = some r) :
    Calls Tryz.prog 39 #[.string a0] w fun e w' => e = .returned (.int .i64 r) ∧ Drawn0 w w' := by
  have H : (if (a0.size : Int) > 24 then (some 17) else (if (a0.size : Int) = 0 then (metrolabref17_Name.j0 k a0 true) else (if 0 < (a0.size : Int) then ((metrolabref17_letter.f (bt a0 0)).bind fun t185 => (metrolabref17_Name.j0 k a0 (!t185))) else (none)))) = some r := h
  clear h
  by_cases c2 : (a0.size : Int) > 24
  · rw [if_pos c2] at H
    have c2b0 : decide (24 < (a0.size : Int)) = true := decide_eq_true c2
    have c2b1 : decide (24 < a0.size) = true := decide_eq_true (by omega)
    clear c2
    obtain rfl := Option.some.inj H
    go_enter Tryz.func39, Tryz.ntmps39
    go_wp2
    go_ret
    exact ⟨by first | rfl | (simp; done) | (simp [*]; done), by repeat (first | exact Drawn0.refl _ | apply Drawn0.step)⟩
  · rw [if_neg c2] at H
    have c2b0 : decide (24 < (a0.size : Int)) = false := decide_eq_false c2
    have c2b1 : decide (24 < a0.size) = false := decide_eq_false (by omega)
    clear c2
    have HC3 := Aside0.mk H
    clear H
    go_enter Tryz.func39, Tryz.ntmps39
    go_upto_region 3 with (fail)
    go_cut [15] (fun v15 wc => ∃ (kq : Nat) (x15_2 : Bool), v15 = .bool x15_2 ∧ Aside0 (metrolabref17_Name.j0 kq a0 x15_2 = some r) ∧ Aside0 (kq ≤ k) ∧ Drawn0 w wc)
    case first =>
      have H := HC3.out
      clear HC3
      by_cases c4 : (a0.size : Int) = 0
      · rw [if_pos c4] at H
        have c4b0 : ((a0.size : Int) == 0) = true := beq_iff_eq.mpr c4
        have c4b1 : ((a0.size : Int) != 0) = false := bne_eq_false_iff_eq.mpr c4
        clear c4
        (first | rw [c4b0] | (simp only [i64_w, i32_w]; rw [c4b0]) | skip)
        have H' := Aside0.mk H
        clear H
        go_wp2
        go_meet
        case rel => exact ⟨_, (true), (by first | rfl | (simp; done) | (simp [*]; done)), H', ⟨by first | omega | exact Nat.le_refl _⟩, by repeat (first | exact Drawn0.refl _ | apply Drawn0.step)⟩
      · rw [if_neg c4] at H
        have c4b0 : ((a0.size : Int) == 0) = false := beq_eq_false_iff_ne.mpr c4
        have c4b1 : ((a0.size : Int) != 0) = true := bne_iff_ne.mpr c4
        (first | rw [c4b0] | (simp only [i64_w, i32_w]; rw [c4b0]) | skip)
        by_cases c5 : 0 < (a0.size : Int)
        · rw [if_pos c5] at H
          have c5b0 : decide (0 < (a0.size : Int)) = true := decide_eq_true c5
          have c5b1 : decide (0 < a0.size) = true := decide_eq_true (by omega)
          clear c5
          replace H := Option.bind_eq_some_iff.mp H
          obtain ⟨t185, A70, H⟩ := H
          replace H : (metrolabref17_Name.j0 k a0 (!t185)) = some r := H
          have A7 := Aside0.mk A70
          clear A70
          have H' := Aside0.mk H
          clear H
          have p6 : 0 ≤ (0 : Int) := (by omega)
          have q6 : 0 < a0.size := (by have : (0 : Int) < (a0.size : Int) := of_decide_eq_true (by first | (with_reducible assumption) | assumption); omega)
          have hx6 : ∀ h : 0 < a0.size, ((a0[0]'h).toNat : Int) = bt a0 0 := bt_at a0 0
          clear p6
          have qi6 : (0 < (a0.size : Int)) = True := eq_true (of_decide_eq_true (by first | (with_reducible assumption) | assumption))
          replace q6 := eq_true q6
          go_wp2_with (first | (go_at_call 72; (with_reducible refine (metrolabref17_letter.calls (bt a0 0) t185 _ A7.out).mono ?_); rintro e w' ⟨rfl, ⟨nd, rfl⟩⟩))
          go_meet
          case rel => exact ⟨_, (!t185), (by first | rfl | (simp; done) | (simp [*]; done)), H', ⟨by first | omega | exact Nat.le_refl _⟩, by repeat (first | exact Drawn0.refl _ | apply Drawn0.step)⟩
        · rw [if_neg c5] at H
          exact absurd H (by simp)
    case rest =>
      clear HC3
      try clear c2
      try clear c2b0
      try clear c2b1
      try clear p2
      try clear c3
      try clear c4
      try clear c4b0
      try clear c4b1
      try clear c5
      try clear c5b0
      try clear c5b1
      try clear p6
      try clear q6
      try clear hx6
      try clear qi6
      try clear p6
      try clear q6
      obtain ⟨kq, x15_2, rfl, HA, HJ2, ⟨mc2, rfl⟩⟩ := hcut
      cases kq with
      | zero => exact absurd HA.out (by simp [metrolabref17_Name.j0])
      | succ kj2 =>
        have H := HA.out
        clear HA
        simp only [metrolabref17_Name.j0] at H
        by_cases c8 : x15_2 = true
        · subst c8
          have H1 : (some 3) = some r := by rw [if_pos rfl] at H; exact H
          clear H
          have H := H1
          clear H1
          obtain rfl := Option.some.inj H
          go_wp2
          go_ret
          exact ⟨by first | rfl | (simp; done) | (simp [*]; done), by repeat (first | exact Drawn0.refl _ | apply Drawn0.step)⟩
        · replace c8 := Bool.eq_false_iff.mpr c8
          subst c8
          have H1 : (metrolabref17_Name.l0 kj2 a0 0) = some r := by rw [if_neg (show ¬ (false = true) by decide)] at H; exact H
          clear H
          have H := H1
          clear H1
          have H' := Aside0.mk H
          clear H
          go_wp2
          go_loopg [3] kj2 (fun kq v3 w' => ∃ (x3_2 : Int), v3 = .int .i64 x3_2 ∧ Aside0 (metrolabref17_Name.l0 kq a0 x3_2 = some r) ∧ Aside0 (kq ≤ kj2) ∧ Drawn0 w w')
          case atStart => exact ⟨(0), (by first | rfl | (simp; done) | (simp [*]; done)), H', ⟨Nat.le_refl _⟩, by repeat (first | exact Drawn0.refl _ | apply Drawn0.step)⟩
          case round =>
            clear H'
            try clear c2
            try clear c2b0
            try clear c2b1
            try clear p2
            try clear c3
            try clear c4
            try clear c4b0
            try clear c4b1
            try clear c5
            try clear c5b0
            try clear c5b1
            try clear p6
            try clear q6
            try clear hx6
            try clear qi6
            try clear c8
            try clear p2
            try clear p6
            try clear q6
            obtain ⟨x3_2, rfl, HA, HK2, ⟨m2, rfl⟩⟩ := hrel
            cases gk with
            | zero => exact absurd HA.out (by simp [metrolabref17_Name.l0])
            | succ k2 =>
              have H := HA.out
              clear HA
              simp only [metrolabref17_Name.l0] at H
              by_cases c9 : x3_2 < (a0.size : Int)
              · rw [if_pos c9] at H
                have c9b0 : decide (x3_2 < (a0.size : Int)) = true := decide_eq_true c9
                clear c9
                by_cases c10 : 0 ≤ x3_2
                · rw [if_pos c10] at H
                  have c10b0 : decide (0 ≤ x3_2) = true := decide_eq_true c10
                  clear c10
                  replace H := Option.bind_eq_some_iff.mp H
                  obtain ⟨t186, A120, H⟩ := H
                  replace H : (if t186 = true then (metrolabref17_Name.l0 k2 a0 (wrap64 (x3_2 + 1))) else (if (bt a0 x3_2) < 48 then (some 3) else (if (bt a0 x3_2) > 57 then (some 3) else (metrolabref17_Name.l0 k2 a0 (wrap64 (x3_2 + 1)))))) = some r := H
                  have A12 := Aside0.mk A120
                  clear A120
                  by_cases c13 : t186 = true
                  · subst c13
                    have H1 : (metrolabref17_Name.l0 k2 a0 (wrap64 (x3_2 + 1))) = some r := by rw [if_pos rfl] at H; exact H
                    clear H
                    have H := H1
                    clear H1
                    have H' := Aside0.mk H
                    clear H
                    have p11 : 0 ≤ (x3_2 : Int) := of_decide_eq_true (by first | (with_reducible assumption) | assumption)
                    have q11 : x3_2 < (a0.size : Int) := of_decide_eq_true (by first | (with_reducible assumption) | assumption)
                    have hx11 := bt_at a0 x3_2
                    replace p11 := eq_true p11
                    replace q11 := eq_true q11
                    go_wp2_with (first | ((with_reducible refine gate_callee (f := 72) rfl ?_); refine goesL_ (some 25) rfl rfl Tryz.func72 (by kernel_rfl) rfl #[.int .u8 (bt a0 x3_2)] rfl (by (try simp only [List.map_toArray, List.map_cons, List.map_nil]); first | done | rfl | (simp only [List.length_drop, List.length_take]; rfl)) ?_; (with_reducible refine (metrolabref17_letter.calls (bt a0 x3_2) true _ A12.out).mono ?_); rintro e w' ⟨rfl, ⟨nd, rfl⟩⟩; refine ⟨_, rfl, ?_⟩))
                    go_roundg k2
                    case measure => have := HJ2.out; have := HK2.out; omega
                    case rel => exact ⟨(wrap64 (x3_2 + 1)), (by first | rfl | (simp; done) | (simp [*]; done)), H', ⟨by have := HJ2.out; have := HK2.out; omega⟩, by repeat (first | exact Drawn0.refl _ | apply Drawn0.step)⟩
                  · replace c13 := Bool.eq_false_iff.mpr c13
                    subst c13
                    have H1 : (if (bt a0 x3_2) < 48 then (some 3) else (if (bt a0 x3_2) > 57 then (some 3) else (metrolabref17_Name.l0 k2 a0 (wrap64 (x3_2 + 1))))) = some r := by rw [if_neg (show ¬ (false = true) by decide)] at H; exact H
                    clear H
                    have H := H1
                    clear H1
                    by_cases c15 : (bt a0 x3_2) < 48
                    · rw [if_pos c15] at H
                      have c15b0 : decide ((bt a0 x3_2) < 48) = true := decide_eq_true c15
                      clear c15
                      obtain rfl := Option.some.inj H
                      have p11 : 0 ≤ (x3_2 : Int) := of_decide_eq_true (by first | (with_reducible assumption) | assumption)
                      have q11 : x3_2 < (a0.size : Int) := of_decide_eq_true (by first | (with_reducible assumption) | assumption)
                      have hx11 := bt_at a0 x3_2
                      replace p11 := eq_true p11
                      replace q11 := eq_true q11
                      go_wp2_with (first | ((with_reducible refine gate_callee (f := 72) rfl ?_); refine goesL_ (some 25) rfl rfl Tryz.func72 (by kernel_rfl) rfl #[.int .u8 (bt a0 x3_2)] rfl (by (try simp only [List.map_toArray, List.map_cons, List.map_nil]); first | done | rfl | (simp only [List.length_drop, List.length_take]; rfl)) ?_; (with_reducible refine (metrolabref17_letter.calls (bt a0 x3_2) false _ A12.out).mono ?_); rintro e w' ⟨rfl, ⟨nd, rfl⟩⟩; refine ⟨_, rfl, ?_⟩; have p14 : 0 ≤ (x3_2 : Int) := of_decide_eq_true (by first | (with_reducible assumption) | assumption); have q14 : x3_2 < (a0.size : Int) := of_decide_eq_true (by first | (with_reducible assumption) | assumption); have hx14 := bt_at a0 x3_2; replace p14 := eq_true p14; replace q14 := eq_true q14))
                      go_ret
                      exact ⟨by first | rfl | (simp; done) | (simp [*]; done), by repeat (first | exact Drawn0.refl _ | apply Drawn0.step)⟩
                    · rw [if_neg c15] at H
                      have c15b0 : decide ((bt a0 x3_2) < 48) = false := decide_eq_false c15
                      clear c15
                      by_cases c17 : (bt a0 x3_2) > 57
                      · rw [if_pos c17] at H
                        have c17b0 : decide (57 < (bt a0 x3_2)) = true := decide_eq_true c17
                        clear c17
                        obtain rfl := Option.some.inj H
                        have p11 : 0 ≤ (x3_2 : Int) := of_decide_eq_true (by first | (with_reducible assumption) | assumption)
                        have q11 : x3_2 < (a0.size : Int) := of_decide_eq_true (by first | (with_reducible assumption) | assumption)
                        have hx11 := bt_at a0 x3_2
                        replace p11 := eq_true p11
                        replace q11 := eq_true q11
                        go_wp2_with (first | ((with_reducible refine gate_callee (f := 72) rfl ?_); refine goesL_ (some 25) rfl rfl Tryz.func72 (by kernel_rfl) rfl #[.int .u8 (bt a0 x3_2)] rfl (by (try simp only [List.map_toArray, List.map_cons, List.map_nil]); first | done | rfl | (simp only [List.length_drop, List.length_take]; rfl)) ?_; (with_reducible refine (metrolabref17_letter.calls (bt a0 x3_2) false _ A12.out).mono ?_); rintro e w' ⟨rfl, ⟨nd, rfl⟩⟩; refine ⟨_, rfl, ?_⟩; have p14 : 0 ≤ (x3_2 : Int) := of_decide_eq_true (by first | (with_reducible assumption) | assumption); have q14 : x3_2 < (a0.size : Int) := of_decide_eq_true (by first | (with_reducible assumption) | assumption); have hx14 := bt_at a0 x3_2; replace p14 := eq_true p14; replace q14 := eq_true q14; have p16 : 0 ≤ (x3_2 : Int) := of_decide_eq_true (by first | (with_reducible assumption) | assumption); have q16 : x3_2 < (a0.size : Int) := of_decide_eq_true (by first | (with_reducible assumption) | assumption); have hx16 := bt_at a0 x3_2; replace p16 := eq_true p16; replace q16 := eq_true q16))
                        go_ret
                        exact ⟨by first | rfl | (simp; done) | (simp [*]; done), by repeat (first | exact Drawn0.refl _ | apply Drawn0.step)⟩
                      · rw [if_neg c17] at H
                        have c17b0 : decide (57 < (bt a0 x3_2)) = false := decide_eq_false c17
                        clear c17
                        have H' := Aside0.mk H
                        clear H
                        have p11 : 0 ≤ (x3_2 : Int) := of_decide_eq_true (by first | (with_reducible assumption) | assumption)
                        have q11 : x3_2 < (a0.size : Int) := of_decide_eq_true (by first | (with_reducible assumption) | assumption)
                        have hx11 := bt_at a0 x3_2
                        replace p11 := eq_true p11
                        replace q11 := eq_true q11
                        go_wp2_with (first | ((with_reducible refine gate_callee (f := 72) rfl ?_); refine goesL_ (some 25) rfl rfl Tryz.func72 (by kernel_rfl) rfl #[.int .u8 (bt a0 x3_2)] rfl (by (try simp only [List.map_toArray, List.map_cons, List.map_nil]); first | done | rfl | (simp only [List.length_drop, List.length_take]; rfl)) ?_; (with_reducible refine (metrolabref17_letter.calls (bt a0 x3_2) false _ A12.out).mono ?_); rintro e w' ⟨rfl, ⟨nd, rfl⟩⟩; refine ⟨_, rfl, ?_⟩; have p14 : 0 ≤ (x3_2 : Int) := of_decide_eq_true (by first | (with_reducible assumption) | assumption); have q14 : x3_2 < (a0.size : Int) := of_decide_eq_true (by first | (with_reducible assumption) | assumption); have hx14 := bt_at a0 x3_2; replace p14 := eq_true p14; replace q14 := eq_true q14; have p16 : 0 ≤ (x3_2 : Int) := of_decide_eq_true (by first | (with_reducible assumption) | assumption); have q16 : x3_2 < (a0.size : Int) := of_decide_eq_true (by first | (with_reducible assumption) | assumption); have hx16 := bt_at a0 x3_2; replace p16 := eq_true p16; replace q16 := eq_true q16))
                        go_roundg k2
                        case measure => have := HJ2.out; have := HK2.out; omega
                        case rel => exact ⟨(wrap64 (x3_2 + 1)), (by first | rfl | (simp; done) | (simp [*]; done)), H', ⟨by have := HJ2.out; have := HK2.out; omega⟩, by repeat (first | exact Drawn0.refl _ | apply Drawn0.step)⟩
                · rw [if_neg c10] at H
                  exact absurd H (by simp)
              · rw [if_neg c9] at H
                have c9b0 : decide (x3_2 < (a0.size : Int)) = false := decide_eq_false c9
                clear c9
                obtain rfl := Option.some.inj H
                go_wp2
                go_ret
                exact ⟨by first | rfl | (simp; done) | (simp [*]; done), by repeat (first | exact Drawn0.refl _ | apply Drawn0.step)⟩
end Go.Proofs.YtdgipencedlbmaaGreatDoor.Pr
namespace Go.Proofs.YtdgipencedlbmaaGreatDoor.Pr
open Go.RowKit Go.Proofs.YtdgipencedlbmaaGreatDoorW.PrintWords Go.Proofs.YtdgipencedlbmaaGreatDoorW.PrintLast Go.Proofs.YtdgipencedlbmaaGreatDoorW.PrintMore
attribute [local go_sem] max2_int min2_int max_two min_two max_three min_three max_four min_four   -- for this text's walks alone
set_option linter.unusedVariables false
set_option linter.unusedSimpArgs false
def metrolabref56_Right.j0 : Nat → Bool → Int → ByteArray → Int → Option (Int)
  | 0, _, _, _, _ => none
  | k + 1, x11, x188000, x188001, x188002 => if x11 = true then (some 1) else ((metrolabref17_Name.f k x188001).bind fun t188 => (if t188 = 0 then (if x188000 ≥ 5 then (if x188002 = 0 then (if x188000 < 5 then (if x188002 < 1 then (some 2) else (if x188002 > 1048576 then (some 2) else (some 0))) else (some 0)) else (some 2)) else (if x188000 < 5 then (if x188002 < 1 then (some 2) else (if x188002 > 1048576 then (some 2) else (some 0))) else (some 0))) else (some t188)))
def metrolabref56_Right.f (k : Nat) (a0_0 : Int) (a0_1 : ByteArray) (a0_2 : Int) : Option (Int) := if a0_0 < 0 then (metrolabref56_Right.j0 k true a0_0 a0_1 a0_2) else (metrolabref56_Right.j0 k (decide (a0_0 > 6)) a0_0 a0_1 a0_2)
theorem metrolabref56_Right.mono_l : ∀ k, (∀ y0 y1 y2 y3, LeO (metrolabref56_Right.j0 k y0 y1 y2 y3) (metrolabref56_Right.j0 (k + 1) y0 y1 y2 y3))
  | 0 => fun _ _ _ _ r h => by simp [metrolabref56_Right.j0] at h
  | k + 1 => by
    have ih0 := metrolabref56_Right.mono_l k
    · intro y0 y1 y2 y3
      unfold metrolabref56_Right.j0
      repeat' first
      | (with_reducible exact ih0 _ _ _ _)
      | (with_reducible exact metrolabref17_Name.mono _ _)
      | (with_reducible exact LeO.refl _)
      | (with_reducible exact LeO.none _)
      | (with_reducible refine LeO.ite ?_ ?_)
      | (with_reducible refine LeO.bind ?_ (fun _ => ?_))
      | exact ih0 _ _ _ _
      | exact metrolabref17_Name.mono _ _
      | exact LeO.none _
      | refine LeO.ite ?_ ?_
      | refine LeO.bind ?_ (fun _ => ?_)
theorem metrolabref56_Right.mono : ∀ a0 a1 a2 k, LeO (metrolabref56_Right.f k a0 a1 a2) (metrolabref56_Right.f (k + 1) a0 a1 a2) := by
  intro a0 a1 a2 k
  have ih0 := metrolabref56_Right.mono_l k
  unfold metrolabref56_Right.f
  repeat' first
      | (with_reducible exact ih0 _ _ _ _)
      | (with_reducible exact metrolabref17_Name.mono _ _)
      | (with_reducible exact LeO.refl _)
      | (with_reducible exact LeO.none _)
      | (with_reducible refine LeO.ite ?_ ?_)
      | (with_reducible refine LeO.bind ?_ (fun _ => ?_))
      | exact ih0 _ _ _ _
      | exact metrolabref17_Name.mono _ _
      | exact LeO.none _
      | refine LeO.ite ?_ ?_
      | refine LeO.bind ?_ (fun _ => ?_)
set_option maxHeartbeats 8000000 in
set_option maxRecDepth 100000 in
theorem metrolabref56_Right.calls (k : Nat) (a0_0 : Int) (a0_1 : ByteArray) (a0_2 : Int) (r : Int) (w : World) (h : metrolabref56_Right.f k a0_0 a0_1 a0_2 = some r) :
    Calls Tryz.prog 21 #[.agg #[.int .i64 a0_0, .string a0_1, .int .i64 a0_2]] w fun e w' => e = .returned (.int .i64 r) ∧ Below w.heap.size w w' := by
  have hu34 := Tryz.underlying34
  have HB := Aside0.mk (Below.refl w.heap.size w)
  have H : (if a0_0 < 0 then (metrolabref56_Right.j0 k true a0_0 a0_1 a0_2) else (metrolabref56_Right.j0 k (decide (a0_0 > 6)) a0_0 a0_1 a0_2)) = some r := h
  clear h
  have HC2 := Aside0.mk H
  clear H
  go_enter Tryz.func21, Tryz.ntmps21
  go_upto_region 1 with (first | ((with_reducible refine gate_dst (N := 1) rfl ?_); refine box_event ?hg (N := 1) ?hd (cs := #[.int .i64 a0_0, .string a0_1, .int .i64 a0_2]) (t := 34) ?hr ?_; (case hd => rfl); (case hg => rfl); (case hr => first | (go_simp; done) | (go_simp; rfl)); intro gb187 hg w3 hbox hb; have n0_ := Aside0.mk (below_step (by repeat (first | (with_reducible first | exact HB.out | apply below_alloc | apply pw_below_drewN | apply below_drew1) | exact HB.out)) hb); have n1_ := Aside0.mk (hbox); have n2_ := Aside0.mk ((by rw [hg]; exact (below_size (by repeat (first | (with_reducible first | exact HB.out | apply below_alloc | apply pw_below_drewN | apply below_drew1) | exact HB.out))) : w.heap.size ≤ gb187)); have n3_ := Aside0.mk ((by rw [hg]; exact (below_size (by repeat (first | (with_reducible first | exact HB.out | apply below_alloc | apply pw_below_drewN | apply below_drew1) | exact HB.out))) : w.heap.size ≤ gb187)); clear HB; have HB := n0_; have BK187 := n1_; have GW187 := n2_; have GE187 := n3_; clear n0_ n1_ n2_ n3_; clear hb hbox hg))
  (try simp only [Act.put, List.setIfInBounds_toArray, List.set_cons_zero, List.set_cons_succ])
  go_cut [11] (fun v11 wc => ∃ (kq : Nat) (x11_1 : Bool), v11 = .bool x11_1 ∧ Aside0 (metrolabref56_Right.j0 kq x11_1 a0_0 a0_1 a0_2 = some r) ∧ Aside0 (kq ≤ k) ∧ Aside0 (wc.heap[gb187]? = some (.cells #[.int .i64 a0_0, .string a0_1, .int .i64 a0_2] 34 (0, 0))) ∧ Aside0 (Below w.heap.size w wc))
  case first =>
    have H := HC2.out
    clear HC2
    by_cases c4 : a0_0 < 0
    · rw [if_pos c4] at H
      have c4b0 : decide (a0_0 < 0) = true := decide_eq_true c4
      clear c4
      (first | rw [c4b0] | (simp only [i64_w, i32_w]; rw [c4b0]) | skip)
      have H' := Aside0.mk H
      clear H
      have hcz5_0 : w3.cell? ⟨gb187, 0, none⟩ = some (.int .i64 a0_0) := (blk_cell BK187.out 0).trans rfl
      have hcz5_1 : w3.cell? ⟨gb187, 1, none⟩ = some (.string a0_1) := (blk_cell BK187.out 1).trans rfl
      have hcz5_2 : w3.cell? ⟨gb187, 2, none⟩ = some (.int .i64 a0_2) := (blk_cell BK187.out 2).trans rfl
      have hfz5_0 := blk_frozen BK187.out 0
      have hfz5_1 := blk_frozen BK187.out 1
      have hfz5_2 := blk_frozen BK187.out 2
      go_wp2
      go_meet
      case rel => exact ⟨_, (true), (by first | rfl | (simp; done) | (simp [*]; done)), H', ⟨by first | omega | exact Nat.le_refl _⟩, ⟨by (with_reducible repeat (first | refine blk_drewN ?_ _ | refine blk_drew ?_ | refine blk_alloc ?_ _)); exact BK187.out⟩, ⟨by repeat (first | (with_reducible first | exact HB.out | apply below_alloc | apply pw_below_drewN | apply below_drew1 | refine below_set ?_ GE187.out) | exact HB.out)⟩⟩
    · rw [if_neg c4] at H
      have c4b0 : decide (a0_0 < 0) = false := decide_eq_false c4
      clear c4
      (first | rw [c4b0] | (simp only [i64_w, i32_w]; rw [c4b0]) | skip)
      have H' := Aside0.mk H
      clear H
      have hcz6_0 : w3.cell? ⟨gb187, 0, none⟩ = some (.int .i64 a0_0) := (blk_cell BK187.out 0).trans rfl
      have hcz6_1 : w3.cell? ⟨gb187, 1, none⟩ = some (.string a0_1) := (blk_cell BK187.out 1).trans rfl
      have hcz6_2 : w3.cell? ⟨gb187, 2, none⟩ = some (.int .i64 a0_2) := (blk_cell BK187.out 2).trans rfl
      have hfz6_0 := blk_frozen BK187.out 0
      have hfz6_1 := blk_frozen BK187.out 1
      have hfz6_2 := blk_frozen BK187.out 2
      go_wp2
      go_meet
      case rel => exact ⟨_, (decide (a0_0 > 6)), (by first | rfl | (simp; done) | (simp [*]; done)), H', ⟨by first | omega | exact Nat.le_refl _⟩, ⟨by (with_reducible repeat (first | refine blk_drewN ?_ _ | refine blk_drew ?_ | refine blk_alloc ?_ _)); exact BK187.out⟩, ⟨by repeat (first | (with_reducible first | exact HB.out | apply below_alloc | apply pw_below_drewN | apply below_drew1 | refine below_set ?_ GE187.out) | exact HB.out)⟩⟩
  case rest =>
    clear HC2
    try clear c2
    try clear p2
    try clear c4
    try clear c4b0
    try clear hcz5_0
    try clear hcz5_1
    try clear hcz5_2
    try clear hcz6_0
    try clear hcz6_1
    try clear hcz6_2
    try clear hfz5_0
    try clear hfz5_1
    try clear hfz5_2
    try clear hfz6_0
    try clear hfz6_1
    try clear hfz6_2
    obtain ⟨kq, x11_1, rfl, HA, HJ1, BK187, HB⟩ := hcut
    cases kq with
    | zero => exact absurd HA.out (by simp [metrolabref56_Right.j0])
    | succ kj1 =>
      have H := HA.out
      clear HA
      simp only [metrolabref56_Right.j0] at H
      by_cases c7 : x11_1 = true
      · subst c7
        have H1 : (some 1) = some r := by rw [if_pos rfl] at H; exact H
        clear H
        have H := H1
        clear H1
        obtain rfl := Option.some.inj H
        go_wp2
        go_ret
        exact ⟨by first | rfl | (simp [errW_none, errW_some] <;> rfl) | (simp [*, errW_none, errW_some] <;> rfl), by repeat (first | (with_reducible first | exact HB.out | apply below_alloc | apply pw_below_drewN | apply below_drew1 | refine below_set ?_ GE187.out) | exact HB.out)⟩
      · replace c7 := Bool.eq_false_iff.mpr c7
        subst c7
        have H1 : ((metrolabref17_Name.f kj1 a0_1).bind fun t188 => (if t188 = 0 then (if a0_0 ≥ 5 then (if a0_2 = 0 then (if a0_0 < 5 then (if a0_2 < 1 then (some 2) else (if a0_2 > 1048576 then (some 2) else (some 0))) else (some 0)) else (some 2)) else (if a0_0 < 5 then (if a0_2 < 1 then (some 2) else (if a0_2 > 1048576 then (some 2) else (some 0))) else (some 0))) else (some t188))) = some r := by rw [if_neg (show ¬ (false = true) by decide)] at H; exact H
        clear H
        have H := H1
        clear H1
        replace H := Option.bind_eq_some_iff.mp H
        obtain ⟨t188, A80, H⟩ := H
        replace H : (if t188 = 0 then (if a0_0 ≥ 5 then (if a0_2 = 0 then (if a0_0 < 5 then (if a0_2 < 1 then (some 2) else (if a0_2 > 1048576 then (some 2) else (some 0))) else (some 0)) else (some 2)) else (if a0_0 < 5 then (if a0_2 < 1 then (some 2) else (if a0_2 > 1048576 then (some 2) else (some 0))) else (some 0))) else (some t188)) = some r := H
        have A8 := Aside0.mk A80
        clear A80
        by_cases c9 : t188 = 0
        · rw [if_pos c9] at H
          have c9b0 : (t188 == 0) = true := beq_iff_eq.mpr c9
          have c9b1 : (t188 != 0) = false := bne_eq_false_iff_eq.mpr c9
          clear c9
          by_cases c10 : a0_0 ≥ 5
          · rw [if_pos c10] at H
            have c10b0 : decide (5 ≤ a0_0) = true := decide_eq_true c10
            clear c10
            by_cases c11 : a0_2 = 0
            · rw [if_pos c11] at H
              have c11b0 : (a0_2 == 0) = true := beq_iff_eq.mpr c11
              have c11b1 : (a0_2 != 0) = false := bne_eq_false_iff_eq.mpr c11
              clear c11
              by_cases c12 : a0_0 < 5
              · rw [if_pos c12] at H
                have c12b0 : decide (a0_0 < 5) = true := decide_eq_true c12
                clear c12
                by_cases c13 : a0_2 < 1
                · rw [if_pos c13] at H
                  have c13b0 : decide (a0_2 < 1) = true := decide_eq_true c13
                  clear c13
                  obtain rfl := Option.some.inj H
                  have hcz14_0 : wc.cell? ⟨gb187, 0, none⟩ = some (.int .i64 a0_0) := (blk_cell BK187.out 0).trans rfl
                  have hcz14_1 : wc.cell? ⟨gb187, 1, none⟩ = some (.string a0_1) := (blk_cell BK187.out 1).trans rfl
                  have hcz14_2 : wc.cell? ⟨gb187, 2, none⟩ = some (.int .i64 a0_2) := (blk_cell BK187.out 2).trans rfl
                  have hfz14_0 := blk_frozen BK187.out 0
                  have hfz14_1 := blk_frozen BK187.out 1
                  have hfz14_2 := blk_frozen BK187.out 2
                  go_wp2_with (first | ((with_reducible refine gate_callee (f := 39) rfl ?_); refine goesL_ (some 14) rfl rfl Tryz.func39 (by kernel_rfl) rfl #[.string a0_1] rfl (by (try simp only [List.map_toArray, List.map_cons, List.map_nil]); first | done | rfl | (simp only [List.length_drop, List.length_take]; rfl)) ?_; (with_reducible refine (metrolabref17_Name.calls kj1 a0_1 t188 _ A8.out).mono ?_); rintro e w' ⟨rfl, ⟨nd, rfl⟩⟩; refine ⟨_, rfl, ?_⟩))
                  go_ret
                  exact ⟨by first | rfl | (simp [errW_none, errW_some] <;> rfl) | (simp [*, errW_none, errW_some] <;> rfl), by repeat (first | (with_reducible first | exact HB.out | apply below_alloc | apply pw_below_drewN | apply below_drew1 | refine below_set ?_ GE187.out) | exact HB.out)⟩
                · rw [if_neg c13] at H
                  have c13b0 : decide (a0_2 < 1) = false := decide_eq_false c13
                  clear c13
                  by_cases c15 : a0_2 > 1048576
                  · rw [if_pos c15] at H
                    have c15b0 : decide (1048576 < a0_2) = true := decide_eq_true c15
                    clear c15
                    obtain rfl := Option.some.inj H
                    have hcz16_0 : wc.cell? ⟨gb187, 0, none⟩ = some (.int .i64 a0_0) := (blk_cell BK187.out 0).trans rfl
                    have hcz16_1 : wc.cell? ⟨gb187, 1, none⟩ = some (.string a0_1) := (blk_cell BK187.out 1).trans rfl
                    have hcz16_2 : wc.cell? ⟨gb187, 2, none⟩ = some (.int .i64 a0_2) := (blk_cell BK187.out 2).trans rfl
                    have hfz16_0 := blk_frozen BK187.out 0
                    have hfz16_1 := blk_frozen BK187.out 1
                    have hfz16_2 := blk_frozen BK187.out 2
                    go_wp2_with (first | ((with_reducible refine gate_callee (f := 39) rfl ?_); refine goesL_ (some 14) rfl rfl Tryz.func39 (by kernel_rfl) rfl #[.string a0_1] rfl (by (try simp only [List.map_toArray, List.map_cons, List.map_nil]); first | done | rfl | (simp only [List.length_drop, List.length_take]; rfl)) ?_; (with_reducible refine (metrolabref17_Name.calls kj1 a0_1 t188 _ A8.out).mono ?_); rintro e w' ⟨rfl, ⟨nd, rfl⟩⟩; refine ⟨_, rfl, ?_⟩))
                    go_ret
                    exact ⟨by first | rfl | (simp [errW_none, errW_some] <;> rfl) | (simp [*, errW_none, errW_some] <;> rfl), by repeat (first | (with_reducible first | exact HB.out | apply below_alloc | apply pw_below_drewN | apply below_drew1 | refine below_set ?_ GE187.out) | exact HB.out)⟩
                  · rw [if_neg c15] at H
                    have c15b0 : decide (1048576 < a0_2) = false := decide_eq_false c15
                    clear c15
                    obtain rfl := Option.some.inj H
                    have hcz17_0 : wc.cell? ⟨gb187, 0, none⟩ = some (.int .i64 a0_0) := (blk_cell BK187.out 0).trans rfl
                    have hcz17_1 : wc.cell? ⟨gb187, 1, none⟩ = some (.string a0_1) := (blk_cell BK187.out 1).trans rfl
                    have hcz17_2 : wc.cell? ⟨gb187, 2, none⟩ = some (.int .i64 a0_2) := (blk_cell BK187.out 2).trans rfl
                    have hfz17_0 := blk_frozen BK187.out 0
                    have hfz17_1 := blk_frozen BK187.out 1
                    have hfz17_2 := blk_frozen BK187.out 2
                    go_wp2_with (first | ((with_reducible refine gate_callee (f := 39) rfl ?_); refine goesL_ (some 14) rfl rfl Tryz.func39 (by kernel_rfl) rfl #[.string a0_1] rfl (by (try simp only [List.map_toArray, List.map_cons, List.map_nil]); first | done | rfl | (simp only [List.length_drop, List.length_take]; rfl)) ?_; (with_reducible refine (metrolabref17_Name.calls kj1 a0_1 t188 _ A8.out).mono ?_); rintro e w' ⟨rfl, ⟨nd, rfl⟩⟩; refine ⟨_, rfl, ?_⟩))
                    go_ret
                    exact ⟨by first | rfl | (simp [errW_none, errW_some] <;> rfl) | (simp [*, errW_none, errW_some] <;> rfl), by repeat (first | (with_reducible first | exact HB.out | apply below_alloc | apply pw_below_drewN | apply below_drew1 | refine below_set ?_ GE187.out) | exact HB.out)⟩
              · rw [if_neg c12] at H
                have c12b0 : decide (a0_0 < 5) = false := decide_eq_false c12
                clear c12
                obtain rfl := Option.some.inj H
                have hcz18_0 : wc.cell? ⟨gb187, 0, none⟩ = some (.int .i64 a0_0) := (blk_cell BK187.out 0).trans rfl
                have hcz18_1 : wc.cell? ⟨gb187, 1, none⟩ = some (.string a0_1) := (blk_cell BK187.out 1).trans rfl
                have hcz18_2 : wc.cell? ⟨gb187, 2, none⟩ = some (.int .i64 a0_2) := (blk_cell BK187.out 2).trans rfl
                have hfz18_0 := blk_frozen BK187.out 0
                have hfz18_1 := blk_frozen BK187.out 1
                have hfz18_2 := blk_frozen BK187.out 2
                go_wp2_with (first | ((with_reducible refine gate_callee (f := 39) rfl ?_); refine goesL_ (some 14) rfl rfl Tryz.func39 (by kernel_rfl) rfl #[.string a0_1] rfl (by (try simp only [List.map_toArray, List.map_cons, List.map_nil]); first | done | rfl | (simp only [List.length_drop, List.length_take]; rfl)) ?_; (with_reducible refine (metrolabref17_Name.calls kj1 a0_1 t188 _ A8.out).mono ?_); rintro e w' ⟨rfl, ⟨nd, rfl⟩⟩; refine ⟨_, rfl, ?_⟩))
                go_ret
                exact ⟨by first | rfl | (simp [errW_none, errW_some] <;> rfl) | (simp [*, errW_none, errW_some] <;> rfl), by repeat (first | (with_reducible first | exact HB.out | apply below_alloc | apply pw_below_drewN | apply below_drew1 | refine below_set ?_ GE187.out) | exact HB.out)⟩
            · rw [if_neg c11] at H
              have c11b0 : (a0_2 == 0) = false := beq_eq_false_iff_ne.mpr c11
              have c11b1 : (a0_2 != 0) = true := bne_iff_ne.mpr c11
              obtain rfl := Option.some.inj H
              have hcz19_0 : wc.cell? ⟨gb187, 0, none⟩ = some (.int .i64 a0_0) := (blk_cell BK187.out 0).trans rfl
              have hcz19_1 : wc.cell? ⟨gb187, 1, none⟩ = some (.string a0_1) := (blk_cell BK187.out 1).trans rfl
              have hcz19_2 : wc.cell? ⟨gb187, 2, none⟩ = some (.int .i64 a0_2) := (blk_cell BK187.out 2).trans rfl
              have hfz19_0 := blk_frozen BK187.out 0
              have hfz19_1 := blk_frozen BK187.out 1
              have hfz19_2 := blk_frozen BK187.out 2
              go_wp2_with (first | ((with_reducible refine gate_callee (f := 39) rfl ?_); refine goesL_ (some 14) rfl rfl Tryz.func39 (by kernel_rfl) rfl #[.string a0_1] rfl (by (try simp only [List.map_toArray, List.map_cons, List.map_nil]); first | done | rfl | (simp only [List.length_drop, List.length_take]; rfl)) ?_; (with_reducible refine (metrolabref17_Name.calls kj1 a0_1 t188 _ A8.out).mono ?_); rintro e w' ⟨rfl, ⟨nd, rfl⟩⟩; refine ⟨_, rfl, ?_⟩))
              go_ret
              exact ⟨by first | rfl | (simp [errW_none, errW_some] <;> rfl) | (simp [*, errW_none, errW_some] <;> rfl), by repeat (first | (with_reducible first | exact HB.out | apply below_alloc | apply pw_below_drewN | apply below_drew1 | refine below_set ?_ GE187.out) | exact HB.out)⟩
          · rw [if_neg c10] at H
            have c10b0 : decide (5 ≤ a0_0) = false := decide_eq_false c10
            clear c10
            by_cases c20 : a0_0 < 5
            · rw [if_pos c20] at H
              have c20b0 : decide (a0_0 < 5) = true := decide_eq_true c20
              clear c20
              by_cases c21 : a0_2 < 1
              · rw [if_pos c21] at H
                have c21b0 : decide (a0_2 < 1) = true := decide_eq_true c21
                clear c21
                obtain rfl := Option.some.inj H
                have hcz22_0 : wc.cell? ⟨gb187, 0, none⟩ = some (.int .i64 a0_0) := (blk_cell BK187.out 0).trans rfl
                have hcz22_1 : wc.cell? ⟨gb187, 1, none⟩ = some (.string a0_1) := (blk_cell BK187.out 1).trans rfl
                have hcz22_2 : wc.cell? ⟨gb187, 2, none⟩ = some (.int .i64 a0_2) := (blk_cell BK187.out 2).trans rfl
                have hfz22_0 := blk_frozen BK187.out 0
                have hfz22_1 := blk_frozen BK187.out 1
                have hfz22_2 := blk_frozen BK187.out 2
                go_wp2_with (first | ((with_reducible refine gate_callee (f := 39) rfl ?_); refine goesL_ (some 14) rfl rfl Tryz.func39 (by kernel_rfl) rfl #[.string a0_1] rfl (by (try simp only [List.map_toArray, List.map_cons, List.map_nil]); first | done | rfl | (simp only [List.length_drop, List.length_take]; rfl)) ?_; (with_reducible refine (metrolabref17_Name.calls kj1 a0_1 t188 _ A8.out).mono ?_); rintro e w' ⟨rfl, ⟨nd, rfl⟩⟩; refine ⟨_, rfl, ?_⟩))
                go_ret
                exact ⟨by first | rfl | (simp [errW_none, errW_some] <;> rfl) | (simp [*, errW_none, errW_some] <;> rfl), by repeat (first | (with_reducible first | exact HB.out | apply below_alloc | apply pw_below_drewN | apply below_drew1 | refine below_set ?_ GE187.out) | exact HB.out)⟩
              · rw [if_neg c21] at H
                have c21b0 : decide (a0_2 < 1) = false := decide_eq_false c21
                clear c21
                by_cases c23 : a0_2 > 1048576
                · rw [if_pos c23] at H
                  have c23b0 : decide (1048576 < a0_2) = true := decide_eq_true c23
                  clear c23
                  obtain rfl := Option.some.inj H
                  have hcz24_0 : wc.cell? ⟨gb187, 0, none⟩ = some (.int .i64 a0_0) := (blk_cell BK187.out 0).trans rfl
                  have hcz24_1 : wc.cell? ⟨gb187, 1, none⟩ = some (.string a0_1) := (blk_cell BK187.out 1).trans rfl
                  have hcz24_2 : wc.cell? ⟨gb187, 2, none⟩ = some (.int .i64 a0_2) := (blk_cell BK187.out 2).trans rfl
                  have hfz24_0 := blk_frozen BK187.out 0
                  have hfz24_1 := blk_frozen BK187.out 1
                  have hfz24_2 := blk_frozen BK187.out 2
                  go_wp2_with (first | ((with_reducible refine gate_callee (f := 39) rfl ?_); refine goesL_ (some 14) rfl rfl Tryz.func39 (by kernel_rfl) rfl #[.string a0_1] rfl (by (try simp only [List.map_toArray, List.map_cons, List.map_nil]); first | done | rfl | (simp only [List.length_drop, List.length_take]; rfl)) ?_; (with_reducible refine (metrolabref17_Name.calls kj1 a0_1 t188 _ A8.out).mono ?_); rintro e w' ⟨rfl, ⟨nd, rfl⟩⟩; refine ⟨_, rfl, ?_⟩))
                  go_ret
                  exact ⟨by first | rfl | (simp [errW_none, errW_some] <;> rfl) | (simp [*, errW_none, errW_some] <;> rfl), by repeat (first | (with_reducible first | exact HB.out | apply below_alloc | apply pw_below_drewN | apply below_drew1 | refine below_set ?_ GE187.out) | exact HB.out)⟩
                · rw [if_neg c23] at H
                  have c23b0 : decide (1048576 < a0_2) = false := decide_eq_false c23
                  clear c23
                  obtain rfl := Option.some.inj H
                  have hcz25_0 : wc.cell? ⟨gb187, 0, none⟩ = some (.int .i64 a0_0) := (blk_cell BK187.out 0).trans rfl
                  have hcz25_1 : wc.cell? ⟨gb187, 1, none⟩ = some (.string a0_1) := (blk_cell BK187.out 1).trans rfl
                  have hcz25_2 : wc.cell? ⟨gb187, 2, none⟩ = some (.int .i64 a0_2) := (blk_cell BK187.out 2).trans rfl
                  have hfz25_0 := blk_frozen BK187.out 0
                  have hfz25_1 := blk_frozen BK187.out 1
                  have hfz25_2 := blk_frozen BK187.out 2
                  go_wp2_with (first | ((with_reducible refine gate_callee (f := 39) rfl ?_); refine goesL_ (some 14) rfl rfl Tryz.func39 (by kernel_rfl) rfl #[.string a0_1] rfl (by (try simp only [List.map_toArray, List.map_cons, List.map_nil]); first | done | rfl | (simp only [List.length_drop, List.length_take]; rfl)) ?_; (with_reducible refine (metrolabref17_Name.calls kj1 a0_1 t188 _ A8.out).mono ?_); rintro e w' ⟨rfl, ⟨nd, rfl⟩⟩; refine ⟨_, rfl, ?_⟩))
                  go_ret
                  exact ⟨by first | rfl | (simp [errW_none, errW_some] <;> rfl) | (simp [*, errW_none, errW_some] <;> rfl), by repeat (first | (with_reducible first | exact HB.out | apply below_alloc | apply pw_below_drewN | apply below_drew1 | refine below_set ?_ GE187.out) | exact HB.out)⟩
            · rw [if_neg c20] at H
              have c20b0 : decide (a0_0 < 5) = false := decide_eq_false c20
              clear c20
              obtain rfl := Option.some.inj H
              have hcz26_0 : wc.cell? ⟨gb187, 0, none⟩ = some (.int .i64 a0_0) := (blk_cell BK187.out 0).trans rfl
              have hcz26_1 : wc.cell? ⟨gb187, 1, none⟩ = some (.string a0_1) := (blk_cell BK187.out 1).trans rfl
              have hcz26_2 : wc.cell? ⟨gb187, 2, none⟩ = some (.int .i64 a0_2) := (blk_cell BK187.out 2).trans rfl
              have hfz26_0 := blk_frozen BK187.out 0
              have hfz26_1 := blk_frozen BK187.out 1
              have hfz26_2 := blk_frozen BK187.out 2
              go_wp2_with (first | ((with_reducible refine gate_callee (f := 39) rfl ?_); refine goesL_ (some 14) rfl rfl Tryz.func39 (by kernel_rfl) rfl #[.string a0_1] rfl (by (try simp only [List.map_toArray, List.map_cons, List.map_nil]); first | done | rfl | (simp only [List.length_drop, List.length_take]; rfl)) ?_; (with_reducible refine (metrolabref17_Name.calls kj1 a0_1 t188 _ A8.out).mono ?_); rintro e w' ⟨rfl, ⟨nd, rfl⟩⟩; refine ⟨_, rfl, ?_⟩))
              go_ret
              exact ⟨by first | rfl | (simp [errW_none, errW_some] <;> rfl) | (simp [*, errW_none, errW_some] <;> rfl), by repeat (first | (with_reducible first | exact HB.out | apply below_alloc | apply pw_below_drewN | apply below_drew1 | refine below_set ?_ GE187.out) | exact HB.out)⟩
        · rw [if_neg c9] at H
          have c9b0 : (t188 == 0) = false := beq_eq_false_iff_ne.mpr c9
          have c9b1 : (t188 != 0) = true := bne_iff_ne.mpr c9
          obtain rfl := Option.some.inj H
          have hcz27_0 : wc.cell? ⟨gb187, 0, none⟩ = some (.int .i64 a0_0) := (blk_cell BK187.out 0).trans rfl
          have hcz27_1 : wc.cell? ⟨gb187, 1, none⟩ = some (.string a0_1) := (blk_cell BK187.out 1).trans rfl
          have hcz27_2 : wc.cell? ⟨gb187, 2, none⟩ = some (.int .i64 a0_2) := (blk_cell BK187.out 2).trans rfl
          have hfz27_0 := blk_frozen BK187.out 0
          have hfz27_1 := blk_frozen BK187.out 1
          have hfz27_2 := blk_frozen BK187.out 2
          go_wp2_with (first | ((with_reducible refine gate_callee (f := 39) rfl ?_); refine goesL_ (some 14) rfl rfl Tryz.func39 (by kernel_rfl) rfl #[.string a0_1] rfl (by (try simp only [List.map_toArray, List.map_cons, List.map_nil]); first | done | rfl | (simp only [List.length_drop, List.length_take]; rfl)) ?_; (with_reducible refine (metrolabref17_Name.calls kj1 a0_1 t188 _ A8.out).mono ?_); rintro e w' ⟨rfl, ⟨nd, rfl⟩⟩; refine ⟨_, rfl, ?_⟩))
          go_ret
          exact ⟨by first | rfl | (simp [errW_none, errW_some] <;> rfl) | (simp [*, errW_none, errW_some] <;> rfl), by repeat (first | (with_reducible first | exact HB.out | apply below_alloc | apply pw_below_drewN | apply below_drew1 | refine below_set ?_ GE187.out) | exact HB.out)⟩
end Go.Proofs.YtdgipencedlbmaaGreatDoor.Pr
namespace Go.Proofs.YtdgipencedlbmaaGreatDoor.Pr
set_option linter.unusedVariables false
set_option linter.unusedSimpArgs false
open Go.RowKit Go.Proofs.YtdgipencedlbmaaGreatDoorW.PrintWords Go.Proofs.YtdgipencedlbmaaGreatDoor.Hand
end Go.Proofs.YtdgipencedlbmaaGreatDoor.Pr
namespace Go.Proofs.YtdgipencedlbmaaGreatDoor.Pr
set_option linter.unusedVariables false
set_option linter.unusedSimpArgs false
open Go.RowKit Go.Proofs.YtdgipencedlbmaaGreatDoorW.PrintWords Go.Proofs.YtdgipencedlbmaaGreatDoor.Hand
end Go.Proofs.YtdgipencedlbmaaGreatDoor.Pr
