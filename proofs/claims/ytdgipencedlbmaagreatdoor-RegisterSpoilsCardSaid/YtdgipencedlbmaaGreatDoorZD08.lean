/- Right registers: in order, with small numbers; what is known of them in plain Lean. The reference's begun: a register with a further lot. -/
import Derived.Test.YtdgipencedlbmaaGreatDoorZD05
import Derived.Test.YtdgipencedlbmaaGreatDoorZD02
import Derived.Test.YtdgipencedlbmaaGreatDoorZD07
namespace Go.Proofs.YtdgipencedlbmaaGreatDoor.Pr
open Go.RowKit Go.Proofs.YtdgipencedlbmaaGreatDoorW.PrintWords Go.Proofs.YtdgipencedlbmaaGreatDoor.Hand
theorem checkFrom_zero {p : Option ByteArray} {l : List S57} (h : checkFrom p l = 0) : (∀ x ∈ l, nameErr x.f0 = 0 ∧ fitsS x = 0) ∧ sortedS l = true ∧ (∀ q, p = some q → ∀ x ∈ l, lessB q x.f0 = true) := by
  induction l generalizing p with
  | nil => exact ⟨(fun x hx => by cases hx), rfl, (fun q _ x hx => by cases hx)⟩
  | cons x l ih =>
    unfold checkFrom at h
    by_cases h1 : nameErr x.f0 = 0
    · rw [if_neg (by simpa using h1)] at h
      cases h2 : badOrder p x.f0 with
      | true => rw [h2, if_pos rfl] at h; cases h
      | false =>
        rw [h2, if_neg (by simp)] at h
        by_cases h3 : fitsS x = 0
        · rw [if_neg (by simpa using h3)] at h
          obtain ⟨i1, i2, i3⟩ := ih h
          refine ⟨fun y hy => ?_, ?_, fun q hq y hy => ?_⟩
          · rcases List.mem_cons.1 hy with rfl | hy
            · exact ⟨h1, h3⟩
            · exact i1 y hy
          · cases l with
            | nil => rfl
            | cons z l => simp only [sortedS, Bool.and_eq_true]; exact ⟨i3 _ rfl z (by simp), i2⟩
          · subst hq
            have hx : lessB q x.f0 = true := by simpa [badOrder] using h2
            rcases List.mem_cons.1 hy with rfl | hy
            · exact hx
            · exact bytesLess_trans hx (i3 _ rfl y hy)
        · rw [if_pos h3] at h; exact absurd h h3
    · rw [if_pos h1] at h; exact absurd h h1
theorem fits_small {x : S57} (h : fitsS x = 0) : SmallLot x := by
  unfold fitsS at h
  by_cases h1 : x.f1 < 1 ∨ x.f1 > 1048576
  · rw [if_pos h1] at h; cases h
  · rw [if_neg h1] at h
    cases h2 : (okNum x.f2 x.f1 && okNum x.f3 x.f1 && okNum x.f4 x.f1 && okNum x.f5 x.f1) with
    | false => rw [h2, if_pos rfl] at h; cases h
    | true => exact small_of h2 (by omega) (by omega)
structure RightReg (l : List S57) : Prop where
  len : l.length ≤ 256
  sorted : sortedS l = true
  lots : ∀ x ∈ l, nameErr x.f0 = 0 ∧ fitsS x = 0
theorem checkS_zero {l : List S57} (h : checkS l = 0) : RightReg l := by
  unfold checkS at h
  by_cases h1 : 256 < l.length
  · rw [if_pos h1] at h; cases h
  · rw [if_neg h1] at h
    obtain ⟨i1, i2, _⟩ := checkFrom_zero h
    exact ⟨by omega, i2, i1⟩
theorem rightErr_zero {k : Int} {s : ByteArray} {n : Int} (h : rightErr k s n = 0) : 0 ≤ k ∧ k < 7 ∧ nameErr s = 0 ∧ (k < 5 → 1 ≤ n ∧ n ≤ 1048576) ∧ (5 ≤ k → n = 0) := by
  unfold rightErr at h
  by_cases h1 : k < 0 ∨ 7 ≤ k
  · rw [if_pos h1] at h; cases h
  · rw [if_neg h1] at h
    by_cases h2 : nameErr s = 0
    · rw [if_neg (by simpa using h2)] at h
      by_cases h3 : (5 ≤ k ∧ n ≠ 0) ∨ (k < 5 ∧ (n < 1 ∨ n > 1048576))
      · rw [if_pos h3] at h; cases h
      · exact ⟨by omega, by omega, h2, by omega, by omega⟩
    · rw [if_pos h2] at h; exact absurd h h2
end Go.Proofs.YtdgipencedlbmaaGreatDoor.Pr
namespace Go.Proofs.YtdgipencedlbmaaGreatDoor.Pr
open Go.RowKit Go.Proofs.YtdgipencedlbmaaGreatDoorW.PrintWords Go.Proofs.YtdgipencedlbmaaGreatDoorW.PrintLast Go.Proofs.YtdgipencedlbmaaGreatDoorW.PrintMore
attribute [local go_sem] max2_int min2_int max_two min_two max_three min_three max_four min_four   -- for this text's walks alone
set_option linter.unusedVariables false
set_option linter.unusedSimpArgs false
def metrolabref56_Place.l0 : Nat → List (S84) → ByteArray → Int → Option (Int)
  | 0, _, _, _ => none
  | k + 1, x0, x1, x5 => if x5 < (x0.length : Int) then (if 0 ≤ x5 then (if ((rd_T84 x0 x5).f0).toList = x1.toList then (some x5) else (metrolabref56_Place.l0 k x0 x1 (wrap64 (x5 + 1)))) else (none)) else (some (-1))
def metrolabref56_Place.f (k : Nat) (l0 : List (S84)) (a1 : ByteArray) : Option (Int) := metrolabref56_Place.l0 k l0 a1 0
theorem metrolabref56_Place.mono_l : ∀ k, (∀ y0 y1 y2, LeO (metrolabref56_Place.l0 k y0 y1 y2) (metrolabref56_Place.l0 (k + 1) y0 y1 y2))
  | 0 => fun _ _ _ r h => by simp [metrolabref56_Place.l0] at h
  | k + 1 => by
    have ih0 := metrolabref56_Place.mono_l k
    · intro y0 y1 y2
      unfold metrolabref56_Place.l0
      repeat' first
      | (with_reducible exact ih0 _ _ _)
      | (with_reducible exact LeO.refl _)
      | (with_reducible exact LeO.none _)
      | (with_reducible refine LeO.ite ?_ ?_)
      | (with_reducible refine LeO.bind ?_ (fun _ => ?_))
      | exact ih0 _ _ _
      | exact LeO.none _
      | refine LeO.ite ?_ ?_
      | refine LeO.bind ?_ (fun _ => ?_)
theorem metrolabref56_Place.mono : ∀ a0 a1 k, LeO (metrolabref56_Place.f k a0 a1) (metrolabref56_Place.f (k + 1) a0 a1) := by
  intro a0 a1 k
  have ih0 := metrolabref56_Place.mono_l k
  unfold metrolabref56_Place.f
  repeat' first
      | (with_reducible exact ih0 _ _ _)
      | (with_reducible exact LeO.refl _)
      | (with_reducible exact LeO.none _)
      | (with_reducible refine LeO.ite ?_ ?_)
      | (with_reducible refine LeO.bind ?_ (fun _ => ?_))
      | exact ih0 _ _ _
      | exact LeO.none _
      | refine LeO.ite ?_ ?_
      | refine LeO.bind ?_ (fun _ => ?_)
set_option maxHeartbeats 8000000 in
set_option maxRecDepth 100000 in
theorem metrolabref56_Place.calls (k : Nat) (A0 : Option Addr) (c0 : Nat) (l0 : List (S84)) (a1 : ByteArray) (r : Int) (w : World) (hr0 : Kd.C k84 w A0 l0.length l0) (hc0 : l0.length ≤ c0) (h : metrolabref56_Place.f k l0 a1 = some r) :
    Calls Tryz.prog 57 #[.slice A0 l0.length c0, .string a1] w fun e w' => e = .returned (.int .i64 r) ∧ Drawn0 w w' := by
  have HR0 := Aside0.mk hr0
  have HC0 := Aside0.mk hc0
  clear hr0 hc0
  have H : (metrolabref56_Place.l0 k l0 a1 0) = some r := h
  clear h
  have H' := Aside0.mk H
  clear H
  go_enter Tryz.func57, Tryz.ntmps57
  go_wp2
  go_loopg [5] k (fun kq v5 w' => ∃ (x5_1 : Int), v5 = .int .i64 x5_1 ∧ Aside0 (metrolabref56_Place.l0 kq l0 a1 x5_1 = some r) ∧ Aside0 (kq ≤ k) ∧ Drawn0 w w')
  case atStart => exact ⟨(0), (by first | rfl | (simp; done) | (simp [*]; done)), H', ⟨Nat.le_refl _⟩, by repeat (first | exact Drawn0.refl _ | apply Drawn0.step)⟩
  case round =>
    clear H'
    try clear p2
    obtain ⟨x5_1, rfl, HA, HK1, ⟨m1, rfl⟩⟩ := hrel
    cases gk with
    | zero => exact absurd HA.out (by simp [metrolabref56_Place.l0])
    | succ k1 =>
      have H := HA.out
      clear HA
      simp only [metrolabref56_Place.l0] at H
      by_cases c3 : x5_1 < (l0.length : Int)
      · rw [if_pos c3] at H
        have c3b0 : decide (x5_1 < (l0.length : Int)) = true := decide_eq_true c3
        clear c3
        by_cases c4 : 0 ≤ x5_1
        · rw [if_pos c4] at H
          have c4b0 : decide (0 ≤ x5_1) = true := decide_eq_true c4
          clear c4
          by_cases c5 : ((rd_T84 l0 x5_1).f0).toList = a1.toList
          · rw [if_pos c5] at H
            have c5b0 : (((rd_T84 l0 x5_1).f0).toList == a1.toList) = true := beq_iff_eq.mpr c5
            have c5b1 : (((rd_T84 l0 x5_1).f0).toList != a1.toList) = false := bne_eq_false_iff_eq.mpr c5
            clear c5
            obtain rfl := Option.some.inj H
            have p189 : 0 ≤ (x5_1 : Int) := of_decide_eq_true (by first | (with_reducible assumption) | assumption)
            have q189 : x5_1 < (l0.length : Int) := of_decide_eq_true (by first | (with_reducible assumption) | assumption)
            obtain ⟨ad189, e189, hx189_0, hx189_1, hx189_2, hx189_3, hx189_4, hx189_5, hx189_6⟩ := at_T84 HR0.out x5_1 p189 q189
            cases e189
            replace p189 := eq_true p189
            replace q189 := eq_true q189
            go_wp2
            go_ret
            exact ⟨by first | rfl | (simp; done) | (simp [*]; done), by repeat (first | exact Drawn0.refl _ | apply Drawn0.step)⟩
          · rw [if_neg c5] at H
            have c5b0 : (((rd_T84 l0 x5_1).f0).toList == a1.toList) = false := beq_eq_false_iff_ne.mpr c5
            have c5b1 : (((rd_T84 l0 x5_1).f0).toList != a1.toList) = true := bne_iff_ne.mpr c5
            have H' := Aside0.mk H
            clear H
            have p189 : 0 ≤ (x5_1 : Int) := of_decide_eq_true (by first | (with_reducible assumption) | assumption)
            have q189 : x5_1 < (l0.length : Int) := of_decide_eq_true (by first | (with_reducible assumption) | assumption)
            obtain ⟨ad189, e189, hx189_0, hx189_1, hx189_2, hx189_3, hx189_4, hx189_5, hx189_6⟩ := at_T84 HR0.out x5_1 p189 q189
            cases e189
            replace p189 := eq_true p189
            replace q189 := eq_true q189
            go_wp2
            go_roundg k1
            case measure => have := HK1.out; omega
            case rel => exact ⟨(wrap64 (x5_1 + 1)), (by first | rfl | (simp; done) | (simp [*]; done)), H', ⟨by have := HK1.out; omega⟩, by repeat (first | exact Drawn0.refl _ | apply Drawn0.step)⟩
        · rw [if_neg c4] at H
          exact absurd H (by simp)
      · rw [if_neg c3] at H
        have c3b0 : decide (x5_1 < (l0.length : Int)) = false := decide_eq_false c3
        clear c3
        obtain rfl := Option.some.inj H
        go_wp2
        go_ret
        exact ⟨by first | rfl | (simp; done) | (simp [*]; done), by repeat (first | exact Drawn0.refl _ | apply Drawn0.step)⟩
end Go.Proofs.YtdgipencedlbmaaGreatDoor.Pr
namespace Go.Proofs.YtdgipencedlbmaaGreatDoor.Pr
set_option linter.unusedVariables false
set_option linter.unusedSimpArgs false
open Go.RowKit Go.Proofs.YtdgipencedlbmaaGreatDoorW.PrintWords Go.Proofs.YtdgipencedlbmaaGreatDoorW.PrintLast Go.Proofs.YtdgipencedlbmaaGreatDoorW.PrintMore Go.Proofs.YtdgipencedlbmaaGreatDoor.Hand
def insB (d : Bool) (s : ByteArray) (n : Int) : List S57 → List S57
  | [] => if d then [] else [newLot s n]
  | x :: l => if d then x :: l else if lessB s x.f0 then newLot s n :: x :: l else x :: insB false s n l
theorem entry34 {W : World} {b : Nat} {kk n : Int} {s : ByteArray} {t : TypeId} (h : W.heap[b]? = some (.cells #[.int .i64 kk, .string s, .int .i64 n] t (0, 0))) :
    W.cell? ⟨b, 0, none⟩ = some (.int .i64 kk) ∧ W.cell? ⟨b, 1, none⟩ = some (.string s) ∧ W.cell? ⟨b, 2, none⟩ = some (.int .i64 n) := ⟨cellB h 0, cellB h 1, cellB h 2⟩
def t84 (x : S57) : S84 := ⟨x.f0, x.f1, x.f2, x.f3, x.f4, x.f5, x.f6⟩
theorem C84 {w : World} {A : Option Addr} {n : Nat} {l : List S57} (h : Kd.C k57 w A n l) : Kd.C k84 w A n (l.map t84) := by
  obtain ⟨h1, h2, h3⟩ := h
  refine ⟨by rw [List.length_map]; exact h1, h2, fun hn => ?_⟩
  obtain ⟨ad, ha, hj⟩ := h3 hn
  refine ⟨ad, ha, fun j p hp => ?_⟩
  rw [List.getElem?_map] at hp
  cases hx : l[j]? with
  | none => rw [hx] at hp; cases hp
  | some x => rw [hx] at hp; cases hp; exact hj j x hx
theorem sorted_tail {x : S57} {l : List S57} (h : sortedS (x :: l) = true) : sortedS l = true := by
  cases l with
  | nil => rfl
  | cons y l => unfold sortedS at h; exact (Bool.and_eq_true_iff.mp h).2
theorem lessB_tri {a c : ByteArray} (h : lessB a c = false) (h' : a ≠ c) : lessB c a = true := bytesLess_tri h (fun e => h' (by
  obtain ⟨a⟩ := a
  obtain ⟨c⟩ := c
  have : a = c := Array.toList_inj.mp e
  rw [this]))
theorem lbS_pos {x : S57} {l : List S57} {s : ByteArray} (hx : lessB x.f0 s = true) : lbS (x :: l) s = lbS l s + 1 := by unfold lbS; rw [List.takeWhile_cons]; simp [hx]
theorem lbS_neg {x : S57} {l : List S57} {s : ByteArray} (hx : ¬ lessB x.f0 s = true) : lbS (x :: l) s = 0 := by unfold lbS; rw [List.takeWhile_cons]; simp [hx]
theorem bg_sorted (s : ByteArray) (n : Int) : ∀ (l : List S57), sortedS l = true → hasS l s = false → insB false s n l = l.take (lbS l s) ++ newLot s n :: l.drop (lbS l s)
  | [], _, _ => rfl
  | x :: l, h, hh => by
    by_cases hx : lessB x.f0 s = true
    · have e1 : lbS (x :: l) s = lbS l s + 1 := lbS_pos hx
      have e2 : hasS (x :: l) s = hasS l s := by unfold hasS; rw [e1]; rfl
      rw [e2] at hh
      have ih := bg_sorted s n l (sorted_tail h) hh
      have hn : lessB s x.f0 = false := bytesLess_asymm hx
      rw [e1]
      show (if (false : Bool) = true then x :: l else if lessB s x.f0 = true then newLot s n :: x :: l else x :: insB false s n l) = _
      rw [if_neg (by simp), if_neg (by simp [hn]), ih]
      rfl
    · have e1 : lbS (x :: l) s = 0 := lbS_neg hx
      have e2 : hasS (x :: l) s = decide (x.f0 = s) := by unfold hasS; rw [e1]; rfl
      rw [e2] at hh
      have hs : x.f0 ≠ s := by simpa using hh
      have hlt : lessB s x.f0 = true := lessB_tri (by simpa using hx) hs
      rw [e1]
      show (if (false : Bool) = true then x :: l else if lessB s x.f0 = true then newLot s n :: x :: l else x :: insB false s n l) = _
      rw [if_neg (by simp), if_pos hlt]
      rfl
end Go.Proofs.YtdgipencedlbmaaGreatDoor.Pr
