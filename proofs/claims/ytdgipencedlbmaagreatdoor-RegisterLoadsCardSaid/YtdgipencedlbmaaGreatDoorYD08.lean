/- Right registers: in order, with small numbers; what is known of them in plain Lean. The reference's begun: a register with a further lot. -/
import Derived.Test.YtdgipencedlbmaaGreatDoorYD05
import Derived.Test.YtdgipencedlbmaaGreatDoorYD02
import Derived.Test.YtdgipencedlbmaaGreatDoorYD07
namespace Go.Proofs.YtdgipencedlbmaaGreatDoor.Pr
open Go.RowKit Go.Proofs.YtdgipencedlbmaaGreatDoorW.PrintWords Go.Proofs.YtdgipencedlbmaaGreatDoor.Hand
theorem checkFrom_zero {p : Option ByteArray} {l : List S57} (h : checkFrom p l = 0) : (∀ x ∈ l, nameErr x.f0 = 0 ∧ fitsS x = 0) ∧ sortedS l = true ∧ (∀ q, p = some q → ∀ x ∈ l, lessB q x.f0 = true) := by
  induction l generalizing p with
  | nil => exact ⟨(fun x hx => by cases hx), rfl, (fun q _ x hx => by cases hx)⟩
  | cons x l ih =>
    unfold checkFrom at h
    by_cases h1 : nameErr x.f0 = 0
    · rw [if_neg (by simpa using h1)] at h
      cases h2 : badOrder p x.f0 with
      | true => rw [h2, if_pos rfl] at h; cases h
      | false =>
        rw [h2, if_neg (by simp)] at h
        by_cases h3 : fitsS x = 0
        · rw [if_neg (by simpa using h3)] at h
          obtain ⟨i1, i2, i3⟩ := ih h
          refine ⟨fun y hy => ?_, ?_, fun q hq y hy => ?_⟩
          · rcases List.mem_cons.1 hy with rfl | hy
            · exact ⟨h1, h3⟩
            · exact i1 y hy
          · cases l with
            | nil => rfl
            | cons z l => simp only [sortedS, Bool.and_eq_true]; exact ⟨i3 _ rfl z (by simp), i2⟩
          · subst hq
            have hx : lessB q x.f0 = true := by simpa [badOrder] using h2
            rcases List.mem_cons.1 hy with rfl | hy
            · exact hx
            · exact bytesLess_trans hx (i3 _ rfl y hy)
        · rw [if_pos h3] at h; exact absurd h h3
    · rw [if_pos h1] at h; exact absurd h h1
theorem fits_small {x : S57} (h : fitsS x = 0) : SmallLot x := by
  unfold fitsS at h
  by_cases h1 : x.f1 < 1 ∨ x.f1 > 1048576
  · rw [if_pos h1] at h; cases h
  · rw [if_neg h1] at h
    cases h2 : (okNum x.f2 x.f1 && okNum x.f3 x.f1 && okNum x.f4 x.f1 && okNum x.f5 x.f1) with
    | false => rw [h2, if_pos rfl] at h; cases h
    | true => exact small_of h2 (by omega) (by omega)
structure RightReg (l : List S57) : Prop where
  len : l.length ≤ 256
  sorted : sortedS l = true
  lots : ∀ x ∈ l, nameErr x.f0 = 0 ∧ fitsS x = 0
theorem checkS_zero {l : List S57} (h : checkS l = 0) : RightReg l := by
  unfold checkS at h
  by_cases h1 : 256 < l.length
  · rw [if_pos h1] at h; cases h
  · rw [if_neg h1] at h
    obtain ⟨i1, i2, _⟩ := checkFrom_zero h
    exact ⟨by omega, i2, i1⟩
theorem rightErr_zero {k : Int} {s : ByteArray} {n : Int} (h : rightErr k s n = 0) : 0 ≤ k ∧ k < 7 ∧ nameErr s = 0 ∧ (k < 5 → 1 ≤ n ∧ n ≤ 1048576) ∧ (5 ≤ k → n = 0) := by
  unfold rightErr at h
  by_cases h1 : k < 0 ∨ 7 ≤ k
  · rw [if_pos h1] at h; cases h
  · rw [if_neg h1] at h
    by_cases h2 : nameErr s = 0
    · rw [if_neg (by simpa using h2)] at h
      by_cases h3 : (5 ≤ k ∧ n ≠ 0) ∨ (k < 5 ∧ (n < 1 ∨ n > 1048576))
      · rw [if_pos h3] at h; cases h
      · exact ⟨by omega, by omega, h2, by omega, by omega⟩
    · rw [if_pos h2] at h; exact absurd h h2
end Go.Proofs.YtdgipencedlbmaaGreatDoor.Pr
namespace Go.Proofs.YtdgipencedlbmaaGreatDoor.Pr
open Go.RowKit Go.Proofs.YtdgipencedlbmaaGreatDoorW.PrintWords Go.Proofs.YtdgipencedlbmaaGreatDoorW.PrintLast Go.Proofs.YtdgipencedlbmaaGreatDoorW.PrintMore
attribute [local go_sem] max2_int min2_int max_two min_two max_three min_three max_four min_four   -- for this text's walks alone
set_option linter.unusedVariables false
set_option linter.unusedSimpArgs false
def metrolabref56_Place.l0 : Nat → List (S84) → ByteArray → Int → Option (Int)
  | 0, _, _, _ => none
  | k + 1, x0, x1, x5 => if x5 < (x0.length : Int) then (if 0 ≤ x5 then (if ((rd_T84 x0 x5).f0).toList = x1.toList then (some x5) else (metrolabref56_Place.l0 k x0 x1 (wrap64 (x5 + 1)))) else (none)) else (some (-1))
def metrolabref56_Place.f (k : Nat) (l0 : List (S84)) (a1 : ByteArray) : Option (Int) := metrolabref56_Place.l0 k l0 a1 0
theorem metrolabref56_Place.mono_l : ∀ k, (∀ y0 y1 y2, LeO (metrolabref56_Place.l0 k y0 y1 y2) (metrolabref56_Place.l0 (k + 1) y0 y1 y2))
  | 0 => fun _ _ _ r h => by simp [metrolabref56_Place.l0] at h
  | k + 1 => by
    have ih0 := metrolabref56_Place.mono_l k
    · intro y0 y1 y2
      unfold metrolabref56_Place.l0
      repeat' first
      | (with_reducible exact ih0 _ _ _)
      | (with_reducible exact LeO.refl _)
      | (with_reducible exact LeO.none _)
      | (with_reducible refine LeO.ite ?_ ?_)
      | (with_reducible refine LeO.bind ?_ (fun _ => ?_))
      | exact ih0 _ _ _
      | exact LeO.none _
      | refine LeO.ite ?_ ?_
      | refine LeO.bind ?_ (fun _ => ?_)
theorem metrolabref56_Place.mono : ∀ a0 a1 k, LeO (metrolabref56_Place.f k a0 a1) (metrolabref56_Place.f (k + 1) a0 a1) := by
  intro a0 a1 k
  have ih0 := metrolabref56_Place.mono_l k
  unfold metrolabref56_Place.f
  repeat' first
      | (with_reducible exact ih0 _ _ _)
      | (with_reducible exact LeO.refl _)
      | (with_reducible exact LeO.none _)
      | (with_reducible refine LeO.ite ?_ ?_)
      | (with_reducible refine LeO.bind ?_ (fun _ => ?_))
      | exact ih0 _ _ _
      | exact LeO.none _
      | refine LeO.ite ?_ ?_
      | refine LeO.bind ?_ (fun _ => ?_)
set_option maxHeartbeats 8000000 in
set_option maxRecDepth 100000 in
theorem metrolabref56_Place.calls (k : Nat) (A0 : Option Addr) (c0 : Nat) (l0 : List (S84)) (a1 : ByteArray) (r : Int) (w : World) (hr0 : Kd.C k84 w A0 l0.length l0) (hc0 : l0.length ≤ c0) (h : metrolabref56_Place.f k l0 a1 = some r) :
    Calls Tryz.prog 57 #[.slice A0 l0.length c0, .string a1] w fun e w' => e = .returned (.int .i64 r) ∧ Drawn0 w w' := by
  have HR0 := Aside0.mk hr0
  have HC0 := Aside0.mk hc0
  clear hr0 hc0
  have H : (metrolabref56_Place.l0 k l0 a1 0) = some r := h
  clear h
  have H' := Aside0.mk H
  clear H
  go_enter Tryz.func57, Tryz.ntmps57
  go_wp2
  go_loopg [5] k (fun kq v5 w' => ∃ (x5_1 : Int), v5 = .int .i64 x5_1 ∧ Aside0 (metrolabref56_Place.l0 kq l0 a1 x5_1 = some r) ∧ Aside0 (kq ≤ k) ∧ Drawn0 w w')
  case atStart => exact ⟨(0), (by first | rfl | (simp; done) | (simp [*]; done)), H', ⟨Nat.le_refl _⟩, by repeat (first | exact Drawn0.refl _ | apply Drawn0.step)⟩
  case round =>
    clear H'
    try clear p2
    obtain ⟨x5_1, rfl, HA, HK1, ⟨m1, rfl⟩⟩ := hrel
    cases gk with
    | zero => exact absurd HA.out (by simp [metrolabref56_Place.l0])
    | succ k1 =>
      have H := HA.out
      clear HA
      simp only [metrolabref56_Place.l0] at H
      by_cases c3 : x5_1 < (l0.length : Int)
      · rw [if_pos c3] at H
        have c3b0 : decide (x5_1 < (l0.length : Int)) = true := decide_eq_true c3
        clear c3
        by_cases c4 : 0 ≤ x5_1
        · rw [if_pos c4] at H
          have c4b0 : decide (0 ≤ x5_1) = true := decide_eq_true c4
          clear c4
          by_cases c5 : ((rd_T84 l0 x5_1).f0).toList = a1.toList
          · rw [if_pos c5] at H
            have c5b0 : (((rd_T84 l0 x5_1).f0).toList == a1.toList) = true := beq_iff_eq.mpr c5
            have c5b1 : (((rd_T84 l0 x5_1).f0).toList != a1.toList) = false := bne_eq_false_iff_eq.mpr c5
            clear c5
            obtain rfl := Option.some.inj H
            have p189 : 0 ≤ (x5_1 : Int) := of_decide_eq_true (by first | (with_reducible assumption) | assumption)
            have q189 : x5_1 < (l0.length : Int) := of_decide_eq_true (by first | (with_reducible assumption) | assumption)
            obtain ⟨ad189, e189, hx189_0, hx189_1, hx189_2, hx189_3, hx189_4, hx189_5, hx189_6⟩ := at_T84 HR0.out x5_1 p189 q189
            cases e189
            replace p189 := eq_true p189
            replace q189 := eq_true q189
            go_wp2
            go_ret
            exact ⟨by first | rfl | (simp; done) | (simp [*]; done), by repeat (first | exact Drawn0.refl _ | apply Drawn0.step)⟩
          · rw [if_neg c5] at H
            have c5b0 : (((rd_T84 l0 x5_1).f0).toList == a1.toList) = false := beq_eq_false_iff_ne.mpr c5
            have c5b1 : (((rd_T84 l0 x5_1).f0).toList != a1.toList) = true := bne_iff_ne.mpr c5
            have H' := Aside0.mk H
            clear H
            have p189 : 0 ≤ (x5_1 : Int) := of_decide_eq_true (by first | (with_reducible assumption) | assumption)
            have q189 : x5_1 < (l0.length : Int) := of_decide_eq_true (by first | (with_reducible assumption) | assumption)
            obtain ⟨ad189, e189, hx189_0, hx189_1, hx189_2, hx189_3, hx189_4, hx189_5, hx189_6⟩ := at_T84 HR0.out x5_1 p189 q189
            cases e189
            replace p189 := eq_true p189
            replace q189 := eq_true q189
            go_wp2
            go_roundg k1
            case measure => have := HK1.out; omega
            case rel => exact ⟨(wrap64 (x5_1 + 1)), (by first | rfl | (simp; done) | (simp [*]; done)), H', ⟨by have := HK1.out; omega⟩, by repeat (first | exact Drawn0.refl _ | apply Drawn0.step)⟩
        · rw [if_neg c4] at H
          exact absurd H (by simp)
      · rw [if_neg c3] at H
        have c3b0 : decide (x5_1 < (l0.length : Int)) = false := decide_eq_false c3
        clear c3
        obtain rfl := Option.some.inj H
        go_wp2
        go_ret
        exact ⟨by first | rfl | (simp; done) | (simp [*]; done), by repeat (first | exact Drawn0.refl _ | apply Drawn0.step)⟩
end Go.Proofs.YtdgipencedlbmaaGreatDoor.Pr
namespace Go.Proofs.YtdgipencedlbmaaGreatDoor.Pr
set_option linter.unusedVariables false
set_option linter.unusedSimpArgs false
open Go.RowKit Go.Proofs.YtdgipencedlbmaaGreatDoorW.PrintWords Go.Proofs.YtdgipencedlbmaaGreatDoorW.PrintLast Go.Proofs.YtdgipencedlbmaaGreatDoorW.PrintMore Go.Proofs.YtdgipencedlbmaaGreatDoor.Hand
def insB (d : Bool) (s : ByteArray) (n : Int) : List S57 → List S57
  | [] => if d then [] else [newLot s n]
  | x :: l => if d then x :: l else if lessB s x.f0 then newLot s n :: x :: l else x :: insB false s n l
theorem insB_done (s : ByteArray) (n : Int) (l : List S57) : insB true s n l = l := by cases l <;> rfl
theorem bg_keep {s : ByteArray} {n : Int} {l0 o res : List S57} {k : Nat} {x : S57} {d : Bool} (h : o ++ insB d s n (l0.drop k) = res) (hd : l0.drop k = x :: l0.drop (k + 1)) (hl : d = true ∨ lessB s x.f0 = false) :
    (o ++ [x]) ++ insB d s n (l0.drop (k + 1)) = res := by
  rw [← h, hd]
  cases d with
  | true => rw [insB_done, insB_done]; simp
  | false =>
    rcases hl with hl | hl
    · cases hl
    · conv => rhs; unfold insB
      simp [hl]
theorem bg_new {s : ByteArray} {n : Int} {l0 o res : List S57} {k : Nat} {x : S57} (h : o ++ insB false s n (l0.drop k) = res) (hd : l0.drop k = x :: l0.drop (k + 1)) (hl : lessB s x.f0 = true) :
    ((o ++ [newLot s n]) ++ [x]) ++ insB true s n (l0.drop (k + 1)) = res := by
  rw [← h, hd, insB_done]
  conv => rhs; unfold insB
  simp [hl]
theorem bg_end {s : ByteArray} {n : Int} {l0 o res : List S57} {k : Nat} (h : o ++ insB false s n (l0.drop k) = res) (hd : l0.drop k = []) : o ++ [newLot s n] = res := by rw [← h, hd]; rfl
theorem bg_end_done {s : ByteArray} {n : Int} {l0 o res : List S57} {k : Nat} (h : o ++ insB true s n (l0.drop k) = res) (hd : l0.drop k = []) : o = res := by rw [← h, hd]; simp [insB]
theorem entry34 {W : World} {b : Nat} {kk n : Int} {s : ByteArray} {t : TypeId} (h : W.heap[b]? = some (.cells #[.int .i64 kk, .string s, .int .i64 n] t (0, 0))) :
    W.cell? ⟨b, 0, none⟩ = some (.int .i64 kk) ∧ W.cell? ⟨b, 1, none⟩ = some (.string s) ∧ W.cell? ⟨b, 2, none⟩ = some (.int .i64 n) := ⟨cellB h 0, cellB h 1, cellB h 2⟩
theorem less_gtr {x s : ByteArray} {z : Bool} (h : (!Op.bytesLess x.toList s.toList && !x.toList == s.toList) = z) : lessB s x = z := by
  rw [← h, toList_eq, toList_eq]
  unfold lessB
  rw [bytesLess_total]
  cases hb : Op.bytesLess s.data.toList x.data.toList with
  | true =>
    have : (x.data.toList == s.data.toList) = false := by rw [beq_eq_false_iff_ne]; exact fun e => bytesLess_ne hb e.symm
    rw [this]; rfl
  | false =>
    rw [Bool.false_or]
    cases he : (s.data.toList == x.data.toList) with
    | false => rfl
    | true =>
      have : (x.data.toList == s.data.toList) = true := by rw [beq_iff_eq] at he ⊢; exact he.symm
      rw [this]; rfl
theorem len_grow {o : List S57} {x : S57} {k : Nat} (h : o.length ≤ 2 * k + 1) : (o ++ [x]).length ≤ 2 * (k + 1) + 1 := by simp; omega
theorem len_grow2 {o : List S57} {x y : S57} {k : Nat} (h : o.length ≤ 2 * k + 1) : ((o ++ [x]) ++ [y]).length ≤ 2 * (k + 1) + 1 := by simp; omega
def placeFrom (i : Nat) (s : ByteArray) : List S57 → Int
  | [] => -1
  | x :: l => if x.f0 = s then i else placeFrom (i + 1) s l
def t84 (x : S57) : S84 := ⟨x.f0, x.f1, x.f2, x.f3, x.f4, x.f5, x.f6⟩
theorem rd_t84 (l : List S57) (k : Nat) : rd_T84 (l.map t84) (k : Int) = t84 (l.getD k z57) := by
  unfold rd_T84
  rw [Int.toNat_natCast, List.getD_eq_getElem?_getD, List.getD_eq_getElem?_getD, List.getElem?_map]
  cases l[k]? <;> rfl
theorem C84 {w : World} {A : Option Addr} {n : Nat} {l : List S57} (h : Kd.C k57 w A n l) : Kd.C k84 w A n (l.map t84) := by
  obtain ⟨h1, h2, h3⟩ := h
  refine ⟨by rw [List.length_map]; exact h1, h2, fun hn => ?_⟩
  obtain ⟨ad, ha, hj⟩ := h3 hn
  refine ⟨ad, ha, fun j p hp => ?_⟩
  rw [List.getElem?_map] at hp
  cases hx : l[j]? with
  | none => rw [hx] at hp; cases hp
  | some x => rw [hx] at hp; cases hp; exact hj j x hx
theorem rplace_l0 (l : List S57) (s : ByteArray) (hl : l.length < 9223372036854775807) : ∀ (d i k : Nat), i + d = l.length → d < k → metrolabref56_Place.l0 k (l.map t84) s i = some (placeFrom i s (l.drop i)) := by
  intro d
  induction d with
  | zero =>
    intro i k hi hk
    obtain ⟨k, rfl⟩ : ∃ j, k = j + 1 := ⟨k - 1, by omega⟩
    simp only [metrolabref56_Place.l0]
    rw [if_neg (by rw [List.length_map]; omega), List.drop_eq_nil_of_le (by omega)]
    rfl
  | succ d ih =>
    intro i k hi hk
    obtain ⟨k, rfl⟩ : ∃ j, k = j + 1 := ⟨k - 1, by omega⟩
    have hw : wrap64 ((i : Int) + 1) = ((i + 1 : Nat) : Int) := by unfold wrap64; omega
    simp only [metrolabref56_Place.l0]
    rw [if_pos (by rw [List.length_map]; omega), if_pos (by omega), hw, ih (i + 1) k (by omega) (by omega), rd_t84, drop_getD (x := l.getD i z57) (by omega) rfl]
    show (if (l.getD i z57).f0.toList = s.toList then _ else _) = some (if (l.getD i z57).f0 = s then _ else _)
    by_cases h : (l.getD i z57).f0 = s
    · rw [if_pos h, if_pos (by rw [h])]
    · rw [if_neg h, if_neg]
      intro h2
      rw [toList_eq, toList_eq] at h2
      exact h (by
        generalize (l.getD i z57).f0 = u at h2
        obtain ⟨a⟩ := u
        obtain ⟨c⟩ := s
        have : a = c := Array.toList_inj.mp h2
        rw [this])
theorem rplace_none {s : ByteArray} : ∀ {l : List S57} (i : Nat), (∀ x ∈ l, x.f0 ≠ s) → placeFrom i s l = -1
  | [], _, _ => rfl
  | x :: l, i, h => by
    show (if x.f0 = s then (i : Int) else placeFrom (i + 1) s l) = -1
    rw [if_neg (h x (by simp))]
    exact rplace_none (i + 1) (fun y hy => h y (by simp [hy]))
theorem sorted_tail {x : S57} {l : List S57} (h : sortedS (x :: l) = true) : sortedS l = true := by
  cases l with
  | nil => rfl
  | cons y l => unfold sortedS at h; exact (Bool.and_eq_true_iff.mp h).2
theorem lessB_ne {a c : ByteArray} (h : lessB a c = true) : a ≠ c := by
  rintro rfl; unfold lessB at h; rw [bytesLess_irrefl] at h; cases h
theorem lessB_trans {a c e : ByteArray} (h : lessB a c = true) (h' : lessB c e = true) : lessB a e = true := bytesLess_trans h h'
theorem lessB_tri {a c : ByteArray} (h : lessB a c = false) (h' : a ≠ c) : lessB c a = true := bytesLess_tri h (fun e => h' (by
  obtain ⟨a⟩ := a
  obtain ⟨c⟩ := c
  have : a = c := Array.toList_inj.mp e
  rw [this]))
theorem sorted_above {s : ByteArray} : ∀ {l : List S57} {x : S57}, sortedS (x :: l) = true → lessB s x.f0 = true → ∀ y ∈ x :: l, lessB s y.f0 = true
  | [], x, _, h2, y, hy => by simp at hy; subst hy; exact h2
  | z :: l, x, h1, h2, y, hy => by
    have h1' := h1
    unfold sortedS at h1'
    have hxz := (Bool.and_eq_true_iff.mp h1').1
    rcases List.mem_cons.mp hy with rfl | hy
    · exact h2
    · exact sorted_above (sorted_tail h1) (lessB_trans h2 hxz) y hy
theorem lbS_pos {x : S57} {l : List S57} {s : ByteArray} (hx : lessB x.f0 s = true) : lbS (x :: l) s = lbS l s + 1 := by unfold lbS; rw [List.takeWhile_cons]; simp [hx]
theorem lbS_neg {x : S57} {l : List S57} {s : ByteArray} (hx : ¬ lessB x.f0 s = true) : lbS (x :: l) s = 0 := by unfold lbS; rw [List.takeWhile_cons]; simp [hx]
theorem place_sorted (s : ByteArray) : ∀ (l : List S57) (i : Nat), sortedS l = true → placeFrom i s l = if hasS l s = true then ((i + lbS l s : Nat) : Int) else -1
  | [], i, _ => rfl
  | x :: l, i, h => by
    have ih := place_sorted s l (i + 1) (sorted_tail h)
    by_cases hx : lessB x.f0 s = true
    · have e1 : lbS (x :: l) s = lbS l s + 1 := lbS_pos hx
      have e2 : hasS (x :: l) s = hasS l s := by unfold hasS; rw [e1]; rfl
      show (if x.f0 = s then (i : Int) else placeFrom (i + 1) s l) = _
      rw [if_neg (lessB_ne hx), ih, e2, e1]
      split
      · omega
      · rfl
    · have e1 : lbS (x :: l) s = 0 := lbS_neg hx
      have e2 : hasS (x :: l) s = decide (x.f0 = s) := by unfold hasS; rw [e1]; rfl
      show (if x.f0 = s then (i : Int) else placeFrom (i + 1) s l) = _
      rw [e2, e1]
      by_cases hs : x.f0 = s
      · rw [if_pos hs, if_pos (by simpa using hs)]; omega
      · rw [if_neg hs, if_neg (by simpa using hs)]
        have hlt : lessB s x.f0 = true := lessB_tri (by simpa using hx) hs
        exact rplace_none _ (fun y hy => fun e => absurd e.symm (lessB_ne (sorted_above h hlt y (by simp [hy]))))
theorem bg_sorted (s : ByteArray) (n : Int) : ∀ (l : List S57), sortedS l = true → hasS l s = false → insB false s n l = l.take (lbS l s) ++ newLot s n :: l.drop (lbS l s)
  | [], _, _ => rfl
  | x :: l, h, hh => by
    by_cases hx : lessB x.f0 s = true
    · have e1 : lbS (x :: l) s = lbS l s + 1 := lbS_pos hx
      have e2 : hasS (x :: l) s = hasS l s := by unfold hasS; rw [e1]; rfl
      rw [e2] at hh
      have ih := bg_sorted s n l (sorted_tail h) hh
      have hn : lessB s x.f0 = false := bytesLess_asymm hx
      rw [e1]
      show (if (false : Bool) = true then x :: l else if lessB s x.f0 = true then newLot s n :: x :: l else x :: insB false s n l) = _
      rw [if_neg (by simp), if_neg (by simp [hn]), ih]
      rfl
    · have e1 : lbS (x :: l) s = 0 := lbS_neg hx
      have e2 : hasS (x :: l) s = decide (x.f0 = s) := by unfold hasS; rw [e1]; rfl
      rw [e2] at hh
      have hs : x.f0 ≠ s := by simpa using hh
      have hlt : lessB s x.f0 = true := lessB_tri (by simpa using hx) hs
      rw [e1]
      show (if (false : Bool) = true then x :: l else if lessB s x.f0 = true then newLot s n :: x :: l else x :: insB false s n l) = _
      rw [if_neg (by simp), if_pos hlt]
      rfl
theorem rPlace_calls (A0 : Option Addr) (c0 : Nat) (l : List S57) (s : ByteArray) (v : Int) (w : World) (hr : Kd.C k57 w A0 l.length l) (hc : l.length ≤ c0) (hm : l.length ≤ 256) (hs : sortedS l = true) (hv : (if hasS l s = true then ((lbS l s : Nat) : Int) else -1) = v) :
    Calls Tryz.prog 57 #[.slice A0 l.length c0, .string s] w fun e w' => e = .returned (.int .i64 v) ∧ Below w.heap.size w w' := by
  have hf : metrolabref56_Place.f 300 (l.map t84) s = some v := by
    unfold metrolabref56_Place.f
    rw [show (0 : Int) = ((0 : Nat) : Int) from rfl, rplace_l0 l s (by omega) l.length 0 300 (by omega) (by omega), List.drop_zero, place_sorted s l 0 hs]
    simpa using hv
  have h := metrolabref56_Place.calls 300 A0 c0 (l.map t84) s v w (by rw [List.length_map]; exact C84 hr) (by rw [List.length_map]; exact hc) hf
  rw [List.length_map] at h
  exact h.mono fun _ _ h => ⟨h.1, h.2.below⟩
set_option maxHeartbeats 8000000 in
set_option maxRecDepth 100000 in
theorem rbegun_ins (A0 : Option Addr) (c0 : Nat) (l0 : List S57) (kk : Int) (s : ByteArray) (n : Int) (w : World) (hr0 : Kd.C k57 w A0 l0.length l0) (hc0 : l0.length ≤ c0) (hm : l0.length ≤ 256) (hm2 : l0.length ≠ 256) (hs : sortedS l0 = true) (hh : hasS l0 s = false) :
    Calls Tryz.prog 82 #[.slice A0 l0.length c0, .agg #[.int .i64 kk, .string s, .int .i64 n]] w fun e w' => ∃ v, e = .returned (.tuple #[v, .int .i64 0]) ∧ Kd.R k57 84 w' w.heap.size (fun _ => True) v (insB false s n l0) ∧ Below w.heap.size w w' := by
  have HR := Lib.hid hr0
  have HC := Lib.hid hc0
  have HM := Lib.hid hm
  have HS := Lib.hid hs
  have HP := Lib.hid (show (if hasS l0 s = true then ((lbS l0 s : Nat) : Int) else -1) = -1 by rw [hh]; rfl)
  have dl : ((l0.length : Int) == 256) = false := by rw [beq_eq_false_iff_ne]; omega
  clear hr0 hc0 hs hh hm2
  go_enter Tryz.func82, Tryz.ntmps82
  go_wp2_with (first
    | ((with_reducible refine box_abs rfl 34 _ rfl #[.int .i64 kk, .string s, .int .i64 n] ?hx ?_); (case hx => rfl); intro b hb w1 hb1 hB1 hs1; have HE1 := Lib.hid hb1; obtain ⟨k0, k1, k2⟩ := entry34 hb1; have HB1 := Lib.hid hB1; clear hb hb1 hB1 hs1)
    | (go_at_call 57; refine (rPlace_calls _ _ l0 s (-1) _ (Kd.C_below HR.out HB1.out) HC.out (by have := HM.out; omega) HS.out HP.out).mono ?_; rintro e w2 ⟨rfl, hB2⟩; have HE2 := Lib.hid (below_keeps hB2 (blk_lt HE1.out) HE1.out); have HB2 := Lib.hid (below_then HB1.out hB2); clear hB2; obtain ⟨k0, k1, k2⟩ := entry34 HE2.out))
  go_loopw [6, 7, 8] (fun v6 v7 v8 wr => ∃ (k : Nat) (o : List S57) (d : Bool), k ≤ l0.length ∧ v7 = .bool d ∧ v8 = .int .i64 k ∧ Hid (o.length ≤ 2 * k + 1) ∧ Hid (Kd.R k57 84 wr w.heap.size (fun _ => True) v6 o) ∧ Hid (o ++ insB d s n (l0.drop k) = insB false s n l0) ∧ Hid (wr.heap[b]? = some (.cells #[.int .i64 kk, .string s, .int .i64 n] 34 (0, 0))) ∧ Hid (Below w.heap.size w wr)) (fun _ _ v8 _ => l0.length - (intOf v8).toNat)
  case atStart => exact ⟨0, [], false, by omega, rfl, rfl, Nat.zero_le _, Kd.R_nil _ _ _ _ _, rfl, HE2.out, HB2.out⟩
  case round =>
    obtain ⟨k, o, d, hk, rfl, rfl, HOl, HO, HI, HE, HB⟩ := hrel
    obtain ⟨k0, k1, k2⟩ := entry34 HE.out
    by_cases hlt : k < l0.length
    · have HLT := Lib.hid hlt
      obtain ⟨ad, rfl, hlot, had⟩ := LotA.of_row HR.out HB.out k hlt
      have HAD := Lib.hid had
      clear had
      obtain ⟨x, hx⟩ : ∃ x, x = l0.getD k z57 := ⟨_, rfl⟩
      rw [← hx] at hlot
      have HX := Lib.hid hx
      clear hx
      obtain ⟨q0, q1, q2, q3, q4, q5, q6⟩ := hlot
      cases d with
      | true =>
        go_wp2
        go_quiet (fail)
        go_wp2_with (first
          | ((with_reducible refine gate_builtin (b := .append) (xs := #[.tmp 43, .tmp 48]) rfl ?_); at_builtin; refine Kd.R_append k57 (w0 := w) w.heap.size rfl (.tmp 43) (.tmp 48) 26 84 (.agg #[(.string ⟨#[]⟩), (.int .i64 0), (.int .i64 0), (.int .i64 0), (.int .i64 0), (.int .i64 0), (.int .i64 0)]) 64 rfl Tryz.underlying26 info84 rfl (by decide) (by omega) u6 o x [.string x.f0, .int .i64 x.f1, .int .i64 x.f2, .int .i64 x.f3, .int .i64 x.f4, .int .i64 x.f5, .int .i64 x.f6] (fun _ => True) (fun _ => False) rfl (by first | (go_simp; done) | (go_simp; rfl)) ?aP (fun _ hk => hk.elim) ?aF ?aO ?aB ?aS ?aL ?_; (case aP => exact k57_mkM _ _ _ x); (case aF => exact (fun _ _ => trivial)); (case aO => first | exact HO.out | exact Kd.R_drewN HO.out _); (case aB => first | exact HB.out | exact pw_below_drewN HB.out _); (case aS => exact HB.out.size); (case aL => have := HOl.out; have := HM.out; have := HLT.out; omega); intro v5 w5 ho hb hg hat; have HO5 := Lib.hid ho; have HB5 := Lib.hid hb; have HE5 := Lib.hid (blk_grown (g := b) (o := .cells #[.int .i64 kk, .string s, .int .i64 n] 34 (0, 0)) (by first | exact HE.out | exact blk_drewN HE.out _ | exact HE.out) hg (by first | exact Kd.R_ne HO.out HE.out (by decide) | exact Kd.R_ne (Kd.R_drewN HO.out _) (blk_drewN HE.out _) (by decide))); obtain ⟨k0, k1, k2⟩ := entry34 HE5.out; clear ho hb hg hat))
        go_roundw
        case rel => exact ⟨k + 1, o ++ [x], true, HLT.out, by first | rfl | trivial, by go_num, len_grow HOl.out, HO5.out, bg_keep HI.out (drop_getD HLT.out HX.out) (Or.inl rfl), HE5.out, HB5.out⟩
        case measure => have := HLT.out; simp [intOf]; omega
      | false =>
        obtain ⟨z, hz⟩ : ∃ z, (!Op.bytesLess x.f0.toList s.toList && !x.f0.toList == s.toList) = z := ⟨_, rfl⟩
        have HZ := Lib.hid (less_gtr hz)
        cases z with
        | true =>
          go_wp2
          go_quiet (fail)
          go_wp2_with (first
            | ((with_reducible refine gate_builtin (b := .append) (xs := #[.tmp 35, .tmp 41]) rfl ?_); at_builtin; refine Kd.R_append k57 (w0 := w) w.heap.size rfl (.tmp 35) (.tmp 41) 26 84 (.agg #[(.string ⟨#[]⟩), (.int .i64 0), (.int .i64 0), (.int .i64 0), (.int .i64 0), (.int .i64 0), (.int .i64 0)]) 64 rfl Tryz.underlying26 info84 rfl (by decide) (by omega) u6 o (newLot s n) [.string s, .int .i64 n, .int .i64 0, .int .i64 0, .int .i64 0, .int .i64 0, .int .i64 0] (fun _ => True) (fun _ => False) rfl (by first | (go_simp; done) | (go_simp; rfl)) ?aP (fun _ hk => hk.elim) ?aF ?aO ?aB ?aS ?aL ?_; (case aP => exact k57_mkM _ _ _ (newLot s n)); (case aF => exact (fun _ _ => trivial)); (case aO => first | exact HO.out | exact Kd.R_drewN HO.out _); (case aB => first | exact HB.out | exact pw_below_drewN HB.out _); (case aS => exact HB.out.size); (case aL => have := HOl.out; have := HM.out; have := HLT.out; omega); intro v5 w5 ho hb hg hat; have HO5 := Lib.hid ho; have HB5 := Lib.hid hb; have HE5 := Lib.hid (blk_grown (g := b) (o := .cells #[.int .i64 kk, .string s, .int .i64 n] 34 (0, 0)) (by first | exact HE.out | exact blk_drewN HE.out _ | exact HE.out) hg (by first | exact Kd.R_ne HO.out HE.out (by decide) | exact Kd.R_ne (Kd.R_drewN HO.out _) (blk_drewN HE.out _) (by decide))); obtain ⟨k0, k1, k2⟩ := entry34 HE5.out; clear ho hb hg hat; obtain ⟨ad2, had2, hl5, _⟩ := LotA.of_row HR.out HB5.out k HLT.out; cases had2; rw [← HX.out] at hl5; obtain ⟨q0, q1, q2, q3, q4, q5, q6⟩ := hl5)
            | ((with_reducible refine gate_builtin (b := .append) (xs := #[.tmp 43, .tmp 48]) rfl ?_); at_builtin; refine Kd.R_append k57 (w0 := w) w.heap.size rfl (.tmp 43) (.tmp 48) 26 84 (.agg #[(.string ⟨#[]⟩), (.int .i64 0), (.int .i64 0), (.int .i64 0), (.int .i64 0), (.int .i64 0), (.int .i64 0)]) 64 rfl Tryz.underlying26 info84 rfl (by decide) (by omega) v5 (o ++ [newLot s n]) x [.string x.f0, .int .i64 x.f1, .int .i64 x.f2, .int .i64 x.f3, .int .i64 x.f4, .int .i64 x.f5, .int .i64 x.f6] (fun _ => True) (fun _ => False) rfl (by first | (go_simp; done) | (go_simp; rfl)) ?aP (fun _ hk => hk.elim) ?aF ?aO ?aB ?aS ?aL ?_; (case aP => exact k57_mkM _ _ _ x); (case aF => exact (fun _ _ => trivial)); (case aO => first | exact HO5.out | exact Kd.R_drewN HO5.out _); (case aB => first | exact HB5.out | exact pw_below_drewN HB5.out _); (case aS => exact HB5.out.size); (case aL => have := HOl.out; have := HM.out; have := HLT.out; simp; omega); intro v6 w6 ho hb hg hat; have HO6 := Lib.hid ho; have HB6 := Lib.hid hb; have HE6 := Lib.hid (blk_grown (g := b) (o := .cells #[.int .i64 kk, .string s, .int .i64 n] 34 (0, 0)) (by first | exact HE5.out | exact blk_drewN HE5.out _ | exact HE5.out) hg (by first | exact Kd.R_ne HO5.out HE5.out (by decide) | exact Kd.R_ne (Kd.R_drewN HO5.out _) (blk_drewN HE5.out _) (by decide))); obtain ⟨k0, k1, k2⟩ := entry34 HE6.out; clear ho hb hg hat))
          go_roundw
          case rel => exact ⟨k + 1, (o ++ [newLot s n]) ++ [x], true, HLT.out, by first | rfl | trivial, by go_num, len_grow2 HOl.out, HO6.out, bg_new HI.out (drop_getD HLT.out HX.out) HZ.out, HE6.out, HB6.out⟩
          case measure => have := HLT.out; simp [intOf]; omega
        | false =>
          go_wp2
          go_quiet (fail)
          go_wp2_with (first
            | ((with_reducible refine gate_builtin (b := .append) (xs := #[.tmp 43, .tmp 48]) rfl ?_); at_builtin; refine Kd.R_append k57 (w0 := w) w.heap.size rfl (.tmp 43) (.tmp 48) 26 84 (.agg #[(.string ⟨#[]⟩), (.int .i64 0), (.int .i64 0), (.int .i64 0), (.int .i64 0), (.int .i64 0), (.int .i64 0)]) 64 rfl Tryz.underlying26 info84 rfl (by decide) (by omega) u6 o x [.string x.f0, .int .i64 x.f1, .int .i64 x.f2, .int .i64 x.f3, .int .i64 x.f4, .int .i64 x.f5, .int .i64 x.f6] (fun _ => True) (fun _ => False) rfl (by first | (go_simp; done) | (go_simp; rfl)) ?aP (fun _ hk => hk.elim) ?aF ?aO ?aB ?aS ?aL ?_; (case aP => exact k57_mkM _ _ _ x); (case aF => exact (fun _ _ => trivial)); (case aO => first | exact HO.out | exact Kd.R_drewN HO.out _); (case aB => first | exact HB.out | exact pw_below_drewN HB.out _); (case aS => exact HB.out.size); (case aL => have := HOl.out; have := HM.out; have := HLT.out; omega); intro v5 w5 ho hb hg hat; have HO5 := Lib.hid ho; have HB5 := Lib.hid hb; have HE5 := Lib.hid (blk_grown (g := b) (o := .cells #[.int .i64 kk, .string s, .int .i64 n] 34 (0, 0)) (by first | exact HE.out | exact blk_drewN HE.out _ | exact HE.out) hg (by first | exact Kd.R_ne HO.out HE.out (by decide) | exact Kd.R_ne (Kd.R_drewN HO.out _) (blk_drewN HE.out _) (by decide))); obtain ⟨k0, k1, k2⟩ := entry34 HE5.out; clear ho hb hg hat))
          go_roundw
          case rel => exact ⟨k + 1, o ++ [x], false, HLT.out, by first | rfl | trivial, by go_num, len_grow HOl.out, HO5.out, bg_keep HI.out (drop_getD HLT.out HX.out) (Or.inr HZ.out), HE5.out, HB5.out⟩
          case measure => have := HLT.out; simp [intOf]; omega
    · have HK := Lib.hid (show l0.drop k = [] from List.drop_eq_nil_of_le (by omega))
      obtain rfl : k = l0.length := by omega
      cases d with
      | true =>
        go_wp2
        go_ret2
        exact ⟨_, rfl, by rw [← bg_end_done HI.out HK.out]; exact HO.out, HB.out⟩
      | false =>
        go_wp2_with (first
          | ((with_reducible refine gate_builtin (b := .append) (xs := #[.tmp 52, .tmp 58]) rfl ?_); at_builtin; refine Kd.R_append k57 (w0 := w) w.heap.size rfl (.tmp 52) (.tmp 58) 26 84 (.agg #[(.string ⟨#[]⟩), (.int .i64 0), (.int .i64 0), (.int .i64 0), (.int .i64 0), (.int .i64 0), (.int .i64 0)]) 64 rfl Tryz.underlying26 info84 rfl (by decide) (by omega) u6 o (newLot s n) [.string s, .int .i64 n, .int .i64 0, .int .i64 0, .int .i64 0, .int .i64 0, .int .i64 0] (fun _ => True) (fun _ => False) rfl (by first | (go_simp; done) | (go_simp; rfl)) ?aP (fun _ hk => hk.elim) ?aF ?aO ?aB ?aS ?aL ?_; (case aP => exact k57_mkM _ _ _ (newLot s n)); (case aF => exact (fun _ _ => trivial)); (case aO => first | exact HO.out | exact Kd.R_drewN HO.out _); (case aB => first | exact HB.out | exact pw_below_drewN HB.out _); (case aS => exact HB.out.size); (case aL => have := HOl.out; have := HM.out; omega); intro v5 w5 ho hb hg hat; have HO5 := Lib.hid ho; have HB5 := Lib.hid hb; have HE5 := Lib.hid (blk_grown (g := b) (o := .cells #[.int .i64 kk, .string s, .int .i64 n] 34 (0, 0)) (by first | exact HE.out | exact blk_drewN HE.out _ | exact HE.out) hg (by first | exact Kd.R_ne HO.out HE.out (by decide) | exact Kd.R_ne (Kd.R_drewN HO.out _) (blk_drewN HE.out _) (by decide))); obtain ⟨k0, k1, k2⟩ := entry34 HE5.out; clear ho hb hg hat))
        go_ret2
        exact ⟨_, rfl, by rw [← bg_end HI.out HK.out]; exact HO5.out, HB5.out⟩
end Go.Proofs.YtdgipencedlbmaaGreatDoor.Pr
