/- Contracts of the methods of a lot: left, fits. The order of texts: total, transitive, without x < x. The contracts of register.Check and find: the error of a register; a lot's place by its name. -/
import Derived.Test.YtdgipencedlbmaaGreatDoorZD02
import Derived.Deep.QuietTactic
import Derived.BigQuiet
import Derived.StillTailTactics
import Derived.RegionTactic
namespace Go.Proofs.YtdgipencedlbmaaGreatDoor.Pr
set_option linter.unusedVariables false
set_option linter.unusedSimpArgs false
open Go.RowKit Go.Proofs.YtdgipencedlbmaaGreatDoorW.PrintWords Go.Proofs.YtdgipencedlbmaaGreatDoor.Hand
structure LotAt (w : World) (g o : Nat) (x : S57) : Prop where
  c0 : w.cell? ⟨g, o, none⟩ = some (.string x.f0)
  c1 : w.cell? ⟨g, o + 1, none⟩ = some (.int .i64 x.f1)
  c2 : w.cell? ⟨g, o + 2, none⟩ = some (.int .i64 x.f2)
  c3 : w.cell? ⟨g, o + 3, none⟩ = some (.int .i64 x.f3)
  c4 : w.cell? ⟨g, o + 4, none⟩ = some (.int .i64 x.f4)
  c5 : w.cell? ⟨g, o + 5, none⟩ = some (.int .i64 x.f5)
  c6 : w.cell? ⟨g, o + 6, none⟩ = some (.int .i64 x.f6)
structure SmallLot (x : S57) : Prop where
  s1 : 0 ≤ x.f1 ∧ x.f1 ≤ 1048576
  s2 : 0 ≤ x.f2 ∧ x.f2 ≤ 1048576
  s3 : 0 ≤ x.f3 ∧ x.f3 ≤ 1048576
  s4 : 0 ≤ x.f4 ∧ x.f4 ≤ 1048576
  s5 : 0 ≤ x.f5 ∧ x.f5 ≤ 1048576
theorem LotAt.below {B : Nat} {w w' : World} {g o : Nat} {x : S57} (h : LotAt w g o x) (hb : Below B w w') (hg : g < B) : LotAt w' g o x := by
  have e : ∀ k, w'.cell? ⟨g, k, none⟩ = w.cell? ⟨g, k, none⟩ := fun k => hb.cell (p := ⟨g, k, none⟩) hg
  exact ⟨by rw [e]; exact h.c0, by rw [e]; exact h.c1, by rw [e]; exact h.c2, by rw [e]; exact h.c3, by rw [e]; exact h.c4, by rw [e]; exact h.c5, by rw [e]; exact h.c6⟩
theorem LotAt.drewN {w : World} {g o : Nat} {x : S57} (h : LotAt w g o x) (n : Nat) : LotAt (w.drewN n) g o x := ⟨h.c0, h.c1, h.c2, h.c3, h.c4, h.c5, h.c6⟩
set_option maxHeartbeats 1000000 in
set_option maxRecDepth 100000 in
theorem left_calls (g o : Nat) (x : S57) (w : World) (hx : LotAt w g o x) (hs : SmallLot x) :
    Calls Tryz.prog 86 #[.pointer (some ⟨g, o, none⟩)] w fun e w' => e = .returned (.int .i64 (leftS x)) ∧ ∃ n, w' = w.drewN n := by
  obtain ⟨c0, c1, c2, c3, c4, c5, c6⟩ := hx
  obtain ⟨⟨a1, b1⟩, ⟨a2, b2⟩, ⟨a3, b3⟩, ⟨a4, b4⟩, ⟨a5, b5⟩⟩ := hs
  unfold leftS
  go_enter Tryz.func86, Tryz.ntmps86
  go_wp2
  go_quiet (fail)
  go_wp2
  go_ret
  exact ⟨rfl, _, rfl⟩
set_option maxHeartbeats 1000000 in
set_option maxRecDepth 100000 in
theorem fits_size (g o : Nat) (x : S57) (w : World) (hx : LotAt w g o x) (h : x.f1 < 1 ∨ x.f1 > 1048576) :
    Calls Tryz.prog 52 #[.pointer (some ⟨g, o, none⟩)] w fun e w' => e = .returned (.int .i64 2) ∧ Below w.heap.size w w' := by
  obtain ⟨c0, c1, c2, c3, c4, c5, c6⟩ := hx
  rcases h with h | h
  · have d1 : decide (x.f1 < 1) = true := decide_eq_true h
    go_enter Tryz.func52, Tryz.ntmps52
    go_wp2
    go_ret
    exact ⟨rfl, Below.refl _ _⟩
  · have d1 : decide (x.f1 < 1) = false := decide_eq_false (by omega)
    have d2 : decide (1048576 < x.f1) = true := decide_eq_true h
    go_enter Tryz.func52, Tryz.ntmps52
    go_wp2
    go_ret
    exact ⟨rfl, Below.refl _ _⟩
def numAt (x : S57) (k : Nat) : Int := if k = 0 then x.f2 else if k = 1 then x.f3 else if k = 2 then x.f4 else x.f5
theorem okNum_iff {n m : Int} : okNum n m = true ↔ 0 ≤ n ∧ n ≤ m := by simp [okNum]
theorem fits_nums {x : S57} (h : ∀ j, j < 4 → okNum (numAt x j) x.f1 = true) : (okNum x.f2 x.f1 && okNum x.f3 x.f1 && okNum x.f4 x.f1 && okNum x.f5 x.f1) = true := by
  have h0 := h 0 (by omega); have h1 := h 1 (by omega); have h2 := h 2 (by omega); have h3 := h 3 (by omega)
  simp only [numAt] at h0 h1 h2 h3
  simp at h0 h1 h2 h3
  simp [h0, h1, h2, h3]
theorem fits_num {x : S57} (k : Nat) (hk : k < 4) (h : okNum (numAt x k) x.f1 = false) (h1 : 1 ≤ x.f1) (h2 : x.f1 ≤ 1048576) : Ending.returned (.int .i64 2) = Ending.returned (.int .i64 (fitsS x)) := by
  have e : fitsS x = 2 := by
    unfold fitsS
    rw [if_neg (by omega), if_pos]
    rcases (show k = 0 ∨ k = 1 ∨ k = 2 ∨ k = 3 by omega) with rfl | rfl | rfl | rfl <;> simp [numAt] at h <;> simp [h]
  rw [e]
theorem fits_state {x : S57} (h : (okNum x.f2 x.f1 && okNum x.f3 x.f1 && okNum x.f4 x.f1 && okNum x.f5 x.f1) = true) (h6 : x.f6 < 0 ∨ x.f6 > 2) (h1 : 1 ≤ x.f1) (h2 : x.f1 ≤ 1048576) : Ending.returned (.int .i64 1) = Ending.returned (.int .i64 (fitsS x)) := by
  have e : fitsS x = 1 := by
    unfold fitsS
    rw [if_neg (by omega), if_neg (by simp [h]), if_pos h6]
  rw [e]
theorem fits_left {x : S57} {v : Int} (h : (okNum x.f2 x.f1 && okNum x.f3 x.f1 && okNum x.f4 x.f1 && okNum x.f5 x.f1) = true) (h6 : 0 ≤ x.f6 ∧ x.f6 ≤ 2) (h1 : 1 ≤ x.f1) (h2 : x.f1 ≤ 1048576)
    (hv : v = if leftS x < 0 ∨ (x.f6 ≠ 0 ∧ leftS x > 0) ∨ (x.f6 = 2 ∧ x.f3 > 0) then 16 else 0) : Ending.returned (.int .i64 v) = Ending.returned (.int .i64 (fitsS x)) := by
  have e : fitsS x = v := by
    unfold fitsS
    rw [if_neg (by omega), if_neg (by simp [h]), if_neg (by omega), hv]
  rw [e]
theorem small_of {x : S57} (h : (okNum x.f2 x.f1 && okNum x.f3 x.f1 && okNum x.f4 x.f1 && okNum x.f5 x.f1) = true) (h1 : 1 ≤ x.f1) (h2 : x.f1 ≤ 1048576) : SmallLot x := by
  simp only [Bool.and_eq_true, okNum_iff] at h
  exact ⟨by omega, by omega, by omega, by omega, by omega⟩
set_option maxHeartbeats 8000000 in
set_option maxRecDepth 100000 in
theorem fits_rest (g o : Nat) (x : S57) (w : World) (hx : LotAt w g o x) (hlt : g < w.heap.size) (h1 : 1 ≤ x.f1) (h2 : x.f1 ≤ 1048576) :
    Calls Tryz.prog 52 #[.pointer (some ⟨g, o, none⟩)] w fun e w' => e = .returned (.int .i64 (fitsS x)) ∧ Below w.heap.size w w' := by
  have d1 : decide (x.f1 < 1) = false := decide_eq_false (by omega)
  have d2 : decide (1048576 < x.f1) = false := decide_eq_false (by omega)
  have H1 := Lib.hid h1
  have H2 := Lib.hid h2
  have HX := Lib.hid hx
  clear h1 h2
  obtain ⟨c0, c1, c2, c3, c4, c5, c6⟩ := hx
  go_enter Tryz.func52, Tryz.ntmps52
  go_wp2
  go_region
  go_wp2
  obtain ⟨w1, hw1⟩ : ∃ w1, w1 = (w.alloc (.cells #[.int .i64 x.f2, .int .i64 x.f3, .int .i64 x.f4, .int .i64 x.f5] 3)).drew := ⟨_, rfl⟩
  rw [← hw1]
  have n0 : w1.cell? ⟨w.heap.size, 0, none⟩ = some (.int .i64 x.f2) := by rw [hw1]; go_simp
  have n1 : w1.cell? ⟨w.heap.size, 1, none⟩ = some (.int .i64 x.f3) := by rw [hw1]; go_simp
  have n2 : w1.cell? ⟨w.heap.size, 2, none⟩ = some (.int .i64 x.f4) := by rw [hw1]; go_simp
  have n3 : w1.cell? ⟨w.heap.size, 3, none⟩ = some (.int .i64 x.f5) := by rw [hw1]; go_simp
  have hB : Below w.heap.size w w1 := by rw [hw1]; exact below_drew ((Below.refl _ _).alloc (Nat.le_refl _) _)
  clear hw1
  have HB := Lib.hid hB
  have hX := HX.out.below hB hlt
  have HX1 := Lib.hid hX
  clear hB c0 c1 c2 c3 c4 c5 c6
  obtain ⟨c0, c1, c2, c3, c4, c5, c6⟩ := hX
  clear HX
  go_loop [4, 35, 36, 37, 38, 39, 40, 41, 42, 43, 44, 45, 46, 47, 48, 49] (fun _ i _ _ _ _ _ _ _ _ _ _ _ _ _ _ => ∃ k : Nat, k ≤ 4 ∧ i = .int .i64 k ∧ Hid (∀ j, j < k → okNum (numAt x j) x.f1 = true)) (fun _ i _ _ _ _ _ _ _ _ _ _ _ _ _ _ => 4 - (intOf i).toNat)
  case atStart => exact ⟨0, by omega, rfl, fun j hj => by omega⟩
  case round =>
    obtain ⟨k, hk, rfl, hall⟩ := hrel
    rcases (show k = 0 ∨ k = 1 ∨ k = 2 ∨ k = 3 ∨ k = 4 by omega) with rfl | rfl | rfl | rfl | rfl
    · rcases (show x.f2 < 0 ∨ (0 ≤ x.f2 ∧ x.f1 < x.f2) ∨ (0 ≤ x.f2 ∧ x.f2 ≤ x.f1) by omega) with h | h | h
      · have e1 : decide (x.f2 < 0) = true := decide_eq_true h
        go_wp2
        go_ret
        exact ⟨fits_num 0 (by omega) (by simp [okNum, numAt]; omega) H1.out H2.out, HB.out⟩
      · have e1 : decide (x.f2 < 0) = false := decide_eq_false (by omega)
        have e2 : decide (x.f1 < x.f2) = true := decide_eq_true (by omega)
        go_wp2
        go_ret
        exact ⟨fits_num 0 (by omega) (by simp [okNum, numAt]; omega) H1.out H2.out, HB.out⟩
      · have e1 : decide (x.f2 < 0) = false := decide_eq_false (by omega)
        have e2 : decide (x.f1 < x.f2) = false := decide_eq_false (by omega)
        have H := Lib.hid h
        clear h
        go_wp2
        go_round
        case rel => exact ⟨1, by omega, by go_num, fun j hj => by
          rcases Nat.lt_or_ge j 0 with h' | h'
          · exact hall.out j h'
          · obtain rfl : j = 0 := by omega
            have := H.out
            simp [okNum, numAt]; omega⟩
        case measure => simp [intOf]
    · rcases (show x.f3 < 0 ∨ (0 ≤ x.f3 ∧ x.f1 < x.f3) ∨ (0 ≤ x.f3 ∧ x.f3 ≤ x.f1) by omega) with h | h | h
      · have e1 : decide (x.f3 < 0) = true := decide_eq_true h
        go_wp2
        go_ret
        exact ⟨fits_num 1 (by omega) (by simp [okNum, numAt]; omega) H1.out H2.out, HB.out⟩
      · have e1 : decide (x.f3 < 0) = false := decide_eq_false (by omega)
        have e2 : decide (x.f1 < x.f3) = true := decide_eq_true (by omega)
        go_wp2
        go_ret
        exact ⟨fits_num 1 (by omega) (by simp [okNum, numAt]; omega) H1.out H2.out, HB.out⟩
      · have e1 : decide (x.f3 < 0) = false := decide_eq_false (by omega)
        have e2 : decide (x.f1 < x.f3) = false := decide_eq_false (by omega)
        have H := Lib.hid h
        clear h
        go_wp2
        go_round
        case rel => exact ⟨2, by omega, by go_num, fun j hj => by
          rcases Nat.lt_or_ge j 1 with h' | h'
          · exact hall.out j h'
          · obtain rfl : j = 1 := by omega
            have := H.out
            simp [okNum, numAt]; omega⟩
        case measure => simp [intOf]
    · rcases (show x.f4 < 0 ∨ (0 ≤ x.f4 ∧ x.f1 < x.f4) ∨ (0 ≤ x.f4 ∧ x.f4 ≤ x.f1) by omega) with h | h | h
      · have e1 : decide (x.f4 < 0) = true := decide_eq_true h
        go_wp2
        go_ret
        exact ⟨fits_num 2 (by omega) (by simp [okNum, numAt]; omega) H1.out H2.out, HB.out⟩
      · have e1 : decide (x.f4 < 0) = false := decide_eq_false (by omega)
        have e2 : decide (x.f1 < x.f4) = true := decide_eq_true (by omega)
        go_wp2
        go_ret
        exact ⟨fits_num 2 (by omega) (by simp [okNum, numAt]; omega) H1.out H2.out, HB.out⟩
      · have e1 : decide (x.f4 < 0) = false := decide_eq_false (by omega)
        have e2 : decide (x.f1 < x.f4) = false := decide_eq_false (by omega)
        have H := Lib.hid h
        clear h
        go_wp2
        go_round
        case rel => exact ⟨3, by omega, by go_num, fun j hj => by
          rcases Nat.lt_or_ge j 2 with h' | h'
          · exact hall.out j h'
          · obtain rfl : j = 2 := by omega
            have := H.out
            simp [okNum, numAt]; omega⟩
        case measure => simp [intOf]
    · rcases (show x.f5 < 0 ∨ (0 ≤ x.f5 ∧ x.f1 < x.f5) ∨ (0 ≤ x.f5 ∧ x.f5 ≤ x.f1) by omega) with h | h | h
      · have e1 : decide (x.f5 < 0) = true := decide_eq_true h
        go_wp2
        go_ret
        exact ⟨fits_num 3 (by omega) (by simp [okNum, numAt]; omega) H1.out H2.out, HB.out⟩
      · have e1 : decide (x.f5 < 0) = false := decide_eq_false (by omega)
        have e2 : decide (x.f1 < x.f5) = true := decide_eq_true (by omega)
        go_wp2
        go_ret
        exact ⟨fits_num 3 (by omega) (by simp [okNum, numAt]; omega) H1.out H2.out, HB.out⟩
      · have e1 : decide (x.f5 < 0) = false := decide_eq_false (by omega)
        have e2 : decide (x.f1 < x.f5) = false := decide_eq_false (by omega)
        have H := Lib.hid h
        clear h
        go_wp2
        go_round
        case rel => exact ⟨4, by omega, by go_num, fun j hj => by
          rcases Nat.lt_or_ge j 3 with h' | h'
          · exact hall.out j h'
          · obtain rfl : j = 3 := by omega
            have := H.out
            simp [okNum, numAt]; omega⟩
        case measure => simp [intOf]
    · have hok := fits_nums hall.out
      clear hall
      have hs := small_of hok H1.out H2.out
      have HOK := Lib.hid hok
      have HS := Lib.hid hs
      clear hok hs
      rcases (show x.f6 < 0 ∨ (0 ≤ x.f6 ∧ 2 < x.f6) ∨ (0 ≤ x.f6 ∧ x.f6 ≤ 2) by omega) with h | h | h
      · have e1 : decide (x.f6 < 0) = true := decide_eq_true h
        go_wp2
        go_ret
        exact ⟨fits_state HOK.out (by omega) H1.out H2.out, HB.out⟩
      · have e1 : decide (x.f6 < 0) = false := decide_eq_false (by omega)
        have e2 : decide (2 < x.f6) = true := decide_eq_true (by omega)
        go_wp2
        go_ret
        exact ⟨fits_state HOK.out (by omega) H1.out H2.out, HB.out⟩
      · have e1 : decide (x.f6 < 0) = false := decide_eq_false (by omega)
        have e2 : decide (2 < x.f6) = false := decide_eq_false (by omega)
        have H6 := Lib.hid h
        clear h
        have h3 := HS.out.s3
        have h63 : (leftS x < 0) ∨ (0 ≤ leftS x ∧ x.f6 ≠ 0 ∧ 0 < leftS x) ∨ (0 ≤ leftS x ∧ x.f6 = 0) ∨ (leftS x = 0 ∧ x.f6 = 1) ∨ (leftS x = 0 ∧ x.f6 = 2 ∧ 0 < x.f3) ∨ (leftS x = 0 ∧ x.f6 = 2 ∧ x.f3 ≤ 0) := by have := H6.out; omega
        clear h3
        rcases h63 with h | h | h | h | h | h
        all_goals
          first | (have e3 : decide (leftS x < 0) = true := decide_eq_true (by omega)) | (have e3 : decide (leftS x < 0) = false := decide_eq_false (by omega))
          first | (have e4 : (x.f6 != 0) = true := bne_iff_ne.mpr (by omega)) | (have e4 : (x.f6 != 0) = false := bne_eq_false_iff_eq.mpr (by omega)) | skip
          first | (have e5 : decide (0 < leftS x) = true := decide_eq_true (by omega)) | (have e5 : decide (0 < leftS x) = false := decide_eq_false (by omega)) | skip
          first | (have e6 : (x.f6 == 2) = true := beq_iff_eq.mpr (by omega)) | (have e6 : (x.f6 == 2) = false := beq_eq_false_iff_ne.mpr (by omega)) | skip
          first | (have e7 : decide (0 < x.f3) = true := decide_eq_true (by omega)) | (have e7 : decide (0 < x.f3) = false := decide_eq_false (by omega)) | skip
          have HL := Lib.hid h
          clear h
          go_wp2_with (go_at_call 86; refine (left_calls _ _ x _ ?hx HS.out).mono ?_; (case hx => first | exact HX1.out | exact HX1.out.drewN _); rintro e w' ⟨rfl, nd, rfl⟩)
          go_ret
          refine ⟨fits_left HOK.out (by have := H6.out; omega) H1.out H2.out ?_, by first | exact HB.out | exact pw_below_drewN HB.out _ | exact pw_below_drewN (pw_below_drewN HB.out _) _⟩
          have := HL.out
          first | rw [if_pos (by omega)] | rw [if_neg (by omega)]
end Go.Proofs.YtdgipencedlbmaaGreatDoor.Pr
namespace Go.Proofs.YtdgipencedlbmaaGreatDoor.Hand
theorem u8_lt (a b : UInt8) : (decide (a < b)) = decide (a.toNat < b.toNat) := by
  rw [Bool.eq_iff_iff]; simp [UInt8.lt_iff_toNat_lt]
theorem u8_beq (a b : UInt8) : (a == b) = decide (a.toNat = b.toNat) := by
  rw [Bool.eq_iff_iff]; simp [UInt8.toNat_inj]
theorem bytesLess_total (a b : List UInt8) : (!Op.bytesLess b a) = (Op.bytesLess a b || a == b) := by
  induction a generalizing b with
  | nil => cases b <;> simp [Op.bytesLess]
  | cons x a ih =>
    cases b with
    | nil => simp [Op.bytesLess]
    | cons y b =>
      have h := ih b
      simp only [Op.bytesLess, List.cons_beq_cons, u8_beq, u8_lt]
      rcases Nat.lt_trichotomy x.toNat y.toNat with h1 | h1 | h1
      · simp [h1, Nat.not_lt_of_gt h1, Nat.ne_of_gt h1, Nat.ne_of_lt h1]
      · simp [h1, h]
      · simp [h1, Nat.not_lt_of_gt h1, Nat.ne_of_gt h1, Nat.ne_of_lt h1]
theorem bytesLess_trans {a b c : List UInt8} (h1 : Op.bytesLess a b = true) (h2 : Op.bytesLess b c = true) : Op.bytesLess a c = true := by
  induction a generalizing b c with
  | nil => cases c with
    | nil => cases b <;> simp [Op.bytesLess] at h2
    | cons => simp [Op.bytesLess]
  | cons x a ih =>
    cases b with
    | nil => simp [Op.bytesLess] at h1
    | cons y b =>
      cases c with
      | nil => simp [Op.bytesLess] at h2
      | cons z c =>
        simp only [Op.bytesLess, u8_beq, u8_lt, Bool.or_eq_true, Bool.and_eq_true, decide_eq_true_eq] at h1 h2 ⊢
        rcases h1 with h1 | ⟨h1, h1'⟩ <;> rcases h2 with h2 | ⟨h2, h2'⟩
        · exact .inl (by omega)
        · exact .inl (by omega)
        · exact .inl (by omega)
        · exact .inr ⟨by omega, ih h1' h2'⟩
theorem bytesLess_asymm {a b : List UInt8} (h : Op.bytesLess a b = true) : Op.bytesLess b a = false := by
  have := bytesLess_total a b
  rw [h] at this; simpa using this
theorem bytesLess_tri {a b : List UInt8} (h : Op.bytesLess a b = false) (h' : a ≠ b) : Op.bytesLess b a = true := by
  have := bytesLess_total a b
  rw [h] at this
  have e : (a == b) = false := by simpa using h'
  rw [e] at this
  simpa using this
end Go.Proofs.YtdgipencedlbmaaGreatDoor.Hand
namespace Go.Proofs.YtdgipencedlbmaaGreatDoor.Pr
set_option linter.unusedVariables false
set_option linter.unusedSimpArgs false
open Go.RowKit Go.Proofs.YtdgipencedlbmaaGreatDoorW.PrintWords Go.Proofs.YtdgipencedlbmaaGreatDoor.Hand
def cellsS (x : S57) : Array Value := #[.string x.f0, .int .i64 x.f1, .int .i64 x.f2, .int .i64 x.f3, .int .i64 x.f4, .int .i64 x.f5, .int .i64 x.f6]
theorem zero57 (w : World) : (zeroValue 57).run Tryz.prog w = .ok (.agg (cellsS z57)) w := by kernel_rfl
theorem cellsS_one (x : S57) : (cellsS x).all (·.oneCell') = true := by simp [cellsS, Value.oneCell']
theorem cellsS_size (x : S57) : (Value.agg (cellsS z57)).cells.size = (cellsS x).size := rfl
theorem info57s (x : S57) : (Tryz.prog.info? 57).map (·.size) = some (cellsS x).size := by
  show _ = some 7
  kernel_rfl
theorem LotAt.of_block {w : World} {g : Nat} {x : S57} {t : TypeId} {fr : Nat × Nat} (h : w.heap[g]? = some (.cells (cellsS x) t fr)) : LotAt w g 0 x :=
  ⟨cellB h 0, cellB h 1, cellB h 2, cellB h 3, cellB h 4, cellB h 5, cellB h 6⟩
theorem fits_any (g : Nat) (x : S57) (v : Int) (hv : fitsS x = v) (w : World) (hx : LotAt w g 0 x) (hlt : g < w.heap.size) :
    Calls Tryz.prog 52 #[.pointer (some ⟨g, 0, none⟩)] w fun e w' => e = .returned (.int .i64 v) ∧ Below w.heap.size w w' := by
  subst hv
  by_cases h : x.f1 < 1 ∨ x.f1 > 1048576
  · have e : fitsS x = 2 := by unfold fitsS; rw [if_pos h]
    rw [e]; exact fits_size g 0 x w hx h
  · exact fits_rest g 0 x w hx hlt (by omega) (by omega)
structure LotA (w : World) (a : Addr) (x : S57) : Prop where
  c0 : w.cell? a = some (.string x.f0)
  c1 : w.cell? ⟨a.block, a.off + 1, none⟩ = some (.int .i64 x.f1)
  c2 : w.cell? ⟨a.block, a.off + 2, none⟩ = some (.int .i64 x.f2)
  c3 : w.cell? ⟨a.block, a.off + 3, none⟩ = some (.int .i64 x.f3)
  c4 : w.cell? ⟨a.block, a.off + 4, none⟩ = some (.int .i64 x.f4)
  c5 : w.cell? ⟨a.block, a.off + 5, none⟩ = some (.int .i64 x.f5)
  c6 : w.cell? ⟨a.block, a.off + 6, none⟩ = some (.int .i64 x.f6)
theorem LotA.below {B : Nat} {w w' : World} {a : Addr} {x : S57} (h : LotA w a x) (hb : Below B w w') (hg : a.block < B) : LotA w' a x := by
  have e : ∀ k, w'.cell? ⟨a.block, k, none⟩ = w.cell? ⟨a.block, k, none⟩ := fun k => hb.cell (p := ⟨a.block, k, none⟩) hg
  exact ⟨by rw [hb.cell hg]; exact h.c0, by rw [e]; exact h.c1, by rw [e]; exact h.c2, by rw [e]; exact h.c3, by rw [e]; exact h.c4, by rw [e]; exact h.c5, by rw [e]; exact h.c6⟩
theorem LotA.of_row {w W : World} {A : Option Addr} {l : List S57} (h : Kd.C k57 w A l.length l) (hb : Below w.heap.size w W) (k : Nat) (hk : k < l.length) :
    ∃ ad, A = some ad ∧ LotA W (ad.add (k * 7)) (l.getD k z57) ∧ (ad.add (k * 7)).block < w.heap.size := by
  obtain ⟨ad, e, h0, h1, h2, h3, h4, h5, h6⟩ := at_T57 h k (by omega) (by omega)
  have er : rd_T57 l (k : Int) = l.getD k z57 := by unfold rd_T57; rw [Int.toNat_natCast]
  rw [er] at h0 h1 h2 h3 h4 h5 h6
  rw [Int.toNat_natCast] at h0 h1 h2 h3 h4 h5 h6
  have hlt : (ad.add (k * 7)).block < w.heap.size := World.block_lt_of_cell? w _ h0
  exact ⟨ad, e, LotA.below ⟨h0, h1, h2, h3, h4, h5, h6⟩ hb hlt, hlt⟩
theorem check_at {w wr w2 w3 : World} {b : Nat} {cs : Array Value} (hb : b = wr.heap.size) (hs2 : w2.heap.size = b + 1) (hB : Below w.heap.size w wr) (hB2 : Below wr.heap.size wr w2) (hB3 : But b w2 w3) (hb3 : w3.heap[b]? = some (.cells cs 57 (0, 0))) :
    Below w.heap.size w w3 ∧ b < w3.heap.size ∧ w.heap.size ≤ b := by
  have a1 := hB.size; have a2 := hB2.size; have a3 := hB3.size
  exact ⟨hB3.below (below_then hB hB2) (by omega) (by omega), by omega, by omega⟩
theorem drop_getD {l : List S57} {k : Nat} {x : S57} (h : k < l.length) (hx : x = l.getD k z57) : l.drop k = x :: l.drop (k + 1) := by
  rw [List.drop_eq_getElem_cons h, hx, List.getD, List.getElem?_eq_getElem h]; rfl
theorem check_name {l : List S57} {p : Option ByteArray} {k : Nat} {x : S57} {v : Int} (h : v = checkFrom p (l.drop k)) (hx : l.drop k = x :: l.drop (k + 1)) (hn : nameErr x.f0 ≠ 0) :
    Ending.returned (.int .i64 (nameErr x.f0)) = Ending.returned (.int .i64 v) := by
  rw [h, hx]; unfold checkFrom; rw [if_pos hn]
def prevS (l : List S57) (k : Nat) : Option ByteArray := if k = 0 then none else some (l.getD (k - 1) z57).f0
theorem check_next {l : List S57} {k : Nat} {x : S57} {v : Int} (h : v = checkFrom (prevS l k) (l.drop k)) (hx : l.drop k = x :: l.drop (k + 1)) (hn : nameErr x.f0 = 0) (hf : fitsS x = 0)
    (hp : badOrder (prevS l k) x.f0 = false) (hl : x = l.getD k z57) : v = checkFrom (prevS l (k + 1)) (l.drop (k + 1)) := by
  rw [h, hx]; conv => lhs; unfold checkFrom
  rw [if_neg (by simpa using hn), hp, if_neg (by simp), if_neg (by simpa using hf)]
  simp only [prevS, Nat.add_one_sub_one, Nat.add_one_ne_zero, if_false, ← hl]
theorem check_fits {l : List S57} {k : Nat} {x : S57} {v u : Int} (h : v = checkFrom (prevS l k) (l.drop k)) (hx : l.drop k = x :: l.drop (k + 1)) (hn : nameErr x.f0 = 0) (hf : fitsS x = u) (hu : u ≠ 0)
    (hp : badOrder (prevS l k) x.f0 = false) : Ending.returned (.int .i64 u) = Ending.returned (.int .i64 v) := by
  rw [h, hx]; unfold checkFrom
  rw [if_neg (by simpa using hn), hp, if_neg (by simp), if_pos (by rw [hf]; exact hu), hf]
theorem check_order {l : List S57} {k : Nat} {x : S57} {v : Int} (h : v = checkFrom (prevS l k) (l.drop k)) (hx : l.drop k = x :: l.drop (k + 1)) (hn : nameErr x.f0 = 0)
    (hp : badOrder (prevS l k) x.f0 = true) : Ending.returned (.int .i64 9) = Ending.returned (.int .i64 v) := by
  rw [h, hx]; unfold checkFrom
  rw [if_neg (by simpa using hn), hp, if_pos rfl]
theorem lessB_not {a b : ByteArray} : (!lessB b a) = (Op.bytesLess a.toList b.toList || a.toList == b.toList) := by
  rw [toList_eq, toList_eq]; unfold lessB; exact bytesLess_total _ _
theorem prev_order {l : List S57} {j : Nat} {x y : S57} {o : Bool} (hy : y = l.getD j z57) (ho : (Op.bytesLess x.f0.toList y.f0.toList || x.f0.toList == y.f0.toList) = o) : badOrder (prevS l (j + 1)) x.f0 = o := by
  simp only [prevS, Nat.add_one_sub_one, Nat.add_one_ne_zero, if_false, ← hy, badOrder]
  rw [lessB_not]; exact ho
theorem prev_zero {l : List S57} {k : Nat} {x : S57} (h : k = 0) : badOrder (prevS l k) x.f0 = false := by subst h; rfl
set_option maxHeartbeats 8000000 in
set_option maxRecDepth 100000 in
theorem Check_few (A0 : Option Addr) (c0 : Nat) (l0 : List (S57)) (w : World) (hr0 : Kd.C k57 w A0 l0.length l0) (hc0 : l0.length ≤ c0) (h : l0.length ≤ 256) :
    Calls Tryz.prog 18 #[.slice A0 l0.length c0] w fun e w' => e = .returned (.int .i64 (checkFrom none l0)) ∧ Below w.heap.size w w' := by
  have d1 : decide (256 < (l0.length : Int)) = false := decide_eq_false (by omega)
  have HR := Lib.hid hr0
  have HC := Lib.hid hc0
  have HM := Lib.hid h
  clear hr0 hc0 h
  go_enter Tryz.func18, Tryz.ntmps18
  go_wp2
  go_loopw [3, 4, 5, 6, 12] (fun _ _ _ _ i wr => ∃ k : Nat, k ≤ l0.length ∧ i = .int .i64 k ∧ Hid (checkFrom none l0 = checkFrom (prevS l0 k) (l0.drop k)) ∧ Hid (Below w.heap.size w wr)) (fun _ _ _ _ i _ => l0.length - (intOf i).toNat)
  case atStart => exact ⟨0, by omega, rfl, rfl, Below.refl _ _⟩
  case round =>
    obtain ⟨k, hk, rfl, hrest, HB⟩ := hrel
    have hm := HM.out
    by_cases hlt : k < l0.length
    · have HLT := Lib.hid hlt
      obtain ⟨ad, rfl, hlot, had⟩ := LotA.of_row HR.out HB.out k hlt
      have HAD := Lib.hid had
      clear had
      obtain ⟨x, hx⟩ : ∃ x, x = l0.getD k z57 := ⟨_, rfl⟩
      rw [← hx] at hlot
      have HX := Lib.hid hx
      clear hx
      obtain ⟨q0, q1, q2, q3, q4, q5, q6⟩ := hlot
      have HXn := Lib.hid (rfl : nameErr x.f0 = nameErr x.f0)
      by_cases hne : nameErr x.f0 = 0
      · have HN := Lib.hid hne
        clear hne
        obtain ⟨v, hv⟩ : ∃ v, fitsS x = v := ⟨_, rfl⟩
        have HV := Lib.hid hv
        clear hv
        rcases Nat.eq_zero_or_pos k with hz | hz
        · have e0 : decide (0 < k) = false := decide_eq_false (by omega)
          have HZ := Lib.hid hz
          clear hz
          by_cases hvz : v = 0
          · have e2 : (v != 0) = false := bne_eq_false_iff_eq.mpr hvz
            have HVZ := Lib.hid hvz
            clear hvz
            go_wp2_with (first
        | ((with_reducible refine alloc_event rfl 57 rfl (.agg (cellsS z57)) zero57 ?_); intro b hb w2 hb2 hB2 hs2; have HBb := Lib.hid hb; have HS2 := Lib.hid hs2; clear hb hs2)
        | ((with_reducible refine store_row_event rfl 57 _ _ rfl b (cellsS x) ?hx ?hy 57 _ hb2 ?hi ?ho ?h1 ?_); (case hx => (go_simp; done)); (case hy => (unfold cellsS; go_simp; done)); (case hi => exact info57s x); (case ho => exact cellsS_size x); (case h1 => exact cellsS_one x); intro w3 hb3 hB3 hs3; have HS3 := Lib.hid hs3; have HA := Lib.hid (check_at HBb.out HS2.out HB.out hB2 hB3 hb3); clear hs3 hb2 hB2 hB3; have hn := cellB hb3 0; simp only [cellsS, List.getElem?_toArray, List.getElem?_cons_zero] at hn; have HB3 := Lib.hid hb3; clear hb3)
              | (go_at_call 51; refine (Name_is _ 0 HN.out _).mono ?_; rintro e w4 ⟨rfl, hB4⟩; have HB4 := Lib.hid (below_then HA.out.1 hB4); have HK4 := Lib.hid (below_keeps hB4 HA.out.2.1 HB3.out); have HS4 := Lib.hid (Nat.lt_of_lt_of_le HA.out.2.1 hB4.size); clear hB4; have hn4 := cellB HK4.out 0; simp only [cellsS, List.getElem?_toArray, List.getElem?_cons_zero] at hn4))
            go_quiet (fail)
            go_wp2_with (go_at_call 52; refine (fits_any b x v HV.out _ ?hx ?hs).mono ?_; (case hx => first | exact LotAt.of_block HK4.out | exact (LotAt.of_block HK4.out).drewN _); (case hs => exact HS4.out); rintro e w5 ⟨rfl, hB5⟩)
            go_roundw
            case rel => exact ⟨k + 1, HLT.out, by go_num, check_next hrest.out (drop_getD HLT.out HX.out) HN.out (by rw [HV.out]; exact HVZ.out) (prev_zero HZ.out) HX.out, below_then HB4.out (below_of_drewN hB5)⟩
            case measure => have := HLT.out; simp [intOf]; omega
          · have e2 : (v != 0) = true := bne_iff_ne.mpr hvz
            have HVZ := Lib.hid hvz
            clear hvz
            go_wp2_with (first
        | ((with_reducible refine alloc_event rfl 57 rfl (.agg (cellsS z57)) zero57 ?_); intro b hb w2 hb2 hB2 hs2; have HBb := Lib.hid hb; have HS2 := Lib.hid hs2; clear hb hs2)
        | ((with_reducible refine store_row_event rfl 57 _ _ rfl b (cellsS x) ?hx ?hy 57 _ hb2 ?hi ?ho ?h1 ?_); (case hx => (go_simp; done)); (case hy => (unfold cellsS; go_simp; done)); (case hi => exact info57s x); (case ho => exact cellsS_size x); (case h1 => exact cellsS_one x); intro w3 hb3 hB3 hs3; have HS3 := Lib.hid hs3; have HA := Lib.hid (check_at HBb.out HS2.out HB.out hB2 hB3 hb3); clear hs3 hb2 hB2 hB3; have hn := cellB hb3 0; simp only [cellsS, List.getElem?_toArray, List.getElem?_cons_zero] at hn; have HB3 := Lib.hid hb3; clear hb3)
              | (go_at_call 51; refine (Name_is _ 0 HN.out _).mono ?_; rintro e w4 ⟨rfl, hB4⟩; have HB4 := Lib.hid (below_then HA.out.1 hB4); have HK4 := Lib.hid (below_keeps hB4 HA.out.2.1 HB3.out); have HS4 := Lib.hid (Nat.lt_of_lt_of_le HA.out.2.1 hB4.size); clear hB4; have hn4 := cellB HK4.out 0; simp only [cellsS, List.getElem?_toArray, List.getElem?_cons_zero] at hn4))
            go_quiet (fail)
            go_wp2_with (go_at_call 52; refine (fits_any b x v HV.out _ ?hx ?hs).mono ?_; (case hx => first | exact LotAt.of_block HK4.out | exact (LotAt.of_block HK4.out).drewN _); (case hs => exact HS4.out); rintro e w5 ⟨rfl, hB5⟩)
            go_ret
            exact ⟨check_fits hrest.out (drop_getD HLT.out HX.out) HN.out HV.out HVZ.out (prev_zero HZ.out), below_then HB4.out (below_of_drewN hB5)⟩
        · obtain ⟨j, rfl⟩ : ∃ j, k = j + 1 := ⟨k - 1, by omega⟩
          have e0 : decide (0 < ((j + 1 : Nat) : Int)) = true := decide_eq_true (by omega)
          clear hz
          obtain ⟨y, hy⟩ : ∃ y, y = l0.getD j z57 := ⟨_, rfl⟩
          have HY := Lib.hid hy
          clear hy
          obtain ⟨o, ho⟩ : ∃ o, (Op.bytesLess x.f0.toList y.f0.toList || x.f0.toList == y.f0.toList) = o := ⟨_, rfl⟩
          have HO := Lib.hid ho
          cases o with
          | true =>
            go_wp2_with (first
        | ((with_reducible refine alloc_event rfl 57 rfl (.agg (cellsS z57)) zero57 ?_); intro b hb w2 hb2 hB2 hs2; have HBb := Lib.hid hb; have HS2 := Lib.hid hs2; clear hb hs2)
        | ((with_reducible refine store_row_event rfl 57 _ _ rfl b (cellsS x) ?hx ?hy 57 _ hb2 ?hi ?ho ?h1 ?_); (case hx => (go_simp; done)); (case hy => (unfold cellsS; go_simp; done)); (case hi => exact info57s x); (case ho => exact cellsS_size x); (case h1 => exact cellsS_one x); intro w3 hb3 hB3 hs3; have HS3 := Lib.hid hs3; have HA := Lib.hid (check_at HBb.out HS2.out HB.out hB2 hB3 hb3); clear hs3 hb2 hB2 hB3; have hn := cellB hb3 0; simp only [cellsS, List.getElem?_toArray, List.getElem?_cons_zero] at hn; have HB3 := Lib.hid hb3; clear hb3)
              | (go_at_call 51; refine (Name_is _ 0 HN.out _).mono ?_; rintro e w4 ⟨rfl, hB4⟩; have HB4 := Lib.hid (below_then HA.out.1 hB4); have HK4 := Lib.hid (below_keeps hB4 HA.out.2.1 HB3.out); have HS4 := Lib.hid (Nat.lt_of_lt_of_le HA.out.2.1 hB4.size); clear hB4; have hn4 := cellB HK4.out 0; simp only [cellsS, List.getElem?_toArray, List.getElem?_cons_zero] at hn4; obtain ⟨ad', had', hl4, _⟩ := LotA.of_row HR.out HB4.out j (by have := HLT.out; omega); cases had'; rw [← HY.out] at hl4; have p0 := hl4.c0; clear hl4))
            go_quiet (fail)
            go_wp2
            go_ret
            exact ⟨check_order hrest.out (drop_getD HLT.out HX.out) HN.out (prev_order HY.out HO.out), pw_below_drewN HB4.out _⟩
          | false =>
            have ho' := Bool.or_eq_false_iff.1 ho
            obtain ⟨ho1, ho2⟩ := ho'
            clear ho
            by_cases hvz : v = 0
            · have e2 : (v != 0) = false := bne_eq_false_iff_eq.mpr hvz
              have HVZ := Lib.hid hvz
              clear hvz
              go_wp2_with (first
        | ((with_reducible refine alloc_event rfl 57 rfl (.agg (cellsS z57)) zero57 ?_); intro b hb w2 hb2 hB2 hs2; have HBb := Lib.hid hb; have HS2 := Lib.hid hs2; clear hb hs2)
        | ((with_reducible refine store_row_event rfl 57 _ _ rfl b (cellsS x) ?hx ?hy 57 _ hb2 ?hi ?ho ?h1 ?_); (case hx => (go_simp; done)); (case hy => (unfold cellsS; go_simp; done)); (case hi => exact info57s x); (case ho => exact cellsS_size x); (case h1 => exact cellsS_one x); intro w3 hb3 hB3 hs3; have HS3 := Lib.hid hs3; have HA := Lib.hid (check_at HBb.out HS2.out HB.out hB2 hB3 hb3); clear hs3 hb2 hB2 hB3; have hn := cellB hb3 0; simp only [cellsS, List.getElem?_toArray, List.getElem?_cons_zero] at hn; have HB3 := Lib.hid hb3; clear hb3)
                | (go_at_call 51; refine (Name_is _ 0 HN.out _).mono ?_; rintro e w4 ⟨rfl, hB4⟩; have HB4 := Lib.hid (below_then HA.out.1 hB4); have HK4 := Lib.hid (below_keeps hB4 HA.out.2.1 HB3.out); have HS4 := Lib.hid (Nat.lt_of_lt_of_le HA.out.2.1 hB4.size); clear hB4; have hn4 := cellB HK4.out 0; simp only [cellsS, List.getElem?_toArray, List.getElem?_cons_zero] at hn4; obtain ⟨ad', had', hl4, _⟩ := LotA.of_row HR.out HB4.out j (by have := HLT.out; omega); cases had'; rw [← HY.out] at hl4; have p0 := hl4.c0; clear hl4))
              go_quiet (fail)
              go_wp2_with (go_at_call 52; refine (fits_any b x v HV.out _ ?hx ?hs).mono ?_; (case hx => first | exact LotAt.of_block HK4.out | exact (LotAt.of_block HK4.out).drewN _); (case hs => exact HS4.out); rintro e w5 ⟨rfl, hB5⟩)
              go_roundw
              case rel => exact ⟨j + 1 + 1, HLT.out, by go_num, check_next hrest.out (drop_getD HLT.out HX.out) HN.out (by rw [HV.out]; exact HVZ.out) (prev_order HY.out HO.out) HX.out, below_then HB4.out (below_of_drewN hB5)⟩
              case measure => have := HLT.out; simp [intOf]; omega
            · have e2 : (v != 0) = true := bne_iff_ne.mpr hvz
              have HVZ := Lib.hid hvz
              clear hvz
              go_wp2_with (first
        | ((with_reducible refine alloc_event rfl 57 rfl (.agg (cellsS z57)) zero57 ?_); intro b hb w2 hb2 hB2 hs2; have HBb := Lib.hid hb; have HS2 := Lib.hid hs2; clear hb hs2)
        | ((with_reducible refine store_row_event rfl 57 _ _ rfl b (cellsS x) ?hx ?hy 57 _ hb2 ?hi ?ho ?h1 ?_); (case hx => (go_simp; done)); (case hy => (unfold cellsS; go_simp; done)); (case hi => exact info57s x); (case ho => exact cellsS_size x); (case h1 => exact cellsS_one x); intro w3 hb3 hB3 hs3; have HS3 := Lib.hid hs3; have HA := Lib.hid (check_at HBb.out HS2.out HB.out hB2 hB3 hb3); clear hs3 hb2 hB2 hB3; have hn := cellB hb3 0; simp only [cellsS, List.getElem?_toArray, List.getElem?_cons_zero] at hn; have HB3 := Lib.hid hb3; clear hb3)
                | (go_at_call 51; refine (Name_is _ 0 HN.out _).mono ?_; rintro e w4 ⟨rfl, hB4⟩; have HB4 := Lib.hid (below_then HA.out.1 hB4); have HK4 := Lib.hid (below_keeps hB4 HA.out.2.1 HB3.out); have HS4 := Lib.hid (Nat.lt_of_lt_of_le HA.out.2.1 hB4.size); clear hB4; have hn4 := cellB HK4.out 0; simp only [cellsS, List.getElem?_toArray, List.getElem?_cons_zero] at hn4; obtain ⟨ad', had', hl4, _⟩ := LotA.of_row HR.out HB4.out j (by have := HLT.out; omega); cases had'; rw [← HY.out] at hl4; have p0 := hl4.c0; clear hl4))
              go_quiet (fail)
              go_wp2_with (go_at_call 52; refine (fits_any b x v HV.out _ ?hx ?hs).mono ?_; (case hx => first | exact LotAt.of_block HK4.out | exact (LotAt.of_block HK4.out).drewN _); (case hs => exact HS4.out); rintro e w5 ⟨rfl, hB5⟩)
              go_ret
              exact ⟨check_fits hrest.out (drop_getD HLT.out HX.out) HN.out HV.out HVZ.out (prev_order HY.out HO.out), below_then HB4.out (below_of_drewN hB5)⟩
      · have e1 : (nameErr x.f0 != 0) = true := bne_iff_ne.mpr hne
        have HNE := Lib.hid hne
        clear hne
        go_wp2_with (first
        | ((with_reducible refine alloc_event rfl 57 rfl (.agg (cellsS z57)) zero57 ?_); intro b hb w2 hb2 hB2 hs2; have HBb := Lib.hid hb; have HS2 := Lib.hid hs2; clear hb hs2)
        | ((with_reducible refine store_row_event rfl 57 _ _ rfl b (cellsS x) ?hx ?hy 57 _ hb2 ?hi ?ho ?h1 ?_); (case hx => (go_simp; done)); (case hy => (unfold cellsS; go_simp; done)); (case hi => exact info57s x); (case ho => exact cellsS_size x); (case h1 => exact cellsS_one x); intro w3 hb3 hB3 hs3; have HS3 := Lib.hid hs3; have HA := Lib.hid (check_at HBb.out HS2.out HB.out hB2 hB3 hb3); clear hs3 hb2 hB2 hB3; have hn := cellB hb3 0; simp only [cellsS, List.getElem?_toArray, List.getElem?_cons_zero] at hn; have HB3 := Lib.hid hb3; clear hb3)
        | (go_at_call 51; refine (Name_calls _ _).mono ?_; rintro e w4 ⟨rfl, hB4⟩))
        go_ret
        exact ⟨check_name hrest.out (drop_getD HLT.out HX.out) HNE.out, below_then HA.out.1 hB4⟩
    · have he : k = l0.length := by omega
      have hge : ¬ k < l0.length := hlt
      have HE := Lib.hid he
      clear he
      go_wp2
      go_ret
      refine ⟨?_, HB.out⟩
      have h1 := hrest.out
      rw [HE.out, List.drop_length] at h1
      rw [h1]; unfold checkFrom; rfl
theorem register_Check_any (A0 : Option Addr) (c0 : Nat) (l0 : List (S57)) (w : World) (hr0 : Kd.C k57 w A0 l0.length l0) (hc0 : l0.length ≤ c0) :
    Calls Tryz.prog 18 #[.slice A0 l0.length c0] w fun e w' => e = .returned (.int .i64 (checkS l0)) ∧ Below w.heap.size w w' := by
  unfold checkS
  by_cases h : 256 < l0.length
  · rw [if_pos h]
    have d1 : decide (256 < (l0.length : Int)) = true := decide_eq_true (by omega)
    go_enter Tryz.func18, Tryz.ntmps18
    go_wp2
    go_ret
    exact ⟨rfl, Below.refl _ _⟩
  · rw [if_neg h]; exact Check_few A0 c0 l0 w hr0 hc0 (by omega)
def register_Check.f (l0 : List (S57)) : Option Int := some (checkS l0)
theorem register_Check.calls (A0 : Option Addr) (c0 : Nat) (l0 : List (S57)) (r : Int) (w : World) (hr0 : Kd.C k57 w A0 l0.length l0) (hc0 : l0.length ≤ c0) (h : register_Check.f l0 = some r) :
    Calls Tryz.prog 18 #[.slice A0 l0.length c0] w fun e w' => e = .returned (.int .i64 r) ∧ Below w.heap.size w w' := by
  cases h; exact register_Check_any A0 c0 l0 w hr0 hc0
end Go.Proofs.YtdgipencedlbmaaGreatDoor.Pr
