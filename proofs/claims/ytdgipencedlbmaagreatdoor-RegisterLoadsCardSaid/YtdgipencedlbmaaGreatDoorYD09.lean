/- The reference's changed: what an entry does to a lot. -/
import Derived.Test.YtdgipencedlbmaaGreatDoorYD08
import Derived.Test.YtdgipencedlbmaaGreatDoorYD06
import Derived.RegionTactic
namespace Go.Proofs.YtdgipencedlbmaaGreatDoor.Pr
set_option linter.unusedVariables false
set_option linter.unusedSimpArgs false
open Go.RowKit Go.Proofs.YtdgipencedlbmaaGreatDoorW.PrintWords Go.Proofs.YtdgipencedlbmaaGreatDoorW.PrintLast Go.Proofs.YtdgipencedlbmaaGreatDoorW.PrintMore Go.Proofs.YtdgipencedlbmaaGreatDoor.Hand
theorem zero84 (w : World) : (zeroValue 84).run Tryz.prog w = .ok (.agg (cellsS z57)) w := by kernel_rfl
theorem info84s (x : S57) : (Tryz.prog.info? 84).map (·.size) = some (cellsS x).size := by
  have e : (Tryz.prog.info? 84).map (·.size) = some 7 := by kernel_rfl
  rw [e]; rfl
theorem changed_set {b : Nat} {w W : World} (h : Below w.heap.size w W) (hb : w.heap.size ≤ b) (i : Nat) (v : Value) : Below w.heap.size w (W.setCell ⟨b, i, none⟩ v) := (but_setCell W b i v).below h hb h.size
theorem changed_end {r : Nat} {w W w5 : World} (h5 : But r W w5) (h : Below w.heap.size w W) (hr : w.heap.size ≤ r) : Below w.heap.size w w5 := h5.below h hr h.size
theorem changed_drew {w w' : World} {n : Nat} (h : Below (w.drewN n).heap.size (w.drewN n) w') : Below w.heap.size w w' := ⟨h.os, h.tape, h.output, h.size, h.block⟩
set_option maxHeartbeats 8000000 in
set_option maxRecDepth 100000 in
theorem rchanged_1 (x : S57) (s : ByteArray) (n : Int) (w : World) (hs : SmallLot x) (hn : 0 ≤ n ∧ n ≤ 1048576) :
    Calls Tryz.prog 83 #[.agg (cellsS x), .agg #[.int .i64 1, .string s, .int .i64 n]] w fun e w' => e = .returned (.tuple #[.agg (cellsS (deedS 1 n x).1), .int .i64 (deedS 1 n x).2]) ∧ Below w.heap.size w w' := by
  obtain ⟨hn0, hn1⟩ := hn
  have h2 := hs.s2
  have h3 := hs.s3
  have h4 := hs.s4
  have h5 := hs.s5
  have HS := Lib.hid hs
  clear hs
  obtain ⟨p2, r2⟩ := h2
  obtain ⟨p3, r3⟩ := h3
  obtain ⟨p4, r4⟩ := h4
  obtain ⟨p5, r5⟩ := h5
  have hd : x.f6 ≠ 0 ∨ (x.f6 = 0 ∧ leftS x < n) ∨ (x.f6 = 0 ∧ n ≤ leftS x) := by omega
  have HD := Lib.hid hd
  clear hd
  obtain ⟨u, hu⟩ : ∃ u, deedS 1 n x = u := ⟨_, rfl⟩
  rw [hu]
  have HU := Lib.hid hu
  clear hu
  go_enter Tryz.func83, Tryz.ntmps83
  go_upto_region 1 with (first
    | ((with_reducible refine box_abs rfl 84 _ rfl (cellsS x) ?hx ?_); (case hx => rfl); intro b hb w1 hb1 hB1 hs1; have HX1 := Lib.hid hb1; obtain ⟨c0, c1, c2, c3, c4, c5, c6⟩ := LotAt.of_block hb1; have HZ1 := Lib.hid (show b < w1.heap.size ∧ w.heap.size ≤ b by rw [hs1, hb]; exact ⟨by omega, Nat.le_refl _⟩); have HB1 := Lib.hid hB1; clear hb hb1 hB1 hs1)
    | ((with_reducible refine box_abs rfl 34 _ rfl #[.int .i64 1, .string s, .int .i64 n] ?hx ?_); (case hx => rfl); intro c hc w2 hc2 hB2 hs2; have HX2 := Lib.hid (below_keeps hB2 HZ1.out.1 HX1.out); have HE2 := Lib.hid hc2; obtain ⟨k0, k1, k2⟩ := entry34 hc2; obtain ⟨c0, c1, c2, c3, c4, c5, c6⟩ := LotAt.of_block HX2.out; have HZ2 := Lib.hid (show b < w2.heap.size ∧ c < w2.heap.size by have := HZ1.out.1; rw [hs2]; omega); have HB2 := Lib.hid (below_then HB1.out hB2); clear hc hc2 hB2 hs2)
    | ((with_reducible refine alloc_event rfl 84 rfl (.agg (cellsS z57)) zero84 ?_); intro r hr w3 hr3 hB3 hs3; have HX3 := Lib.hid (below_keeps hB3 HZ2.out.1 HX2.out); have HE3 := Lib.hid (below_keeps hB3 HZ2.out.2 HE2.out); have HR3 := Lib.hid hr3; obtain ⟨k0, k1, k2⟩ := entry34 HE3.out; obtain ⟨c0, c1, c2, c3, c4, c5, c6⟩ := LotAt.of_block HX3.out; have f2 := frozen_of_row w3 b 2 _ 84 HX3.out; have f3 := frozen_of_row w3 b 3 _ 84 HX3.out; have f4 := frozen_of_row w3 b 4 _ 84 HX3.out; have f5 := frozen_of_row w3 b 5 _ 84 HX3.out; have f6 := frozen_of_row w3 b 6 _ 84 HX3.out; have HNE := Lib.hid (show r ≠ b by have := HZ2.out.1; omega); have HRZ := Lib.hid (show w.heap.size ≤ r by have := HB2.out.size; omega); have HB3 := Lib.hid (below_then HB2.out hB3); clear hr hr3 hB3 hs3))
  rcases HD.out with h | h | h
  · have e1 : (x.f6 != 0) = true := bne_iff_ne.mpr h
    have e2 : deedS 1 n x = (x, 14) := by simp [deedS, h]
    have E2 := Lib.hid (HU.out.symm.trans e2)
    clear h e2
    go_wp2_with (first
      | (go_at_call 87; refine (rLeft_calls x _ rfl HS.out _).mono ?_; rintro e w4 ⟨rfl, hB4⟩; have hB4 : Below w3.heap.size w3 w4 := (by first | exact hB4 | exact changed_drew hB4); have HX4 := Lib.hid (below_keeps hB4 (blk_lt HX3.out) HX3.out); have HE4 := Lib.hid (below_keeps hB4 (blk_lt HE3.out) HE3.out); have HR4 := Lib.hid (below_keeps hB4 (blk_lt HR3.out) HR3.out); obtain ⟨k0, k1, k2⟩ := entry34 HE4.out; obtain ⟨c0, c1, c2, c3, c4, c5, c6⟩ := LotAt.of_block HX4.out; have f2 := frozen_of_row w4 b 2 _ 84 HX4.out; have f3 := frozen_of_row w4 b 3 _ 84 HX4.out; have f6 := frozen_of_row w4 b 6 _ 84 HX4.out; have HB4 := Lib.hid (below_then HB3.out hB4); clear hB4)
        | ((with_reducible refine store_row_event rfl 84 _ _ rfl r (cellsS x) ?hx ?hy 84 (cellsS z57) ?hg ?hi ?ho ?h1 ?_); (case hx => (go_simp; done)); (case hy => (unfold cellsS; go_simp; done)); (case hg => first | exact HR3.out | exact HR4.out | exact (heap_setCell_other _ _ _ _ HNE.out).trans HR3.out | exact (heap_setCell_other _ _ _ _ HNE.out).trans HR4.out | exact (heap_setCell_other _ _ _ _ HNE.out).trans ((heap_setCell_other _ _ _ _ HNE.out).trans HR3.out)); (case hi => exact info84s _); (case ho => exact cellsS_size _); (case h1 => exact cellsS_one _); intro w5 hr5 hB5 hs5; have HR5 := Lib.hid hr5; have HB5 := Lib.hid hB5; clear hr5 hB5 hs5))
    all_goals
      have HW := Lib.hid (changed_end HB5.out (by first | exact HB3.out | exact HB4.out | exact pw_below_drewN HB4.out _ | exact pw_below_drewN HB3.out _ | exact changed_set HB3.out HZ1.out.2 _ _ | exact changed_set HB4.out HZ1.out.2 _ _ | exact changed_set (changed_set HB3.out HZ1.out.2 _ _) HZ1.out.2 _ _) HRZ.out)
      refine bodyPost_ret (results_ct rfl _ _ r 84 (cellsS x) (0, 0) _ rfl HR5.out Tryz.underlying84 rfl (info84s _)) rfl ?_
      exact ⟨by rw [E2.out]; rfl, HW.out⟩
  · have e1 : (x.f6 != 0) = false := bne_eq_false_iff_eq.mpr h.1
    have e3 : decide (leftS x < n) = true := decide_eq_true h.2
    have e2 : deedS 1 n x = (x, 16) := by simp [deedS, h.1]; omega
    have E2 := Lib.hid (HU.out.symm.trans e2)
    clear h e2
    go_wp2
    go_region_with (first | (go_at_call 87; refine (rLeft_calls x _ rfl HS.out _).mono ?_; rintro e w4 ⟨rfl, hB4⟩; have hB4 : Below w3.heap.size w3 w4 := (by first | exact hB4 | exact changed_drew hB4); have HX4 := Lib.hid (below_keeps hB4 (blk_lt HX3.out) HX3.out); have HE4 := Lib.hid (below_keeps hB4 (blk_lt HE3.out) HE3.out); have HR4 := Lib.hid (below_keeps hB4 (blk_lt HR3.out) HR3.out); obtain ⟨k0, k1, k2⟩ := entry34 HE4.out; obtain ⟨c0, c1, c2, c3, c4, c5, c6⟩ := LotAt.of_block HX4.out; have f2 := frozen_of_row w4 b 2 _ 84 HX4.out; have f3 := frozen_of_row w4 b 3 _ 84 HX4.out; have f6 := frozen_of_row w4 b 6 _ 84 HX4.out; have HB4 := Lib.hid (below_then HB3.out hB4); clear hB4))
    all_goals
      go_wp2_with (first | ((with_reducible refine store_row_event rfl 84 _ _ rfl r (cellsS x) ?hx ?hy 84 (cellsS z57) ?hg ?hi ?ho ?h1 ?_); (case hx => (go_simp; done)); (case hy => (unfold cellsS; go_simp; done)); (case hg => first | exact HR3.out | exact HR4.out | exact (heap_setCell_other _ _ _ _ HNE.out).trans HR3.out | exact (heap_setCell_other _ _ _ _ HNE.out).trans HR4.out | exact (heap_setCell_other _ _ _ _ HNE.out).trans ((heap_setCell_other _ _ _ _ HNE.out).trans HR3.out)); (case hi => exact info84s _); (case ho => exact cellsS_size _); (case h1 => exact cellsS_one _); intro w5 hr5 hB5 hs5; have HR5 := Lib.hid hr5; have HB5 := Lib.hid hB5; clear hr5 hB5 hs5))
    all_goals
      have HW := Lib.hid (changed_end HB5.out (by first | exact HB3.out | exact HB4.out | exact pw_below_drewN HB4.out _ | exact pw_below_drewN HB3.out _ | exact changed_set HB3.out HZ1.out.2 _ _ | exact changed_set HB4.out HZ1.out.2 _ _ | exact changed_set (changed_set HB3.out HZ1.out.2 _ _) HZ1.out.2 _ _) HRZ.out)
      refine bodyPost_ret (results_ct rfl _ _ r 84 (cellsS x) (0, 0) _ rfl HR5.out Tryz.underlying84 rfl (info84s _)) rfl ?_
      exact ⟨by rw [E2.out]; rfl, HW.out⟩
  · have e1 : (x.f6 != 0) = false := bne_eq_false_iff_eq.mpr h.1
    have e3 : decide (leftS x < n) = false := decide_eq_false (by omega)
    have e2 : deedS 1 n x = ({ x with f2 := x.f2 + n }, 0) := by simp [deedS, h.1]; omega
    have E2 := Lib.hid (HU.out.symm.trans e2)
    clear h e2
    go_wp2
    go_region_with (first | (go_at_call 87; refine (rLeft_calls x _ rfl HS.out _).mono ?_; rintro e w4 ⟨rfl, hB4⟩; have hB4 : Below w3.heap.size w3 w4 := (by first | exact hB4 | exact changed_drew hB4); have HX4 := Lib.hid (below_keeps hB4 (blk_lt HX3.out) HX3.out); have HE4 := Lib.hid (below_keeps hB4 (blk_lt HE3.out) HE3.out); have HR4 := Lib.hid (below_keeps hB4 (blk_lt HR3.out) HR3.out); obtain ⟨k0, k1, k2⟩ := entry34 HE4.out; obtain ⟨c0, c1, c2, c3, c4, c5, c6⟩ := LotAt.of_block HX4.out; have f2 := frozen_of_row w4 b 2 _ 84 HX4.out; have f3 := frozen_of_row w4 b 3 _ 84 HX4.out; have f6 := frozen_of_row w4 b 6 _ 84 HX4.out; have HB4 := Lib.hid (below_then HB3.out hB4); clear hB4))
    all_goals
      go_wp2_with (first | ((with_reducible refine store_row_event rfl 84 _ _ rfl r (cellsS ({ x with f2 := x.f2 + n } : S57)) ?hx ?hy 84 (cellsS z57) ?hg ?hi ?ho ?h1 ?_); (case hx => (go_simp; done)); (case hy => (unfold cellsS; go_simp; done)); (case hg => first | exact HR3.out | exact HR4.out | exact (heap_setCell_other _ _ _ _ HNE.out).trans HR3.out | exact (heap_setCell_other _ _ _ _ HNE.out).trans HR4.out | exact (heap_setCell_other _ _ _ _ HNE.out).trans ((heap_setCell_other _ _ _ _ HNE.out).trans HR3.out)); (case hi => exact info84s _); (case ho => exact cellsS_size _); (case h1 => exact cellsS_one _); intro w5 hr5 hB5 hs5; have HR5 := Lib.hid hr5; have HB5 := Lib.hid hB5; clear hr5 hB5 hs5))
    all_goals
      have HW := Lib.hid (changed_end HB5.out (by first | exact HB3.out | exact HB4.out | exact pw_below_drewN HB4.out _ | exact pw_below_drewN HB3.out _ | exact changed_set HB3.out HZ1.out.2 _ _ | exact changed_set HB4.out HZ1.out.2 _ _ | exact changed_set (changed_set HB3.out HZ1.out.2 _ _) HZ1.out.2 _ _) HRZ.out)
      refine bodyPost_ret (results_ct rfl _ _ r 84 (cellsS ({ x with f2 := x.f2 + n } : S57)) (0, 0) _ rfl HR5.out Tryz.underlying84 rfl (info84s _)) rfl ?_
      exact ⟨by rw [E2.out]; rfl, HW.out⟩
set_option maxHeartbeats 8000000 in
set_option maxRecDepth 100000 in
theorem rchanged_2 (x : S57) (s : ByteArray) (n : Int) (w : World) (hs : SmallLot x) (hn : 0 ≤ n ∧ n ≤ 1048576) :
    Calls Tryz.prog 83 #[.agg (cellsS x), .agg #[.int .i64 2, .string s, .int .i64 n]] w fun e w' => e = .returned (.tuple #[.agg (cellsS (deedS 2 n x).1), .int .i64 (deedS 2 n x).2]) ∧ Below w.heap.size w w' := by
  obtain ⟨hn0, hn1⟩ := hn
  have h2 := hs.s2
  have h3 := hs.s3
  have h4 := hs.s4
  have h5 := hs.s5
  have HS := Lib.hid hs
  clear hs
  obtain ⟨p2, r2⟩ := h2
  obtain ⟨p3, r3⟩ := h3
  obtain ⟨p4, r4⟩ := h4
  obtain ⟨p5, r5⟩ := h5
  have hd : x.f6 ≠ 0 ∨ (x.f6 = 0 ∧ leftS x < n) ∨ (x.f6 = 0 ∧ n ≤ leftS x) := by omega
  have HD := Lib.hid hd
  clear hd
  obtain ⟨u, hu⟩ : ∃ u, deedS 2 n x = u := ⟨_, rfl⟩
  rw [hu]
  have HU := Lib.hid hu
  clear hu
  go_enter Tryz.func83, Tryz.ntmps83
  go_upto_region 1 with (first
    | ((with_reducible refine box_abs rfl 84 _ rfl (cellsS x) ?hx ?_); (case hx => rfl); intro b hb w1 hb1 hB1 hs1; have HX1 := Lib.hid hb1; obtain ⟨c0, c1, c2, c3, c4, c5, c6⟩ := LotAt.of_block hb1; have HZ1 := Lib.hid (show b < w1.heap.size ∧ w.heap.size ≤ b by rw [hs1, hb]; exact ⟨by omega, Nat.le_refl _⟩); have HB1 := Lib.hid hB1; clear hb hb1 hB1 hs1)
    | ((with_reducible refine box_abs rfl 34 _ rfl #[.int .i64 2, .string s, .int .i64 n] ?hx ?_); (case hx => rfl); intro c hc w2 hc2 hB2 hs2; have HX2 := Lib.hid (below_keeps hB2 HZ1.out.1 HX1.out); have HE2 := Lib.hid hc2; obtain ⟨k0, k1, k2⟩ := entry34 hc2; obtain ⟨c0, c1, c2, c3, c4, c5, c6⟩ := LotAt.of_block HX2.out; have HZ2 := Lib.hid (show b < w2.heap.size ∧ c < w2.heap.size by have := HZ1.out.1; rw [hs2]; omega); have HB2 := Lib.hid (below_then HB1.out hB2); clear hc hc2 hB2 hs2)
    | ((with_reducible refine alloc_event rfl 84 rfl (.agg (cellsS z57)) zero84 ?_); intro r hr w3 hr3 hB3 hs3; have HX3 := Lib.hid (below_keeps hB3 HZ2.out.1 HX2.out); have HE3 := Lib.hid (below_keeps hB3 HZ2.out.2 HE2.out); have HR3 := Lib.hid hr3; obtain ⟨k0, k1, k2⟩ := entry34 HE3.out; obtain ⟨c0, c1, c2, c3, c4, c5, c6⟩ := LotAt.of_block HX3.out; have f2 := frozen_of_row w3 b 2 _ 84 HX3.out; have f3 := frozen_of_row w3 b 3 _ 84 HX3.out; have f4 := frozen_of_row w3 b 4 _ 84 HX3.out; have f5 := frozen_of_row w3 b 5 _ 84 HX3.out; have f6 := frozen_of_row w3 b 6 _ 84 HX3.out; have HNE := Lib.hid (show r ≠ b by have := HZ2.out.1; omega); have HRZ := Lib.hid (show w.heap.size ≤ r by have := HB2.out.size; omega); have HB3 := Lib.hid (below_then HB2.out hB3); clear hr hr3 hB3 hs3))
  rcases HD.out with h | h | h
  · have e1 : (x.f6 != 0) = true := bne_iff_ne.mpr h
    have e2 : deedS 2 n x = (x, 14) := by simp [deedS, h]
    have E2 := Lib.hid (HU.out.symm.trans e2)
    clear h e2
    go_wp2_with (first
      | (go_at_call 87; refine (rLeft_calls x _ rfl HS.out _).mono ?_; rintro e w4 ⟨rfl, hB4⟩; have hB4 : Below w3.heap.size w3 w4 := (by first | exact hB4 | exact changed_drew hB4); have HX4 := Lib.hid (below_keeps hB4 (blk_lt HX3.out) HX3.out); have HE4 := Lib.hid (below_keeps hB4 (blk_lt HE3.out) HE3.out); have HR4 := Lib.hid (below_keeps hB4 (blk_lt HR3.out) HR3.out); obtain ⟨k0, k1, k2⟩ := entry34 HE4.out; obtain ⟨c0, c1, c2, c3, c4, c5, c6⟩ := LotAt.of_block HX4.out; have f2 := frozen_of_row w4 b 2 _ 84 HX4.out; have f3 := frozen_of_row w4 b 3 _ 84 HX4.out; have f6 := frozen_of_row w4 b 6 _ 84 HX4.out; have HB4 := Lib.hid (below_then HB3.out hB4); clear hB4)
        | ((with_reducible refine store_row_event rfl 84 _ _ rfl r (cellsS x) ?hx ?hy 84 (cellsS z57) ?hg ?hi ?ho ?h1 ?_); (case hx => (go_simp; done)); (case hy => (unfold cellsS; go_simp; done)); (case hg => first | exact HR3.out | exact HR4.out | exact (heap_setCell_other _ _ _ _ HNE.out).trans HR3.out | exact (heap_setCell_other _ _ _ _ HNE.out).trans HR4.out | exact (heap_setCell_other _ _ _ _ HNE.out).trans ((heap_setCell_other _ _ _ _ HNE.out).trans HR3.out)); (case hi => exact info84s _); (case ho => exact cellsS_size _); (case h1 => exact cellsS_one _); intro w5 hr5 hB5 hs5; have HR5 := Lib.hid hr5; have HB5 := Lib.hid hB5; clear hr5 hB5 hs5))
    all_goals
      have HW := Lib.hid (changed_end HB5.out (by first | exact HB3.out | exact HB4.out | exact pw_below_drewN HB4.out _ | exact pw_below_drewN HB3.out _ | exact changed_set HB3.out HZ1.out.2 _ _ | exact changed_set HB4.out HZ1.out.2 _ _ | exact changed_set (changed_set HB3.out HZ1.out.2 _ _) HZ1.out.2 _ _) HRZ.out)
      refine bodyPost_ret (results_ct rfl _ _ r 84 (cellsS x) (0, 0) _ rfl HR5.out Tryz.underlying84 rfl (info84s _)) rfl ?_
      exact ⟨by rw [E2.out]; rfl, HW.out⟩
  · have e1 : (x.f6 != 0) = false := bne_eq_false_iff_eq.mpr h.1
    have e3 : decide (leftS x < n) = true := decide_eq_true h.2
    have e2 : deedS 2 n x = (x, 16) := by simp [deedS, h.1]; omega
    have E2 := Lib.hid (HU.out.symm.trans e2)
    clear h e2
    go_wp2
    go_region_with (first | (go_at_call 87; refine (rLeft_calls x _ rfl HS.out _).mono ?_; rintro e w4 ⟨rfl, hB4⟩; have hB4 : Below w3.heap.size w3 w4 := (by first | exact hB4 | exact changed_drew hB4); have HX4 := Lib.hid (below_keeps hB4 (blk_lt HX3.out) HX3.out); have HE4 := Lib.hid (below_keeps hB4 (blk_lt HE3.out) HE3.out); have HR4 := Lib.hid (below_keeps hB4 (blk_lt HR3.out) HR3.out); obtain ⟨k0, k1, k2⟩ := entry34 HE4.out; obtain ⟨c0, c1, c2, c3, c4, c5, c6⟩ := LotAt.of_block HX4.out; have f2 := frozen_of_row w4 b 2 _ 84 HX4.out; have f3 := frozen_of_row w4 b 3 _ 84 HX4.out; have f6 := frozen_of_row w4 b 6 _ 84 HX4.out; have HB4 := Lib.hid (below_then HB3.out hB4); clear hB4))
    all_goals
      go_wp2_with (first | ((with_reducible refine store_row_event rfl 84 _ _ rfl r (cellsS x) ?hx ?hy 84 (cellsS z57) ?hg ?hi ?ho ?h1 ?_); (case hx => (go_simp; done)); (case hy => (unfold cellsS; go_simp; done)); (case hg => first | exact HR3.out | exact HR4.out | exact (heap_setCell_other _ _ _ _ HNE.out).trans HR3.out | exact (heap_setCell_other _ _ _ _ HNE.out).trans HR4.out | exact (heap_setCell_other _ _ _ _ HNE.out).trans ((heap_setCell_other _ _ _ _ HNE.out).trans HR3.out)); (case hi => exact info84s _); (case ho => exact cellsS_size _); (case h1 => exact cellsS_one _); intro w5 hr5 hB5 hs5; have HR5 := Lib.hid hr5; have HB5 := Lib.hid hB5; clear hr5 hB5 hs5))
    all_goals
      have HW := Lib.hid (changed_end HB5.out (by first | exact HB3.out | exact HB4.out | exact pw_below_drewN HB4.out _ | exact pw_below_drewN HB3.out _ | exact changed_set HB3.out HZ1.out.2 _ _ | exact changed_set HB4.out HZ1.out.2 _ _ | exact changed_set (changed_set HB3.out HZ1.out.2 _ _) HZ1.out.2 _ _) HRZ.out)
      refine bodyPost_ret (results_ct rfl _ _ r 84 (cellsS x) (0, 0) _ rfl HR5.out Tryz.underlying84 rfl (info84s _)) rfl ?_
      exact ⟨by rw [E2.out]; rfl, HW.out⟩
  · have e1 : (x.f6 != 0) = false := bne_eq_false_iff_eq.mpr h.1
    have e3 : decide (leftS x < n) = false := decide_eq_false (by omega)
    have e2 : deedS 2 n x = ({ x with f3 := x.f3 + n }, 0) := by simp [deedS, h.1]; omega
    have E2 := Lib.hid (HU.out.symm.trans e2)
    clear h e2
    go_wp2
    go_region_with (first | (go_at_call 87; refine (rLeft_calls x _ rfl HS.out _).mono ?_; rintro e w4 ⟨rfl, hB4⟩; have hB4 : Below w3.heap.size w3 w4 := (by first | exact hB4 | exact changed_drew hB4); have HX4 := Lib.hid (below_keeps hB4 (blk_lt HX3.out) HX3.out); have HE4 := Lib.hid (below_keeps hB4 (blk_lt HE3.out) HE3.out); have HR4 := Lib.hid (below_keeps hB4 (blk_lt HR3.out) HR3.out); obtain ⟨k0, k1, k2⟩ := entry34 HE4.out; obtain ⟨c0, c1, c2, c3, c4, c5, c6⟩ := LotAt.of_block HX4.out; have f2 := frozen_of_row w4 b 2 _ 84 HX4.out; have f3 := frozen_of_row w4 b 3 _ 84 HX4.out; have f6 := frozen_of_row w4 b 6 _ 84 HX4.out; have HB4 := Lib.hid (below_then HB3.out hB4); clear hB4))
    all_goals
      go_wp2_with (first | ((with_reducible refine store_row_event rfl 84 _ _ rfl r (cellsS ({ x with f3 := x.f3 + n } : S57)) ?hx ?hy 84 (cellsS z57) ?hg ?hi ?ho ?h1 ?_); (case hx => (go_simp; done)); (case hy => (unfold cellsS; go_simp; done)); (case hg => first | exact HR3.out | exact HR4.out | exact (heap_setCell_other _ _ _ _ HNE.out).trans HR3.out | exact (heap_setCell_other _ _ _ _ HNE.out).trans HR4.out | exact (heap_setCell_other _ _ _ _ HNE.out).trans ((heap_setCell_other _ _ _ _ HNE.out).trans HR3.out)); (case hi => exact info84s _); (case ho => exact cellsS_size _); (case h1 => exact cellsS_one _); intro w5 hr5 hB5 hs5; have HR5 := Lib.hid hr5; have HB5 := Lib.hid hB5; clear hr5 hB5 hs5))
    all_goals
      have HW := Lib.hid (changed_end HB5.out (by first | exact HB3.out | exact HB4.out | exact pw_below_drewN HB4.out _ | exact pw_below_drewN HB3.out _ | exact changed_set HB3.out HZ1.out.2 _ _ | exact changed_set HB4.out HZ1.out.2 _ _ | exact changed_set (changed_set HB3.out HZ1.out.2 _ _) HZ1.out.2 _ _) HRZ.out)
      refine bodyPost_ret (results_ct rfl _ _ r 84 (cellsS ({ x with f3 := x.f3 + n } : S57)) (0, 0) _ rfl HR5.out Tryz.underlying84 rfl (info84s _)) rfl ?_
      exact ⟨by rw [E2.out]; rfl, HW.out⟩
set_option maxHeartbeats 8000000 in
set_option maxRecDepth 100000 in
theorem rchanged_3 (x : S57) (s : ByteArray) (n : Int) (w : World) (hs : SmallLot x) (hn : 0 ≤ n ∧ n ≤ 1048576) :
    Calls Tryz.prog 83 #[.agg (cellsS x), .agg #[.int .i64 3, .string s, .int .i64 n]] w fun e w' => e = .returned (.tuple #[.agg (cellsS (deedS 3 n x).1), .int .i64 (deedS 3 n x).2]) ∧ Below w.heap.size w w' := by
  obtain ⟨hn0, hn1⟩ := hn
  have h2 := hs.s2
  have h3 := hs.s3
  have h4 := hs.s4
  have h5 := hs.s5
  have HS := Lib.hid hs
  clear hs
  obtain ⟨p2, r2⟩ := h2
  obtain ⟨p3, r3⟩ := h3
  obtain ⟨p4, r4⟩ := h4
  obtain ⟨p5, r5⟩ := h5
  have hd : x.f6 = 2 ∨ (x.f6 ≠ 2 ∧ x.f3 < n) ∨ (x.f6 ≠ 2 ∧ n ≤ x.f3) := by omega
  have HD := Lib.hid hd
  clear hd
  obtain ⟨u, hu⟩ : ∃ u, deedS 3 n x = u := ⟨_, rfl⟩
  rw [hu]
  have HU := Lib.hid hu
  clear hu
  go_enter Tryz.func83, Tryz.ntmps83
  go_upto_region 1 with (first
    | ((with_reducible refine box_abs rfl 84 _ rfl (cellsS x) ?hx ?_); (case hx => rfl); intro b hb w1 hb1 hB1 hs1; have HX1 := Lib.hid hb1; obtain ⟨c0, c1, c2, c3, c4, c5, c6⟩ := LotAt.of_block hb1; have HZ1 := Lib.hid (show b < w1.heap.size ∧ w.heap.size ≤ b by rw [hs1, hb]; exact ⟨by omega, Nat.le_refl _⟩); have HB1 := Lib.hid hB1; clear hb hb1 hB1 hs1)
    | ((with_reducible refine box_abs rfl 34 _ rfl #[.int .i64 3, .string s, .int .i64 n] ?hx ?_); (case hx => rfl); intro c hc w2 hc2 hB2 hs2; have HX2 := Lib.hid (below_keeps hB2 HZ1.out.1 HX1.out); have HE2 := Lib.hid hc2; obtain ⟨k0, k1, k2⟩ := entry34 hc2; obtain ⟨c0, c1, c2, c3, c4, c5, c6⟩ := LotAt.of_block HX2.out; have HZ2 := Lib.hid (show b < w2.heap.size ∧ c < w2.heap.size by have := HZ1.out.1; rw [hs2]; omega); have HB2 := Lib.hid (below_then HB1.out hB2); clear hc hc2 hB2 hs2)
    | ((with_reducible refine alloc_event rfl 84 rfl (.agg (cellsS z57)) zero84 ?_); intro r hr w3 hr3 hB3 hs3; have HX3 := Lib.hid (below_keeps hB3 HZ2.out.1 HX2.out); have HE3 := Lib.hid (below_keeps hB3 HZ2.out.2 HE2.out); have HR3 := Lib.hid hr3; obtain ⟨k0, k1, k2⟩ := entry34 HE3.out; obtain ⟨c0, c1, c2, c3, c4, c5, c6⟩ := LotAt.of_block HX3.out; have f2 := frozen_of_row w3 b 2 _ 84 HX3.out; have f3 := frozen_of_row w3 b 3 _ 84 HX3.out; have f4 := frozen_of_row w3 b 4 _ 84 HX3.out; have f5 := frozen_of_row w3 b 5 _ 84 HX3.out; have f6 := frozen_of_row w3 b 6 _ 84 HX3.out; have HNE := Lib.hid (show r ≠ b by have := HZ2.out.1; omega); have HRZ := Lib.hid (show w.heap.size ≤ r by have := HB2.out.size; omega); have HB3 := Lib.hid (below_then HB2.out hB3); clear hr hr3 hB3 hs3))
  rcases HD.out with h | h | h
  · have e1 : (x.f6 == 2) = true := beq_iff_eq.mpr h
    have e2 : deedS 3 n x = (x, 14) := by simp [deedS, h]
    have E2 := Lib.hid (HU.out.symm.trans e2)
    clear h e2
    go_wp2_with (first
      | (go_at_call 87; refine (rLeft_calls x _ rfl HS.out _).mono ?_; rintro e w4 ⟨rfl, hB4⟩; have hB4 : Below w3.heap.size w3 w4 := (by first | exact hB4 | exact changed_drew hB4); have HX4 := Lib.hid (below_keeps hB4 (blk_lt HX3.out) HX3.out); have HE4 := Lib.hid (below_keeps hB4 (blk_lt HE3.out) HE3.out); have HR4 := Lib.hid (below_keeps hB4 (blk_lt HR3.out) HR3.out); obtain ⟨k0, k1, k2⟩ := entry34 HE4.out; obtain ⟨c0, c1, c2, c3, c4, c5, c6⟩ := LotAt.of_block HX4.out; have f2 := frozen_of_row w4 b 2 _ 84 HX4.out; have f3 := frozen_of_row w4 b 3 _ 84 HX4.out; have f6 := frozen_of_row w4 b 6 _ 84 HX4.out; have HB4 := Lib.hid (below_then HB3.out hB4); clear hB4)
        | ((with_reducible refine store_row_event rfl 84 _ _ rfl r (cellsS x) ?hx ?hy 84 (cellsS z57) ?hg ?hi ?ho ?h1 ?_); (case hx => (go_simp; done)); (case hy => (unfold cellsS; go_simp; done)); (case hg => first | exact HR3.out | exact HR4.out | exact (heap_setCell_other _ _ _ _ HNE.out).trans HR3.out | exact (heap_setCell_other _ _ _ _ HNE.out).trans HR4.out | exact (heap_setCell_other _ _ _ _ HNE.out).trans ((heap_setCell_other _ _ _ _ HNE.out).trans HR3.out)); (case hi => exact info84s _); (case ho => exact cellsS_size _); (case h1 => exact cellsS_one _); intro w5 hr5 hB5 hs5; have HR5 := Lib.hid hr5; have HB5 := Lib.hid hB5; clear hr5 hB5 hs5))
    all_goals
      have HW := Lib.hid (changed_end HB5.out (by first | exact HB3.out | exact HB4.out | exact pw_below_drewN HB4.out _ | exact pw_below_drewN HB3.out _ | exact changed_set HB3.out HZ1.out.2 _ _ | exact changed_set HB4.out HZ1.out.2 _ _ | exact changed_set (changed_set HB3.out HZ1.out.2 _ _) HZ1.out.2 _ _) HRZ.out)
      refine bodyPost_ret (results_ct rfl _ _ r 84 (cellsS x) (0, 0) _ rfl HR5.out Tryz.underlying84 rfl (info84s _)) rfl ?_
      exact ⟨by rw [E2.out]; rfl, HW.out⟩
  · have e1 : (x.f6 == 2) = false := beq_eq_false_iff_ne.mpr h.1
    have e3 : decide (x.f3 < n) = true := decide_eq_true h.2
    have e2 : deedS 3 n x = (x, 16) := by simp [deedS, h.1]; omega
    have E2 := Lib.hid (HU.out.symm.trans e2)
    clear h e2
    go_wp2_with (first
      | (go_at_call 87; refine (rLeft_calls x _ rfl HS.out _).mono ?_; rintro e w4 ⟨rfl, hB4⟩; have hB4 : Below w3.heap.size w3 w4 := (by first | exact hB4 | exact changed_drew hB4); have HX4 := Lib.hid (below_keeps hB4 (blk_lt HX3.out) HX3.out); have HE4 := Lib.hid (below_keeps hB4 (blk_lt HE3.out) HE3.out); have HR4 := Lib.hid (below_keeps hB4 (blk_lt HR3.out) HR3.out); obtain ⟨k0, k1, k2⟩ := entry34 HE4.out; obtain ⟨c0, c1, c2, c3, c4, c5, c6⟩ := LotAt.of_block HX4.out; have f2 := frozen_of_row w4 b 2 _ 84 HX4.out; have f3 := frozen_of_row w4 b 3 _ 84 HX4.out; have f6 := frozen_of_row w4 b 6 _ 84 HX4.out; have HB4 := Lib.hid (below_then HB3.out hB4); clear hB4)
        | ((with_reducible refine store_row_event rfl 84 _ _ rfl r (cellsS x) ?hx ?hy 84 (cellsS z57) ?hg ?hi ?ho ?h1 ?_); (case hx => (go_simp; done)); (case hy => (unfold cellsS; go_simp; done)); (case hg => first | exact HR3.out | exact HR4.out | exact (heap_setCell_other _ _ _ _ HNE.out).trans HR3.out | exact (heap_setCell_other _ _ _ _ HNE.out).trans HR4.out | exact (heap_setCell_other _ _ _ _ HNE.out).trans ((heap_setCell_other _ _ _ _ HNE.out).trans HR3.out)); (case hi => exact info84s _); (case ho => exact cellsS_size _); (case h1 => exact cellsS_one _); intro w5 hr5 hB5 hs5; have HR5 := Lib.hid hr5; have HB5 := Lib.hid hB5; clear hr5 hB5 hs5))
    all_goals
      have HW := Lib.hid (changed_end HB5.out (by first | exact HB3.out | exact HB4.out | exact pw_below_drewN HB4.out _ | exact pw_below_drewN HB3.out _ | exact changed_set HB3.out HZ1.out.2 _ _ | exact changed_set HB4.out HZ1.out.2 _ _ | exact changed_set (changed_set HB3.out HZ1.out.2 _ _) HZ1.out.2 _ _) HRZ.out)
      refine bodyPost_ret (results_ct rfl _ _ r 84 (cellsS x) (0, 0) _ rfl HR5.out Tryz.underlying84 rfl (info84s _)) rfl ?_
      exact ⟨by rw [E2.out]; rfl, HW.out⟩
  · have e1 : (x.f6 == 2) = false := beq_eq_false_iff_ne.mpr h.1
    have e3 : decide (x.f3 < n) = false := decide_eq_false (by omega)
    have e2 : deedS 3 n x = ({ x with f3 := x.f3 - n, f4 := x.f4 + n }, 0) := by simp [deedS, h.1]; omega
    have E2 := Lib.hid (HU.out.symm.trans e2)
    clear h e2
    go_wp2_with (first
      | (go_at_call 87; refine (rLeft_calls x _ rfl HS.out _).mono ?_; rintro e w4 ⟨rfl, hB4⟩; have hB4 : Below w3.heap.size w3 w4 := (by first | exact hB4 | exact changed_drew hB4); have HX4 := Lib.hid (below_keeps hB4 (blk_lt HX3.out) HX3.out); have HE4 := Lib.hid (below_keeps hB4 (blk_lt HE3.out) HE3.out); have HR4 := Lib.hid (below_keeps hB4 (blk_lt HR3.out) HR3.out); obtain ⟨k0, k1, k2⟩ := entry34 HE4.out; obtain ⟨c0, c1, c2, c3, c4, c5, c6⟩ := LotAt.of_block HX4.out; have f2 := frozen_of_row w4 b 2 _ 84 HX4.out; have f3 := frozen_of_row w4 b 3 _ 84 HX4.out; have f6 := frozen_of_row w4 b 6 _ 84 HX4.out; have HB4 := Lib.hid (below_then HB3.out hB4); clear hB4)
        | ((with_reducible refine store_row_event rfl 84 _ _ rfl r (cellsS ({ x with f3 := x.f3 - n, f4 := x.f4 + n } : S57)) ?hx ?hy 84 (cellsS z57) ?hg ?hi ?ho ?h1 ?_); (case hx => (go_simp; done)); (case hy => (unfold cellsS; go_simp; done)); (case hg => first | exact HR3.out | exact HR4.out | exact (heap_setCell_other _ _ _ _ HNE.out).trans HR3.out | exact (heap_setCell_other _ _ _ _ HNE.out).trans HR4.out | exact (heap_setCell_other _ _ _ _ HNE.out).trans ((heap_setCell_other _ _ _ _ HNE.out).trans HR3.out)); (case hi => exact info84s _); (case ho => exact cellsS_size _); (case h1 => exact cellsS_one _); intro w5 hr5 hB5 hs5; have HR5 := Lib.hid hr5; have HB5 := Lib.hid hB5; clear hr5 hB5 hs5))
    all_goals
      have HW := Lib.hid (changed_end HB5.out (by first | exact HB3.out | exact HB4.out | exact pw_below_drewN HB4.out _ | exact pw_below_drewN HB3.out _ | exact changed_set HB3.out HZ1.out.2 _ _ | exact changed_set HB4.out HZ1.out.2 _ _ | exact changed_set (changed_set HB3.out HZ1.out.2 _ _) HZ1.out.2 _ _) HRZ.out)
      refine bodyPost_ret (results_ct rfl _ _ r 84 (cellsS ({ x with f3 := x.f3 - n, f4 := x.f4 + n } : S57)) (0, 0) _ rfl HR5.out Tryz.underlying84 rfl (info84s _)) rfl ?_
      exact ⟨by rw [E2.out]; rfl, HW.out⟩
set_option maxHeartbeats 8000000 in
set_option maxRecDepth 100000 in
theorem rchanged_4 (x : S57) (s : ByteArray) (n : Int) (w : World) (hs : SmallLot x) (hn : 0 ≤ n ∧ n ≤ 1048576) :
    Calls Tryz.prog 83 #[.agg (cellsS x), .agg #[.int .i64 4, .string s, .int .i64 n]] w fun e w' => e = .returned (.tuple #[.agg (cellsS (deedS 4 n x).1), .int .i64 (deedS 4 n x).2]) ∧ Below w.heap.size w w' := by
  obtain ⟨hn0, hn1⟩ := hn
  have h2 := hs.s2
  have h3 := hs.s3
  have h4 := hs.s4
  have h5 := hs.s5
  have HS := Lib.hid hs
  clear hs
  obtain ⟨p2, r2⟩ := h2
  obtain ⟨p3, r3⟩ := h3
  obtain ⟨p4, r4⟩ := h4
  obtain ⟨p5, r5⟩ := h5
  have hd : x.f6 = 2 ∨ (x.f6 ≠ 2 ∧ x.f3 < n) ∨ (x.f6 ≠ 2 ∧ n ≤ x.f3) := by omega
  have HD := Lib.hid hd
  clear hd
  obtain ⟨u, hu⟩ : ∃ u, deedS 4 n x = u := ⟨_, rfl⟩
  rw [hu]
  have HU := Lib.hid hu
  clear hu
  go_enter Tryz.func83, Tryz.ntmps83
  go_upto_region 1 with (first
    | ((with_reducible refine box_abs rfl 84 _ rfl (cellsS x) ?hx ?_); (case hx => rfl); intro b hb w1 hb1 hB1 hs1; have HX1 := Lib.hid hb1; obtain ⟨c0, c1, c2, c3, c4, c5, c6⟩ := LotAt.of_block hb1; have HZ1 := Lib.hid (show b < w1.heap.size ∧ w.heap.size ≤ b by rw [hs1, hb]; exact ⟨by omega, Nat.le_refl _⟩); have HB1 := Lib.hid hB1; clear hb hb1 hB1 hs1)
    | ((with_reducible refine box_abs rfl 34 _ rfl #[.int .i64 4, .string s, .int .i64 n] ?hx ?_); (case hx => rfl); intro c hc w2 hc2 hB2 hs2; have HX2 := Lib.hid (below_keeps hB2 HZ1.out.1 HX1.out); have HE2 := Lib.hid hc2; obtain ⟨k0, k1, k2⟩ := entry34 hc2; obtain ⟨c0, c1, c2, c3, c4, c5, c6⟩ := LotAt.of_block HX2.out; have HZ2 := Lib.hid (show b < w2.heap.size ∧ c < w2.heap.size by have := HZ1.out.1; rw [hs2]; omega); have HB2 := Lib.hid (below_then HB1.out hB2); clear hc hc2 hB2 hs2)
    | ((with_reducible refine alloc_event rfl 84 rfl (.agg (cellsS z57)) zero84 ?_); intro r hr w3 hr3 hB3 hs3; have HX3 := Lib.hid (below_keeps hB3 HZ2.out.1 HX2.out); have HE3 := Lib.hid (below_keeps hB3 HZ2.out.2 HE2.out); have HR3 := Lib.hid hr3; obtain ⟨k0, k1, k2⟩ := entry34 HE3.out; obtain ⟨c0, c1, c2, c3, c4, c5, c6⟩ := LotAt.of_block HX3.out; have f2 := frozen_of_row w3 b 2 _ 84 HX3.out; have f3 := frozen_of_row w3 b 3 _ 84 HX3.out; have f4 := frozen_of_row w3 b 4 _ 84 HX3.out; have f5 := frozen_of_row w3 b 5 _ 84 HX3.out; have f6 := frozen_of_row w3 b 6 _ 84 HX3.out; have HNE := Lib.hid (show r ≠ b by have := HZ2.out.1; omega); have HRZ := Lib.hid (show w.heap.size ≤ r by have := HB2.out.size; omega); have HB3 := Lib.hid (below_then HB2.out hB3); clear hr hr3 hB3 hs3))
  rcases HD.out with h | h | h
  · have e1 : (x.f6 == 2) = true := beq_iff_eq.mpr h
    have e2 : deedS 4 n x = (x, 14) := by simp [deedS, h]
    have E2 := Lib.hid (HU.out.symm.trans e2)
    clear h e2
    go_wp2_with (first
      | (go_at_call 87; refine (rLeft_calls x _ rfl HS.out _).mono ?_; rintro e w4 ⟨rfl, hB4⟩; have hB4 : Below w3.heap.size w3 w4 := (by first | exact hB4 | exact changed_drew hB4); have HX4 := Lib.hid (below_keeps hB4 (blk_lt HX3.out) HX3.out); have HE4 := Lib.hid (below_keeps hB4 (blk_lt HE3.out) HE3.out); have HR4 := Lib.hid (below_keeps hB4 (blk_lt HR3.out) HR3.out); obtain ⟨k0, k1, k2⟩ := entry34 HE4.out; obtain ⟨c0, c1, c2, c3, c4, c5, c6⟩ := LotAt.of_block HX4.out; have f2 := frozen_of_row w4 b 2 _ 84 HX4.out; have f3 := frozen_of_row w4 b 3 _ 84 HX4.out; have f6 := frozen_of_row w4 b 6 _ 84 HX4.out; have HB4 := Lib.hid (below_then HB3.out hB4); clear hB4)
        | ((with_reducible refine store_row_event rfl 84 _ _ rfl r (cellsS x) ?hx ?hy 84 (cellsS z57) ?hg ?hi ?ho ?h1 ?_); (case hx => (go_simp; done)); (case hy => (unfold cellsS; go_simp; done)); (case hg => first | exact HR3.out | exact HR4.out | exact (heap_setCell_other _ _ _ _ HNE.out).trans HR3.out | exact (heap_setCell_other _ _ _ _ HNE.out).trans HR4.out | exact (heap_setCell_other _ _ _ _ HNE.out).trans ((heap_setCell_other _ _ _ _ HNE.out).trans HR3.out)); (case hi => exact info84s _); (case ho => exact cellsS_size _); (case h1 => exact cellsS_one _); intro w5 hr5 hB5 hs5; have HR5 := Lib.hid hr5; have HB5 := Lib.hid hB5; clear hr5 hB5 hs5))
    all_goals
      have HW := Lib.hid (changed_end HB5.out (by first | exact HB3.out | exact HB4.out | exact pw_below_drewN HB4.out _ | exact pw_below_drewN HB3.out _ | exact changed_set HB3.out HZ1.out.2 _ _ | exact changed_set HB4.out HZ1.out.2 _ _ | exact changed_set (changed_set HB3.out HZ1.out.2 _ _) HZ1.out.2 _ _) HRZ.out)
      refine bodyPost_ret (results_ct rfl _ _ r 84 (cellsS x) (0, 0) _ rfl HR5.out Tryz.underlying84 rfl (info84s _)) rfl ?_
      exact ⟨by rw [E2.out]; rfl, HW.out⟩
  · have e1 : (x.f6 == 2) = false := beq_eq_false_iff_ne.mpr h.1
    have e3 : decide (x.f3 < n) = true := decide_eq_true h.2
    have e2 : deedS 4 n x = (x, 16) := by simp [deedS, h.1]; omega
    have E2 := Lib.hid (HU.out.symm.trans e2)
    clear h e2
    go_wp2_with (first
      | (go_at_call 87; refine (rLeft_calls x _ rfl HS.out _).mono ?_; rintro e w4 ⟨rfl, hB4⟩; have hB4 : Below w3.heap.size w3 w4 := (by first | exact hB4 | exact changed_drew hB4); have HX4 := Lib.hid (below_keeps hB4 (blk_lt HX3.out) HX3.out); have HE4 := Lib.hid (below_keeps hB4 (blk_lt HE3.out) HE3.out); have HR4 := Lib.hid (below_keeps hB4 (blk_lt HR3.out) HR3.out); obtain ⟨k0, k1, k2⟩ := entry34 HE4.out; obtain ⟨c0, c1, c2, c3, c4, c5, c6⟩ := LotAt.of_block HX4.out; have f2 := frozen_of_row w4 b 2 _ 84 HX4.out; have f3 := frozen_of_row w4 b 3 _ 84 HX4.out; have f6 := frozen_of_row w4 b 6 _ 84 HX4.out; have HB4 := Lib.hid (below_then HB3.out hB4); clear hB4)
        | ((with_reducible refine store_row_event rfl 84 _ _ rfl r (cellsS x) ?hx ?hy 84 (cellsS z57) ?hg ?hi ?ho ?h1 ?_); (case hx => (go_simp; done)); (case hy => (unfold cellsS; go_simp; done)); (case hg => first | exact HR3.out | exact HR4.out | exact (heap_setCell_other _ _ _ _ HNE.out).trans HR3.out | exact (heap_setCell_other _ _ _ _ HNE.out).trans HR4.out | exact (heap_setCell_other _ _ _ _ HNE.out).trans ((heap_setCell_other _ _ _ _ HNE.out).trans HR3.out)); (case hi => exact info84s _); (case ho => exact cellsS_size _); (case h1 => exact cellsS_one _); intro w5 hr5 hB5 hs5; have HR5 := Lib.hid hr5; have HB5 := Lib.hid hB5; clear hr5 hB5 hs5))
    all_goals
      have HW := Lib.hid (changed_end HB5.out (by first | exact HB3.out | exact HB4.out | exact pw_below_drewN HB4.out _ | exact pw_below_drewN HB3.out _ | exact changed_set HB3.out HZ1.out.2 _ _ | exact changed_set HB4.out HZ1.out.2 _ _ | exact changed_set (changed_set HB3.out HZ1.out.2 _ _) HZ1.out.2 _ _) HRZ.out)
      refine bodyPost_ret (results_ct rfl _ _ r 84 (cellsS x) (0, 0) _ rfl HR5.out Tryz.underlying84 rfl (info84s _)) rfl ?_
      exact ⟨by rw [E2.out]; rfl, HW.out⟩
  · have e1 : (x.f6 == 2) = false := beq_eq_false_iff_ne.mpr h.1
    have e3 : decide (x.f3 < n) = false := decide_eq_false (by omega)
    have e2 : deedS 4 n x = ({ x with f3 := x.f3 - n, f5 := x.f5 + n }, 0) := by simp [deedS, h.1]; omega
    have E2 := Lib.hid (HU.out.symm.trans e2)
    clear h e2
    go_wp2_with (first
      | (go_at_call 87; refine (rLeft_calls x _ rfl HS.out _).mono ?_; rintro e w4 ⟨rfl, hB4⟩; have hB4 : Below w3.heap.size w3 w4 := (by first | exact hB4 | exact changed_drew hB4); have HX4 := Lib.hid (below_keeps hB4 (blk_lt HX3.out) HX3.out); have HE4 := Lib.hid (below_keeps hB4 (blk_lt HE3.out) HE3.out); have HR4 := Lib.hid (below_keeps hB4 (blk_lt HR3.out) HR3.out); obtain ⟨k0, k1, k2⟩ := entry34 HE4.out; obtain ⟨c0, c1, c2, c3, c4, c5, c6⟩ := LotAt.of_block HX4.out; have f2 := frozen_of_row w4 b 2 _ 84 HX4.out; have f3 := frozen_of_row w4 b 3 _ 84 HX4.out; have f6 := frozen_of_row w4 b 6 _ 84 HX4.out; have HB4 := Lib.hid (below_then HB3.out hB4); clear hB4)
        | ((with_reducible refine store_row_event rfl 84 _ _ rfl r (cellsS ({ x with f3 := x.f3 - n, f5 := x.f5 + n } : S57)) ?hx ?hy 84 (cellsS z57) ?hg ?hi ?ho ?h1 ?_); (case hx => (go_simp; done)); (case hy => (unfold cellsS; go_simp; done)); (case hg => first | exact HR3.out | exact HR4.out | exact (heap_setCell_other _ _ _ _ HNE.out).trans HR3.out | exact (heap_setCell_other _ _ _ _ HNE.out).trans HR4.out | exact (heap_setCell_other _ _ _ _ HNE.out).trans ((heap_setCell_other _ _ _ _ HNE.out).trans HR3.out)); (case hi => exact info84s _); (case ho => exact cellsS_size _); (case h1 => exact cellsS_one _); intro w5 hr5 hB5 hs5; have HR5 := Lib.hid hr5; have HB5 := Lib.hid hB5; clear hr5 hB5 hs5))
    all_goals
      have HW := Lib.hid (changed_end HB5.out (by first | exact HB3.out | exact HB4.out | exact pw_below_drewN HB4.out _ | exact pw_below_drewN HB3.out _ | exact changed_set HB3.out HZ1.out.2 _ _ | exact changed_set HB4.out HZ1.out.2 _ _ | exact changed_set (changed_set HB3.out HZ1.out.2 _ _) HZ1.out.2 _ _) HRZ.out)
      refine bodyPost_ret (results_ct rfl _ _ r 84 (cellsS ({ x with f3 := x.f3 - n, f5 := x.f5 + n } : S57)) (0, 0) _ rfl HR5.out Tryz.underlying84 rfl (info84s _)) rfl ?_
      exact ⟨by rw [E2.out]; rfl, HW.out⟩
set_option maxHeartbeats 8000000 in
set_option maxRecDepth 100000 in
theorem rchanged_5 (x : S57) (s : ByteArray) (n : Int) (w : World) (hs : SmallLot x) (hn : 0 ≤ n ∧ n ≤ 1048576) :
    Calls Tryz.prog 83 #[.agg (cellsS x), .agg #[.int .i64 5, .string s, .int .i64 n]] w fun e w' => e = .returned (.tuple #[.agg (cellsS (deedS 5 n x).1), .int .i64 (deedS 5 n x).2]) ∧ Below w.heap.size w w' := by
  obtain ⟨hn0, hn1⟩ := hn
  have h2 := hs.s2
  have h3 := hs.s3
  have h4 := hs.s4
  have h5 := hs.s5
  have HS := Lib.hid hs
  clear hs
  obtain ⟨p2, r2⟩ := h2
  obtain ⟨p3, r3⟩ := h3
  obtain ⟨p4, r4⟩ := h4
  obtain ⟨p5, r5⟩ := h5
  have hd : x.f6 ≠ 0 ∨ (x.f6 = 0 ∧ 0 < leftS x) ∨ (x.f6 = 0 ∧ leftS x ≤ 0) := by omega
  have HD := Lib.hid hd
  clear hd
  obtain ⟨u, hu⟩ : ∃ u, deedS 5 n x = u := ⟨_, rfl⟩
  rw [hu]
  have HU := Lib.hid hu
  clear hu
  go_enter Tryz.func83, Tryz.ntmps83
  go_upto_region 1 with (first
    | ((with_reducible refine box_abs rfl 84 _ rfl (cellsS x) ?hx ?_); (case hx => rfl); intro b hb w1 hb1 hB1 hs1; have HX1 := Lib.hid hb1; obtain ⟨c0, c1, c2, c3, c4, c5, c6⟩ := LotAt.of_block hb1; have HZ1 := Lib.hid (show b < w1.heap.size ∧ w.heap.size ≤ b by rw [hs1, hb]; exact ⟨by omega, Nat.le_refl _⟩); have HB1 := Lib.hid hB1; clear hb hb1 hB1 hs1)
    | ((with_reducible refine box_abs rfl 34 _ rfl #[.int .i64 5, .string s, .int .i64 n] ?hx ?_); (case hx => rfl); intro c hc w2 hc2 hB2 hs2; have HX2 := Lib.hid (below_keeps hB2 HZ1.out.1 HX1.out); have HE2 := Lib.hid hc2; obtain ⟨k0, k1, k2⟩ := entry34 hc2; obtain ⟨c0, c1, c2, c3, c4, c5, c6⟩ := LotAt.of_block HX2.out; have HZ2 := Lib.hid (show b < w2.heap.size ∧ c < w2.heap.size by have := HZ1.out.1; rw [hs2]; omega); have HB2 := Lib.hid (below_then HB1.out hB2); clear hc hc2 hB2 hs2)
    | ((with_reducible refine alloc_event rfl 84 rfl (.agg (cellsS z57)) zero84 ?_); intro r hr w3 hr3 hB3 hs3; have HX3 := Lib.hid (below_keeps hB3 HZ2.out.1 HX2.out); have HE3 := Lib.hid (below_keeps hB3 HZ2.out.2 HE2.out); have HR3 := Lib.hid hr3; obtain ⟨k0, k1, k2⟩ := entry34 HE3.out; obtain ⟨c0, c1, c2, c3, c4, c5, c6⟩ := LotAt.of_block HX3.out; have f2 := frozen_of_row w3 b 2 _ 84 HX3.out; have f3 := frozen_of_row w3 b 3 _ 84 HX3.out; have f4 := frozen_of_row w3 b 4 _ 84 HX3.out; have f5 := frozen_of_row w3 b 5 _ 84 HX3.out; have f6 := frozen_of_row w3 b 6 _ 84 HX3.out; have HNE := Lib.hid (show r ≠ b by have := HZ2.out.1; omega); have HRZ := Lib.hid (show w.heap.size ≤ r by have := HB2.out.size; omega); have HB3 := Lib.hid (below_then HB2.out hB3); clear hr hr3 hB3 hs3))
  rcases HD.out with h | h | h
  · have e1 : (x.f6 != 0) = true := bne_iff_ne.mpr h
    have e2 : deedS 5 n x = (x, 14) := by simp [deedS, h]
    have E2 := Lib.hid (HU.out.symm.trans e2)
    clear h e2
    go_wp2_with (first
      | (go_at_call 87; refine (rLeft_calls x _ rfl HS.out _).mono ?_; rintro e w4 ⟨rfl, hB4⟩; have hB4 : Below w3.heap.size w3 w4 := (by first | exact hB4 | exact changed_drew hB4); have HX4 := Lib.hid (below_keeps hB4 (blk_lt HX3.out) HX3.out); have HE4 := Lib.hid (below_keeps hB4 (blk_lt HE3.out) HE3.out); have HR4 := Lib.hid (below_keeps hB4 (blk_lt HR3.out) HR3.out); obtain ⟨k0, k1, k2⟩ := entry34 HE4.out; obtain ⟨c0, c1, c2, c3, c4, c5, c6⟩ := LotAt.of_block HX4.out; have f2 := frozen_of_row w4 b 2 _ 84 HX4.out; have f3 := frozen_of_row w4 b 3 _ 84 HX4.out; have f6 := frozen_of_row w4 b 6 _ 84 HX4.out; have HB4 := Lib.hid (below_then HB3.out hB4); clear hB4)
        | ((with_reducible refine store_row_event rfl 84 _ _ rfl r (cellsS x) ?hx ?hy 84 (cellsS z57) ?hg ?hi ?ho ?h1 ?_); (case hx => (go_simp; done)); (case hy => (unfold cellsS; go_simp; done)); (case hg => first | exact HR3.out | exact HR4.out | exact (heap_setCell_other _ _ _ _ HNE.out).trans HR3.out | exact (heap_setCell_other _ _ _ _ HNE.out).trans HR4.out | exact (heap_setCell_other _ _ _ _ HNE.out).trans ((heap_setCell_other _ _ _ _ HNE.out).trans HR3.out)); (case hi => exact info84s _); (case ho => exact cellsS_size _); (case h1 => exact cellsS_one _); intro w5 hr5 hB5 hs5; have HR5 := Lib.hid hr5; have HB5 := Lib.hid hB5; clear hr5 hB5 hs5))
    all_goals
      have HW := Lib.hid (changed_end HB5.out (by first | exact HB3.out | exact HB4.out | exact pw_below_drewN HB4.out _ | exact pw_below_drewN HB3.out _ | exact changed_set HB3.out HZ1.out.2 _ _ | exact changed_set HB4.out HZ1.out.2 _ _ | exact changed_set (changed_set HB3.out HZ1.out.2 _ _) HZ1.out.2 _ _) HRZ.out)
      refine bodyPost_ret (results_ct rfl _ _ r 84 (cellsS x) (0, 0) _ rfl HR5.out Tryz.underlying84 rfl (info84s _)) rfl ?_
      exact ⟨by rw [E2.out]; rfl, HW.out⟩
  · have e1 : (x.f6 != 0) = false := bne_eq_false_iff_eq.mpr h.1
    have e3 : decide (0 < leftS x) = true := decide_eq_true h.2
    have e2 : deedS 5 n x = (x, 16) := by simp [deedS, h.1]; omega
    have E2 := Lib.hid (HU.out.symm.trans e2)
    clear h e2
    go_wp2_with (first
      | (go_at_call 87; refine (rLeft_calls x _ rfl HS.out _).mono ?_; rintro e w4 ⟨rfl, hB4⟩; have hB4 : Below w3.heap.size w3 w4 := (by first | exact hB4 | exact changed_drew hB4); have HX4 := Lib.hid (below_keeps hB4 (blk_lt HX3.out) HX3.out); have HE4 := Lib.hid (below_keeps hB4 (blk_lt HE3.out) HE3.out); have HR4 := Lib.hid (below_keeps hB4 (blk_lt HR3.out) HR3.out); obtain ⟨k0, k1, k2⟩ := entry34 HE4.out; obtain ⟨c0, c1, c2, c3, c4, c5, c6⟩ := LotAt.of_block HX4.out; have f2 := frozen_of_row w4 b 2 _ 84 HX4.out; have f3 := frozen_of_row w4 b 3 _ 84 HX4.out; have f6 := frozen_of_row w4 b 6 _ 84 HX4.out; have HB4 := Lib.hid (below_then HB3.out hB4); clear hB4)
        | ((with_reducible refine store_row_event rfl 84 _ _ rfl r (cellsS x) ?hx ?hy 84 (cellsS z57) ?hg ?hi ?ho ?h1 ?_); (case hx => (go_simp; done)); (case hy => (unfold cellsS; go_simp; done)); (case hg => first | exact HR3.out | exact HR4.out | exact (heap_setCell_other _ _ _ _ HNE.out).trans HR3.out | exact (heap_setCell_other _ _ _ _ HNE.out).trans HR4.out | exact (heap_setCell_other _ _ _ _ HNE.out).trans ((heap_setCell_other _ _ _ _ HNE.out).trans HR3.out)); (case hi => exact info84s _); (case ho => exact cellsS_size _); (case h1 => exact cellsS_one _); intro w5 hr5 hB5 hs5; have HR5 := Lib.hid hr5; have HB5 := Lib.hid hB5; clear hr5 hB5 hs5))
    all_goals
      have HW := Lib.hid (changed_end HB5.out (by first | exact HB3.out | exact HB4.out | exact pw_below_drewN HB4.out _ | exact pw_below_drewN HB3.out _ | exact changed_set HB3.out HZ1.out.2 _ _ | exact changed_set HB4.out HZ1.out.2 _ _ | exact changed_set (changed_set HB3.out HZ1.out.2 _ _) HZ1.out.2 _ _) HRZ.out)
      refine bodyPost_ret (results_ct rfl _ _ r 84 (cellsS x) (0, 0) _ rfl HR5.out Tryz.underlying84 rfl (info84s _)) rfl ?_
      exact ⟨by rw [E2.out]; rfl, HW.out⟩
  · have e1 : (x.f6 != 0) = false := bne_eq_false_iff_eq.mpr h.1
    have e3 : decide (0 < leftS x) = false := decide_eq_false (by omega)
    have e2 : deedS 5 n x = ({ x with f6 := 1 }, 0) := by simp [deedS, h.1]; omega
    have E2 := Lib.hid (HU.out.symm.trans e2)
    clear h e2
    go_wp2_with (first
      | (go_at_call 87; refine (rLeft_calls x _ rfl HS.out _).mono ?_; rintro e w4 ⟨rfl, hB4⟩; have hB4 : Below w3.heap.size w3 w4 := (by first | exact hB4 | exact changed_drew hB4); have HX4 := Lib.hid (below_keeps hB4 (blk_lt HX3.out) HX3.out); have HE4 := Lib.hid (below_keeps hB4 (blk_lt HE3.out) HE3.out); have HR4 := Lib.hid (below_keeps hB4 (blk_lt HR3.out) HR3.out); obtain ⟨k0, k1, k2⟩ := entry34 HE4.out; obtain ⟨c0, c1, c2, c3, c4, c5, c6⟩ := LotAt.of_block HX4.out; have f2 := frozen_of_row w4 b 2 _ 84 HX4.out; have f3 := frozen_of_row w4 b 3 _ 84 HX4.out; have f6 := frozen_of_row w4 b 6 _ 84 HX4.out; have HB4 := Lib.hid (below_then HB3.out hB4); clear hB4)
        | ((with_reducible refine store_row_event rfl 84 _ _ rfl r (cellsS ({ x with f6 := 1 } : S57)) ?hx ?hy 84 (cellsS z57) ?hg ?hi ?ho ?h1 ?_); (case hx => (go_simp; done)); (case hy => (unfold cellsS; go_simp; done)); (case hg => first | exact HR3.out | exact HR4.out | exact (heap_setCell_other _ _ _ _ HNE.out).trans HR3.out | exact (heap_setCell_other _ _ _ _ HNE.out).trans HR4.out | exact (heap_setCell_other _ _ _ _ HNE.out).trans ((heap_setCell_other _ _ _ _ HNE.out).trans HR3.out)); (case hi => exact info84s _); (case ho => exact cellsS_size _); (case h1 => exact cellsS_one _); intro w5 hr5 hB5 hs5; have HR5 := Lib.hid hr5; have HB5 := Lib.hid hB5; clear hr5 hB5 hs5))
    all_goals
      have HW := Lib.hid (changed_end HB5.out (by first | exact HB3.out | exact HB4.out | exact pw_below_drewN HB4.out _ | exact pw_below_drewN HB3.out _ | exact changed_set HB3.out HZ1.out.2 _ _ | exact changed_set HB4.out HZ1.out.2 _ _ | exact changed_set (changed_set HB3.out HZ1.out.2 _ _) HZ1.out.2 _ _) HRZ.out)
      refine bodyPost_ret (results_ct rfl _ _ r 84 (cellsS ({ x with f6 := 1 } : S57)) (0, 0) _ rfl HR5.out Tryz.underlying84 rfl (info84s _)) rfl ?_
      exact ⟨by rw [E2.out]; rfl, HW.out⟩
set_option maxHeartbeats 8000000 in
set_option maxRecDepth 100000 in
theorem rchanged_6 (x : S57) (s : ByteArray) (n : Int) (w : World) (hs : SmallLot x) (hn : 0 ≤ n ∧ n ≤ 1048576) :
    Calls Tryz.prog 83 #[.agg (cellsS x), .agg #[.int .i64 6, .string s, .int .i64 n]] w fun e w' => e = .returned (.tuple #[.agg (cellsS (deedS 6 n x).1), .int .i64 (deedS 6 n x).2]) ∧ Below w.heap.size w w' := by
  obtain ⟨hn0, hn1⟩ := hn
  have h2 := hs.s2
  have h3 := hs.s3
  have h4 := hs.s4
  have h5 := hs.s5
  have HS := Lib.hid hs
  clear hs
  obtain ⟨p2, r2⟩ := h2
  obtain ⟨p3, r3⟩ := h3
  obtain ⟨p4, r4⟩ := h4
  obtain ⟨p5, r5⟩ := h5
  have hd : x.f6 ≠ 1 ∨ (x.f6 = 1 ∧ 0 < x.f3) ∨ (x.f6 = 1 ∧ x.f3 ≤ 0) := by omega
  have HD := Lib.hid hd
  clear hd
  obtain ⟨u, hu⟩ : ∃ u, deedS 6 n x = u := ⟨_, rfl⟩
  rw [hu]
  have HU := Lib.hid hu
  clear hu
  go_enter Tryz.func83, Tryz.ntmps83
  go_upto_region 1 with (first
    | ((with_reducible refine box_abs rfl 84 _ rfl (cellsS x) ?hx ?_); (case hx => rfl); intro b hb w1 hb1 hB1 hs1; have HX1 := Lib.hid hb1; obtain ⟨c0, c1, c2, c3, c4, c5, c6⟩ := LotAt.of_block hb1; have HZ1 := Lib.hid (show b < w1.heap.size ∧ w.heap.size ≤ b by rw [hs1, hb]; exact ⟨by omega, Nat.le_refl _⟩); have HB1 := Lib.hid hB1; clear hb hb1 hB1 hs1)
    | ((with_reducible refine box_abs rfl 34 _ rfl #[.int .i64 6, .string s, .int .i64 n] ?hx ?_); (case hx => rfl); intro c hc w2 hc2 hB2 hs2; have HX2 := Lib.hid (below_keeps hB2 HZ1.out.1 HX1.out); have HE2 := Lib.hid hc2; obtain ⟨k0, k1, k2⟩ := entry34 hc2; obtain ⟨c0, c1, c2, c3, c4, c5, c6⟩ := LotAt.of_block HX2.out; have HZ2 := Lib.hid (show b < w2.heap.size ∧ c < w2.heap.size by have := HZ1.out.1; rw [hs2]; omega); have HB2 := Lib.hid (below_then HB1.out hB2); clear hc hc2 hB2 hs2)
    | ((with_reducible refine alloc_event rfl 84 rfl (.agg (cellsS z57)) zero84 ?_); intro r hr w3 hr3 hB3 hs3; have HX3 := Lib.hid (below_keeps hB3 HZ2.out.1 HX2.out); have HE3 := Lib.hid (below_keeps hB3 HZ2.out.2 HE2.out); have HR3 := Lib.hid hr3; obtain ⟨k0, k1, k2⟩ := entry34 HE3.out; obtain ⟨c0, c1, c2, c3, c4, c5, c6⟩ := LotAt.of_block HX3.out; have f2 := frozen_of_row w3 b 2 _ 84 HX3.out; have f3 := frozen_of_row w3 b 3 _ 84 HX3.out; have f4 := frozen_of_row w3 b 4 _ 84 HX3.out; have f5 := frozen_of_row w3 b 5 _ 84 HX3.out; have f6 := frozen_of_row w3 b 6 _ 84 HX3.out; have HNE := Lib.hid (show r ≠ b by have := HZ2.out.1; omega); have HRZ := Lib.hid (show w.heap.size ≤ r by have := HB2.out.size; omega); have HB3 := Lib.hid (below_then HB2.out hB3); clear hr hr3 hB3 hs3))
  rcases HD.out with h | h | h
  · have e1 : (x.f6 != 1) = true := bne_iff_ne.mpr h
    have e2 : deedS 6 n x = (x, 14) := by simp [deedS, h]
    have E2 := Lib.hid (HU.out.symm.trans e2)
    clear h e2
    go_wp2_with (first
      | (go_at_call 87; refine (rLeft_calls x _ rfl HS.out _).mono ?_; rintro e w4 ⟨rfl, hB4⟩; have hB4 : Below w3.heap.size w3 w4 := (by first | exact hB4 | exact changed_drew hB4); have HX4 := Lib.hid (below_keeps hB4 (blk_lt HX3.out) HX3.out); have HE4 := Lib.hid (below_keeps hB4 (blk_lt HE3.out) HE3.out); have HR4 := Lib.hid (below_keeps hB4 (blk_lt HR3.out) HR3.out); obtain ⟨k0, k1, k2⟩ := entry34 HE4.out; obtain ⟨c0, c1, c2, c3, c4, c5, c6⟩ := LotAt.of_block HX4.out; have f2 := frozen_of_row w4 b 2 _ 84 HX4.out; have f3 := frozen_of_row w4 b 3 _ 84 HX4.out; have f6 := frozen_of_row w4 b 6 _ 84 HX4.out; have HB4 := Lib.hid (below_then HB3.out hB4); clear hB4)
        | ((with_reducible refine store_row_event rfl 84 _ _ rfl r (cellsS x) ?hx ?hy 84 (cellsS z57) ?hg ?hi ?ho ?h1 ?_); (case hx => (go_simp; done)); (case hy => (unfold cellsS; go_simp; done)); (case hg => first | exact HR3.out | exact HR4.out | exact (heap_setCell_other _ _ _ _ HNE.out).trans HR3.out | exact (heap_setCell_other _ _ _ _ HNE.out).trans HR4.out | exact (heap_setCell_other _ _ _ _ HNE.out).trans ((heap_setCell_other _ _ _ _ HNE.out).trans HR3.out)); (case hi => exact info84s _); (case ho => exact cellsS_size _); (case h1 => exact cellsS_one _); intro w5 hr5 hB5 hs5; have HR5 := Lib.hid hr5; have HB5 := Lib.hid hB5; clear hr5 hB5 hs5))
    all_goals
      have HW := Lib.hid (changed_end HB5.out (by first | exact HB3.out | exact HB4.out | exact pw_below_drewN HB4.out _ | exact pw_below_drewN HB3.out _ | exact changed_set HB3.out HZ1.out.2 _ _ | exact changed_set HB4.out HZ1.out.2 _ _ | exact changed_set (changed_set HB3.out HZ1.out.2 _ _) HZ1.out.2 _ _) HRZ.out)
      refine bodyPost_ret (results_ct rfl _ _ r 84 (cellsS x) (0, 0) _ rfl HR5.out Tryz.underlying84 rfl (info84s _)) rfl ?_
      exact ⟨by rw [E2.out]; rfl, HW.out⟩
  · have e1 : (x.f6 != 1) = false := bne_eq_false_iff_eq.mpr h.1
    have e3 : decide (0 < x.f3) = true := decide_eq_true h.2
    have e2 : deedS 6 n x = (x, 16) := by simp [deedS, h.1]; omega
    have E2 := Lib.hid (HU.out.symm.trans e2)
    clear h e2
    go_wp2_with (first
      | (go_at_call 87; refine (rLeft_calls x _ rfl HS.out _).mono ?_; rintro e w4 ⟨rfl, hB4⟩; have hB4 : Below w3.heap.size w3 w4 := (by first | exact hB4 | exact changed_drew hB4); have HX4 := Lib.hid (below_keeps hB4 (blk_lt HX3.out) HX3.out); have HE4 := Lib.hid (below_keeps hB4 (blk_lt HE3.out) HE3.out); have HR4 := Lib.hid (below_keeps hB4 (blk_lt HR3.out) HR3.out); obtain ⟨k0, k1, k2⟩ := entry34 HE4.out; obtain ⟨c0, c1, c2, c3, c4, c5, c6⟩ := LotAt.of_block HX4.out; have f2 := frozen_of_row w4 b 2 _ 84 HX4.out; have f3 := frozen_of_row w4 b 3 _ 84 HX4.out; have f6 := frozen_of_row w4 b 6 _ 84 HX4.out; have HB4 := Lib.hid (below_then HB3.out hB4); clear hB4)
        | ((with_reducible refine store_row_event rfl 84 _ _ rfl r (cellsS x) ?hx ?hy 84 (cellsS z57) ?hg ?hi ?ho ?h1 ?_); (case hx => (go_simp; done)); (case hy => (unfold cellsS; go_simp; done)); (case hg => first | exact HR3.out | exact HR4.out | exact (heap_setCell_other _ _ _ _ HNE.out).trans HR3.out | exact (heap_setCell_other _ _ _ _ HNE.out).trans HR4.out | exact (heap_setCell_other _ _ _ _ HNE.out).trans ((heap_setCell_other _ _ _ _ HNE.out).trans HR3.out)); (case hi => exact info84s _); (case ho => exact cellsS_size _); (case h1 => exact cellsS_one _); intro w5 hr5 hB5 hs5; have HR5 := Lib.hid hr5; have HB5 := Lib.hid hB5; clear hr5 hB5 hs5))
    all_goals
      have HW := Lib.hid (changed_end HB5.out (by first | exact HB3.out | exact HB4.out | exact pw_below_drewN HB4.out _ | exact pw_below_drewN HB3.out _ | exact changed_set HB3.out HZ1.out.2 _ _ | exact changed_set HB4.out HZ1.out.2 _ _ | exact changed_set (changed_set HB3.out HZ1.out.2 _ _) HZ1.out.2 _ _) HRZ.out)
      refine bodyPost_ret (results_ct rfl _ _ r 84 (cellsS x) (0, 0) _ rfl HR5.out Tryz.underlying84 rfl (info84s _)) rfl ?_
      exact ⟨by rw [E2.out]; rfl, HW.out⟩
  · have e1 : (x.f6 != 1) = false := bne_eq_false_iff_eq.mpr h.1
    have e3 : decide (0 < x.f3) = false := decide_eq_false (by omega)
    have e2 : deedS 6 n x = ({ x with f6 := 2 }, 0) := by simp [deedS, h.1]; omega
    have E2 := Lib.hid (HU.out.symm.trans e2)
    clear h e2
    go_wp2_with (first
      | (go_at_call 87; refine (rLeft_calls x _ rfl HS.out _).mono ?_; rintro e w4 ⟨rfl, hB4⟩; have hB4 : Below w3.heap.size w3 w4 := (by first | exact hB4 | exact changed_drew hB4); have HX4 := Lib.hid (below_keeps hB4 (blk_lt HX3.out) HX3.out); have HE4 := Lib.hid (below_keeps hB4 (blk_lt HE3.out) HE3.out); have HR4 := Lib.hid (below_keeps hB4 (blk_lt HR3.out) HR3.out); obtain ⟨k0, k1, k2⟩ := entry34 HE4.out; obtain ⟨c0, c1, c2, c3, c4, c5, c6⟩ := LotAt.of_block HX4.out; have f2 := frozen_of_row w4 b 2 _ 84 HX4.out; have f3 := frozen_of_row w4 b 3 _ 84 HX4.out; have f6 := frozen_of_row w4 b 6 _ 84 HX4.out; have HB4 := Lib.hid (below_then HB3.out hB4); clear hB4)
        | ((with_reducible refine store_row_event rfl 84 _ _ rfl r (cellsS ({ x with f6 := 2 } : S57)) ?hx ?hy 84 (cellsS z57) ?hg ?hi ?ho ?h1 ?_); (case hx => (go_simp; done)); (case hy => (unfold cellsS; go_simp; done)); (case hg => first | exact HR3.out | exact HR4.out | exact (heap_setCell_other _ _ _ _ HNE.out).trans HR3.out | exact (heap_setCell_other _ _ _ _ HNE.out).trans HR4.out | exact (heap_setCell_other _ _ _ _ HNE.out).trans ((heap_setCell_other _ _ _ _ HNE.out).trans HR3.out)); (case hi => exact info84s _); (case ho => exact cellsS_size _); (case h1 => exact cellsS_one _); intro w5 hr5 hB5 hs5; have HR5 := Lib.hid hr5; have HB5 := Lib.hid hB5; clear hr5 hB5 hs5))
    all_goals
      have HW := Lib.hid (changed_end HB5.out (by first | exact HB3.out | exact HB4.out | exact pw_below_drewN HB4.out _ | exact pw_below_drewN HB3.out _ | exact changed_set HB3.out HZ1.out.2 _ _ | exact changed_set HB4.out HZ1.out.2 _ _ | exact changed_set (changed_set HB3.out HZ1.out.2 _ _) HZ1.out.2 _ _) HRZ.out)
      refine bodyPost_ret (results_ct rfl _ _ r 84 (cellsS ({ x with f6 := 2 } : S57)) (0, 0) _ rfl HR5.out Tryz.underlying84 rfl (info84s _)) rfl ?_
      exact ⟨by rw [E2.out]; rfl, HW.out⟩
end Go.Proofs.YtdgipencedlbmaaGreatDoor.Pr
