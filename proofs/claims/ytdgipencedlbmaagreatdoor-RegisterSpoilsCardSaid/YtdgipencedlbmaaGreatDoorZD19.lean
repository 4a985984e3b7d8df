/- The contract of register.Text at one kind. The contract of register.Text at one kind. The contract of register.Text at one kind. -/
import Derived.Test.YtdgipencedlbmaaGreatDoorZD15
namespace Go.Proofs.YtdgipencedlbmaaGreatDoor.Pr
set_option linter.unusedVariables false
set_option linter.unusedSimpArgs false
open Go.RowKit Go.Proofs.YtdgipencedlbmaaGreatDoorW.PrintWords Go.Proofs.YtdgipencedlbmaaGreatDoor.Hand
theorem tidx4 (w : World) : (Instr.index 93 (.agg rowsC) (.int .i64 4)).run Tryz.prog w = .ok (.agg #[.string sScrap, .bool false, .func (.func 93) #[] #[]]) w := by kernel_rfl
set_option maxHeartbeats 4000000 in
set_option maxRecDepth 100000 in
theorem Text_4 (s : ByteArray) (n : Int) (w : World) (hG : GOOD w) (h : rightErr 4 s n = 0) (hs : s.size ≤ 24) (hn0 : 0 ≤ n) (hn1 : n ≤ 1048576) :
    Calls Tryz.prog 33 #[.agg #[.int .i64 4, .string s, .int .i64 n]] w fun e w' => e = .returned (.tuple #[.string (bytesA (textL 4 s.data.toList n)), .int .i64 0]) ∧ Below w.heap.size w w' := by
  have HE := Lib.hid h
  have hidx := tidx4
  clear h
  go_enter Tryz.func33, Tryz.ntmps33
  go_wp2_with (first
    | ((with_reducible refine box_abs rfl 24 _ rfl #[.int .i64 4, .string s, .int .i64 n] ?hx ?_); (case hx => rfl); intro b hb w1 hb1 hB1 hs1; have HBk := Lib.hid hb; have HE1 := Lib.hid hb1; have HB1 := Lib.hid hB1; have HS1 := Lib.hid hs1; obtain ⟨k0, k1, k2⟩ := entry_at hb1; clear hb hs1 hb1 hB1)
    | (go_at_call 20; refine (Right_calls _ _ _ _).mono ?_; rw [HE.out]; rintro e w2 ⟨rfl, hB2⟩; have HB2 := Lib.hid (below_then HB1.out hB2); have HE2 := Lib.hid (below_keeps hB2 (by rw [HS1.out]; omega) HE1.out); have HZ2 := Lib.hid (show b < w2.heap.size by have := hB2.size; have := HS1.out; omega); obtain ⟨k0, k1, k2⟩ := entry_at HE2.out; have n2 := Nat.ne_of_lt HZ2.out; have l2 := HZ2.out; clear hB2))
  go_region_with (first
    | (go_at_call 54; (with_reducible refine (rowsA HB2.out HZ2.out HE2.out).mono ?_); rintro e w4 ⟨rfl, hB4, hE4⟩; have HB4 := Lib.hid hB4; have HE4 := Lib.hid hE4; obtain ⟨k0, k1, k2⟩ := entry_at hE4; have l4 := blk_lt hE4; have n4 := Nat.ne_of_lt l4; clear hB4 hE4)
    | (go_at_call 54; (with_reducible refine (rowsB HB2.out HZ2.out HE2.out).mono ?_); rintro e w4 ⟨rfl, hB4, hE4, hR4⟩; have HB4 := Lib.hid hB4; have HE4 := Lib.hid hE4; have HR4 := Lib.hid hR4; obtain ⟨k0, k1, k2⟩ := entry_at hE4; obtain ⟨z0, z1, z2⟩ := row_cells hR4; have l4 := blk_lt hE4; have n4 := Nat.ne_of_lt l4; have zf := fun j => frozen_of_row w4 w2.heap.size j _ 92 HR4.out; clear hB4 hE4 hR4))
  all_goals
    first
    | (obtain ⟨rb, hrb⟩ : ∃ rb, rb = w4.heap.size := ⟨_, rfl⟩; rw [← hrb]; refine exit_world (TW w b rb s sScrap n false) (hrb ▸ TW_A HB4.out HE4.out) ?_)
    | (obtain ⟨rb, hrb⟩ : ∃ rb, rb = w2.heap.size := ⟨_, rfl⟩; rw [← hrb]; refine exit_world (TW w b rb s sScrap n false) (hrb ▸ TW_B HB2.out HZ2.out HB4.out HE4.out HR4.out) ?_)
    intro w5 hT
    clear hrb
    have HT := Lib.hid hT
    obtain ⟨_, q1, q2, q3, q4, _, _⟩ := hT
    clear k0 k1 k2
    have hwz : (sScrap : ByteArray).size = 5 := rfl
    have z1 : ¬ 9223372036854775807 < (sScrap : ByteArray).size + 1 := by omega
    have z2 : ¬ 9223372036854775807 < (sScrap : ByteArray).size + 1 + s.size := by omega
    have z3 : ¬ 9223372036854775807 < (sScrap : ByteArray).size + 1 + s.size + 1 := by omega
    have z4 : ¬ 9223372036854775807 < (sScrap : ByteArray).size + 1 + s.size + 1 + (bytesA (Lib.itoa n)).size := by have := itoa_size hn0 hn1; omega
    clear hwz
    go_wp2
    have HB5 := Lib.hid HT.out.below
    have HK5 := Lib.hid (fun W' (h : Below w5.heap.size w5 W') => HT.out.keep h)
    go_region_held3 (fun W' => W'.cell? ⟨rb, 0, none⟩ = some (.string sScrap) ∧ W'.cell? ⟨b, 1, none⟩ = some (.string s) ∧ W'.cell? ⟨b, 2, none⟩ = some (.int .i64 n)) (first | exact ⟨q1, q3, q4⟩ | go_keep)
      (first | (go_at_call 60; refine (itoa_calls n (by omega) (by omega) _ (hG.step (below_drew HB5.out) hG.low)).mono ?_; rintro e w6 ⟨rfl, hB6⟩; obtain ⟨_, q1, q2, q3, q4, _, _⟩ := (HK5.out _ (below_of_drew hB6)); have HB6 := Lib.hid (below_then HB5.out (below_of_drew hB6)); clear hB6))
    all_goals
      go_wp2
      go_ret2
      exact ⟨text_ret (by simp only [ByteArray.append_assoc]; exact count_text _ _ (by decide) rfl), HB6.out⟩
end Go.Proofs.YtdgipencedlbmaaGreatDoor.Pr
namespace Go.Proofs.YtdgipencedlbmaaGreatDoor.Pr
set_option linter.unusedVariables false
set_option linter.unusedSimpArgs false
open Go.RowKit Go.Proofs.YtdgipencedlbmaaGreatDoorW.PrintWords Go.Proofs.YtdgipencedlbmaaGreatDoor.Hand
theorem tidx5 (w : World) : (Instr.index 93 (.agg rowsC) (.int .i64 5)).run Tryz.prog w = .ok (.agg #[.string sClose, .bool true, .func (.func 94) #[] #[]]) w := by kernel_rfl
set_option maxHeartbeats 4000000 in
set_option maxRecDepth 100000 in
theorem Text_5 (s : ByteArray) (n : Int) (w : World) (hG : GOOD w) (h : rightErr 5 s n = 0) (hs : s.size ≤ 24) (hn0 : 0 ≤ n) (hn1 : n ≤ 1048576) :
    Calls Tryz.prog 33 #[.agg #[.int .i64 5, .string s, .int .i64 n]] w fun e w' => e = .returned (.tuple #[.string (bytesA (textL 5 s.data.toList n)), .int .i64 0]) ∧ Below w.heap.size w w' := by
  have HE := Lib.hid h
  have hidx := tidx5
  clear h
  go_enter Tryz.func33, Tryz.ntmps33
  go_wp2_with (first
    | ((with_reducible refine box_abs rfl 24 _ rfl #[.int .i64 5, .string s, .int .i64 n] ?hx ?_); (case hx => rfl); intro b hb w1 hb1 hB1 hs1; have HBk := Lib.hid hb; have HE1 := Lib.hid hb1; have HB1 := Lib.hid hB1; have HS1 := Lib.hid hs1; obtain ⟨k0, k1, k2⟩ := entry_at hb1; clear hb hs1 hb1 hB1)
    | (go_at_call 20; refine (Right_calls _ _ _ _).mono ?_; rw [HE.out]; rintro e w2 ⟨rfl, hB2⟩; have HB2 := Lib.hid (below_then HB1.out hB2); have HE2 := Lib.hid (below_keeps hB2 (by rw [HS1.out]; omega) HE1.out); have HZ2 := Lib.hid (show b < w2.heap.size by have := hB2.size; have := HS1.out; omega); obtain ⟨k0, k1, k2⟩ := entry_at HE2.out; have n2 := Nat.ne_of_lt HZ2.out; have l2 := HZ2.out; clear hB2))
  go_region_with (first
    | (go_at_call 54; (with_reducible refine (rowsA HB2.out HZ2.out HE2.out).mono ?_); rintro e w4 ⟨rfl, hB4, hE4⟩; have HB4 := Lib.hid hB4; have HE4 := Lib.hid hE4; obtain ⟨k0, k1, k2⟩ := entry_at hE4; have l4 := blk_lt hE4; have n4 := Nat.ne_of_lt l4; clear hB4 hE4)
    | (go_at_call 54; (with_reducible refine (rowsB HB2.out HZ2.out HE2.out).mono ?_); rintro e w4 ⟨rfl, hB4, hE4, hR4⟩; have HB4 := Lib.hid hB4; have HE4 := Lib.hid hE4; have HR4 := Lib.hid hR4; obtain ⟨k0, k1, k2⟩ := entry_at hE4; obtain ⟨z0, z1, z2⟩ := row_cells hR4; have l4 := blk_lt hE4; have n4 := Nat.ne_of_lt l4; have zf := fun j => frozen_of_row w4 w2.heap.size j _ 92 HR4.out; clear hB4 hE4 hR4))
  all_goals
    first
    | (obtain ⟨rb, hrb⟩ : ∃ rb, rb = w4.heap.size := ⟨_, rfl⟩; rw [← hrb]; refine exit_world (TW w b rb s sClose n true) (hrb ▸ TW_A HB4.out HE4.out) ?_)
    | (obtain ⟨rb, hrb⟩ : ∃ rb, rb = w2.heap.size := ⟨_, rfl⟩; rw [← hrb]; refine exit_world (TW w b rb s sClose n true) (hrb ▸ TW_B HB2.out HZ2.out HB4.out HE4.out HR4.out) ?_)
    intro w5 hT
    clear hrb
    have HT := Lib.hid hT
    obtain ⟨_, q1, q2, q3, q4, _, _⟩ := hT
    clear k0 k1 k2
    have hwz : (sClose : ByteArray).size = 5 := rfl
    have z1 : ¬ 9223372036854775807 < (sClose : ByteArray).size + 1 := by omega
    have z2 : ¬ 9223372036854775807 < (sClose : ByteArray).size + 1 + s.size := by omega
    have z3 : ¬ 9223372036854775807 < (sClose : ByteArray).size + 1 + s.size + 1 := by omega
    have z4 : ¬ 9223372036854775807 < (sClose : ByteArray).size + 1 + s.size + 1 + (bytesA (Lib.itoa n)).size := by have := itoa_size hn0 hn1; omega
    clear hwz
    go_wp2
    go_ret2
    exact ⟨text_ret (by rw [ByteArray.append_assoc]; exact plain_text _ _ (by decide) rfl), HT.out.below⟩
end Go.Proofs.YtdgipencedlbmaaGreatDoor.Pr
namespace Go.Proofs.YtdgipencedlbmaaGreatDoor.Pr
set_option linter.unusedVariables false
set_option linter.unusedSimpArgs false
open Go.RowKit Go.Proofs.YtdgipencedlbmaaGreatDoorW.PrintWords Go.Proofs.YtdgipencedlbmaaGreatDoor.Hand
theorem tidx6 (w : World) : (Instr.index 93 (.agg rowsC) (.int .i64 6)).run Tryz.prog w = .ok (.agg #[.string sShip, .bool true, .func (.func 96) #[] #[]]) w := by kernel_rfl
set_option maxHeartbeats 4000000 in
set_option maxRecDepth 100000 in
theorem Text_6 (s : ByteArray) (n : Int) (w : World) (hG : GOOD w) (h : rightErr 6 s n = 0) (hs : s.size ≤ 24) (hn0 : 0 ≤ n) (hn1 : n ≤ 1048576) :
    Calls Tryz.prog 33 #[.agg #[.int .i64 6, .string s, .int .i64 n]] w fun e w' => e = .returned (.tuple #[.string (bytesA (textL 6 s.data.toList n)), .int .i64 0]) ∧ Below w.heap.size w w' := by
  have HE := Lib.hid h
  have hidx := tidx6
  clear h
  go_enter Tryz.func33, Tryz.ntmps33
  go_wp2_with (first
    | ((with_reducible refine box_abs rfl 24 _ rfl #[.int .i64 6, .string s, .int .i64 n] ?hx ?_); (case hx => rfl); intro b hb w1 hb1 hB1 hs1; have HBk := Lib.hid hb; have HE1 := Lib.hid hb1; have HB1 := Lib.hid hB1; have HS1 := Lib.hid hs1; obtain ⟨k0, k1, k2⟩ := entry_at hb1; clear hb hs1 hb1 hB1)
    | (go_at_call 20; refine (Right_calls _ _ _ _).mono ?_; rw [HE.out]; rintro e w2 ⟨rfl, hB2⟩; have HB2 := Lib.hid (below_then HB1.out hB2); have HE2 := Lib.hid (below_keeps hB2 (by rw [HS1.out]; omega) HE1.out); have HZ2 := Lib.hid (show b < w2.heap.size by have := hB2.size; have := HS1.out; omega); obtain ⟨k0, k1, k2⟩ := entry_at HE2.out; have n2 := Nat.ne_of_lt HZ2.out; have l2 := HZ2.out; clear hB2))
  go_region_with (first
    | (go_at_call 54; (with_reducible refine (rowsA HB2.out HZ2.out HE2.out).mono ?_); rintro e w4 ⟨rfl, hB4, hE4⟩; have HB4 := Lib.hid hB4; have HE4 := Lib.hid hE4; obtain ⟨k0, k1, k2⟩ := entry_at hE4; have l4 := blk_lt hE4; have n4 := Nat.ne_of_lt l4; clear hB4 hE4)
    | (go_at_call 54; (with_reducible refine (rowsB HB2.out HZ2.out HE2.out).mono ?_); rintro e w4 ⟨rfl, hB4, hE4, hR4⟩; have HB4 := Lib.hid hB4; have HE4 := Lib.hid hE4; have HR4 := Lib.hid hR4; obtain ⟨k0, k1, k2⟩ := entry_at hE4; obtain ⟨z0, z1, z2⟩ := row_cells hR4; have l4 := blk_lt hE4; have n4 := Nat.ne_of_lt l4; have zf := fun j => frozen_of_row w4 w2.heap.size j _ 92 HR4.out; clear hB4 hE4 hR4))
  all_goals
    first
    | (obtain ⟨rb, hrb⟩ : ∃ rb, rb = w4.heap.size := ⟨_, rfl⟩; rw [← hrb]; refine exit_world (TW w b rb s sShip n true) (hrb ▸ TW_A HB4.out HE4.out) ?_)
    | (obtain ⟨rb, hrb⟩ : ∃ rb, rb = w2.heap.size := ⟨_, rfl⟩; rw [← hrb]; refine exit_world (TW w b rb s sShip n true) (hrb ▸ TW_B HB2.out HZ2.out HB4.out HE4.out HR4.out) ?_)
    intro w5 hT
    clear hrb
    have HT := Lib.hid hT
    obtain ⟨_, q1, q2, q3, q4, _, _⟩ := hT
    clear k0 k1 k2
    have hwz : (sShip : ByteArray).size = 4 := rfl
    have z1 : ¬ 9223372036854775807 < (sShip : ByteArray).size + 1 := by omega
    have z2 : ¬ 9223372036854775807 < (sShip : ByteArray).size + 1 + s.size := by omega
    have z3 : ¬ 9223372036854775807 < (sShip : ByteArray).size + 1 + s.size + 1 := by omega
    have z4 : ¬ 9223372036854775807 < (sShip : ByteArray).size + 1 + s.size + 1 + (bytesA (Lib.itoa n)).size := by have := itoa_size hn0 hn1; omega
    clear hwz
    go_wp2
    go_ret2
    exact ⟨text_ret (by rw [ByteArray.append_assoc]; exact plain_text _ _ (by decide) rfl), HT.out.below⟩
end Go.Proofs.YtdgipencedlbmaaGreatDoor.Pr
