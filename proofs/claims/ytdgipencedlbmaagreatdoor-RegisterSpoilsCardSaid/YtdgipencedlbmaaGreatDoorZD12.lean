/- The contract of register.done at the entries of kind 4. The contract of register.done at the entries of kind 5. The contract of register.done at the entries of kind 6. -/
import Derived.Test.YtdgipencedlbmaaGreatDoorZD06
namespace Go.Proofs.YtdgipencedlbmaaGreatDoor.Pr
set_option linter.unusedVariables false
set_option linter.unusedSimpArgs false
open Go.RowKit Go.Proofs.YtdgipencedlbmaaGreatDoorW.PrintWords Go.Proofs.YtdgipencedlbmaaGreatDoor.Hand
theorem idx4 (w : World) : (Instr.index 93 (.agg rowsC) (.int .i64 4)).run Tryz.prog w = .ok (.agg #[.string sScrap, .bool false, .func (.func 93) #[] #[]]) w := by kernel_rfl
theorem fld4 (w : World) : (Instr.field 92 (.agg #[.string sScrap, .bool false, .func (.func 93) #[] #[]]) 2).run Tryz.prog w = .ok (.func (.func 93) #[] #[]) w := by kernel_rfl
set_option maxHeartbeats 8000000 in
set_option maxRecDepth 100000 in
theorem done_4 (A0 : Option Addr) (c0 : Nat) (l0 : List (S57)) (s : ByteArray) (n : Int) (w : World) (hr0 : Kd.C k57 w A0 l0.length l0) (hc0 : l0.length ≤ c0) (hm : l0.length ≤ 256) (hs : sortedS l0 = true)
    (hsm : ∀ x ∈ l0, SmallLot x) (hn : 0 ≤ n ∧ n ≤ 1048576) :
    Calls Tryz.prog 49 #[.slice A0 l0.length c0, .agg #[.int .i64 4, .string s, .int .i64 n]] w (DoneEnd (doneS l0 4 s n).1 (doneS l0 4 s n).2 w) := by
  have HR := Lib.hid hr0
  have HC := Lib.hid hc0
  have HM := Lib.hid hm
  have HS := Lib.hid hs
  have HN := Lib.hid hn
  obtain ⟨p, hp⟩ : ∃ p, lbS l0 s = p := ⟨_, rfl⟩
  have HP := Lib.hid hp
  clear hr0 hc0 hs hp hn
  cases hh : hasS l0 s with
  | false =>
    have HH := Lib.hid hh
    clear hh hsm
    go_enter Tryz.func49, Tryz.ntmps49
    go_wp2_with (first
      | ((with_reducible refine box_abs rfl 24 _ rfl #[.int .i64 4, .string s, .int .i64 n] ?hx ?_); (case hx => rfl); intro b hb w1 hb1 hB1 hs1; have HBk := Lib.hid hb; have HE1 := Lib.hid hb1; have HB1 := Lib.hid hB1; have HS1 := Lib.hid hs1; obtain ⟨k0, k1, k2⟩ := entry_at hb1; clear hb hs1 hb1 hB1)
      | (go_at_call 55; refine (find_calls _ _ l0 s _ (Kd.C_below HR.out HB1.out) HC.out HM.out HS.out).mono ?_; rw [HP.out, HH.out]; rintro e w2 ⟨rfl, hB2⟩; have HB2 := Lib.hid (below_then HB1.out hB2); have HE2 := Lib.hid (below_keeps hB2 (by rw [HS1.out]; omega) HE1.out); have HZ2 := Lib.hid (show b < w2.heap.size by have := hB2.size; have := HS1.out; omega); obtain ⟨k0, k1, k2⟩ := entry_at HE2.out; clear hB2))
    go_ret2
    exact done_err (doneS_none (by decide) HH.out) HB2.out
  | true =>
    have HH := Lib.hid hh
    have HPL := Lib.hid (lt_of_has hh HP.out)
    have HNE := Lib.hid (show l0 ≠ [] by have := HPL.out; intro h; rw [h] at this; simp at this)
    clear hh
    obtain ⟨x, hx⟩ : ∃ x, x = l0.getD p z57 := ⟨_, rfl⟩
    have HSM := Lib.hid (hsm x (by rw [hx, List.getD, List.getElem?_eq_getElem HPL.out]; exact List.getElem_mem _))
    have HX := Lib.hid hx
    clear hx hsm
    obtain ⟨v, hv⟩ : ∃ v, (deedS 4 n x).2 = v := ⟨_, rfl⟩
    have HV := Lib.hid hv
    clear hv
    have hidx := idx4
    have hfld := fld4
    go_enter Tryz.func49, Tryz.ntmps49
    go_wp2_with (first
      | ((with_reducible refine box_abs rfl 24 _ rfl #[.int .i64 4, .string s, .int .i64 n] ?hx ?_); (case hx => rfl); intro b hb w1 hb1 hB1 hs1; have HBk := Lib.hid hb; have HE1 := Lib.hid hb1; have HB1 := Lib.hid hB1; have HS1 := Lib.hid hs1; obtain ⟨k0, k1, k2⟩ := entry_at hb1; clear hb hs1 hb1 hB1)
      | (go_at_call 55; refine (find_calls _ _ l0 s _ (Kd.C_below HR.out HB1.out) HC.out HM.out HS.out).mono ?_; rw [HP.out, HH.out]; rintro e w2 ⟨rfl, hB2⟩; have HB2 := Lib.hid (below_then HB1.out hB2); have HE2 := Lib.hid (below_keeps hB2 (by rw [HS1.out]; omega) HE1.out); have HZ2 := Lib.hid (show b < w2.heap.size by have := hB2.size; have := HS1.out; omega); obtain ⟨k0, k1, k2⟩ := entry_at HE2.out; clear hB2)
      | (go_at_call 81; refine (Clone_calls _ _ l0 _ (Kd.C_below HR.out HB2.out) HC.out HM.out).mono ?_; rintro e w3 ⟨v1, rfl, hR3, hB3⟩; obtain ⟨g, cap, cur, rfl, hbg, hg, hnc, hcm, hcs, hrp⟩ := own_slice hR3 HNE.out; have HE3 := Lib.hid (below_keeps hB3 HZ2.out HE2.out); have HZ3 := Lib.hid (Nat.lt_of_lt_of_le HZ2.out hB3.size); have HB3 := Lib.hid (below_then HB2.out hB3); have HBG := Lib.hid (Nat.le_trans HB2.out.size hbg); have HG3 := Lib.hid hg; have HNC := Lib.hid hnc; have HCM := Lib.hid hcm; have HCS := Lib.hid hcs; have HRP := Lib.hid hrp; have HLI := Lib.hid (reps_in (cap := cap) hrp HPL.out); obtain ⟨k0, k1, k2⟩ := entry_at HE3.out; have hpl := HPL.out; clear hR3 hB3 hbg hg hnc hcm hcs hrp))
    go_region_with (first
        | (go_at_call 54; refine (rows_calls _).mono ?_; rintro e w4 ⟨rfl, hB4⟩; have HE4 := Lib.hid (below_keeps hB4 (g := b) HZ3.out HE3.out); have HG4 := Lib.hid (below_keeps hB4 (g := g) (blk_lt HG3.out) HG3.out); have HB4 := Lib.hid (below_then (below_drew HB3.out) hB4); obtain ⟨k0, k1, k2⟩ := entry_at HE4.out; clear hB4)
        | (go_at_call 93; (with_reducible refine (deed_is (deed4_calls _ g (p * 7) cur x n ?hg (by rw [HX.out]; exact HLI.out) HSM.out HN.out) HV.out).mono ?_); (case hg => exact HG4.out); rintro e w5 ⟨rfl, hok, hbut⟩; have HOK := Lib.hid hok; have HB5 := Lib.hid (hbut.below HB4.out HBG.out HB4.out.size); clear hok hbut))
    all_goals
        by_cases hv0 : v = 0
        · have d1 : (v != 0) = false := bne_eq_false_iff_eq.mpr hv0
          have HV0 := Lib.hid hv0
          clear hv0
          go_wp2
          go_ret2
          exact done_set (doneS_ok (by decide) HH.out HP.out HX.out HV.out HV0.out) HPL.out HBG.out (HOK.out HV0.out) HNC.out HCM.out HCS.out HRP.out HB5.out
        · have d1 : (v != 0) = true := bne_iff_ne.mpr hv0
          have HV0 := Lib.hid hv0
          clear hv0
          go_wp2
          go_ret2
          exact done_err (doneS_err (by decide) HH.out HP.out HX.out HV.out HV0.out) HB5.out
end Go.Proofs.YtdgipencedlbmaaGreatDoor.Pr
namespace Go.Proofs.YtdgipencedlbmaaGreatDoor.Pr
set_option linter.unusedVariables false
set_option linter.unusedSimpArgs false
open Go.RowKit Go.Proofs.YtdgipencedlbmaaGreatDoorW.PrintWords Go.Proofs.YtdgipencedlbmaaGreatDoor.Hand
theorem idx5 (w : World) : (Instr.index 93 (.agg rowsC) (.int .i64 5)).run Tryz.prog w = .ok (.agg #[.string sClose, .bool true, .func (.func 94) #[] #[]]) w := by kernel_rfl
theorem fld5 (w : World) : (Instr.field 92 (.agg #[.string sClose, .bool true, .func (.func 94) #[] #[]]) 2).run Tryz.prog w = .ok (.func (.func 94) #[] #[]) w := by kernel_rfl
set_option maxHeartbeats 8000000 in
set_option maxRecDepth 100000 in
theorem done_5 (A0 : Option Addr) (c0 : Nat) (l0 : List (S57)) (s : ByteArray) (n : Int) (w : World) (hr0 : Kd.C k57 w A0 l0.length l0) (hc0 : l0.length ≤ c0) (hm : l0.length ≤ 256) (hs : sortedS l0 = true)
    (hsm : ∀ x ∈ l0, SmallLot x) (hn : 0 ≤ n ∧ n ≤ 1048576) :
    Calls Tryz.prog 49 #[.slice A0 l0.length c0, .agg #[.int .i64 5, .string s, .int .i64 n]] w (DoneEnd (doneS l0 5 s n).1 (doneS l0 5 s n).2 w) := by
  have HR := Lib.hid hr0
  have HC := Lib.hid hc0
  have HM := Lib.hid hm
  have HS := Lib.hid hs
  have HN := Lib.hid hn
  obtain ⟨p, hp⟩ : ∃ p, lbS l0 s = p := ⟨_, rfl⟩
  have HP := Lib.hid hp
  clear hr0 hc0 hs hp hn
  cases hh : hasS l0 s with
  | false =>
    have HH := Lib.hid hh
    clear hh hsm
    go_enter Tryz.func49, Tryz.ntmps49
    go_wp2_with (first
      | ((with_reducible refine box_abs rfl 24 _ rfl #[.int .i64 5, .string s, .int .i64 n] ?hx ?_); (case hx => rfl); intro b hb w1 hb1 hB1 hs1; have HBk := Lib.hid hb; have HE1 := Lib.hid hb1; have HB1 := Lib.hid hB1; have HS1 := Lib.hid hs1; obtain ⟨k0, k1, k2⟩ := entry_at hb1; clear hb hs1 hb1 hB1)
      | (go_at_call 55; refine (find_calls _ _ l0 s _ (Kd.C_below HR.out HB1.out) HC.out HM.out HS.out).mono ?_; rw [HP.out, HH.out]; rintro e w2 ⟨rfl, hB2⟩; have HB2 := Lib.hid (below_then HB1.out hB2); have HE2 := Lib.hid (below_keeps hB2 (by rw [HS1.out]; omega) HE1.out); have HZ2 := Lib.hid (show b < w2.heap.size by have := hB2.size; have := HS1.out; omega); obtain ⟨k0, k1, k2⟩ := entry_at HE2.out; clear hB2))
    go_ret2
    exact done_err (doneS_none (by decide) HH.out) HB2.out
  | true =>
    have HH := Lib.hid hh
    have HPL := Lib.hid (lt_of_has hh HP.out)
    have HNE := Lib.hid (show l0 ≠ [] by have := HPL.out; intro h; rw [h] at this; simp at this)
    clear hh
    obtain ⟨x, hx⟩ : ∃ x, x = l0.getD p z57 := ⟨_, rfl⟩
    have HSM := Lib.hid (hsm x (by rw [hx, List.getD, List.getElem?_eq_getElem HPL.out]; exact List.getElem_mem _))
    have HX := Lib.hid hx
    clear hx hsm
    obtain ⟨v, hv⟩ : ∃ v, (deedS 5 n x).2 = v := ⟨_, rfl⟩
    have HV := Lib.hid hv
    clear hv
    have hidx := idx5
    have hfld := fld5
    go_enter Tryz.func49, Tryz.ntmps49
    go_wp2_with (first
      | ((with_reducible refine box_abs rfl 24 _ rfl #[.int .i64 5, .string s, .int .i64 n] ?hx ?_); (case hx => rfl); intro b hb w1 hb1 hB1 hs1; have HBk := Lib.hid hb; have HE1 := Lib.hid hb1; have HB1 := Lib.hid hB1; have HS1 := Lib.hid hs1; obtain ⟨k0, k1, k2⟩ := entry_at hb1; clear hb hs1 hb1 hB1)
      | (go_at_call 55; refine (find_calls _ _ l0 s _ (Kd.C_below HR.out HB1.out) HC.out HM.out HS.out).mono ?_; rw [HP.out, HH.out]; rintro e w2 ⟨rfl, hB2⟩; have HB2 := Lib.hid (below_then HB1.out hB2); have HE2 := Lib.hid (below_keeps hB2 (by rw [HS1.out]; omega) HE1.out); have HZ2 := Lib.hid (show b < w2.heap.size by have := hB2.size; have := HS1.out; omega); obtain ⟨k0, k1, k2⟩ := entry_at HE2.out; clear hB2)
      | (go_at_call 81; refine (Clone_calls _ _ l0 _ (Kd.C_below HR.out HB2.out) HC.out HM.out).mono ?_; rintro e w3 ⟨v1, rfl, hR3, hB3⟩; obtain ⟨g, cap, cur, rfl, hbg, hg, hnc, hcm, hcs, hrp⟩ := own_slice hR3 HNE.out; have HE3 := Lib.hid (below_keeps hB3 HZ2.out HE2.out); have HZ3 := Lib.hid (Nat.lt_of_lt_of_le HZ2.out hB3.size); have HB3 := Lib.hid (below_then HB2.out hB3); have HBG := Lib.hid (Nat.le_trans HB2.out.size hbg); have HG3 := Lib.hid hg; have HNC := Lib.hid hnc; have HCM := Lib.hid hcm; have HCS := Lib.hid hcs; have HRP := Lib.hid hrp; have HLI := Lib.hid (reps_in (cap := cap) hrp HPL.out); obtain ⟨k0, k1, k2⟩ := entry_at HE3.out; have hpl := HPL.out; clear hR3 hB3 hbg hg hnc hcm hcs hrp))
    go_region_with (first
        | (go_at_call 54; refine (rows_calls _).mono ?_; rintro e w4 ⟨rfl, hB4⟩; have HE4 := Lib.hid (below_keeps hB4 (g := b) HZ3.out HE3.out); have HG4 := Lib.hid (below_keeps hB4 (g := g) (blk_lt HG3.out) HG3.out); have HB4 := Lib.hid (below_then (below_drew HB3.out) hB4); obtain ⟨k0, k1, k2⟩ := entry_at HE4.out; clear hB4)
        | (go_at_call 94; (with_reducible refine (deed_is (deed5_calls _ g (p * 7) cur x n ?hg (by rw [HX.out]; exact HLI.out) HSM.out HN.out) HV.out).mono ?_); (case hg => exact HG4.out); rintro e w5 ⟨rfl, hok, hbut⟩; have HOK := Lib.hid hok; have HB5 := Lib.hid (hbut.below HB4.out HBG.out HB4.out.size); clear hok hbut))
    all_goals
        by_cases hv0 : v = 0
        · have d1 : (v != 0) = false := bne_eq_false_iff_eq.mpr hv0
          have HV0 := Lib.hid hv0
          clear hv0
          go_wp2
          go_ret2
          exact done_set (doneS_ok (by decide) HH.out HP.out HX.out HV.out HV0.out) HPL.out HBG.out (HOK.out HV0.out) HNC.out HCM.out HCS.out HRP.out HB5.out
        · have d1 : (v != 0) = true := bne_iff_ne.mpr hv0
          have HV0 := Lib.hid hv0
          clear hv0
          go_wp2
          go_ret2
          exact done_err (doneS_err (by decide) HH.out HP.out HX.out HV.out HV0.out) HB5.out
end Go.Proofs.YtdgipencedlbmaaGreatDoor.Pr
namespace Go.Proofs.YtdgipencedlbmaaGreatDoor.Pr
set_option linter.unusedVariables false
set_option linter.unusedSimpArgs false
open Go.RowKit Go.Proofs.YtdgipencedlbmaaGreatDoorW.PrintWords Go.Proofs.YtdgipencedlbmaaGreatDoor.Hand
theorem idx6 (w : World) : (Instr.index 93 (.agg rowsC) (.int .i64 6)).run Tryz.prog w = .ok (.agg #[.string sShip, .bool true, .func (.func 96) #[] #[]]) w := by kernel_rfl
theorem fld6 (w : World) : (Instr.field 92 (.agg #[.string sShip, .bool true, .func (.func 96) #[] #[]]) 2).run Tryz.prog w = .ok (.func (.func 96) #[] #[]) w := by kernel_rfl
set_option maxHeartbeats 8000000 in
set_option maxRecDepth 100000 in
theorem done_6 (A0 : Option Addr) (c0 : Nat) (l0 : List (S57)) (s : ByteArray) (n : Int) (w : World) (hr0 : Kd.C k57 w A0 l0.length l0) (hc0 : l0.length ≤ c0) (hm : l0.length ≤ 256) (hs : sortedS l0 = true)
    (hsm : ∀ x ∈ l0, SmallLot x) (hn : 0 ≤ n ∧ n ≤ 1048576) :
    Calls Tryz.prog 49 #[.slice A0 l0.length c0, .agg #[.int .i64 6, .string s, .int .i64 n]] w (DoneEnd (doneS l0 6 s n).1 (doneS l0 6 s n).2 w) := by
  have HR := Lib.hid hr0
  have HC := Lib.hid hc0
  have HM := Lib.hid hm
  have HS := Lib.hid hs
  have HN := Lib.hid hn
  obtain ⟨p, hp⟩ : ∃ p, lbS l0 s = p := ⟨_, rfl⟩
  have HP := Lib.hid hp
  clear hr0 hc0 hs hp hn
  cases hh : hasS l0 s with
  | false =>
    have HH := Lib.hid hh
    clear hh hsm
    go_enter Tryz.func49, Tryz.ntmps49
    go_wp2_with (first
      | ((with_reducible refine box_abs rfl 24 _ rfl #[.int .i64 6, .string s, .int .i64 n] ?hx ?_); (case hx => rfl); intro b hb w1 hb1 hB1 hs1; have HBk := Lib.hid hb; have HE1 := Lib.hid hb1; have HB1 := Lib.hid hB1; have HS1 := Lib.hid hs1; obtain ⟨k0, k1, k2⟩ := entry_at hb1; clear hb hs1 hb1 hB1)
      | (go_at_call 55; refine (find_calls _ _ l0 s _ (Kd.C_below HR.out HB1.out) HC.out HM.out HS.out).mono ?_; rw [HP.out, HH.out]; rintro e w2 ⟨rfl, hB2⟩; have HB2 := Lib.hid (below_then HB1.out hB2); have HE2 := Lib.hid (below_keeps hB2 (by rw [HS1.out]; omega) HE1.out); have HZ2 := Lib.hid (show b < w2.heap.size by have := hB2.size; have := HS1.out; omega); obtain ⟨k0, k1, k2⟩ := entry_at HE2.out; clear hB2))
    go_ret2
    exact done_err (doneS_none (by decide) HH.out) HB2.out
  | true =>
    have HH := Lib.hid hh
    have HPL := Lib.hid (lt_of_has hh HP.out)
    have HNE := Lib.hid (show l0 ≠ [] by have := HPL.out; intro h; rw [h] at this; simp at this)
    clear hh
    obtain ⟨x, hx⟩ : ∃ x, x = l0.getD p z57 := ⟨_, rfl⟩
    have HSM := Lib.hid (hsm x (by rw [hx, List.getD, List.getElem?_eq_getElem HPL.out]; exact List.getElem_mem _))
    have HX := Lib.hid hx
    clear hx hsm
    obtain ⟨v, hv⟩ : ∃ v, (deedS 6 n x).2 = v := ⟨_, rfl⟩
    have HV := Lib.hid hv
    clear hv
    have hidx := idx6
    have hfld := fld6
    go_enter Tryz.func49, Tryz.ntmps49
    go_wp2_with (first
      | ((with_reducible refine box_abs rfl 24 _ rfl #[.int .i64 6, .string s, .int .i64 n] ?hx ?_); (case hx => rfl); intro b hb w1 hb1 hB1 hs1; have HBk := Lib.hid hb; have HE1 := Lib.hid hb1; have HB1 := Lib.hid hB1; have HS1 := Lib.hid hs1; obtain ⟨k0, k1, k2⟩ := entry_at hb1; clear hb hs1 hb1 hB1)
      | (go_at_call 55; refine (find_calls _ _ l0 s _ (Kd.C_below HR.out HB1.out) HC.out HM.out HS.out).mono ?_; rw [HP.out, HH.out]; rintro e w2 ⟨rfl, hB2⟩; have HB2 := Lib.hid (below_then HB1.out hB2); have HE2 := Lib.hid (below_keeps hB2 (by rw [HS1.out]; omega) HE1.out); have HZ2 := Lib.hid (show b < w2.heap.size by have := hB2.size; have := HS1.out; omega); obtain ⟨k0, k1, k2⟩ := entry_at HE2.out; clear hB2)
      | (go_at_call 81; refine (Clone_calls _ _ l0 _ (Kd.C_below HR.out HB2.out) HC.out HM.out).mono ?_; rintro e w3 ⟨v1, rfl, hR3, hB3⟩; obtain ⟨g, cap, cur, rfl, hbg, hg, hnc, hcm, hcs, hrp⟩ := own_slice hR3 HNE.out; have HE3 := Lib.hid (below_keeps hB3 HZ2.out HE2.out); have HZ3 := Lib.hid (Nat.lt_of_lt_of_le HZ2.out hB3.size); have HB3 := Lib.hid (below_then HB2.out hB3); have HBG := Lib.hid (Nat.le_trans HB2.out.size hbg); have HG3 := Lib.hid hg; have HNC := Lib.hid hnc; have HCM := Lib.hid hcm; have HCS := Lib.hid hcs; have HRP := Lib.hid hrp; have HLI := Lib.hid (reps_in (cap := cap) hrp HPL.out); obtain ⟨k0, k1, k2⟩ := entry_at HE3.out; have hpl := HPL.out; clear hR3 hB3 hbg hg hnc hcm hcs hrp))
    go_region_with (first
        | (go_at_call 54; refine (rows_calls _).mono ?_; rintro e w4 ⟨rfl, hB4⟩; have HE4 := Lib.hid (below_keeps hB4 (g := b) HZ3.out HE3.out); have HG4 := Lib.hid (below_keeps hB4 (g := g) (blk_lt HG3.out) HG3.out); have HB4 := Lib.hid (below_then (below_drew HB3.out) hB4); obtain ⟨k0, k1, k2⟩ := entry_at HE4.out; clear hB4)
        | (go_at_call 96; (with_reducible refine (deed_is (deed6_calls _ g (p * 7) cur x n ?hg (by rw [HX.out]; exact HLI.out) HSM.out HN.out) HV.out).mono ?_); (case hg => exact HG4.out); rintro e w5 ⟨rfl, hok, hbut⟩; have HOK := Lib.hid hok; have HB5 := Lib.hid (hbut.below HB4.out HBG.out HB4.out.size); clear hok hbut))
    all_goals
        by_cases hv0 : v = 0
        · have d1 : (v != 0) = false := bne_eq_false_iff_eq.mpr hv0
          have HV0 := Lib.hid hv0
          clear hv0
          go_wp2
          go_ret2
          exact done_set (doneS_ok (by decide) HH.out HP.out HX.out HV.out HV0.out) HPL.out HBG.out (HOK.out HV0.out) HNC.out HCM.out HCS.out HRP.out HB5.out
        · have d1 : (v != 0) = true := bne_iff_ne.mpr hv0
          have HV0 := Lib.hid hv0
          clear hv0
          go_wp2
          go_ret2
          exact done_err (doneS_err (by decide) HH.out HP.out HX.out HV.out HV0.out) HB5.out
end Go.Proofs.YtdgipencedlbmaaGreatDoor.Pr
