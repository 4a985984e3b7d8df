/- The reference's Usable answers as usableS says. RegisterRuns returns true. What a row's reading gives the walks: entries, strings and numbers among the arguments. -/
import Derived.Test.YtdgipencedlbmaaGreatDoorD16
import Derived.Test.YtdgipencedlbmaaGreatDoorT22
import Derived.Test.YtdgipencedlbmaaGreatDoorT20
import Derived.Test.YtdgipencedlbmaaGreatDoorT21
import Derived.Test.YtdgipencedlbmaaGreatDoorD14
namespace Go.Proofs.YtdgipencedlbmaaGreatDoor.Pr
set_option linter.unusedVariables false
set_option linter.unusedSimpArgs false
open Go.RowKit Go.Proofs.YtdgipencedlbmaaGreatDoorW.PrintWords Go.Proofs.YtdgipencedlbmaaGreatDoorW.PrintLast Go.Proofs.YtdgipencedlbmaaGreatDoorW.PrintMore Go.Proofs.YtdgipencedlbmaaGreatDoor.Hand

theorem rshare_calls (x : S57) (hs : SmallLot x) (h1 : 1 ≤ x.f1) (w : World) :
    Calls Tryz.prog 58 #[.int .i64 (x.f2 + x.f4), .int .i64 x.f1] w fun e w' => e = .returned (.string (bytesA (shareS x))) ∧ Below w.heap.size w w' := by
  have h2 := hs.s2
  have h4 := hs.s4
  have h1' := hs.s1
  have := rover_calls (x.f2 + x.f4).toNat x.f1.toNat (by omega) (by omega) (by omega) w
  rwa [Int.toNat_of_nonneg (by omega), Int.toNat_of_nonneg (by omega)] at this
theorem rshare_w (x : S57) (hs : SmallLot x) (h1 : 1 ≤ x.f1) (w : World) :
    Calls Tryz.prog 58 #[.int .i64 (IntKind.i64.wrap (x.f2 + x.f4)), .int .i64 x.f1] w.drew fun e w' => e = .returned (.string (bytesA (shareS x))) ∧ Below w.heap.size w w' := by
  have h2 := hs.s2
  have h4 := hs.s4
  have e : IntKind.i64.wrap (x.f2 + x.f4) = x.f2 + x.f4 := by
    rw [IntKind.wrap_i64]
    omega
  rw [e]
  exact (rshare_calls x hs h1 w.drew).mono fun _ _ h => ⟨h.1, h.2.os, h.2.tape, h.2.output, h.2.size, h.2.block⟩
set_option maxHeartbeats 2000000 in
set_option maxRecDepth 100000 in
theorem rUsable_calls (A0 : Option Addr) (c0 : Nat) (l0 : List S57) (s : ByteArray) (w : World) (hr0 : Kd.C k57 w A0 l0.length l0) (hc0 : l0.length ≤ c0) (u : ByteArray × Int) (hu : usableS l0 s = u) :
    Calls Tryz.prog 28 #[.slice A0 l0.length c0, .string s] w fun e w' => e = .returned (.tuple #[.string u.1, .int .i64 u.2]) ∧ Below w.heap.size w w' := by
  have HR := Lib.hid hr0
  have HC := Lib.hid hc0
  obtain ⟨c, hc⟩ : ∃ c, checkS l0 = c := ⟨_, rfl⟩
  obtain ⟨m, hm⟩ : ∃ m, nameErr s = m := ⟨_, rfl⟩
  obtain ⟨h, hh⟩ : ∃ h, hasS l0 s = h := ⟨_, rfl⟩
  unfold usableS at hu
  rw [hc, hm, hh] at hu
  have HCK := Lib.hid hc
  have HNM := Lib.hid hm
  have HHS := Lib.hid hh
  clear hr0 hc0 hc hm hh
  by_cases c0z : c = 0
  · rw [if_neg (by simpa using c0z)] at hu
    have e1 : (c != 0) = false := bne_eq_false_iff_eq.mpr c0z
    have HCZ := Lib.hid c0z
    clear c0z
    by_cases m0z : m = 0
    · rw [if_neg (by simpa using m0z)] at hu
      have e2 : (m != 0) = false := bne_eq_false_iff_eq.mpr m0z
      clear m0z
      cases h with
      | false =>
        rw [if_pos rfl] at hu
        subst hu
        have HP := Lib.hid (show (if hasS l0 s = true then ((lbS l0 s : Nat) : Int) else -1) = -1 by rw [HHS.out]; rfl)
        go_enter Tryz.func28, Tryz.ntmps28
        go_wp2_with (first
          | (go_at_call 19; (with_reducible refine (rCheck_is A0 c0 l0 c HCK.out w HR.out HC.out).mono ?_); rintro e w2 ⟨rfl, hB2⟩; have HB2 := Lib.hid hB2; clear hB2)
          | (go_at_call 39; (with_reducible refine (rName_is s m HNM.out w2).mono ?_); rintro e w3 ⟨rfl, hB3⟩; have HB3 := Lib.hid (below_then HB2.out hB3); clear hB3)
          | (go_at_call 57; (with_reducible refine (rPlace_calls A0 c0 l0 s (-1) w3 (Kd.C_below HR.out HB3.out) HC.out (checkS_zero (HCK.out.trans HCZ.out)).len (checkS_zero (HCK.out.trans HCZ.out)).sorted HP.out).mono ?_); rintro e w4 ⟨rfl, hB4⟩; have HB4 := Lib.hid (below_then HB3.out hB4); clear hB4))
        go_ret2
        exact ⟨rfl, HB4.out⟩
      | true =>
        rw [if_neg (by simp)] at hu
        subst hu
        obtain ⟨p, hp⟩ : ∃ p, lbS l0 s = p := ⟨_, rfl⟩
        have HPL := Lib.hid (lt_of_has HHS.out hp)
        have HP := Lib.hid (show (if hasS l0 s = true then ((lbS l0 s : Nat) : Int) else -1) = (p : Int) by rw [HHS.out, hp]; rfl)
        rw [hp]
        obtain ⟨x, hx⟩ : ∃ x, x = l0.getD p z57 := ⟨_, rfl⟩
        rw [← hx]
        have hlots := (checkS_zero (HCK.out.trans HCZ.out)).lots x (by rw [hx, List.getD, List.getElem?_eq_getElem HPL.out]; exact List.getElem_mem _)
        have HSM := Lib.hid (fits_small hlots.2)
        have HF1 := Lib.hid (fits_zero hlots.2).1.1
        have HX := Lib.hid hx
        have hlt := HPL.out
        obtain ⟨⟨a1, b1⟩, ⟨a2, b2⟩, _, ⟨a4, b4⟩, _⟩ := HSM.out
        clear hp hx hlots
        go_enter Tryz.func28, Tryz.ntmps28
        go_wp2_with (first
          | (go_at_call 19; (with_reducible refine (rCheck_is A0 c0 l0 c HCK.out w HR.out HC.out).mono ?_); rintro e w2 ⟨rfl, hB2⟩; have HB2 := Lib.hid hB2; clear hB2)
          | (go_at_call 39; (with_reducible refine (rName_is s m HNM.out w2).mono ?_); rintro e w3 ⟨rfl, hB3⟩; have HB3 := Lib.hid (below_then HB2.out hB3); clear hB3)
          | (go_at_call 57; (with_reducible refine (rPlace_calls A0 c0 l0 s p w3 (Kd.C_below HR.out HB3.out) HC.out (checkS_zero (HCK.out.trans HCZ.out)).len (checkS_zero (HCK.out.trans HCZ.out)).sorted HP.out).mono ?_); rintro e w4 ⟨rfl, hB4⟩; have HB4 := Lib.hid (below_then HB3.out hB4); clear hB4))
        obtain ⟨ad, rfl, hl, _⟩ := LotA.of_row HR.out HB4.out p HPL.out
        rw [← HX.out] at hl
        obtain ⟨q0, q1, q2, q3, q4, q5, q6⟩ := hl
        go_region_with (first
          | (go_at_call 58; (with_reducible refine (rshare_w x HSM.out HF1.out _).mono ?_); rintro e w5 ⟨rfl, hB5⟩; have HB5 := Lib.hid (below_then HB4.out hB5); clear hB5))
        all_goals
          go_wp2
          go_ret2
          exact ⟨rfl, by first | exact HB5.out | exact pw_below_drewN HB5.out _ | exact below_drew HB5.out⟩
    · rw [if_pos m0z] at hu
      subst hu
      have e2 : (m != 0) = true := bne_iff_ne.mpr m0z
      clear m0z
      go_enter Tryz.func28, Tryz.ntmps28
      go_wp2_with (first
        | (go_at_call 19; (with_reducible refine (rCheck_is A0 c0 l0 c HCK.out w HR.out HC.out).mono ?_); rintro e w2 ⟨rfl, hB2⟩; have HB2 := Lib.hid hB2; clear hB2)
        | (go_at_call 39; (with_reducible refine (rName_is s m HNM.out w2).mono ?_); rintro e w3 ⟨rfl, hB3⟩; have HB3 := Lib.hid (below_then HB2.out hB3); clear hB3))
      go_ret2
      exact ⟨rfl, HB3.out⟩
  · rw [if_pos c0z] at hu
    subst hu
    have e1 : (c != 0) = true := bne_iff_ne.mpr c0z
    clear c0z
    go_enter Tryz.func28, Tryz.ntmps28
    go_wp2_with (go_at_call 19; (with_reducible refine (rCheck_is A0 c0 l0 c HCK.out w HR.out HC.out).mono ?_); rintro e w2 ⟨rfl, hB2⟩; have HB2 := Lib.hid hB2; clear hB2)
    go_ret2
    exact ⟨rfl, HB2.out⟩
end Go.Proofs.YtdgipencedlbmaaGreatDoor.Pr
namespace Go.Proofs.YtdgipencedlbmaaGreatDoor.Pr
set_option linter.unusedVariables false
set_option linter.unusedSimpArgs false
open Go.RowKit Go.Proofs.YtdgipencedlbmaaGreatDoorW.PrintWords Go.Proofs.YtdgipencedlbmaaGreatDoorW.PrintLast Go.Proofs.YtdgipencedlbmaaGreatDoorW.PrintMore Go.Proofs.YtdgipencedlbmaaGreatDoor.Hand

theorem all_check : ∀ {l : List S24} {o : List S57} {i : Nat}, checkS o = 0 → checkS (allFrom o i l).1 = 0
  | [], o, i, h => h
  | x :: l, o, i, h => by
    unfold allFrom
    split
    · rfl
    · split
      · rfl
      · rename_i h1 h2
        exact all_check (done_check h (by simpa using h1) (by simpa using h2))
theorem allS_len (l : List S24) : (allS l).1.length ≤ 256 := by
  unfold allS
  split
  · simp
  · exact (checkS_zero (all_check (o := []) rfl)).len
set_option maxHeartbeats 1000000 in
set_option maxRecDepth 100000 in
theorem Runs_calls (A0 : Option Addr) (c0 : Nat) (l : List S24) (A1 : Option Addr) (c1 : Nat) (x : List S57) (name : ByteArray) (w : World) (hG : GOOD w) (hr0 : Kd.C k24 w A0 l.length l) (hc0 : l.length ≤ c0) (hl : l.length < 4398046511104)
    (hr1 : Kd.C k57 w A1 x.length x) (hc1 : x.length ≤ c1) (hx : x.length < 2199023255552) (_hs : name.size ≤ 140737488351232) :
    Calls Tryz.prog 4 #[.slice A0 l.length c0, .slice A1 x.length c1, .string name] w fun e w' => e = .returned (.bool true) ∧ Below w.heap.size w w' := by
  have HR := Lib.hid hr0
  have HC := Lib.hid hc0
  have HL42 := Lib.hid hl
  have HL63 := Lib.hid (show l.length < 9223372036854775807 by omega)
  have HX := Lib.hid hr1
  have HXC := Lib.hid hc1
  have HX41 := Lib.hid hx
  have HX63 := Lib.hid (show x.length < 9223372036854775807 by omega)
  obtain ⟨fe, hfe⟩ : ∃ fe, fewE l = fe := ⟨_, rfl⟩
  obtain ⟨fl, hfl⟩ : ∃ fl, fewS x = fl := ⟨_, rfl⟩
  have HFE := Lib.hid hfe
  have HFL := Lib.hid hfl
  have hcases : fe = false ∨ (fe = true ∧ fl = false) ∨ (fe = true ∧ fl = true ∧ decide (60 < (name.size : Int)) = true) ∨ (fe = true ∧ fl = true ∧ decide (60 < (name.size : Int)) = false) := by
    cases fe <;> cases fl <;> cases decide (60 < (name.size : Int)) <;> simp
  clear hr0 hc0 hl hr1 hc1 hx hfe hfl
  rcases hcases with rfl | ⟨rfl, rfl⟩ | ⟨rfl, rfl, e1⟩ | ⟨rfl, rfl, e1⟩
  · go_enter Tryz.func4, Tryz.ntmps4
    go_wp2_with (first
      | (go_at_call 24; (with_reducible refine (entries_calls A0 c0 l w HR.out HC.out HL42.out).mono ?_); rintro e w2 ⟨A2, c2, rfl, hc2, hC2, hB2⟩; have HB2 := Lib.hid hB2; have HC2 := Lib.hid hC2; have HK2 := Lib.hid hc2; clear hC2 hB2)
      | (go_at_call 23; (with_reducible refine (fewE_calls A2 c2 l _ HFE.out w2 HC2.out HK2.out HL63.out).mono ?_); rintro e w3 ⟨rfl, hB3⟩; have HB3 := Lib.hid (below_then HB2.out hB3); clear hB3)
      | (go_at_call 15; (with_reducible refine (awake_calls w3 (hG.below HB3.out)).mono ?_); rintro e w4 ⟨rfl, hB4⟩; have HB4 := Lib.hid (below_then HB3.out hB4); clear hB4))
    go_ret
    exact ⟨rfl, HB4.out⟩
  · go_enter Tryz.func4, Tryz.ntmps4
    go_wp2_with (first
      | (go_at_call 24; (with_reducible refine (entries_calls A0 c0 l w HR.out HC.out HL42.out).mono ?_); rintro e w2 ⟨A2, c2, rfl, hc2, hC2, hB2⟩; have HB2 := Lib.hid hB2; have HC2 := Lib.hid hC2; have HK2 := Lib.hid hc2; clear hC2 hB2)
      | (go_at_call 23; (with_reducible refine (fewE_calls A2 c2 l _ HFE.out w2 HC2.out HK2.out HL63.out).mono ?_); rintro e w3 ⟨rfl, hB3⟩; have HB3 := Lib.hid (below_then HB2.out hB3); clear hB3)
      | (go_at_call 14; (with_reducible refine (lots_calls A1 c1 x w3 (Kd.C_below HX.out HB3.out) HXC.out HX41.out).mono ?_); rintro e w4 ⟨A4, c4, rfl, hc4, hC4, hB4⟩; have HB4 := Lib.hid (below_then HB3.out hB4); have HC4 := Lib.hid hC4; have HK4 := Lib.hid hc4; clear hC4 hB4)
      | (go_at_call 13; (with_reducible refine (few_calls A4 c4 x _ HFL.out w4 HC4.out HK4.out HX63.out).mono ?_); rintro e w5 ⟨rfl, hB5⟩; have HB5 := Lib.hid (below_then HB4.out hB5); clear hB5)
      | (go_at_call 15; (with_reducible refine (awake_calls w5 (hG.below HB5.out)).mono ?_); rintro e w6 ⟨rfl, hB6⟩; have HB6 := Lib.hid (below_then HB5.out hB6); clear hB6))
    go_ret
    exact ⟨rfl, HB6.out⟩
  · go_enter Tryz.func4, Tryz.ntmps4
    go_wp2_with (first
      | (go_at_call 24; (with_reducible refine (entries_calls A0 c0 l w HR.out HC.out HL42.out).mono ?_); rintro e w2 ⟨A2, c2, rfl, hc2, hC2, hB2⟩; have HB2 := Lib.hid hB2; have HC2 := Lib.hid hC2; have HK2 := Lib.hid hc2; clear hC2 hB2)
      | (go_at_call 23; (with_reducible refine (fewE_calls A2 c2 l _ HFE.out w2 HC2.out HK2.out HL63.out).mono ?_); rintro e w3 ⟨rfl, hB3⟩; have HB3 := Lib.hid (below_then HB2.out hB3); clear hB3)
      | (go_at_call 14; (with_reducible refine (lots_calls A1 c1 x w3 (Kd.C_below HX.out HB3.out) HXC.out HX41.out).mono ?_); rintro e w4 ⟨A4, c4, rfl, hc4, hC4, hB4⟩; have HB4 := Lib.hid (below_then HB3.out hB4); have HC4 := Lib.hid hC4; have HK4 := Lib.hid hc4; clear hC4 hB4)
      | (go_at_call 13; (with_reducible refine (few_calls A4 c4 x _ HFL.out w4 HC4.out HK4.out HX63.out).mono ?_); rintro e w5 ⟨rfl, hB5⟩; have HB5 := Lib.hid (below_then HB4.out hB5); clear hB5)
      | (go_at_call 15; (with_reducible refine (awake_calls w5 (hG.below HB5.out)).mono ?_); rintro e w6 ⟨rfl, hB6⟩; have HB6 := Lib.hid (below_then HB5.out hB6); clear hB6))
    go_ret
    exact ⟨rfl, HB6.out⟩
  · obtain ⟨u, hu⟩ : ∃ u, allS l = u := ⟨_, rfl⟩
    obtain ⟨t, ht⟩ : ∃ t, usableS x name = t := ⟨_, rfl⟩
    have HU := Lib.hid hu
    have HT := Lib.hid ht
    have HU41 := Lib.hid (show u.1.length < 2199023255552 by rw [← hu]; have := allS_len l; omega)
    have HU63 := Lib.hid (show u.1.length < 9223372036854775807 by have := HU41.out; omega)
    clear hu ht
    go_enter Tryz.func4, Tryz.ntmps4
    go_wp2_with (first
      | (go_at_call 24; (with_reducible refine (entries_calls A0 c0 l w HR.out HC.out HL42.out).mono ?_); rintro e w2 ⟨A2, c2, rfl, hc2, hC2, hB2⟩; have HB2 := Lib.hid hB2; have HC2 := Lib.hid hC2; have HK2 := Lib.hid hc2; clear hC2 hB2)
      | (go_at_call 23; (with_reducible refine (fewE_calls A2 c2 l _ HFE.out w2 HC2.out HK2.out HL63.out).mono ?_); rintro e w3 ⟨rfl, hB3⟩; have HB3 := Lib.hid (below_then HB2.out hB3); clear hB3)
      | (go_at_call 14; (with_reducible refine (lots_calls A1 c1 x w3 (Kd.C_below HX.out HB3.out) HXC.out HX41.out).mono ?_); rintro e w4 ⟨A4, c4, rfl, hc4, hC4, hB4⟩; have HB4 := Lib.hid (below_then HB3.out hB4); have HC4 := Lib.hid hC4; have HK4 := Lib.hid hc4; clear hC4 hB4)
      | (go_at_call 13; (with_reducible refine (few_calls A4 c4 x _ HFL.out w4 HC4.out HK4.out HX63.out).mono ?_); rintro e w5 ⟨rfl, hB5⟩; have HB5 := Lib.hid (below_then HB4.out hB5); clear hB5)
      | (go_at_call 25; (with_reducible refine (All_calls A0 c0 l w5 (Kd.C_below HR.out HB5.out) HC.out u HU.out).mono ?_); rintro e w6 ⟨v6, rfl, hR6, hB6⟩; have HB6 := Lib.hid (below_then HB5.out hB6); obtain ⟨A6, c6, rfl, hc6, hC6⟩ := Kd.R_reads hR6; have HC6 := Lib.hid hC6; have HK6 := Lib.hid hc6; clear hR6 hC6 hB6)
      | (go_at_call 24; (with_reducible refine (entries_calls A0 c0 l w6 (Kd.C_below HR.out HB6.out) HC.out HL42.out).mono ?_); rintro e w7 ⟨A7, c7, rfl, hc7, hC7, hB7⟩; have HB7 := Lib.hid (below_then HB6.out hB7); have HD7 := Lib.hid (Kd.C_below HC6.out hB7); have HC7 := Lib.hid hC7; have HK7 := Lib.hid hc7; clear hC7 hB7)
      | (go_at_call 26; (with_reducible refine (rAll_calls A7 c7 l w7 HC7.out HK7.out u HU.out).mono ?_); rintro e w8 ⟨v8, rfl, hR8, hB8⟩; have HB8 := Lib.hid (below_then HB7.out hB8); have HD8 := Lib.hid (Kd.C_below HD7.out hB8); obtain ⟨A8, c8, rfl, hc8, hC8⟩ := Kd.R_reads hR8; have HC8 := Lib.hid hC8; have HK8 := Lib.hid hc8; clear hR8 hC8 hB8)
      | (go_at_call 27; (with_reducible refine (Usable_calls A1 c1 x name w8 (hG.below HB8.out) (Kd.C_below HX.out HB8.out) HXC.out t HT.out).mono ?_); rintro e w9 ⟨rfl, hB9⟩; have HB9 := Lib.hid (below_then HB8.out hB9); have HD9 := Lib.hid (Kd.C_below HD8.out hB9); have HE9 := Lib.hid (Kd.C_below HC8.out hB9); clear hB9)
      | (go_at_call 14; (with_reducible refine (lots_calls A1 c1 x w9 (Kd.C_below HX.out HB9.out) HXC.out HX41.out).mono ?_); rintro e w10 ⟨A10, c10, rfl, hc10, hC10, hB10⟩; have HB10 := Lib.hid (below_then HB9.out hB10); have HD10 := Lib.hid (Kd.C_below HD9.out hB10); have HE10 := Lib.hid (Kd.C_below HE9.out hB10); have HC10 := Lib.hid hC10; have HK10 := Lib.hid hc10; clear hC10 hB10)
      | (go_at_call 28; (with_reducible refine (rUsable_calls A10 c10 x name w10 HC10.out HK10.out t HT.out).mono ?_); rintro e w11 ⟨rfl, hB11⟩; have HB11 := Lib.hid (below_then HB10.out hB11); have HD11 := Lib.hid (Kd.C_below HD10.out hB11); have HE11 := Lib.hid (Kd.C_below HE10.out hB11); clear hB11)
      | (go_at_call 15; (with_reducible refine (awake_calls w11 (hG.below HB11.out)).mono ?_); rintro e w12 ⟨rfl, hB12⟩; have HB12 := Lib.hid (below_then HB11.out hB12); have HD12 := Lib.hid (Kd.C_below HD11.out hB12); have HE12 := Lib.hid (Kd.C_below HE11.out hB12); clear hB12)
      | (go_at_call 14; (with_reducible refine (lots_calls A6 c6 u.1 w12 HD12.out HK6.out HU41.out).mono ?_); rintro e w13 ⟨A13, c13, rfl, hc13, hC13, hB13⟩; have HB13 := Lib.hid (below_then HB12.out hB13); have HE13 := Lib.hid (Kd.C_below HE12.out hB13); have HC13 := Lib.hid hC13; have HK13 := Lib.hid hc13; clear hC13 hB13)
      | (go_at_call 22; (with_reducible refine (same_calls A13 A8 c13 c8 u.1 w13 HC13.out HK13.out HE13.out HK8.out HU63.out).mono ?_); rintro e w14 ⟨rfl, hB14⟩; have HB14 := Lib.hid (below_then HB13.out hB14); clear hB14))
    go_ret
    exact ⟨rfl, HB14.out⟩
end Go.Proofs.YtdgipencedlbmaaGreatDoor.Pr
namespace Go.Proofs.YtdgipencedlbmaaGreatDoor.Pr
open Go.ChangeShapes Go.WideShapes Go.RowKit Go.Proofs.YtdgipencedlbmaaGreatDoorW.PrintWords Go.Proofs.YtdgipencedlbmaaGreatDoor.Hand
set_option linter.unusedVariables false
set_option maxRecDepth 100000

section
variable {H : Type} {enc : TypeId × Value → H} {W : World} {base : Nat} {spare : Nat → Bool} {held : Bool}
/-- Entries among the arguments. -/
theorem ents_of {a : Option Addr} {len cap : Nat} {d : DataW H} {ps : List MemPlace} (h : DataW.Trod enc Tryz.prog W base spare held 41 (.slice a len cap) d ps) :
    ∃ l : List S24, l.length = len ∧ len ≤ cap ∧ Kd.C k24 W a len l ∧ (d = .nil ∧ len = 0 ∨ ∃ elems sp, d = .slice elems sp ∧ elems.length = len) := by
  obtain ⟨fuel, hf⟩ := h
  rcases Go.Deep.open_slice Tryz.underlying41 hf with ⟨hcs, hx⟩ | ⟨a', len', cap', m, n, D, Pl, hcs, _, hl, hm, hmm, hx, each⟩
  · simp [Value.cells] at hcs
    obtain ⟨rfl, rfl, rfl⟩ := hcs
    exact ⟨[], rfl, Nat.le_refl _, ⟨rfl, by omega, fun h => by omega⟩, Or.inl ⟨(Prod.mk.inj hx).1, rfl⟩⟩
  · simp [Value.cells] at hcs
    obtain ⟨rfl, rfl, rfl⟩ := hcs
    have hlm : len ≤ m := by rw [hmm]; split <;> omega
    have ex : ∀ i, ∃ y : S24, i < len → ∀ j u, (cellsE y).toList[j]? = some u → W.cell? (a'.add (i * 3 + j)) = some u := by
      intro i
      by_cases hi : i < len
      · obtain ⟨cs', hc, ht⟩ := each i (by omega)
        obtain ⟨y, rfl⟩ := entry_cells ht
        refine ⟨y, fun _ j u hj => ?_⟩
        rw [c24] at hc
        have hj3 : j < 3 := by
          have := (List.getElem?_eq_some_iff.mp hj).1
          exact this
        have := (World.cells?_some hc).2.2 j hj3
        rw [hj, Addr.add_add] at this
        exact this
      · exact ⟨z24, fun h => absurd h hi⟩
    obtain ⟨f, hf'⟩ := Classical.axiomOfChoice ex
    refine ⟨(List.range len).map f, by simp, hl, ⟨by simp, by simp only [maxLen] at hm; omega, fun _ => ⟨a', rfl, fun j p hp => ?_⟩⟩, Or.inr ⟨_, _, (Prod.mk.inj hx).1, by simp⟩⟩
    rw [List.getElem?_map] at hp
    have hj : j < len := by
      rcases Nat.lt_or_ge j len with h1 | h1
      · exact h1
      · rw [List.getElem?_eq_none (by simpa using h1)] at hp; cases hp
    rw [List.getElem?_range hj] at hp
    obtain rfl : f j = p := Option.some.inj hp
    exact ⟨(cellsE (f j)).toList, rfl, k24.K_of_M (k24_mkM W 0 (fun _ => True) (f j)), fun i u hi => hf' j hj i u hi⟩
theorem str_of {s : ByteArray} {d : DataW H} {ps : List MemPlace} (h : DataW.Trod enc Tryz.prog W base spare held 9 (.string s) d ps) : d = .lit (.string s.data.toList) := by
  obtain ⟨fuel, hf⟩ := h
  obtain ⟨s', e, hx, _⟩ := DataW.trod_string Tryz.underlying9 hf
  simp [Value.cells] at e
  subst e
  exact (Prod.mk.inj hx).1
theorem u16_of {n : Int} {d : DataW H} {ps : List MemPlace} (h : DataW.Trod enc Tryz.prog W base spare held 79 (.int .u16 n) d ps) : 0 ≤ n ∧ n < 65536 := by
  obtain ⟨fuel, hf⟩ := h
  obtain ⟨n', e, _, hw⟩ := DataW.trod_int Tryz.underlying79 hf
  simp [Value.cells] at e
  subst e
  simp [Lit.wf] at hw
  have h1 : IntKind.u16.min = 0 := by decide
  have h2 : IntKind.u16.max = 65535 := by decide
  omega
theorem u8_of {n : Int} {d : DataW H} {ps : List MemPlace} (h : DataW.Trod enc Tryz.prog W base spare held 5 (.int .u8 n) d ps) : 0 ≤ n ∧ n < 256 := by
  obtain ⟨fuel, hf⟩ := h
  obtain ⟨n', e, _, hw⟩ := DataW.trod_int Tryz.underlying5 hf
  simp [Value.cells] at e
  subst e
  simp [Lit.wf] at hw
  have h1 : IntKind.u8.min = 0 := by decide
  have h2 : IntKind.u8.max = 255 := by decide
  omega
end
end Go.Proofs.YtdgipencedlbmaaGreatDoor.Pr
