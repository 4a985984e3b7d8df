/- register.Usable answers as usableS says. -/
import Derived.Test.YtdgipencedlbmaaGreatDoorZD13
import Derived.Test.YtdgipencedlbmaaGreatDoorZD15
import Derived.RegionTactic
namespace Go.Proofs.YtdgipencedlbmaaGreatDoor.Pr
set_option linter.unusedVariables false
set_option linter.unusedSimpArgs false
open Go.RowKit Go.Proofs.YtdgipencedlbmaaGreatDoorW.PrintWords Go.Proofs.YtdgipencedlbmaaGreatDoorW.PrintLast Go.Proofs.YtdgipencedlbmaaGreatDoorW.PrintMore Go.Proofs.YtdgipencedlbmaaGreatDoor.Hand
def shareS (x : S57) : List UInt8 := overL (x.f2 + x.f4).toNat x.f1.toNat
def usableS (l : List S57) (s : ByteArray) : ByteArray × Int :=
  if checkS l ≠ 0 then (⟨#[]⟩, checkS l) else if nameErr s ≠ 0 then (⟨#[]⟩, nameErr s) else if hasS l s = false then (⟨#[]⟩, 6) else (bytesA (shareS (l.getD (lbS l s) z57)), 0)
theorem share_calls (x : S57) (hs : SmallLot x) (h1 : 1 ≤ x.f1) (w : World) (hG : GOOD w) :
    Calls Tryz.prog 56 #[.int .i64 (x.f2 + x.f4), .int .i64 x.f1] w fun e w' => e = .returned (.tuple #[.string (bytesA (shareS x)), .int .i64 0]) ∧ Below w.heap.size w w' := by
  have h2 := hs.s2
  have h4 := hs.s4
  have h1' := hs.s1
  have := Of_calls (x.f2 + x.f4).toNat x.f1.toNat w hG (by omega) (by omega) (by omega)
  rwa [Int.toNat_of_nonneg (by omega), Int.toNat_of_nonneg (by omega)] at this
theorem share_w (x : S57) (hs : SmallLot x) (h1 : 1 ≤ x.f1) (w : World) (hG : GOOD w) :
    Calls Tryz.prog 56 #[.int .i64 (IntKind.i64.wrap (x.f2 + x.f4)), .int .i64 x.f1] w.drew fun e w' => e = .returned (.tuple #[.string (bytesA (shareS x)), .int .i64 0]) ∧ Below w.heap.size w w' := by
  have h2 := hs.s2
  have h4 := hs.s4
  have e : IntKind.i64.wrap (x.f2 + x.f4) = x.f2 + x.f4 := by
    rw [IntKind.wrap_i64]
    omega
  rw [e]
  exact (share_calls x hs h1 w.drew hG.drew).mono fun _ _ h => ⟨h.1, h.2.os, h.2.tape, h.2.output, h.2.size, h.2.block⟩
set_option maxHeartbeats 2000000 in
set_option maxRecDepth 100000 in
theorem Usable_calls (A0 : Option Addr) (c0 : Nat) (l0 : List S57) (s : ByteArray) (w : World) (hG : GOOD w) (hr0 : Kd.C k57 w A0 l0.length l0) (hc0 : l0.length ≤ c0) (u : ByteArray × Int) (hu : usableS l0 s = u) :
    Calls Tryz.prog 27 #[.slice A0 l0.length c0, .string s] w fun e w' => e = .returned (.tuple #[.string u.1, .int .i64 u.2]) ∧ Below w.heap.size w w' := by
  have HR := Lib.hid hr0
  have HC := Lib.hid hc0
  obtain ⟨c, hc⟩ : ∃ c, checkS l0 = c := ⟨_, rfl⟩
  obtain ⟨m, hm⟩ : ∃ m, nameErr s = m := ⟨_, rfl⟩
  obtain ⟨h, hh⟩ : ∃ h, hasS l0 s = h := ⟨_, rfl⟩
  unfold usableS at hu
  rw [hc, hm, hh] at hu
  have HCK := Lib.hid hc
  have HNM := Lib.hid hm
  have HHS := Lib.hid hh
  clear hr0 hc0 hc hm hh
  by_cases c0z : c = 0
  · rw [if_neg (by simpa using c0z)] at hu
    have e1 : (c != 0) = false := bne_eq_false_iff_eq.mpr c0z
    have HCZ := Lib.hid c0z
    clear c0z
    by_cases m0z : m = 0
    · rw [if_neg (by simpa using m0z)] at hu
      have e2 : (m != 0) = false := bne_eq_false_iff_eq.mpr m0z
      clear m0z
      cases h with
      | false =>
        rw [if_pos rfl] at hu
        subst hu
        go_enter Tryz.func27, Tryz.ntmps27
        go_wp2_with (first
          | (go_at_call 18; refine (Check_is _ _ l0 c HCK.out _ HR.out HC.out).mono ?_; rintro e w2 ⟨rfl, hB2⟩; have HB := Lib.hid hB2; clear hB2)
          | (go_at_call 51; refine (Name_is s m HNM.out _).mono ?_; rintro e w3 ⟨rfl, hB3⟩; have HB := Lib.hid (below_then HB.out hB3); clear hB3)
          | (go_at_call 55; refine (find_calls _ _ l0 s _ (Kd.C_below HR.out HB.out) HC.out (checkS_zero (HCK.out.trans HCZ.out)).len (checkS_zero (HCK.out.trans HCZ.out)).sorted).mono ?_; rw [HHS.out]; rintro e w4 ⟨rfl, hB4⟩; have HB := Lib.hid (below_then HB.out hB4); clear hB4))
        go_ret2
        exact ⟨rfl, HB.out⟩
      | true =>
        rw [if_neg (by simp)] at hu
        subst hu
        obtain ⟨p, hp⟩ : ∃ p, lbS l0 s = p := ⟨_, rfl⟩
        have HP := Lib.hid hp
        have HPL := Lib.hid (lt_of_has HHS.out hp)
        rw [hp]
        obtain ⟨x, hx⟩ : ∃ x, x = l0.getD p z57 := ⟨_, rfl⟩
        rw [← hx]
        have hlots := (checkS_zero (HCK.out.trans HCZ.out)).lots x (by rw [hx, List.getD, List.getElem?_eq_getElem HPL.out]; exact List.getElem_mem _)
        have HSM := Lib.hid (fits_small hlots.2)
        have HF1 := Lib.hid (fits_zero hlots.2).1.1
        have HX := Lib.hid hx
        have hlt := HPL.out
        obtain ⟨⟨a1, b1⟩, ⟨a2, b2⟩, _, ⟨a4, b4⟩, _⟩ := HSM.out
        clear hp hx hlots
        go_enter Tryz.func27, Tryz.ntmps27
        go_wp2_with (first
          | (go_at_call 18; refine (Check_is _ _ l0 c HCK.out _ HR.out HC.out).mono ?_; rintro e w2 ⟨rfl, hB2⟩; have HB := Lib.hid hB2; clear hB2)
          | (go_at_call 51; refine (Name_is s m HNM.out _).mono ?_; rintro e w3 ⟨rfl, hB3⟩; have HB := Lib.hid (below_then HB.out hB3); clear hB3)
          | (go_at_call 55; refine (find_calls _ _ l0 s _ (Kd.C_below HR.out HB.out) HC.out (checkS_zero (HCK.out.trans HCZ.out)).len (checkS_zero (HCK.out.trans HCZ.out)).sorted).mono ?_; rw [HHS.out, HP.out]; rintro e w4 ⟨rfl, hB4⟩; have HB := Lib.hid (below_then HB.out hB4); clear hB4))
        obtain ⟨ad, rfl, hl, _⟩ := LotA.of_row HR.out HB.out p HPL.out
        rw [← HX.out] at hl
        obtain ⟨q0, q1, q2, q3, q4, q5, q6⟩ := hl
        have HGW := Lib.hid (hG.below HB.out)
        go_region_with (first
          | (go_at_call 56; (with_reducible refine (share_w x HSM.out HF1.out _ HGW.out).mono ?_); rintro e w5 ⟨rfl, hB5⟩; have HB5 := Lib.hid (below_then HB.out hB5); clear hB5))
        all_goals
          go_wp2
          go_ret2
          exact ⟨rfl, by first | exact HB5.out | exact pw_below_drewN HB5.out _ | exact below_drew HB5.out⟩
    · rw [if_pos m0z] at hu
      subst hu
      have e2 : (m != 0) = true := bne_iff_ne.mpr m0z
      clear m0z
      go_enter Tryz.func27, Tryz.ntmps27
      go_wp2_with (first
        | (go_at_call 18; refine (Check_is _ _ l0 c HCK.out _ HR.out HC.out).mono ?_; rintro e w2 ⟨rfl, hB2⟩; have HB := Lib.hid hB2; clear hB2)
        | (go_at_call 51; refine (Name_is s m HNM.out _).mono ?_; rintro e w3 ⟨rfl, hB3⟩; have HB := Lib.hid (below_then HB.out hB3); clear hB3))
      go_ret2
      exact ⟨rfl, HB.out⟩
  · rw [if_pos c0z] at hu
    subst hu
    have e1 : (c != 0) = true := bne_iff_ne.mpr c0z
    clear c0z
    go_enter Tryz.func27, Tryz.ntmps27
    go_wp2_with (go_at_call 18; refine (Check_is _ _ l0 c HCK.out _ HR.out HC.out).mono ?_; rintro e w2 ⟨rfl, hB2⟩; have HB := Lib.hid hB2; clear hB2)
    go_ret2
    exact ⟨rfl, HB.out⟩
end Go.Proofs.YtdgipencedlbmaaGreatDoor.Pr
