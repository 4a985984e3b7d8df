/- What a row's reading gives the walks: entries, strings and numbers among the arguments. RegisterTears returns true. -/
import Derived.Test.YtdgipencedlbmaaGreatDoorZD14
import Derived.Test.YtdgipencedlbmaaGreatDoorZT20
import Derived.Test.YtdgipencedlbmaaGreatDoorZO28
namespace Go.Proofs.YtdgipencedlbmaaGreatDoor.Pr
open Go.ChangeShapes Go.WideShapes Go.RowKit Go.Proofs.YtdgipencedlbmaaGreatDoorW.PrintWords Go.Proofs.YtdgipencedlbmaaGreatDoor.Hand
set_option linter.unusedVariables false
set_option maxRecDepth 100000
section
variable {H : Type} {enc : TypeId × Value → H} {W : World} {base : Nat} {spare : Nat → Bool} {held : Bool}
theorem ents_of {a : Option Addr} {len cap : Nat} {d : DataW H} {ps : List MemPlace} (h : DataW.Trod enc Tryz.prog W base spare held 41 (.slice a len cap) d ps) :
    ∃ l : List S24, l.length = len ∧ len ≤ cap ∧ Kd.C k24 W a len l ∧ (d = .nil ∧ len = 0 ∨ ∃ elems sp, d = .slice elems sp ∧ elems.length = len) := by
  obtain ⟨fuel, hf⟩ := h
  rcases Go.Deep.open_slice Tryz.underlying41 hf with ⟨hcs, hx⟩ | ⟨a', len', cap', m, n, D, Pl, hcs, _, hl, hm, hmm, hx, each⟩
  · simp [Value.cells] at hcs
    obtain ⟨rfl, rfl, rfl⟩ := hcs
    exact ⟨[], rfl, Nat.le_refl _, ⟨rfl, by omega, fun h => by omega⟩, Or.inl ⟨(Prod.mk.inj hx).1, rfl⟩⟩
  · simp [Value.cells] at hcs
    obtain ⟨rfl, rfl, rfl⟩ := hcs
    have hlm : len ≤ m := by rw [hmm]; split <;> omega
    have ex : ∀ i, ∃ y : S24, i < len → ∀ j u, (cellsE y).toList[j]? = some u → W.cell? (a'.add (i * 3 + j)) = some u := by
      intro i
      by_cases hi : i < len
      · obtain ⟨cs', hc, ht⟩ := each i (by omega)
        obtain ⟨y, rfl⟩ := entry_cells ht
        refine ⟨y, fun _ j u hj => ?_⟩
        rw [c24] at hc
        have hj3 : j < 3 := by
          have := (List.getElem?_eq_some_iff.mp hj).1
          exact this
        have := (World.cells?_some hc).2.2 j hj3
        rw [hj, Addr.add_add] at this
        exact this
      · exact ⟨z24, fun h => absurd h hi⟩
    obtain ⟨f, hf'⟩ := Classical.axiomOfChoice ex
    refine ⟨(List.range len).map f, by simp, hl, ⟨by simp, by simp only [maxLen] at hm; omega, fun _ => ⟨a', rfl, fun j p hp => ?_⟩⟩, Or.inr ⟨_, _, (Prod.mk.inj hx).1, by simp⟩⟩
    rw [List.getElem?_map] at hp
    have hj : j < len := by
      rcases Nat.lt_or_ge j len with h1 | h1
      · exact h1
      · rw [List.getElem?_eq_none (by simpa using h1)] at hp; cases hp
    rw [List.getElem?_range hj] at hp
    obtain rfl : f j = p := Option.some.inj hp
    exact ⟨(cellsE (f j)).toList, rfl, k24.K_of_M (k24_mkM W 0 (fun _ => True) (f j)), fun i u hi => hf' j hj i u hi⟩
theorem u16_of {n : Int} {d : DataW H} {ps : List MemPlace} (h : DataW.Trod enc Tryz.prog W base spare held 79 (.int .u16 n) d ps) : 0 ≤ n ∧ n < 65536 := by
  obtain ⟨fuel, hf⟩ := h
  obtain ⟨n', e, _, hw⟩ := DataW.trod_int Tryz.underlying79 hf
  simp [Value.cells] at e
  subst e
  simp [Lit.wf] at hw
  have h1 : IntKind.u16.min = 0 := by decide
  have h2 : IntKind.u16.max = 65535 := by decide
  omega
theorem u8_of {n : Int} {d : DataW H} {ps : List MemPlace} (h : DataW.Trod enc Tryz.prog W base spare held 5 (.int .u8 n) d ps) : 0 ≤ n ∧ n < 256 := by
  obtain ⟨fuel, hf⟩ := h
  obtain ⟨n', e, _, hw⟩ := DataW.trod_int Tryz.underlying5 hf
  simp [Value.cells] at e
  subst e
  simp [Lit.wf] at hw
  have h1 : IntKind.u8.min = 0 := by decide
  have h2 : IntKind.u8.max = 255 := by decide
  omega
end
end Go.Proofs.YtdgipencedlbmaaGreatDoor.Pr
namespace Go.Proofs.YtdgipencedlbmaaGreatDoor.Pr
set_option linter.unusedVariables false
set_option linter.unusedSimpArgs false
open Go.RowKit Go.Proofs.YtdgipencedlbmaaGreatDoorW.PrintWords Go.Proofs.YtdgipencedlbmaaGreatDoorW.PrintLast Go.Proofs.YtdgipencedlbmaaGreatDoorW.PrintMore Go.Proofs.YtdgipencedlbmaaGreatDoor.Hand
theorem all_len {l : List S24} {o : List S57} (h : allS l = (o, 0, 0)) : o.length ≤ 256 := by
  have : ∀ (l : List S24) (o u : List S57), checkS o = 0 → runS o l = some u → checkS u = 0 := by
    intro l
    induction l with
    | nil => intro o u hc hr; unfold runS at hr; cases hr; exact hc
    | cons x l ih =>
      intro o u hc hr
      unfold runS at hr
      by_cases h1 : rightE x = 0 ∧ (doneS o x.f0 x.f1 x.f2).2 = 0
      · rw [if_pos h1] at hr
        exact ih _ _ (done_check hc h1.1 h1.2) hr
      · rw [if_neg h1] at hr; cases hr
  obtain ⟨_, o', hr, he⟩ := allS_ok (l := l) (by rw [h])
  rw [h] at he
  cases he
  exact (checkS_zero (this l [] _ rfl hr)).len
set_option maxHeartbeats 4000000 in
set_option maxRecDepth 100000 in
theorem Tears_calls (A0 : Option Addr) (c0 : Nat) (l : List S24) (n : Int) (w : World) (hG : GOOD w) (hr0 : Kd.C k24 w A0 l.length l) (hc0 : l.length ≤ c0) (hl : l.length < 4398046511104) (hn : 0 ≤ n ∧ n < 65536) :
    Calls Tryz.prog 11 #[.slice A0 l.length c0, .int .u16 n] w fun e w' => e = .returned (.bool true) ∧ Below w.heap.size w w' := by
  have HR := Lib.hid hr0
  have HC := Lib.hid hc0
  have HL42 := Lib.hid hl
  have HL63 := Lib.hid (show l.length < 9223372036854775807 by omega)
  obtain ⟨fe, hfe⟩ : ∃ fe, fewE l = fe := ⟨_, rfl⟩
  have HFE := Lib.hid hfe
  clear hr0 hl hfe
  by_cases h20 : 20 < l.length
  · have e1 : decide (20 < (l.length : Int)) = true := decide_eq_true (by omega)
    have e1' : decide (20 < l.length) = true := decide_eq_true h20
    clear h20
    go_enter Tryz.func11, Tryz.ntmps11
    go_wp2_with (first
      | (go_at_call 15; (with_reducible refine (awake_calls w hG).mono ?_); rintro e w4 ⟨rfl, hB4⟩; have HB4 := Lib.hid hB4; clear hB4))
    go_ret
    exact ⟨rfl, HB4.out⟩
  · have e1 : decide (20 < (l.length : Int)) = false := decide_eq_false (by omega)
    have e1' : decide (20 < l.length) = false := decide_eq_false h20
    cases fe with
    | false =>
      clear h20
      go_enter Tryz.func11, Tryz.ntmps11
      go_wp2_with (first
        | (go_at_call 24; (with_reducible refine (entries_calls A0 c0 l w HR.out HC.out HL42.out).mono ?_); rintro e w2 ⟨A2, c2, rfl, hc2, hC2, hB2⟩; have HB2 := Lib.hid hB2; have HC2 := Lib.hid hC2; have HK2 := Lib.hid hc2; clear hC2 hB2)
        | (go_at_call 23; (with_reducible refine (fewE_calls A2 c2 l _ HFE.out w2 HC2.out HK2.out HL63.out).mono ?_); rintro e w3 ⟨rfl, hB3⟩; have HB3 := Lib.hid (below_then HB2.out hB3); clear hB3)
        | (go_at_call 15; (with_reducible refine (awake_calls w3 (hG.below HB3.out)).mono ?_); rintro e w4 ⟨rfl, hB4⟩; have HB4 := Lib.hid (below_then HB3.out hB4); clear hB4))
      go_ret
      exact ⟨rfl, HB4.out⟩
    | true =>
      by_cases hj : (allS l).2.2 = 0
      rotate_left
      · obtain ⟨u, hu⟩ : ∃ u, journalS l = u := ⟨_, rfl⟩
        have hu2 : u.2 ≠ 0 := by rw [← hu]; unfold journalS; rw [if_pos hj]; exact hj
        have e2 : (u.2 != 0) = true := bne_iff_ne.mpr hu2
        have HU := Lib.hid hu
        clear h20 hj hu hu2
        go_enter Tryz.func11, Tryz.ntmps11
        go_wp2_with (first
          | (go_at_call 24; (with_reducible refine (entries_calls A0 c0 l w HR.out HC.out HL42.out).mono ?_); rintro e w2 ⟨A2, c2, rfl, hc2, hC2, hB2⟩; have HB2 := Lib.hid hB2; have HC2 := Lib.hid hC2; have HK2 := Lib.hid hc2; clear hC2 hB2)
          | (go_at_call 23; (with_reducible refine (fewE_calls A2 c2 l _ HFE.out w2 HC2.out HK2.out HL63.out).mono ?_); rintro e w3 ⟨rfl, hB3⟩; have HB3 := Lib.hid (below_then HB2.out hB3); clear hB3)
          | (go_at_call 31; (with_reducible refine (Journal_calls A0 c0 l w3 (hG.below HB3.out) (Kd.C_below HR.out HB3.out) HC.out _ HU.out).mono ?_); rintro e w4 ⟨rfl, hB4⟩; have HB4 := Lib.hid (below_then HB3.out hB4); clear hB4)
          | (go_at_call 15; (with_reducible refine (awake_calls w4 (hG.below HB4.out)).mono ?_); rintro e w5 ⟨rfl, hB5⟩; have HB5 := Lib.hid (below_then HB4.out hB5); clear hB5))
        go_ret
        exact ⟨rfl, HB5.out⟩
      · have hlen := journal_len hj
        obtain ⟨_, o, hrun, hall⟩ := allS_ok hj
        obtain ⟨z, hz⟩ : ∃ z, bytesA (linesL 1 l) = z := ⟨_, rfl⟩
        rw [hz] at hlen
        have HU := Lib.hid (show journalS l = (z, 0) by rw [journal_run hrun (by omega), hz])
        have HAL := Lib.hid hall
        obtain ⟨hlz, hrz⟩ := full_facts hrun (by omega) hz hlen
        have HLZ := Lib.hid hlz
        have HRZ := Lib.hid hrz
        have HZ := Lib.hid (show z.size ≤ 1048576 by omega)
        have ho := all_len hall
        have HO41 := Lib.hid (show o.length < 2199023255552 by omega)
        have HO63 := Lib.hid (show o.length < 9223372036854775807 by omega)
        obtain ⟨p, hp⟩ : ∃ p : Nat, n % ((z.size : Int) + 1) = p := ⟨(n % ((z.size : Int) + 1)).toNat, by have := Int.emod_nonneg n (b := (z.size : Int) + 1) (by omega); omega⟩
        have hpz : p ≤ z.size := by have := Int.emod_lt_of_pos n (b := (z.size : Int) + 1) (by omega); omega
        have ht2 : Int.tmod n ((z.size : Int) + 1) = p := by rw [Int.tmod_eq_emod_of_nonneg hn.1]; exact hp
        obtain ⟨k, rp, v, e, hk, hjt, hlt, hrt, hct, hrs, hli, hex, hee⟩ := torn_facts hrun (by omega) hz hlen hpz
        obtain ⟨t, ht⟩ : ∃ t, z.extract 0 p = t := ⟨_, rfl⟩
        rw [ht] at hlt hrt hct hli hex hee
        have hts : t.size = p := by rw [← ht, show (z.extract 0 p).size = min p z.size by simp]; omega
        have HJT := Lib.hid hjt
        have HLT := Lib.hid hlt
        have HRT := Lib.hid hrt
        have HKL := Lib.hid hk
        have hkt : (l.take k).length = k := by rw [List.length_take]; omega
        have HKC := Lib.hid (show (l.take k).length ≤ c0 by omega)
        have HJ2 := Lib.hid (show ∀ w : World, GOOD w → Kd.C k24 w A0 l.length l → Calls Tryz.prog 31 #[.slice A0 k c0] w fun e w' => e = .returned (.tuple #[.string rp, .int .i64 0]) ∧ Below w.heap.size w w' from fun w hG hC => by
          have := Journal_calls A0 c0 (l.take k) w hG (Kd.C_take hC hk) HKC.out _ hjt
          rw [hkt] at this
          exact this)
        have k1 : decide ((l.length : Int) < (k : Int)) = false := decide_eq_false (by omega)
        have k1' : decide (l.length < k) = false := decide_eq_false (by omega)
        have HTZ := Lib.hid (show t.size ≤ 1048576 by omega)
        have HCNT := Lib.hid (show ∀ w : World, Calls Tryz.prog 45 #[.string t, .string ⟨#[10]⟩] w fun e w' => e = .returned (.int .i64 (k : Int)) ∧ w' = w from fun w => by rw [← hct]; exact Tryz.strings_Count_one t 10 w)
        have HLST := Lib.hid (show ∀ w : World, Calls Tryz.prog 46 #[.string t, .string ⟨#[10]⟩] w fun e w' => e = .returned (.int .i64 ((rp.size : Int) - 1)) ∧ w' = w from fun w => by
          have := Tryz.strings_LastIndex t ⟨#[10]⟩ (by omega) w
          rw [show (⟨#[10]⟩ : ByteArray).data.toList = [10] from rfl, hli] at this
          exact this)
        obtain ⟨hn1, hn2⟩ := hn
        rcases hee with ⟨rfl, heq⟩ | ⟨rfl, heq⟩
        · have heq2 := heq.symm
          subst heq2
          clear hlz hrz hall hrun hjt hlt hrt hct hli hj hts
          go_enter Tryz.func11, Tryz.ntmps11
          go_wp2_with (first
            | (go_at_call 24; (with_reducible refine (entries_calls A0 c0 l w HR.out HC.out HL42.out).mono ?_); rintro e w2 ⟨A2, c2, rfl, hc2, hC2, hB2⟩; have HB2 := Lib.hid hB2; have HC2 := Lib.hid hC2; have HK2 := Lib.hid hc2; clear hC2 hB2)
            | (go_at_call 23; (with_reducible refine (fewE_calls A2 c2 l _ HFE.out w2 HC2.out HK2.out HL63.out).mono ?_); rintro e w3 ⟨rfl, hB3⟩; have HB3 := Lib.hid (below_then HB2.out hB3); clear hB3)
            | (go_at_call 31; (with_reducible refine (Journal_calls A0 c0 l w3 (hG.below HB3.out) (Kd.C_below HR.out HB3.out) HC.out _ HU.out).mono ?_); rintro e w4 ⟨rfl, hB4⟩; have HB4 := Lib.hid (below_then HB3.out hB4); clear hB4)
            | (go_at_call 25; (with_reducible refine (All_calls A0 c0 l w4 (Kd.C_below HR.out HB4.out) HC.out _ HAL.out).mono ?_); rintro e w5 ⟨v5, rfl, hR5, hB5⟩; obtain ⟨A5, c5, rfl, hc5, hC5⟩ := Kd.R_reads hR5; have HB5 := Lib.hid (below_then HB4.out hB5); have HC5 := Lib.hid hC5; have HK5 := Lib.hid hc5; clear hR5 hC5 hB5)
            | (go_at_call 41; (with_reducible refine (Load_calls z w5 (hG.below HB5.out) _ HLZ.out).mono ?_); rintro e w6 ⟨v6, rfl, hR6, hB6⟩; obtain ⟨A6, c6, rfl, hc6, hC6⟩ := Kd.R_reads hR6; have HC56 := Lib.hid (Kd.C_below HC5.out hB6); have HB6 := Lib.hid (below_then HB5.out hB6); have HC6 := Lib.hid hC6; have HK6 := Lib.hid hc6; clear hR6 hC6 hB6)
            | (go_at_call 14; (with_reducible refine (lots_calls A6 c6 o w6 HC6.out HK6.out HO41.out).mono ?_); rintro e w7 ⟨A7, c7, rfl, hc7, hC7, hB7⟩; have HC57 := Lib.hid (Kd.C_below HC56.out hB7); have HB7 := Lib.hid (below_then HB6.out hB7); have HC7 := Lib.hid hC7; have HK7 := Lib.hid hc7; clear hC7 hB7)
            | (go_at_call 14; (with_reducible refine (lots_calls A5 c5 o w7 HC57.out HK5.out HO41.out).mono ?_); rintro e w8 ⟨A8, c8, rfl, hc8, hC8, hB8⟩; have HC78 := Lib.hid (Kd.C_below HC7.out hB8); have HB8 := Lib.hid (below_then HB7.out hB8); have HC8 := Lib.hid hC8; have HK8 := Lib.hid hc8; clear hC8 hB8)
            | (go_at_call 22; (with_reducible refine (same_calls A7 A8 c7 c8 o w8 HC78.out HK7.out HC8.out HK8.out HO63.out).mono ?_); rintro e w9 ⟨rfl, hB9⟩; have HB9 := Lib.hid (below_then HB8.out hB9); clear hB9)
            | (go_at_call 43; (with_reducible refine (Repair_calls z w9 (hG.below HB9.out) HZ.out _ HRZ.out).mono ?_); rintro e w10 ⟨rfl, hB10⟩; have HB10 := Lib.hid (below_then HB9.out hB10); clear hB10)
            | (go_at_call 43; (with_reducible refine (Repair_calls t w10 (hG.below HB10.out) HTZ.out _ HRT.out).mono ?_); rintro e w11 ⟨rfl, hB11⟩; have HB11 := Lib.hid (below_then HB10.out hB11); clear hB11)
            | (go_at_call 45; (with_reducible refine (HCNT.out w11).mono ?_); rintro e w12 ⟨rfl, rfl⟩; skip)
            | (go_at_call 46; (with_reducible refine (HLST.out w12).mono ?_); rintro e w13 ⟨rfl, rfl⟩; skip)
            | (go_at_call 31; (with_reducible refine (HJ2.out w13 (hG.below HB11.out) (Kd.C_below HR.out HB11.out)).mono ?_); rintro e w14 ⟨rfl, hB14⟩; have HB14 := Lib.hid (below_then HB11.out hB14); clear hB14)
            | (go_at_call 41; (with_reducible refine (Load_calls t w14 (hG.below HB14.out) _ HLT.out).mono ?_); rintro e w15 ⟨v15, rfl, hR15, hB15⟩; obtain ⟨A15, c15, rfl, _, _⟩ := Kd.R_reads hR15; have HB15 := Lib.hid (below_then HB14.out hB15); clear hR15 hB15)
            | (go_at_call 15; (with_reducible refine (awake_calls w15 (hG.below HB15.out)).mono ?_); rintro e w16 ⟨rfl, hB16⟩; have HB16 := Lib.hid (below_then HB15.out hB16); clear hB16))
          go_ret
          exact ⟨rfl, HB16.out⟩
        · have hrsz : rp.size ≤ t.size := by omega
          have hne : (rp.toList == t.toList) = false := beq_eq_false_iff_ne.mpr (fun e => heq (by rw [toList_eq, toList_eq] at e; exact data_inj.1 (by exact e)))
          clear hlz hrz hall hrun hjt hlt hrt hct hli hj hts heq
          go_enter Tryz.func11, Tryz.ntmps11
          go_wp2_with (first
            | (go_at_call 24; (with_reducible refine (entries_calls A0 c0 l w HR.out HC.out HL42.out).mono ?_); rintro e w2 ⟨A2, c2, rfl, hc2, hC2, hB2⟩; have HB2 := Lib.hid hB2; have HC2 := Lib.hid hC2; have HK2 := Lib.hid hc2; clear hC2 hB2)
            | (go_at_call 23; (with_reducible refine (fewE_calls A2 c2 l _ HFE.out w2 HC2.out HK2.out HL63.out).mono ?_); rintro e w3 ⟨rfl, hB3⟩; have HB3 := Lib.hid (below_then HB2.out hB3); clear hB3)
            | (go_at_call 31; (with_reducible refine (Journal_calls A0 c0 l w3 (hG.below HB3.out) (Kd.C_below HR.out HB3.out) HC.out _ HU.out).mono ?_); rintro e w4 ⟨rfl, hB4⟩; have HB4 := Lib.hid (below_then HB3.out hB4); clear hB4)
            | (go_at_call 25; (with_reducible refine (All_calls A0 c0 l w4 (Kd.C_below HR.out HB4.out) HC.out _ HAL.out).mono ?_); rintro e w5 ⟨v5, rfl, hR5, hB5⟩; obtain ⟨A5, c5, rfl, hc5, hC5⟩ := Kd.R_reads hR5; have HB5 := Lib.hid (below_then HB4.out hB5); have HC5 := Lib.hid hC5; have HK5 := Lib.hid hc5; clear hR5 hC5 hB5)
            | (go_at_call 41; (with_reducible refine (Load_calls z w5 (hG.below HB5.out) _ HLZ.out).mono ?_); rintro e w6 ⟨v6, rfl, hR6, hB6⟩; obtain ⟨A6, c6, rfl, hc6, hC6⟩ := Kd.R_reads hR6; have HC56 := Lib.hid (Kd.C_below HC5.out hB6); have HB6 := Lib.hid (below_then HB5.out hB6); have HC6 := Lib.hid hC6; have HK6 := Lib.hid hc6; clear hR6 hC6 hB6)
            | (go_at_call 14; (with_reducible refine (lots_calls A6 c6 o w6 HC6.out HK6.out HO41.out).mono ?_); rintro e w7 ⟨A7, c7, rfl, hc7, hC7, hB7⟩; have HC57 := Lib.hid (Kd.C_below HC56.out hB7); have HB7 := Lib.hid (below_then HB6.out hB7); have HC7 := Lib.hid hC7; have HK7 := Lib.hid hc7; clear hC7 hB7)
            | (go_at_call 14; (with_reducible refine (lots_calls A5 c5 o w7 HC57.out HK5.out HO41.out).mono ?_); rintro e w8 ⟨A8, c8, rfl, hc8, hC8, hB8⟩; have HC78 := Lib.hid (Kd.C_below HC7.out hB8); have HB8 := Lib.hid (below_then HB7.out hB8); have HC8 := Lib.hid hC8; have HK8 := Lib.hid hc8; clear hC8 hB8)
            | (go_at_call 22; (with_reducible refine (same_calls A7 A8 c7 c8 o w8 HC78.out HK7.out HC8.out HK8.out HO63.out).mono ?_); rintro e w9 ⟨rfl, hB9⟩; have HB9 := Lib.hid (below_then HB8.out hB9); clear hB9)
            | (go_at_call 43; (with_reducible refine (Repair_calls z w9 (hG.below HB9.out) HZ.out _ HRZ.out).mono ?_); rintro e w10 ⟨rfl, hB10⟩; have HB10 := Lib.hid (below_then HB9.out hB10); clear hB10)
            | (go_at_call 43; (with_reducible refine (Repair_calls t w10 (hG.below HB10.out) HTZ.out _ HRT.out).mono ?_); rintro e w11 ⟨rfl, hB11⟩; have HB11 := Lib.hid (below_then HB10.out hB11); clear hB11)
            | (go_at_call 45; (with_reducible refine (HCNT.out w11).mono ?_); rintro e w12 ⟨rfl, rfl⟩; skip)
            | (go_at_call 46; (with_reducible refine (HLST.out w12).mono ?_); rintro e w13 ⟨rfl, rfl⟩; skip)
            | (go_at_call 31; (with_reducible refine (HJ2.out w13 (hG.below HB11.out) (Kd.C_below HR.out HB11.out)).mono ?_); rintro e w14 ⟨rfl, hB14⟩; have HB14 := Lib.hid (below_then HB11.out hB14); clear hB14)
            | (go_at_call 41; (with_reducible refine (Load_calls t w14 (hG.below HB14.out) _ HLT.out).mono ?_); rintro e w15 ⟨v15, rfl, hR15, hB15⟩; obtain ⟨A15, c15, rfl, _, _⟩ := Kd.R_reads hR15; have HB15 := Lib.hid (below_then HB14.out hB15); clear hR15 hB15)
            | (go_at_call 15; (with_reducible refine (awake_calls w15 (hG.below HB15.out)).mono ?_); rintro e w16 ⟨rfl, hB16⟩; have HB16 := Lib.hid (below_then HB15.out hB16); clear hB16))
          go_ret
          exact ⟨rfl, HB16.out⟩
end Go.Proofs.YtdgipencedlbmaaGreatDoor.Pr
