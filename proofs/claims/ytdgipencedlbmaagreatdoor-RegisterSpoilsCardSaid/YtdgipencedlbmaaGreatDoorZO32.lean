/- What a row's reading gives the walks: entries, strings and numbers among the arguments. RegisterSpoils returns true. -/
import Derived.Test.YtdgipencedlbmaaGreatDoorZD14
import Derived.Test.YtdgipencedlbmaaGreatDoorZT20
import Derived.Test.YtdgipencedlbmaaGreatDoorZO31
import Derived.Deep.RegionHeld3
import Derived.Lib.SlBytesRow
namespace Go.Proofs.YtdgipencedlbmaaGreatDoor.Pr
open Go.ChangeShapes Go.WideShapes Go.RowKit Go.Proofs.YtdgipencedlbmaaGreatDoorW.PrintWords Go.Proofs.YtdgipencedlbmaaGreatDoor.Hand
set_option linter.unusedVariables false
set_option maxRecDepth 100000
section
variable {H : Type} {enc : TypeId × Value → H} {W : World} {base : Nat} {spare : Nat → Bool} {held : Bool}
theorem ents_of {a : Option Addr} {len cap : Nat} {d : DataW H} {ps : List MemPlace} (h : DataW.Trod enc Tryz.prog W base spare held 41 (.slice a len cap) d ps) :
    ∃ l : List S24, l.length = len ∧ len ≤ cap ∧ Kd.C k24 W a len l ∧ (d = .nil ∧ len = 0 ∨ ∃ elems sp, d = .slice elems sp ∧ elems.length = len) := by
  obtain ⟨fuel, hf⟩ := h
  rcases Go.Deep.open_slice Tryz.underlying41 hf with ⟨hcs, hx⟩ | ⟨a', len', cap', m, n, D, Pl, hcs, _, hl, hm, hmm, hx, each⟩
  · simp [Value.cells] at hcs
    obtain ⟨rfl, rfl, rfl⟩ := hcs
    exact ⟨[], rfl, Nat.le_refl _, ⟨rfl, by omega, fun h => by omega⟩, Or.inl ⟨(Prod.mk.inj hx).1, rfl⟩⟩
  · simp [Value.cells] at hcs
    obtain ⟨rfl, rfl, rfl⟩ := hcs
    have hlm : len ≤ m := by rw [hmm]; split <;> omega
    have ex : ∀ i, ∃ y : S24, i < len → ∀ j u, (cellsE y).toList[j]? = some u → W.cell? (a'.add (i * 3 + j)) = some u := by
      intro i
      by_cases hi : i < len
      · obtain ⟨cs', hc, ht⟩ := each i (by omega)
        obtain ⟨y, rfl⟩ := entry_cells ht
        refine ⟨y, fun _ j u hj => ?_⟩
        rw [c24] at hc
        have hj3 : j < 3 := by
          have := (List.getElem?_eq_some_iff.mp hj).1
          exact this
        have := (World.cells?_some hc).2.2 j hj3
        rw [hj, Addr.add_add] at this
        exact this
      · exact ⟨z24, fun h => absurd h hi⟩
    obtain ⟨f, hf'⟩ := Classical.axiomOfChoice ex
    refine ⟨(List.range len).map f, by simp, hl, ⟨by simp, by simp only [maxLen] at hm; omega, fun _ => ⟨a', rfl, fun j p hp => ?_⟩⟩, Or.inr ⟨_, _, (Prod.mk.inj hx).1, by simp⟩⟩
    rw [List.getElem?_map] at hp
    have hj : j < len := by
      rcases Nat.lt_or_ge j len with h1 | h1
      · exact h1
      · rw [List.getElem?_eq_none (by simpa using h1)] at hp; cases hp
    rw [List.getElem?_range hj] at hp
    obtain rfl : f j = p := Option.some.inj hp
    exact ⟨(cellsE (f j)).toList, rfl, k24.K_of_M (k24_mkM W 0 (fun _ => True) (f j)), fun i u hi => hf' j hj i u hi⟩
theorem u16_of {n : Int} {d : DataW H} {ps : List MemPlace} (h : DataW.Trod enc Tryz.prog W base spare held 79 (.int .u16 n) d ps) : 0 ≤ n ∧ n < 65536 := by
  obtain ⟨fuel, hf⟩ := h
  obtain ⟨n', e, _, hw⟩ := DataW.trod_int Tryz.underlying79 hf
  simp [Value.cells] at e
  subst e
  simp [Lit.wf] at hw
  have h1 : IntKind.u16.min = 0 := by decide
  have h2 : IntKind.u16.max = 65535 := by decide
  omega
theorem u8_of {n : Int} {d : DataW H} {ps : List MemPlace} (h : DataW.Trod enc Tryz.prog W base spare held 5 (.int .u8 n) d ps) : 0 ≤ n ∧ n < 256 := by
  obtain ⟨fuel, hf⟩ := h
  obtain ⟨n', e, _, hw⟩ := DataW.trod_int Tryz.underlying5 hf
  simp [Value.cells] at e
  subst e
  simp [Lit.wf] at hw
  have h1 : IntKind.u8.min = 0 := by decide
  have h2 : IntKind.u8.max = 255 := by decide
  omega
end
end Go.Proofs.YtdgipencedlbmaaGreatDoor.Pr
namespace Go.Proofs.YtdgipencedlbmaaGreatDoor.Pr
set_option linter.unusedVariables false
set_option linter.unusedSimpArgs false
open Go.RowKit Go.Proofs.YtdgipencedlbmaaGreatDoorW.PrintWords Go.Proofs.YtdgipencedlbmaaGreatDoorW.PrintLast Go.Proofs.YtdgipencedlbmaaGreatDoorW.PrintMore Go.Proofs.YtdgipencedlbmaaGreatDoor.Hand
set_option maxHeartbeats 4000000 in
set_option maxRecDepth 100000 in
theorem Spoils_calls (A0 : Option Addr) (c0 : Nat) (l : List S24) (n m : Int) (w : World) (hG : GOOD w) (hr0 : Kd.C k24 w A0 l.length l) (hc0 : l.length ≤ c0) (hl : l.length < 4398046511104) (hn : 0 ≤ n ∧ n < 65536) (hm : 0 ≤ m ∧ m < 256) :
    Calls Tryz.prog 12 #[.slice A0 l.length c0, .int .u16 n, .int .u8 m] w fun e w' => e = .returned (.bool true) ∧ Below w.heap.size w w' := by
  have HR := Lib.hid hr0
  have HC := Lib.hid hc0
  have HL42 := Lib.hid hl
  have HL63 := Lib.hid (show l.length < 9223372036854775807 by omega)
  obtain ⟨fe, hfe⟩ : ∃ fe, fewE l = fe := ⟨_, rfl⟩
  have HFE := Lib.hid hfe
  clear hr0 hl hfe
  by_cases h20 : 20 < l.length
  · have e1 : decide (20 < (l.length : Int)) = true := decide_eq_true (by omega)
    have e1' : decide (20 < l.length) = true := decide_eq_true h20
    clear h20
    go_enter Tryz.func12, Tryz.ntmps12
    go_wp2_with (first
      | (go_at_call 15; (with_reducible refine (awake_calls w hG).mono ?_); rintro e w4 ⟨rfl, hB4⟩; have HB4 := Lib.hid hB4; clear hB4))
    go_ret
    exact ⟨rfl, HB4.out⟩
  · have e1 : decide (20 < (l.length : Int)) = false := decide_eq_false (by omega)
    have e1' : decide (20 < l.length) = false := decide_eq_false h20
    cases fe with
    | false =>
      clear h20
      go_enter Tryz.func12, Tryz.ntmps12
      go_wp2_with (first
        | (go_at_call 24; (with_reducible refine (entries_calls A0 c0 l w HR.out HC.out HL42.out).mono ?_); rintro e w2 ⟨A2, c2, rfl, hc2, hC2, hB2⟩; have HB2 := Lib.hid hB2; have HC2 := Lib.hid hC2; have HK2 := Lib.hid hc2; clear hC2 hB2)
        | (go_at_call 23; (with_reducible refine (fewE_calls A2 c2 l _ HFE.out w2 HC2.out HK2.out HL63.out).mono ?_); rintro e w3 ⟨rfl, hB3⟩; have HB3 := Lib.hid (below_then HB2.out hB3); clear hB3)
        | (go_at_call 15; (with_reducible refine (awake_calls w3 (hG.below HB3.out)).mono ?_); rintro e w4 ⟨rfl, hB4⟩; have HB4 := Lib.hid (below_then HB3.out hB4); clear hB4))
      go_ret
      exact ⟨rfl, HB4.out⟩
    | true =>
      by_cases hj : (allS l).2.2 = 0
      rotate_left
      · obtain ⟨u, hu⟩ : ∃ u, journalS l = u := ⟨_, rfl⟩
        have hu2 : u.2 ≠ 0 := by rw [← hu]; unfold journalS; rw [if_pos hj]; exact hj
        have e2 : (u.2 != 0) = true := bne_iff_ne.mpr hu2
        have HU := Lib.hid hu
        clear h20 hj hu hu2
        go_enter Tryz.func12, Tryz.ntmps12
        go_wp2_with (first
          | (go_at_call 24; (with_reducible refine (entries_calls A0 c0 l w HR.out HC.out HL42.out).mono ?_); rintro e w2 ⟨A2, c2, rfl, hc2, hC2, hB2⟩; have HB2 := Lib.hid hB2; have HC2 := Lib.hid hC2; have HK2 := Lib.hid hc2; clear hC2 hB2)
          | (go_at_call 23; (with_reducible refine (fewE_calls A2 c2 l _ HFE.out w2 HC2.out HK2.out HL63.out).mono ?_); rintro e w3 ⟨rfl, hB3⟩; have HB3 := Lib.hid (below_then HB2.out hB3); clear hB3)
          | (go_at_call 31; (with_reducible refine (Journal_calls A0 c0 l w3 (hG.below HB3.out) (Kd.C_below HR.out HB3.out) HC.out _ HU.out).mono ?_); rintro e w4 ⟨rfl, hB4⟩; have HB4 := Lib.hid (below_then HB3.out hB4); clear hB4)
          | (go_at_call 15; (with_reducible refine (awake_calls w4 (hG.below HB4.out)).mono ?_); rintro e w5 ⟨rfl, hB5⟩; have HB5 := Lib.hid (below_then HB4.out hB5); clear hB5))
        go_ret
        exact ⟨rfl, HB5.out⟩
      · have hlen := journal_len hj
        obtain ⟨_, o, hrun, hall⟩ := allS_ok hj
        obtain ⟨z, hz⟩ : ∃ z, bytesA (linesL 1 l) = z := ⟨_, rfl⟩
        rw [hz] at hlen
        have HU := Lib.hid (show journalS l = (z, 0) by rw [journal_run hrun (by omega), hz])
        by_cases hz0 : z.size = 0
        · obtain rfl : z = ⟨#[]⟩ := by cases z; simp only [ByteArray.mk.injEq]; exact Array.size_eq_zero_iff.mp hz0
          clear hz hj hrun hall hlen hz0
          go_enter Tryz.func12, Tryz.ntmps12
          go_wp2_with (first
            | (go_at_call 24; (with_reducible refine (entries_calls A0 c0 l w HR.out HC.out HL42.out).mono ?_); rintro e w2 ⟨A2, c2, rfl, hc2, hC2, hB2⟩; have HB2 := Lib.hid hB2; have HC2 := Lib.hid hC2; have HK2 := Lib.hid hc2; clear hC2 hB2)
            | (go_at_call 23; (with_reducible refine (fewE_calls A2 c2 l _ HFE.out w2 HC2.out HK2.out HL63.out).mono ?_); rintro e w3 ⟨rfl, hB3⟩; have HB3 := Lib.hid (below_then HB2.out hB3); clear hB3)
            | (go_at_call 31; (with_reducible refine (Journal_calls A0 c0 l w3 (hG.below HB3.out) (Kd.C_below HR.out HB3.out) HC.out _ HU.out).mono ?_); rintro e w4 ⟨rfl, hB4⟩; have HB4 := Lib.hid (below_then HB3.out hB4); clear hB4)
            | (go_at_call 15; (with_reducible refine (awake_calls w4 (hG.below HB4.out)).mono ?_); rintro e w5 ⟨rfl, hB5⟩; have HB5 := Lib.hid (below_then HB4.out hB5); clear hB5))
          go_ret
          exact ⟨rfl, HB5.out⟩
        · have hze : z.toList.isEmpty = false := by
            rw [toList_eq]
            cases hh : z.data.toList with
            | nil => exact absurd (by have := congrArg List.length hh; rw [Array.length_toList] at this; exact this) hz0
            | cons _ _ => rfl
          obtain ⟨hn1, hn2⟩ := hn
          obtain ⟨hm1, hm2⟩ := hm
          obtain ⟨p, hp⟩ : ∃ p : Nat, n % (z.size : Int) = p := ⟨(n % (z.size : Int)).toNat, by have := Int.emod_nonneg n (b := (z.size : Int)) (by omega); omega⟩
          have hpz : p < z.size := by have := Int.emod_lt_of_pos n (b := (z.size : Int)) (by omega); omega
          have ht2 : Int.tmod n (z.size : Int) = p := by rw [Int.tmod_eq_emod_of_nonneg hn1]; exact hp
          have hzi : ((z.size : Int) == 0) = false := beq_eq_false_iff_ne.mpr (by omega)
          obtain ⟨c, hc⟩ : ∃ c : UInt8, z[p] = c := ⟨_, rfl⟩
          obtain ⟨d, rfl⟩ : ∃ d : UInt8, (d.toNat : Int) = m := ⟨UInt8.ofNat m.toNat, by rw [UInt8.toNat_ofNat']; omega⟩
          have hcases : ((c.toNat : Int) == (d.toNat : Int)) = true ∨ (((c.toNat : Int) == (d.toNat : Int)) = false ∧ ((c.toNat : Int) == 10) = true) ∨ (((c.toNat : Int) == (d.toNat : Int)) = false ∧ ((c.toNat : Int) == 10) = false ∧ ((d.toNat : Int) == 10) = true)
              ∨ (((c.toNat : Int) == (d.toNat : Int)) = false ∧ ((c.toNat : Int) == 10) = false ∧ ((d.toNat : Int) == 10) = false) := by
            cases ((c.toNat : Int) == (d.toNat : Int)) <;> cases ((c.toNat : Int) == 10) <;> cases ((d.toNat : Int) == 10) <;> simp
          rcases hcases with f1 | ⟨f1, f2⟩ | ⟨f1, f2, f3⟩ | ⟨f1, f2, f3⟩
          · skip
            go_enter Tryz.func12, Tryz.ntmps12
            go_wp2_with (first
              | (go_at_call 24; (with_reducible refine (entries_calls A0 c0 l w HR.out HC.out HL42.out).mono ?_); rintro e w2 ⟨A2, c2, rfl, hc2, hC2, hB2⟩; have HB2 := Lib.hid hB2; have HC2 := Lib.hid hC2; have HK2 := Lib.hid hc2; clear hC2 hB2)
              | (go_at_call 23; (with_reducible refine (fewE_calls A2 c2 l _ HFE.out w2 HC2.out HK2.out HL63.out).mono ?_); rintro e w3 ⟨rfl, hB3⟩; have HB3 := Lib.hid (below_then HB2.out hB3); clear hB3)
              | (go_at_call 31; (with_reducible refine (Journal_calls A0 c0 l w3 (hG.below HB3.out) (Kd.C_below HR.out HB3.out) HC.out _ HU.out).mono ?_); rintro e w4 ⟨rfl, hB4⟩; have HB4 := Lib.hid (below_then HB3.out hB4); clear hB4)
              | (go_at_call 15; (with_reducible refine (awake_calls w4 (hG.below HB4.out)).mono ?_); rintro e w5 ⟨rfl, hB5⟩; have HB5 := Lib.hid (below_then HB4.out hB5); clear hB5))
            go_ret
            exact ⟨rfl, HB5.out⟩
          · skip
            go_enter Tryz.func12, Tryz.ntmps12
            go_wp2_with (first
              | (go_at_call 24; (with_reducible refine (entries_calls A0 c0 l w HR.out HC.out HL42.out).mono ?_); rintro e w2 ⟨A2, c2, rfl, hc2, hC2, hB2⟩; have HB2 := Lib.hid hB2; have HC2 := Lib.hid hC2; have HK2 := Lib.hid hc2; clear hC2 hB2)
              | (go_at_call 23; (with_reducible refine (fewE_calls A2 c2 l _ HFE.out w2 HC2.out HK2.out HL63.out).mono ?_); rintro e w3 ⟨rfl, hB3⟩; have HB3 := Lib.hid (below_then HB2.out hB3); clear hB3)
              | (go_at_call 31; (with_reducible refine (Journal_calls A0 c0 l w3 (hG.below HB3.out) (Kd.C_below HR.out HB3.out) HC.out _ HU.out).mono ?_); rintro e w4 ⟨rfl, hB4⟩; have HB4 := Lib.hid (below_then HB3.out hB4); clear hB4)
              | (go_at_call 15; (with_reducible refine (awake_calls w4 (hG.below HB4.out)).mono ?_); rintro e w5 ⟨rfl, hB5⟩; have HB5 := Lib.hid (below_then HB4.out hB5); clear hB5))
            go_ret
            exact ⟨rfl, HB5.out⟩
          · skip
            go_enter Tryz.func12, Tryz.ntmps12
            go_wp2_with (first
              | (go_at_call 24; (with_reducible refine (entries_calls A0 c0 l w HR.out HC.out HL42.out).mono ?_); rintro e w2 ⟨A2, c2, rfl, hc2, hC2, hB2⟩; have HB2 := Lib.hid hB2; have HC2 := Lib.hid hC2; have HK2 := Lib.hid hc2; clear hC2 hB2)
              | (go_at_call 23; (with_reducible refine (fewE_calls A2 c2 l _ HFE.out w2 HC2.out HK2.out HL63.out).mono ?_); rintro e w3 ⟨rfl, hB3⟩; have HB3 := Lib.hid (below_then HB2.out hB3); clear hB3)
              | (go_at_call 31; (with_reducible refine (Journal_calls A0 c0 l w3 (hG.below HB3.out) (Kd.C_below HR.out HB3.out) HC.out _ HU.out).mono ?_); rintro e w4 ⟨rfl, hB4⟩; have HB4 := Lib.hid (below_then HB3.out hB4); clear hB4)
              | (go_at_call 15; (with_reducible refine (awake_calls w4 (hG.below HB4.out)).mono ?_); rintro e w5 ⟨rfl, hB5⟩; have HB5 := Lib.hid (below_then HB4.out hB5); clear hB5))
            go_ret
            exact ⟨rfl, HB5.out⟩
          · have hcd : z[p] ≠ d := by
              rw [hc]; rintro rfl; simp at f1
            have hc10 : z[p] ≠ 10 := by
              rw [hc]; rintro rfl; simp at f2
            have hd10 : d ≠ 10 := by
              rintro rfl; simp at f3
            obtain ⟨k, rp, v, e, hlb, he, hrb, hct, hli, hex, hrs, hbs⟩ := spoil_facts hrun (by omega) hz hlen hpz hcd hc10 hd10
            obtain ⟨t, ht⟩ : ∃ t, z.extract 0 p = t := ⟨_, rfl⟩
            rw [ht] at hct hli
            have hts : t.size = p := by rw [← ht, show (z.extract 0 p).size = min p z.size by simp]; omega
            have HLB := Lib.hid hlb
            have HRB := Lib.hid hrb
            have HBS := Lib.hid (show (badA z p d).size ≤ 1048576 by omega)
            have f4 : (e != 0) = true := bne_iff_ne.mpr he
            have HCNT := Lib.hid (show ∀ w : World, Calls Tryz.prog 45 #[.string t, .string ⟨#[10]⟩] w fun e w' => e = .returned (.int .i64 (k : Int)) ∧ w' = w from fun w => by rw [← hct]; exact Tryz.strings_Count_one t 10 w)
            obtain ⟨q, hq⟩ : ∃ q : Int, (rp.size : Int) - 1 = q := ⟨_, rfl⟩
            have hq1 : q + 1 = (rp.size : Int) := by omega
            have hw : IntKind.i64.wrap (rp.size : Int) = (rp.size : Int) := by rw [IntKind.wrap_i64]; omega
            have HLST := Lib.hid (show ∀ w : World, Calls Tryz.prog 46 #[.string t, .string ⟨#[10]⟩] w fun e w' => e = .returned (.int .i64 q) ∧ w' = w from fun w => by
              have := Tryz.strings_LastIndex t ⟨#[10]⟩ (by omega) w
              rw [show (⟨#[10]⟩ : ByteArray).data.toList = [10] from rfl, hli, hq] at this
              exact this)
            clear hq hlb hrb hct hli hcd hc10 hd10 hrun hall hj hz
            go_enter Tryz.func12, Tryz.ntmps12
            go_wp2_with (first
              | (go_at_call 24; (with_reducible refine (entries_calls A0 c0 l w HR.out HC.out HL42.out).mono ?_); rintro e w2 ⟨A2, c2, rfl, hc2, hC2, hB2⟩; have HB2 := Lib.hid hB2; have HC2 := Lib.hid hC2; have HK2 := Lib.hid hc2; clear hC2 hB2)
              | (go_at_call 23; (with_reducible refine (fewE_calls A2 c2 l _ HFE.out w2 HC2.out HK2.out HL63.out).mono ?_); rintro e w3 ⟨rfl, hB3⟩; have HB3 := Lib.hid (below_then HB2.out hB3); clear hB3)
              | (go_at_call 31; (with_reducible refine (Journal_calls A0 c0 l w3 (hG.below HB3.out) (Kd.C_below HR.out HB3.out) HC.out _ HU.out).mono ?_); rintro e w4 ⟨rfl, hB4⟩; have HB4 := Lib.hid (below_then HB3.out hB4); clear hB4))
            have hpz' : p ≤ z.size := by omega
            have hconv : (convert 82 9 (.slice (some ⟨w4.heap.size, 0, none⟩) 1 1)).run Tryz.prog (w4.alloc (.cells #[.int .u8 (d.toNat : Int)] 5)).drew = .ok (.string ⟨#[d]⟩) (w4.alloc (.cells #[.int .u8 (d.toNat : Int)] 5)).drew := by
              have hb : Lib.Bytes (w4.alloc (.cells #[.int .u8 (d.toNat : Int)] 5)).drew w4.heap.size 0 ⟨#[d]⟩ := by
                intro i hi
                have h0 : i = 0 := by have : (⟨#[d]⟩ : ByteArray).size = 1 := rfl; omega
                subst h0
                exact cellB (W := (w4.alloc (.cells #[.int .u8 (d.toNat : Int)] 5)).drew) (World.alloc_heap_new w4 _) 0
              exact Lib.run_convert_whole (P := Tryz.prog) _ 82 5 9 Tryz.underlying82 Tryz.underlying5 Tryz.underlying9 w4.heap.size 0 ⟨#[d]⟩ hb 1
            have hz1 : ¬ 9223372036854775807 < t.size + ({ data := #[d] } : ByteArray).size := by
              have : ({ data := #[d] } : ByteArray).size = 1 := rfl
              omega
            have hz2 : ¬ 9223372036854775807 < (t ++ { data := #[d] }).size + (z.extract (p + 1) z.size).size := by
              have : ({ data := #[d] } : ByteArray).size = 1 := rfl
              rw [ByteArray.size_append, show (z.extract (p + 1) z.size).size = min z.size z.size - (p + 1) by simp]
              omega
            have hz3 : p + 1 ≤ z.size := by omega
            obtain ⟨bd, hbd⟩ : ∃ bd, badA z p d = bd := ⟨_, rfl⟩
            have hbad : t ++ { data := #[d] } ++ z.extract (p + 1) z.size = bd := by rw [← hbd, ← ht]; rfl
            rw [hbd] at HLB HRB HBS
            clear hts hbd
            go_region
            have HB5 := Lib.hid (below_drew (below_then HB4.out ((Below.refl _ w4).alloc (Nat.le_refl _) (.cells #[.int .u8 (d.toNat : Int)] 5))))
            generalize (w4.alloc (.cells #[.int .u8 (d.toNat : Int)] 5)).drew = w5 at *
            clear hconv
            go_wp2_with (first
              | (go_at_call 41; (with_reducible refine (Load_calls bd w5 (hG.below HB5.out) _ HLB.out).mono ?_); rintro e w6 ⟨v6, rfl, hR6, hB6⟩; obtain ⟨A6, c6, rfl, _, _⟩ := Kd.R_reads hR6; have HB6 := Lib.hid (below_then HB5.out hB6); clear hR6 hB6))
            go_region_held3 (fun _ => True) (first | trivial | go_keep) (first
              | (go_at_call 45; (with_reducible refine (HCNT.out w6.drew).mono ?_); rintro e w7 ⟨rfl, rfl⟩; skip)
              | (go_at_call 43; (with_reducible refine (Repair_calls bd w6.drew (hG.below (below_drew HB6.out)) HBS.out _ HRB.out).mono ?_); rintro e w8 ⟨rfl, hB8⟩; have hB8 := drew_below hB8; have HB8 := Lib.hid (below_then HB6.out hB8); clear hB8)
              | (go_at_call 46; (with_reducible refine (HLST.out w8).mono ?_); rintro e w9 ⟨rfl, rfl⟩; skip)
              | (go_at_call 15; (with_reducible refine (awake_calls w9 (hG.below HB8.out)).mono ?_); rintro e w10 ⟨rfl, hB10⟩; have HB10 := Lib.hid (below_then HB8.out hB10); clear hB10))
            all_goals
              go_wp2
              go_ret
              exact ⟨rfl, HB10.out⟩
end Go.Proofs.YtdgipencedlbmaaGreatDoor.Pr
