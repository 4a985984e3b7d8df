/- What a row's reading gives the walks: entries, strings and numbers among the arguments. RegisterJournals returns true. -/
import Derived.Test.YtdgipencedlbmaaGreatDoorD14
import Derived.Test.YtdgipencedlbmaaGreatDoorT20
import Derived.Test.YtdgipencedlbmaaGreatDoorJ25
namespace Go.Proofs.YtdgipencedlbmaaGreatDoor.Pr
open Go.ChangeShapes Go.WideShapes Go.RowKit Go.Proofs.YtdgipencedlbmaaGreatDoorW.PrintWords Go.Proofs.YtdgipencedlbmaaGreatDoor.Hand
set_option linter.unusedVariables false
set_option maxRecDepth 100000

section
variable {H : Type} {enc : TypeId × Value → H} {W : World} {base : Nat} {spare : Nat → Bool} {held : Bool}
/-- Entries among the arguments. -/
theorem ents_of {a : Option Addr} {len cap : Nat} {d : DataW H} {ps : List MemPlace} (h : DataW.Trod enc Tryz.prog W base spare held 41 (.slice a len cap) d ps) :
    ∃ l : List S24, l.length = len ∧ len ≤ cap ∧ Kd.C k24 W a len l ∧ (d = .nil ∧ len = 0 ∨ ∃ elems sp, d = .slice elems sp ∧ elems.length = len) := by
  obtain ⟨fuel, hf⟩ := h
  rcases Go.Deep.open_slice Tryz.underlying41 hf with ⟨hcs, hx⟩ | ⟨a', len', cap', m, n, D, Pl, hcs, _, hl, hm, hmm, hx, each⟩
  · simp [Value.cells] at hcs
    obtain ⟨rfl, rfl, rfl⟩ := hcs
    exact ⟨[], rfl, Nat.le_refl _, ⟨rfl, by omega, fun h => by omega⟩, Or.inl ⟨(Prod.mk.inj hx).1, rfl⟩⟩
  · simp [Value.cells] at hcs
    obtain ⟨rfl, rfl, rfl⟩ := hcs
    have hlm : len ≤ m := by rw [hmm]; split <;> omega
    have ex : ∀ i, ∃ y : S24, i < len → ∀ j u, (cellsE y).toList[j]? = some u → W.cell? (a'.add (i * 3 + j)) = some u := by
      intro i
      by_cases hi : i < len
      · obtain ⟨cs', hc, ht⟩ := each i (by omega)
        obtain ⟨y, rfl⟩ := entry_cells ht
        refine ⟨y, fun _ j u hj => ?_⟩
        rw [c24] at hc
        have hj3 : j < 3 := by
          have := (List.getElem?_eq_some_iff.mp hj).1
          exact this
        have := (World.cells?_some hc).2.2 j hj3
        rw [hj, Addr.add_add] at this
        exact this
      · exact ⟨z24, fun h => absurd h hi⟩
    obtain ⟨f, hf'⟩ := Classical.axiomOfChoice ex
    refine ⟨(List.range len).map f, by simp, hl, ⟨by simp, by simp only [maxLen] at hm; omega, fun _ => ⟨a', rfl, fun j p hp => ?_⟩⟩, Or.inr ⟨_, _, (Prod.mk.inj hx).1, by simp⟩⟩
    rw [List.getElem?_map] at hp
    have hj : j < len := by
      rcases Nat.lt_or_ge j len with h1 | h1
      · exact h1
      · rw [List.getElem?_eq_none (by simpa using h1)] at hp; cases hp
    rw [List.getElem?_range hj] at hp
    obtain rfl : f j = p := Option.some.inj hp
    exact ⟨(cellsE (f j)).toList, rfl, k24.K_of_M (k24_mkM W 0 (fun _ => True) (f j)), fun i u hi => hf' j hj i u hi⟩
theorem str_of {s : ByteArray} {d : DataW H} {ps : List MemPlace} (h : DataW.Trod enc Tryz.prog W base spare held 9 (.string s) d ps) : d = .lit (.string s.data.toList) := by
  obtain ⟨fuel, hf⟩ := h
  obtain ⟨s', e, hx, _⟩ := DataW.trod_string Tryz.underlying9 hf
  simp [Value.cells] at e
  subst e
  exact (Prod.mk.inj hx).1
theorem u16_of {n : Int} {d : DataW H} {ps : List MemPlace} (h : DataW.Trod enc Tryz.prog W base spare held 79 (.int .u16 n) d ps) : 0 ≤ n ∧ n < 65536 := by
  obtain ⟨fuel, hf⟩ := h
  obtain ⟨n', e, _, hw⟩ := DataW.trod_int Tryz.underlying79 hf
  simp [Value.cells] at e
  subst e
  simp [Lit.wf] at hw
  have h1 : IntKind.u16.min = 0 := by decide
  have h2 : IntKind.u16.max = 65535 := by decide
  omega
theorem u8_of {n : Int} {d : DataW H} {ps : List MemPlace} (h : DataW.Trod enc Tryz.prog W base spare held 5 (.int .u8 n) d ps) : 0 ≤ n ∧ n < 256 := by
  obtain ⟨fuel, hf⟩ := h
  obtain ⟨n', e, _, hw⟩ := DataW.trod_int Tryz.underlying5 hf
  simp [Value.cells] at e
  subst e
  simp [Lit.wf] at hw
  have h1 : IntKind.u8.min = 0 := by decide
  have h2 : IntKind.u8.max = 255 := by decide
  omega
end
end Go.Proofs.YtdgipencedlbmaaGreatDoor.Pr
namespace Go.Proofs.YtdgipencedlbmaaGreatDoor.Pr
set_option linter.unusedVariables false
set_option linter.unusedSimpArgs false
open Go.RowKit Go.Proofs.YtdgipencedlbmaaGreatDoorW.PrintWords Go.Proofs.YtdgipencedlbmaaGreatDoorW.PrintLast Go.Proofs.YtdgipencedlbmaaGreatDoorW.PrintMore Go.Proofs.YtdgipencedlbmaaGreatDoor.Hand

set_option maxHeartbeats 1000000 in
set_option maxRecDepth 100000 in
theorem Journals_calls (A0 : Option Addr) (c0 : Nat) (l : List S24) (w : World) (hG : GOOD w) (hr0 : Kd.C k24 w A0 l.length l) (hc0 : l.length ≤ c0) (hl : l.length < 4398046511104) :
    Calls Tryz.prog 7 #[.slice A0 l.length c0] w fun e w' => e = .returned (.bool true) ∧ Below w.heap.size w w' := by
  have HR := Lib.hid hr0
  have HC := Lib.hid hc0
  have HL42 := Lib.hid hl
  have HL63 := Lib.hid (show l.length < 9223372036854775807 by omega)
  obtain ⟨fe, hfe⟩ : ∃ fe, fewE l = fe := ⟨_, rfl⟩
  have HFE := Lib.hid hfe
  clear hr0 hc0 hl hfe
  cases fe with
  | false =>
    go_enter Tryz.func7, Tryz.ntmps7
    go_wp2_with (first
      | (go_at_call 24; (with_reducible refine (entries_calls A0 c0 l w HR.out HC.out HL42.out).mono ?_); rintro e w2 ⟨A2, c2, rfl, hc2, hC2, hB2⟩; have HB2 := Lib.hid hB2; have HC2 := Lib.hid hC2; have HK2 := Lib.hid hc2; clear hC2 hB2)
      | (go_at_call 23; (with_reducible refine (fewE_calls A2 c2 l _ HFE.out w2 HC2.out HK2.out HL63.out).mono ?_); rintro e w3 ⟨rfl, hB3⟩; have HB3 := Lib.hid (below_then HB2.out hB3); clear hB3)
      | (go_at_call 15; (with_reducible refine (awake_calls w3 (hG.below HB3.out)).mono ?_); rintro e w4 ⟨rfl, hB4⟩; have HB4 := Lib.hid (below_then HB3.out hB4); clear hB4))
    go_ret
    exact ⟨rfl, HB4.out⟩
  | true =>
    obtain ⟨u, hu⟩ : ∃ u, journalS l = u := ⟨_, rfl⟩
    have HU := Lib.hid hu
    clear hu
    go_enter Tryz.func7, Tryz.ntmps7
    go_wp2_with (first
      | (go_at_call 24; (with_reducible refine (entries_calls A0 c0 l w HR.out HC.out HL42.out).mono ?_); rintro e w2 ⟨A2, c2, rfl, hc2, hC2, hB2⟩; have HB2 := Lib.hid hB2; have HC2 := Lib.hid hC2; have HK2 := Lib.hid hc2; clear hC2 hB2)
      | (go_at_call 23; (with_reducible refine (fewE_calls A2 c2 l _ HFE.out w2 HC2.out HK2.out HL63.out).mono ?_); rintro e w3 ⟨rfl, hB3⟩; have HB3 := Lib.hid (below_then HB2.out hB3); clear hB3)
      | (go_at_call 31; (with_reducible refine (Journal_calls A0 c0 l w3 (hG.below HB3.out) (Kd.C_below HR.out HB3.out) HC.out u HU.out).mono ?_); rintro e w4 ⟨rfl, hB4⟩; have HB4 := Lib.hid (below_then HB3.out hB4); clear hB4)
      | (go_at_call 24; (with_reducible refine (entries_calls A0 c0 l w4 (Kd.C_below HR.out HB4.out) HC.out HL42.out).mono ?_); rintro e w5 ⟨A5, c5, rfl, hc5, hC5, hB5⟩; have HB5 := Lib.hid (below_then HB4.out hB5); have HC5 := Lib.hid hC5; have HK5 := Lib.hid hc5; clear hC5 hB5)
      | (go_at_call 32; (with_reducible refine (rJournal_calls A5 c5 l w5 HC5.out HK5.out u HU.out).mono ?_); rintro e w6 ⟨rfl, hB6⟩; have HB6 := Lib.hid (below_then HB5.out hB6); clear hB6)
      | (go_at_call 15; (with_reducible refine (awake_calls w6 (hG.below HB6.out)).mono ?_); rintro e w7 ⟨rfl, hB7⟩; have HB7 := Lib.hid (below_then HB6.out hB7); clear hB7))
    go_ret
    exact ⟨rfl, HB7.out⟩
end Go.Proofs.YtdgipencedlbmaaGreatDoor.Pr
