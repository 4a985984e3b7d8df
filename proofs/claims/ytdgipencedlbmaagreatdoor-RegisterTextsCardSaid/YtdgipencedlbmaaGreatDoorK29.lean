/- What a row's reading gives the walks: entries, strings and numbers among the arguments. RegisterTexts returns true. -/
import Derived.Test.YtdgipencedlbmaaGreatDoorD14
import Derived.Test.YtdgipencedlbmaaGreatDoorT20
import Derived.Test.YtdgipencedlbmaaGreatDoorJ25
import Derived.Test.YtdgipencedlbmaaGreatDoorK28
namespace Go.Proofs.YtdgipencedlbmaaGreatDoor.Pr
open Go.ChangeShapes Go.WideShapes Go.RowKit Go.Proofs.YtdgipencedlbmaaGreatDoorW.PrintWords Go.Proofs.YtdgipencedlbmaaGreatDoor.Hand
set_option linter.unusedVariables false
set_option maxRecDepth 100000

section
variable {H : Type} {enc : TypeId × Value → H} {W : World} {base : Nat} {spare : Nat → Bool} {held : Bool}
/-- Entries among the arguments. -/
theorem ents_of {a : Option Addr} {len cap : Nat} {d : DataW H} {ps : List MemPlace} (h : DataW.Trod enc Tryz.prog W base spare held 41 (.slice a len cap) d ps) :
    ∃ l : List S24, l.length = len ∧ len ≤ cap ∧ Kd.C k24 W a len l ∧ (d = .nil ∧ len = 0 ∨ ∃ elems sp, d = .slice elems sp ∧ elems.length = len) := by
  obtain ⟨fuel, hf⟩ := h
  rcases Go.Deep.open_slice Tryz.underlying41 hf with ⟨hcs, hx⟩ | ⟨a', len', cap', m, n, D, Pl, hcs, _, hl, hm, hmm, hx, each⟩
  · simp [Value.cells] at hcs
    obtain ⟨rfl, rfl, rfl⟩ := hcs
    exact ⟨[], rfl, Nat.le_refl _, ⟨rfl, by omega, fun h => by omega⟩, Or.inl ⟨(Prod.mk.inj hx).1, rfl⟩⟩
  · simp [Value.cells] at hcs
    obtain ⟨rfl, rfl, rfl⟩ := hcs
    have hlm : len ≤ m := by rw [hmm]; split <;> omega
    have ex : ∀ i, ∃ y : S24, i < len → ∀ j u, (cellsE y).toList[j]? = some u → W.cell? (a'.add (i * 3 + j)) = some u := by
      intro i
      by_cases hi : i < len
      · obtain ⟨cs', hc, ht⟩ := each i (by omega)
        obtain ⟨y, rfl⟩ := entry_cells ht
        refine ⟨y, fun _ j u hj => ?_⟩
        rw [c24] at hc
        have hj3 : j < 3 := by
          have := (List.getElem?_eq_some_iff.mp hj).1
          exact this
        have := (World.cells?_some hc).2.2 j hj3
        rw [hj, Addr.add_add] at this
        exact this
      · exact ⟨z24, fun h => absurd h hi⟩
    obtain ⟨f, hf'⟩ := Classical.axiomOfChoice ex
    refine ⟨(List.range len).map f, by simp, hl, ⟨by simp, by simp only [maxLen] at hm; omega, fun _ => ⟨a', rfl, fun j p hp => ?_⟩⟩, Or.inr ⟨_, _, (Prod.mk.inj hx).1, by simp⟩⟩
    rw [List.getElem?_map] at hp
    have hj : j < len := by
      rcases Nat.lt_or_ge j len with h1 | h1
      · exact h1
      · rw [List.getElem?_eq_none (by simpa using h1)] at hp; cases hp
    rw [List.getElem?_range hj] at hp
    obtain rfl : f j = p := Option.some.inj hp
    exact ⟨(cellsE (f j)).toList, rfl, k24.K_of_M (k24_mkM W 0 (fun _ => True) (f j)), fun i u hi => hf' j hj i u hi⟩
theorem str_of {s : ByteArray} {d : DataW H} {ps : List MemPlace} (h : DataW.Trod enc Tryz.prog W base spare held 9 (.string s) d ps) : d = .lit (.string s.data.toList) := by
  obtain ⟨fuel, hf⟩ := h
  obtain ⟨s', e, hx, _⟩ := DataW.trod_string Tryz.underlying9 hf
  simp [Value.cells] at e
  subst e
  exact (Prod.mk.inj hx).1
theorem u16_of {n : Int} {d : DataW H} {ps : List MemPlace} (h : DataW.Trod enc Tryz.prog W base spare held 79 (.int .u16 n) d ps) : 0 ≤ n ∧ n < 65536 := by
  obtain ⟨fuel, hf⟩ := h
  obtain ⟨n', e, _, hw⟩ := DataW.trod_int Tryz.underlying79 hf
  simp [Value.cells] at e
  subst e
  simp [Lit.wf] at hw
  have h1 : IntKind.u16.min = 0 := by decide
  have h2 : IntKind.u16.max = 65535 := by decide
  omega
theorem u8_of {n : Int} {d : DataW H} {ps : List MemPlace} (h : DataW.Trod enc Tryz.prog W base spare held 5 (.int .u8 n) d ps) : 0 ≤ n ∧ n < 256 := by
  obtain ⟨fuel, hf⟩ := h
  obtain ⟨n', e, _, hw⟩ := DataW.trod_int Tryz.underlying5 hf
  simp [Value.cells] at e
  subst e
  simp [Lit.wf] at hw
  have h1 : IntKind.u8.min = 0 := by decide
  have h2 : IntKind.u8.max = 255 := by decide
  omega
end
end Go.Proofs.YtdgipencedlbmaaGreatDoor.Pr
namespace Go.Proofs.YtdgipencedlbmaaGreatDoor.Pr
set_option linter.unusedVariables false
set_option linter.unusedSimpArgs false
open Go.RowKit Go.Proofs.YtdgipencedlbmaaGreatDoorW.PrintWords Go.Proofs.YtdgipencedlbmaaGreatDoorW.PrintLast Go.Proofs.YtdgipencedlbmaaGreatDoorW.PrintMore Go.Proofs.YtdgipencedlbmaaGreatDoor.Hand

set_option maxHeartbeats 2000000 in
set_option maxRecDepth 100000 in
theorem Texts_calls (kk : Int) (s : ByteArray) (n : Int) (z : ByteArray) (before : Int) (w : World) (hG : GOOD w) (hs : z.size ≤ 140737488351232) :
    Calls Tryz.prog 8 #[.agg #[.int .i64 kk, .string s, .int .i64 n], .string z, .int .i64 before] w fun e w' => e = .returned (.bool true) ∧ Below w.heap.size w w' := by
  have HZ := Lib.hid hs
  have hcases : decide (60 < (s.size : Int)) = true ∨ (decide (60 < (s.size : Int)) = false ∧ ((decide (300 < (z.size : Int)) = true ∧ decide ((z.size : Int) ≤ 4096) = true) ∨ (decide (300 < (z.size : Int)) = true ∧ decide ((z.size : Int) ≤ 4096) = false ∧ decide (8192 < (z.size : Int)) = true)
      ∨ (decide (300 < (z.size : Int)) = true ∧ decide ((z.size : Int) ≤ 4096) = false ∧ decide (8192 < (z.size : Int)) = false) ∨ (decide (300 < (z.size : Int)) = false ∧ decide (8192 < (z.size : Int)) = false))) := by
    by_cases h1 : 60 < (s.size : Int)
    · exact Or.inl (decide_eq_true h1)
    · refine Or.inr ⟨decide_eq_false h1, ?_⟩
      by_cases h2 : 300 < (z.size : Int)
      · by_cases h3 : (z.size : Int) ≤ 4096
        · exact Or.inl ⟨decide_eq_true h2, decide_eq_true h3⟩
        · by_cases h4 : 8192 < (z.size : Int)
          · exact Or.inr (Or.inl ⟨decide_eq_true h2, decide_eq_false h3, decide_eq_true h4⟩)
          · exact Or.inr (Or.inr (Or.inl ⟨decide_eq_true h2, decide_eq_false h3, decide_eq_false h4⟩))
      · exact Or.inr (Or.inr (Or.inr ⟨decide_eq_false h2, decide_eq_false (by omega)⟩))
  obtain ⟨t, ht⟩ : ∃ t, textS kk s n = t := ⟨_, rfl⟩
  obtain ⟨r, hr⟩ : ∃ r, readS z.data.toList = r := ⟨_, rfl⟩
  obtain ⟨v, hv⟩ : ∃ v, sumS before z.data.toList = v := ⟨_, rfl⟩
  have HT := Lib.hid ht
  have HRD := Lib.hid hr
  have HSM := Lib.hid (show ∀ w : World, Calls Tryz.prog 37 #[.int .i64 before, .string z] w fun e w' => e = .returned (.int .i64 v) ∧ Below w.heap.size w w' from fun w => by rw [← hv]; exact Sum_calls before z w (by omega))
  have HRSM := Lib.hid (show ∀ w : World, Calls Tryz.prog 38 #[.int .i64 before, .string z] w fun e w' => e = .returned (.int .i64 v) ∧ w = w' from fun w => by rw [← hv]; exact rSum_calls before z w (by omega))
  clear ht hr hv hs
  rcases hcases with e1 | ⟨e1, ⟨e2, e3⟩ | ⟨e2, e3, e4⟩ | ⟨e2, e3, e4⟩ | ⟨e2, e4⟩⟩
  · go_enter Tryz.func8, Tryz.ntmps8
    go_wp2_with (first
      | ((with_reducible refine box_abs rfl 24 _ rfl #[.int .i64 kk, .string s, .int .i64 n] ?hx ?_); (case hx => rfl); intro b hb w1 hb1 hB1 hs1; have HE1 := Lib.hid hb1; obtain ⟨k0, k1, k2⟩ := entry34 hb1; have HB1 := Lib.hid hB1; have HBL := Lib.hid (show w.heap.size ≤ b by rw [hb]; exact Nat.le_refl _); clear hb hb1 hB1 hs1)
      | (go_at_call 15; (with_reducible refine (awake_calls w1 (hG.below HB1.out)).mono ?_); rintro e w2 ⟨rfl, hB2⟩; have HB2 := Lib.hid (below_then HB1.out hB2); clear hB2))
    go_ret
    exact ⟨rfl, HB2.out⟩
  · go_enter Tryz.func8, Tryz.ntmps8
    go_wp2_with (first
      | ((with_reducible refine box_abs rfl 24 _ rfl #[.int .i64 kk, .string s, .int .i64 n] ?hx ?_); (case hx => rfl); intro b hb w1 hb1 hB1 hs1; have HE1 := Lib.hid hb1; obtain ⟨k0, k1, k2⟩ := entry34 hb1; have HB1 := Lib.hid hB1; have HBL := Lib.hid (show w.heap.size ≤ b by rw [hb]; exact Nat.le_refl _); clear hb hb1 hB1 hs1)
      | (go_at_call 15; (with_reducible refine (awake_calls w1 (hG.below HB1.out)).mono ?_); rintro e w2 ⟨rfl, hB2⟩; have HB2 := Lib.hid (below_then HB1.out hB2); clear hB2))
    go_ret
    exact ⟨rfl, HB2.out⟩
  · go_enter Tryz.func8, Tryz.ntmps8
    go_wp2_with (first
      | ((with_reducible refine box_abs rfl 24 _ rfl #[.int .i64 kk, .string s, .int .i64 n] ?hx ?_); (case hx => rfl); intro b hb w1 hb1 hB1 hs1; have HE1 := Lib.hid hb1; obtain ⟨k0, k1, k2⟩ := entry34 hb1; have HB1 := Lib.hid hB1; have HBL := Lib.hid (show w.heap.size ≤ b by rw [hb]; exact Nat.le_refl _); clear hb hb1 hB1 hs1)
      | (go_at_call 15; (with_reducible refine (awake_calls w1 (hG.below HB1.out)).mono ?_); rintro e w2 ⟨rfl, hB2⟩; have HB2 := Lib.hid (below_then HB1.out hB2); clear hB2))
    go_ret
    exact ⟨rfl, HB2.out⟩
  · go_enter Tryz.func8, Tryz.ntmps8
    go_wp2_with (first
      | ((with_reducible refine box_abs rfl 24 _ rfl #[.int .i64 kk, .string s, .int .i64 n] ?hx ?_); (case hx => rfl); intro b hb w1 hb1 hB1 hs1; have HE1 := Lib.hid hb1; obtain ⟨k0, k1, k2⟩ := entry34 hb1; have HB1 := Lib.hid hB1; have HBL := Lib.hid (show w.heap.size ≤ b by rw [hb]; exact Nat.le_refl _); clear hb hb1 hB1 hs1)
      | (go_at_call 33; (with_reducible refine (Text_is kk s n t HT.out w1 (hG.below HB1.out)).mono ?_); rintro e w2 ⟨rfl, hB2⟩; have HB2 := Lib.hid (below_then HB1.out hB2); have HE2 := Lib.hid (below_keeps hB2 (blk_lt HE1.out) HE1.out); obtain ⟨k0, k1, k2⟩ := entry34 HE2.out; clear hB2)
      | (go_at_call 34; (with_reducible refine (rText_calls kk s n t HT.out w2).mono ?_); rintro e w3 ⟨rfl, hB3⟩; have HB3 := Lib.hid (below_then HB2.out hB3); have HE3 := Lib.hid (below_keeps hB3 (blk_lt HE2.out) HE2.out); obtain ⟨k0, k1, k2⟩ := entry34 HE3.out; clear hB3)
      | (go_at_call 35; (with_reducible refine (Read_calls z w3 (hG.below HB3.out) r HRD.out).mono ?_); rintro e w4 ⟨rfl, hB4⟩; have HB4 := Lib.hid (below_then HB3.out hB4); have HE4 := Lib.hid (below_keeps hB4 (blk_lt HE3.out) HE3.out); obtain ⟨k0, k1, k2⟩ := entry34 HE4.out; clear hB4)
      | ((with_reducible refine alloc_event (o := ⟨some 11, _, _, _, _, _⟩) rfl 24 rfl (.agg (cellsE z24)) zero24 ?_); intro p hp w5 hp1 hB5 hs5; have HH5 := Lib.hid hp1; have HLp := Lib.hid (show w4.heap.size ≤ p by rw [hp]; exact Nat.le_refl _); have HB5 := Lib.hid (below_then HB4.out hB5); have HE5 := Lib.hid (below_keeps hB5 (blk_lt HE4.out) HE4.out); obtain ⟨k0, k1, k2⟩ := entry34 HE5.out; clear hp hp1 hB5 hs5)
      | ((with_reducible refine store_row_event rfl 24 _ _ rfl p (cellsE r.1) ?hx ?hy 24 (cellsE z24) ?hg ?hi ?ho ?h1 ?_); (case hg => exact HH5.out); (case ho => rfl); (case hx => (go_simp; done)); (case hy => first | rfl | (unfold cellsE; go_simp; done) | (go_simp; rfl)); (case hi => exact info24s _); (case h1 => exact cellsE_one _); intro w6 hp2 hB6 hs6; have HG6 := Lib.hid hp2; have HB6 := Lib.hid (hB6.below HB5.out (Nat.le_trans HB4.out.size HLp.out) HB5.out.size); clear hp2 hB6 hs6)
      | (go_at_call 36; (with_reducible refine (rRead_calls z w6 r HRD.out).mono ?_); rintro e w7 ⟨rfl, hB7⟩; have HB7 := Lib.hid (below_then HB6.out hB7); have HG7 := Lib.hid (below_keeps hB7 (blk_lt HG6.out) HG6.out); clear hB7)
      | ((with_reducible refine alloc_event (o := ⟨some 13, _, _, _, _, _⟩) rfl 34 rfl (.agg (cellsE z24)) zero34 ?_); intro q hq w8 hq1 hB8 hs8; have HH8 := Lib.hid hq1; have HLq := Lib.hid (show w7.heap.size ≤ q by rw [hq]; exact Nat.le_refl _); have HG8 := Lib.hid (below_keeps hB8 (blk_lt HG7.out) HG7.out); have HPQ := Lib.hid (show p < q by rw [hq]; exact blk_lt HG7.out); have HB8 := Lib.hid (below_then HB7.out hB8); clear hq hq1 hB8 hs8)
      | ((with_reducible refine store_row_event rfl 34 _ _ rfl q (cellsE r.1) ?hx ?hy 34 (cellsE z24) ?hg ?hi ?ho ?h1 ?_); (case hg => exact HH8.out); (case ho => rfl); (case hx => (go_simp; done)); (case hy => first | rfl | (unfold cellsE; go_simp; done) | (go_simp; rfl)); (case hi => exact info34s _); (case h1 => exact cellsE_one _); intro w9 hq2 hB9 hs9; have HG9 := Lib.hid hq2; have HP9 := Lib.hid (hB9.keeps (Nat.ne_of_lt HPQ.out) HG8.out); have HB9 := Lib.hid (hB9.below HB8.out (Nat.le_trans HB7.out.size HLq.out) HB8.out.size); obtain ⟨p0, p1, p2⟩ := entry_cells3 HP9.out; obtain ⟨o0, o1, o2⟩ := entry_cells3 HG9.out; clear hq2 hB9 hs9)
      | (go_at_call 15; (with_reducible refine (awake_calls w9 (hG.below HB9.out)).mono ?_); rintro e w10 ⟨rfl, hB10⟩; have HP10 := Lib.hid (below_keeps hB10 (blk_lt HP9.out) HP9.out); have HQ10 := Lib.hid (below_keeps hB10 (blk_lt HG9.out) HG9.out); have HB10 := Lib.hid (below_then HB9.out hB10); obtain ⟨p0, p1, p2⟩ := entry_cells3 HP10.out; obtain ⟨o0, o1, o2⟩ := entry_cells3 HQ10.out; clear hB10)
      | (go_at_call 37; (with_reducible refine (HSM.out w10).mono ?_); rintro e w11 ⟨rfl, hB11⟩; have HB11 := Lib.hid (below_then HB10.out hB11); clear hB11)
      | (go_at_call 38; (with_reducible refine (HRSM.out w11).mono ?_); rintro e w12 ⟨rfl, rfl⟩))
    go_ret
    exact ⟨rfl, HB11.out⟩
  · go_enter Tryz.func8, Tryz.ntmps8
    go_wp2_with (first
      | ((with_reducible refine box_abs rfl 24 _ rfl #[.int .i64 kk, .string s, .int .i64 n] ?hx ?_); (case hx => rfl); intro b hb w1 hb1 hB1 hs1; have HE1 := Lib.hid hb1; obtain ⟨k0, k1, k2⟩ := entry34 hb1; have HB1 := Lib.hid hB1; have HBL := Lib.hid (show w.heap.size ≤ b by rw [hb]; exact Nat.le_refl _); clear hb hb1 hB1 hs1)
      | (go_at_call 33; (with_reducible refine (Text_is kk s n t HT.out w1 (hG.below HB1.out)).mono ?_); rintro e w2 ⟨rfl, hB2⟩; have HB2 := Lib.hid (below_then HB1.out hB2); have HE2 := Lib.hid (below_keeps hB2 (blk_lt HE1.out) HE1.out); obtain ⟨k0, k1, k2⟩ := entry34 HE2.out; clear hB2)
      | (go_at_call 34; (with_reducible refine (rText_calls kk s n t HT.out w2).mono ?_); rintro e w3 ⟨rfl, hB3⟩; have HB3 := Lib.hid (below_then HB2.out hB3); have HE3 := Lib.hid (below_keeps hB3 (blk_lt HE2.out) HE2.out); obtain ⟨k0, k1, k2⟩ := entry34 HE3.out; clear hB3)
      | (go_at_call 35; (with_reducible refine (Read_calls z w3 (hG.below HB3.out) r HRD.out).mono ?_); rintro e w4 ⟨rfl, hB4⟩; have HB4 := Lib.hid (below_then HB3.out hB4); have HE4 := Lib.hid (below_keeps hB4 (blk_lt HE3.out) HE3.out); obtain ⟨k0, k1, k2⟩ := entry34 HE4.out; clear hB4)
      | ((with_reducible refine alloc_event (o := ⟨some 11, _, _, _, _, _⟩) rfl 24 rfl (.agg (cellsE z24)) zero24 ?_); intro p hp w5 hp1 hB5 hs5; have HH5 := Lib.hid hp1; have HLp := Lib.hid (show w4.heap.size ≤ p by rw [hp]; exact Nat.le_refl _); have HB5 := Lib.hid (below_then HB4.out hB5); have HE5 := Lib.hid (below_keeps hB5 (blk_lt HE4.out) HE4.out); obtain ⟨k0, k1, k2⟩ := entry34 HE5.out; clear hp hp1 hB5 hs5)
      | ((with_reducible refine store_row_event rfl 24 _ _ rfl p (cellsE r.1) ?hx ?hy 24 (cellsE z24) ?hg ?hi ?ho ?h1 ?_); (case hg => exact HH5.out); (case ho => rfl); (case hx => (go_simp; done)); (case hy => first | rfl | (unfold cellsE; go_simp; done) | (go_simp; rfl)); (case hi => exact info24s _); (case h1 => exact cellsE_one _); intro w6 hp2 hB6 hs6; have HG6 := Lib.hid hp2; have HB6 := Lib.hid (hB6.below HB5.out (Nat.le_trans HB4.out.size HLp.out) HB5.out.size); clear hp2 hB6 hs6)
      | (go_at_call 36; (with_reducible refine (rRead_calls z w6 r HRD.out).mono ?_); rintro e w7 ⟨rfl, hB7⟩; have HB7 := Lib.hid (below_then HB6.out hB7); have HG7 := Lib.hid (below_keeps hB7 (blk_lt HG6.out) HG6.out); clear hB7)
      | ((with_reducible refine alloc_event (o := ⟨some 13, _, _, _, _, _⟩) rfl 34 rfl (.agg (cellsE z24)) zero34 ?_); intro q hq w8 hq1 hB8 hs8; have HH8 := Lib.hid hq1; have HLq := Lib.hid (show w7.heap.size ≤ q by rw [hq]; exact Nat.le_refl _); have HG8 := Lib.hid (below_keeps hB8 (blk_lt HG7.out) HG7.out); have HPQ := Lib.hid (show p < q by rw [hq]; exact blk_lt HG7.out); have HB8 := Lib.hid (below_then HB7.out hB8); clear hq hq1 hB8 hs8)
      | ((with_reducible refine store_row_event rfl 34 _ _ rfl q (cellsE r.1) ?hx ?hy 34 (cellsE z24) ?hg ?hi ?ho ?h1 ?_); (case hg => exact HH8.out); (case ho => rfl); (case hx => (go_simp; done)); (case hy => first | rfl | (unfold cellsE; go_simp; done) | (go_simp; rfl)); (case hi => exact info34s _); (case h1 => exact cellsE_one _); intro w9 hq2 hB9 hs9; have HG9 := Lib.hid hq2; have HP9 := Lib.hid (hB9.keeps (Nat.ne_of_lt HPQ.out) HG8.out); have HB9 := Lib.hid (hB9.below HB8.out (Nat.le_trans HB7.out.size HLq.out) HB8.out.size); obtain ⟨p0, p1, p2⟩ := entry_cells3 HP9.out; obtain ⟨o0, o1, o2⟩ := entry_cells3 HG9.out; clear hq2 hB9 hs9)
      | (go_at_call 15; (with_reducible refine (awake_calls w9 (hG.below HB9.out)).mono ?_); rintro e w10 ⟨rfl, hB10⟩; have HP10 := Lib.hid (below_keeps hB10 (blk_lt HP9.out) HP9.out); have HQ10 := Lib.hid (below_keeps hB10 (blk_lt HG9.out) HG9.out); have HB10 := Lib.hid (below_then HB9.out hB10); obtain ⟨p0, p1, p2⟩ := entry_cells3 HP10.out; obtain ⟨o0, o1, o2⟩ := entry_cells3 HQ10.out; clear hB10)
      | (go_at_call 37; (with_reducible refine (HSM.out w10).mono ?_); rintro e w11 ⟨rfl, hB11⟩; have HB11 := Lib.hid (below_then HB10.out hB11); clear hB11)
      | (go_at_call 38; (with_reducible refine (HRSM.out w11).mono ?_); rintro e w12 ⟨rfl, rfl⟩))
    go_ret
    exact ⟨rfl, HB11.out⟩
end Go.Proofs.YtdgipencedlbmaaGreatDoor.Pr
