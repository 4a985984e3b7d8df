/- What a row's reading gives the walks: entries, strings and numbers among the arguments. RegisterNames returns true. -/
import Derived.Test.YtdgipencedlbmaaGreatDoorD14
import Derived.Test.YtdgipencedlbmaaGreatDoorT20
import Derived.Test.YtdgipencedlbmaaGreatDoorJ23
import Derived.Test.YtdgipencedlbmaaGreatDoorD07
namespace Go.Proofs.YtdgipencedlbmaaGreatDoor.Pr
open Go.ChangeShapes Go.WideShapes Go.RowKit Go.Proofs.YtdgipencedlbmaaGreatDoorW.PrintWords Go.Proofs.YtdgipencedlbmaaGreatDoor.Hand
set_option linter.unusedVariables false
set_option maxRecDepth 100000

section
variable {H : Type} {enc : TypeId × Value → H} {W : World} {base : Nat} {spare : Nat → Bool} {held : Bool}
/-- Entries among the arguments. -/
theorem ents_of {a : Option Addr} {len cap : Nat} {d : DataW H} {ps : List MemPlace} (h : DataW.Trod enc Tryz.prog W base spare held 41 (.slice a len cap) d ps) :
    ∃ l : List S24, l.length = len ∧ len ≤ cap ∧ Kd.C k24 W a len l ∧ (d = .nil ∧ len = 0 ∨ ∃ elems sp, d = .slice elems sp ∧ elems.length = len) := by
  obtain ⟨fuel, hf⟩ := h
  rcases Go.Deep.open_slice Tryz.underlying41 hf with ⟨hcs, hx⟩ | ⟨a', len', cap', m, n, D, Pl, hcs, _, hl, hm, hmm, hx, each⟩
  · simp [Value.cells] at hcs
    obtain ⟨rfl, rfl, rfl⟩ := hcs
    exact ⟨[], rfl, Nat.le_refl _, ⟨rfl, by omega, fun h => by omega⟩, Or.inl ⟨(Prod.mk.inj hx).1, rfl⟩⟩
  · simp [Value.cells] at hcs
    obtain ⟨rfl, rfl, rfl⟩ := hcs
    have hlm : len ≤ m := by rw [hmm]; split <;> omega
    have ex : ∀ i, ∃ y : S24, i < len → ∀ j u, (cellsE y).toList[j]? = some u → W.cell? (a'.add (i * 3 + j)) = some u := by
      intro i
      by_cases hi : i < len
      · obtain ⟨cs', hc, ht⟩ := each i (by omega)
        obtain ⟨y, rfl⟩ := entry_cells ht
        refine ⟨y, fun _ j u hj => ?_⟩
        rw [c24] at hc
        have hj3 : j < 3 := by
          have := (List.getElem?_eq_some_iff.mp hj).1
          exact this
        have := (World.cells?_some hc).2.2 j hj3
        rw [hj, Addr.add_add] at this
        exact this
      · exact ⟨z24, fun h => absurd h hi⟩
    obtain ⟨f, hf'⟩ := Classical.axiomOfChoice ex
    refine ⟨(List.range len).map f, by simp, hl, ⟨by simp, by simp only [maxLen] at hm; omega, fun _ => ⟨a', rfl, fun j p hp => ?_⟩⟩, Or.inr ⟨_, _, (Prod.mk.inj hx).1, by simp⟩⟩
    rw [List.getElem?_map] at hp
    have hj : j < len := by
      rcases Nat.lt_or_ge j len with h1 | h1
      · exact h1
      · rw [List.getElem?_eq_none (by simpa using h1)] at hp; cases hp
    rw [List.getElem?_range hj] at hp
    obtain rfl : f j = p := Option.some.inj hp
    exact ⟨(cellsE (f j)).toList, rfl, k24.K_of_M (k24_mkM W 0 (fun _ => True) (f j)), fun i u hi => hf' j hj i u hi⟩
theorem str_of {s : ByteArray} {d : DataW H} {ps : List MemPlace} (h : DataW.Trod enc Tryz.prog W base spare held 9 (.string s) d ps) : d = .lit (.string s.data.toList) := by
  obtain ⟨fuel, hf⟩ := h
  obtain ⟨s', e, hx, _⟩ := DataW.trod_string Tryz.underlying9 hf
  simp [Value.cells] at e
  subst e
  exact (Prod.mk.inj hx).1
theorem u16_of {n : Int} {d : DataW H} {ps : List MemPlace} (h : DataW.Trod enc Tryz.prog W base spare held 79 (.int .u16 n) d ps) : 0 ≤ n ∧ n < 65536 := by
  obtain ⟨fuel, hf⟩ := h
  obtain ⟨n', e, _, hw⟩ := DataW.trod_int Tryz.underlying79 hf
  simp [Value.cells] at e
  subst e
  simp [Lit.wf] at hw
  have h1 : IntKind.u16.min = 0 := by decide
  have h2 : IntKind.u16.max = 65535 := by decide
  omega
theorem u8_of {n : Int} {d : DataW H} {ps : List MemPlace} (h : DataW.Trod enc Tryz.prog W base spare held 5 (.int .u8 n) d ps) : 0 ≤ n ∧ n < 256 := by
  obtain ⟨fuel, hf⟩ := h
  obtain ⟨n', e, _, hw⟩ := DataW.trod_int Tryz.underlying5 hf
  simp [Value.cells] at e
  subst e
  simp [Lit.wf] at hw
  have h1 : IntKind.u8.min = 0 := by decide
  have h2 : IntKind.u8.max = 255 := by decide
  omega
end
end Go.Proofs.YtdgipencedlbmaaGreatDoor.Pr
namespace Go.Proofs.YtdgipencedlbmaaGreatDoor.Pr
set_option linter.unusedVariables false
set_option linter.unusedSimpArgs false
open Go.RowKit Go.Proofs.YtdgipencedlbmaaGreatDoorW.PrintWords Go.Proofs.YtdgipencedlbmaaGreatDoorW.PrintLast Go.Proofs.YtdgipencedlbmaaGreatDoorW.PrintMore Go.Proofs.YtdgipencedlbmaaGreatDoor.Hand

theorem sumS_cat (h : Int) (a b : List UInt8) : sumS (sumS h a) b = sumS h (a ++ b) := by
  have : 0 ≤ sumS h a ∧ sumS h a < 1000003 := by
    have key : ∀ (l : List UInt8) (x : Int), 0 ≤ x ∧ x < 1000003 → 0 ≤ l.foldl stepS x ∧ l.foldl stepS x < 1000003 := by
      intro l
      induction l with
      | nil => intro x hx; exact hx
      | cons c l ih => intro x _; exact ih _ ⟨Int.emod_nonneg _ (by decide), Int.emod_lt_of_pos _ (by decide)⟩
    exact key a _ ⟨Int.emod_nonneg _ (by decide), Int.emod_lt_of_pos _ (by decide)⟩
  unfold sumS at this ⊢
  rw [List.foldl_append, Int.emod_eq_of_lt this.1 this.2]
theorem Sum_is (h : Int) (s : ByteArray) (v : Int) (hv : sumS h s.data.toList = v) (hs : s.size ≤ 140737488355328) (w : World) : Calls Tryz.prog 37 #[.int .i64 h, .string s] w fun e w' => e = .returned (.int .i64 v) ∧ Below w.heap.size w w' := by
  subst hv
  exact Sum_calls h s w hs
theorem right_not {k : Int} {s : ByteArray} {n : Int} (h : rightErr k s n ≠ 0) : nameErr s ≠ 0 ∨ (nameErr s = 0 ∧ (k < 0 ∨ (¬ k < 0 ∧ (6 < k ∨ (¬ 6 < k ∧ (n < 0 ∨ (¬ n < 0 ∧ (1048576 < n ∨ (¬ 1048576 < n ∧ ((n = 0 ∧ ¬ 5 ≤ k) ∨ (n ≠ 0 ∧ 5 ≤ k))))))))))) := by
  unfold rightErr at h
  by_cases h0 : nameErr s = 0
  · refine Or.inr ⟨h0, ?_⟩
    split at h
    · omega
    · rw [if_neg (by simpa using h0)] at h
      split at h
      · omega
      · exact absurd rfl h
  · exact Or.inl h0

set_option maxHeartbeats 2000000 in
set_option maxRecDepth 100000 in
theorem Names_calls (kk : Int) (s : ByteArray) (n : Int) (a b : ByteArray) (w : World) (hG : GOOD w) :
    Calls Tryz.prog 9 #[.agg #[.int .i64 kk, .string s, .int .i64 n], .string a, .string b] w fun e w' => e = .returned (.bool true) ∧ Below w.heap.size w w' := by
  have hcases : decide (60 < (s.size : Int)) = true ∨ (decide (60 < (s.size : Int)) = false ∧ decide (300 < (a.size : Int)) = true) ∨ (decide (60 < (s.size : Int)) = false ∧ decide (300 < (a.size : Int)) = false ∧ decide (300 < (b.size : Int)) = true)
      ∨ (decide (60 < (s.size : Int)) = false ∧ decide (300 < (a.size : Int)) = false ∧ decide (300 < (b.size : Int)) = false) := by
    by_cases h1 : 60 < (s.size : Int)
    · exact Or.inl (decide_eq_true h1)
    · by_cases h2 : 300 < (a.size : Int)
      · exact Or.inr (Or.inl ⟨decide_eq_false h1, decide_eq_true h2⟩)
      · by_cases h3 : 300 < (b.size : Int)
        · exact Or.inr (Or.inr (Or.inl ⟨decide_eq_false h1, decide_eq_false h2, decide_eq_true h3⟩))
        · exact Or.inr (Or.inr (Or.inr ⟨decide_eq_false h1, decide_eq_false h2, decide_eq_false h3⟩))
  rcases hcases with e1 | ⟨e1, e2⟩ | ⟨e1, e2, e3⟩ | ⟨e1, e2, e3⟩
  · skip
    go_enter Tryz.func9, Tryz.ntmps9
    go_wp2_with (first
      | ((with_reducible refine box_abs rfl 24 _ rfl #[.int .i64 kk, .string s, .int .i64 n] ?hx ?_); (case hx => rfl); intro b0 hb w1 hb1 hB1 hs1; have HE1 := Lib.hid hb1; obtain ⟨k0, k1, k2⟩ := entry34 hb1; have HB1 := Lib.hid hB1; have HBL := Lib.hid (show w.heap.size ≤ b0 by rw [hb]; exact Nat.le_refl _); clear hb hb1 hB1 hs1)
      | (go_at_call 15; (with_reducible refine (awake_calls w1 (hG.below HB1.out)).mono ?_); rintro e w2 ⟨rfl, hB2⟩; have HB2 := Lib.hid (below_then HB1.out hB2); clear hB2))
    go_ret
    exact ⟨rfl, HB2.out⟩
  · skip
    go_enter Tryz.func9, Tryz.ntmps9
    go_wp2_with (first
      | ((with_reducible refine box_abs rfl 24 _ rfl #[.int .i64 kk, .string s, .int .i64 n] ?hx ?_); (case hx => rfl); intro b0 hb w1 hb1 hB1 hs1; have HE1 := Lib.hid hb1; obtain ⟨k0, k1, k2⟩ := entry34 hb1; have HB1 := Lib.hid hB1; have HBL := Lib.hid (show w.heap.size ≤ b0 by rw [hb]; exact Nat.le_refl _); clear hb hb1 hB1 hs1)
      | (go_at_call 15; (with_reducible refine (awake_calls w1 (hG.below HB1.out)).mono ?_); rintro e w2 ⟨rfl, hB2⟩; have HB2 := Lib.hid (below_then HB1.out hB2); clear hB2))
    go_ret
    exact ⟨rfl, HB2.out⟩
  · skip
    go_enter Tryz.func9, Tryz.ntmps9
    go_wp2_with (first
      | ((with_reducible refine box_abs rfl 24 _ rfl #[.int .i64 kk, .string s, .int .i64 n] ?hx ?_); (case hx => rfl); intro b0 hb w1 hb1 hB1 hs1; have HE1 := Lib.hid hb1; obtain ⟨k0, k1, k2⟩ := entry34 hb1; have HB1 := Lib.hid hB1; have HBL := Lib.hid (show w.heap.size ≤ b0 by rw [hb]; exact Nat.le_refl _); clear hb hb1 hB1 hs1)
      | (go_at_call 15; (with_reducible refine (awake_calls w1 (hG.below HB1.out)).mono ?_); rintro e w2 ⟨rfl, hB2⟩; have HB2 := Lib.hid (below_then HB1.out hB2); clear hB2))
    go_ret
    exact ⟨rfl, HB2.out⟩
  · obtain ⟨v, hv⟩ : ∃ v, sumS 1 (a ++ b).data.toList = v := ⟨_, rfl⟩
    obtain ⟨u, hu⟩ : ∃ u, sumS 1 a.data.toList = u := ⟨_, rfl⟩
    have hb' : sumS u b.data.toList = v := by rw [← hu, sumS_cat, ← hv, ByteArray.data_append, Array.toList_append]
    have z2 := of_decide_eq_false e2
    have z3 := of_decide_eq_false e3
    have z1 := of_decide_eq_false e1
    have hab : ¬ 9223372036854775807 < a.size + b.size := by omega
    have HSC := Lib.hid (Sum_is 1 (a ++ b) v hv (by rw [ByteArray.size_append]; omega))
    have HSA := Lib.hid (Sum_is 1 a u hu (by omega))
    have HSB := Lib.hid (Sum_is u b v hb' (by omega))
    obtain ⟨t, ht⟩ : ∃ t, textS kk s n = t := ⟨_, rfl⟩
    have HT := Lib.hid ht
    have hc : (t.2 != 0) = true ∧ rightErr kk s n ≠ 0 ∨ (t.2 != 0) = false ∧ rightErr kk s n = 0 ∧ t.1 = bytesA (textE ⟨kk, s, n⟩) := by
      rw [← ht]
      unfold textS
      by_cases h : rightErr kk s n = 0
      · refine Or.inr ⟨?_, h, ?_⟩ <;> rw [if_neg (by simpa using h)]
        · rfl
        · rfl
      · refine Or.inl ⟨?_, h⟩
        rw [if_pos h]
        exact bne_iff_ne.mpr h
    clear ht hv hu hb' z1 z2 z3
    rcases hc with ⟨e4, hr⟩ | ⟨e4, hr, ht1⟩
    · obtain ⟨m, hm⟩ : ∃ m, nameErr s = m := ⟨_, rfl⟩
      have HNM := Lib.hid hm
      have hcs := right_not hr
      rw [hm] at hcs
      clear hm
      rcases hcs with f1 | ⟨f1, f2 | ⟨f2, f3 | ⟨f3, f4 | ⟨f4, f5 | ⟨f5, ⟨f6, f7⟩ | ⟨f6, f7⟩⟩⟩⟩⟩⟩
      · skip
        have g1 : (m != 0) = true := bne_iff_ne.mpr f1
        go_enter Tryz.func9, Tryz.ntmps9
        go_wp2_with (first
          | ((with_reducible refine box_abs rfl 24 _ rfl #[.int .i64 kk, .string s, .int .i64 n] ?hx ?_); (case hx => rfl); intro b0 hb w1 hb1 hB1 hs1; have HE1 := Lib.hid hb1; obtain ⟨k0, k1, k2⟩ := entry34 hb1; have HB1 := Lib.hid hB1; have HBL := Lib.hid (show w.heap.size ≤ b0 by rw [hb]; exact Nat.le_refl _); clear hb hb1 hB1 hs1)
          | (go_at_call 37; (with_reducible refine (HSC.out w1).mono ?_); rintro e w2 ⟨rfl, hB2⟩; have HB2 := Lib.hid (below_then HB1.out hB2); have HE2 := Lib.hid (below_keeps hB2 (blk_lt HE1.out) HE1.out); obtain ⟨k0, k1, k2⟩ := entry34 HE2.out; clear hB2)
          | (go_at_call 37; (with_reducible refine (HSA.out w2).mono ?_); rintro e w3 ⟨rfl, hB3⟩; have HB3 := Lib.hid (below_then HB2.out hB3); have HE3 := Lib.hid (below_keeps hB3 (blk_lt HE2.out) HE2.out); obtain ⟨k0, k1, k2⟩ := entry34 HE3.out; clear hB3)
          | (go_at_call 37; (with_reducible refine (HSB.out w3).mono ?_); rintro e w4 ⟨rfl, hB4⟩; have HB4 := Lib.hid (below_then HB3.out hB4); have HE4 := Lib.hid (below_keeps hB4 (blk_lt HE3.out) HE3.out); obtain ⟨k0, k1, k2⟩ := entry34 HE4.out; clear hB4)
          | (go_at_call 33; (with_reducible refine (Text_is kk s n t HT.out w4 (hG.below HB4.out)).mono ?_); rintro e w5 ⟨rfl, hB5⟩; have HB5 := Lib.hid (below_then HB4.out hB5); have HE5 := Lib.hid (below_keeps hB5 (blk_lt HE4.out) HE4.out); obtain ⟨k0, k1, k2⟩ := entry34 HE5.out; clear hB5)
          | (go_at_call 39; (with_reducible refine (rName_is s m HNM.out w5).mono ?_); rintro e w6 ⟨rfl, hB6⟩; have HB6 := Lib.hid (below_then HB5.out hB6); have HE6 := Lib.hid (below_keeps hB6 (blk_lt HE5.out) HE5.out); obtain ⟨k0, k1, k2⟩ := entry34 HE6.out; clear hB6)
          | (go_at_call 15; (with_reducible refine (awake_calls w6 (hG.below HB6.out)).mono ?_); rintro e w7 ⟨rfl, hB7⟩; have HB7 := Lib.hid (below_then HB6.out hB7); clear hB7))
        go_ret
        exact ⟨rfl, HB7.out⟩
      · skip
        have g1 : (m != 0) = false := bne_eq_false_iff_eq.mpr f1
        have g2 : decide (kk < 0) = true := decide_eq_true f2
        go_enter Tryz.func9, Tryz.ntmps9
        go_wp2_with (first
          | ((with_reducible refine box_abs rfl 24 _ rfl #[.int .i64 kk, .string s, .int .i64 n] ?hx ?_); (case hx => rfl); intro b0 hb w1 hb1 hB1 hs1; have HE1 := Lib.hid hb1; obtain ⟨k0, k1, k2⟩ := entry34 hb1; have HB1 := Lib.hid hB1; have HBL := Lib.hid (show w.heap.size ≤ b0 by rw [hb]; exact Nat.le_refl _); clear hb hb1 hB1 hs1)
          | (go_at_call 37; (with_reducible refine (HSC.out w1).mono ?_); rintro e w2 ⟨rfl, hB2⟩; have HB2 := Lib.hid (below_then HB1.out hB2); have HE2 := Lib.hid (below_keeps hB2 (blk_lt HE1.out) HE1.out); obtain ⟨k0, k1, k2⟩ := entry34 HE2.out; clear hB2)
          | (go_at_call 37; (with_reducible refine (HSA.out w2).mono ?_); rintro e w3 ⟨rfl, hB3⟩; have HB3 := Lib.hid (below_then HB2.out hB3); have HE3 := Lib.hid (below_keeps hB3 (blk_lt HE2.out) HE2.out); obtain ⟨k0, k1, k2⟩ := entry34 HE3.out; clear hB3)
          | (go_at_call 37; (with_reducible refine (HSB.out w3).mono ?_); rintro e w4 ⟨rfl, hB4⟩; have HB4 := Lib.hid (below_then HB3.out hB4); have HE4 := Lib.hid (below_keeps hB4 (blk_lt HE3.out) HE3.out); obtain ⟨k0, k1, k2⟩ := entry34 HE4.out; clear hB4)
          | (go_at_call 33; (with_reducible refine (Text_is kk s n t HT.out w4 (hG.below HB4.out)).mono ?_); rintro e w5 ⟨rfl, hB5⟩; have HB5 := Lib.hid (below_then HB4.out hB5); have HE5 := Lib.hid (below_keeps hB5 (blk_lt HE4.out) HE4.out); obtain ⟨k0, k1, k2⟩ := entry34 HE5.out; clear hB5)
          | (go_at_call 39; (with_reducible refine (rName_is s m HNM.out w5).mono ?_); rintro e w6 ⟨rfl, hB6⟩; have HB6 := Lib.hid (below_then HB5.out hB6); have HE6 := Lib.hid (below_keeps hB6 (blk_lt HE5.out) HE5.out); obtain ⟨k0, k1, k2⟩ := entry34 HE6.out; clear hB6)
          | (go_at_call 15; (with_reducible refine (awake_calls w6 (hG.below HB6.out)).mono ?_); rintro e w7 ⟨rfl, hB7⟩; have HB7 := Lib.hid (below_then HB6.out hB7); clear hB7))
        go_ret
        exact ⟨rfl, HB7.out⟩
      · skip
        have g1 : (m != 0) = false := bne_eq_false_iff_eq.mpr f1
        have g2 : decide (kk < 0) = false := decide_eq_false f2
        have g3 : decide (6 < kk) = true := decide_eq_true f3
        go_enter Tryz.func9, Tryz.ntmps9
        go_wp2_with (first
          | ((with_reducible refine box_abs rfl 24 _ rfl #[.int .i64 kk, .string s, .int .i64 n] ?hx ?_); (case hx => rfl); intro b0 hb w1 hb1 hB1 hs1; have HE1 := Lib.hid hb1; obtain ⟨k0, k1, k2⟩ := entry34 hb1; have HB1 := Lib.hid hB1; have HBL := Lib.hid (show w.heap.size ≤ b0 by rw [hb]; exact Nat.le_refl _); clear hb hb1 hB1 hs1)
          | (go_at_call 37; (with_reducible refine (HSC.out w1).mono ?_); rintro e w2 ⟨rfl, hB2⟩; have HB2 := Lib.hid (below_then HB1.out hB2); have HE2 := Lib.hid (below_keeps hB2 (blk_lt HE1.out) HE1.out); obtain ⟨k0, k1, k2⟩ := entry34 HE2.out; clear hB2)
          | (go_at_call 37; (with_reducible refine (HSA.out w2).mono ?_); rintro e w3 ⟨rfl, hB3⟩; have HB3 := Lib.hid (below_then HB2.out hB3); have HE3 := Lib.hid (below_keeps hB3 (blk_lt HE2.out) HE2.out); obtain ⟨k0, k1, k2⟩ := entry34 HE3.out; clear hB3)
          | (go_at_call 37; (with_reducible refine (HSB.out w3).mono ?_); rintro e w4 ⟨rfl, hB4⟩; have HB4 := Lib.hid (below_then HB3.out hB4); have HE4 := Lib.hid (below_keeps hB4 (blk_lt HE3.out) HE3.out); obtain ⟨k0, k1, k2⟩ := entry34 HE4.out; clear hB4)
          | (go_at_call 33; (with_reducible refine (Text_is kk s n t HT.out w4 (hG.below HB4.out)).mono ?_); rintro e w5 ⟨rfl, hB5⟩; have HB5 := Lib.hid (below_then HB4.out hB5); have HE5 := Lib.hid (below_keeps hB5 (blk_lt HE4.out) HE4.out); obtain ⟨k0, k1, k2⟩ := entry34 HE5.out; clear hB5)
          | (go_at_call 39; (with_reducible refine (rName_is s m HNM.out w5).mono ?_); rintro e w6 ⟨rfl, hB6⟩; have HB6 := Lib.hid (below_then HB5.out hB6); have HE6 := Lib.hid (below_keeps hB6 (blk_lt HE5.out) HE5.out); obtain ⟨k0, k1, k2⟩ := entry34 HE6.out; clear hB6)
          | (go_at_call 15; (with_reducible refine (awake_calls w6 (hG.below HB6.out)).mono ?_); rintro e w7 ⟨rfl, hB7⟩; have HB7 := Lib.hid (below_then HB6.out hB7); clear hB7))
        go_ret
        exact ⟨rfl, HB7.out⟩
      · skip
        have g1 : (m != 0) = false := bne_eq_false_iff_eq.mpr f1
        have g2 : decide (kk < 0) = false := decide_eq_false f2
        have g3 : decide (6 < kk) = false := decide_eq_false f3
        have g4 : decide (n < 0) = true := decide_eq_true f4
        go_enter Tryz.func9, Tryz.ntmps9
        go_wp2_with (first
          | ((with_reducible refine box_abs rfl 24 _ rfl #[.int .i64 kk, .string s, .int .i64 n] ?hx ?_); (case hx => rfl); intro b0 hb w1 hb1 hB1 hs1; have HE1 := Lib.hid hb1; obtain ⟨k0, k1, k2⟩ := entry34 hb1; have HB1 := Lib.hid hB1; have HBL := Lib.hid (show w.heap.size ≤ b0 by rw [hb]; exact Nat.le_refl _); clear hb hb1 hB1 hs1)
          | (go_at_call 37; (with_reducible refine (HSC.out w1).mono ?_); rintro e w2 ⟨rfl, hB2⟩; have HB2 := Lib.hid (below_then HB1.out hB2); have HE2 := Lib.hid (below_keeps hB2 (blk_lt HE1.out) HE1.out); obtain ⟨k0, k1, k2⟩ := entry34 HE2.out; clear hB2)
          | (go_at_call 37; (with_reducible refine (HSA.out w2).mono ?_); rintro e w3 ⟨rfl, hB3⟩; have HB3 := Lib.hid (below_then HB2.out hB3); have HE3 := Lib.hid (below_keeps hB3 (blk_lt HE2.out) HE2.out); obtain ⟨k0, k1, k2⟩ := entry34 HE3.out; clear hB3)
          | (go_at_call 37; (with_reducible refine (HSB.out w3).mono ?_); rintro e w4 ⟨rfl, hB4⟩; have HB4 := Lib.hid (below_then HB3.out hB4); have HE4 := Lib.hid (below_keeps hB4 (blk_lt HE3.out) HE3.out); obtain ⟨k0, k1, k2⟩ := entry34 HE4.out; clear hB4)
          | (go_at_call 33; (with_reducible refine (Text_is kk s n t HT.out w4 (hG.below HB4.out)).mono ?_); rintro e w5 ⟨rfl, hB5⟩; have HB5 := Lib.hid (below_then HB4.out hB5); have HE5 := Lib.hid (below_keeps hB5 (blk_lt HE4.out) HE4.out); obtain ⟨k0, k1, k2⟩ := entry34 HE5.out; clear hB5)
          | (go_at_call 39; (with_reducible refine (rName_is s m HNM.out w5).mono ?_); rintro e w6 ⟨rfl, hB6⟩; have HB6 := Lib.hid (below_then HB5.out hB6); have HE6 := Lib.hid (below_keeps hB6 (blk_lt HE5.out) HE5.out); obtain ⟨k0, k1, k2⟩ := entry34 HE6.out; clear hB6)
          | (go_at_call 15; (with_reducible refine (awake_calls w6 (hG.below HB6.out)).mono ?_); rintro e w7 ⟨rfl, hB7⟩; have HB7 := Lib.hid (below_then HB6.out hB7); clear hB7))
        go_ret
        exact ⟨rfl, HB7.out⟩
      · skip
        have g1 : (m != 0) = false := bne_eq_false_iff_eq.mpr f1
        have g2 : decide (kk < 0) = false := decide_eq_false f2
        have g3 : decide (6 < kk) = false := decide_eq_false f3
        have g4 : decide (n < 0) = false := decide_eq_false f4
        have g5 : decide (1048576 < n) = true := decide_eq_true f5
        go_enter Tryz.func9, Tryz.ntmps9
        go_wp2_with (first
          | ((with_reducible refine box_abs rfl 24 _ rfl #[.int .i64 kk, .string s, .int .i64 n] ?hx ?_); (case hx => rfl); intro b0 hb w1 hb1 hB1 hs1; have HE1 := Lib.hid hb1; obtain ⟨k0, k1, k2⟩ := entry34 hb1; have HB1 := Lib.hid hB1; have HBL := Lib.hid (show w.heap.size ≤ b0 by rw [hb]; exact Nat.le_refl _); clear hb hb1 hB1 hs1)
          | (go_at_call 37; (with_reducible refine (HSC.out w1).mono ?_); rintro e w2 ⟨rfl, hB2⟩; have HB2 := Lib.hid (below_then HB1.out hB2); have HE2 := Lib.hid (below_keeps hB2 (blk_lt HE1.out) HE1.out); obtain ⟨k0, k1, k2⟩ := entry34 HE2.out; clear hB2)
          | (go_at_call 37; (with_reducible refine (HSA.out w2).mono ?_); rintro e w3 ⟨rfl, hB3⟩; have HB3 := Lib.hid (below_then HB2.out hB3); have HE3 := Lib.hid (below_keeps hB3 (blk_lt HE2.out) HE2.out); obtain ⟨k0, k1, k2⟩ := entry34 HE3.out; clear hB3)
          | (go_at_call 37; (with_reducible refine (HSB.out w3).mono ?_); rintro e w4 ⟨rfl, hB4⟩; have HB4 := Lib.hid (below_then HB3.out hB4); have HE4 := Lib.hid (below_keeps hB4 (blk_lt HE3.out) HE3.out); obtain ⟨k0, k1, k2⟩ := entry34 HE4.out; clear hB4)
          | (go_at_call 33; (with_reducible refine (Text_is kk s n t HT.out w4 (hG.below HB4.out)).mono ?_); rintro e w5 ⟨rfl, hB5⟩; have HB5 := Lib.hid (below_then HB4.out hB5); have HE5 := Lib.hid (below_keeps hB5 (blk_lt HE4.out) HE4.out); obtain ⟨k0, k1, k2⟩ := entry34 HE5.out; clear hB5)
          | (go_at_call 39; (with_reducible refine (rName_is s m HNM.out w5).mono ?_); rintro e w6 ⟨rfl, hB6⟩; have HB6 := Lib.hid (below_then HB5.out hB6); have HE6 := Lib.hid (below_keeps hB6 (blk_lt HE5.out) HE5.out); obtain ⟨k0, k1, k2⟩ := entry34 HE6.out; clear hB6)
          | (go_at_call 15; (with_reducible refine (awake_calls w6 (hG.below HB6.out)).mono ?_); rintro e w7 ⟨rfl, hB7⟩; have HB7 := Lib.hid (below_then HB6.out hB7); clear hB7))
        go_ret
        exact ⟨rfl, HB7.out⟩
      · skip
        have g1 : (m != 0) = false := bne_eq_false_iff_eq.mpr f1
        have g2 : decide (kk < 0) = false := decide_eq_false f2
        have g3 : decide (6 < kk) = false := decide_eq_false f3
        have g4 : decide (n < 0) = false := decide_eq_false f4
        have g5 : decide (1048576 < n) = false := decide_eq_false f5
        have g6 : (n == 0) = true := beq_iff_eq.mpr f6
        have g7 : decide (5 ≤ kk) = false := decide_eq_false f7
        clear f6
        go_enter Tryz.func9, Tryz.ntmps9
        go_wp2_with (first
          | ((with_reducible refine box_abs rfl 24 _ rfl #[.int .i64 kk, .string s, .int .i64 n] ?hx ?_); (case hx => rfl); intro b0 hb w1 hb1 hB1 hs1; have HE1 := Lib.hid hb1; obtain ⟨k0, k1, k2⟩ := entry34 hb1; have HB1 := Lib.hid hB1; have HBL := Lib.hid (show w.heap.size ≤ b0 by rw [hb]; exact Nat.le_refl _); clear hb hb1 hB1 hs1)
          | (go_at_call 37; (with_reducible refine (HSC.out w1).mono ?_); rintro e w2 ⟨rfl, hB2⟩; have HB2 := Lib.hid (below_then HB1.out hB2); have HE2 := Lib.hid (below_keeps hB2 (blk_lt HE1.out) HE1.out); obtain ⟨k0, k1, k2⟩ := entry34 HE2.out; clear hB2)
          | (go_at_call 37; (with_reducible refine (HSA.out w2).mono ?_); rintro e w3 ⟨rfl, hB3⟩; have HB3 := Lib.hid (below_then HB2.out hB3); have HE3 := Lib.hid (below_keeps hB3 (blk_lt HE2.out) HE2.out); obtain ⟨k0, k1, k2⟩ := entry34 HE3.out; clear hB3)
          | (go_at_call 37; (with_reducible refine (HSB.out w3).mono ?_); rintro e w4 ⟨rfl, hB4⟩; have HB4 := Lib.hid (below_then HB3.out hB4); have HE4 := Lib.hid (below_keeps hB4 (blk_lt HE3.out) HE3.out); obtain ⟨k0, k1, k2⟩ := entry34 HE4.out; clear hB4)
          | (go_at_call 33; (with_reducible refine (Text_is kk s n t HT.out w4 (hG.below HB4.out)).mono ?_); rintro e w5 ⟨rfl, hB5⟩; have HB5 := Lib.hid (below_then HB4.out hB5); have HE5 := Lib.hid (below_keeps hB5 (blk_lt HE4.out) HE4.out); obtain ⟨k0, k1, k2⟩ := entry34 HE5.out; clear hB5)
          | (go_at_call 39; (with_reducible refine (rName_is s m HNM.out w5).mono ?_); rintro e w6 ⟨rfl, hB6⟩; have HB6 := Lib.hid (below_then HB5.out hB6); have HE6 := Lib.hid (below_keeps hB6 (blk_lt HE5.out) HE5.out); obtain ⟨k0, k1, k2⟩ := entry34 HE6.out; clear hB6)
          | (go_at_call 15; (with_reducible refine (awake_calls w6 (hG.below HB6.out)).mono ?_); rintro e w7 ⟨rfl, hB7⟩; have HB7 := Lib.hid (below_then HB6.out hB7); clear hB7))
        go_ret
        exact ⟨rfl, HB7.out⟩
      · skip
        have g1 : (m != 0) = false := bne_eq_false_iff_eq.mpr f1
        have g2 : decide (kk < 0) = false := decide_eq_false f2
        have g3 : decide (6 < kk) = false := decide_eq_false f3
        have g4 : decide (n < 0) = false := decide_eq_false f4
        have g5 : decide (1048576 < n) = false := decide_eq_false f5
        have g6 : (n == 0) = false := beq_eq_false_iff_ne.mpr f6
        have g7 : decide (5 ≤ kk) = true := decide_eq_true f7
        go_enter Tryz.func9, Tryz.ntmps9
        go_wp2_with (first
          | ((with_reducible refine box_abs rfl 24 _ rfl #[.int .i64 kk, .string s, .int .i64 n] ?hx ?_); (case hx => rfl); intro b0 hb w1 hb1 hB1 hs1; have HE1 := Lib.hid hb1; obtain ⟨k0, k1, k2⟩ := entry34 hb1; have HB1 := Lib.hid hB1; have HBL := Lib.hid (show w.heap.size ≤ b0 by rw [hb]; exact Nat.le_refl _); clear hb hb1 hB1 hs1)
          | (go_at_call 37; (with_reducible refine (HSC.out w1).mono ?_); rintro e w2 ⟨rfl, hB2⟩; have HB2 := Lib.hid (below_then HB1.out hB2); have HE2 := Lib.hid (below_keeps hB2 (blk_lt HE1.out) HE1.out); obtain ⟨k0, k1, k2⟩ := entry34 HE2.out; clear hB2)
          | (go_at_call 37; (with_reducible refine (HSA.out w2).mono ?_); rintro e w3 ⟨rfl, hB3⟩; have HB3 := Lib.hid (below_then HB2.out hB3); have HE3 := Lib.hid (below_keeps hB3 (blk_lt HE2.out) HE2.out); obtain ⟨k0, k1, k2⟩ := entry34 HE3.out; clear hB3)
          | (go_at_call 37; (with_reducible refine (HSB.out w3).mono ?_); rintro e w4 ⟨rfl, hB4⟩; have HB4 := Lib.hid (below_then HB3.out hB4); have HE4 := Lib.hid (below_keeps hB4 (blk_lt HE3.out) HE3.out); obtain ⟨k0, k1, k2⟩ := entry34 HE4.out; clear hB4)
          | (go_at_call 33; (with_reducible refine (Text_is kk s n t HT.out w4 (hG.below HB4.out)).mono ?_); rintro e w5 ⟨rfl, hB5⟩; have HB5 := Lib.hid (below_then HB4.out hB5); have HE5 := Lib.hid (below_keeps hB5 (blk_lt HE4.out) HE4.out); obtain ⟨k0, k1, k2⟩ := entry34 HE5.out; clear hB5)
          | (go_at_call 39; (with_reducible refine (rName_is s m HNM.out w5).mono ?_); rintro e w6 ⟨rfl, hB6⟩; have HB6 := Lib.hid (below_then HB5.out hB6); have HE6 := Lib.hid (below_keeps hB6 (blk_lt HE5.out) HE5.out); obtain ⟨k0, k1, k2⟩ := entry34 HE6.out; clear hB6)
          | (go_at_call 15; (with_reducible refine (awake_calls w6 (hG.below HB6.out)).mono ?_); rintro e w7 ⟨rfl, hB7⟩; have HB7 := Lib.hid (below_then HB6.out hB7); clear hB7))
        go_ret
        exact ⟨rfl, HB7.out⟩
    · have hrd : readS t.1.data.toList = (⟨kk, s, n⟩, 0) := by
        have e : t.1.data.toList = textE ⟨kk, s, n⟩ := by rw [ht1]; rfl
        rw [e]
        exact readS_some (by have := (textE_len (x := ⟨kk, s, n⟩) hr).2; omega) hr rfl
      have HRD := Lib.hid hrd
      clear hrd ht1 hr
      go_enter Tryz.func9, Tryz.ntmps9
      go_wp2_with (first
        | ((with_reducible refine box_abs rfl 24 _ rfl #[.int .i64 kk, .string s, .int .i64 n] ?hx ?_); (case hx => rfl); intro b0 hb w1 hb1 hB1 hs1; have HE1 := Lib.hid hb1; obtain ⟨k0, k1, k2⟩ := entry34 hb1; have HB1 := Lib.hid hB1; have HBL := Lib.hid (show w.heap.size ≤ b0 by rw [hb]; exact Nat.le_refl _); clear hb hb1 hB1 hs1)
        | (go_at_call 37; (with_reducible refine (HSC.out w1).mono ?_); rintro e w2 ⟨rfl, hB2⟩; have HB2 := Lib.hid (below_then HB1.out hB2); have HE2 := Lib.hid (below_keeps hB2 (blk_lt HE1.out) HE1.out); obtain ⟨k0, k1, k2⟩ := entry34 HE2.out; clear hB2)
        | (go_at_call 37; (with_reducible refine (HSA.out w2).mono ?_); rintro e w3 ⟨rfl, hB3⟩; have HB3 := Lib.hid (below_then HB2.out hB3); have HE3 := Lib.hid (below_keeps hB3 (blk_lt HE2.out) HE2.out); obtain ⟨k0, k1, k2⟩ := entry34 HE3.out; clear hB3)
        | (go_at_call 37; (with_reducible refine (HSB.out w3).mono ?_); rintro e w4 ⟨rfl, hB4⟩; have HB4 := Lib.hid (below_then HB3.out hB4); have HE4 := Lib.hid (below_keeps hB4 (blk_lt HE3.out) HE3.out); obtain ⟨k0, k1, k2⟩ := entry34 HE4.out; clear hB4)
        | (go_at_call 33; (with_reducible refine (Text_is kk s n t HT.out w4 (hG.below HB4.out)).mono ?_); rintro e w5 ⟨rfl, hB5⟩; have HB5 := Lib.hid (below_then HB4.out hB5); have HE5 := Lib.hid (below_keeps hB5 (blk_lt HE4.out) HE4.out); obtain ⟨k0, k1, k2⟩ := entry34 HE5.out; clear hB5)
        | (go_at_call 35; (with_reducible refine (Read_calls t.1 w5 (hG.below HB5.out) _ HRD.out).mono ?_); rintro e w6 ⟨rfl, hB6⟩; have HB6 := Lib.hid (below_then HB5.out hB6); have HE6 := Lib.hid (below_keeps hB6 (blk_lt HE5.out) HE5.out); obtain ⟨k0, k1, k2⟩ := entry34 HE6.out; clear hB6)
        | ((with_reducible refine alloc_event (o := ⟨some 9, _, _, _, _, _⟩) rfl 24 rfl (.agg (cellsE z24)) zero24 ?_); intro p hp w7 hp1 hB7 hs7; have HH7 := Lib.hid hp1; have HLp := Lib.hid (show w6.heap.size ≤ p by rw [hp]; exact Nat.le_refl _); have HB7 := Lib.hid (below_then HB6.out hB7); have HE7 := Lib.hid (below_keeps hB7 (blk_lt HE6.out) HE6.out); have HNP := Lib.hid (show b0 ≠ p by rw [hp]; exact Nat.ne_of_lt (blk_lt HE6.out)); obtain ⟨k0, k1, k2⟩ := entry34 HE7.out; clear hp hp1 hB7 hs7)
        | ((with_reducible refine store_row_event rfl 24 _ _ rfl p (cellsE ⟨kk, s, n⟩) ?hx ?hy 24 (cellsE z24) ?hg ?hi ?ho ?h1 ?_); (case hg => exact HH7.out); (case ho => rfl); (case hx => (go_simp; done)); (case hy => first | rfl | (unfold cellsE; go_simp; done) | (go_simp; rfl)); (case hi => exact info24s _); (case h1 => exact cellsE_one _); intro w8 hp2 hB8 hs8; have HG8 := Lib.hid hp2; have HE8 := Lib.hid (hB8.keeps HNP.out HE7.out); have HB8 := Lib.hid (hB8.below HB7.out (Nat.le_trans HB6.out.size HLp.out) HB7.out.size); obtain ⟨p0, p1, p2⟩ := entry_cells3 HG8.out; obtain ⟨k0, k1, k2⟩ := entry34 HE8.out; clear hp2 hB8 hs8)
        | (go_at_call 15; (with_reducible refine (awake_calls w8 (hG.below HB8.out)).mono ?_); rintro e w9 ⟨rfl, hB9⟩; have HB9 := Lib.hid (below_then HB8.out hB9); clear hB9))
      go_ret
      exact ⟨rfl, HB9.out⟩
end Go.Proofs.YtdgipencedlbmaaGreatDoor.Pr
