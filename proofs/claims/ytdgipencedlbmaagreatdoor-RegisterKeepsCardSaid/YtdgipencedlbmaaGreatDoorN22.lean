/- RegisterKeeps returns true. -/
import Derived.Test.YtdgipencedlbmaaGreatDoorT20
import Derived.Test.YtdgipencedlbmaaGreatDoorN21
namespace Go.Proofs.YtdgipencedlbmaaGreatDoor.Pr
set_option linter.unusedVariables false
set_option linter.unusedSimpArgs false
open Go.RowKit Go.Proofs.YtdgipencedlbmaaGreatDoorW.PrintWords Go.Proofs.YtdgipencedlbmaaGreatDoorW.PrintLast Go.Proofs.YtdgipencedlbmaaGreatDoorW.PrintMore Go.Proofs.YtdgipencedlbmaaGreatDoor.Hand

theorem keep_nil {l : List S57} {k n : Int} {s : ByteArray} {d : List S57 × Int} (h : doS l k s n = d) (h0 : d.2 ≠ 0) : d.1.length = 0 := by
  subst h
  unfold doS at h0 ⊢
  split
  · rfl
  · split
    · rfl
    · rename_i h1 h2
      rw [if_neg h1, if_neg h2] at h0
      unfold doneS at h0 ⊢
      repeat' split
      all_goals first | rfl | (exfalso; simp_all)
theorem keep_ok {l : List S57} {k n : Int} {s : ByteArray} {d : List S57 × Int} (hc : checkS l = 0) (h : doS l k s n = d) (h0 : d.2 = 0) :
    rightErr k s n = 0 ∧ checkS d.1 = 0 ∧ (l.length ≤ d.1.length ∧ d.1.length ≤ l.length + 1) ∧ ∀ a ∈ d.1, KeptBy l k s n a := by
  subst h
  unfold doS at h0 ⊢
  rw [if_neg (by simpa using hc)] at h0 ⊢
  by_cases hr : rightErr k s n = 0
  · rw [if_neg (by simpa using hr)] at h0 ⊢
    exact ⟨hr, done_check hc hr h0, done_len h0, keep_law hc hr h0⟩
  · rw [if_pos hr] at h0
    exact absurd h0 hr
theorem getD_mem {l : List S57} {k : Nat} (h : k < l.length) : l.getD k z57 ∈ l := by
  rw [List.getD, List.getElem?_eq_getElem h]
  exact List.getElem_mem h
/-- What the law's test reads of a lot and of what it was. -/
theorem kept_cases {l : List S57} {k n : Int} {s : ByteArray} {a : S57} (h : KeptBy l k s n a) :
    (idxV a.f0 l = -1 ∧ k = 0 ∧ a = newLot s n) ∨ ∃ j : Nat, j < l.length ∧ idxV a.f0 l = (j : Int) ∧ Kept k s n a (l.getD j z57) := by
  unfold KeptBy at h
  rw [idx_lk] at h
  by_cases hj : idxS a.f0 l < l.length
  · rw [List.getElem?_eq_getElem hj] at h
    refine Or.inr ⟨idxS a.f0 l, hj, by unfold idxV; rw [if_pos hj], ?_⟩
    rw [List.getD, List.getElem?_eq_getElem hj]
    exact h
  · rw [List.getElem?_eq_none (by omega)] at h
    exact Or.inl ⟨by unfold idxV; rw [if_neg hj], h⟩
set_option maxHeartbeats 4000000 in
set_option maxRecDepth 100000 in
theorem Keeps_calls (A0 : Option Addr) (c0 : Nat) (l : List S57) (kk : Int) (s : ByteArray) (n : Int) (w : World) (hG : GOOD w) (hr0 : Kd.C k57 w A0 l.length l) (hc0 : l.length ≤ c0) (hl : l.length < 2199023255552) :
    Calls Tryz.prog 6 #[.slice A0 l.length c0, .agg #[.int .i64 kk, .string s, .int .i64 n]] w fun e w' => e = .returned (.bool true) ∧ Below w.heap.size w w' := by
  have HR := Lib.hid hr0
  have HC := Lib.hid hc0
  have HL41 := Lib.hid hl
  have HL63 := Lib.hid (show l.length < 9223372036854775807 by omega)
  obtain ⟨fw, hfw⟩ : ∃ fw, fewS l = fw := ⟨_, rfl⟩
  obtain ⟨ck, hck⟩ : ∃ ck, checkS l = ck := ⟨_, rfl⟩
  have HFW := Lib.hid hfw
  have HCK := Lib.hid hck
  have hcases : fw = false ∨ (fw = true ∧ decide (60 < (s.size : Int)) = true) ∨ (fw = true ∧ decide (60 < (s.size : Int)) = false ∧ (ck != 0) = true) ∨ (fw = true ∧ decide (60 < (s.size : Int)) = false ∧ ck = 0) := by
    by_cases h : ck = 0
    · cases fw <;> cases decide (60 < (s.size : Int)) <;> simp [h]
    · cases fw <;> cases decide (60 < (s.size : Int)) <;> simp [h]
  clear hr0 hc0 hl hfw hck
  rcases hcases with rfl | ⟨rfl, e1⟩ | ⟨rfl, e1, e2⟩ | ⟨rfl, e1, rfl⟩
  · skip
    go_enter Tryz.func6, Tryz.ntmps6
    go_wp2_with (first
      | ((with_reducible refine box_abs rfl 24 _ rfl #[.int .i64 kk, .string s, .int .i64 n] ?hx ?_); (case hx => rfl); intro b hb w1 hb1 hB1 hs1; have HE1 := Lib.hid hb1; obtain ⟨k0, k1, k2⟩ := entry34 hb1; have HB1 := Lib.hid hB1; clear hb hb1 hB1 hs1)
      | (go_at_call 14; (with_reducible refine (lots_calls A0 c0 l w1 (Kd.C_below HR.out HB1.out) HC.out HL41.out).mono ?_); rintro e w2 ⟨A2, c2, rfl, hc2, hC2, hB2⟩; have HB2 := Lib.hid (below_then HB1.out hB2); have HE2 := Lib.hid (below_keeps hB2 (blk_lt HE1.out) HE1.out); obtain ⟨k0, k1, k2⟩ := entry34 HE2.out; have HC2 := Lib.hid hC2; have HK2 := Lib.hid hc2; clear hC2 hB2)
      | (go_at_call 13; (with_reducible refine (few_calls A2 c2 l _ HFW.out w2 HC2.out HK2.out HL63.out).mono ?_); rintro e w3 ⟨rfl, hB3⟩; have HB3 := Lib.hid (below_then HB2.out hB3); have HE3 := Lib.hid (below_keeps hB3 (blk_lt HE2.out) HE2.out); obtain ⟨k0, k1, k2⟩ := entry34 HE3.out; clear hB3)
      | (go_at_call 15; (with_reducible refine (awake_calls w3 (hG.below HB3.out)).mono ?_); rintro e w4 ⟨rfl, hB4⟩; have HB4 := Lib.hid (below_then HB3.out hB4); clear hB4))
    go_ret
    exact ⟨rfl, HB4.out⟩
  · skip
    go_enter Tryz.func6, Tryz.ntmps6
    go_wp2_with (first
      | ((with_reducible refine box_abs rfl 24 _ rfl #[.int .i64 kk, .string s, .int .i64 n] ?hx ?_); (case hx => rfl); intro b hb w1 hb1 hB1 hs1; have HE1 := Lib.hid hb1; obtain ⟨k0, k1, k2⟩ := entry34 hb1; have HB1 := Lib.hid hB1; clear hb hb1 hB1 hs1)
      | (go_at_call 14; (with_reducible refine (lots_calls A0 c0 l w1 (Kd.C_below HR.out HB1.out) HC.out HL41.out).mono ?_); rintro e w2 ⟨A2, c2, rfl, hc2, hC2, hB2⟩; have HB2 := Lib.hid (below_then HB1.out hB2); have HE2 := Lib.hid (below_keeps hB2 (blk_lt HE1.out) HE1.out); obtain ⟨k0, k1, k2⟩ := entry34 HE2.out; have HC2 := Lib.hid hC2; have HK2 := Lib.hid hc2; clear hC2 hB2)
      | (go_at_call 13; (with_reducible refine (few_calls A2 c2 l _ HFW.out w2 HC2.out HK2.out HL63.out).mono ?_); rintro e w3 ⟨rfl, hB3⟩; have HB3 := Lib.hid (below_then HB2.out hB3); have HE3 := Lib.hid (below_keeps hB3 (blk_lt HE2.out) HE2.out); obtain ⟨k0, k1, k2⟩ := entry34 HE3.out; clear hB3)
      | (go_at_call 15; (with_reducible refine (awake_calls w3 (hG.below HB3.out)).mono ?_); rintro e w4 ⟨rfl, hB4⟩; have HB4 := Lib.hid (below_then HB3.out hB4); clear hB4))
    go_ret
    exact ⟨rfl, HB4.out⟩
  · skip
    go_enter Tryz.func6, Tryz.ntmps6
    go_wp2_with (first
      | ((with_reducible refine box_abs rfl 24 _ rfl #[.int .i64 kk, .string s, .int .i64 n] ?hx ?_); (case hx => rfl); intro b hb w1 hb1 hB1 hs1; have HE1 := Lib.hid hb1; obtain ⟨k0, k1, k2⟩ := entry34 hb1; have HB1 := Lib.hid hB1; clear hb hb1 hB1 hs1)
      | (go_at_call 14; (with_reducible refine (lots_calls A0 c0 l w1 (Kd.C_below HR.out HB1.out) HC.out HL41.out).mono ?_); rintro e w2 ⟨A2, c2, rfl, hc2, hC2, hB2⟩; have HB2 := Lib.hid (below_then HB1.out hB2); have HE2 := Lib.hid (below_keeps hB2 (blk_lt HE1.out) HE1.out); obtain ⟨k0, k1, k2⟩ := entry34 HE2.out; have HC2 := Lib.hid hC2; have HK2 := Lib.hid hc2; clear hC2 hB2)
      | (go_at_call 13; (with_reducible refine (few_calls A2 c2 l _ HFW.out w2 HC2.out HK2.out HL63.out).mono ?_); rintro e w3 ⟨rfl, hB3⟩; have HB3 := Lib.hid (below_then HB2.out hB3); have HE3 := Lib.hid (below_keeps hB3 (blk_lt HE2.out) HE2.out); obtain ⟨k0, k1, k2⟩ := entry34 HE3.out; clear hB3)
      | (go_at_call 14; (with_reducible refine (lots_calls A0 c0 l w3 (Kd.C_below HR.out HB3.out) HC.out HL41.out).mono ?_); rintro e w4 ⟨A4, c4, rfl, hc4, hC4, hB4⟩; have HB4 := Lib.hid (below_then HB3.out hB4); have HE4 := Lib.hid (below_keeps hB4 (blk_lt HE3.out) HE3.out); obtain ⟨k0, k1, k2⟩ := entry34 HE4.out; have HC4 := Lib.hid hC4; have HK4 := Lib.hid hc4; clear hC4 hB4)
      | (go_at_call 19; (with_reducible refine (rCheck_is A4 c4 l _ HCK.out w4 HC4.out HK4.out).mono ?_); rintro e w5 ⟨rfl, hB5⟩; have HB5 := Lib.hid (below_then HB4.out hB5); have HE5 := Lib.hid (below_keeps hB5 (blk_lt HE4.out) HE4.out); obtain ⟨k0, k1, k2⟩ := entry34 HE5.out; clear hB5)
      | (go_at_call 15; (with_reducible refine (awake_calls w5 (hG.below HB5.out)).mono ?_); rintro e w6 ⟨rfl, hB6⟩; have HB6 := Lib.hid (below_then HB5.out hB6); clear hB6))
    go_ret
    exact ⟨rfl, HB6.out⟩
  · obtain ⟨u, hu⟩ : ∃ u, doS l kk s n = u := ⟨_, rfl⟩
    have HU := Lib.hid hu
    by_cases hu0 : u.2 = 0
    · have q1 : (u.2 != 0) = false := bne_eq_false_iff_eq.mpr hu0
      obtain ⟨hrt, huc, ⟨hl1, hl2⟩, hkb⟩ := keep_ok HCK.out hu hu0
      have HUC := Lib.hid huc
      have HRT := Lib.hid hrt
      have HKB := Lib.hid hkb
      have HUL := Lib.hid (checkS_zero huc).len
      have HLOT := Lib.hid (checkS_zero huc).lots
      have HLOT0 := Lib.hid (checkS_zero HCK.out).lots
      have q2 : decide ((u.1.length : Int) < l.length) = false := decide_eq_false (by omega)
      have q3 : decide ((l.length : Int) + 1 < u.1.length) = false := decide_eq_false (by omega)
      have q2' : decide (u.1.length < l.length) = false := decide_eq_false (by omega)
      have q3' : decide (l.length + 1 < u.1.length) = false := decide_eq_false (by omega)
      have q4 : l.length ≤ 256 := by have := (checkS_zero HCK.out).len; omega
      clear hu hu0 hrt huc hl1 hl2 hkb
      go_enter Tryz.func6, Tryz.ntmps6
      go_wp2_with (first
        | ((with_reducible refine box_abs rfl 24 _ rfl #[.int .i64 kk, .string s, .int .i64 n] ?hx ?_); (case hx => rfl); intro b hb w1 hb1 hB1 hs1; have HE1 := Lib.hid hb1; obtain ⟨k0, k1, k2⟩ := entry34 hb1; have HB1 := Lib.hid hB1; clear hb hb1 hB1 hs1)
        | (go_at_call 14; (with_reducible refine (lots_calls A0 c0 l w1 (Kd.C_below HR.out HB1.out) HC.out HL41.out).mono ?_); rintro e w2 ⟨A2, c2, rfl, hc2, hC2, hB2⟩; have HB2 := Lib.hid (below_then HB1.out hB2); have HE2 := Lib.hid (below_keeps hB2 (blk_lt HE1.out) HE1.out); obtain ⟨k0, k1, k2⟩ := entry34 HE2.out; have HC2 := Lib.hid hC2; have HK2 := Lib.hid hc2; clear hC2 hB2)
        | (go_at_call 13; (with_reducible refine (few_calls A2 c2 l _ HFW.out w2 HC2.out HK2.out HL63.out).mono ?_); rintro e w3 ⟨rfl, hB3⟩; have HB3 := Lib.hid (below_then HB2.out hB3); have HE3 := Lib.hid (below_keeps hB3 (blk_lt HE2.out) HE2.out); obtain ⟨k0, k1, k2⟩ := entry34 HE3.out; clear hB3)
        | (go_at_call 14; (with_reducible refine (lots_calls A0 c0 l w3 (Kd.C_below HR.out HB3.out) HC.out HL41.out).mono ?_); rintro e w4 ⟨A4, c4, rfl, hc4, hC4, hB4⟩; have HB4 := Lib.hid (below_then HB3.out hB4); have HE4 := Lib.hid (below_keeps hB4 (blk_lt HE3.out) HE3.out); obtain ⟨k0, k1, k2⟩ := entry34 HE4.out; have HC4 := Lib.hid hC4; have HK4 := Lib.hid hc4; clear hC4 hB4)
        | (go_at_call 19; (with_reducible refine (rCheck_is A4 c4 l _ HCK.out w4 HC4.out HK4.out).mono ?_); rintro e w5 ⟨rfl, hB5⟩; have HB5 := Lib.hid (below_then HB4.out hB5); have HE5 := Lib.hid (below_keeps hB5 (blk_lt HE4.out) HE4.out); obtain ⟨k0, k1, k2⟩ := entry34 HE5.out; clear hB5)
        | (go_at_call 16; (with_reducible refine (Do_calls A0 c0 l kk s n w5 (Kd.C_below HR.out HB5.out) HC.out u HU.out).mono ?_); rintro e w6 ⟨v6, rfl, hR6, hB6⟩; have HB6 := Lib.hid (below_then HB5.out hB6); have HE6 := Lib.hid (below_keeps hB6 (blk_lt HE5.out) HE5.out); obtain ⟨k0, k1, k2⟩ := entry34 HE6.out; obtain ⟨A6, c6, rfl, hc6, hC6⟩ := Kd.R_reads hR6; have HC6 := Lib.hid hC6; have HK6 := Lib.hid hc6; clear hR6 hC6 hB6)
        | (go_at_call 18; (with_reducible refine (Check_is A6 c6 u.1 0 HUC.out w6 HC6.out HK6.out).mono ?_); rintro e w7 ⟨rfl, hB7⟩; have HB7 := Lib.hid (below_then HB6.out hB7); have HE7 := Lib.hid (below_keeps hB7 (blk_lt HE6.out) HE6.out); obtain ⟨k0, k1, k2⟩ := entry34 HE7.out; have HC7 := Lib.hid (Kd.C_below HC6.out hB7); have HR7 := Lib.hid (Kd.C_below HR.out HB7.out); clear hB7))
      clear q1 q2 q2' q3 q3' q4
      go_loopw [65] (fun i wr => ∃ k : Nat, k ≤ u.1.length ∧ i = .int .i64 k ∧ Hid (Below w7.heap.size w7 wr)) (fun i _ => u.1.length - (intOf i).toNat)
      case atStart => exact ⟨0, by omega, rfl, Below.refl _ _⟩
      case round =>
        obtain ⟨k, hk, rfl, HB⟩ := hrel
        have hm := HUL.out
        by_cases hlt : k < u.1.length
        · have HLT := Lib.hid hlt
          have HEr := Lib.hid (below_keeps HB.out (blk_lt HE7.out) HE7.out)
          obtain ⟨k0, k1, k2⟩ := entry34 HEr.out
          obtain ⟨ad, rfl, hlot, had⟩ := LotA.of_row HC7.out HB.out k hlt
          have hmem := getD_mem hlt
          obtain ⟨a, ha⟩ : ∃ a, u.1.getD k z57 = a := ⟨_, rfl⟩
          rw [ha] at hlot hmem
          obtain ⟨q0, q1, q2, q3, q4, q5, q6⟩ := hlot
          have hfa := (HLOT.out a hmem).2
          have hkc := kept_cases (HKB.out a hmem)
          clear hmem ha had
          rcases hkc with ⟨hix, rfl, rfl⟩ | ⟨j, hj, hix, hkept⟩
          · have HIX := Lib.hid hix
            clear hix hfa
            go_wp2_with (first
              | ((with_reducible refine alloc_event (o := ⟨some 8, _, _, _, _, _⟩) rfl 57 rfl (.agg (cellsS z57)) zero57 ?_); intro p hp w8 hp1 hB8 hs8; have HH8 := Lib.hid hp1; have HNP := Lib.hid (show b ≠ p by rw [hp]; exact Nat.ne_of_lt (blk_lt HEr.out)); have HLP := Lib.hid (show w7.heap.size ≤ p by rw [hp]; exact HB.out.size); have HE8 := Lib.hid (below_keeps hB8 (blk_lt HEr.out) HEr.out); have HL8 := Lib.hid (below_then HB.out hB8); clear hp hp1 hB8 hs8)
              | ((with_reducible refine store_row_event rfl 57 _ _ rfl p (cellsS (newLot s n)) ?hx ?hy 57 (cellsS z57) ?hg ?hi ?ho ?h1 ?_); (case hg => exact HH8.out); (case ho => exact cellsS_size _); (case hx => (go_simp; done)); (case hy => (unfold cellsS; go_simp; done)); (case hi => exact info57s _); (case h1 => exact cellsS_one _); intro w9 hp2 hB9 hs9; have HP9 := Lib.hid hp2; have HE9 := Lib.hid (hB9.keeps HNP.out HE8.out); have HL9 := Lib.hid (hB9.below HL8.out HLP.out HL8.out.size); obtain ⟨k0, k1, k2⟩ := entry34 HE9.out; clear hp2 hB9 hs9)
              | (go_at_call 29; (with_reducible refine (kidx_calls A0 c0 l (newLot s n) p w9 (Kd.C_below HR7.out HL9.out) HC.out HL63.out (LotAt.of_block HP9.out).c0 _ HIX.out).mono ?_); rintro e w10 ⟨rfl, hB10⟩; have HL10 := Lib.hid (below_then HL9.out hB10); have HP10 := Lib.hid (below_keeps hB10 (blk_lt HP9.out) HP9.out); have HE10 := Lib.hid (below_keeps hB10 (blk_lt HE9.out) HE9.out); obtain ⟨k0, k1, k2⟩ := entry34 HE10.out; obtain ⟨p0, p1, p2, p3, p4, p5, p6⟩ := LotAt.of_block HP10.out; clear hB10))
            go_roundw
            case rel => exact ⟨k + 1, HLT.out, by go_num, HL10.out⟩
            case measure => have := HLT.out; simp [intOf]; omega
          · have HIX := Lib.hid hix
            have HJ := Lib.hid hj
            obtain ⟨ad2, rfl, _, _⟩ := LotA.of_row HR7.out (Below.refl _ _) j hj
            have hmem2 := getD_mem hj
            obtain ⟨bb, hbb⟩ : ∃ bb, l.getD j z57 = bb := ⟨_, rfl⟩
            rw [hbb] at hmem2 hkept
            have hbj := Lib.hid hbb
            have hfb := (HLOT0.out bb hmem2).2
            obtain ⟨⟨fa1, fa2⟩, ⟨fa3, fa4, fa5, fa6⟩, ⟨fa7, fa8⟩, fa9, _⟩ := fits_zero hfa
            obtain ⟨⟨fb1, fb2⟩, ⟨fb3, fb4, fb5, fb6⟩, ⟨fb7, fb8⟩, fb9, _⟩ := fits_zero hfb
            unfold leftS at fa9 fb9
            obtain ⟨_, _, _, hn5, _⟩ := rightErr_zero HRT.out
            have hneg : decide ((j : Int) < 0) = false := decide_eq_false (by omega)
            clear hix hbb hmem2 hfb hfa
            by_cases hs : a.f0 = s
            · have g0 : (a.f0.toList == s.toList) = true := by rw [hs]; simp
              have g0' : (a.f0.toList != s.toList) = false := by rw [hs]; simp
              obtain ⟨_, w1, w6, w2, w4, w5, wj⟩ := hkept
              unfold judgedS at wj
              have g1 : (a.f1 != bb.f1) = false := bne_eq_false_iff_eq.mpr w1
              have g6 : decide (a.f6 < bb.f6) = false := decide_eq_false (by omega)
              have g2 : decide (a.f2 < bb.f2) = false := decide_eq_false (by omega)
              have g4 : decide (a.f4 < bb.f4) = false := decide_eq_false (by omega)
              have g5 : decide (a.f5 < bb.f5) = false := decide_eq_false (by omega)
              by_cases hk1 : kk = 1 ∨ kk = 2
              · rw [if_pos ⟨hs, hk1⟩] at wj
                have hnn := hn5 (by omega)
                have gj : (a.f2 + a.f3 + a.f4 + a.f5 != bb.f2 + bb.f3 + bb.f4 + bb.f5 + n) = false := bne_eq_false_iff_eq.mpr wj
                clear wj w1 w2 w4 w5 w6 hn5 hs
                rcases hk1 with rfl | rfl
                · skip
                  go_wp2_with (first
                    | ((with_reducible refine alloc_event (o := ⟨some 8, _, _, _, _, _⟩) rfl 57 rfl (.agg (cellsS z57)) zero57 ?_); intro p hp w8 hp1 hB8 hs8; have HH8 := Lib.hid hp1; have HNP := Lib.hid (show b ≠ p by rw [hp]; exact Nat.ne_of_lt (blk_lt HEr.out)); have HLP := Lib.hid (show w7.heap.size ≤ p by rw [hp]; exact HB.out.size); have HE8 := Lib.hid (below_keeps hB8 (blk_lt HEr.out) HEr.out); have HL8 := Lib.hid (below_then HB.out hB8); clear hp hp1 hB8 hs8)
                    | ((with_reducible refine store_row_event rfl 57 _ _ rfl p (cellsS a) ?hx ?hy 57 (cellsS z57) ?hg ?hi ?ho ?h1 ?_); (case hg => exact HH8.out); (case ho => exact cellsS_size _); (case hx => (go_simp; done)); (case hy => (unfold cellsS; go_simp; done)); (case hi => exact info57s _); (case h1 => exact cellsS_one _); intro w9 hp2 hB9 hs9; have HP9 := Lib.hid hp2; have HE9 := Lib.hid (hB9.keeps HNP.out HE8.out); have HL9 := Lib.hid (hB9.below HL8.out HLP.out HL8.out.size); obtain ⟨k0, k1, k2⟩ := entry34 HE9.out; clear hp2 hB9 hs9)
                    | (go_at_call 29; (with_reducible refine (kidx_calls (some ad2) c0 l a p w9 (Kd.C_below HR7.out HL9.out) HC.out HL63.out (LotAt.of_block HP9.out).c0 _ HIX.out).mono ?_); rintro e w10 ⟨rfl, hB10⟩; have HL10 := Lib.hid (below_then HL9.out hB10); have HP10 := Lib.hid (below_keeps hB10 (blk_lt HP9.out) HP9.out); have HE10 := Lib.hid (below_keeps hB10 (blk_lt HE9.out) HE9.out); obtain ⟨k0, k1, k2⟩ := entry34 HE10.out; obtain ⟨p0, p1, p2, p3, p4, p5, p6⟩ := LotAt.of_block HP10.out; obtain ⟨ad3, had3, hl3, _⟩ := LotA.of_row HR7.out HL10.out j HJ.out; obtain rfl := Option.some.inj had3; rw [hbj.out] at hl3; obtain ⟨t0, t1, t2, t3, t4, t5, t6⟩ := hl3; clear hB10)
                    | ((with_reducible refine alloc_event (o := ⟨some 10, _, _, _, _, _⟩) rfl 57 rfl (.agg (cellsS z57)) zero57 ?_); intro r hp w11 hp1 hB11 hs11; have HH11 := Lib.hid hp1; have HNR := Lib.hid (show b ≠ r by rw [hp]; exact Nat.ne_of_lt (blk_lt HE10.out)); have HNPR := Lib.hid (show p ≠ r by rw [hp]; exact Nat.ne_of_lt (blk_lt HP10.out)); have HLR := Lib.hid (show w7.heap.size ≤ r by rw [hp]; exact HL10.out.size); have HE11 := Lib.hid (below_keeps hB11 (blk_lt HE10.out) HE10.out); have HP11 := Lib.hid (below_keeps hB11 (blk_lt HP10.out) HP10.out); have HL11 := Lib.hid (below_then HL10.out hB11); clear hp hp1 hB11 hs11)
                    | ((with_reducible refine store_row_event rfl 57 _ _ rfl r (cellsS bb) ?hx ?hy 57 (cellsS z57) ?hg ?hi ?ho ?h1 ?_); (case hg => exact HH11.out); (case ho => exact cellsS_size _); (case hx => (go_simp; done)); (case hy => (unfold cellsS; go_simp; done)); (case hi => exact info57s _); (case h1 => exact cellsS_one _); intro w12 hp2 hB12 hs12; have HR12 := Lib.hid hp2; have HE12 := Lib.hid (hB12.keeps HNR.out HE11.out); have HP12 := Lib.hid (hB12.keeps HNPR.out HP11.out); have HL12 := Lib.hid (hB12.below HL11.out HLR.out HL11.out.size); obtain ⟨k0, k1, k2⟩ := entry34 HE12.out; obtain ⟨p0, p1, p2, p3, p4, p5, p6⟩ := LotAt.of_block HP12.out; obtain ⟨r0, r1, r2, r3, r4, r5, r6⟩ := LotAt.of_block HR12.out; clear hp2 hB12 hs12))
                  go_quiet (fail)
                  go_wp2
                  go_roundw
                  case rel => exact ⟨k + 1, HLT.out, by go_num, pw_below_drewN HL12.out _⟩
                  case measure => have := HLT.out; simp [intOf]; omega
                · skip
                  go_wp2_with (first
                    | ((with_reducible refine alloc_event (o := ⟨some 8, _, _, _, _, _⟩) rfl 57 rfl (.agg (cellsS z57)) zero57 ?_); intro p hp w8 hp1 hB8 hs8; have HH8 := Lib.hid hp1; have HNP := Lib.hid (show b ≠ p by rw [hp]; exact Nat.ne_of_lt (blk_lt HEr.out)); have HLP := Lib.hid (show w7.heap.size ≤ p by rw [hp]; exact HB.out.size); have HE8 := Lib.hid (below_keeps hB8 (blk_lt HEr.out) HEr.out); have HL8 := Lib.hid (below_then HB.out hB8); clear hp hp1 hB8 hs8)
                    | ((with_reducible refine store_row_event rfl 57 _ _ rfl p (cellsS a) ?hx ?hy 57 (cellsS z57) ?hg ?hi ?ho ?h1 ?_); (case hg => exact HH8.out); (case ho => exact cellsS_size _); (case hx => (go_simp; done)); (case hy => (unfold cellsS; go_simp; done)); (case hi => exact info57s _); (case h1 => exact cellsS_one _); intro w9 hp2 hB9 hs9; have HP9 := Lib.hid hp2; have HE9 := Lib.hid (hB9.keeps HNP.out HE8.out); have HL9 := Lib.hid (hB9.below HL8.out HLP.out HL8.out.size); obtain ⟨k0, k1, k2⟩ := entry34 HE9.out; clear hp2 hB9 hs9)
                    | (go_at_call 29; (with_reducible refine (kidx_calls (some ad2) c0 l a p w9 (Kd.C_below HR7.out HL9.out) HC.out HL63.out (LotAt.of_block HP9.out).c0 _ HIX.out).mono ?_); rintro e w10 ⟨rfl, hB10⟩; have HL10 := Lib.hid (below_then HL9.out hB10); have HP10 := Lib.hid (below_keeps hB10 (blk_lt HP9.out) HP9.out); have HE10 := Lib.hid (below_keeps hB10 (blk_lt HE9.out) HE9.out); obtain ⟨k0, k1, k2⟩ := entry34 HE10.out; obtain ⟨p0, p1, p2, p3, p4, p5, p6⟩ := LotAt.of_block HP10.out; obtain ⟨ad3, had3, hl3, _⟩ := LotA.of_row HR7.out HL10.out j HJ.out; obtain rfl := Option.some.inj had3; rw [hbj.out] at hl3; obtain ⟨t0, t1, t2, t3, t4, t5, t6⟩ := hl3; clear hB10)
                    | ((with_reducible refine alloc_event (o := ⟨some 10, _, _, _, _, _⟩) rfl 57 rfl (.agg (cellsS z57)) zero57 ?_); intro r hp w11 hp1 hB11 hs11; have HH11 := Lib.hid hp1; have HNR := Lib.hid (show b ≠ r by rw [hp]; exact Nat.ne_of_lt (blk_lt HE10.out)); have HNPR := Lib.hid (show p ≠ r by rw [hp]; exact Nat.ne_of_lt (blk_lt HP10.out)); have HLR := Lib.hid (show w7.heap.size ≤ r by rw [hp]; exact HL10.out.size); have HE11 := Lib.hid (below_keeps hB11 (blk_lt HE10.out) HE10.out); have HP11 := Lib.hid (below_keeps hB11 (blk_lt HP10.out) HP10.out); have HL11 := Lib.hid (below_then HL10.out hB11); clear hp hp1 hB11 hs11)
                    | ((with_reducible refine store_row_event rfl 57 _ _ rfl r (cellsS bb) ?hx ?hy 57 (cellsS z57) ?hg ?hi ?ho ?h1 ?_); (case hg => exact HH11.out); (case ho => exact cellsS_size _); (case hx => (go_simp; done)); (case hy => (unfold cellsS; go_simp; done)); (case hi => exact info57s _); (case h1 => exact cellsS_one _); intro w12 hp2 hB12 hs12; have HR12 := Lib.hid hp2; have HE12 := Lib.hid (hB12.keeps HNR.out HE11.out); have HP12 := Lib.hid (hB12.keeps HNPR.out HP11.out); have HL12 := Lib.hid (hB12.below HL11.out HLR.out HL11.out.size); obtain ⟨k0, k1, k2⟩ := entry34 HE12.out; obtain ⟨p0, p1, p2, p3, p4, p5, p6⟩ := LotAt.of_block HP12.out; obtain ⟨r0, r1, r2, r3, r4, r5, r6⟩ := LotAt.of_block HR12.out; clear hp2 hB12 hs12))
                  go_quiet (fail)
                  go_wp2
                  go_roundw
                  case rel => exact ⟨k + 1, HLT.out, by go_num, pw_below_drewN HL12.out _⟩
                  case measure => have := HLT.out; simp [intOf]; omega
              · rw [if_neg (fun e => hk1 e.2)] at wj
                have gj : (a.f2 + a.f3 + a.f4 + a.f5 != bb.f2 + bb.f3 + bb.f4 + bb.f5) = false := bne_eq_false_iff_eq.mpr (by omega)
                have gk1 : (kk == 1) = false := beq_eq_false_iff_ne.mpr (fun e => hk1 (Or.inl e))
                have gk2 : (kk == 2) = false := beq_eq_false_iff_ne.mpr (fun e => hk1 (Or.inr e))
                clear wj w1 w2 w4 w5 w6 hn5 hs hk1
                go_wp2_with (first
                  | ((with_reducible refine alloc_event (o := ⟨some 8, _, _, _, _, _⟩) rfl 57 rfl (.agg (cellsS z57)) zero57 ?_); intro p hp w8 hp1 hB8 hs8; have HH8 := Lib.hid hp1; have HNP := Lib.hid (show b ≠ p by rw [hp]; exact Nat.ne_of_lt (blk_lt HEr.out)); have HLP := Lib.hid (show w7.heap.size ≤ p by rw [hp]; exact HB.out.size); have HE8 := Lib.hid (below_keeps hB8 (blk_lt HEr.out) HEr.out); have HL8 := Lib.hid (below_then HB.out hB8); clear hp hp1 hB8 hs8)
                  | ((with_reducible refine store_row_event rfl 57 _ _ rfl p (cellsS a) ?hx ?hy 57 (cellsS z57) ?hg ?hi ?ho ?h1 ?_); (case hg => exact HH8.out); (case ho => exact cellsS_size _); (case hx => (go_simp; done)); (case hy => (unfold cellsS; go_simp; done)); (case hi => exact info57s _); (case h1 => exact cellsS_one _); intro w9 hp2 hB9 hs9; have HP9 := Lib.hid hp2; have HE9 := Lib.hid (hB9.keeps HNP.out HE8.out); have HL9 := Lib.hid (hB9.below HL8.out HLP.out HL8.out.size); obtain ⟨k0, k1, k2⟩ := entry34 HE9.out; clear hp2 hB9 hs9)
                  | (go_at_call 29; (with_reducible refine (kidx_calls (some ad2) c0 l a p w9 (Kd.C_below HR7.out HL9.out) HC.out HL63.out (LotAt.of_block HP9.out).c0 _ HIX.out).mono ?_); rintro e w10 ⟨rfl, hB10⟩; have HL10 := Lib.hid (below_then HL9.out hB10); have HP10 := Lib.hid (below_keeps hB10 (blk_lt HP9.out) HP9.out); have HE10 := Lib.hid (below_keeps hB10 (blk_lt HE9.out) HE9.out); obtain ⟨k0, k1, k2⟩ := entry34 HE10.out; obtain ⟨p0, p1, p2, p3, p4, p5, p6⟩ := LotAt.of_block HP10.out; obtain ⟨ad3, had3, hl3, _⟩ := LotA.of_row HR7.out HL10.out j HJ.out; obtain rfl := Option.some.inj had3; rw [hbj.out] at hl3; obtain ⟨t0, t1, t2, t3, t4, t5, t6⟩ := hl3; clear hB10)
                  | ((with_reducible refine alloc_event (o := ⟨some 10, _, _, _, _, _⟩) rfl 57 rfl (.agg (cellsS z57)) zero57 ?_); intro r hp w11 hp1 hB11 hs11; have HH11 := Lib.hid hp1; have HNR := Lib.hid (show b ≠ r by rw [hp]; exact Nat.ne_of_lt (blk_lt HE10.out)); have HNPR := Lib.hid (show p ≠ r by rw [hp]; exact Nat.ne_of_lt (blk_lt HP10.out)); have HLR := Lib.hid (show w7.heap.size ≤ r by rw [hp]; exact HL10.out.size); have HE11 := Lib.hid (below_keeps hB11 (blk_lt HE10.out) HE10.out); have HP11 := Lib.hid (below_keeps hB11 (blk_lt HP10.out) HP10.out); have HL11 := Lib.hid (below_then HL10.out hB11); clear hp hp1 hB11 hs11)
                  | ((with_reducible refine store_row_event rfl 57 _ _ rfl r (cellsS bb) ?hx ?hy 57 (cellsS z57) ?hg ?hi ?ho ?h1 ?_); (case hg => exact HH11.out); (case ho => exact cellsS_size _); (case hx => (go_simp; done)); (case hy => (unfold cellsS; go_simp; done)); (case hi => exact info57s _); (case h1 => exact cellsS_one _); intro w12 hp2 hB12 hs12; have HR12 := Lib.hid hp2; have HE12 := Lib.hid (hB12.keeps HNR.out HE11.out); have HP12 := Lib.hid (hB12.keeps HNPR.out HP11.out); have HL12 := Lib.hid (hB12.below HL11.out HLR.out HL11.out.size); obtain ⟨k0, k1, k2⟩ := entry34 HE12.out; obtain ⟨p0, p1, p2, p3, p4, p5, p6⟩ := LotAt.of_block HP12.out; obtain ⟨r0, r1, r2, r3, r4, r5, r6⟩ := LotAt.of_block HR12.out; clear hp2 hB12 hs12))
                go_quiet (fail)
                go_wp2
                go_roundw
                case rel => exact ⟨k + 1, HLT.out, by go_num, pw_below_drewN HL12.out _⟩
                case measure => have := HLT.out; simp [intOf]; omega
            · have g0 : (a.f0.toList == s.toList) = false := beq_eq_false_iff_ne.mpr (fun e => hs (ba_ext e))
              have g0' : (a.f0.toList != s.toList) = true := bne_iff_ne.mpr (fun e => hs (ba_ext e))
              obtain rfl := hkept.other hs
              clear hkept hn5 hs
              go_wp2_with (first
                | ((with_reducible refine alloc_event (o := ⟨some 8, _, _, _, _, _⟩) rfl 57 rfl (.agg (cellsS z57)) zero57 ?_); intro p hp w8 hp1 hB8 hs8; have HH8 := Lib.hid hp1; have HNP := Lib.hid (show b ≠ p by rw [hp]; exact Nat.ne_of_lt (blk_lt HEr.out)); have HLP := Lib.hid (show w7.heap.size ≤ p by rw [hp]; exact HB.out.size); have HE8 := Lib.hid (below_keeps hB8 (blk_lt HEr.out) HEr.out); have HL8 := Lib.hid (below_then HB.out hB8); clear hp hp1 hB8 hs8)
                | ((with_reducible refine store_row_event rfl 57 _ _ rfl p (cellsS a) ?hx ?hy 57 (cellsS z57) ?hg ?hi ?ho ?h1 ?_); (case hg => exact HH8.out); (case ho => exact cellsS_size _); (case hx => (go_simp; done)); (case hy => (unfold cellsS; go_simp; done)); (case hi => exact info57s _); (case h1 => exact cellsS_one _); intro w9 hp2 hB9 hs9; have HP9 := Lib.hid hp2; have HE9 := Lib.hid (hB9.keeps HNP.out HE8.out); have HL9 := Lib.hid (hB9.below HL8.out HLP.out HL8.out.size); obtain ⟨k0, k1, k2⟩ := entry34 HE9.out; clear hp2 hB9 hs9)
                | (go_at_call 29; (with_reducible refine (kidx_calls (some ad2) c0 l a p w9 (Kd.C_below HR7.out HL9.out) HC.out HL63.out (LotAt.of_block HP9.out).c0 _ HIX.out).mono ?_); rintro e w10 ⟨rfl, hB10⟩; have HL10 := Lib.hid (below_then HL9.out hB10); have HP10 := Lib.hid (below_keeps hB10 (blk_lt HP9.out) HP9.out); have HE10 := Lib.hid (below_keeps hB10 (blk_lt HE9.out) HE9.out); obtain ⟨k0, k1, k2⟩ := entry34 HE10.out; obtain ⟨p0, p1, p2, p3, p4, p5, p6⟩ := LotAt.of_block HP10.out; obtain ⟨ad3, had3, hl3, _⟩ := LotA.of_row HR7.out HL10.out j HJ.out; obtain rfl := Option.some.inj had3; rw [hbj.out] at hl3; obtain ⟨t0, t1, t2, t3, t4, t5, t6⟩ := hl3; clear hB10)
                | ((with_reducible refine alloc_event (o := ⟨some 10, _, _, _, _, _⟩) rfl 57 rfl (.agg (cellsS z57)) zero57 ?_); intro r hp w11 hp1 hB11 hs11; have HH11 := Lib.hid hp1; have HNR := Lib.hid (show b ≠ r by rw [hp]; exact Nat.ne_of_lt (blk_lt HE10.out)); have HNPR := Lib.hid (show p ≠ r by rw [hp]; exact Nat.ne_of_lt (blk_lt HP10.out)); have HLR := Lib.hid (show w7.heap.size ≤ r by rw [hp]; exact HL10.out.size); have HE11 := Lib.hid (below_keeps hB11 (blk_lt HE10.out) HE10.out); have HP11 := Lib.hid (below_keeps hB11 (blk_lt HP10.out) HP10.out); have HL11 := Lib.hid (below_then HL10.out hB11); clear hp hp1 hB11 hs11)
                | ((with_reducible refine store_row_event rfl 57 _ _ rfl r (cellsS a) ?hx ?hy 57 (cellsS z57) ?hg ?hi ?ho ?h1 ?_); (case hg => exact HH11.out); (case ho => exact cellsS_size _); (case hx => (go_simp; done)); (case hy => (unfold cellsS; go_simp; done)); (case hi => exact info57s _); (case h1 => exact cellsS_one _); intro w12 hp2 hB12 hs12; have HR12 := Lib.hid hp2; have HE12 := Lib.hid (hB12.keeps HNR.out HE11.out); have HP12 := Lib.hid (hB12.keeps HNPR.out HP11.out); have HL12 := Lib.hid (hB12.below HL11.out HLR.out HL11.out.size); obtain ⟨k0, k1, k2⟩ := entry34 HE12.out; obtain ⟨p0, p1, p2, p3, p4, p5, p6⟩ := LotAt.of_block HP12.out; obtain ⟨r0, r1, r2, r3, r4, r5, r6⟩ := LotAt.of_block HR12.out; clear hp2 hB12 hs12))
              go_quiet (fail)
              go_wp2
              go_roundw
              case rel => exact ⟨k + 1, HLT.out, by go_num, pw_below_drewN HL12.out _⟩
              case measure => have := HLT.out; simp [intOf]; omega
        · have hkl : k = u.1.length := by omega
          subst hkl
          go_wp2_with (first
            | (go_at_call 15; (with_reducible refine (awake_calls wr (hG.below (below_then HB7.out HB.out))).mono ?_); rintro e w8 ⟨rfl, hB8⟩; have HB8 := Lib.hid (below_then (below_then HB7.out HB.out) hB8); clear hB8))
          go_ret
          exact ⟨rfl, HB8.out⟩
    · have q1 : (u.2 != 0) = true := bne_iff_ne.mpr hu0
      have hz := keep_nil hu hu0
      have q2 : ((u.1.length : Int) == 0) = true := beq_iff_eq.mpr (by omega)
      clear hu hu0 hz
      go_enter Tryz.func6, Tryz.ntmps6
      go_wp2_with (first
        | ((with_reducible refine box_abs rfl 24 _ rfl #[.int .i64 kk, .string s, .int .i64 n] ?hx ?_); (case hx => rfl); intro b hb w1 hb1 hB1 hs1; have HE1 := Lib.hid hb1; obtain ⟨k0, k1, k2⟩ := entry34 hb1; have HB1 := Lib.hid hB1; clear hb hb1 hB1 hs1)
        | (go_at_call 14; (with_reducible refine (lots_calls A0 c0 l w1 (Kd.C_below HR.out HB1.out) HC.out HL41.out).mono ?_); rintro e w2 ⟨A2, c2, rfl, hc2, hC2, hB2⟩; have HB2 := Lib.hid (below_then HB1.out hB2); have HE2 := Lib.hid (below_keeps hB2 (blk_lt HE1.out) HE1.out); obtain ⟨k0, k1, k2⟩ := entry34 HE2.out; have HC2 := Lib.hid hC2; have HK2 := Lib.hid hc2; clear hC2 hB2)
        | (go_at_call 13; (with_reducible refine (few_calls A2 c2 l _ HFW.out w2 HC2.out HK2.out HL63.out).mono ?_); rintro e w3 ⟨rfl, hB3⟩; have HB3 := Lib.hid (below_then HB2.out hB3); have HE3 := Lib.hid (below_keeps hB3 (blk_lt HE2.out) HE2.out); obtain ⟨k0, k1, k2⟩ := entry34 HE3.out; clear hB3)
        | (go_at_call 14; (with_reducible refine (lots_calls A0 c0 l w3 (Kd.C_below HR.out HB3.out) HC.out HL41.out).mono ?_); rintro e w4 ⟨A4, c4, rfl, hc4, hC4, hB4⟩; have HB4 := Lib.hid (below_then HB3.out hB4); have HE4 := Lib.hid (below_keeps hB4 (blk_lt HE3.out) HE3.out); obtain ⟨k0, k1, k2⟩ := entry34 HE4.out; have HC4 := Lib.hid hC4; have HK4 := Lib.hid hc4; clear hC4 hB4)
        | (go_at_call 19; (with_reducible refine (rCheck_is A4 c4 l _ HCK.out w4 HC4.out HK4.out).mono ?_); rintro e w5 ⟨rfl, hB5⟩; have HB5 := Lib.hid (below_then HB4.out hB5); have HE5 := Lib.hid (below_keeps hB5 (blk_lt HE4.out) HE4.out); obtain ⟨k0, k1, k2⟩ := entry34 HE5.out; clear hB5)
        | (go_at_call 16; (with_reducible refine (Do_calls A0 c0 l kk s n w5 (Kd.C_below HR.out HB5.out) HC.out u HU.out).mono ?_); rintro e w6 ⟨v6, rfl, hR6, hB6⟩; have HB6 := Lib.hid (below_then HB5.out hB6); have HE6 := Lib.hid (below_keeps hB6 (blk_lt HE5.out) HE5.out); obtain ⟨k0, k1, k2⟩ := entry34 HE6.out; obtain ⟨A6, c6, rfl, hc6, hC6⟩ := Kd.R_reads hR6; have HC6 := Lib.hid hC6; have HK6 := Lib.hid hc6; clear hR6 hC6 hB6)
        | (go_at_call 15; (with_reducible refine (awake_calls w6 (hG.below HB6.out)).mono ?_); rintro e w7 ⟨rfl, hB7⟩; have HB7 := Lib.hid (below_then HB6.out hB7); clear hB7))
      go_ret
      exact ⟨rfl, HB7.out⟩
end Go.Proofs.YtdgipencedlbmaaGreatDoor.Pr
