/- The contract of register.Sum. The contracts of register.Text and register.Sum as the printed texts call them. The examples of the chapter hold. -/
import Derived.Test.YtdgipencedlbmaaGreatDoorZD02
import Derived.Test.YtdgipencedlbmaaGreatDoorZD18
import Derived.Test.YtdgipencedlbmaaGreatDoorZD19
import Derived.Test.YtdgipencedlbmaaGreatDoorZD17
namespace Go.Proofs.YtdgipencedlbmaaGreatDoor.Pr
set_option linter.unusedVariables false
set_option linter.unusedSimpArgs false
open Go.RowKit Go.Proofs.YtdgipencedlbmaaGreatDoorW.PrintWords Go.Proofs.YtdgipencedlbmaaGreatDoor.Hand
theorem stepS_range (h : Int) (b : UInt8) : 0 ≤ stepS h b ∧ stepS h b < 1000003 := by unfold stepS; omega
theorem foldS_range (l : List UInt8) (h : Int) (hh : 0 ≤ h ∧ h < 1000003) : 0 ≤ l.foldl stepS h ∧ l.foldl stepS h < 1000003 := by
  induction l generalizing h with
  | nil => exact hh
  | cons b l ih => exact ih _ (stepS_range h b)
theorem sum_ret {a b : Int} (h : b = a) : Ending.returned (.int .i64 a) = Ending.returned (.int .i64 b) := by rw [h]
theorem tmod_facts (a : Int) : -1000003 < a.tmod 1000003 ∧ a.tmod 1000003 < 1000003 ∧ (a.tmod 1000003 < 0 → a.tmod 1000003 + 1000003 = a % 1000003) ∧ (0 ≤ a.tmod 1000003 → a.tmod 1000003 = a % 1000003) := by
  rw [Int.tmod_eq_emod]
  split
  · omega
  · rename_i h
    have h1 : ¬ ((1000003 : Int) ∣ a) := fun hd => h (.inr hd)
    have h2 : a % 1000003 ≠ 0 := fun he => h1 (Int.dvd_of_emod_eq_zero he)
    omega
theorem sum_loop_step (s : ByteArray) (k : Nat) (h : k < s.size) (x : Int) : (s.data.toList.take (k + 1)).foldl stepS x = stepS ((s.data.toList.take k).foldl stepS x) (s[k]'h) := by
  rw [List.take_succ_eq_append_getElem (by simpa using h), List.foldl_append]
  simp [ByteArray.getElem_eq_getElem_data]
set_option maxHeartbeats 2000000 in
set_option maxRecDepth 100000 in
theorem Sum_calls (a : Int) (s : ByteArray) (w : World) (hs : s.size ≤ 140737488355328) : Calls Tryz.prog 37 #[.int .i64 a, .string s] w fun e w' => e = .returned (.int .i64 (sumS a s.data.toList)) ∧ Below w.heap.size w w' := by
  obtain ⟨W, c, hcv, hcell, hb⟩ := bytes_made (P := Tryz.prog) w 9 82 5 s Tryz.underlying9 Tryz.underlying82 Tryz.underlying5
  have HB := Lib.hid hb
  have HC := Lib.hid hcell
  clear hb hcell
  obtain ⟨x0, hx0⟩ : ∃ x0, x0 = a % 1000003 := ⟨_, rfl⟩
  have hr0 : 0 ≤ x0 ∧ x0 < 1000003 := by omega
  have HX0 := Lib.hid hx0
  have HR0 := Lib.hid hr0
  obtain ⟨t, ht⟩ : ∃ t, a.tmod 1000003 = t := ⟨_, rfl⟩
  have htr : -1000003 < t ∧ t < 1000003 ∧ (t < 0 → t + 1000003 = x0) ∧ (0 ≤ t → t = x0) := by
    rw [← ht, hx0]; exact tmod_facts a
  have hw : IntKind.i64.wrap t = t := by rw [IntKind.wrap_i64]; omega
  obtain ⟨t1, t2, t3, t4⟩ := htr
  clear hx0
  rcases (show (t < 0 ∧ t + 1000003 = x0) ∨ (0 ≤ t ∧ t = x0) by omega) with ⟨hn, e3⟩ | ⟨hn, e3⟩
  · have d1 : decide (t < 0) = true := decide_eq_true hn
    clear t3 t4
    go_enter Tryz.func37, Tryz.ntmps37
    go_wp2
    go_loop [5, 7, 17, 18, 19, 20, 21, 22, 23, 24, 25, 26, 27, 28] (fun h _ i _ _ _ _ _ _ _ _ _ _ _ => ∃ (k : Nat) (x : Int), k ≤ s.size ∧ i = .int .i64 k ∧ h = .int .i64 x ∧ (0 ≤ x ∧ x < 1000003) ∧ Hid ((s.data.toList.take k).foldl stepS x0 = x)) (fun _ _ i _ _ _ _ _ _ _ _ _ _ _ => s.size - (intOf i).toNat)
    case atStart => exact ⟨0, x0, Nat.zero_le _, rfl, rfl, HR0.out, rfl⟩
    case round =>
      obtain ⟨k, x, hk, rfl, rfl, ⟨hx1, hx2⟩, hsum⟩ := hrel
      by_cases hlt : k < s.size
      · have HLT := Lib.hid hlt
        have hx := HC.out k hlt
        obtain ⟨hb1, hb2⟩ := Hand.bt_range s k
        have hu := bt_u8 s k hlt
        have HU := Lib.hid hu
        clear hu
        obtain ⟨y, hy⟩ : ∃ y, y = (257 * x + bt s k + 1) % 1000003 := ⟨_, rfl⟩
        have HY := Lib.hid hy
        clear hy
        go_wp2
        go_round
        case rel => exact ⟨k + 1, (257 * x + bt s k + 1) % 1000003, HLT.out, by go_num, rfl, by omega, by
          show _ = _
          rw [sum_loop_step s k HLT.out, hsum.out]; unfold stepS; rw [HU.out]⟩
        case measure => have := HLT.out; simp [intOf]; omega
      · have hke : k = s.size := by omega
        have HK := Lib.hid hke
        have hge : ¬ k < s.size := hlt
        clear hke
        go_wp2
        go_ret
        refine ⟨sum_ret ?_, HB.out⟩
        unfold sumS
        rw [← HX0.out, ← hsum.out, List.take_of_length_le (by rw [HK.out]; simp)]
  · subst e3
    have d1 : decide (t < 0) = false := decide_eq_false (by omega)
    clear t3 t4
    go_enter Tryz.func37, Tryz.ntmps37
    go_wp2
    go_loop [5, 7, 17, 18, 19, 20, 21, 22, 23, 24, 25, 26, 27, 28] (fun h _ i _ _ _ _ _ _ _ _ _ _ _ => ∃ (k : Nat) (x : Int), k ≤ s.size ∧ i = .int .i64 k ∧ h = .int .i64 x ∧ (0 ≤ x ∧ x < 1000003) ∧ Hid ((s.data.toList.take k).foldl stepS t = x)) (fun _ _ i _ _ _ _ _ _ _ _ _ _ _ => s.size - (intOf i).toNat)
    case atStart => exact ⟨0, t, Nat.zero_le _, rfl, rfl, HR0.out, rfl⟩
    case round =>
      obtain ⟨k, x, hk, rfl, rfl, ⟨hx1, hx2⟩, hsum⟩ := hrel
      by_cases hlt : k < s.size
      · have HLT := Lib.hid hlt
        have hx := HC.out k hlt
        obtain ⟨hb1, hb2⟩ := Hand.bt_range s k
        have hu := bt_u8 s k hlt
        have HU := Lib.hid hu
        clear hu
        obtain ⟨y, hy⟩ : ∃ y, y = (257 * x + bt s k + 1) % 1000003 := ⟨_, rfl⟩
        have HY := Lib.hid hy
        clear hy
        go_wp2
        go_round
        case rel => exact ⟨k + 1, (257 * x + bt s k + 1) % 1000003, HLT.out, by go_num, rfl, by omega, by
          show _ = _
          rw [sum_loop_step s k HLT.out, hsum.out]; unfold stepS; rw [HU.out]⟩
        case measure => have := HLT.out; simp [intOf]; omega
      · have hke : k = s.size := by omega
        have HK := Lib.hid hke
        have hge : ¬ k < s.size := hlt
        clear hke
        go_wp2
        go_ret
        refine ⟨sum_ret ?_, HB.out⟩
        unfold sumS
        rw [← HX0.out, ← hsum.out, List.take_of_length_le (by rw [HK.out]; simp)]
end Go.Proofs.YtdgipencedlbmaaGreatDoor.Pr
namespace Go.Proofs.YtdgipencedlbmaaGreatDoor.Pr
set_option linter.unusedVariables false
open Go.RowKit Go.Proofs.YtdgipencedlbmaaGreatDoorW.PrintWords Go.Proofs.YtdgipencedlbmaaGreatDoor.Hand
theorem nameErr_size {s : ByteArray} (h : nameErr s = 0) : s.size ≤ 24 := by
  unfold nameErr at h
  by_cases h1 : s.size > 24
  · rw [if_pos h1] at h; cases h
  · omega
set_option maxHeartbeats 4000000 in
set_option maxRecDepth 100000 in
theorem Text_err (k : Int) (s : ByteArray) (n : Int) (w : World) (h : rightErr k s n ≠ 0) :
    Calls Tryz.prog 33 #[.agg #[.int .i64 k, .string s, .int .i64 n]] w fun e w' => e = .returned (.tuple #[.string (bytesA []), .int .i64 (rightErr k s n)]) ∧ Below w.heap.size w w' := by
  obtain ⟨v, hv⟩ : ∃ v, rightErr k s n = v := ⟨_, rfl⟩
  have HV := Lib.hid hv
  rw [hv] at h ⊢
  have d1 : (v != 0) = true := bne_iff_ne.mpr h
  clear hv h
  go_enter Tryz.func33, Tryz.ntmps33
  go_wp2_with (first
    | ((with_reducible refine box_abs rfl 24 _ rfl #[.int .i64 k, .string s, .int .i64 n] ?hx ?_); (case hx => rfl); intro b hb w1 hb1 hB1 hs1; have HBk := Lib.hid hb; have HE1 := Lib.hid hb1; have HB1 := Lib.hid hB1; have HS1 := Lib.hid hs1; obtain ⟨k0, k1, k2⟩ := entry_at hb1; clear hb hs1 hb1 hB1)
    | (go_at_call 20; refine (Right_calls _ _ _ _).mono ?_; rw [HV.out]; rintro e w2 ⟨rfl, hB2⟩; have HB2 := Lib.hid (below_then HB1.out hB2); clear hB2))
  go_ret2
  exact ⟨rfl, HB2.out⟩
theorem Text_calls (k : Int) (s : ByteArray) (n : Int) (w : World) (hG : GOOD w) :
    Calls Tryz.prog 33 #[.agg #[.int .i64 k, .string s, .int .i64 n]] w fun e w' => e = .returned (.tuple #[.string (textS k s n).1, .int .i64 (textS k s n).2]) ∧ Below w.heap.size w w' := by
  by_cases h : rightErr k s n = 0
  · have e : textS k s n = (bytesA (textL k s.data.toList n), 0) := by unfold textS; rw [if_neg (by simpa using h)]
    rw [e]
    obtain ⟨h0, h7, hs, h5, h6⟩ := rightErr_zero h
    have hz := nameErr_size hs
    have hn : 0 ≤ n ∧ n ≤ 1048576 := by
      rcases Int.lt_or_le k 5 with h | h
      · have := h5 h; omega
      · have := h6 h; omega
    rcases (show k = 0 ∨ k = 1 ∨ k = 2 ∨ k = 3 ∨ k = 4 ∨ k = 5 ∨ k = 6 by omega) with rfl | rfl | rfl | rfl | rfl | rfl | rfl
    · exact Text_0 s n w hG h hz hn.1 hn.2
    · exact Text_1 s n w hG h hz hn.1 hn.2
    · exact Text_2 s n w hG h hz hn.1 hn.2
    · exact Text_3 s n w hG h hz hn.1 hn.2
    · exact Text_4 s n w hG h hz hn.1 hn.2
    · exact Text_5 s n w hG h hz hn.1 hn.2
    · exact Text_6 s n w hG h hz hn.1 hn.2
  · have e : textS k s n = (bytesA [], rightErr k s n) := by unfold textS; rw [if_pos h]
    rw [e]
    exact Text_err k s n w h
def register_Text.f (a0_0 : Int) (a0_1 : ByteArray) (a0_2 : Int) : Option (ByteArray × Int) := some (textS a0_0 a0_1 a0_2)
theorem register_Text.calls (a0_0 : Int) (a0_1 : ByteArray) (a0_2 : Int) (r1 : ByteArray) (r2 : Int) (w : World) (hG : GOOD w) (h : register_Text.f a0_0 a0_1 a0_2 = some (r1, r2)) :
    Calls Tryz.prog 33 #[.agg #[.int .i64 a0_0, .string a0_1, .int .i64 a0_2]] w fun e w' => e = .returned (.tuple #[.string r1, .int .i64 r2]) ∧ Below w.heap.size w w' := by
  have h' := Text_calls a0_0 a0_1 a0_2 w hG
  rw [show textS a0_0 a0_1 a0_2 = (r1, r2) from Option.some.inj h] at h'
  exact h'
def register_Sum.f (a0 : Int) (a1 : ByteArray) : Option Int := if a1.size ≤ 140737488355328 then some (sumS a0 a1.data.toList) else none
theorem register_Sum.calls (a0 : Int) (a1 : ByteArray) (r : Int) (w : World) (h : register_Sum.f a0 a1 = some r) :
    Calls Tryz.prog 37 #[.int .i64 a0, .string a1] w fun e w' => e = .returned (.int .i64 r) ∧ Below w.heap.size w w' := by
  unfold register_Sum.f at h
  by_cases h1 : a1.size ≤ 140737488355328
  · rw [if_pos h1] at h
    cases h
    exact Sum_calls a0 a1 w h1
  · rw [if_neg h1] at h; cases h
end Go.Proofs.YtdgipencedlbmaaGreatDoor.Pr
namespace Go.Proofs.YtdgipencedlbmaaGreatDoor.Pr
set_option linter.unusedVariables false
set_option linter.unusedSimpArgs false
open Go.RowKit Go.Proofs.YtdgipencedlbmaaGreatDoorW.PrintWords Go.Proofs.YtdgipencedlbmaaGreatDoorW.PrintLast Go.Proofs.YtdgipencedlbmaaGreatDoorW.PrintMore Go.Proofs.YtdgipencedlbmaaGreatDoor.Hand
def lotA : S57 := ⟨sA, 10, 6, 0, 3, 1, 2⟩
def lotT : S57 := ⟨sA, 10, 6, 0, 0, 0, 0⟩
theorem all_seven : allS sevenL = ([lotA], 0, 0) := by kernel_rfl
theorem all_two : allS (sevenL.take 2) = ([lotT], 0, 0) := by kernel_rfl
theorem dec_small {u : Nat} (h : u < 10) : Lib.decDigits u = [UInt8.ofNat (48 + u)] := by rw [Lib.decDigits, dif_pos h]
theorem dec_ten : Lib.decDigits 10 = [49, 48] := by
  rw [Lib.decDigits, dif_neg (by decide), dec_small (by decide)]
  rfl
theorem usable_A : usableS [lotA] sA = (⟨#[57, 47, 49, 48]⟩, 0) := by
  have e : shareS lotA = [57, 47, 49, 48] := by
    show overL 9 10 = _
    have hg : Nat.gcd 9 10 = 1 := by decide
    unfold overL
    rw [hg, if_neg (by decide), show 9 / 1 = 9 from rfl, show 10 / 1 = 10 from rfl, dec_small (by decide), dec_ten]
    rfl
  have hc : checkS [lotA] = 0 := by kernel_rfl
  have hn : nameErr sA = 0 := by kernel_rfl
  have hh : hasS [lotA] sA = true := by kernel_rfl
  have hl : lbS [lotA] sA = 0 := by kernel_rfl
  unfold usableS
  rw [hc, hn, hh, hl, if_neg (by decide), if_neg (by decide), if_neg (by decide)]
  show (bytesA (shareS lotA), (0 : Int)) = _
  rw [e]; rfl
theorem text_3 : textS 3 sA 3 = (⟨#[99, 111, 110, 99, 101, 100, 101, 32, 65, 32, 51]⟩, 0) := by
  have hr : rightErr 3 sA 3 = 0 := by kernel_rfl
  have hi : Lib.itoa 3 = [51] := by
    rw [show (3 : Int) = ((3 : Nat) : Int) from rfl, itoa_nat, dec_small (by decide)]; rfl
  unfold textS
  rw [hr, if_neg (by decide)]
  unfold textL
  rw [hi]
  rfl
theorem sum_a : sumS 1 (⟨#[97]⟩ : ByteArray).data.toList = 355 := by kernel_rfl
theorem sum_ab : sumS 1 (⟨#[97, 98]⟩ : ByteArray).data.toList = 91334 := by kernel_rfl
theorem All_seven (ad : Addr) (c : Nat) (w : World) (hr : Kd.C k24 w (some ad) 7 sevenL) (hc : 7 ≤ c) :
    Calls Tryz.prog 25 #[.slice (some ad) 7 c] w fun e w' => ∃ A c', e = .returned (.tuple #[.slice A 1 c', .int .i64 0, .int .i64 0]) ∧ 1 ≤ c' ∧ Kd.C k57 w' A 1 [lotA] ∧ Below w.heap.size w w' := by
  refine (All_calls (some ad) c sevenL w hr hc _ all_seven).mono ?_
  rintro e w' ⟨v, rfl, hR, hB⟩
  obtain ⟨A, c', rfl, hc', hC⟩ := Kd.R_reads hR
  exact ⟨A, c', rfl, hc', hC, hB⟩
theorem C24_two {w : World} {A : Option Addr} (h : Kd.C k24 w A 7 sevenL) : Kd.C k24 w A 2 (sevenL.take 2) := by
  obtain ⟨h1, h2, h3⟩ := h
  refine ⟨rfl, by omega, fun _ => ?_⟩
  obtain ⟨ad, ha, hj⟩ := h3 (by omega)
  refine ⟨ad, ha, fun j p hp => hj j p ?_⟩
  rw [List.getElem?_take] at hp
  split at hp
  · exact hp
  · cases hp
theorem All_two (ad : Addr) (c : Nat) (w : World) (hr : Kd.C k24 w (some ad) 7 sevenL) (hc : 7 ≤ c) :
    Calls Tryz.prog 25 #[.slice (some ad) 2 c] w fun e w' => ∃ A c', e = .returned (.tuple #[.slice A 1 c', .int .i64 0, .int .i64 0]) ∧ 1 ≤ c' ∧ Kd.C k57 w' A 1 [lotT] ∧ Below w.heap.size w w' := by
  refine (All_calls (some ad) c (sevenL.take 2) w (C24_two hr) (by show 2 ≤ c; omega) _ all_two).mono ?_
  rintro e w' ⟨v, rfl, hR, hB⟩
  obtain ⟨A, c', rfl, hc', hC⟩ := Kd.R_reads hR
  exact ⟨A, c', rfl, hc', hC, hB⟩
theorem two_0 (A : Option Addr) (c : Nat) (w : World) (hr : Kd.C k57 w A 1 [lotT]) (hc : 1 ≤ c) :
    Calls Tryz.prog 16 #[.slice A 1 c, .agg #[.int .i64 5, .string ⟨#[65]⟩, .int .i64 0]] w fun e w' => ∃ v, e = .returned (.tuple #[v, .int .i64 16]) ∧ Below w.heap.size w w' := by
  have hd : (doS [lotT] 5 ⟨#[65]⟩ 0).2 = 16 := by kernel_rfl
  refine (Do_calls A c [lotT] 5 ⟨#[65]⟩ 0 w hr hc _ rfl).mono ?_
  rintro e w' ⟨v, rfl, _, hB⟩
  exact ⟨v, by rw [hd], hB⟩
theorem two_1 (A : Option Addr) (c : Nat) (w : World) (hr : Kd.C k57 w A 1 [lotT]) (hc : 1 ≤ c) :
    Calls Tryz.prog 16 #[.slice A 1 c, .agg #[.int .i64 1, .string ⟨#[65]⟩, .int .i64 5]] w fun e w' => ∃ v, e = .returned (.tuple #[v, .int .i64 16]) ∧ Below w.heap.size w w' := by
  have hd : (doS [lotT] 1 ⟨#[65]⟩ 5).2 = 16 := by kernel_rfl
  refine (Do_calls A c [lotT] 1 ⟨#[65]⟩ 5 w hr hc _ rfl).mono ?_
  rintro e w' ⟨v, rfl, _, hB⟩
  exact ⟨v, by rw [hd], hB⟩
theorem two_2 (A : Option Addr) (c : Nat) (w : World) (hr : Kd.C k57 w A 1 [lotT]) (hc : 1 ≤ c) :
    Calls Tryz.prog 16 #[.slice A 1 c, .agg #[.int .i64 6, .string ⟨#[65]⟩, .int .i64 0]] w fun e w' => ∃ v, e = .returned (.tuple #[v, .int .i64 14]) ∧ Below w.heap.size w w' := by
  have hd : (doS [lotT] 6 ⟨#[65]⟩ 0).2 = 14 := by kernel_rfl
  refine (Do_calls A c [lotT] 6 ⟨#[65]⟩ 0 w hr hc _ rfl).mono ?_
  rintro e w' ⟨v, rfl, _, hB⟩
  exact ⟨v, by rw [hd], hB⟩
theorem two_3 (A : Option Addr) (c : Nat) (w : World) (hr : Kd.C k57 w A 1 [lotT]) (hc : 1 ≤ c) :
    Calls Tryz.prog 16 #[.slice A 1 c, .agg #[.int .i64 1, .string ⟨#[66]⟩, .int .i64 1]] w fun e w' => ∃ v, e = .returned (.tuple #[v, .int .i64 6]) ∧ Below w.heap.size w w' := by
  have hd : (doS [lotT] 1 ⟨#[66]⟩ 1).2 = 6 := by kernel_rfl
  refine (Do_calls A c [lotT] 1 ⟨#[66]⟩ 1 w hr hc _ rfl).mono ?_
  rintro e w' ⟨v, rfl, _, hB⟩
  exact ⟨v, by rw [hd], hB⟩
theorem Usable_A (A : Option Addr) (c : Nat) (w : World) (hG : GOOD w) (hr : Kd.C k57 w A 1 [lotA]) (hc : 1 ≤ c) :
    Calls Tryz.prog 27 #[.slice A 1 c, .string ⟨#[65]⟩] w fun e w' => e = .returned (.tuple #[.string ⟨#[57, 47, 49, 48]⟩, .int .i64 0]) ∧ Below w.heap.size w w' :=
  Usable_calls A c [lotA] ⟨#[65]⟩ w hG hr hc _ usable_A
theorem Text_A3 (w : World) (hG : GOOD w) : Calls Tryz.prog 33 #[.agg #[.int .i64 3, .string sA, .int .i64 3]] w fun e w' => e = .returned (.tuple #[.string ⟨#[99, 111, 110, 99, 101, 100, 101, 32, 65, 32, 51]⟩, .int .i64 0]) ∧ Below w.heap.size w w' := by
  have h := Text_calls 3 sA 3 w hG
  rw [text_3] at h
  exact h
theorem C_one {W : World} {g : Nat} {t : TypeId} {x : S57} (h : W.heap[g]? = some (.cells (cellsS x) t (0, 0))) : Kd.C k57 W (some ⟨g, 0, none⟩) 1 [x] := by
  refine ⟨rfl, by omega, fun _ => ⟨_, rfl, fun j p hp => ?_⟩⟩
  rcases j with _ | j
  · obtain rfl : x = p := by simpa using hp
    refine ⟨(cellsS x).toList, rfl, k57.K_of_M (k57_mkM W 0 (fun _ => True) x), fun i u hi => ?_⟩
    rw [add_plain, cellB h]
    simpa using hi
  · simp at hp
theorem seven_3 {w W : World} {ad : Addr} (h : Kd.C k24 w (some ad) 7 sevenL) : w.cell? ⟨ad.block, ad.off + 9, none⟩ = some (.int .i64 3) ∧ w.cell? ⟨ad.block, ad.off + 9 + 1, none⟩ = some (.string sA) ∧ w.cell? ⟨ad.block, ad.off + 9 + 2, none⟩ = some (.int .i64 3) := by
  obtain ⟨ad', e, h0, h1, h2, _⟩ := entry_row h (Below.refl _ _) 3 (by decide)
  cases e
  exact ⟨h0, h1, h2⟩
theorem equal_awake (A : Option Addr) (c : Nat) (w : World) (hr : Kd.C k57 w A 1 [lotA]) (hc : 1 ≤ c) :
    Calls Tryz.prog 48 #[.slice A 1 c, .slice (some ⟨w.heap.size, 0, none⟩) 1 1] (w.alloc (.cells #[.string ⟨#[65]⟩, .int .i64 10, .int .i64 6, .int .i64 0, .int .i64 3, .int .i64 1, .int .i64 2] 57)) fun e w' => e = .returned (.bool true) ∧ Below w.heap.size w w' := by
  have hB := below_alloc (Below.refl w.heap.size w) (.cells (cellsS lotA) 57 (0, 0))
  exact (equal_one A _ c 1 lotA _ (Kd.C_below hr hB) hc (C_one (t := 57) (heap_alloc_new w (.cells (cellsS lotA) 57 (0, 0)))) (Nat.le_refl 1)).mono fun _ _ h => ⟨h.1, below_then hB h.2⟩
theorem sum_awake (w : World) : Calls Tryz.prog 37 #[.int .i64 1, .string ⟨#[97]⟩] w fun e w' => e = .returned (.int .i64 355) ∧ Below w.heap.size w w' := by
  have h := Sum_calls 1 ⟨#[97]⟩ w (by decide)
  rwa [sum_a] at h
theorem sum_awake2 (w : World) : Calls Tryz.prog 37 #[.int .i64 1, .string ⟨#[97, 98]⟩] w fun e w' => e = .returned (.int .i64 91334) ∧ Below w.heap.size w w' := by
  have h := Sum_calls 1 ⟨#[97, 98]⟩ w (by decide)
  rwa [sum_ab] at h
set_option maxHeartbeats 1000000 in
set_option maxRecDepth 100000 in
theorem awake_calls (w : World) (hG : GOOD w) : Calls Tryz.prog 15 #[] w fun e w' => e = .returned (.bool true) ∧ Below w.heap.size w w' := by
  go_enter Tryz.func15, Tryz.ntmps15
  go_wp2_with (first
    | (go_at_call 47; (with_reducible refine (Seven_calls w).mono ?_); rintro e w1 ⟨ad1, c1, rfl, hc1, hC1, hB1⟩; have HS1 := Lib.hid hC1; have HK1 := Lib.hid hc1; have HB1 := Lib.hid hB1; clear hC1 hB1)
    | (go_at_call 25; (with_reducible refine (All_seven ad1 c1 w1 HS1.out HK1.out).mono ?_); rintro e w2 ⟨A2, c2, rfl, hc2, hC2, hB2⟩; have HL2 := Lib.hid hC2; have HK2 := Lib.hid hc2; have HB2 := Lib.hid (below_then HB1.out hB2); have HG2 := Lib.hid (hG.below HB2.out); clear hC2 hB2)
    | (go_at_call 27; (with_reducible refine (Usable_A A2 c2 w2 HG2.out HL2.out HK2.out).mono ?_); rintro e w3 ⟨rfl, hB3⟩; have HL3 := Lib.hid (Kd.C_below HL2.out hB3); have HB3 := Lib.hid (below_then HB2.out hB3); clear hB3)
    | (go_at_call 47; (with_reducible refine (Seven_calls w3).mono ?_); rintro e w4 ⟨ad4, c4, rfl, hc4, hC4, hB4⟩; have hc4' : 2 ≤ c4 := by omega
       have HS4 := Lib.hid hC4; have HK4 := Lib.hid hc4; have HL4 := Lib.hid (Kd.C_below HL3.out hB4); have HB4 := Lib.hid (below_then HB3.out hB4); clear hC4 hB4)
    | (go_at_call 25; (with_reducible refine (All_two ad4 c4 w4 HS4.out HK4.out).mono ?_); rintro e w5 ⟨A5, c5, rfl, hc5, hC5, hB5⟩; have HT := Lib.hid hC5; have HKT := Lib.hid hc5; have HL5 := Lib.hid (Kd.C_below HL4.out hB5); have HB5 := Lib.hid (below_then HB4.out hB5); clear hC5 hB5)
    | (go_at_call 16; (with_reducible refine (two_0 A5 c5 w5 HT.out HKT.out).mono ?_); rintro e w6 ⟨v6, rfl, hB6⟩; have HT6 := Lib.hid (Kd.C_below HT.out hB6); have HL6 := Lib.hid (Kd.C_below HL5.out hB6); have HB6 := Lib.hid (below_then HB5.out hB6); clear hB6)
    | (go_at_call 16; (with_reducible refine (two_1 A5 c5 w6 HT6.out HKT.out).mono ?_); rintro e w7 ⟨v7, rfl, hB7⟩; have HT7 := Lib.hid (Kd.C_below HT6.out hB7); have HL7 := Lib.hid (Kd.C_below HL6.out hB7); have HB7 := Lib.hid (below_then HB6.out hB7); clear hB7)
    | (go_at_call 16; (with_reducible refine (two_2 A5 c5 w7 HT7.out HKT.out).mono ?_); rintro e w8 ⟨v8, rfl, hB8⟩; have HT8 := Lib.hid (Kd.C_below HT7.out hB8); have HL8 := Lib.hid (Kd.C_below HL7.out hB8); have HB8 := Lib.hid (below_then HB7.out hB8); clear hB8)
    | (go_at_call 16; (with_reducible refine (two_3 A5 c5 w8 HT8.out HKT.out).mono ?_); rintro e w9 ⟨v9, rfl, hB9⟩; have HT9 := Lib.hid (Kd.C_below HT8.out hB9); have HL9 := Lib.hid (Kd.C_below HL8.out hB9); have HB9 := Lib.hid (below_then HB8.out hB9); clear hB9)
    | (go_at_call 47; (with_reducible refine (Seven_calls w9).mono ?_); rintro e w10 ⟨ad10, c10, rfl, hc10, hC10, hB10⟩; obtain ⟨q0, q1, q2⟩ := seven_3 (W := w10) hC10; have HL10 := Lib.hid (Kd.C_below HL9.out hB10); have HB10 := Lib.hid (below_then HB9.out hB10); have HG10 := Lib.hid (hG.below HB10.out); clear hC10 hB10)
    | (go_at_call 33; (with_reducible refine (Text_A3 w10 HG10.out).mono ?_); rintro e w11 ⟨rfl, hB11⟩; have HL11 := Lib.hid (Kd.C_below HL10.out hB11); have HB11 := Lib.hid (below_then HB10.out hB11); clear hB11)
    | (go_at_call 48; (with_reducible refine (equal_awake A2 c2 w11 HL11.out HK2.out).mono ?_); rintro e w12 ⟨rfl, hB12⟩; have HB12 := Lib.hid (below_then HB11.out hB12); clear hB12)
    | (go_at_call 37; (with_reducible refine (sum_awake w12).mono ?_); rintro e w13 ⟨rfl, hB13⟩; have HB13 := Lib.hid (below_then HB12.out hB13); clear hB13)
    | (go_at_call 37; (with_reducible refine (sum_awake2 w13).mono ?_); rintro e w14 ⟨rfl, hB14⟩; have HB14 := Lib.hid (below_then HB13.out hB14); clear hB14))
  go_ret
  exact ⟨rfl, HB14.out⟩
end Go.Proofs.YtdgipencedlbmaaGreatDoor.Pr
