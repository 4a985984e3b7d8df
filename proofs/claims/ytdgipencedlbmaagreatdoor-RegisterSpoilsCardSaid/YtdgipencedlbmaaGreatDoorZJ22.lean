/- Texts of entries in plain Lean: what stands between blanks, and which entry has a text. register.Read's look for the kind with a word: the closure and slices.IndexFunc over the kinds. Parts of registe -/
import Derived.Test.YtdgipencedlbmaaGreatDoorZD08
import Derived.Test.YtdgipencedlbmaaGreatDoorZD15
import Derived.Lib.Split
import Derived.Test.YtdgipencedlbmaaGreatDoorZD07
import Derived.Test.YtdgipencedlbmaaGreatDoorZT20
import Derived.Test.YtdgipencedlbmaaGreatDoorZD13
namespace Go.Proofs.YtdgipencedlbmaaGreatDoor.Pr
set_option linter.unusedVariables false
set_option linter.unusedSimpArgs false
open Go.RowKit Go.Proofs.YtdgipencedlbmaaGreatDoorW.PrintWords Go.Proofs.YtdgipencedlbmaaGreatDoor.Hand
def splitS : List UInt8 → List (List UInt8)
  | [] => [[]]
  | x :: l => if x = 32 then [] :: splitS l else match splitS l with | [] => [[x]] | p :: r => (x :: p) :: r
theorem splitS_app {a b : List UInt8} (h : (32 : UInt8) ∉ a) : splitS (a ++ 32 :: b) = a :: splitS b := by
  induction a with
  | nil => show splitS (32 :: b) = _; conv => lhs; unfold splitS
           rw [if_pos rfl]
  | cons x a ih =>
    have hx : x ≠ 32 := fun e => h (by simp [e])
    have ih := ih (fun hm => h (by simp [hm]))
    show splitS (x :: (a ++ 32 :: b)) = _
    conv => lhs; unfold splitS
    rw [if_neg hx, ih]
theorem splitS_one {a : List UInt8} (h : (32 : UInt8) ∉ a) : splitS a = [a] := by
  induction a with
  | nil => rfl
  | cons x a ih =>
    have hx : x ≠ 32 := fun e => h (by simp [e])
    have ih := ih (fun hm => h (by simp [hm]))
    unfold splitS
    rw [if_neg hx, ih]
theorem index_one (c : UInt8) (l : List UInt8) : (c ∉ l ∧ Lib.index l [c] = -1) ∨ ∃ a b, l = a ++ c :: b ∧ c ∉ a ∧ Lib.index l [c] = a.length := by
  induction l with
  | nil => exact Or.inl ⟨by simp, rfl⟩
  | cons x l ih =>
    by_cases hx : x = c
    · subst hx
      refine Or.inr ⟨[], l, rfl, by simp, ?_⟩
      unfold Lib.index
      rw [if_pos (by simp [List.isPrefixOf])]; rfl
    · have hx' : ¬ c = x := fun e => hx e.symm
      have e : ([c] : List UInt8).isPrefixOf (x :: l) = false := by simp [List.isPrefixOf, hx']
      rcases ih with ⟨h1, h2⟩ | ⟨a, b, h1, h2, h3⟩
      · refine Or.inl ⟨by simp [h1, hx'], ?_⟩
        unfold Lib.index
        rw [e, if_neg (by simp), h2]; rfl
      · refine Or.inr ⟨x :: a, b, by simp [h1], by simp [h2, hx'], ?_⟩
        unfold Lib.index
        have hm : ¬ ((a.length : Int) == -1) = true := by
          intro h
          have := beq_iff_eq.1 h
          omega
        rw [e, if_neg (by simp), h3, if_neg hm]; simp
theorem splitK_eq : ∀ (k : Nat) (l : List UInt8), Lib.count l [32] ≤ k → Lib.splitK [32] 0 k l = splitS l := by
  intro k
  induction k with
  | zero =>
    intro l h
    rcases index_one 32 l with ⟨h1, h2⟩ | ⟨a, b, h1, h2, h3⟩
    · rw [splitS_one h1]; rfl
    · rw [Lib.count_hit (by simp) h3] at h; omega
  | succ k ih =>
    intro l h
    rcases index_one 32 l with ⟨h1, h2⟩ | ⟨a, b, h1, h2, h3⟩
    · unfold Lib.splitK
      rw [h2, if_pos (by decide), splitS_one h1]
    · have hc := Lib.count_hit (sub := [32]) (by simp) h3
      have hm : ¬ ((a.length : Int) == -1) = true := by
        intro h
        have := beq_iff_eq.1 h
        omega
      have hd : l.drop (a.length + ([32] : List UInt8).length) = b := by
        rw [h1, List.drop_append]; simp
      have ht : l.take (a.length + 0) = a := by rw [h1, List.take_append]; simp
      rw [hd] at hc
      unfold Lib.splitK
      rw [h3, if_neg hm, Int.toNat_natCast, hd, ht, ih b (by omega), h1, splitS_app h2]
theorem splitB_eq (s : ByteArray) : (Lib.splitB ⟨#[32]⟩ 0 (Lib.countB s ⟨#[32]⟩) s).map (·.data.toList) = splitS s.data.toList := by
  rw [Lib.splitB_data]
  exact splitK_eq _ _ (Nat.le_refl _)
theorem word_no (k : Int) : (32 : UInt8) ∉ wordS k ∧ (10 : UInt8) ∉ wordS k := by
  unfold wordS
  repeat' split
  all_goals decide
theorem name_no {s : ByteArray} (h : nameErr s = 0) : (32 : UInt8) ∉ s.data.toList ∧ (10 : UInt8) ∉ s.data.toList ∧ s.size ≤ 24 := by
  unfold nameErr at h
  split at h
  · cases h
  · split at h
    · cases h
    · split at h
      · cases h
      · split at h
        · rename_i h0 _ _ ha
          rw [List.all_eq_true] at ha
          refine ⟨fun hm => ?_, fun hm => ?_, by omega⟩
          · have := ha _ hm; revert this; decide
          · have := ha _ hm; revert this; decide
        · cases h
theorem dec_no (n : Nat) : (32 : UInt8) ∉ Lib.decDigits n ∧ (10 : UInt8) ∉ Lib.decDigits n := by
  refine ⟨fun hm => ?_, fun hm => ?_⟩
  · have := (dec_digit n _ hm).1; revert this; decide
  · have := (dec_digit n _ hm).1; revert this; decide
theorem itoa_pos {n : Int} (h : 0 ≤ n) : Lib.itoa n = Lib.decDigits n.toNat := by unfold Lib.itoa; rw [if_neg (by omega)]
def textE (x : S24) : List UInt8 := textL x.f0 x.f1.data.toList x.f2
def rightE (x : S24) : Int := rightErr x.f0 x.f1 x.f2
theorem textE_split {x : S24} (h : rightE x = 0) : splitS (textE x) = wordS x.f0 :: x.f1.data.toList :: (if 5 ≤ x.f0 then [] else [Lib.itoa x.f2]) := by
  obtain ⟨h0, h7, hn, h5, h6⟩ := rightErr_zero h
  unfold textE textL
  have w := (word_no x.f0).1
  have q := (name_no hn).1
  by_cases hk : 5 ≤ x.f0
  · rw [if_pos hk, if_pos hk, splitS_app w, splitS_one q]
  · rw [if_neg hk, if_neg hk]
    have hc := h5 (by omega)
    have d := (dec_no x.f2.toNat).1
    rw [← itoa_pos (by omega)] at d
    rw [List.append_assoc, List.cons_append, splitS_app w, splitS_app q, splitS_one d]
def kindL (w : List UInt8) : Int :=
  if w = wordS 0 then 0 else if w = wordS 1 then 1 else if w = wordS 2 then 2 else if w = wordS 3 then 3 else if w = wordS 4 then 4 else if w = wordS 5 then 5 else if w = wordS 6 then 6 else -1
theorem kindL_word {k : Int} (h0 : 0 ≤ k) (h7 : k < 7) : kindL (wordS k) = k := by
  rcases (show k = 0 ∨ k = 1 ∨ k = 2 ∨ k = 3 ∨ k = 4 ∨ k = 5 ∨ k = 6 by omega) with rfl | rfl | rfl | rfl | rfl | rfl | rfl <;> decide
def guessS (ws : List (List UInt8)) (cnt : List UInt8 → Int) : S24 := ⟨kindL (ws.getD 0 []), bytesA (ws.getD 1 []), match ws[2]? with | none => 0 | some c => cnt c⟩
theorem bytesA_data (s : ByteArray) : bytesA s.data.toList = s := by cases s; rfl
theorem guess_right {x : S24} {cnt : List UInt8 → Int} (h : rightE x = 0) (hc : ∀ n : Int, 1 ≤ n → n ≤ 1048576 → cnt (Lib.itoa n) = n) : guessS (splitS (textE x)) cnt = x := by
  obtain ⟨h0, h7, hn, h5, h6⟩ := rightErr_zero h
  rw [textE_split h]
  unfold guessS
  by_cases hk : 5 ≤ x.f0
  · rw [if_pos hk]
    have := h6 hk
    obtain ⟨k, s, n⟩ := x
    simp only [List.getD_cons_zero, List.getD_cons_succ] at *
    rw [kindL_word h0 h7, bytesA_data]
    simp [this]
  · rw [if_neg hk]
    have h5' := h5 (by omega)
    obtain ⟨k, s, n⟩ := x
    simp only [List.getD_cons_zero, List.getD_cons_succ] at *
    rw [kindL_word h0 h7, bytesA_data]
    simp [hc n h5'.1 h5'.2]
def atoiV (l : List UInt8) : Int := match Lib.atoiAll l with | .ok v => v | _ => 0
theorem textE_inj {x y : S24} (hx : rightE x = 0) (hy : rightE y = 0) (h : textE x = textE y) : x = y := by
  have hc : ∀ n : Int, 1 ≤ n → n ≤ 1048576 → atoiV (Lib.itoa n) = n := by
    intro n h1 h2
    rw [itoa_pos (by omega)]
    unfold atoiV
    rw [atoi_dec _ (by omega)]
    show ((n.toNat : Nat) : Int) = n
    omega
  rw [← guess_right hx hc, ← guess_right hy hc, h]
open Classical in
noncomputable def readS (t : List UInt8) : S24 × Int := if 4096 < t.length then (z24, 17) else if h : ∃ x, rightE x = 0 ∧ textE x = t then (h.choose, 0) else (z24, 4)
theorem readS_long {t : List UInt8} (h : 4096 < t.length) : readS t = (z24, 17) := by unfold readS; rw [if_pos h]
theorem readS_some {t : List UInt8} {x : S24} (h : ¬ 4096 < t.length) (hx : rightE x = 0) (ht : textE x = t) : readS t = (x, 0) := by
  unfold readS
  have he : ∃ x, rightE x = 0 ∧ textE x = t := ⟨x, hx, ht⟩
  rw [if_neg h, dif_pos he]
  exact Prod.ext (textE_inj he.choose_spec.1 hx (he.choose_spec.2.trans ht.symm)) rfl
theorem readS_none {t : List UInt8} (h : ¬ 4096 < t.length) (hn : ∀ x, rightE x = 0 → textE x ≠ t) : readS t = (z24, 4) := by
  unfold readS
  rw [if_neg h, dif_neg (fun ⟨x, h1, h2⟩ => hn x h1 h2)]
theorem readS_zero {t : List UInt8} (h : (readS t).2 = 0) : rightE (readS t).1 = 0 ∧ textE (readS t).1 = t := by
  unfold readS at h ⊢
  by_cases h1 : 4096 < t.length
  · rw [if_pos h1] at h; cases h
  · rw [if_neg h1] at h ⊢
    by_cases h2 : ∃ x, rightE x = 0 ∧ textE x = t
    · rw [dif_pos h2]; exact h2.choose_spec
    · rw [dif_neg h2] at h; cases h
theorem textE_len {x : S24} (h : rightE x = 0) : 5 ≤ (textE x).length ∧ (textE x).length ≤ 40 := by
  obtain ⟨h0, h7, hn, h5, h6⟩ := rightErr_zero h
  have hw : 4 ≤ (wordS x.f0).length ∧ (wordS x.f0).length ≤ 7 := by
    rcases (show x.f0 = 0 ∨ x.f0 = 1 ∨ x.f0 = 2 ∨ x.f0 = 3 ∨ x.f0 = 4 ∨ x.f0 = 5 ∨ x.f0 = 6 by omega) with e | e | e | e | e | e | e <;> rw [e] <;> decide
  have hs : x.f1.data.toList.length ≤ 24 := by have := (name_no hn).2.2; simpa using this
  unfold textE textL
  by_cases hk : 5 ≤ x.f0
  · rw [if_pos hk]; simp only [List.length_append, List.length_cons]; omega
  · rw [if_neg hk]
    have hc := h5 (by omega)
    have hd : (Lib.itoa x.f2).length ≤ 7 := by rw [itoa_pos (by omega)]; exact dec_len (d := 6) (by omega)
    simp only [List.length_append, List.length_cons]; omega
theorem textE_no {x : S24} (h : rightE x = 0) : (10 : UInt8) ∉ textE x := by
  obtain ⟨h0, h7, hn, h5, h6⟩ := rightErr_zero h
  have w := (word_no x.f0).2
  have q := (name_no hn).2.1
  unfold textE textL
  by_cases hk : 5 ≤ x.f0
  · rw [if_pos hk]; simp [w]; simpa using q
  · rw [if_neg hk]
    have hc := h5 (by omega)
    have d := (dec_no x.f2.toNat).2
    rw [← itoa_pos (by omega)] at d
    simp [w, d]; simpa using q
end Go.Proofs.YtdgipencedlbmaaGreatDoor.Pr
namespace Go.Proofs.YtdgipencedlbmaaGreatDoor.Pr
set_option linter.unusedVariables false
set_option linter.unusedSimpArgs false
open Go.RowKit Go.Proofs.YtdgipencedlbmaaGreatDoorW.PrintWords Go.Proofs.YtdgipencedlbmaaGreatDoor.Hand
structure WordsAt (w : World) (c p n m : Nat) (w0 : ByteArray) : Prop where
  box : w.heap[c]? = some (.cells #[.slice (some ⟨p, 0, none⟩) n m] 112 (0, 0))
  first : w.cell? ⟨p, 0, none⟩ = some (.string w0)
theorem WordsAt.keep {w w' : World} {c p n m : Nat} {w0 : ByteArray} (h : WordsAt w c p n m w0) (hB : Below w.heap.size w w') : WordsAt w' c p n m w0 :=
  ⟨below_keeps hB (blk_lt h.box) h.box, (hB.cell (World.block_lt_of_cell? w _ h.first)).trans h.first⟩
set_option maxHeartbeats 1000000 in
set_option maxRecDepth 100000 in
theorem rdcmp_calls (wd : ByteArray) (pl : Bool) (fv : Value) (c p n m : Nat) (w0 : ByteArray) (w : World) (h : WordsAt w c p n m w0) (hn : 0 < n) (v : Bool) (hv : (wd.toList == w0.toList) = v) :
    Calls Tryz.prog 67 #[.agg #[.string wd, .bool pl, fv], .pointer (some ⟨c, 0, none⟩)] w fun e w' => e = .returned (.bool v) ∧ Below w.heap.size w w' := by
  have H := Lib.hid h
  clear h
  go_enter Tryz.func67, Tryz.ntmps67
  go_wp2_with (first
    | ((with_reducible refine box_abs rfl 92 _ rfl #[.string wd, .bool pl, fv] ?hx ?_); (case hx => rfl); intro b hb w1 hb1 hB1 hs1; have HB1 := Lib.hid hB1; have H1 := Lib.hid (H.out.keep hB1); have e1 := cellB hb1 0; clear hb hb1 hB1 hs1))
  have e2 := cellB H1.out.box 0
  have e3 := H1.out.first
  go_quiet (fail)
  go_wp2
  go_ret
  exact ⟨by rw [← hv]; rfl, pw_below_drewN HB1.out _⟩
theorem row_at_k {W : World} {g : Nat} {t : TypeId} (h : W.heap[g]? = some (.cells rowsC t (0, 0))) (k : Nat) (hk : k < 7) : ∃ (wd : ByteArray) (pl : Bool) (fv : Value), wd.data.toList = wordS k ∧
    W.cell? ⟨g, k * 3, none⟩ = some (.string wd) ∧ W.cell? ⟨g, k * 3 + 1, none⟩ = some (.bool pl) ∧ W.cell? ⟨g, k * 3 + 2, none⟩ = some fv := by
  rcases (show k = 0 ∨ k = 1 ∨ k = 2 ∨ k = 3 ∨ k = 4 ∨ k = 5 ∨ k = 6 by omega) with rfl | rfl | rfl | rfl | rfl | rfl | rfl <;> exact ⟨_, _, _, by rfl, cellB h _, cellB h _, cellB h _⟩
theorem kind_none {w : List UInt8} (h : ∀ j : Nat, j < 7 → wordS j ≠ w) : kindL w = -1 := by
  have h0 := h 0 (by omega); have h1 := h 1 (by omega); have h2 := h 2 (by omega); have h3 := h 3 (by omega); have h4 := h 4 (by omega); have h5 := h 5 (by omega); have h6 := h 6 (by omega)
  unfold kindL
  rw [if_neg (fun e => h0 e.symm), if_neg (fun e => h1 e.symm), if_neg (fun e => h2 e.symm), if_neg (fun e => h3 e.symm), if_neg (fun e => h4 e.symm), if_neg (fun e => h5 e.symm), if_neg (fun e => h6 e.symm)]
set_option maxHeartbeats 2000000 in
set_option maxRecDepth 100000 in
theorem rdidx_calls (g c p n m : Nat) (t : TypeId) (w0 : ByteArray) (w : World) (hg : w.heap[g]? = some (.cells rowsC t (0, 0))) (h : WordsAt w c p n m w0) (hn : 0 < n) (v : Int) (hv : kindL w0.data.toList = v) :
    Calls Tryz.prog 66 #[.slice (some ⟨g, 0, none⟩) 7 7, .func (.func 67) #[] #[.pointer (some ⟨c, 0, none⟩)]] w fun e w' => e = .returned (.int .i64 v) ∧ Below w.heap.size w w' := by
  have HG := Lib.hid hg
  have H := Lib.hid h
  have HV := Lib.hid hv
  have HL := Lib.hid (blk_lt hg)
  clear hg h hv
  go_enter Tryz.func66, Tryz.ntmps66
  go_wp2
  go_loopw [8] (fun i wr => ∃ k : Nat, k ≤ 7 ∧ i = .int .i64 k ∧ Hid (∀ j : Nat, j < k → wordS j ≠ w0.data.toList) ∧ Hid (Below w.heap.size w wr)) (fun i _ => 7 - (intOf i).toNat)
  case atStart => exact ⟨0, by omega, rfl, fun j hj => by omega, Below.refl _ _⟩
  case round =>
    obtain ⟨k, hk, rfl, hno, HB⟩ := hrel
    by_cases hlt : k < 7
    · obtain ⟨wd, pl, fv, hwd, q0, q1, q2⟩ := row_at_k (below_keeps HB.out HL.out HG.out) k hlt
      have HW := Lib.hid hwd
      have H1 := Lib.hid (H.out.keep HB.out)
      have HLT := Lib.hid hlt
      clear hwd
      obtain ⟨v1, hv1⟩ : ∃ v1, (wd.toList == w0.toList) = v1 := ⟨_, rfl⟩
      have HC := Lib.hid (rdcmp_calls wd pl fv c p n m w0 wr H1.out hn v1 hv1)
      have HV1 := Lib.hid hv1
      clear hv1
      cases v1 with
      | true =>
        go_wp2_with (first | (go_at_call 67; (with_reducible refine HC.out.mono ?_); rintro e w2 ⟨rfl, hB2⟩; have HB2 := Lib.hid (below_then HB.out hB2); clear hB2))
        go_ret
        refine ⟨?_, HB2.out⟩
        have e : wordS k = w0.data.toList := by have := beq_iff_eq.1 HV1.out; rw [toList_eq, toList_eq] at this; rw [← HW.out]; exact this
        rw [← HV.out, ← e, kindL_word (by omega) (by have := HLT.out; omega)]
        rfl
      | false =>
        go_wp2_with (first | (go_at_call 67; (with_reducible refine HC.out.mono ?_); rintro e w2 ⟨rfl, hB2⟩; have HB2 := Lib.hid (below_then HB.out hB2); clear hB2))
        go_roundw
        case rel =>
          refine ⟨k + 1, HLT.out, by go_num, fun j hj => ?_, HB2.out⟩
          rcases Nat.lt_succ_iff_lt_or_eq.1 hj with h1 | rfl
          · exact hno.out j h1
          · intro e
            have := beq_eq_false_iff_ne.1 HV1.out
            rw [toList_eq, toList_eq, HW.out] at this
            exact this e
        case measure => have := HLT.out; simp [intOf]; omega
    · have hk7 : k = 7 := by omega
      subst hk7
      go_wp2
      go_ret
      exact ⟨by rw [← HV.out, kind_none hno.out]; rfl, HB.out⟩
end Go.Proofs.YtdgipencedlbmaaGreatDoor.Pr
namespace Go.Proofs.YtdgipencedlbmaaGreatDoor.Pr
set_option linter.unusedVariables false
set_option linter.unusedSimpArgs false
open Go.RowKit Go.Proofs.YtdgipencedlbmaaGreatDoorW.PrintWords Go.Proofs.YtdgipencedlbmaaGreatDoor.Hand
def atoiAny (l : List UInt8) : Int := match Lib.atoiAll l with | .ok v => v | .range => Lib.atoiSat l | _ => 0
theorem Atoi_any (s : ByteArray) (hlim : s.size ≤ 281474976710656) (w : World) (hG : GOOD w) :
    Calls Tryz.prog 68 #[.string s] w fun e w' => ∃ i, e = .returned (.tuple #[.int .i64 (atoiAny s.data.toList), i]) ∧ Below w.heap.size w w' := by
  unfold atoiAny
  cases h : Lib.atoiAll s.data.toList with
  | ok v => exact (Tryz.strconv_Atoi_ok s (by omega) v h w).mono fun e w' ⟨he, hB⟩ => ⟨_, he, atoi_below hB⟩
  | range =>
    obtain ⟨tp, p, hv⟩ := hG.erng
    exact (Tryz.strconv_Atoi_range_var s hlim h tp p w hv).mono fun e w' ⟨N, he, _, _, hB⟩ => ⟨_, he, hB⟩
  | _ =>
    obtain ⟨tp, p, hv⟩ := hG.esyn
    exact (Any.strconv_Atoi_syntax_var Tryz.laysC172 s hlim h tp p w hv).mono fun e w' ⟨N, he, _, _, hB⟩ => ⟨_, he, hB⟩
theorem atoiAny_itoa (n : Int) (h1 : 1 ≤ n) (h2 : n ≤ 1048576) : atoiAny (Lib.itoa n) = n := by
  unfold atoiAny
  rw [itoa_pos (by omega), atoi_dec _ (by omega)]
  show ((n.toNat : Nat) : Int) = n
  omega
theorem splitK_len : ∀ (k : Nat) (l : List UInt8), Lib.count l [32] = k → (Lib.splitK [32] 0 k l).length = k + 1 := by
  intro k
  induction k with
  | zero => intro l h; rfl
  | succ k ih =>
    intro l h
    rcases index_one 32 l with ⟨h1, h2⟩ | ⟨a, b, h1, h2, h3⟩
    · rw [Lib.count_miss h2] at h; omega
    · have hc := Lib.count_hit (sub := [32]) (by simp) h3
      have hm : ¬ ((a.length : Int) == -1) = true := by
        intro h
        have := beq_iff_eq.1 h
        omega
      unfold Lib.splitK
      rw [h3, if_neg hm, Int.toNat_natCast, List.length_cons, ih _ (by omega)]
structure PartsAt (w : World) (p n : Nat) (ws : List ByteArray) : Prop where
  len : ws.length = n
  pos : 0 < n
  cells : w.heap[p]? = some (.cells (ws.map Value.string).toArray 9 (0, 0))
theorem Split_calls (s : ByteArray) (hs : s.size ≤ 4096) (w : World) (hG : GOOD w) :
    Calls Tryz.prog 65 #[.string s, .string ⟨#[32]⟩] w fun e w' => ∃ p n ws, e = .returned (.slice (some ⟨p, 0, none⟩) n n) ∧ PartsAt w' p n ws ∧ ws.map (·.data.toList) = splitS s.data.toList ∧ Below w.heap.size w w' ∧ w.heap.size ≤ p := by
  obtain ⟨m, hm⟩ := hG.mlen
  refine (Tryz.strings_Split s ⟨#[32]⟩ m w (by omega) hm (by decide)).mono ?_
  rintro e w' ⟨rfl, rfl⟩
  refine ⟨w.heap.size, _, Lib.splitB ⟨#[32]⟩ 0 (Lib.countB s ⟨#[32]⟩) s, rfl, ⟨?_, by omega, heap_alloc_new w _⟩, splitB_eq s, (Below.refl _ _).alloc (Nat.le_refl _) _, Nat.le_refl _⟩
  have h := congrArg List.length (Lib.splitB_data ⟨#[32]⟩ 0 (Lib.countB s ⟨#[32]⟩) s)
  rw [List.length_map] at h
  rw [h]
  exact splitK_len _ _ rfl
theorem PartsAt.cell {w : World} {p n : Nat} {ws : List ByteArray} (h : PartsAt w p n ws) (j : Nat) (hj : j < n) : w.cell? ⟨p, j, none⟩ = some (.string (ws.getD j ByteArray.empty)) := by
  rw [cellB h.cells]
  have : j < ws.length := by rw [h.len]; exact hj
  simp [this]
theorem PartsAt.keep {w w' : World} {p n : Nat} {ws : List ByteArray} (h : PartsAt w p n ws) (hB : Below w.heap.size w w') : PartsAt w' p n ws := ⟨h.len, h.pos, below_keeps hB (blk_lt h.cells) h.cells⟩
theorem built24 (v : Int) : Tryz.prog.built 24 [(0, Value.int .i64 v)] = some (cellsE ⟨v, ⟨#[]⟩, 0⟩) := by
  have : Tryz.prog.built 24 [(0, Value.int .i64 v)] = some #[.int .i64 v, .string ⟨#[]⟩, .int .i64 0] := by kernel_rfl
  exact this
def readG (t : ByteArray) (g : S24) : S24 × Int := if (textS g.f0 g.f1 g.f2).2 = 0 ∧ (textS g.f0 g.f1 g.f2).1 = t then (g, 0) else (z24, 4)
theorem readG_is {t : ByteArray} {g : S24} (hl : ¬ 4096 < t.data.toList.length) (h : ∀ x, rightE x = 0 → textE x = t.data.toList → g = x) : readG t g = readS t.data.toList := by
  unfold readG
  by_cases hg : (textS g.f0 g.f1 g.f2).2 = 0 ∧ (textS g.f0 g.f1 g.f2).1 = t
  · rw [if_pos hg]
    obtain ⟨h1, h2⟩ := hg
    unfold textS at h1 h2
    by_cases hr : rightErr g.f0 g.f1 g.f2 = 0
    · rw [if_neg (by simpa using hr)] at h2
      refine (readS_some hl hr ?_).symm
      rw [← h2]; simp [bytesA, textE]
    · rw [if_pos hr] at h1; exact absurd h1 hr
  · rw [if_neg hg]
    refine (readS_none hl fun x hx ht => hg ?_).symm
    have e := h x hx ht
    subst e
    unfold textS
    have hr : rightErr g.f0 g.f1 g.f2 = 0 := hx
    rw [if_neg (by simpa using hr)]
    refine ⟨rfl, ?_⟩
    apply data_inj.1
    rw [← ht]; simp [bytesA, textE]
end Go.Proofs.YtdgipencedlbmaaGreatDoor.Pr
