/- Torn and changed journals in plain Lean. Journals: the reference's Journal and the program's answer as journalS says. What the laws of torn and spoilt journals read, in plain Lean. -/
import Derived.Test.YtdgipencedlbmaaGreatDoorZJ24
import Derived.Test.YtdgipencedlbmaaGreatDoorZL25
import Derived.Test.YtdgipencedlbmaaGreatDoorZJ23
import Derived.Test.YtdgipencedlbmaaGreatDoorZL27
namespace Go.Proofs.YtdgipencedlbmaaGreatDoor.Pr
set_option linter.unusedVariables false
set_option linter.unusedSimpArgs false
open Go.RowKit Go.Proofs.YtdgipencedlbmaaGreatDoorW.PrintWords Go.Proofs.YtdgipencedlbmaaGreatDoor.Hand
def bodyL (h : Int) (x : S24) : List UInt8 := Lib.itoa (sumS h (textE x)) ++ 32 :: textE x
theorem line_body (h : Int) (x : S24) : lineL h x = bodyL h x ++ [10] := by unfold lineL bodyL; simp
theorem body_no {h : Int} {x : S24} (hx : rightE x = 0) : (10 : UInt8) ∉ bodyL h x := by
  obtain ⟨i1, i2, _⟩ := itoa_no (sumS_range h (textE x)).1
  unfold bodyL; simp [i2, textE_no hx]
theorem take_app {a b : List UInt8} {p : Nat} (h : p ≤ a.length) : (a ++ b).take p = a.take p := by
  rw [List.take_append, show p - a.length = 0 by omega]; simp
theorem lines_take : ∀ {l : List S24} (h : Int) (p : Nat), (∀ x ∈ l, rightE x = 0) → ∃ k tail, k ≤ l.length ∧ (linesL h l).take p = linesL h (l.take k) ++ tail ∧ (10 : UInt8) ∉ tail
  | [], h, p, _ => ⟨0, [], Nat.le_refl _, by simp [linesL], by simp⟩
  | x :: l, h, p, hr => by
    have hx := hr x (by simp)
    by_cases hp : p ≤ (bodyL h x).length
    · refine ⟨0, (bodyL h x).take p, Nat.zero_le _, ?_, fun hm => body_no hx (List.mem_of_mem_take hm)⟩
      show (lineL h x ++ linesL _ l).take p = [] ++ _
      rw [line_body, List.append_assoc, take_app hp]; rfl
    · obtain ⟨k, tail, h1, h2, h3⟩ := lines_take (l := l) (sumS h (textE x)) (p - (lineL h x).length) (fun y hy => hr y (by simp [hy]))
      refine ⟨k + 1, tail, by simpa using h1, ?_, h3⟩
      have hl : (lineL h x).length ≤ p := by rw [line_body]; simp; omega
      show (lineL h x ++ linesL _ l).take p = (lineL h x ++ linesL _ (l.take k)) ++ tail
      rw [List.take_append, List.take_of_length_le hl, h2, List.append_assoc]
theorem count_lines : ∀ {l : List S24} (h : Int), (∀ x ∈ l, rightE x = 0) → Lib.countByte (linesL h l) 10 = l.length
  | [], h, _ => rfl
  | x :: l, h, hr => by
    have ih := count_lines (l := l) (sumS h (textE x)) (fun y hy => hr y (by simp [hy]))
    have hb : List.count (10 : UInt8) (bodyL h x) = 0 := List.count_eq_zero.2 (body_no (hr x (by simp)))
    unfold Lib.countByte at ih ⊢
    show List.count 10 (lineL h x ++ linesL _ l) = _
    rw [List.count_append, line_body, List.count_append, hb, ih]; simp; omega
theorem count_tail {a t : List UInt8} (h : (10 : UInt8) ∉ t) : Lib.countByte (a ++ t) 10 = Lib.countByte a 10 := by
  unfold Lib.countByte
  rw [List.count_append, List.count_eq_zero.2 h]; rfl
theorem last_feed {a t : List UInt8} (ha : a = [] ∨ ∃ b, a = b ++ [10]) (h : (10 : UInt8) ∉ t) : Lib.lastIndex (a ++ t) [10] = (a.length : Int) - 1 := by
  have occ : ∀ j, Lib.occAt (a ++ t) [10] j = true ↔ (a ++ t)[j]? = some 10 := by
    intro j
    unfold Lib.occAt
    cases hd : (a ++ t).drop j with
    | nil =>
      have : (a ++ t)[j]? = none := by
        rw [List.getElem?_eq_none]
        exact List.drop_eq_nil_iff.1 hd
      rw [this]; simp [List.isPrefixOf]
    | cons y r =>
      have : (a ++ t)[j]? = some y := by
        have h2 : ((a ++ t).drop j)[0]? = some y := by rw [hd]; rfl
        rw [List.getElem?_drop] at h2; simpa using h2
      rw [this]
      simp [List.isPrefixOf]
      exact eq_comm
  have hge : ∀ j, a.length ≤ j → (a ++ t)[j]? ≠ some 10 := by
    intro j hj e
    rw [List.getElem?_append_right hj] at e
    exact h (List.mem_of_getElem? e)
  unfold Lib.lastIndex
  by_cases hl : ([10] : List UInt8).length ≤ (a ++ t).length
  · rw [if_pos hl]
    rcases Lib.lastOcc_spec (a ++ t) [10] ((a ++ t).length - ([10] : List UInt8).length + 1) with ⟨e, hn⟩ | ⟨i, hi, e, hc, hn⟩
    · rcases ha with rfl | ⟨b, rfl⟩
      · rw [e]; rfl
      · have hj : b.length < ((b ++ [10]) ++ t).length - ([10] : List UInt8).length + 1 := by simp only [List.length_append, List.length_cons, List.length_nil] at hl ⊢; omega
        have := hn b.length hj
        have h2 : Lib.occAt ((b ++ [10]) ++ t) [10] b.length = true := (occ _).2 (by simp)
        rw [h2] at this; cases this
    · have hil : i < a.length := by
        rcases Nat.lt_or_ge i a.length with h1 | h1
        · exact h1
        · exact absurd ((occ i).1 hc) (hge i h1)
      rcases ha with rfl | ⟨b, rfl⟩
      · simp at hil
      · rw [e]
        have hib : i = b.length := by
          rcases Nat.lt_trichotomy i b.length with h1 | h1 | h1
          · have hj : b.length < ((b ++ [10]) ++ t).length - ([10] : List UInt8).length + 1 := by simp only [List.length_append, List.length_cons, List.length_nil] at hl ⊢; omega
            have := hn b.length h1 hj
            have h2 : Lib.occAt ((b ++ [10]) ++ t) [10] b.length = true := (occ _).2 (by simp)
            rw [h2] at this; cases this
          · exact h1
          · simp at hil; omega
        rw [hib]; simp
  · rw [if_neg hl]
    have : (a ++ t).length = 0 := by simp at hl ⊢; exact hl
    have : a = [] := by
      rcases ha with rfl | ⟨b, rfl⟩
      · rfl
      · simp at this
    subst this; rfl
theorem lines_end (h : Int) (l : List S24) : linesL h l = [] ∨ ∃ b, linesL h l = b ++ [10] := by
  induction l generalizing h with
  | nil => exact Or.inl rfl
  | cons x l ih =>
    refine Or.inr ?_
    show ∃ b, lineL h x ++ linesL _ l = b ++ [10]
    rcases ih (sumS h (textE x)) with e | ⟨b, e⟩
    · rw [e]; exact ⟨bodyL h x, by rw [line_body]; simp⟩
    · rw [e]; exact ⟨lineL h x ++ b, by simp⟩
theorem load_torn {o u : List S57} {l : List S24} {h : Int} {tail : List UInt8} (hr : runS o l = some u) (hn : l.length ≤ 20) (ht : (10 : UInt8) ∉ tail) :
    loadS o 0 h (linesL h l ++ tail) = (u, l.length, tail, if tail = [] then 0 else 18) := by
  rw [load_lines hr (by omega)]
  by_cases h0 : tail = []
  · subst h0; rw [load_nil, if_pos rfl, Nat.zero_add]
  · rw [if_neg h0, load_err h0 (step_torn (by omega) (cutL_none ht)), Nat.zero_add]
theorem run_take {o u : List S57} {l : List S24} (k : Nat) (h : runS o l = some u) : ∃ v, runS o (l.take k) = some v := by
  have e := List.take_append_drop k l
  rw [← e, run_app] at h
  cases hv : runS o (l.take k) with
  | none => rw [hv] at h; cases h
  | some v => exact ⟨v, rfl⟩
theorem stepS_inj {a b : Int} {c : UInt8} (ha : 0 ≤ a ∧ a < 1000003) (hb : 0 ≤ b ∧ b < 1000003) (h : stepS a c = stepS b c) : a = b := by
  unfold stepS at h
  omega
theorem stepS_byte {a : Int} {c d : UInt8} (h : stepS a c = stepS a d) : c = d := by
  unfold stepS at h
  have h1 := c.toNat_lt
  have h2 := d.toNat_lt
  have : c.toNat = d.toNat := by omega
  exact UInt8.toNat_inj.1 this
theorem fold_inj : ∀ (l : List UInt8) {a b : Int}, (0 ≤ a ∧ a < 1000003) → (0 ≤ b ∧ b < 1000003) → l.foldl stepS a = l.foldl stepS b → a = b
  | [], _, _, _, _, h => h
  | c :: l, a, b, ha, hb, h => stepS_inj ha hb (fold_inj l (stepS_range a c) (stepS_range b c) h)
theorem sum_changed {h : Int} {a b : List UInt8} {c d : UInt8} (hcd : c ≠ d) : sumS h (a ++ c :: b) ≠ sumS h (a ++ d :: b) := by
  intro e
  unfold sumS at e
  rw [List.foldl_append, List.foldl_append, List.foldl_cons, List.foldl_cons] at e
  exact hcd (stepS_byte (fold_inj b (stepS_range _ _) (stepS_range _ _) e))
theorem itoa_inj {m n : Int} (hm : 0 ≤ m ∧ m < 1000003) (hn : 0 ≤ n ∧ n < 1000003) (h : Lib.itoa m = Lib.itoa n) : m = n := by
  rw [itoa_pos hm.1, itoa_pos hn.1] at h
  have := dec_inj (by omega) (by omega) h
  omega
theorem word_head {k : Int} : ∃ c r, wordS k = c :: r ∧ 97 ≤ c.toNat := by
  unfold wordS
  repeat' split
  all_goals exact ⟨_, _, rfl, by decide⟩
theorem textE_head {x : S24} : ∃ c r, textE x = c :: r ∧ 97 ≤ c.toNat := by
  obtain ⟨c, r, e, hc⟩ := word_head (k := x.f0)
  unfold textE textL
  split
  · exact ⟨c, _, by rw [e]; rfl, hc⟩
  · exact ⟨c, _, by rw [e]; rfl, hc⟩
theorem textE_word {x : S24} : ∃ r, textE x = wordS x.f0 ++ 32 :: r := by
  unfold textE textL
  split
  · exact ⟨_, rfl⟩
  · exact ⟨x.f1.data.toList ++ 32 :: Lib.itoa x.f2, by simp⟩
theorem readS_head {c : UInt8} {r : List UInt8} (hc : c.toNat < 97) : (readS (c :: r)).2 ≠ 0 := by
  intro h
  obtain ⟨_, h2⟩ := readS_zero h
  obtain ⟨d, s, e, hd⟩ := textE_head (x := (readS (c :: r)).1)
  rw [e] at h2
  injection h2 with h2 _
  subst h2; omega
theorem step_changed {o : List S57} {n : Nat} {h : Int} {x : S24} {a b rest : List UInt8} {c d : UInt8} (hn : n ≠ 4096) (hx : rightE x = 0) (hl : bodyL h x = a ++ c :: b) (hcd : c ≠ d) (hd : d ≠ 10) :
    ∃ e, stepL o n h ((a ++ d :: b) ++ 10 :: rest) = .inl e ∧ e ≠ 0 := by
  have hno := body_no (h := h) hx
  rw [hl] at hno
  have hno' : (10 : UInt8) ∉ a ++ d :: b := by
    simp only [List.mem_append, List.mem_cons, not_or] at hno ⊢
    exact ⟨hno.1, fun e => hd e.symm, hno.2.2⟩
  have h1 : cutL 10 ((a ++ d :: b) ++ 10 :: rest) = some (a ++ d :: b, rest) := cutL_app hno'
  obtain ⟨i1, i2, i3⟩ := itoa_no (sumS_range h (textE x)).1
  have hb : bodyL h x = Lib.itoa (sumS h (textE x)) ++ 32 :: textE x := rfl
  rw [hb] at hl
  rcases Nat.lt_trichotomy a.length (Lib.itoa (sumS h (textE x))).length with hlt | heq | hgt
  · -- in the number
    obtain ⟨m, hm⟩ : ∃ m, Lib.itoa (sumS h (textE x)) = a ++ c :: m ∧ b = m ++ 32 :: textE x := by
      have e1 : a = (Lib.itoa (sumS h (textE x))).take a.length := by
        have := congrArg (List.take a.length) hl
        rw [List.take_append_of_le_length (by omega)] at this
        simp at this
        exact this.symm
      have e2 := List.take_append_drop a.length (Lib.itoa (sumS h (textE x)))
      rw [← e1] at e2
      rw [← e2, List.append_assoc] at hl
      have e3 := List.append_cancel_left hl
      cases hdr : (Lib.itoa (sumS h (textE x))).drop a.length with
      | nil => have := List.drop_eq_nil_iff.1 hdr; omega
      | cons y m =>
        rw [hdr] at e3 e2
        injection e3 with e4 e5
        subst e4
        exact ⟨m, e2.symm, e5.symm⟩
    obtain ⟨hm, rfl⟩ := hm
    by_cases h32 : d = 32
    · subst h32
      have ha : (32 : UInt8) ∉ a := fun hx => i1 (by rw [hm]; simp [hx])
      have h2 : cutL 32 (a ++ 32 :: (m ++ 32 :: textE x)) = some (a, m ++ 32 :: textE x) := cutL_app ha
      by_cases h3 : a = Lib.itoa (sumS h (m ++ 32 :: textE x))
      · have h4 : (readS (m ++ 32 :: textE x)).2 ≠ 0 := by
          cases m with
          | nil => exact readS_head (by decide)
          | cons y m =>
            have := (i3 y (by rw [hm]; simp)).2
            exact readS_head (by omega)
        exact ⟨4, step_read hn h1 h2 h3 h4, by decide⟩
      · exact ⟨19, step_sum hn h1 h2 h3, by decide⟩
    · have ha : (32 : UInt8) ∉ a ++ d :: m := by
        have : (32 : UInt8) ∉ a ++ c :: m := by rw [← hm]; exact i1
        simp only [List.mem_append, List.mem_cons, not_or] at this ⊢
        exact ⟨this.1, fun e => h32 e.symm, this.2.2⟩
      have h2 : cutL 32 (a ++ d :: (m ++ 32 :: textE x)) = some (a ++ d :: m, textE x) := by
        have := cutL_app (b := textE x) ha
        rwa [List.append_assoc, List.cons_append] at this
      refine ⟨19, step_sum hn h1 h2 ?_, by decide⟩
      rw [hm]
      intro e
      have := List.append_cancel_left e
      injection this with e _
      exact hcd e.symm
  · -- the blank
    have hl' := List.append_inj hl (by omega)
    obtain ⟨e1, e2⟩ := hl'
    injection e2 with e2 e3
    subst e2
    have h32 : d ≠ 32 := fun e => hcd e.symm
    obtain ⟨r, hr⟩ := textE_word (x := x)
    obtain ⟨y, q, hw, hy⟩ := word_head (k := x.f0)
    have hwn := (word_no x.f0).1
    have ha : (32 : UInt8) ∉ a ++ d :: wordS x.f0 := by
      simp only [List.mem_append, List.mem_cons, not_or]
      exact ⟨by rw [← e1]; exact i1, fun e => h32 e.symm, hwn⟩
    have h2 : cutL 32 (a ++ d :: b) = some (a ++ d :: wordS x.f0, r) := by
      rw [← e3, hr]
      have := cutL_app (b := r) ha
      rwa [List.append_assoc, List.cons_append] at this
    refine ⟨19, step_sum hn h1 h2 ?_, by decide⟩
    intro e
    have := (itoa_no (sumS_range h r).1).2.2 y (by rw [← e, hw]; simp)
    omega
  · -- in the text
    obtain ⟨t1, hm⟩ : ∃ t1, a = Lib.itoa (sumS h (textE x)) ++ 32 :: t1 ∧ textE x = t1 ++ c :: b := by
      have e1 := congrArg (List.drop (Lib.itoa (sumS h (textE x))).length) hl
      rw [List.drop_left, List.drop_append_of_le_length (by omega)] at e1
      have e2 := congrArg (List.take (Lib.itoa (sumS h (textE x))).length) hl
      rw [List.take_left, List.take_append_of_le_length (by omega)] at e2
      have e3 := List.take_append_drop (Lib.itoa (sumS h (textE x))).length a
      cases hdr : a.drop (Lib.itoa (sumS h (textE x))).length with
      | nil => have := List.drop_eq_nil_iff.1 hdr; omega
      | cons y m =>
        rw [hdr] at e1 e3
        injection e1 with e4 e5
        subst e4
        exact ⟨m, by rw [← e3, ← e2], e5⟩
    obtain ⟨rfl, hm⟩ := hm
    have h2 : cutL 32 ((Lib.itoa (sumS h (textE x)) ++ 32 :: t1) ++ d :: b) = some (Lib.itoa (sumS h (textE x)), t1 ++ d :: b) := by
      rw [List.append_assoc, List.cons_append]
      exact cutL_app i1
    refine ⟨19, step_sum hn h1 h2 ?_, by decide⟩
    intro e
    have := itoa_inj (sumS_range _ _) (sumS_range _ _) e
    rw [hm] at this
    exact sum_changed hcd this
theorem lines_at : ∀ {l : List S24} (h : Int) (p : Nat) (c : UInt8), (linesL h l)[p]? = some c → c ≠ 10 → ∃ k x a b r, k < l.length ∧ l[k]? = some x ∧ bodyL (sumsL h (l.take k)) x = a ++ c :: b ∧ linesL h l = linesL h (l.take k) ++ (a ++ c :: b) ++ 10 :: r ∧ p = (linesL h (l.take k)).length + a.length
  | [], h, p, c, hp, _ => by cases hp
  | x :: l, h, p, c, hp, hc => by
    have e : linesL h (x :: l) = bodyL h x ++ 10 :: linesL (sumS h (textE x)) l := by
      show lineL h x ++ _ = _
      rw [line_body]; simp
    rcases Nat.lt_trichotomy p (bodyL h x).length with hlt | heq | hgt
    · rw [e, List.getElem?_append_left hlt] at hp
      have h1 := List.take_append_drop p (bodyL h x)
      have h2 : (bodyL h x).drop p = c :: (bodyL h x).drop (p + 1) := by
        rw [List.drop_eq_getElem_cons hlt]
        rw [List.getElem?_eq_getElem hlt] at hp
        injection hp with hp
        rw [hp]
      refine ⟨0, x, (bodyL h x).take p, (bodyL h x).drop (p + 1), linesL (sumS h (textE x)) l, by simp, rfl, ?_, ?_, ?_⟩
      · show bodyL h x = _
        rw [← h2, h1]
      · rw [e, ← h2, h1]; rfl
      · show p = 0 + _
        rw [List.length_take]; omega
    · rw [e, List.getElem?_append_right (by omega), heq, Nat.sub_self] at hp
      injection hp with hp
      exact absurd hp.symm hc
    · rw [e, List.getElem?_append_right (by omega)] at hp
      obtain ⟨q, hq⟩ : ∃ q, p - (bodyL h x).length = q + 1 := ⟨p - (bodyL h x).length - 1, by omega⟩
      rw [hq, List.getElem?_cons_succ] at hp
      obtain ⟨k, y, a, b, r, h1, h2, h3, h4, h5⟩ := lines_at (l := l) (sumS h (textE x)) q c hp hc
      refine ⟨k + 1, y, a, b, r, by simpa using h1, h2, h3, ?_, ?_⟩
      · show lineL h x ++ linesL _ l = (lineL h x ++ linesL _ (l.take k)) ++ (a ++ c :: b) ++ 10 :: r
        rw [h4]; simp
      · show p = (lineL h x ++ linesL _ (l.take k)).length + a.length
        rw [List.length_append, line_body]
        simp only [List.length_append, List.length_cons, List.length_nil]
        omega
theorem load_changed {o u : List S57} {l : List S24} {p : Nat} {c d : UInt8} (hr : runS o l = some u) (hn : l.length ≤ 20) (hp : (linesL 1 l)[p]? = some c) (hcd : c ≠ d) (hc : c ≠ 10) (hd : d ≠ 10) :
    ∃ k v e, runS o (l.take k) = some v ∧ k ≤ l.length ∧ (∃ t, (linesL 1 l).take p = linesL 1 (l.take k) ++ t ∧ (10 : UInt8) ∉ t) ∧
      loadS o 0 1 ((linesL 1 l).take p ++ d :: (linesL 1 l).drop (p + 1)) = (v, k, (((linesL 1 l).take p ++ d :: (linesL 1 l).drop (p + 1)).drop (linesL 1 (l.take k)).length), e) ∧ e ≠ 0 := by
  obtain ⟨k, x, a, b, r, h1, h2, h3, h4, h5⟩ := lines_at 1 p c hp hc
  obtain ⟨v, hv⟩ := run_take k hr
  have hx := run_right hr x (List.mem_of_getElem? h2)
  have hbn := body_no (h := sumsL 1 (l.take k)) hx
  have et : (linesL 1 l).take p = linesL 1 (l.take k) ++ a := by
    rw [h4, h5, List.append_assoc, List.take_append, List.take_of_length_le (by omega)]
    congr 1
    rw [show (linesL 1 (l.take k)).length + a.length - (linesL 1 (l.take k)).length = a.length by omega]
    simp
  have ed : (linesL 1 l).drop (p + 1) = b ++ 10 :: r := by
    rw [h4, h5, List.append_assoc, List.drop_append, List.drop_eq_nil_of_le (by omega), List.nil_append]
    rw [show (linesL 1 (l.take k)).length + a.length + 1 - (linesL 1 (l.take k)).length = a.length + 1 by omega]
    simp
  have ebad : (linesL 1 l).take p ++ d :: (linesL 1 l).drop (p + 1) = linesL 1 (l.take k) ++ ((a ++ d :: b) ++ 10 :: r) := by rw [et, ed]; simp
  have hk : (l.take k).length = k := by rw [List.length_take]; omega
  obtain ⟨e, he, hz⟩ := step_changed (o := v) (n := k) (h := sumsL 1 (l.take k)) (rest := r) (by omega) hx h3 hcd hd
  refine ⟨k, v, e, hv, by omega, ⟨a, et, fun hm => hbn (by rw [h3]; simp [hm])⟩, ?_, hz⟩
  rw [ebad, load_lines hv (by omega), Nat.zero_add, hk, load_err (by simp) he, List.drop_left]
end Go.Proofs.YtdgipencedlbmaaGreatDoor.Pr
namespace Go.Proofs.YtdgipencedlbmaaGreatDoor.Pr
set_option linter.unusedVariables false
set_option linter.unusedSimpArgs false
open Go.RowKit Go.Proofs.YtdgipencedlbmaaGreatDoorW.PrintWords Go.Proofs.YtdgipencedlbmaaGreatDoorW.PrintLast Go.Proofs.YtdgipencedlbmaaGreatDoorW.PrintMore Go.Proofs.YtdgipencedlbmaaGreatDoor.Hand
def journalS (l : List S24) : ByteArray × Int := if (allS l).2.2 ≠ 0 then (⟨#[]⟩, (allS l).2.2) else (bytesA (linesL 1 l), 0)
theorem allS_ok {l : List S24} (h : (allS l).2.2 = 0) : l.length ≤ 4096 ∧ ∃ o, runS [] l = some o ∧ allS l = (o, 0, 0) := by
  unfold allS at h ⊢
  split at h
  · cases h
  · rename_i hl
    rw [if_neg hl]
    refine ⟨by omega, (allFrom [] 0 l).1, ?_⟩
    have e : allFrom [] 0 l = ((allFrom [] 0 l).1, (allFrom [] 0 l).2.1, 0) := by rw [← h]
    have hr := all_run (i := 0) (Or.inr ⟨_, e⟩)
    exact ⟨hr, run_all hr⟩
theorem allS_right {l : List S24} (h : (allS l).2.2 = 0) : ∀ x ∈ l, rightE x = 0 := by
  obtain ⟨_, o, hr, _⟩ := allS_ok h
  exact run_right hr
theorem journal_len {l : List S24} (h : (allS l).2.2 = 0) : (bytesA (linesL 1 l)).size ≤ 200704 := by
  rw [bytesA_size']
  have := linesL_len 1 (allS_right h)
  have := (allS_ok h).1
  omega
theorem bld_keep {w w' : World} {B b : Nat} {bs : List Value} (h : Lib.IsBuilder 102 5 B b bs w) (hB : Below w.heap.size w w') : Lib.IsBuilder 102 5 B b bs w' := by
  have key : ∀ p, Lib.BuilderAt 102 5 B b p bs w → Lib.BuilderAt 102 5 B b p bs w' := by
    rintro p ⟨hBb, v, hb, hown, hne⟩
    refine ⟨hBb, v, below_keeps hB (blk_lt hb) hb, hown.kept (row := none) ⟨hB.os, hB.tape, hB.output, hB.size, fun k hk _ => hB.block k hk⟩ ?_, hne⟩
    cases v.ownBlock with
    | none => exact Or.inl rfl
    | some k => exact Or.inr (by simp)
  rcases h with h | h
  · exact Or.inl (key _ h)
  · exact Or.inr (key _ h)
theorem strCells_bytes (l : List UInt8) : Lib.strCells (bytesA l) = Lib.byteCells l := by unfold Lib.strCells Lib.byteCells; simp [bytesA]
theorem byteCells_app (a b : List UInt8) : Lib.byteCells a ++ Lib.byteCells b = Lib.byteCells (a ++ b) := by unfold Lib.byteCells; rw [List.map_append]
theorem below_then' {w wr w8 w9 : World} {b : Nat} (h : Below w.heap.size w wr) (h8 : Below wr.heap.size wr w8) (h9 : Below b w8 w9) (hb : w.heap.size ≤ b) (hs : b ≤ wr.heap.size) : Below w.heap.size w w9 :=
  (below_then h h8).trans (h9.mono hb)
theorem below_join {w wr w5 : World} {b : Nat} (h : Below w.heap.size w wr) (h5 : Below b wr w5) (hb : w.heap.size ≤ b) : Below w.heap.size w w5 := h.trans (h5.mono hb)
set_option maxHeartbeats 4000000 in
set_option maxRecDepth 100000 in
theorem Journal_ok (A0 : Option Addr) (c0 : Nat) (l : List S24) (w : World) (hG : GOOD w) (hr0 : Kd.C k24 w A0 l.length l) (hc0 : l.length ≤ c0) (a : List S57 × Int × Int) (ha : allS l = a) (h : a.2.2 = 0) :
    Calls Tryz.prog 31 #[.slice A0 l.length c0] w fun e w' => e = .returned (.tuple #[.string (bytesA (linesL 1 l)), .int .i64 0]) ∧ Below w.heap.size w w' := by
  have HR := Lib.hid hr0
  have HC := Lib.hid hc0
  have HA := Lib.hid ha
  have d1 : (a.2.2 != 0) = false := bne_eq_false_iff_eq.mpr h
  have h0 : (allS l).2.2 = 0 := by rw [ha]; exact h
  have hm := (allS_ok h0).1
  have HM := Lib.hid hm
  have HRI := Lib.hid (allS_right h0)
  have hz := journal_len h0
  obtain ⟨t, ht⟩ : ∃ t, bytesA (linesL 1 l) = t := ⟨_, rfl⟩
  have HT := Lib.hid ht
  have hll : (linesL 1 l).length ≤ 200704 := by rw [bytesA_size'] at hz; exact hz
  have d2 : decide (262144 < (((linesL 1 l).length : Nat) : Int)) = false := decide_eq_false (by omega)
  have HLL := Lib.hid hll
  clear hr0 hc0 ha h h0 ht hz hll
  go_enter Tryz.func31, Tryz.ntmps31
  go_wp2_with (first
    | (go_at_call 25; (with_reducible refine (All_calls A0 c0 l w HR.out HC.out a HA.out).mono ?_); rintro e w2 ⟨v2, rfl, hR2, hB2⟩; have HB2 := Lib.hid hB2; clear hR2 hB2))
  have hI := Lib.fresh_isBuilder 102 5 w2
  have hB3 := Below.alloc HB2.out HB2.out.size (.cells #[.pointer none, .slice none 0 0] 102)
  have hbw := HB2.out.size
  obtain ⟨b, hb⟩ : ∃ b, w2.heap.size = b := ⟨_, rfl⟩
  obtain ⟨w3, hw3⟩ : ∃ w3, w2.alloc (.cells #[.pointer none, .slice none 0 0] 102) = w3 := ⟨_, rfl⟩
  have hs3 : b ≤ w3.heap.size := by rw [← hw3, ← hb]; simp
  rw [hb, hw3] at hI ⊢
  rw [hw3] at hB3
  rw [hb] at hbw
  have HI3 := Lib.hid hI
  have HB3 := Lib.hid hB3
  have HBW := Lib.hid hbw
  have HS3 := Lib.hid hs3
  clear hI hB3 hbw hb hw3 hs3
  go_loopw [8, 24] (fun s i wr => ∃ (k : Nat) (x : Int), k ≤ l.length ∧ i = .int .i64 k ∧ s = .int .i64 x ∧ Hid (sumsL 1 (l.take k) = x) ∧ Hid (Lib.IsBuilder 102 5 b b (Lib.byteCells (linesL 1 (l.take k))) wr) ∧ Hid (Below w.heap.size w wr) ∧ Hid (b ≤ wr.heap.size)) (fun _ i _ => l.length - (intOf i).toNat)
  case atStart => exact ⟨0, 1, by omega, rfl, rfl, rfl, HI3.out, HB3.out, HS3.out⟩
  case round =>
    obtain ⟨k, x, hk, rfl, rfl, HX, HI, HB, HS⟩ := hrel
    by_cases hlt : k < l.length
    · have HLT := Lib.hid hlt
      obtain ⟨y, hy⟩ : ∃ y, y = l.getD k z24 := ⟨_, rfl⟩
      obtain ⟨ad, rfl, q0, q1, q2, had⟩ := entry_row HR.out HB.out k hlt
      rw [← hy] at q0 q1 q2
      have hmem : y ∈ l := by rw [hy, List.getD, List.getElem?_eq_getElem hlt]; exact List.getElem_mem _
      have hyr := HRI.out y hmem
      have hst : l.take (k + 1) = l.take k ++ [y] := by rw [List.take_succ_eq_append_getElem hlt, hy, List.getD, List.getElem?_eq_getElem hlt]; rfl
      have HN := Lib.hid (show linesL 1 (l.take (k + 1)) = linesL 1 (l.take k) ++ lineT x (textE y) by rw [hst, (linesL_snoc _ _ _).1, HX.out]; rfl)
      have HN2 := Lib.hid (show sumsL 1 (l.take (k + 1)) = sumS x (textE y) by rw [hst, (linesL_snoc _ _ _).2, HX.out])
      have htl := textE_len hyr
      have hll2 : (linesL 1 (l.take k)).length ≤ 200704 := by
        have := linesL_len (l := l.take k) 1 (fun z hz => HRI.out z (List.mem_of_mem_take hz))
        rw [List.length_take] at this
        have := HM.out
        omega
      have htx : textS y.f0 y.f1 y.f2 = (bytesA (textE y), 0) := by
        unfold textS
        have hyr' : rightErr y.f0 y.f1 y.f2 = 0 := hyr
        rw [if_neg (by simpa using hyr')]; rfl
      obtain ⟨te, hte⟩ : ∃ te, textE y = te := ⟨_, rfl⟩
      rw [hte] at HN HN2 htl htx
      have ed : (bytesA te).data.toList = te := by simp [bytesA]
      have ez : (bytesA te).size = te.length := bytesA_size' te
      have HTX := Lib.hid (fun (w : World) (hG : GOOD w) => Text_is y.f0 y.f1 y.f2 _ htx w hG)
      have HSU := Lib.hid (show ∀ w : World, Calls Tryz.prog 37 #[.int .i64 x, .string (bytesA te)] w fun e w' => e = .returned (.int .i64 (sumS x te)) ∧ Below w.heap.size w w' from by
        intro w
        have := Sum_calls x (bytesA te) w (by omega)
        rwa [ed] at this)
      have hsr := sumS_range x te
      obtain ⟨m, hmm⟩ : ∃ m, sumS x te = m := ⟨_, rfl⟩
      rw [hmm] at HSU HN2 hsr
      have HIT := Lib.hid (fun (w : World) (hG : GOOD w) => itoa_calls m (by omega) (by omega) w hG)
      have hiz : (bytesA (Lib.itoa m)).size ≤ 7 := by rw [bytesA_size']; exact itoa_len7 hsr
      obtain ⟨ti, hti⟩ : ∃ ti, bytesA te = ti := ⟨_, rfl⟩
      obtain ⟨im, him⟩ : ∃ im, bytesA (Lib.itoa m) = im := ⟨_, rfl⟩
      have hline : im ++ ⟨#[32]⟩ ++ ti ++ ⟨#[10]⟩ = bytesA (lineT x te) := by
        apply data_inj.1
        unfold lineT
        rw [hmm, ← him, ← hti]
        simp [bytesA, ByteArray.data_append]
      rw [hti] at HTX HSU ez
      rw [him] at HIT hiz
      have z1 : ¬ 9223372036854775807 < im.size + 1 := by omega
      have z2 : ¬ 9223372036854775807 < im.size + 1 + ti.size := by omega
      have z3 : ¬ 9223372036854775807 < im.size + 1 + ti.size + 1 := by omega
      have HLINE := Lib.hid hline
      have HLZ := Lib.hid (show (Lib.byteCells (linesL 1 (l.take k))).length + (bytesA (lineT x te)).size ≤ 140737488355328 by
        rw [Lib.byteCells_length, ← hline]
        simp only [ByteArray.size_append]
        have e1 : (⟨#[32]⟩ : ByteArray).size = 1 := rfl
        have e2 : (⟨#[10]⟩ : ByteArray).size = 1 := rfl
        omega)
      have e0 : ((0 : Int) != 0) = false := rfl
      clear hy hmem hyr hst htl hll2 htx hte ed hmm hti him hline hsr ez
      go_wp2_with (first
        | ((with_reducible refine alloc_event rfl 24 rfl (.agg (cellsE z24)) zero24 ?_); intro q hq w4 hq4 hB4 hs4; have HQ4 := Lib.hid hq4; have HQL := Lib.hid (show wr.heap.size ≤ q by rw [hq]; exact Nat.le_refl _); have HB4 := Lib.hid hB4; clear hq hq4 hB4 hs4)
        | ((with_reducible refine store_row_event rfl 24 _ _ rfl q (cellsE y) ?hx ?hy 24 (cellsE z24) ?hg ?hi ?ho ?h1 ?_); (case hg => exact HQ4.out); (case ho => rfl); (case hx => (go_simp; done)); (case hy => (unfold cellsE; go_simp; done)); (case hi => exact info24s _); (case h1 => exact cellsE_one _); intro w5 hq5 hB5 hs5; have HB5 := Lib.hid (hB5.below HB4.out HQL.out HB4.out.size); obtain ⟨k0, k1, k2⟩ := entry_cells3 hq5; clear hq5 hB5 hs5)
        | (go_at_call 33; (with_reducible refine (HTX.out w5 (hG.below (below_then HB.out HB5.out))).mono ?_); rintro e w6 ⟨rfl, hB6⟩; have HB6 := Lib.hid (below_then HB5.out hB6); clear hB6)
        | (go_at_call 37; (with_reducible refine (HSU.out w6).mono ?_); rintro e w7 ⟨rfl, hB7⟩; have HB7 := Lib.hid (below_then HB6.out hB7); clear hB7)
        | (go_at_call 60; (with_reducible refine (HIT.out w7 (hG.below (below_then HB.out HB7.out))).mono ?_); rintro e w8 ⟨rfl, hB8⟩; have HB8 := Lib.hid (below_then HB7.out hB8); clear hB8)
        | (go_at_call 59; rw [HLINE.out]; (with_reducible refine (write_calls b b _ _ w8 (bld_keep HI.out HB8.out) HLZ.out (Nat.le_trans HS.out HB8.out.size)).mono ?_); rintro e w9 ⟨rfl, hI9, hB9⟩; have HI9 := Lib.hid hI9; have HB9 := Lib.hid hB9; clear hI9 hB9))
      go_roundw
      case rel => exact ⟨k + 1, m, HLT.out, by go_num, rfl, HN2.out, by
        show Lib.IsBuilder _ _ _ _ _ _
        rw [HN.out, ← byteCells_app, ← strCells_bytes (lineT x te)]
        exact Or.inr HI9.out, below_then' HB.out HB8.out HB9.out HBW.out HS.out, Nat.le_trans (Nat.le_trans HS.out HB8.out.size) HB9.out.size⟩
      case measure => have := HLT.out; simp [intOf]; omega
    · have hke : k = l.length := by omega
      have HK := Lib.hid (show l.take k = l from List.take_of_length_le (by omega))
      rw [HK.out] at HI
      have hbl : (Lib.byteCells (linesL 1 l)).length = (linesL 1 l).length := Lib.byteCells_length _
      have HLEN := Lib.hid (show Calls Tryz.prog 61 #[.pointer (some ⟨b, 0, none⟩)] wr fun e w' => e = .returned (.int .i64 ((linesL 1 l).length : Nat)) ∧ w' = wr from by
        have := Tryz.Builder_Len b b _ wr HI.out
        rwa [hbl] at this)
      clear hke hbl
      go_wp2_with (first
        | (go_at_call 61; (with_reducible refine HLEN.out.mono ?_); rintro e w4 ⟨rfl, hw4⟩; subst hw4)
        | (go_at_call 62; (with_reducible refine (Tryz.Builder_String_any b b _ _ HI.out HS.out).mono ?_); rintro e w5 ⟨rfl, hB5⟩; have HB5 := Lib.hid hB5; clear hB5))
      go_ret2
      exact ⟨rfl, below_join HB.out HB5.out HBW.out⟩
theorem Journal_calls (A0 : Option Addr) (c0 : Nat) (l : List S24) (w : World) (hG : GOOD w) (hr0 : Kd.C k24 w A0 l.length l) (hc0 : l.length ≤ c0) (u : ByteArray × Int) (hu : journalS l = u) :
    Calls Tryz.prog 31 #[.slice A0 l.length c0] w fun e w' => e = .returned (.tuple #[.string u.1, .int .i64 u.2]) ∧ Below w.heap.size w w' := by
  unfold journalS at hu
  by_cases h : (allS l).2.2 = 0
  · rw [if_neg (by simpa using h)] at hu
    subst hu
    exact Journal_ok A0 c0 l w hG hr0 hc0 _ rfl h
  · rw [if_pos h] at hu
    subst hu
    obtain ⟨a, ha⟩ : ∃ a, allS l = a := ⟨_, rfl⟩
    have HR := Lib.hid hr0
    have HC := Lib.hid hc0
    have HA := Lib.hid ha
    rw [ha] at h ⊢
    have d1 : (a.2.2 != 0) = true := bne_iff_ne.mpr h
    clear hr0 hc0 ha h
    go_enter Tryz.func31, Tryz.ntmps31
    go_wp2_with (first
      | (go_at_call 25; (with_reducible refine (All_calls A0 c0 l w HR.out HC.out a HA.out).mono ?_); rintro e w2 ⟨v2, rfl, hR2, hB2⟩; have HB2 := Lib.hid hB2; clear hR2 hB2))
    go_ret2
    exact ⟨rfl, HB2.out⟩
end Go.Proofs.YtdgipencedlbmaaGreatDoor.Pr
namespace Go.Proofs.YtdgipencedlbmaaGreatDoor.Pr
set_option linter.unusedVariables false
set_option linter.unusedSimpArgs false
open Go.RowKit Go.Proofs.YtdgipencedlbmaaGreatDoorW.PrintWords Go.Proofs.YtdgipencedlbmaaGreatDoor.Hand
theorem bytesA_take (l : List UInt8) (p : Nat) : (bytesA l).extract 0 p = bytesA (l.take p) := by
  apply data_inj.1
  rw [Lib.extract_data]
  rfl
theorem bytesA_inj {a b : List UInt8} (h : bytesA a = bytesA b) : a = b := by
  have := congrArg (·.data.toList) h
  exact this
theorem journal_run {l : List S24} {u : List S57} (h : runS [] l = some u) (hn : l.length ≤ 4096) : journalS l = (bytesA (linesL 1 l), 0) := by
  have e : allS l = (u, 0, 0) := by unfold allS; rw [if_neg (by omega), run_all h]
  unfold journalS
  rw [e, if_neg (by simp)]
theorem loadR_of {z : ByteArray} {u : List S57} {k : Nat} {t : List UInt8} {e : Int} (hz : z.size ≤ 262144) (h : loadS [] 0 1 z.data.toList = (u, k, t, e)) : loadR z = (if e ≠ 0 then [] else u, (k : Int), e) := by
  unfold loadR
  rw [if_neg (by omega), h]
  by_cases he : e = 0
  · subst he; rfl
  · rw [if_pos he, if_pos he]
theorem repairR_of {z : ByteArray} {u : List S57} {k : Nat} {t : List UInt8} {e : Int} (hz : z.size ≤ 262144) (h : loadS [] 0 1 z.data.toList = (u, k, t, e)) : repairR z = z.extract 0 (z.size - t.length) := by
  have e1 : z.extract 0 (min z.size 262144) = z := by rw [show min z.size 262144 = z.size by omega]; exact extract_all z
  unfold repairR
  rw [e1, h]
theorem torn_facts {l : List S24} {o : List S57} {z : ByteArray} {p : Nat} (ho : runS [] l = some o) (hn : l.length ≤ 20) (hz : bytesA (linesL 1 l) = z) (hzs : z.size ≤ 200704) (hp : p ≤ z.size) :
    ∃ (k : Nat) (rp : ByteArray) (v : List S57) (e : Int), k ≤ l.length ∧ journalS (l.take k) = (rp, 0) ∧ loadR (z.extract 0 p) = (v, (k : Int), e) ∧ repairR (z.extract 0 p) = rp ∧ Lib.countByte (z.extract 0 p).data.toList 10 = k ∧
      rp.size ≤ p ∧ Lib.lastIndex (z.extract 0 p).data.toList [10] = (rp.size : Int) - 1 ∧ (z.extract 0 p).extract 0 rp.size = rp ∧ ((e = 0 ∧ rp = z.extract 0 p) ∨ (e = 18 ∧ rp ≠ z.extract 0 p)) := by
  have hall := run_right ho
  obtain ⟨k, tail, hk, ht, hno⟩ := lines_take 1 p hall
  obtain ⟨v, hv⟩ := run_take k ho
  have hkl : (l.take k).length = k := by rw [List.length_take]; omega
  have ez : z.extract 0 p = bytesA ((linesL 1 l).take p) := by rw [← hz]; exact bytesA_take _ _
  have ed : (z.extract 0 p).data.toList = linesL 1 (l.take k) ++ tail := by rw [ez, ← ht]; rfl
  have es : (z.extract 0 p).size = p := by rw [show (z.extract 0 p).size = min p z.size by simp]; omega
  have hlen : p = (linesL 1 (l.take k)).length + tail.length := by
    have := congrArg List.length ed
    rw [Array.length_toList, List.length_append] at this
    have e2 : (z.extract 0 p).data.size = p := es
    omega
  have hl := load_torn (h := 1) hv (by omega) hno
  rw [← ed, hkl] at hl
  have hx : (z.extract 0 p).extract 0 (linesL 1 (l.take k)).length = bytesA (linesL 1 (l.take k)) := by
    rw [ez, bytesA_take, ht, List.take_left]
  refine ⟨k, bytesA (linesL 1 (l.take k)), if (if tail = [] then (0 : Int) else 18) ≠ 0 then [] else v, if tail = [] then 0 else 18, hk, journal_run hv (by omega), loadR_of (by omega) hl, ?_, ?_, ?_, ?_, ?_, ?_⟩
  · rw [repairR_of (by omega) hl, es, show p - tail.length = (linesL 1 (l.take k)).length by omega, hx]
  · rw [ed, count_tail hno, count_lines 1 (fun x hx => hall x (List.mem_of_mem_take hx)), hkl]
  · rw [bytesA_size']; omega
  · rw [ed, last_feed (lines_end 1 _) hno, bytesA_size']
  · rw [bytesA_size']; exact hx
  · by_cases h0 : tail = []
    · rw [if_pos h0]
      refine Or.inl ⟨rfl, ?_⟩
      rw [ez, ht, h0, List.append_nil]
    · rw [if_neg h0]
      refine Or.inr ⟨rfl, fun e => h0 ?_⟩
      rw [ez, ht] at e
      have := bytesA_inj e
      have e2 := congrArg List.length this
      rw [List.length_append] at e2
      exact List.length_eq_zero_iff.1 (by omega)
theorem full_facts {l : List S24} {o : List S57} {z : ByteArray} (ho : runS [] l = some o) (hn : l.length ≤ 20) (hz : bytesA (linesL 1 l) = z) (hzs : z.size ≤ 200704) : loadR z = (o, (l.length : Int), 0) ∧ repairR z = z := by
  have hl := load_torn (h := 1) (tail := []) ho hn (by simp)
  rw [List.append_nil, show linesL 1 l = z.data.toList by rw [← hz]; rfl] at hl
  refine ⟨(loadR_of (by omega) hl).trans rfl, (repairR_of (by omega) hl).trans ?_⟩
  rw [List.length_nil, Nat.sub_zero]
  exact extract_all z
end Go.Proofs.YtdgipencedlbmaaGreatDoor.Pr
