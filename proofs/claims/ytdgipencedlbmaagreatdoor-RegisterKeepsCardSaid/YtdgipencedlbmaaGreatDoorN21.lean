/- Two entries of different lots may be exchanged: what they leave is the same register. No entry loses or makes a part, in plain Lean. What Do leaves has at most 256 lots. RegisterKeeps: the closure and slices.IndexFunc over the lots. -/
import Derived.Test.YtdgipencedlbmaaGreatDoorD13
import Derived.Test.YtdgipencedlbmaaGreatDoorD07
namespace Go.Proofs.YtdgipencedlbmaaGreatDoor.Pr
set_option linter.unusedVariables false
set_option linter.unusedSimpArgs false
open Go.RowKit Go.Proofs.YtdgipencedlbmaaGreatDoorW.PrintWords Go.Proofs.YtdgipencedlbmaaGreatDoor.Hand

/-- The lot with a name. -/
def lk (s : ByteArray) : List S57 → Option S57
  | [] => none
  | x :: l => if x.f0 = s then some x else lk s l
theorem lk_above {s : ByteArray} : ∀ {l : List S57}, (∀ y ∈ l, lessB s y.f0 = true) → lk s l = none
  | [], _ => rfl
  | x :: l, h => by
    show (if x.f0 = s then some x else lk s l) = none
    rw [if_neg (fun e => absurd e.symm (lessB_ne (h x (by simp))))]
    exact lk_above (fun y hy => h y (by simp [hy]))
theorem lk_name {s : ByteArray} : ∀ {l : List S57} {x : S57}, lk s l = some x → x.f0 = s
  | [], _, h => by cases h
  | y :: l, x, h => by
    have h' : (if y.f0 = s then some y else lk s l) = some x := h
    split at h'
    · injection h' with e; subst e; assumption
    · exact lk_name h'
theorem sorted_rest {x : S57} {l : List S57} (h : sortedS (x :: l) = true) : ∀ y ∈ l, lessB x.f0 y.f0 = true := by
  intro y hy
  cases l with
  | nil => cases hy
  | cons z l =>
    have h' := h
    unfold sortedS at h'
    exact sorted_above (sorted_tail h) (Bool.and_eq_true_iff.mp h').1 y hy
/-- Two sorted registers with the same lots are equal. -/
theorem sorted_ext : ∀ {l l' : List S57}, sortedS l = true → sortedS l' = true → (∀ s, lk s l = lk s l') → l = l'
  | [], [], _, _, _ => rfl
  | [], y :: l', _, _, h => by
    have := h y.f0
    rw [show lk y.f0 (y :: l') = some y from if_pos rfl] at this
    cases this
  | x :: l, [], _, _, h => by
    have := h x.f0
    rw [show lk x.f0 (x :: l) = some x from if_pos rfl] at this
    cases this
  | x :: l, y :: l', hs, hs', h => by
    have e : x.f0 = y.f0 := by
      by_cases h1 : lessB x.f0 y.f0 = true
      · have h2 := h x.f0
        rw [show lk x.f0 (x :: l) = some x from if_pos rfl, lk_above (fun z hz => sorted_above hs' h1 z hz)] at h2
        cases h2
      · by_cases h3 : x.f0 = y.f0
        · exact h3
        · have h4 : lessB y.f0 x.f0 = true := lessB_tri (by simpa using h1) h3
          have h2 := h y.f0
          rw [show lk y.f0 (y :: l') = some y from if_pos rfl, lk_above (fun z hz => sorted_above hs h4 z hz)] at h2
          cases h2
    have exy : x = y := by
      have h2 := h x.f0
      rw [show lk x.f0 (x :: l) = some x from if_pos rfl, show lk x.f0 (y :: l') = some y from if_pos e.symm] at h2
      exact Option.some.inj h2
    subst exy
    rw [sorted_ext (sorted_tail hs) (sorted_tail hs') (fun s => ?_)]
    by_cases hsx : x.f0 = s
    · subst hsx
      rw [lk_above (sorted_rest hs), lk_above (sorted_rest hs')]
    · have h2 := h s
      rw [show lk s (x :: l) = lk s l from if_neg hsx, show lk s (x :: l') = lk s l' from if_neg hsx] at h2
      exact h2
theorem has_lk {s : ByteArray} : ∀ {l : List S57}, sortedS l = true → hasS l s = (lk s l).isSome ∧ (∀ x, lk s l = some x → l.getD (lbS l s) z57 = x)
  | [], _ => ⟨rfl, fun x h => by cases h⟩
  | y :: l, hs => by
    have ih := has_lk (s := s) (sorted_tail hs)
    by_cases hy : lessB y.f0 s = true
    · have e1 := lbS_pos (l := l) hy
      have e2 : hasS (y :: l) s = hasS l s := by unfold hasS; rw [e1]; rfl
      have e3 : lk s (y :: l) = lk s l := if_neg (lessB_ne hy)
      rw [e1, e2, e3]
      exact ⟨ih.1, fun x hx => ih.2 x hx⟩
    · have e1 := lbS_neg (l := l) hy
      have e2 : hasS (y :: l) s = decide (y.f0 = s) := by unfold hasS; rw [e1]; rfl
      rw [e1, e2]
      by_cases hys : y.f0 = s
      · rw [show lk s (y :: l) = some y from if_pos hys, decide_eq_true hys]
        exact ⟨rfl, fun x hx => Option.some.inj hx⟩
      · have hlt : lessB s y.f0 = true := lessB_tri (by simpa using hy) hys
        rw [lk_above (fun z hz => sorted_above hs hlt z hz), decide_eq_false hys]
        exact ⟨rfl, fun x hx => by cases hx⟩
/-- What an entry does to the lot with its name. -/
def stepS1 (k : Int) (s : ByteArray) (n : Int) (o : Option S57) : S57 × Int :=
  if k = 0 then match o with | some _ => (z57, 7) | none => (newLot s n, 0)
  else match o with | none => (z57, 6) | some x => deedS k n x
theorem lk_ins {s s' : ByteArray} {n : Int} : ∀ {l : List S57}, sortedS l = true → lk s l = none → lk s' (insB false s n l) = if s = s' then some (newLot s n) else lk s' l
  | [], _, _ => rfl
  | x :: l, hs, h => by
    have hxs : ¬ x.f0 = s := by
      intro e
      rw [show lk s (x :: l) = some x from if_pos e] at h
      cases h
    rw [show lk s (x :: l) = lk s l from if_neg hxs] at h
    show lk s' (if lessB s x.f0 = true then newLot s n :: x :: l else x :: insB false s n l) = _
    split
    · rfl
    · show (if x.f0 = s' then some x else lk s' (insB false s n l)) = _
      rw [lk_ins (sorted_tail hs) h]
      by_cases h1 : x.f0 = s'
      · have h2 : ¬ s = s' := fun e => hxs (h1.trans e.symm)
        rw [if_pos h1, if_neg h2, show lk s' (x :: l) = some x from if_pos h1]
      · rw [if_neg h1, show lk s' (x :: l) = lk s' l from if_neg h1]
theorem lk_set {s s' : ByteArray} {y : S57} : ∀ {l : List S57} {x : S57}, sortedS l = true → lk s l = some x → y.f0 = s → lk s' (l.set (lbS l s) y) = if s = s' then some y else lk s' l
  | [], _, _, h, _ => by cases h
  | z :: l, x, hs, h, hy => by
    by_cases hz : lessB z.f0 s = true
    · rw [lbS_pos hz]
      rw [show lk s (z :: l) = lk s l from if_neg (lessB_ne hz)] at h
      show (if z.f0 = s' then some z else lk s' (l.set (lbS l s) y)) = _
      rw [lk_set (sorted_tail hs) h hy]
      by_cases h1 : z.f0 = s'
      · have h2 : ¬ s = s' := fun e => lessB_ne hz (h1.trans e.symm)
        rw [if_pos h1, if_neg h2, show lk s' (z :: l) = some z from if_pos h1]
      · rw [if_neg h1, show lk s' (z :: l) = lk s' l from if_neg h1]
    · rw [lbS_neg hz]
      have hzs : z.f0 = s := by
        by_cases h1 : z.f0 = s
        · exact h1
        · have hlt : lessB s z.f0 = true := lessB_tri (by simpa using hz) h1
          rw [lk_above (fun w hw => sorted_above hs hlt w hw)] at h
          cases h
      show (if y.f0 = s' then some y else lk s' l) = _
      by_cases h1 : s = s'
      · rw [if_pos h1, if_pos (hy.trans h1)]
      · rw [if_neg h1, if_neg (fun e => h1 (hy.symm.trans e)), show lk s' (z :: l) = lk s' l from if_neg (fun e => h1 (hzs.symm.trans e))]
theorem done_lk {l : List S57} {k n : Int} {s : ByteArray} (hs : sortedS l = true) (hl : l.length < 256) :
    (doneS l k s n).2 = (stepS1 k s n (lk s l)).2 ∧ ((doneS l k s n).2 = 0 → ∀ s', lk s' (doneS l k s n).1 = if s = s' then some (stepS1 k s n (lk s l)).1 else lk s' l) := by
  obtain ⟨h1, h2⟩ := has_lk (s := s) hs
  by_cases hk : k = 0
  · subst hk
    unfold doneS stepS1
    rw [if_pos rfl, if_pos rfl]
    cases ho : lk s l with
    | some x =>
      rw [ho] at h1
      rw [h1, if_pos (by rfl)]
      exact ⟨rfl, fun h => by cases h⟩
    | none =>
      rw [ho] at h1
      have hh : hasS l s = false := h1
      rw [hh, if_neg (by simp), if_neg (by omega)]
      refine ⟨rfl, fun _ s' => ?_⟩
      show lk s' (l.take (lbS l s) ++ newLot s n :: l.drop (lbS l s)) = _
      rw [← bg_sorted s n l hs hh]
      exact lk_ins hs ho
  · unfold stepS1
    rw [if_neg hk]
    cases ho : lk s l with
    | none =>
      rw [ho] at h1
      rw [doneS_none hk h1]
      exact ⟨rfl, fun h => by cases h⟩
    | some x =>
      rw [ho] at h1
      have hx := h2 x ho
      have hnm := lk_name ho
      by_cases hv : (deedS k n x).2 = 0
      · rw [doneS_ok hk h1 rfl hx.symm rfl hv]
        refine ⟨hv.symm, fun _ s' => ?_⟩
        exact lk_set hs ho ((deed_name k n x).trans hnm)
      · rw [doneS_err hk h1 rfl hx.symm rfl hv]
        exact ⟨rfl, fun h => absurd h hv⟩
/-- The plain law: entries of different lots commute. -/
theorem swap_law {l : List S57} {k k' n n' : Int} {s s' : ByteArray} (hl : l.length ≤ 20) (hne : s ≠ s') (h0 : (doS l k s n).2 = 0) :
    ((doS (doS l k s n).1 k' s' n').2 = (doS l k' s' n').2) ∧ ((doS l k' s' n').2 = 0 → (doS (doS l k' s' n').1 k s n).2 = 0 ∧ (doS (doS l k s n).1 k' s' n').1 = (doS (doS l k' s' n').1 k s n).1) := by
  have hc : checkS l = 0 := by
    by_cases h : checkS l = 0
    · exact h
    · unfold doS at h0; rw [if_pos h] at h0; exact absurd h0 h
  have hr : rightErr k s n = 0 := by
    by_cases h : rightErr k s n = 0
    · exact h
    · unfold doS at h0; rw [if_neg (by simpa using hc), if_pos h] at h0; exact absurd h0 h
  have e1 : doS l k s n = doneS l k s n := by unfold doS; rw [if_neg (by simpa using hc), if_neg (by simpa using hr)]
  have hs := (checkS_zero hc).sorted
  rw [e1] at h0 ⊢
  have hc1 := done_check hc hr h0
  have hs1 := (checkS_zero hc1).sorted
  have hlen : ∀ {a : List S57} {k n : Int} {s : ByteArray}, a.length ≤ 254 → (doneS a k s n).1.length ≤ a.length + 1 := by
    intro a k n s ha
    unfold doneS
    repeat' split
    all_goals first
      | (simp; done)
      | (simp; omega)
      | (have : lbS a s ≤ a.length := by unfold lbS; exact (List.takeWhile_prefix _).length_le
         simp only [List.length_append, List.length_cons, List.length_take, List.length_drop]; omega)
  have hl1 := hlen (a := l) (k := k) (n := n) (s := s) (by omega)
  obtain ⟨a1, a2⟩ := done_lk (l := l) (k := k) (n := n) (s := s) hs (by omega)
  by_cases hr' : rightErr k' s' n' = 0
  · have e2 : doS l k' s' n' = doneS l k' s' n' := by unfold doS; rw [if_neg (by simpa using hc), if_neg (by simpa using hr')]
    have e3 : doS (doneS l k s n).1 k' s' n' = doneS (doneS l k s n).1 k' s' n' := by unfold doS; rw [if_neg (by simpa using hc1), if_neg (by simpa using hr')]
    rw [e2, e3]
    obtain ⟨b1, b2⟩ := done_lk (l := l) (k := k') (n := n') (s := s') hs (by omega)
    obtain ⟨c1, c2⟩ := done_lk (l := (doneS l k s n).1) (k := k') (n := n') (s := s') hs1 (by omega)
    have ha' : lk s' (doneS l k s n).1 = lk s' l := by rw [a2 h0 s', if_neg hne]
    rw [ha'] at c1 c2
    refine ⟨c1.trans b1.symm, fun hb => ?_⟩
    have hc2 := done_check hc hr' hb
    have hs2 := (checkS_zero hc2).sorted
    have hl2 := hlen (a := l) (k := k') (n := n') (s := s') (by omega)
    have e4 : doS (doneS l k' s' n').1 k s n = doneS (doneS l k' s' n').1 k s n := by unfold doS; rw [if_neg (by simpa using hc2), if_neg (by simpa using hr)]
    rw [e4]
    obtain ⟨d1, d2⟩ := done_lk (l := (doneS l k' s' n').1) (k := k) (n := n) (s := s) hs2 (by omega)
    have hb' : lk s (doneS l k' s' n').1 = lk s l := by rw [b2 hb s, if_neg (fun e => hne e.symm)]
    rw [hb'] at d1 d2
    have hd0 : (doneS (doneS l k' s' n').1 k s n).2 = 0 := d1.trans (a1.symm.trans h0)
    have hcc0 : (doneS (doneS l k s n).1 k' s' n').2 = 0 := c1.trans (b1.symm.trans hb)
    refine ⟨hd0, ?_⟩
    refine sorted_ext (checkS_zero (done_check hc1 hr' hcc0)).sorted (checkS_zero (done_check hc2 hr hd0)).sorted (fun q => ?_)
    rw [c2 hcc0 q, d2 hd0 q, a2 h0 q, b2 hb q]
    by_cases q1 : s' = q
    · have q2 : ¬ s = q := fun e => hne (e.trans q1.symm)
      rw [if_pos q1, if_neg q2, if_pos q1]
    · rw [if_neg q1]
      by_cases q2 : s = q
      · rw [if_pos q2, if_pos q2]
      · rw [if_neg q2, if_neg q2, if_neg q1]
  · have e2 : doS l k' s' n' = ([], rightErr k' s' n') := by unfold doS; rw [if_neg (by simpa using hc), if_pos hr']
    have e3 : doS (doneS l k s n).1 k' s' n' = ([], rightErr k' s' n') := by unfold doS; rw [if_neg (by simpa using hc1), if_pos hr']
    rw [e2, e3]
    exact ⟨rfl, fun h => absurd h hr'⟩
end Go.Proofs.YtdgipencedlbmaaGreatDoor.Pr
namespace Go.Proofs.YtdgipencedlbmaaGreatDoor.Pr
set_option linter.unusedVariables false
set_option linter.unusedSimpArgs false
open Go.RowKit Go.Proofs.YtdgipencedlbmaaGreatDoorW.PrintWords Go.Proofs.YtdgipencedlbmaaGreatDoor.Hand

def judgedS (x : S57) : Int := x.f2 + x.f3 + x.f4 + x.f5
/-- What an entry may make of a lot. -/
structure Kept (k : Int) (s : ByteArray) (n : Int) (a b : S57) : Prop where
  other : a.f0 ≠ s → a = b
  size : a.f1 = b.f1
  state : b.f6 ≤ a.f6
  good : b.f2 ≤ a.f2
  conceded : b.f4 ≤ a.f4
  scrapped : b.f5 ≤ a.f5
  judged : judgedS a = judgedS b + (if a.f0 = s ∧ (k = 1 ∨ k = 2) then n else 0)
def KeptBy (l : List S57) (k : Int) (s : ByteArray) (n : Int) (a : S57) : Prop :=
  match lk a.f0 l with
  | none => k = 0 ∧ a = newLot s n
  | some b => Kept k s n a b
theorem kept_refl {k n : Int} {s : ByteArray} {a : S57} (h : a.f0 ≠ s) : Kept k s n a a :=
  ⟨fun _ => rfl, rfl, Int.le_refl _, Int.le_refl _, Int.le_refl _, Int.le_refl _, by rw [if_neg (fun e => h e.1)]; omega⟩
theorem lk_mem {l : List S57} (hs : sortedS l = true) : ∀ {x : S57}, x ∈ l → lk x.f0 l = some x := by
  induction l with
  | nil => intro x hx; cases hx
  | cons y l ih =>
    intro x hx
    rcases List.mem_cons.1 hx with rfl | hx
    · exact if_pos rfl
    · have h1 := sorted_rest hs x hx
      rw [show lk x.f0 (y :: l) = lk x.f0 l from if_neg (lessB_ne h1)]
      exact ih (sorted_tail hs) hx
theorem deed_kept {k n : Int} {x : S57} (hx : fitsS x = 0) (hk : 1 ≤ k ∧ k ≤ 6) (h5 : k < 5 → 1 ≤ n ∧ n ≤ 1048576) (h0 : (deedS k n x).2 = 0) : Kept k x.f0 n (deedS k n x).1 x := by
  obtain ⟨h1, h2, h3, h4, h5', h6⟩ := fits_zero hx
  have hn : k < 5 → 0 ≤ n := fun h => by have := h5 h; omega
  have hnm := deed_name k n x
  unfold deedS at h0 hnm ⊢
  split at h0
  · rename_i hk1
    rw [if_pos hk1] at hnm ⊢
    have := hn (by omega)
    split at h0
    · cases h0
    · rw [if_neg ‹_›] at hnm ⊢
      split at h0
      · cases h0
      · rw [if_neg ‹_›] at hnm ⊢
        split
        · exact ⟨fun e => absurd rfl e, rfl, Int.le_refl _, by simp; omega, Int.le_refl _, Int.le_refl _, by simp [judgedS, hk1]; omega⟩
        · exact ⟨fun e => absurd rfl e, rfl, Int.le_refl _, Int.le_refl _, Int.le_refl _, Int.le_refl _, by simp [judgedS, hk1]; omega⟩
  · rename_i hk1
    rw [if_neg hk1] at hnm ⊢
    have hz : ¬ (x.f0 = x.f0 ∧ (k = 1 ∨ k = 2)) := fun e => hk1 e.2
    split at h0
    · rename_i hk3
      rw [if_pos hk3] at hnm ⊢
      have := hn (by omega)
      split at h0
      · cases h0
      · rw [if_neg ‹_›] at hnm ⊢
        split at h0
        · cases h0
        · rw [if_neg ‹_›] at hnm ⊢
          split
          · exact ⟨fun e => absurd rfl e, rfl, Int.le_refl _, Int.le_refl _, by simp; omega, Int.le_refl _, by simp [judgedS, hk1]; omega⟩
          · exact ⟨fun e => absurd rfl e, rfl, Int.le_refl _, Int.le_refl _, Int.le_refl _, by simp; omega, by simp [judgedS, hk1]; omega⟩
    · rename_i hk3
      rw [if_neg hk3] at hnm ⊢
      split at h0
      · rw [if_pos ‹_›] at hnm ⊢
        split at h0
        · cases h0
        · rw [if_neg ‹_›] at hnm ⊢
          split at h0
          · cases h0
          · rw [if_neg ‹_›] at hnm ⊢
            exact ⟨fun e => absurd rfl e, rfl, by simp; omega, Int.le_refl _, Int.le_refl _, Int.le_refl _, by simp [judgedS, hk1]⟩
      · rw [if_neg ‹_›] at hnm ⊢
        split at h0
        · cases h0
        · rw [if_neg ‹_›] at hnm ⊢
          split at h0
          · cases h0
          · rw [if_neg ‹_›] at hnm ⊢
            exact ⟨fun e => absurd rfl e, rfl, by simp; omega, Int.le_refl _, Int.le_refl _, Int.le_refl _, by simp [judgedS, hk1]⟩
/-- The plain law: each lot behind an entry is new, or has kept its parts. -/
theorem keep_law {l : List S57} {k n : Int} {s : ByteArray} (hl : checkS l = 0) (hr : rightErr k s n = 0) (h0 : (doneS l k s n).2 = 0) : ∀ a ∈ (doneS l k s n).1, KeptBy l k s n a := by
  have hs := (checkS_zero hl).sorted
  have hlen := (checkS_zero hl).len
  have hlots := (checkS_zero hl).lots
  obtain ⟨hk0, hk7, hnm, h5, h6⟩ := rightErr_zero hr
  have hs' := (checkS_zero (done_check hl hr h0)).sorted
  have h256 : k = 0 → l.length < 256 := by
    intro e
    subst e
    unfold doneS at h0
    rw [if_pos rfl] at h0
    split at h0
    · cases h0
    · split at h0
      · cases h0
      · omega
  intro a ha
  have hla := lk_mem hs' ha
  obtain ⟨h1, h2⟩ := has_lk (s := s) hs
  unfold KeptBy
  by_cases hk : k = 0
  · obtain ⟨d1, d2⟩ := done_lk (k := k) (n := n) (s := s) hs (h256 hk)
    have d2 := d2 h0 a.f0
    rw [d2] at hla
    have hno : lk s l = none := by
      rw [d1] at h0
      unfold stepS1 at h0
      rw [if_pos hk] at h0
      cases ho : lk s l with
      | none => rfl
      | some x => rw [ho] at h0; cases h0
    by_cases hsa : s = a.f0
    · rw [if_pos hsa] at hla
      rw [← hsa, hno]
      refine ⟨hk, ?_⟩
      have := Option.some.inj hla
      rw [← this]
      unfold stepS1
      rw [if_pos hk, hno]
    · rw [if_neg hsa] at hla
      rw [hla]
      exact kept_refl (fun e => hsa e.symm)
  · cases hh : hasS l s with
    | false => rw [doneS_none hk hh] at h0; cases h0
    | true =>
      rw [hh] at h1
      cases ho : lk s l with
      | none => rw [ho] at h1; cases h1
      | some x =>
        have hx := h2 x ho
        have hnx := lk_name ho
        have hpl := lt_of_has hh rfl
        have hmx : x ∈ l := by rw [← hx, List.getD, List.getElem?_eq_getElem hpl]; exact List.getElem_mem _
        by_cases hv : (deedS k n x).2 = 0
        · rw [doneS_ok hk hh rfl hx.symm rfl hv] at hla ha
          have hset := lk_set (s' := a.f0) (y := (deedS k n x).1) hs ho ((deed_name k n x).trans hnx)
          rw [hset] at hla
          by_cases hsa : s = a.f0
          · rw [if_pos hsa] at hla
            rw [← hsa, ho, ← Option.some.inj hla]
            rw [← hnx]
            exact deed_kept (hlots x hmx).2 (by omega) h5 hv
          · rw [if_neg hsa] at hla
            rw [hla]
            exact kept_refl (fun e => hsa e.symm)
        · rw [doneS_err hk hh rfl hx.symm rfl hv] at h0; exact absurd h0 hv
/-- How many lots there are behind an entry. -/
theorem done_len {l : List S57} {k n : Int} {s : ByteArray} (h0 : (doneS l k s n).2 = 0) : l.length ≤ (doneS l k s n).1.length ∧ (doneS l k s n).1.length ≤ l.length + 1 := by
  unfold doneS at h0 ⊢
  repeat' split
  all_goals first
    | (simp_all; done)
    | (rename_i h1 h2 h3; rw [if_pos h1] at h0; simp_all; done)
    | (have : lbS l s ≤ l.length := by unfold lbS; exact (List.takeWhile_prefix _).length_le
       simp only [List.length_append, List.length_cons, List.length_take, List.length_drop]; omega)
/-- The index of the first lot with a name. -/
def idxS (s : ByteArray) : List S57 → Nat
  | [] => 0
  | x :: l => if x.f0 = s then 0 else idxS s l + 1
theorem idx_le (s : ByteArray) : ∀ l : List S57, idxS s l ≤ l.length
  | [] => Nat.le_refl _
  | x :: l => by
    unfold idxS
    split
    · omega
    · have := idx_le s l; simp only [List.length_cons]; omega
theorem idx_lk (s : ByteArray) : ∀ l : List S57, lk s l = l[idxS s l]?
  | [] => rfl
  | x :: l => by
    unfold idxS
    by_cases h : x.f0 = s
    · rw [if_pos h, show lk s (x :: l) = some x from if_pos h]; rfl
    · rw [if_neg h, show lk s (x :: l) = lk s l from if_neg h, idx_lk s l]; rfl
end Go.Proofs.YtdgipencedlbmaaGreatDoor.Pr
namespace Go.Proofs.YtdgipencedlbmaaGreatDoor.Pr
set_option linter.unusedVariables false
set_option linter.unusedSimpArgs false
open Go.RowKit Go.Proofs.YtdgipencedlbmaaGreatDoorW.PrintWords Go.Proofs.YtdgipencedlbmaaGreatDoor.Hand

theorem doS_len (l : List S57) (k : Int) (s : ByteArray) (n : Int) : (doS l k s n).1.length ≤ 256 := by
  unfold doS
  by_cases h1 : checkS l = 0
  · rw [if_neg (by simpa using h1)]
    by_cases h2 : rightErr k s n = 0
    · rw [if_neg (by simpa using h2)]
      by_cases h0 : (doneS l k s n).2 = 0
      · exact (checkS_zero (done_check h1 h2 h0)).len
      · have : (doneS l k s n).1 = [] := by
          unfold doneS at h0 ⊢
          repeat' split
          all_goals first | rfl | (exfalso; simp_all)
        rw [this]; simp
    · rw [if_pos h2]; simp
  · rw [if_pos h1]; simp
end Go.Proofs.YtdgipencedlbmaaGreatDoor.Pr
namespace Go.Proofs.YtdgipencedlbmaaGreatDoor.Pr
set_option linter.unusedVariables false
set_option linter.unusedSimpArgs false
open Go.RowKit Go.Proofs.YtdgipencedlbmaaGreatDoorW.PrintWords Go.Proofs.YtdgipencedlbmaaGreatDoorW.PrintMore Go.Proofs.YtdgipencedlbmaaGreatDoor.Hand

theorem ba_ext {a b : ByteArray} (h : a.toList = b.toList) : a = b := by
  rw [toList_eq, toList_eq] at h
  cases a; cases b
  simp only [ByteArray.mk.injEq] at h ⊢
  exact Array.toList_inj.mp h
theorem idx_at {s : ByteArray} : ∀ {l : List S57} {k : Nat}, k < l.length → (∀ j : Nat, j < k → (l.getD j z57).f0 ≠ s) → (l.getD k z57).f0 = s → idxS s l = k
  | [], k, h, _, _ => absurd h (by simp)
  | x :: l, 0, _, _, e => by unfold idxS; exact if_pos e
  | x :: l, k + 1, h, hn, e => by
    unfold idxS
    rw [if_neg (show ¬ x.f0 = s from hn 0 (by omega)), idx_at (k := k) (by simpa using h) (fun j hj => hn (j + 1) (by omega)) e]
theorem idx_none {s : ByteArray} : ∀ {l : List S57}, (∀ j : Nat, j < l.length → (l.getD j z57).f0 ≠ s) → idxS s l = l.length
  | [], _ => rfl
  | x :: l, hn => by
    unfold idxS
    rw [if_neg (show ¬ x.f0 = s from hn 0 (by simp)), idx_none (l := l) (fun j hj => hn (j + 1) (by simpa using hj))]
    rfl
def idxV (s : ByteArray) (l : List S57) : Int := if idxS s l < l.length then (idxS s l : Int) else -1
set_option maxHeartbeats 1000000 in
set_option maxRecDepth 100000 in
theorem kcmp_calls (a x : S57) (p : Nat) (w : World) (hp : w.cell? ⟨p, 0, none⟩ = some (.string x.f0)) (v : Bool) (hv : (a.f0.toList == x.f0.toList) = v) :
    Calls Tryz.prog 30 #[.agg #[.string a.f0, .int .i64 a.f1, .int .i64 a.f2, .int .i64 a.f3, .int .i64 a.f4, .int .i64 a.f5, .int .i64 a.f6], .pointer (some ⟨p, 0, none⟩)] w fun e w' => e = .returned (.bool v) ∧ Below w.heap.size w w' := by
  have HP := Lib.hid hp
  have HLT := Lib.hid (World.block_lt_of_cell? w _ hp)
  clear hp
  go_enter Tryz.func30, Tryz.ntmps30
  go_wp2_with (first
    | ((with_reducible refine box_abs rfl 57 _ rfl (cellsS a) ?hx ?_); (case hx => rfl); intro b hb w1 hb1 hB1 hs1; have HB1 := Lib.hid hB1; have e1 := cellB hb1 0; simp only [cellsS, List.getElem?_toArray, List.getElem?_cons_zero] at e1; have e2 := (hB1.cell (p := ⟨p, 0, none⟩) HLT.out).trans HP.out; clear hb hb1 hB1 hs1))
  go_ret
  exact ⟨by rw [← hv]; rfl, HB1.out⟩
set_option maxHeartbeats 2000000 in
set_option maxRecDepth 100000 in
theorem kidx_calls (A0 : Option Addr) (c0 : Nat) (l0 : List S57) (x : S57) (p : Nat) (w : World) (hr0 : Kd.C k57 w A0 l0.length l0) (hc0 : l0.length ≤ c0) (h63 : l0.length < 9223372036854775807) (hp : w.cell? ⟨p, 0, none⟩ = some (.string x.f0)) (v : Int) (hv : idxV x.f0 l0 = v) :
    Calls Tryz.prog 29 #[.slice A0 l0.length c0, .func (.func 30) #[] #[.pointer (some ⟨p, 0, none⟩)]] w fun e w' => e = .returned (.int .i64 v) ∧ Below w.heap.size w w' := by
  have HR := Lib.hid hr0
  have HC := Lib.hid hc0
  have HP := Lib.hid hp
  have HV := Lib.hid hv
  have HL := Lib.hid (World.block_lt_of_cell? w _ hp)
  have HM := Lib.hid h63
  clear hr0 hc0 hp hv h63
  go_enter Tryz.func29, Tryz.ntmps29
  go_wp2
  go_loopw [8] (fun i wr => ∃ k : Nat, k ≤ l0.length ∧ i = .int .i64 k ∧ Hid (∀ j : Nat, j < k → (l0.getD j z57).f0 ≠ x.f0) ∧ Hid (Below w.heap.size w wr)) (fun i _ => l0.length - (intOf i).toNat)
  case atStart => exact ⟨0, by omega, rfl, fun j hj => by omega, Below.refl _ _⟩
  case round =>
    obtain ⟨k, hk, rfl, hno, HB⟩ := hrel
    have hm := HM.out
    by_cases hlt : k < l0.length
    · have HLT := Lib.hid hlt
      obtain ⟨ad, rfl, hlot, had⟩ := LotA.of_row HR.out HB.out k hlt
      obtain ⟨y, hy⟩ : ∃ y, y = l0.getD k z57 := ⟨_, rfl⟩
      rw [← hy] at hlot
      have HY := Lib.hid hy
      clear hy had
      obtain ⟨q0, q1, q2, q3, q4, q5, q6⟩ := hlot
      obtain ⟨v1, hv1⟩ : ∃ v1, (y.f0.toList == x.f0.toList) = v1 := ⟨_, rfl⟩
      have HK := Lib.hid (kcmp_calls y x p wr ((HB.out.cell (p := ⟨p, 0, none⟩) HL.out).trans HP.out) v1 hv1)
      have HV1 := Lib.hid hv1
      clear hv1
      cases v1 with
      | true =>
        go_wp2_with (first | (go_at_call 30; (with_reducible refine HK.out.mono ?_); rintro e w2 ⟨rfl, hB2⟩; have HB2 := Lib.hid (below_then HB.out hB2); clear hB2))
        go_ret
        refine ⟨?_, HB2.out⟩
        have e : (l0.getD k z57).f0 = x.f0 := by rw [← HY.out]; exact ba_ext (beq_iff_eq.1 HV1.out)
        have hi := idx_at HLT.out hno.out e
        rw [← HV.out, idxV, hi, if_pos HLT.out]; rfl
      | false =>
        go_wp2_with (first | (go_at_call 30; (with_reducible refine HK.out.mono ?_); rintro e w2 ⟨rfl, hB2⟩; have HB2 := Lib.hid (below_then HB.out hB2); clear hB2))
        go_roundw
        case rel =>
          refine ⟨k + 1, HLT.out, by go_num, fun j hj => ?_, HB2.out⟩
          rcases Nat.lt_succ_iff_lt_or_eq.1 hj with h1 | rfl
          · exact hno.out j h1
          · intro e
            rw [← HY.out] at e
            have := beq_eq_false_iff_ne.1 HV1.out
            rw [e] at this
            exact this rfl
        case measure => have := HLT.out; simp [intOf]; omega
    · have hkl : k = l0.length := by omega
      subst hkl
      go_wp2
      go_ret
      refine ⟨?_, HB.out⟩
      rw [← HV.out, idxV, idx_none hno.out, if_neg (by omega)]; rfl
end Go.Proofs.YtdgipencedlbmaaGreatDoor.Pr
