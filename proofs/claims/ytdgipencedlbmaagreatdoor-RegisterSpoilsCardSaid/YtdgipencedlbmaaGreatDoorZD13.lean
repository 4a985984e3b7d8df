/- The contract of register.done as the printed texts call it. The reference's Do, and the program's, as doS says. What an entry leaves is a right register. register.All answers as allS says. -/
import Derived.Test.YtdgipencedlbmaaGreatDoorZD08
import Derived.Test.YtdgipencedlbmaaGreatDoorZD11
import Derived.Test.YtdgipencedlbmaaGreatDoorZD12
import Derived.Test.YtdgipencedlbmaaGreatDoorZD10
namespace Go.Proofs.YtdgipencedlbmaaGreatDoor.Pr
open Go.RowKit Go.Proofs.YtdgipencedlbmaaGreatDoorW.PrintWords Go.Proofs.YtdgipencedlbmaaGreatDoor.Hand
theorem done_calls (A0 : Option Addr) (c0 : Nat) (l0 : List (S57)) (k : Int) (s : ByteArray) (n : Int) (w : World) (hr0 : Kd.C k57 w A0 l0.length l0) (hc0 : l0.length ≤ c0) (hl : checkS l0 = 0) (hx : rightErr k s n = 0) :
    Calls Tryz.prog 49 #[.slice A0 l0.length c0, .agg #[.int .i64 k, .string s, .int .i64 n]] w (DoneEnd (doneS l0 k s n).1 (doneS l0 k s n).2 w) := by
  have hR := checkS_zero hl
  obtain ⟨h0, h7, _, h5, h6⟩ := rightErr_zero hx
  have hsm : ∀ x ∈ l0, SmallLot x := fun x hx => fits_small (hR.lots x hx).2
  have hn : 0 ≤ n ∧ n ≤ 1048576 := by
    rcases Int.lt_or_le k 5 with h | h
    · have := h5 h; omega
    · have := h6 h; omega
  rcases (show k = 0 ∨ k = 1 ∨ k = 2 ∨ k = 3 ∨ k = 4 ∨ k = 5 ∨ k = 6 by omega) with rfl | rfl | rfl | rfl | rfl | rfl | rfl
  · exact done_open A0 c0 l0 s n w hr0 hc0 hR.len hR.sorted
  · exact done_1 A0 c0 l0 s n w hr0 hc0 hR.len hR.sorted hsm hn
  · exact done_2 A0 c0 l0 s n w hr0 hc0 hR.len hR.sorted hsm hn
  · exact done_3 A0 c0 l0 s n w hr0 hc0 hR.len hR.sorted hsm hn
  · exact done_4 A0 c0 l0 s n w hr0 hc0 hR.len hR.sorted hsm hn
  · exact done_5 A0 c0 l0 s n w hr0 hc0 hR.len hR.sorted hsm hn
  · exact done_6 A0 c0 l0 s n w hr0 hc0 hR.len hR.sorted hsm hn
def register_done.f (l0 : List (S57)) (a1_0 : Int) (a1_1 : ByteArray) (a1_2 : Int) : Option ((List (S57)) × Int) := if checkS l0 = 0 then if rightErr a1_0 a1_1 a1_2 = 0 then some (doneS l0 a1_0 a1_1 a1_2) else none else none
theorem register_done.calls (A0 : Option Addr) (c0 : Nat) (l0 : List (S57)) (a1_0 : Int) (a1_1 : ByteArray) (a1_2 : Int) (r1 : List (S57)) (r2 : Int) (w : World) (hr0 : Kd.C k57 w A0 l0.length l0) (hc0 : l0.length ≤ c0) (h : register_done.f l0 a1_0 a1_1 a1_2 = some (r1, r2)) :
    Calls Tryz.prog 49 #[.slice A0 l0.length c0, .agg #[.int .i64 a1_0, .string a1_1, .int .i64 a1_2]] w fun e w' => ∃ v0_ : Value, e = .returned (.tuple #[v0_, .int .i64 r2]) ∧ Kd.R k57 57 w' w.heap.size (fun _ => True) v0_ r1 ∧ Below w.heap.size w w' := by
  unfold register_done.f at h
  by_cases h1 : checkS l0 = 0
  · rw [if_pos h1] at h
    by_cases h2 : rightErr a1_0 a1_1 a1_2 = 0
    · rw [if_pos h2] at h
      have e := Option.some.inj h
      have hd := done_calls A0 c0 l0 a1_0 a1_1 a1_2 w hr0 hc0 h1 h2
      rw [e] at hd
      exact hd
    · rw [if_neg h2] at h; cases h
  · rw [if_neg h1] at h; cases h
end Go.Proofs.YtdgipencedlbmaaGreatDoor.Pr
namespace Go.Proofs.YtdgipencedlbmaaGreatDoor.Pr
set_option linter.unusedVariables false
set_option linter.unusedSimpArgs false
open Go.RowKit Go.Proofs.YtdgipencedlbmaaGreatDoorW.PrintWords Go.Proofs.YtdgipencedlbmaaGreatDoorW.PrintLast Go.Proofs.YtdgipencedlbmaaGreatDoorW.PrintMore Go.Proofs.YtdgipencedlbmaaGreatDoor.Hand
def doS (l : List S57) (k : Int) (s : ByteArray) (n : Int) : List S57 × Int :=
  if checkS l ≠ 0 then ([], checkS l) else if rightErr k s n ≠ 0 then ([], rightErr k s n) else doneS l k s n
def RegEnd (t : Nat) (u : List S57 × Int) (w : World) (e : Ending) (w' : World) : Prop := ∃ v : Value, e = .returned (.tuple #[v, .int .i64 u.2]) ∧ Kd.R k57 t w' w.heap.size (fun _ => True) v u.1 ∧ Below w.heap.size w w'
theorem RegEnd.nil {t : Nat} {e2 : Int} {w w' : World} (h : Below w.heap.size w w') : RegEnd t ([], e2) w (.returned (.tuple #[.slice none 0 0, .int .i64 e2])) w' := ⟨_, rfl, Kd.R_nil _ _ _ _ _, h⟩
theorem Check_is (A0 : Option Addr) (c0 : Nat) (l0 : List (S57)) (v : Int) (hv : checkS l0 = v) (w : World) (hr0 : Kd.C k57 w A0 l0.length l0) (hc0 : l0.length ≤ c0) :
    Calls Tryz.prog 18 #[.slice A0 l0.length c0] w fun e w' => e = .returned (.int .i64 v) ∧ Below w.heap.size w w' := by subst hv; exact register_Check_any A0 c0 l0 w hr0 hc0
theorem Right_is (k : Int) (s : ByteArray) (n v : Int) (hv : rightErr k s n = v) (w : World) : Calls Tryz.prog 20 #[.agg #[.int .i64 k, .string s, .int .i64 n]] w fun e w' => e = .returned (.int .i64 v) ∧ Below w.heap.size w w' := by subst hv; exact Right_calls k s n w
set_option maxHeartbeats 8000000 in
set_option maxRecDepth 100000 in
theorem Do_calls (A0 : Option Addr) (c0 : Nat) (l0 : List S57) (kk : Int) (s : ByteArray) (n : Int) (w : World) (hr0 : Kd.C k57 w A0 l0.length l0) (hc0 : l0.length ≤ c0) (u : List S57 × Int) (hu : doS l0 kk s n = u) :
    Calls Tryz.prog 16 #[.slice A0 l0.length c0, .agg #[.int .i64 kk, .string s, .int .i64 n]] w (RegEnd 57 u w) := by
  have HR := Lib.hid hr0
  have HC := Lib.hid hc0
  have HU := Lib.hid hu
  obtain ⟨c, hc⟩ : ∃ c, checkS l0 = c := ⟨_, rfl⟩
  obtain ⟨r, hr⟩ : ∃ r, rightErr kk s n = r := ⟨_, rfl⟩
  have HCK := Lib.hid hc
  have HRI := Lib.hid hr
  clear hr0 hc0 hu hc hr
  by_cases c0z : c = 0
  · have e1 : (c != 0) = false := bne_eq_false_iff_eq.mpr c0z
    have HCZ := Lib.hid c0z
    clear c0z
    by_cases r0z : r = 0
    · have e2 : (r != 0) = false := bne_eq_false_iff_eq.mpr r0z
      have HRZ := Lib.hid r0z
      have HD := Lib.hid (show doneS l0 kk s n = u by rw [← HU.out]; unfold doS; rw [HCK.out, HRI.out, HCZ.out, r0z]; rfl)
      clear r0z
      go_enter Tryz.func16, Tryz.ntmps16
      go_wp2_with (first
        | ((with_reducible refine box_abs rfl 24 _ rfl #[.int .i64 kk, .string s, .int .i64 n] ?hx ?_); (case hx => rfl); intro b hb w1 hb1 hB1 hs1; have HE := Lib.hid hb1; obtain ⟨k0, k1, k2⟩ := entry34 hb1; have HB := Lib.hid hB1; clear hb hb1 hB1 hs1)
        | (go_at_call 18; refine (Check_is _ _ l0 c HCK.out _ (Kd.C_below HR.out HB.out) HC.out).mono ?_; rintro e w2 ⟨rfl, hB2⟩; have HE := Lib.hid (below_keeps hB2 (blk_lt HE.out) HE.out); have HB := Lib.hid (below_then HB.out hB2); clear hB2; obtain ⟨k0, k1, k2⟩ := entry34 HE.out)
        | (go_at_call 20; refine (Right_is kk s n r HRI.out _).mono ?_; rintro e w3 ⟨rfl, hB3⟩; have HE := Lib.hid (below_keeps hB3 (blk_lt HE.out) HE.out); have HB := Lib.hid (below_then HB.out hB3); clear hB3; obtain ⟨k0, k1, k2⟩ := entry34 HE.out)
        | (go_at_call 49; refine (done_calls _ _ l0 kk s n _ (Kd.C_below HR.out HB.out) HC.out (by rw [HCK.out, HCZ.out]) (by rw [HRI.out, HRZ.out])).mono ?_; rintro e w4 ⟨v4, rfl, hR4, hB4⟩; rw [HD.out] at hR4; have HR4 := Lib.hid (Kd.R_lower hR4 HB.out.size); have HB := Lib.hid (below_then HB.out hB4); clear hB4 hR4))
      go_ret2
      exact ⟨_, by rw [← HD.out]; rfl, HR4.out, HB.out⟩
    · have e2 : (r != 0) = true := bne_iff_ne.mpr r0z
      have HD := Lib.hid (show u = ([], r) by rw [← HU.out]; unfold doS; rw [HCK.out, HRI.out, HCZ.out, if_neg (by simp), if_pos r0z])
      clear r0z
      go_enter Tryz.func16, Tryz.ntmps16
      go_wp2_with (first
        | ((with_reducible refine box_abs rfl 24 _ rfl #[.int .i64 kk, .string s, .int .i64 n] ?hx ?_); (case hx => rfl); intro b hb w1 hb1 hB1 hs1; have HE := Lib.hid hb1; obtain ⟨k0, k1, k2⟩ := entry34 hb1; have HB := Lib.hid hB1; clear hb hb1 hB1 hs1)
        | (go_at_call 18; refine (Check_is _ _ l0 c HCK.out _ (Kd.C_below HR.out HB.out) HC.out).mono ?_; rintro e w2 ⟨rfl, hB2⟩; have HE := Lib.hid (below_keeps hB2 (blk_lt HE.out) HE.out); have HB := Lib.hid (below_then HB.out hB2); clear hB2; obtain ⟨k0, k1, k2⟩ := entry34 HE.out)
        | (go_at_call 20; refine (Right_is kk s n r HRI.out _).mono ?_; rintro e w3 ⟨rfl, hB3⟩; have HE := Lib.hid (below_keeps hB3 (blk_lt HE.out) HE.out); have HB := Lib.hid (below_then HB.out hB3); clear hB3; obtain ⟨k0, k1, k2⟩ := entry34 HE.out))
      go_ret2
      rw [HD.out]
      exact RegEnd.nil HB.out
  · have e1 : (c != 0) = true := bne_iff_ne.mpr c0z
    have HD := Lib.hid (show u = ([], c) by rw [← HU.out]; unfold doS; rw [HCK.out, if_pos c0z])
    clear c0z
    go_enter Tryz.func16, Tryz.ntmps16
    go_wp2_with (first
      | ((with_reducible refine box_abs rfl 24 _ rfl #[.int .i64 kk, .string s, .int .i64 n] ?hx ?_); (case hx => rfl); intro b hb w1 hb1 hB1 hs1; have HE := Lib.hid hb1; obtain ⟨k0, k1, k2⟩ := entry34 hb1; have HB := Lib.hid hB1; clear hb hb1 hB1 hs1)
        | (go_at_call 18; refine (Check_is _ _ l0 c HCK.out _ (Kd.C_below HR.out HB.out) HC.out).mono ?_; rintro e w2 ⟨rfl, hB2⟩; have HE := Lib.hid (below_keeps hB2 (blk_lt HE.out) HE.out); have HB := Lib.hid (below_then HB.out hB2); clear hB2; obtain ⟨k0, k1, k2⟩ := entry34 HE.out)
        | (go_at_call 20; refine (Right_is kk s n r HRI.out _).mono ?_; rintro e w3 ⟨rfl, hB3⟩; have HE := Lib.hid (below_keeps hB3 (blk_lt HE.out) HE.out); have HB := Lib.hid (below_then HB.out hB3); clear hB3; obtain ⟨k0, k1, k2⟩ := entry34 HE.out))
    go_ret2
    rw [HD.out]
    exact RegEnd.nil HB.out
end Go.Proofs.YtdgipencedlbmaaGreatDoor.Pr
namespace Go.Proofs.YtdgipencedlbmaaGreatDoor.Pr
set_option linter.unusedVariables false
set_option linter.unusedSimpArgs false
open Go.RowKit Go.Proofs.YtdgipencedlbmaaGreatDoorW.PrintWords Go.Proofs.YtdgipencedlbmaaGreatDoor.Hand
theorem checkFrom_of : ∀ (l : List S57) (p : Option ByteArray), (∀ x ∈ l, nameErr x.f0 = 0 ∧ fitsS x = 0) → sortedS l = true → (∀ x l', l = x :: l' → badOrder p x.f0 = false) → checkFrom p l = 0
  | [], _, _, _, _ => rfl
  | x :: l, p, h, hs, hp => by
    unfold checkFrom
    have hx := h x (by simp)
    rw [if_neg (by simpa using hx.1), hp x l rfl, if_neg (by simp), if_neg (by simpa using hx.2)]
    refine checkFrom_of l (some x.f0) (fun y hy => h y (by simp [hy])) (sorted_tail hs) (fun y l' e => ?_)
    subst e
    unfold sortedS at hs
    have := (Bool.and_eq_true_iff.mp hs).1
    show (!lessB x.f0 y.f0) = false
    rw [this]; rfl
theorem checkS_of {l : List S57} (hl : l.length ≤ 256) (hs : sortedS l = true) (h : ∀ x ∈ l, nameErr x.f0 = 0 ∧ fitsS x = 0) : checkS l = 0 := by
  unfold checkS
  rw [if_neg (by omega)]
  exact checkFrom_of l none h hs (fun _ _ _ => rfl)
theorem sorted_cons {x : S57} {l : List S57} (hs : sortedS l = true) (h : ∀ y l', l = y :: l' → lessB x.f0 y.f0 = true) : sortedS (x :: l) = true := by
  cases l with
  | nil => rfl
  | cons y l' => unfold sortedS; rw [h y l' rfl, hs]; rfl
theorem ins_head {s : ByteArray} {n : Int} : ∀ {l : List S57} {y : S57} {l' : List S57}, insB false s n l = y :: l' → y.f0 = s ∨ ∃ r, l = y :: r
  | [], y, l', h => by
    have : [newLot s n] = y :: l' := h
    injection this with h1 _
    subst h1; exact Or.inl rfl
  | x :: l, y, l', h => by
    have h' : (if lessB s x.f0 = true then newLot s n :: x :: l else x :: insB false s n l) = y :: l' := h
    split at h'
    · injection h' with h1 _; subst h1; exact Or.inl rfl
    · injection h' with h1 _; subst h1; exact Or.inr ⟨l, rfl⟩
theorem ins_order {s : ByteArray} {n : Int} : ∀ {l : List S57}, sortedS l = true → hasS l s = false → sortedS (insB false s n l) = true
  | [], _, _ => rfl
  | x :: l, hs, hh => by
    show sortedS (if lessB s x.f0 = true then newLot s n :: x :: l else x :: insB false s n l) = true
    by_cases hx : lessB s x.f0 = true
    · rw [if_pos hx]
      exact sorted_cons hs (fun y l' e => by injection e with e1 _; subst e1; exact hx)
    · rw [if_neg hx]
      have hxs : lessB x.f0 s = true := by
        by_cases h2 : lessB x.f0 s = true
        · exact h2
        · have e2 : hasS (x :: l) s = decide (x.f0 = s) := by unfold hasS; rw [lbS_neg h2]; rfl
          rw [e2] at hh
          have hne : x.f0 ≠ s := by simpa using hh
          exact absurd (lessB_tri (by simpa using h2) hne) hx
      have e2 : hasS (x :: l) s = hasS l s := by unfold hasS; rw [lbS_pos hxs]; rfl
      rw [e2] at hh
      refine sorted_cons (ins_order (sorted_tail hs) hh) (fun y l' e => ?_)
      rcases ins_head e with h1 | ⟨r, h1⟩
      · rw [h1]; exact hxs
      · subst h1
        unfold sortedS at hs
        exact (Bool.and_eq_true_iff.mp hs).1
theorem ins_mem {s : ByteArray} {n : Int} {l : List S57} {x : S57} (h : x ∈ l.take (lbS l s) ++ newLot s n :: l.drop (lbS l s)) : x = newLot s n ∨ x ∈ l := by
  rcases List.mem_append.mp h with h | h
  · exact Or.inr (List.mem_of_mem_take h)
  · rcases List.mem_cons.mp h with h | h
    · exact Or.inl h
    · exact Or.inr (List.mem_of_mem_drop h)
theorem new_fits {s : ByteArray} {n : Int} (h1 : 1 ≤ n) (h2 : n ≤ 1048576) : fitsS (newLot s n) = 0 := by
  unfold fitsS newLot okNum leftS
  simp
  omega
theorem deed_name (k n : Int) (x : S57) : (deedS k n x).1.f0 = x.f0 := by
  unfold deedS
  repeat' split
  all_goals rfl
theorem fits_zero {x : S57} (h : fitsS x = 0) : (1 ≤ x.f1 ∧ x.f1 ≤ 1048576) ∧ (0 ≤ x.f2 ∧ 0 ≤ x.f3 ∧ 0 ≤ x.f4 ∧ 0 ≤ x.f5) ∧ (0 ≤ x.f6 ∧ x.f6 ≤ 2) ∧ 0 ≤ leftS x ∧ (x.f6 ≠ 0 → leftS x = 0) ∧ (x.f6 = 2 → x.f3 = 0) := by
  unfold fitsS at h
  split at h
  · cases h
  · split at h
    · cases h
    · rename_i h1 h2
      have h2' := h2
      simp only [Bool.not_eq_false, Bool.and_eq_true, okNum_iff] at h2'
      split at h
      · cases h
      · split at h
        · cases h
        · omega
theorem fits_of {x : S57} (h1 : 1 ≤ x.f1 ∧ x.f1 ≤ 1048576) (h2 : 0 ≤ x.f2 ∧ 0 ≤ x.f3 ∧ 0 ≤ x.f4 ∧ 0 ≤ x.f5) (h3 : 0 ≤ x.f6 ∧ x.f6 ≤ 2) (h4 : 0 ≤ leftS x) (h5 : x.f6 ≠ 0 → leftS x = 0) (h6 : x.f6 = 2 → x.f3 = 0) : fitsS x = 0 := by
  unfold fitsS
  have h4' := h4
  unfold leftS at h4'
  rw [if_neg (by omega), if_neg, if_neg (by omega), if_neg (by omega)]
  simp only [Bool.not_eq_false, Bool.and_eq_true, okNum_iff]
  omega
theorem deed_fits {k n : Int} {x : S57} (hx : fitsS x = 0) (hn : 0 ≤ n) (hk : 1 ≤ k ∧ k ≤ 6) (h0 : (deedS k n x).2 = 0) : fitsS (deedS k n x).1 = 0 := by
  obtain ⟨h1, h2, h3, h4, h5, h6⟩ := fits_zero hx
  unfold deedS at h0 ⊢
  unfold leftS at *
  split at h0
  · rw [if_pos ‹_›]
    split at h0
    · cases h0
    · rw [if_neg ‹_›]
      split at h0
      · cases h0
      · rw [if_neg ‹_›]
        split
        · apply fits_of <;> simp [leftS] <;> omega
        · apply fits_of <;> simp [leftS] <;> omega
  · rw [if_neg ‹_›]
    split at h0
    · rw [if_pos ‹_›]
      split at h0
      · cases h0
      · rw [if_neg ‹_›]
        split at h0
        · cases h0
        · rw [if_neg ‹_›]
          split
          · apply fits_of <;> simp [leftS] <;> omega
          · apply fits_of <;> simp [leftS] <;> omega
    · rw [if_neg ‹_›]
      split at h0
      · rw [if_pos ‹_›]
        split at h0
        · cases h0
        · rw [if_neg ‹_›]
          split at h0
          · cases h0
          · rw [if_neg ‹_›]
            apply fits_of <;> simp [leftS] <;> omega
      · rw [if_neg ‹_›]
        split at h0
        · cases h0
        · rw [if_neg ‹_›]
          split at h0
          · cases h0
          · rw [if_neg ‹_›]
            apply fits_of <;> simp [leftS] <;> omega
theorem sorted_set {x y : S57} : ∀ {l : List S57} {p : Nat}, sortedS l = true → l[p]? = some x → y.f0 = x.f0 → sortedS (l.set p y) = true
  | [], _, _, _, _ => rfl
  | [z], 0, _, _, _ => rfl
  | [z], p + 1, _, h, _ => rfl
  | z :: z' :: l, 0, hs, h, e => by
    obtain rfl : z = x := by simpa using h
    show sortedS (y :: z' :: l) = true
    unfold sortedS at hs ⊢
    rw [e]; exact hs
  | z :: z' :: l, p + 1, hs, h, e => by
    have hs' := hs
    unfold sortedS at hs'
    have h1 := Bool.and_eq_true_iff.mp hs'
    have ih := sorted_set (l := z' :: l) (p := p) h1.2 (by simpa using h) e
    show sortedS (z :: (z' :: l).set p y) = true
    refine sorted_cons ih (fun w l' ew => ?_)
    cases p with
    | zero =>
      obtain rfl : z' = x := by simpa using h
      have : y :: l = w :: l' := ew
      injection this with e1 _
      rw [← e1, e]; exact h1.1
    | succ p =>
      have : z' :: l.set p y = w :: l' := ew
      injection this with e1 _
      rw [← e1]; exact h1.1
theorem done_check {l : List S57} {k n : Int} {s : ByteArray} (hl : checkS l = 0) (hx : rightErr k s n = 0) (h0 : (doneS l k s n).2 = 0) : checkS (doneS l k s n).1 = 0 := by
  have hR := checkS_zero hl
  obtain ⟨hk0, hk7, hnm, h5, h6⟩ := rightErr_zero hx
  by_cases hk : k = 0
  · subst hk
    unfold doneS at h0 ⊢
    rw [if_pos rfl] at h0 ⊢
    cases hh : hasS l s with
    | true => rw [hh, if_pos rfl] at h0; cases h0
    | false =>
      rw [hh, if_neg (by simp)] at h0
      rw [if_neg (by simp)]
      by_cases h256 : l.length = 256
      · rw [if_pos h256] at h0; cases h0
      · rw [if_neg h256]
        have hlen := hR.len
        refine checkS_of ?_ ?_ ?_
        · simp only [List.length_append, List.length_cons, List.length_take, List.length_drop]
          have : lbS l s ≤ l.length := by unfold lbS; exact (List.takeWhile_prefix _).length_le
          omega
        · show sortedS (l.take (lbS l s) ++ newLot s n :: l.drop (lbS l s)) = true
          rw [← bg_sorted s n l hR.sorted hh]; exact ins_order hR.sorted hh
        · intro x hx
          rcases ins_mem hx with rfl | hx
          · have := h5 (by omega)
            exact ⟨hnm, new_fits (by omega) (by omega)⟩
          · exact hR.lots x hx
  · cases hh : hasS l s with
    | false => rw [doneS_none hk hh] at h0; cases h0
    | true =>
      obtain ⟨p, hp⟩ : ∃ p, lbS l s = p := ⟨_, rfl⟩
      have hpl := lt_of_has hh hp
      by_cases hv : (deedS k n (l.getD p z57)).2 = 0
      · rw [doneS_ok hk hh hp rfl rfl hv]
        have hmem : l.getD p z57 ∈ l := by rw [List.getD, List.getElem?_eq_getElem hpl]; exact List.getElem_mem _
        have hx := hR.lots _ hmem
        have hget : l[p]? = some (l.getD p z57) := by rw [List.getD, List.getElem?_eq_getElem hpl]; rfl
        have hn : 0 ≤ n := by
          rcases Int.lt_or_le k 5 with h | h
          · have := h5 h; omega
          · have := h6 h; omega
        refine checkS_of (by rw [List.length_set]; exact hR.len) (sorted_set hR.sorted hget (deed_name _ _ _)) ?_
        intro y hy
        rcases List.mem_or_eq_of_mem_set hy with hy | rfl
        · exact hR.lots y hy
        · exact ⟨by rw [deed_name]; exact hx.1, deed_fits hx.2 hn (by omega) hv⟩
      · rw [doneS_err hk hh hp rfl rfl hv] at h0
        exact absurd h0 hv
end Go.Proofs.YtdgipencedlbmaaGreatDoor.Pr
namespace Go.Proofs.YtdgipencedlbmaaGreatDoor.Pr
set_option linter.unusedVariables false
set_option linter.unusedSimpArgs false
open Go.RowKit Go.Proofs.YtdgipencedlbmaaGreatDoorW.PrintWords Go.Proofs.YtdgipencedlbmaaGreatDoorW.PrintLast Go.Proofs.YtdgipencedlbmaaGreatDoorW.PrintMore Go.Proofs.YtdgipencedlbmaaGreatDoor.Hand
def allFrom (o : List S57) (i : Nat) : List S24 → List S57 × Int × Int
  | [] => (o, 0, 0)
  | x :: l => if rightErr x.f0 x.f1 x.f2 ≠ 0 then ([], (i : Int), rightErr x.f0 x.f1 x.f2)
    else if (doneS o x.f0 x.f1 x.f2).2 ≠ 0 then ([], (i : Int), (doneS o x.f0 x.f1 x.f2).2) else allFrom (doneS o x.f0 x.f1 x.f2).1 (i + 1) l
def allS (l : List S24) : List S57 × Int × Int := if 4096 < l.length then ([], 0, 5) else allFrom [] 0 l
def AllEnd (t : Nat) (u : List S57 × Int × Int) (w : World) (e : Ending) (w' : World) : Prop := ∃ v : Value, e = .returned (.tuple #[v, .int .i64 u.2.1, .int .i64 u.2.2]) ∧ Kd.R k57 t w' w.heap.size (fun _ => True) v u.1 ∧ Below w.heap.size w w'
theorem AllEnd.nil {t : Nat} {i e2 : Int} {w w' : World} (h : Below w.heap.size w w') : AllEnd t ([], i, e2) w (.returned (.tuple #[.slice none 0 0, .int .i64 i, .int .i64 e2])) w' := ⟨_, rfl, Kd.R_nil _ _ _ _ _, h⟩
def cellsE (x : S24) : Array Value := #[.int .i64 x.f0, .string x.f1, .int .i64 x.f2]
theorem zero24 (w : World) : (zeroValue 24).run Tryz.prog w = .ok (.agg (cellsE z24)) w := by kernel_rfl
theorem info24s (x : S24) : (Tryz.prog.info? 24).map (·.size) = some (cellsE x).size := by
  have e : (Tryz.prog.info? 24).map (·.size) = some 3 := by kernel_rfl
  rw [e]; rfl
theorem cellsE_one (x : S24) : (cellsE x).all (·.oneCell') = true := by simp [cellsE, Value.oneCell']
theorem R_but {W w1 : World} {e g t base : Nat} {cells : Array Value} {v : Value} {xs : List S57} (h : Kd.R k57 e W base (fun _ => True) v xs) (hb : W.heap[g]? = some (.cells cells t (0, 0))) (ht : ∀ q, q ∈ e :: k57.E → q ≠ t) (hB : But g W w1) :
    Kd.R k57 e w1 base (fun _ => True) v xs := Kd.R_mono (Kd.R_step (Kd.R_types h hb ht) (fun k hk hlt => hB.block k hlt hk.2)) (fun _ _ => trivial)
theorem reads_of {W : World} {e base n c : Nat} {A : Option Addr} {xs : List S57} (h : Kd.R k57 e W base (fun _ => True) (.slice A n c) xs) : Kd.C k57 W A xs.length xs := (Kd.R_reads' h).2.2
theorem entry_row {w W : World} {A : Option Addr} {l : List S24} (h : Kd.C k24 w A l.length l) (hb : Below w.heap.size w W) (k : Nat) (hk : k < l.length) :
    ∃ ad, A = some ad ∧ W.cell? (ad.add (k * 3)) = some (.int .i64 (l.getD k z24).f0) ∧ W.cell? ⟨(ad.add (k * 3)).block, (ad.add (k * 3)).off + 1, none⟩ = some (.string (l.getD k z24).f1) ∧ W.cell? ⟨(ad.add (k * 3)).block, (ad.add (k * 3)).off + 2, none⟩ = some (.int .i64 (l.getD k z24).f2) ∧ (ad.add (k * 3)).block < w.heap.size := by
  obtain ⟨ad, e, h0, h1, h2⟩ := at_T24 h k (by omega) (by omega)
  have er : rd_T24 l (k : Int) = l.getD k z24 := by unfold rd_T24; rw [Int.toNat_natCast]
  rw [er] at h0 h1 h2
  rw [Int.toNat_natCast] at h0 h1 h2
  have hlt : (ad.add (k * 3)).block < w.heap.size := World.block_lt_of_cell? w _ h0
  exact ⟨ad, e, (hb.cell hlt).trans h0, (hb.cell (p := ⟨(ad.add (k * 3)).block, (ad.add (k * 3)).off + 1, none⟩) hlt).trans h1, (hb.cell (p := ⟨(ad.add (k * 3)).block, (ad.add (k * 3)).off + 2, none⟩) hlt).trans h2, hlt⟩
theorem drop24 {l : List S24} {k : Nat} {x : S24} (h : k < l.length) (hx : x = l.getD k z24) : l.drop k = x :: l.drop (k + 1) := by
  rw [List.drop_eq_getElem_cons h, hx, List.getD, List.getElem?_eq_getElem h]; rfl
theorem all_step {l : List S24} {o : List S57} {k : Nat} {x : S24} {res : List S57 × Int × Int} {d : List S57 × Int} (h : allFrom o k (l.drop k) = res) (hd : l.drop k = x :: l.drop (k + 1)) (hr : rightErr x.f0 x.f1 x.f2 = 0) (hD : doneS o x.f0 x.f1 x.f2 = d) (h0 : d.2 = 0) : allFrom d.1 (k + 1) (l.drop (k + 1)) = res := by
  rw [← h, hd]
  conv => rhs; unfold allFrom
  rw [if_neg (by simpa using hr), hD, if_neg (by simpa using h0)]
theorem all_done {l : List S24} {o : List S57} {k : Nat} {x : S24} {res : List S57 × Int × Int} {d : List S57 × Int} (h : allFrom o k (l.drop k) = res) (hd : l.drop k = x :: l.drop (k + 1)) (hr : rightErr x.f0 x.f1 x.f2 = 0) (hD : doneS o x.f0 x.f1 x.f2 = d) (h0 : d.2 ≠ 0) : res = ([], (k : Int), d.2) := by
  rw [← h, hd]
  unfold allFrom
  rw [if_neg (by simpa using hr), hD, if_pos h0]
theorem all_right {l : List S24} {o : List S57} {k : Nat} {x : S24} {r : Int} {res : List S57 × Int × Int} (h : allFrom o k (l.drop k) = res) (hd : l.drop k = x :: l.drop (k + 1)) (hr : rightErr x.f0 x.f1 x.f2 = r) (h0 : r ≠ 0) : res = ([], (k : Int), r) := by
  rw [← h, hd]
  unfold allFrom
  rw [hr, if_pos h0]
set_option maxHeartbeats 8000000 in
set_option maxRecDepth 100000 in
theorem All_few (A0 : Option Addr) (c0 : Nat) (l0 : List S24) (w : World) (hr0 : Kd.C k24 w A0 l0.length l0) (hc0 : l0.length ≤ c0) (hm : l0.length ≤ 4096) (u : List S57 × Int × Int) (hu : allFrom [] 0 l0 = u) :
    Calls Tryz.prog 25 #[.slice A0 l0.length c0] w (AllEnd 57 u w) := by
  have d1 : decide (4096 < (l0.length : Int)) = false := decide_eq_false (by omega)
  have HR := Lib.hid hr0
  have HC := Lib.hid hc0
  have HU := Lib.hid hu
  clear hr0 hc0 hu
  go_enter Tryz.func25, Tryz.ntmps25
  go_wp2
  go_loopw [5, 6, 7, 8, 14] (fun v5 _ _ _ i wr => ∃ (k : Nat) (o : List S57), k ≤ l0.length ∧ i = .int .i64 k ∧ Hid (checkS o = 0) ∧ Hid (Kd.R k57 57 wr w.heap.size (fun _ => True) v5 o) ∧ Hid (allFrom o k (l0.drop k) = u) ∧ Hid (Below w.heap.size w wr)) (fun _ _ _ _ i _ => l0.length - (intOf i).toNat)
  case atStart => exact ⟨0, [], by omega, rfl, rfl, Kd.R_nil _ _ _ _ _, HU.out, Below.refl _ _⟩
  case round =>
    obtain ⟨k, o, hk, rfl, HCK, HO, HA, HB⟩ := hrel
    obtain ⟨A5, c5, rfl, hc5, hC5⟩ := Kd.R_reads HO.out
    have HCC := Lib.hid hc5
    clear hc5 hC5
    by_cases hlt : k < l0.length
    · have HLT := Lib.hid hlt
      obtain ⟨x, hx⟩ : ∃ x, x = l0.getD k z24 := ⟨_, rfl⟩
      obtain ⟨ad, rfl, q0, q1, q2, had⟩ := entry_row HR.out HB.out k hlt
      rw [← hx] at q0 q1 q2
      have HX := Lib.hid hx
      have hadn : (ad.add (k * 3)).block < wr.heap.size := Nat.lt_of_lt_of_le had HB.out.size
      have hadne : (ad.add (k * 3)).block ≠ wr.heap.size := Nat.ne_of_lt hadn
      clear hx
      obtain ⟨r, hr⟩ : ∃ r, rightErr x.f0 x.f1 x.f2 = r := ⟨_, rfl⟩
      have HRI := Lib.hid hr
      clear hr
      by_cases r0z : r = 0
      · have e2 : (r == 0) = true := beq_iff_eq.mpr r0z
        have HRZ := Lib.hid r0z
        clear r0z
        obtain ⟨d, hd⟩ : ∃ d, doneS o x.f0 x.f1 x.f2 = d := ⟨_, rfl⟩
        have HD := Lib.hid hd
        clear hd
        by_cases d0z : d.2 = 0
        · have e3 : (d.2 != 0) = false := bne_eq_false_iff_eq.mpr d0z
          have HDZ := Lib.hid d0z
          clear d0z
          go_wp2_with (first
        | ((with_reducible refine alloc_event rfl 24 rfl (.agg (cellsE z24)) zero24 ?_); intro b hb w1 hb1 hB1 hs1; have HK1 := Lib.hid hb1; have HO1 := Lib.hid (Kd.R_below HO.out hB1); have HBW := Lib.hid (show w.heap.size ≤ b by rw [hb]; exact HB.out.size); have HB1 := Lib.hid (below_then HB.out hB1); clear hb hb1 hB1 hs1)
        | ((with_reducible refine store_row_event rfl 24 _ _ rfl b (cellsE x) ?hx ?hy 24 (cellsE z24) ?hg ?hi ?ho ?h1 ?_); (case hg => exact HK1.out); (case ho => rfl); (case hx => (go_simp; done)); (case hy => (unfold cellsE; go_simp; done)); (case hi => exact info24s _); (case h1 => exact cellsE_one _); intro w2 hb2 hB2 hs2; have HK2 := Lib.hid hb2; have HO2 := Lib.hid (R_but HO1.out HK1.out (by decide) hB2); have HB2 := Lib.hid (hB2.below HB1.out HBW.out HB1.out.size); obtain ⟨k0, k1, k2⟩ := entry34 hb2; clear hb2 hB2 hs2)
        | (go_at_call 20; refine (Right_is x.f0 x.f1 x.f2 r HRI.out _).mono ?_; rintro e w3 ⟨rfl, hB3⟩; have HK3 := Lib.hid (below_keeps hB3 (blk_lt HK2.out) HK2.out); have HO3 := Lib.hid (Kd.R_below HO2.out hB3); have HB3 := Lib.hid (below_then HB2.out hB3); clear hB3; obtain ⟨k0, k1, k2⟩ := entry34 HK3.out)
        | (go_at_call 49; refine (done_calls _ _ o x.f0 x.f1 x.f2 _ (reads_of HO3.out) HCC.out HCK.out (by rw [HRI.out, HRZ.out])).mono ?_; rw [HD.out]; rintro e w4 ⟨v4, rfl, hR4, hB4⟩; have HR4 := Lib.hid (Kd.R_lower hR4 HB3.out.size); have HB4 := Lib.hid (below_then HB3.out hB4); clear hB4 hR4))
          go_roundw
          case rel => exact ⟨k + 1, d.1, HLT.out, by go_num, (by rw [← HD.out]; exact done_check HCK.out (by rw [HRI.out, HRZ.out]) (by rw [HD.out]; exact HDZ.out)), HR4.out, all_step HA.out (drop24 HLT.out HX.out) (by rw [HRI.out, HRZ.out]) HD.out HDZ.out, HB4.out⟩
          case measure => have := HLT.out; simp [intOf]; omega
        · have e3 : (d.2 != 0) = true := bne_iff_ne.mpr d0z
          have HDZ := Lib.hid d0z
          clear d0z
          go_wp2_with (first
        | ((with_reducible refine alloc_event rfl 24 rfl (.agg (cellsE z24)) zero24 ?_); intro b hb w1 hb1 hB1 hs1; have HK1 := Lib.hid hb1; have HO1 := Lib.hid (Kd.R_below HO.out hB1); have HBW := Lib.hid (show w.heap.size ≤ b by rw [hb]; exact HB.out.size); have HB1 := Lib.hid (below_then HB.out hB1); clear hb hb1 hB1 hs1)
        | ((with_reducible refine store_row_event rfl 24 _ _ rfl b (cellsE x) ?hx ?hy 24 (cellsE z24) ?hg ?hi ?ho ?h1 ?_); (case hg => exact HK1.out); (case ho => rfl); (case hx => (go_simp; done)); (case hy => (unfold cellsE; go_simp; done)); (case hi => exact info24s _); (case h1 => exact cellsE_one _); intro w2 hb2 hB2 hs2; have HK2 := Lib.hid hb2; have HO2 := Lib.hid (R_but HO1.out HK1.out (by decide) hB2); have HB2 := Lib.hid (hB2.below HB1.out HBW.out HB1.out.size); obtain ⟨k0, k1, k2⟩ := entry34 hb2; clear hb2 hB2 hs2)
        | (go_at_call 20; refine (Right_is x.f0 x.f1 x.f2 r HRI.out _).mono ?_; rintro e w3 ⟨rfl, hB3⟩; have HK3 := Lib.hid (below_keeps hB3 (blk_lt HK2.out) HK2.out); have HO3 := Lib.hid (Kd.R_below HO2.out hB3); have HB3 := Lib.hid (below_then HB2.out hB3); clear hB3; obtain ⟨k0, k1, k2⟩ := entry34 HK3.out)
        | (go_at_call 49; refine (done_calls _ _ o x.f0 x.f1 x.f2 _ (reads_of HO3.out) HCC.out HCK.out (by rw [HRI.out, HRZ.out])).mono ?_; rw [HD.out]; rintro e w4 ⟨v4, rfl, hR4, hB4⟩; have HR4 := Lib.hid (Kd.R_lower hR4 HB3.out.size); have HB4 := Lib.hid (below_then HB3.out hB4); clear hB4 hR4))
          go_ret3
          rw [all_done HA.out (drop24 HLT.out HX.out) (by rw [HRI.out, HRZ.out]) HD.out HDZ.out]
          exact AllEnd.nil HB4.out
      · have e2 : (r == 0) = false := beq_eq_false_iff_ne.mpr r0z
        have e3 : (r != 0) = true := bne_iff_ne.mpr r0z
        have HRZ := Lib.hid r0z
        clear r0z
        go_wp2_with (first
        | ((with_reducible refine alloc_event rfl 24 rfl (.agg (cellsE z24)) zero24 ?_); intro b hb w1 hb1 hB1 hs1; have HK1 := Lib.hid hb1; have HO1 := Lib.hid (Kd.R_below HO.out hB1); have HBW := Lib.hid (show w.heap.size ≤ b by rw [hb]; exact HB.out.size); have HB1 := Lib.hid (below_then HB.out hB1); clear hb hb1 hB1 hs1)
        | ((with_reducible refine store_row_event rfl 24 _ _ rfl b (cellsE x) ?hx ?hy 24 (cellsE z24) ?hg ?hi ?ho ?h1 ?_); (case hg => exact HK1.out); (case ho => rfl); (case hx => (go_simp; done)); (case hy => (unfold cellsE; go_simp; done)); (case hi => exact info24s _); (case h1 => exact cellsE_one _); intro w2 hb2 hB2 hs2; have HK2 := Lib.hid hb2; have HO2 := Lib.hid (R_but HO1.out HK1.out (by decide) hB2); have HB2 := Lib.hid (hB2.below HB1.out HBW.out HB1.out.size); obtain ⟨k0, k1, k2⟩ := entry34 hb2; clear hb2 hB2 hs2)
        | (go_at_call 20; refine (Right_is x.f0 x.f1 x.f2 r HRI.out _).mono ?_; rintro e w3 ⟨rfl, hB3⟩; have HK3 := Lib.hid (below_keeps hB3 (blk_lt HK2.out) HK2.out); have HO3 := Lib.hid (Kd.R_below HO2.out hB3); have HB3 := Lib.hid (below_then HB2.out hB3); clear hB3; obtain ⟨k0, k1, k2⟩ := entry34 HK3.out))
        go_ret3
        rw [all_right HA.out (drop24 HLT.out HX.out) HRI.out HRZ.out]
        exact AllEnd.nil HB3.out
    · have HK := Lib.hid (show l0.drop k = [] from List.drop_eq_nil_of_le (by omega))
      obtain rfl : k = l0.length := by omega
      go_wp2
      go_ret3
      have hu : u = (o, 0, 0) := by rw [← HA.out, HK.out]; rfl
      rw [hu]
      exact ⟨.slice A5 o.length c5, rfl, HO.out, HB.out⟩
set_option maxHeartbeats 8000000 in
set_option maxRecDepth 100000 in
theorem All_calls (A0 : Option Addr) (c0 : Nat) (l0 : List S24) (w : World) (hr0 : Kd.C k24 w A0 l0.length l0) (hc0 : l0.length ≤ c0) (u : List S57 × Int × Int) (hu : allS l0 = u) :
    Calls Tryz.prog 25 #[.slice A0 l0.length c0] w (AllEnd 57 u w) := by
  unfold allS at hu
  by_cases h : 4096 < l0.length
  · rw [if_pos h] at hu
    subst hu
    have d1 : decide (4096 < (l0.length : Int)) = true := decide_eq_true (by omega)
    go_enter Tryz.func25, Tryz.ntmps25
    go_wp2
    go_ret3
    exact AllEnd.nil (Below.refl _ _)
  · rw [if_neg h] at hu
    exact All_few A0 c0 l0 w hr0 hc0 (by omega) u hu
end Go.Proofs.YtdgipencedlbmaaGreatDoor.Pr
