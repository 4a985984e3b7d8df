/- strings.Builder of this Go: copyCheck and WriteString, at a builder that the call has made. Journals in plain Lean: their lines, what is loaded of a text, and what a torn or a changed journal leaves. -/
import Derived.Test.YtdgipencedlbmaaGreatDoorYD04
import Derived.Test.YtdgipencedlbmaaGreatDoorYD02
import Derived.Lib.Builder
import Derived.Lib.AppendStr
import Derived.Lib.UnsafeStr
import Derived.Laws.Externs
import Derived.Test.YtdgipencedlbmaaGreatDoorYJ22
import Derived.Test.YtdgipencedlbmaaGreatDoorYD13
import Derived.Test.YtdgipencedlbmaaGreatDoorYT20
namespace Go.Proofs.YtdgipencedlbmaaGreatDoor.Pr
set_option linter.unusedVariables false
set_option linter.unusedSimpArgs false
open Go.RowKit Go.Proofs.YtdgipencedlbmaaGreatDoorW.PrintWords Go.Proofs.YtdgipencedlbmaaGreatDoor.Hand
end Go.Proofs.YtdgipencedlbmaaGreatDoor.Pr
namespace Go.Proofs.YtdgipencedlbmaaGreatDoor.Pr
set_option linter.unusedVariables false
set_option linter.unusedSimpArgs false
open Go.RowKit Go.Proofs.YtdgipencedlbmaaGreatDoorW.PrintWords Go.Proofs.YtdgipencedlbmaaGreatDoor.Hand
def cutL (c : UInt8) : List UInt8 → Option (List UInt8 × List UInt8)
  | [] => none
  | x :: l => if x = c then some ([], l) else match cutL c l with | none => none | some p => some (x :: p.1, p.2)
theorem cutL_app {c : UInt8} {a b : List UInt8} (h : c ∉ a) : cutL c (a ++ c :: b) = some (a, b) := by
  induction a with
  | nil => show cutL c (c :: b) = _; unfold cutL; rw [if_pos rfl]
  | cons x a ih =>
    have hx : x ≠ c := fun e => h (by simp [e])
    have ih := ih (fun hm => h (by simp [hm]))
    show cutL c (x :: (a ++ c :: b)) = _
    unfold cutL; rw [if_neg hx, ih]
theorem cutL_none {c : UInt8} {l : List UInt8} (h : c ∉ l) : cutL c l = none := by
  induction l with
  | nil => rfl
  | cons x l ih =>
    have hx : x ≠ c := fun e => h (by simp [e])
    have ih := ih (fun hm => h (by simp [hm]))
    unfold cutL; rw [if_neg hx, ih]
theorem cutL_cases (c : UInt8) (l : List UInt8) : (c ∉ l ∧ cutL c l = none) ∨ ∃ a b, l = a ++ c :: b ∧ c ∉ a ∧ cutL c l = some (a, b) := by
  rcases index_one c l with ⟨h, _⟩ | ⟨a, b, h1, h2, _⟩
  · exact Or.inl ⟨h, cutL_none h⟩
  · exact Or.inr ⟨a, b, h1, h2, by rw [h1]; exact cutL_app h2⟩
theorem lib_cut (c : UInt8) (l : List UInt8) : Lib.cut l [c] = match cutL c l with | none => (l, [], false) | some p => (p.1, p.2, true) := by
  rcases index_one c l with ⟨h1, h2⟩ | ⟨a, b, h1, h2, h3⟩
  · rw [cutL_none h1]
    unfold Lib.cut
    rw [h2, if_neg (by omega)]
  · have e : cutL c l = some (a, b) := by rw [h1]; exact cutL_app h2
    rw [e]
    unfold Lib.cut
    rw [h3, if_pos (by omega), Int.toNat_natCast]
    have ht : l.take a.length = a := by rw [h1]; simp
    have hd : l.drop (a.length + ([c] : List UInt8).length) = b := by rw [h1, List.drop_append]; simp
    rw [ht, hd]
noncomputable def stepL (o : List S57) (n : Nat) (h : Int) (t : List UInt8) : Int ⊕ (List S57 × Int × List UInt8) :=
  if n = 4096 then .inl 5 else
  match cutL 10 t with
  | none => .inl 18
  | some p =>
    match cutL 32 p.1 with
    | none => .inl 19
    | some q =>
      if q.1 ≠ Lib.itoa (sumS h q.2) then .inl 19
      else if (readS q.2).2 ≠ 0 then .inl 4
      else if (doneS o (readS q.2).1.f0 (readS q.2).1.f1 (readS q.2).1.f2).2 ≠ 0 then .inl (doneS o (readS q.2).1.f0 (readS q.2).1.f1 (readS q.2).1.f2).2
      else .inr ((doneS o (readS q.2).1.f0 (readS q.2).1.f1 (readS q.2).1.f2).1, sumS h q.2, p.2)
theorem step_many {o : List S57} {n : Nat} {h : Int} {t : List UInt8} (hn : n = 4096) : stepL o n h t = .inl 5 := by unfold stepL; rw [if_pos hn]
theorem step_torn {o : List S57} {n : Nat} {h : Int} {t : List UInt8} (hn : n ≠ 4096) (h1 : cutL 10 t = none) : stepL o n h t = .inl 18 := by unfold stepL; rw [if_neg hn, h1]
theorem step_bare {o : List S57} {n : Nat} {h : Int} {t a b : List UInt8} (hn : n ≠ 4096) (h1 : cutL 10 t = some (a, b)) (h2 : cutL 32 a = none) : stepL o n h t = .inl 19 := by
  unfold stepL; rw [if_neg hn, h1]; simp only [h2]
theorem step_sum {o : List S57} {n : Nat} {h : Int} {t a b c d : List UInt8} (hn : n ≠ 4096) (h1 : cutL 10 t = some (a, b)) (h2 : cutL 32 a = some (c, d)) (h3 : c ≠ Lib.itoa (sumS h d)) : stepL o n h t = .inl 19 := by
  unfold stepL; rw [if_neg hn, h1]; simp only [h2]; rw [if_pos h3]
theorem step_read {o : List S57} {n : Nat} {h : Int} {t a b c d : List UInt8} (hn : n ≠ 4096) (h1 : cutL 10 t = some (a, b)) (h2 : cutL 32 a = some (c, d)) (h3 : c = Lib.itoa (sumS h d)) (h4 : (readS d).2 ≠ 0) : stepL o n h t = .inl 4 := by
  unfold stepL; rw [if_neg hn, h1]; simp only [h2]; rw [if_neg (by simpa using h3), if_pos h4]
theorem step_done {o : List S57} {n : Nat} {h : Int} {t a b c d : List UInt8} {x : S24} {v : List S57 × Int} (hn : n ≠ 4096) (h1 : cutL 10 t = some (a, b)) (h2 : cutL 32 a = some (c, d)) (h3 : c = Lib.itoa (sumS h d)) (h4 : readS d = (x, 0))
    (h5 : doneS o x.f0 x.f1 x.f2 = v) (h6 : v.2 ≠ 0) : stepL o n h t = .inl v.2 := by
  unfold stepL; rw [if_neg hn, h1]; simp only [h2]; rw [if_neg (by simpa using h3), h4, if_neg (by simp), h5, if_pos h6]
theorem step_on {o : List S57} {n : Nat} {h : Int} {t a b c d : List UInt8} {x : S24} {v : List S57 × Int} (hn : n ≠ 4096) (h1 : cutL 10 t = some (a, b)) (h2 : cutL 32 a = some (c, d)) (h3 : c = Lib.itoa (sumS h d)) (h4 : readS d = (x, 0))
    (h5 : doneS o x.f0 x.f1 x.f2 = v) (h6 : v.2 = 0) : stepL o n h t = .inr (v.1, sumS h d, b) := by
  unfold stepL; rw [if_neg hn, h1]; simp only [h2]; rw [if_neg (by simpa using h3), h4, if_neg (by simp), h5, if_neg (by simpa using h6)]
theorem cutL_shorter {c : UInt8} {l a b : List UInt8} (h : cutL c l = some (a, b)) : b.length < l.length := by
  rcases cutL_cases c l with ⟨_, h2⟩ | ⟨a', b', h1, _, h3⟩
  · rw [h2] at h; cases h
  · rw [h3] at h
    cases h
    rw [h1]; simp only [List.length_append, List.length_cons]; omega
theorem step_shorter {o : List S57} {n : Nat} {h : Int} {t : List UInt8} {r : List S57 × Int × List UInt8} (hs : stepL o n h t = .inr r) : r.2.2.length < t.length ∧ n ≠ 4096 := by
  unfold stepL at hs
  split at hs
  · cases hs
  · split at hs
    · cases hs
    · rename_i hn _ p hp
      split at hs
      · cases hs
      · split at hs
        · cases hs
        · split at hs
          · cases hs
          · split at hs
            · cases hs
            · cases hs
              exact ⟨cutL_shorter hp, hn⟩
noncomputable def loadF : Nat → List S57 → Nat → Int → List UInt8 → List S57 × Nat × List UInt8 × Int
  | 0, o, n, _, t => (o, n, t, 0)
  | f + 1, o, n, h, t => if t = [] then (o, n, [], 0) else match stepL o n h t with | .inl e => (o, n, t, e) | .inr r => loadF f r.1 (n + 1) r.2.1 r.2.2
theorem loadF_fuel : ∀ (f f' : Nat) (o : List S57) (n : Nat) (h : Int) (t : List UInt8), t.length < f → t.length < f' → loadF f o n h t = loadF f' o n h t
  | 0, _, _, _, _, _, h1, _ => by omega
  | _ + 1, 0, _, _, _, _, _, h2 => by omega
  | f + 1, f' + 1, o, n, h, t, h1, h2 => by
    unfold loadF
    by_cases ht : t = []
    · rw [if_pos ht, if_pos ht]
    · rw [if_neg ht, if_neg ht]
      cases hs : stepL o n h t with
      | inl e => rfl
      | inr r =>
        have := (step_shorter hs).1
        exact loadF_fuel f f' _ _ _ _ (by omega) (by omega)
noncomputable def loadS (o : List S57) (n : Nat) (h : Int) (t : List UInt8) : List S57 × Nat × List UInt8 × Int := loadF (t.length + 1) o n h t
theorem load_nil (o : List S57) (n : Nat) (h : Int) : loadS o n h [] = (o, n, [], 0) := by unfold loadS loadF; rw [if_pos rfl]
theorem load_err {o : List S57} {n : Nat} {h : Int} {t : List UInt8} {e : Int} (ht : t ≠ []) (hs : stepL o n h t = .inl e) : loadS o n h t = (o, n, t, e) := by
  unfold loadS loadF; rw [if_neg ht, hs]
theorem load_on {o : List S57} {n : Nat} {h : Int} {t : List UInt8} {r : List S57 × Int × List UInt8} (ht : t ≠ []) (hs : stepL o n h t = .inr r) : loadS o n h t = loadS r.1 (n + 1) r.2.1 r.2.2 := by
  have := (step_shorter hs).1
  conv => lhs; unfold loadS loadF
  rw [if_neg ht, hs]
  exact loadF_fuel _ _ _ _ _ _ (by omega) (by omega)
theorem sumS_range (h : Int) (l : List UInt8) : 0 ≤ sumS h l ∧ sumS h l < 1000003 := by
  unfold sumS
  exact foldS_range l _ (by omega)
end Go.Proofs.YtdgipencedlbmaaGreatDoor.Pr
namespace Go.Proofs.YtdgipencedlbmaaGreatDoor.Pr
open Go.RowKit Go.Proofs.YtdgipencedlbmaaGreatDoorW.PrintWords Go.Proofs.YtdgipencedlbmaaGreatDoorW.PrintLast Go.Proofs.YtdgipencedlbmaaGreatDoorW.PrintMore
attribute [local go_sem] max2_int min2_int max_two min_two max_three min_three max_four min_four   -- for this text's walks alone
set_option linter.unusedVariables false
set_option linter.unusedSimpArgs false
def metrolabref56_words.f  : Option (List ByteArray) := some (([(⟨#[111, 112, 101, 110]⟩ : ByteArray), (⟨#[112, 97, 115, 115]⟩ : ByteArray), (⟨#[114, 101, 106, 101, 99, 116]⟩ : ByteArray), (⟨#[99, 111, 110, 99, 101, 100, 101]⟩ : ByteArray), (⟨#[115, 99, 114, 97, 112]⟩ : ByteArray), (⟨#[99, 108, 111, 115, 101]⟩ : ByteArray), (⟨#[115, 104, 105, 112]⟩ : ByteArray)] : List ByteArray))
set_option maxHeartbeats 8000000 in
set_option maxRecDepth 100000 in
theorem metrolabref56_words.calls  (r : List ByteArray) (w : World) (h : metrolabref56_words.f  = some r) :
    Calls Tryz.prog 70 #[] w fun e w' => ∃ v0_ : Value, e = .returned (v0_) ∧ Kd.R Kd.string 9 w' w.heap.size (fun _ => True) v0_ r ∧ Below w.heap.size w w' := by
  have HB := Aside0.mk (Below.refl w.heap.size w)
  have H : (some (([(⟨#[111, 112, 101, 110]⟩ : ByteArray), (⟨#[112, 97, 115, 115]⟩ : ByteArray), (⟨#[114, 101, 106, 101, 99, 116]⟩ : ByteArray), (⟨#[99, 111, 110, 99, 101, 100, 101]⟩ : ByteArray), (⟨#[115, 99, 114, 97, 112]⟩ : ByteArray), (⟨#[99, 108, 111, 115, 101]⟩ : ByteArray), (⟨#[115, 104, 105, 112]⟩ : ByteArray)] : List ByteArray))) = some r := h
  clear h
  obtain ⟨y470, hy470⟩ : ∃ y_ : List ByteArray, y_ = (([(⟨#[111, 112, 101, 110]⟩ : ByteArray), (⟨#[112, 97, 115, 115]⟩ : ByteArray), (⟨#[114, 101, 106, 101, 99, 116]⟩ : ByteArray), (⟨#[99, 111, 110, 99, 101, 100, 101]⟩ : ByteArray), (⟨#[115, 99, 114, 97, 112]⟩ : ByteArray), (⟨#[99, 108, 111, 115, 101]⟩ : ByteArray), (⟨#[115, 104, 105, 112]⟩ : ByteArray)] : List ByteArray)) := ⟨_, rfl⟩
  replace H : (some y470) = some r := by first | (rw [hy470]; with_reducible exact H) | (have H2_ := (Option.bind_some _ _).symm.trans H; rw [hy470]; with_reducible exact H2_) | (have H2_ := (Option.bind_some _ _).symm.trans H; with_reducible exact H2_) | with_reducible exact H | (rw [hy470]; exact H) | exact H
  have Ny470 := Aside0.mk hy470
  clear hy470
  obtain rfl := Option.some.inj H
  go_enter Tryz.func70, Tryz.ntmps70
  go_wp2_with (first | ((with_reducible refine gate_dst (N := 1) rfl ?_); refine Kd.R_lit Kd.string _ 9 ?hg (N := 1) ?hd (xs := ([(⟨#[111, 112, 101, 110]⟩ : ByteArray), (⟨#[112, 97, 115, 115]⟩ : ByteArray), (⟨#[114, 101, 106, 101, 99, 116]⟩ : ByteArray), (⟨#[99, 111, 110, 99, 101, 100, 101]⟩ : ByteArray), (⟨#[115, 99, 114, 97, 112]⟩ : ByteArray), (⟨#[99, 108, 111, 115, 101]⟩ : ByteArray), (⟨#[115, 104, 105, 112]⟩ : ByteArray)] : List ByteArray)) (inner := [.string (⟨#[111, 112, 101, 110]⟩ : ByteArray), .string (⟨#[112, 97, 115, 115]⟩ : ByteArray), .string (⟨#[114, 101, 106, 101, 99, 116]⟩ : ByteArray), .string (⟨#[99, 111, 110, 99, 101, 100, 101]⟩ : ByteArray), .string (⟨#[115, 99, 114, 97, 112]⟩ : ByteArray), .string (⟨#[99, 108, 111, 115, 101]⟩ : ByteArray), .string (⟨#[115, 104, 105, 112]⟩ : ByteArray)]) (ok := fun _ => True) (okp := fun _ => True) ?hr ?hp (fun _ hk => hk) trivial (Below.refl _ _) (Nat.le_refl _) (by simp) ?_; (case hd => rfl); (case hg => rfl); (case hr => first | (go_simp; done) | (go_simp; rfl)); (case hp => exact (Reps.one (show Kd.M Kd.string _ _ _ (⟨#[111, 112, 101, 110]⟩ : ByteArray) [.string (⟨#[111, 112, 101, 110]⟩ : ByteArray)] from rfl) (Reps.one (show Kd.M Kd.string _ _ _ (⟨#[112, 97, 115, 115]⟩ : ByteArray) [.string (⟨#[112, 97, 115, 115]⟩ : ByteArray)] from rfl) (Reps.one (show Kd.M Kd.string _ _ _ (⟨#[114, 101, 106, 101, 99, 116]⟩ : ByteArray) [.string (⟨#[114, 101, 106, 101, 99, 116]⟩ : ByteArray)] from rfl) (Reps.one (show Kd.M Kd.string _ _ _ (⟨#[99, 111, 110, 99, 101, 100, 101]⟩ : ByteArray) [.string (⟨#[99, 111, 110, 99, 101, 100, 101]⟩ : ByteArray)] from rfl) (Reps.one (show Kd.M Kd.string _ _ _ (⟨#[115, 99, 114, 97, 112]⟩ : ByteArray) [.string (⟨#[115, 99, 114, 97, 112]⟩ : ByteArray)] from rfl) (Reps.one (show Kd.M Kd.string _ _ _ (⟨#[99, 108, 111, 115, 101]⟩ : ByteArray) [.string (⟨#[99, 108, 111, 115, 101]⟩ : ByteArray)] from rfl) (Reps.one (show Kd.M Kd.string _ _ _ (⟨#[115, 104, 105, 112]⟩ : ByteArray) [.string (⟨#[115, 104, 105, 112]⟩ : ByteArray)] from rfl) (Reps.none _ _))))))))); intro v471 w1 ho2 hb hg_ hnew_; clear hg_ hnew_; (first | rw [← Ny470.out] at ho2 | (simp only [Int.reduceToNat] at ho2; rw [← Ny470.out] at ho2)); have n0_ := Aside0.mk (Kd.R_lower ho2 (below_size (by repeat (first | (with_reducible first | exact HB.out | apply below_alloc | apply pw_below_drewN | apply below_drew1) | exact HB.out)))); have n1_ := Aside0.mk (below_step (by repeat (first | (with_reducible first | exact HB.out | apply below_alloc | apply pw_below_drewN | apply below_drew1) | exact HB.out)) hb); clear HB; have HO472 := n0_; have HB := n1_; clear n0_ n1_; clear hb ho2))
  go_ret
  exact ⟨_, by first | rfl | (simp [errW_none, errW_some] <;> rfl) | (simp [*, errW_none, errW_some] <;> rfl), by (with_reducible repeat (first | apply Kd.R_alloc | apply Kd.R_drewN | apply Kd.R_drew)); exact HO472.out, by repeat (first | (with_reducible first | exact HB.out | apply below_alloc | apply pw_below_drewN | apply below_drew1) | exact HB.out)⟩
end Go.Proofs.YtdgipencedlbmaaGreatDoor.Pr
namespace Go.Proofs.YtdgipencedlbmaaGreatDoor.Pr
set_option linter.unusedVariables false
set_option linter.unusedSimpArgs false
open Go.RowKit Go.Proofs.YtdgipencedlbmaaGreatDoorW.PrintWords Go.Proofs.YtdgipencedlbmaaGreatDoorW.PrintLast Go.Proofs.YtdgipencedlbmaaGreatDoorW.PrintMore Go.Proofs.YtdgipencedlbmaaGreatDoor.Hand
def tenD : ByteArray := ⟨#[48, 49, 50, 51, 52, 53, 54, 55, 56, 57]⟩
theorem ten_at {d : Nat} (h : d < 10) : tenD.extract d (d + 1) = bytesA [UInt8.ofNat (48 + d)] := by
  rcases (show d = 0 ∨ d = 1 ∨ d = 2 ∨ d = 3 ∨ d = 4 ∨ d = 5 ∨ d = 6 ∨ d = 7 ∨ d = 8 ∨ d = 9 by omega) with rfl | rfl | rfl | rfl | rfl | rfl | rfl | rfl | rfl | rfl <;> rfl
def decA (n : Nat) : ByteArray := bytesA (Lib.decDigits n)
theorem decA_small {n : Nat} (h : n < 10) : decA n = tenD.extract n (n + 1) := by
  unfold decA; rw [Lib.decDigits, dif_pos h, ten_at h]
theorem bytesA_app' (a b : List UInt8) : bytesA a ++ bytesA b = bytesA (a ++ b) := by
  apply ByteArray.ext
  simp [bytesA]
theorem decA_big {n : Nat} (h : ¬ n < 10) : decA n = decA (n / 10) ++ tenD.extract (n % 10) (n % 10 + 1) := by
  unfold decA
  rw [ten_at (by omega), bytesA_app']
  conv => lhs; rw [Lib.decDigits, dif_neg h]
theorem decA_size {n d : Nat} (h : n < 10 ^ (d + 1)) : (decA n).size ≤ d + 1 := by
  have := dec_len h
  simpa [decA, bytesA, ByteArray.size] using this
set_option maxHeartbeats 1000000 in
set_option maxRecDepth 100000 in
theorem rdig_calls : ∀ (n : Nat), n < 10000000000 → ∀ w : World, Calls Tryz.prog 107 #[.int .i64 n] w fun e w' => e = .returned (.string (decA n)) ∧ ∃ k, w' = w.drewN k := by
  intro n
  induction n using Nat.strongRecOn with
  | _ n ih =>
    intro hn w
    by_cases h : n < 10
    · have d0 : decide (n < 10) = true := decide_eq_true h
      have d1 : decide ((n : Int) < 10) = true := decide_eq_true (by omega)
      have hr := Lib.hid (decA_small h)
      have hsz : tenD.size = 10 := rfl
      go_enter Tryz.func107, Tryz.ntmps107
      go_wp2
      go_ret
      exact ⟨by rw [hr.out]; rfl, 0, rfl⟩
    · have d0 : decide (n < 10) = false := decide_eq_false h
      have d1 : decide ((n : Int) < 10) = false := decide_eq_false (by omega)
      have hr := Lib.hid (decA_big h)
      obtain ⟨q, hq⟩ : ∃ q, n / 10 = q := ⟨_, rfl⟩
      obtain ⟨d, hd⟩ : ∃ d, n % 10 = d := ⟨_, rfl⟩
      have hd10 : d < 10 := by omega
      have t1 : Int.tmod (n : Int) 10 = (d : Int) := by rw [Int.tmod_eq_emod_of_nonneg (by omega)]; omega
      have t2 : Int.tdiv (n : Int) 10 = (q : Int) := by rw [Int.tdiv_eq_ediv_of_nonneg (by omega)]; omega
      have t3 : (n : Int) % 10 = (d : Int) := by omega
      have t4 : (n : Int) / 10 = (q : Int) := by omega
      have IH := Lib.hid (ih q (by omega) (by omega))
      rw [hq, hd] at hr
      clear ih hq hd h
      have w1 : IntKind.i64.wrap (q : Int) = (q : Int) := by rw [IntKind.wrap_i64]; omega
      have w2 : IntKind.i64.wrap (d : Int) = (d : Int) := by rw [IntKind.wrap_i64]; omega
      have w3 : IntKind.i64.wrap ((d : Int) + 1) = (d : Int) + 1 := by rw [IntKind.wrap_i64]; omega
      have hz : (decA q).size ≤ 10 := decA_size (d := 9) (by omega)
      have hx : (tenD.extract d (d + 1)).size = 1 := by rw [ten_at hd10]; rfl
      have g1 : ¬ 9223372036854775807 < (decA q).size + (({ data := #[48, 49, 50, 51, 52, 53, 54, 55, 56, 57] } : ByteArray).extract d (d + 1)).size := by
        have : (({ data := #[48, 49, 50, 51, 52, 53, 54, 55, 56, 57] } : ByteArray).extract d (d + 1)).size = 1 := hx
        omega
      have g2 : ¬ 9223372036854775807 < (decA q).size + (min (d + 1) 10 - d) := by omega
      clear hx
      go_enter Tryz.func107, Tryz.ntmps107
      go_wp2
      go_quiet ((go_at_call 107; exact Calls.quiet_of (IH.out _)))
      go_wp2
      go_ret
      exact ⟨by rw [hr.out]; rfl, _, rfl⟩
def wordsL : List ByteArray := [sOpen, sPass, sReject, sConcede, sScrap, sClose, sShip]
def wordA (k : Int) : ByteArray := wordsL.getD k.toNat ByteArray.empty
theorem wordA_data {k : Int} (h0 : 0 ≤ k) (h7 : k < 7) : (wordA k).data.toList = wordS k := by
  rcases (show k = 0 ∨ k = 1 ∨ k = 2 ∨ k = 3 ∨ k = 4 ∨ k = 5 ∨ k = 6 by omega) with rfl | rfl | rfl | rfl | rfl | rfl | rfl <;> rfl
theorem rwords_calls (w : World) : Calls Tryz.prog 70 #[] w fun e w' => ∃ ad c, e = .returned (.slice (some ad) 7 c) ∧ (∀ k : Nat, k < 7 → w'.cell? (ad.add k) = some (.string (wordA k))) ∧ Below w.heap.size w w' := by
  refine (metrolabref56_words.calls wordsL w rfl).mono ?_
  rintro e w' ⟨v, rfl, hR, hB⟩
  obtain ⟨g, cap, hv, _⟩ := Kd.R_form hR (by decide)
  obtain ⟨A, c, hv2, hc, hC⟩ := Kd.R_reads hR
  rw [hv] at hv2
  injection hv2 with e1 _ _
  refine ⟨⟨g, 0, none⟩, cap, by rw [hv]; rfl, fun k hk => ?_, hB⟩
  obtain ⟨ad, cc, e2, hl, hK, hcell⟩ := Kd.C_get hC ByteArray.empty (k : Int) (by omega) (by show (k : Int) < 7; omega)
  rw [← e1] at e2
  cases e2
  have : cc = [.string (wordsL.getD k ByteArray.empty)] := hK
  subst this
  have := hcell 0 _ rfl
  have e3 : k * Kd.string.sz + 0 = k := Nat.mul_one k
  rw [Int.toNat_natCast, e3] at this
  exact this
theorem drew_below' {w w' : World} (h : Below w.drew.heap.size w.drew w') : Below w.heap.size w w' := ⟨h.os, h.tape, h.output, h.size, h.block⟩
set_option maxHeartbeats 1000000 in
set_option maxRecDepth 100000 in
theorem rwritten_calls (k : Nat) (s : ByteArray) (n : Int) (w : World) (h : rightErr (k : Int) s n = 0) :
    Calls Tryz.prog 64 #[.agg #[.int .i64 (k : Int), .string s, .int .i64 n]] w fun e w' => e = .returned (.string (bytesA (textL (k : Int) s.data.toList n))) ∧ Below w.heap.size w w' := by
  obtain ⟨h0, h7, hnm, h5, h6⟩ := rightErr_zero h
  have hs24 := (name_no hnm).2.2
  have HW := Lib.hid (wordA_data h0 h7)
  have hwz : (wordA (k : Int)).size ≤ 7 := by
    rcases (show k = 0 ∨ k = 1 ∨ k = 2 ∨ k = 3 ∨ k = 4 ∨ k = 5 ∨ k = 6 by omega) with rfl | rfl | rfl | rfl | rfl | rfl | rfl <;> decide
  have hk7 : k < 7 := by omega
  obtain ⟨wd, hwd⟩ : ∃ wd, wordA (k : Int) = wd := ⟨_, rfl⟩
  rw [hwd] at HW hwz
  have HK7 := Lib.hid hk7
  have HWD := Lib.hid hwd
  have z1 : ¬ 9223372036854775807 < wd.size + 1 := by omega
  have z2 : ¬ 9223372036854775807 < wd.size + 1 + s.size := by omega
  clear h hnm hwd
  by_cases hk : (k : Int) < 5
  · have d0 : decide ((k : Int) < 5) = true := decide_eq_true hk
    have d1 : decide (k < 5) = true := decide_eq_true (by omega)
    have hn := h5 hk
    obtain ⟨m, rfl⟩ : ∃ m : Nat, n = (m : Int) := ⟨n.toNat, by omega⟩
    have hm : m < 10000000000 := by omega
    have hmz : (decA m).size ≤ 7 := decA_size (d := 6) (by omega)
    have HD := Lib.hid (rdig_calls m hm)
    have z3 : ¬ 9223372036854775807 < 1 + (decA m).size := by omega
    have z4 : ¬ 9223372036854775807 < wd.size + 1 + s.size + (1 + (decA m).size) := by omega
    have HR := Lib.hid (show wd ++ ⟨#[32]⟩ ++ s ++ (⟨#[32]⟩ ++ decA m) = bytesA (textL (k : Int) s.data.toList m) from by
      apply data_inj.1
      unfold textL
      rw [if_neg (by omega), HW.out.symm, itoa_pos (by omega)]
      simp [bytesA, decA, ByteArray.data_append])
    clear hk hn h5 h6 h0 h7
    go_enter Tryz.func64, Tryz.ntmps64
    go_wp2_with (first
      | ((with_reducible refine box_abs rfl 34 _ rfl #[.int .i64 (k : Int), .string s, .int .i64 (m : Int)] ?hx ?_); (case hx => rfl); intro b hb w1 hb1 hB1 hs1; have HE1 := Lib.hid hb1; have HB1 := Lib.hid hB1; obtain ⟨k0, k1, k2⟩ := entry34 hb1; clear hb hb1 hB1 hs1))
    go_region_with
      (first | (go_at_call 70; (with_reducible refine (rwords_calls _).mono ?_); rintro e w2 ⟨ad, c, rfl, hcl, hB2⟩; have hB2 := drew_below' hB2; have HB2 := Lib.hid (below_then HB1.out hB2); have HE2 := Lib.hid (below_keeps hB2 (blk_lt HE1.out) HE1.out); obtain ⟨k0, k1, k2⟩ := entry34 HE2.out; have hcw := hcl k HK7.out; rw [HWD.out] at hcw; clear hcl hB2))
    all_goals
      go_wp2_with (go_at_call 107; (with_reducible refine (HD.out w2).mono ?_); rintro e w3 ⟨rfl, q, rfl⟩)
      go_ret
      exact ⟨by rw [← HR.out]; rfl, pw_below_drewN HB2.out _⟩
  · have d0 : decide ((k : Int) < 5) = false := decide_eq_false hk
    have d1 : decide (k < 5) = false := decide_eq_false (by omega)
    have HR := Lib.hid (show wd ++ ⟨#[32]⟩ ++ s = bytesA (textL (k : Int) s.data.toList n) from by
      apply data_inj.1
      unfold textL
      rw [if_pos (by omega), HW.out.symm]
      simp [bytesA, ByteArray.data_append])
    clear hk h5 h6 h0 h7
    go_enter Tryz.func64, Tryz.ntmps64
    go_wp2_with (first
      | ((with_reducible refine box_abs rfl 34 _ rfl #[.int .i64 (k : Int), .string s, .int .i64 n] ?hx ?_); (case hx => rfl); intro b hb w1 hb1 hB1 hs1; have HE1 := Lib.hid hb1; have HB1 := Lib.hid hB1; obtain ⟨k0, k1, k2⟩ := entry34 hb1; clear hb hb1 hB1 hs1))
    go_region_with
      (first | (go_at_call 70; (with_reducible refine (rwords_calls _).mono ?_); rintro e w2 ⟨ad, c, rfl, hcl, hB2⟩; have hB2 := drew_below' hB2; have HB2 := Lib.hid (below_then HB1.out hB2); have HE2 := Lib.hid (below_keeps hB2 (blk_lt HE1.out) HE1.out); obtain ⟨k0, k1, k2⟩ := entry34 HE2.out; have hcw := hcl k HK7.out; rw [HWD.out] at hcw; clear hcl hB2))
    all_goals
      go_wp2
      go_ret
      exact ⟨by rw [← HR.out]; rfl, HB2.out⟩
set_option maxHeartbeats 1000000 in
set_option maxRecDepth 100000 in
theorem rText_calls (k : Int) (s : ByteArray) (n : Int) (t : ByteArray × Int) (ht : textS k s n = t) (w : World) :
    Calls Tryz.prog 34 #[.agg #[.int .i64 k, .string s, .int .i64 n]] w fun e w' => e = .returned (.tuple #[.string t.1, .int .i64 t.2]) ∧ Below w.heap.size w w' := by
  obtain ⟨v, hv⟩ : ∃ v, rightErr k s n = v := ⟨_, rfl⟩
  have HV := Lib.hid hv
  unfold textS at ht
  rw [hv] at ht
  by_cases h : v = 0
  · rw [if_neg (by simpa using h)] at ht
    have d1 : (v != 0) = false := bne_eq_false_iff_eq.mpr h
    obtain ⟨h0, h7, _⟩ := rightErr_zero (hv.trans h)
    have HW := Lib.hid (show ∀ w : World, Calls Tryz.prog 64 #[.agg #[.int .i64 k, .string s, .int .i64 n]] w fun e w' => e = .returned (.string (bytesA (textL k s.data.toList n))) ∧ Below w.heap.size w w' from by
      have := rwritten_calls k.toNat s n (h := by rw [Int.toNat_of_nonneg h0]; exact hv.trans h)
      rwa [Int.toNat_of_nonneg h0] at this)
    subst ht
    clear hv h h0 h7
    go_enter Tryz.func34, Tryz.ntmps34
    go_wp2_with (first
      | ((with_reducible refine box_abs rfl 34 _ rfl #[.int .i64 k, .string s, .int .i64 n] ?hx ?_); (case hx => rfl); intro b hb w1 hb1 hB1 hs1; have HE1 := Lib.hid hb1; have HB1 := Lib.hid hB1; obtain ⟨k0, k1, k2⟩ := entry34 hb1; clear hb hb1 hB1 hs1)
      | (go_at_call 21; (with_reducible refine (rRight_is k s n v HV.out w1).mono ?_); rintro e w2 ⟨rfl, hB2⟩; have HB2 := Lib.hid (below_then HB1.out hB2); have HE2 := Lib.hid (below_keeps hB2 (blk_lt HE1.out) HE1.out); obtain ⟨k0, k1, k2⟩ := entry34 HE2.out; clear hB2)
      | (go_at_call 64; (with_reducible refine (HW.out w2).mono ?_); rintro e w3 ⟨rfl, hB3⟩; have HB3 := Lib.hid (below_then HB2.out hB3); clear hB3))
    go_ret2
    exact ⟨rfl, HB3.out⟩
  · rw [if_pos h] at ht
    have d1 : (v != 0) = true := bne_iff_ne.mpr h
    subst ht
    clear hv h
    go_enter Tryz.func34, Tryz.ntmps34
    go_wp2_with (first
      | ((with_reducible refine box_abs rfl 34 _ rfl #[.int .i64 k, .string s, .int .i64 n] ?hx ?_); (case hx => rfl); intro b hb w1 hb1 hB1 hs1; have HE1 := Lib.hid hb1; have HB1 := Lib.hid hB1; obtain ⟨k0, k1, k2⟩ := entry34 hb1; clear hb hb1 hB1 hs1)
      | (go_at_call 21; (with_reducible refine (rRight_is k s n v HV.out w1).mono ?_); rintro e w2 ⟨rfl, hB2⟩; have HB2 := Lib.hid (below_then HB1.out hB2); clear hB2))
    go_ret2
    exact ⟨rfl, HB2.out⟩
end Go.Proofs.YtdgipencedlbmaaGreatDoor.Pr
