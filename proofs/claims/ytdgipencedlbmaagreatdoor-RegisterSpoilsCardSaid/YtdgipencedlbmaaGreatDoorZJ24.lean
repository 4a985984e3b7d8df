/- strings.Builder of this Go: copyCheck and WriteString, at a builder that the call has made. Journals in plain Lean: their lines, what is loaded of a text, and what a torn or a changed journal leaves. -/
import Derived.Test.YtdgipencedlbmaaGreatDoorZD04
import Derived.Test.YtdgipencedlbmaaGreatDoorZD02
import Derived.Lib.Builder
import Derived.Lib.AppendStr
import Derived.Lib.UnsafeStr
import Derived.Laws.Externs
import Derived.Test.YtdgipencedlbmaaGreatDoorZJ22
import Derived.Test.YtdgipencedlbmaaGreatDoorZD13
import Derived.Test.YtdgipencedlbmaaGreatDoorZT20
namespace Go.Proofs.YtdgipencedlbmaaGreatDoor.Pr
set_option linter.unusedVariables false
set_option linter.unusedSimpArgs false
open Go.RowKit Go.Proofs.YtdgipencedlbmaaGreatDoorW.PrintWords Go.Proofs.YtdgipencedlbmaaGreatDoor.Hand
theorem sizeB : (Tryz.prog.info? 102).map (·.size) = some 2 := by kernel_rfl
theorem liesB : liesAt Tryz.prog Tryz.prog.depth 102 (2 / Tryz.prog.cellsOf 102) 0 102 1 = true := by kernel_rfl
theorem infoB : (Tryz.prog.info? 5).map (fun i => (i.zero, i.size, i.bytes)) = some (some (.int .u8 0), 1, 1) := by kernel_rfl
set_option maxHeartbeats 1000000 in
set_option maxRecDepth 100000 in
theorem check_used (b : Nat) (w : World) (h0 : w.cell? ⟨b, 0, none⟩ = some (.pointer (some ⟨b, 0, none⟩))) :
    Calls Tryz.prog 104 #[.pointer (some ⟨b, 0, none⟩)] w fun e w' => e = .returned (.tuple #[]) ∧ w' = w := by
  obtain ⟨j, hj, _⟩ := Option.map_eq_some_iff.1 sizeB
  have c1 := fun w => Lib.run_neq_ptr_same (P := Tryz.prog) (w := w) ⟨b, 0, none⟩ Tryz.underlying100 hj
  go_enter Tryz.func104, Tryz.ntmps104
  go_wp2
  go_end0
  exact ⟨rfl, rfl⟩
set_option maxHeartbeats 1000000 in
set_option maxRecDepth 100000 in
theorem check_fresh (b : Nat) (w : World) (h0 : w.cell? ⟨b, 0, none⟩ = some (.pointer none)) (hsh : w.shape? b = some (102, 2)) (hfz : w.frozen? ⟨b, 0, none⟩ = false) :
    Calls Tryz.prog 104 #[.pointer (some ⟨b, 0, none⟩)] w fun e w' => e = .returned (.tuple #[]) ∧ w' = w.setCell ⟨b, 0, none⟩ (.pointer (some ⟨b, 0, none⟩)) := by
  obtain ⟨j, hj, hjs⟩ := Option.map_eq_some_iff.1 sizeB
  go_enter Tryz.func104, Tryz.ntmps104
  go_wp2
  rw [Lib.run_to_unsafe w ⟨b, 0, none⟩ Tryz.underlying100 Tryz.underlying166 hj (by rw [hjs]; decide) hsh (Nat.zero_lt_succ 1)]
  simp only [Result.andThen]
  rw [Oper.upon_value]
  go_wp2
  rw [run_callFunc_extern Tryz.func125 (by kernel_rfl) (by kernel_rfl) (by kernel_rfl) (e := Extern.AbiNoEscape.same) (by kernel_rfl)]
  rw [Lib.run_noEscape]
  simp only [Result.andThen]
  rw [Oper.upon_value]
  go_wp2
  rw [Lib.run_from_unsafe w ⟨b, 0, none⟩ Tryz.underlying166 Tryz.underlying100 hj hsh liesB]
  simp only [Result.andThen]
  rw [Oper.upon_value]
  go_wp2
  go_end0
  exact ⟨rfl, rfl⟩
theorem check_calls (B b : Nat) (bs : List Value) (w : World) (h : Lib.IsBuilder 102 5 B b bs w) :
    Calls Tryz.prog 104 #[.pointer (some ⟨b, 0, none⟩)] w fun e w' => e = .returned (.tuple #[]) ∧ (Lib.BuilderAt 102 5 B b (.pointer (some ⟨b, 0, none⟩)) bs w' ∧ Below B w w') := by
  rcases h with h | h
  · refine (check_fresh b w h.cell0 h.shape h.frozen0).mono ?_
    rintro e w' ⟨rfl, rfl⟩
    exact ⟨rfl, h.used _, (Below.refl B w).setCell (p := ⟨b, 0, none⟩) h.1 _⟩
  · refine (check_used b w h.cell0).mono ?_
    rintro e w' ⟨rfl, rfl⟩
    exact ⟨rfl, h, Below.refl B _⟩
set_option maxHeartbeats 2000000 in
set_option maxRecDepth 100000 in
theorem write_calls (B b : Nat) (bs : List Value) (s : ByteArray) (w : World) (h : Lib.IsBuilder 102 5 B b bs w) (hlen : bs.length + s.size ≤ 140737488355328) (hBw : B ≤ w.heap.size) :
    Calls Tryz.prog 59 #[.pointer (some ⟨b, 0, none⟩), .string s] w fun e w' => e = .returned (.tuple #[.int .i64 s.size, .nilIface]) ∧ (Lib.BuilderAt 102 5 B b (.pointer (some ⟨b, 0, none⟩)) (bs ++ Lib.strCells s) w' ∧ Below B w w') := by
  obtain ⟨i0, hi, hz0, hz1, hz2⟩ := info_parts infoB
  have H := Lib.hid h
  clear h
  go_enter Tryz.func59, Tryz.ntmps59
  go_wp2_with (go_at_call 104; refine (check_calls B b bs _ H.out).mono ?_)
  rintro e w1 ⟨rfl, h1, hb1⟩
  obtain ⟨hB, v, hbk, hown, hne⟩ := h1
  have c0 : w1.cell? ⟨b, 0, none⟩ = some (.pointer (some ⟨b, 0, none⟩)) := by rw [Lib.cell_of_heap hbk]; rfl
  have c1 : w1.cell? ⟨b, 1, none⟩ = some v := by rw [Lib.cell_of_heap hbk]; rfl
  go_wp2_with (at_builtin; refine Lib.wpList_append_own_string _ rfl _ _ 82 9 rfl B 5 i0 Tryz.underlying82 Tryz.underlying9 hi hz0 hz1 hz2 _ _ _ rfl hown s rfl ?c3 ?c4 ?c5 ?_)
  case c3 => unfold maxLen; omega
  case c4 => omega
  case c5 => have := hb1.size; omega
  intro v' w2 hown' hgrow _
  have hlt : b < w1.heap.size := by
    rcases Nat.lt_or_ge b w1.heap.size with h' | h'
    · exact h'
    · simp [Array.getElem?_eq_none h'] at hbk
  have hb2 : w2.heap[b]? = some (.cells #[.pointer (some ⟨b, 0, none⟩), v] 102 (0, 0)) := by
    rw [hgrow.block b hlt (fun e => hne e.symm)]
    exact hbk
  have d0 : w2.cell? ⟨b, 0, none⟩ = some (.pointer (some ⟨b, 0, none⟩)) := by rw [Lib.cell_of_heap hb2]; rfl
  have d1 : w2.cell? ⟨b, 1, none⟩ = some v := by rw [Lib.cell_of_heap hb2]; rfl
  have f1 : w2.frozen? ⟨b, 1, none⟩ = false := Lib.frozen_of_heap hb2 1
  obtain ⟨ao, n', cap, rfl⟩ : ∃ ao n' cap, v' = .slice ao n' cap := by
    rcases hown'.2 with ⟨hv, _⟩ | ⟨g, cap, cur, hv, _⟩
    · exact ⟨_, _, _, hv⟩
    · exact ⟨_, _, _, hv⟩
  go_wp2
  go_ret2
  refine ⟨rfl, ?_, ?_⟩
  · exact Lib.BuilderAt.put (T := 102) (e := 5) hB hb2 (bs' := bs ++ Lib.strCells s) (by simpa [Lib.strCells_length] using hown') (by decide)
  · exact (hb1.grown hgrow (by have := hb1.size; omega) (fun k hk => (hown.lt k hk).1)).setCell (p := ⟨b, 1, none⟩) hB _
end Go.Proofs.YtdgipencedlbmaaGreatDoor.Pr
namespace Go.Proofs.YtdgipencedlbmaaGreatDoor.Pr
set_option linter.unusedVariables false
set_option linter.unusedSimpArgs false
open Go.RowKit Go.Proofs.YtdgipencedlbmaaGreatDoorW.PrintWords Go.Proofs.YtdgipencedlbmaaGreatDoor.Hand
def cutL (c : UInt8) : List UInt8 → Option (List UInt8 × List UInt8)
  | [] => none
  | x :: l => if x = c then some ([], l) else match cutL c l with | none => none | some p => some (x :: p.1, p.2)
theorem cutL_app {c : UInt8} {a b : List UInt8} (h : c ∉ a) : cutL c (a ++ c :: b) = some (a, b) := by
  induction a with
  | nil => show cutL c (c :: b) = _; unfold cutL; rw [if_pos rfl]
  | cons x a ih =>
    have hx : x ≠ c := fun e => h (by simp [e])
    have ih := ih (fun hm => h (by simp [hm]))
    show cutL c (x :: (a ++ c :: b)) = _
    unfold cutL; rw [if_neg hx, ih]
theorem cutL_none {c : UInt8} {l : List UInt8} (h : c ∉ l) : cutL c l = none := by
  induction l with
  | nil => rfl
  | cons x l ih =>
    have hx : x ≠ c := fun e => h (by simp [e])
    have ih := ih (fun hm => h (by simp [hm]))
    unfold cutL; rw [if_neg hx, ih]
theorem cutL_cases (c : UInt8) (l : List UInt8) : (c ∉ l ∧ cutL c l = none) ∨ ∃ a b, l = a ++ c :: b ∧ c ∉ a ∧ cutL c l = some (a, b) := by
  rcases index_one c l with ⟨h, _⟩ | ⟨a, b, h1, h2, _⟩
  · exact Or.inl ⟨h, cutL_none h⟩
  · exact Or.inr ⟨a, b, h1, h2, by rw [h1]; exact cutL_app h2⟩
theorem lib_cut (c : UInt8) (l : List UInt8) : Lib.cut l [c] = match cutL c l with | none => (l, [], false) | some p => (p.1, p.2, true) := by
  rcases index_one c l with ⟨h1, h2⟩ | ⟨a, b, h1, h2, h3⟩
  · rw [cutL_none h1]
    unfold Lib.cut
    rw [h2, if_neg (by omega)]
  · have e : cutL c l = some (a, b) := by rw [h1]; exact cutL_app h2
    rw [e]
    unfold Lib.cut
    rw [h3, if_pos (by omega), Int.toNat_natCast]
    have ht : l.take a.length = a := by rw [h1]; simp
    have hd : l.drop (a.length + ([c] : List UInt8).length) = b := by rw [h1, List.drop_append]; simp
    rw [ht, hd]
noncomputable def stepL (o : List S57) (n : Nat) (h : Int) (t : List UInt8) : Int ⊕ (List S57 × Int × List UInt8) :=
  if n = 4096 then .inl 5 else
  match cutL 10 t with
  | none => .inl 18
  | some p =>
    match cutL 32 p.1 with
    | none => .inl 19
    | some q =>
      if q.1 ≠ Lib.itoa (sumS h q.2) then .inl 19
      else if (readS q.2).2 ≠ 0 then .inl 4
      else if (doneS o (readS q.2).1.f0 (readS q.2).1.f1 (readS q.2).1.f2).2 ≠ 0 then .inl (doneS o (readS q.2).1.f0 (readS q.2).1.f1 (readS q.2).1.f2).2
      else .inr ((doneS o (readS q.2).1.f0 (readS q.2).1.f1 (readS q.2).1.f2).1, sumS h q.2, p.2)
theorem step_many {o : List S57} {n : Nat} {h : Int} {t : List UInt8} (hn : n = 4096) : stepL o n h t = .inl 5 := by unfold stepL; rw [if_pos hn]
theorem step_torn {o : List S57} {n : Nat} {h : Int} {t : List UInt8} (hn : n ≠ 4096) (h1 : cutL 10 t = none) : stepL o n h t = .inl 18 := by unfold stepL; rw [if_neg hn, h1]
theorem step_bare {o : List S57} {n : Nat} {h : Int} {t a b : List UInt8} (hn : n ≠ 4096) (h1 : cutL 10 t = some (a, b)) (h2 : cutL 32 a = none) : stepL o n h t = .inl 19 := by
  unfold stepL; rw [if_neg hn, h1]; simp only [h2]
theorem step_sum {o : List S57} {n : Nat} {h : Int} {t a b c d : List UInt8} (hn : n ≠ 4096) (h1 : cutL 10 t = some (a, b)) (h2 : cutL 32 a = some (c, d)) (h3 : c ≠ Lib.itoa (sumS h d)) : stepL o n h t = .inl 19 := by
  unfold stepL; rw [if_neg hn, h1]; simp only [h2]; rw [if_pos h3]
theorem step_read {o : List S57} {n : Nat} {h : Int} {t a b c d : List UInt8} (hn : n ≠ 4096) (h1 : cutL 10 t = some (a, b)) (h2 : cutL 32 a = some (c, d)) (h3 : c = Lib.itoa (sumS h d)) (h4 : (readS d).2 ≠ 0) : stepL o n h t = .inl 4 := by
  unfold stepL; rw [if_neg hn, h1]; simp only [h2]; rw [if_neg (by simpa using h3), if_pos h4]
theorem step_done {o : List S57} {n : Nat} {h : Int} {t a b c d : List UInt8} {x : S24} {v : List S57 × Int} (hn : n ≠ 4096) (h1 : cutL 10 t = some (a, b)) (h2 : cutL 32 a = some (c, d)) (h3 : c = Lib.itoa (sumS h d)) (h4 : readS d = (x, 0))
    (h5 : doneS o x.f0 x.f1 x.f2 = v) (h6 : v.2 ≠ 0) : stepL o n h t = .inl v.2 := by
  unfold stepL; rw [if_neg hn, h1]; simp only [h2]; rw [if_neg (by simpa using h3), h4, if_neg (by simp), h5, if_pos h6]
theorem step_on {o : List S57} {n : Nat} {h : Int} {t a b c d : List UInt8} {x : S24} {v : List S57 × Int} (hn : n ≠ 4096) (h1 : cutL 10 t = some (a, b)) (h2 : cutL 32 a = some (c, d)) (h3 : c = Lib.itoa (sumS h d)) (h4 : readS d = (x, 0))
    (h5 : doneS o x.f0 x.f1 x.f2 = v) (h6 : v.2 = 0) : stepL o n h t = .inr (v.1, sumS h d, b) := by
  unfold stepL; rw [if_neg hn, h1]; simp only [h2]; rw [if_neg (by simpa using h3), h4, if_neg (by simp), h5, if_neg (by simpa using h6)]
theorem cutL_shorter {c : UInt8} {l a b : List UInt8} (h : cutL c l = some (a, b)) : b.length < l.length := by
  rcases cutL_cases c l with ⟨_, h2⟩ | ⟨a', b', h1, _, h3⟩
  · rw [h2] at h; cases h
  · rw [h3] at h
    cases h
    rw [h1]; simp only [List.length_append, List.length_cons]; omega
theorem step_shorter {o : List S57} {n : Nat} {h : Int} {t : List UInt8} {r : List S57 × Int × List UInt8} (hs : stepL o n h t = .inr r) : r.2.2.length < t.length ∧ n ≠ 4096 := by
  unfold stepL at hs
  split at hs
  · cases hs
  · split at hs
    · cases hs
    · rename_i hn _ p hp
      split at hs
      · cases hs
      · split at hs
        · cases hs
        · split at hs
          · cases hs
          · split at hs
            · cases hs
            · cases hs
              exact ⟨cutL_shorter hp, hn⟩
noncomputable def loadF : Nat → List S57 → Nat → Int → List UInt8 → List S57 × Nat × List UInt8 × Int
  | 0, o, n, _, t => (o, n, t, 0)
  | f + 1, o, n, h, t => if t = [] then (o, n, [], 0) else match stepL o n h t with | .inl e => (o, n, t, e) | .inr r => loadF f r.1 (n + 1) r.2.1 r.2.2
theorem loadF_fuel : ∀ (f f' : Nat) (o : List S57) (n : Nat) (h : Int) (t : List UInt8), t.length < f → t.length < f' → loadF f o n h t = loadF f' o n h t
  | 0, _, _, _, _, _, h1, _ => by omega
  | _ + 1, 0, _, _, _, _, _, h2 => by omega
  | f + 1, f' + 1, o, n, h, t, h1, h2 => by
    unfold loadF
    by_cases ht : t = []
    · rw [if_pos ht, if_pos ht]
    · rw [if_neg ht, if_neg ht]
      cases hs : stepL o n h t with
      | inl e => rfl
      | inr r =>
        have := (step_shorter hs).1
        exact loadF_fuel f f' _ _ _ _ (by omega) (by omega)
noncomputable def loadS (o : List S57) (n : Nat) (h : Int) (t : List UInt8) : List S57 × Nat × List UInt8 × Int := loadF (t.length + 1) o n h t
theorem load_nil (o : List S57) (n : Nat) (h : Int) : loadS o n h [] = (o, n, [], 0) := by unfold loadS loadF; rw [if_pos rfl]
theorem load_err {o : List S57} {n : Nat} {h : Int} {t : List UInt8} {e : Int} (ht : t ≠ []) (hs : stepL o n h t = .inl e) : loadS o n h t = (o, n, t, e) := by
  unfold loadS loadF; rw [if_neg ht, hs]
theorem load_on {o : List S57} {n : Nat} {h : Int} {t : List UInt8} {r : List S57 × Int × List UInt8} (ht : t ≠ []) (hs : stepL o n h t = .inr r) : loadS o n h t = loadS r.1 (n + 1) r.2.1 r.2.2 := by
  have := (step_shorter hs).1
  conv => lhs; unfold loadS loadF
  rw [if_neg ht, hs]
  exact loadF_fuel _ _ _ _ _ _ (by omega) (by omega)
def lineL (h : Int) (x : S24) : List UInt8 := Lib.itoa (sumS h (textE x)) ++ 32 :: (textE x ++ [10])
def linesL : Int → List S24 → List UInt8
  | _, [] => []
  | h, x :: l => lineL h x ++ linesL (sumS h (textE x)) l
def sumsL : Int → List S24 → Int
  | h, [] => h
  | h, x :: l => sumsL (sumS h (textE x)) l
theorem sumS_range (h : Int) (l : List UInt8) : 0 ≤ sumS h l ∧ sumS h l < 1000003 := by
  unfold sumS
  exact foldS_range l _ (by omega)
theorem linesL_app (h : Int) (a b : List S24) : linesL h (a ++ b) = linesL h a ++ linesL (sumsL h a) b := by
  induction a generalizing h with
  | nil => rfl
  | cons x a ih =>
    show lineL h x ++ linesL _ (a ++ b) = _
    rw [ih, ← List.append_assoc]; rfl
theorem sumsL_app (h : Int) (a b : List S24) : sumsL h (a ++ b) = sumsL (sumsL h a) b := by
  induction a generalizing h with
  | nil => rfl
  | cons x a ih => exact ih _
theorem itoa_no {n : Int} (h : 0 ≤ n) : (32 : UInt8) ∉ Lib.itoa n ∧ (10 : UInt8) ∉ Lib.itoa n ∧ ∀ c ∈ Lib.itoa n, 48 ≤ c.toNat ∧ c.toNat ≤ 57 := by
  rw [itoa_pos h]
  exact ⟨(dec_no _).1, (dec_no _).2, dec_digit _⟩
def runS : List S57 → List S24 → Option (List S57)
  | o, [] => some o
  | o, x :: l => if rightE x = 0 ∧ (doneS o x.f0 x.f1 x.f2).2 = 0 then runS (doneS o x.f0 x.f1 x.f2).1 l else none
theorem all_run {o u : List S57} {i : Nat} : ∀ {l : List S24}, (allFrom o i l = (u, 0, 0) ∨ ∃ j, allFrom o i l = (u, j, 0)) → runS o l = some u := by
  intro l
  induction l generalizing o i with
  | nil =>
    intro h
    rcases h with h | ⟨j, h⟩ <;> · unfold allFrom at h; cases h; rfl
  | cons x l ih =>
    intro h
    have h' : ∃ j, allFrom o i (x :: l) = (u, j, 0) := by rcases h with h | h; exact ⟨_, h⟩; exact h
    obtain ⟨j, h⟩ := h'
    unfold allFrom at h
    by_cases h1 : rightErr x.f0 x.f1 x.f2 = 0
    · rw [if_neg (by simpa using h1)] at h
      by_cases h2 : (doneS o x.f0 x.f1 x.f2).2 = 0
      · rw [if_neg (by simpa using h2)] at h
        unfold runS
        rw [if_pos ⟨h1, h2⟩]
        exact ih (Or.inr ⟨j, h⟩)
      · rw [if_pos h2] at h
        injection h with _ h; injection h with _ h; exact absurd h h2
    · rw [if_pos h1] at h
      injection h with _ h; injection h with _ h; exact absurd h h1
theorem run_all {o u : List S57} {i : Nat} : ∀ {l : List S24}, runS o l = some u → allFrom o i l = (u, 0, 0) := by
  intro l
  induction l generalizing o i with
  | nil => intro h; unfold runS at h; cases h; rfl
  | cons x l ih =>
    intro h
    unfold runS at h
    by_cases h1 : rightE x = 0 ∧ (doneS o x.f0 x.f1 x.f2).2 = 0
    · rw [if_pos h1] at h
      unfold allFrom
      have h2 : rightErr x.f0 x.f1 x.f2 = 0 := h1.1
      rw [if_neg (by simpa using h2), if_neg (by simpa using h1.2)]
      exact ih h
    · rw [if_neg h1] at h; cases h
theorem run_app {o : List S57} {a b : List S24} : runS o (a ++ b) = (runS o a).bind fun o' => runS o' b := by
  induction a generalizing o with
  | nil => rfl
  | cons x a ih =>
    show (if _ then runS _ (a ++ b) else none) = Option.bind (if _ then runS _ a else none) _
    by_cases h1 : rightE x = 0 ∧ (doneS o x.f0 x.f1 x.f2).2 = 0
    · rw [if_pos h1, if_pos h1]; exact ih
    · rw [if_neg h1, if_neg h1]; rfl
theorem run_right {o u : List S57} {l : List S24} (h : runS o l = some u) : ∀ x ∈ l, rightE x = 0 := by
  induction l generalizing o with
  | nil => intro x hx; cases hx
  | cons y l ih =>
    unfold runS at h
    by_cases h1 : rightE y = 0 ∧ (doneS o y.f0 y.f1 y.f2).2 = 0
    · rw [if_pos h1] at h
      intro x hx
      rcases List.mem_cons.1 hx with rfl | hx
      · exact h1.1
      · exact ih h x hx
    · rw [if_neg h1] at h; cases h
theorem step_line {o : List S57} {n : Nat} {h : Int} {x : S24} {r : List UInt8} (hn : n ≠ 4096) (hx : rightE x = 0) (hd : (doneS o x.f0 x.f1 x.f2).2 = 0) :
    stepL o n h (lineL h x ++ r) = .inr ((doneS o x.f0 x.f1 x.f2).1, sumS h (textE x), r) := by
  obtain ⟨i1, i2, _⟩ := itoa_no (sumS_range h (textE x)).1
  have hl := textE_len hx
  have e : lineL h x ++ r = (Lib.itoa (sumS h (textE x)) ++ 32 :: textE x) ++ 10 :: r := by unfold lineL; simp
  have no : (10 : UInt8) ∉ Lib.itoa (sumS h (textE x)) ++ 32 :: textE x := by simp [i2, textE_no hx]
  exact step_on hn (by rw [e]; exact cutL_app no) (cutL_app i1) rfl (readS_some (by omega) hx rfl) rfl hd
theorem line_ne (h : Int) (x : S24) (r : List UInt8) : lineL h x ++ r ≠ [] := by unfold lineL; simp
theorem load_lines {o u : List S57} {n : Nat} {h : Int} {r : List UInt8} : ∀ {l : List S24}, runS o l = some u → n + l.length ≤ 4096 → loadS o n h (linesL h l ++ r) = loadS u (n + l.length) (sumsL h l) r := by
  intro l
  induction l generalizing o n h with
  | nil => intro hr _; unfold runS at hr; cases hr; rfl
  | cons x l ih =>
    intro hr hn
    unfold runS at hr
    by_cases h1 : rightE x = 0 ∧ (doneS o x.f0 x.f1 x.f2).2 = 0
    · rw [if_pos h1] at hr
      simp only [List.length_cons] at hn
      have e : linesL h (x :: l) ++ r = lineL h x ++ (linesL (sumS h (textE x)) l ++ r) := List.append_assoc _ _ _
      rw [e, load_on (line_ne _ _ _) (step_line (by omega) h1.1 h1.2)]
      show loadS _ (n + 1) _ (linesL (sumS h (textE x)) l ++ r) = _
      rw [ih hr (by omega), List.length_cons, show n + 1 + l.length = n + (l.length + 1) by omega]; rfl
    · rw [if_neg h1] at hr; cases hr
end Go.Proofs.YtdgipencedlbmaaGreatDoor.Pr
namespace Go.Proofs.YtdgipencedlbmaaGreatDoor.Pr
open Go.RowKit Go.Proofs.YtdgipencedlbmaaGreatDoorW.PrintWords Go.Proofs.YtdgipencedlbmaaGreatDoorW.PrintLast Go.Proofs.YtdgipencedlbmaaGreatDoorW.PrintMore
attribute [local go_sem] max2_int min2_int max_two min_two max_three min_three max_four min_four   -- for this text's walks alone
set_option linter.unusedVariables false
set_option linter.unusedSimpArgs false
def metrolabref56_words.f  : Option (List ByteArray) := some (([(⟨#[111, 112, 101, 110]⟩ : ByteArray), (⟨#[112, 97, 115, 115]⟩ : ByteArray), (⟨#[114, 101, 106, 101, 99, 116]⟩ : ByteArray), (⟨#[99, 111, 110, 99, 101, 100, 101]⟩ : ByteArray), (⟨#[115, 99, 114, 97, 112]⟩ : ByteArray), (⟨#[99, 108, 111, 115, 101]⟩ : ByteArray), (⟨#[115, 104, 105, 112]⟩ : ByteArray)] : List ByteArray))
set_option maxHeartbeats 8000000 in
set_option maxRecDepth 100000 in
theorem metrolabref56_words.calls  (r : List ByteArray) (w : World) (h : metrolabref56_words.f  = some r) :
    Calls Tryz.prog 70 #[] w fun e w' => ∃ v0_ : Value, e = .returned (v0_) ∧ Kd.R Kd.string 9 w' w.heap.size (fun _ => True) v0_ r ∧ Below w.heap.size w w' := by
  have HB := Aside0.mk (Below.refl w.heap.size w)
  have H : (some (([(⟨#[111, 112, 101, 110]⟩ : ByteArray), (⟨#[112, 97, 115, 115]⟩ : ByteArray), (⟨#[114, 101, 106, 101, 99, 116]⟩ : ByteArray), (⟨#[99, 111, 110, 99, 101, 100, 101]⟩ : ByteArray), (⟨#[115, 99, 114, 97, 112]⟩ : ByteArray), (⟨#[99, 108, 111, 115, 101]⟩ : ByteArray), (⟨#[115, 104, 105, 112]⟩ : ByteArray)] : List ByteArray))) = some r := h
  clear h
  obtain ⟨y470, hy470⟩ : ∃ y_ : List ByteArray, y_ = (([(⟨#[111, 112, 101, 110]⟩ : ByteArray), (⟨#[112, 97, 115, 115]⟩ : ByteArray), (⟨#[114, 101, 106, 101, 99, 116]⟩ : ByteArray), (⟨#[99, 111, 110, 99, 101, 100, 101]⟩ : ByteArray), (⟨#[115, 99, 114, 97, 112]⟩ : ByteArray), (⟨#[99, 108, 111, 115, 101]⟩ : ByteArray), (⟨#[115, 104, 105, 112]⟩ : ByteArray)] : List ByteArray)) := ⟨_, rfl⟩
  replace H : (some y470) = some r := by first | (rw [hy470]; with_reducible exact H) | (have H2_ := (Option.bind_some _ _).symm.trans H; rw [hy470]; with_reducible exact H2_) | (have H2_ := (Option.bind_some _ _).symm.trans H; with_reducible exact H2_) | with_reducible exact H | (rw [hy470]; exact H) | exact H
  have Ny470 := Aside0.mk hy470
  clear hy470
  obtain rfl := Option.some.inj H
  go_enter Tryz.func70, Tryz.ntmps70
  go_wp2_with (first | ((with_reducible refine gate_dst (N := 1) rfl ?_); refine Kd.R_lit Kd.string _ 9 ?hg (N := 1) ?hd (xs := ([(⟨#[111, 112, 101, 110]⟩ : ByteArray), (⟨#[112, 97, 115, 115]⟩ : ByteArray), (⟨#[114, 101, 106, 101, 99, 116]⟩ : ByteArray), (⟨#[99, 111, 110, 99, 101, 100, 101]⟩ : ByteArray), (⟨#[115, 99, 114, 97, 112]⟩ : ByteArray), (⟨#[99, 108, 111, 115, 101]⟩ : ByteArray), (⟨#[115, 104, 105, 112]⟩ : ByteArray)] : List ByteArray)) (inner := [.string (⟨#[111, 112, 101, 110]⟩ : ByteArray), .string (⟨#[112, 97, 115, 115]⟩ : ByteArray), .string (⟨#[114, 101, 106, 101, 99, 116]⟩ : ByteArray), .string (⟨#[99, 111, 110, 99, 101, 100, 101]⟩ : ByteArray), .string (⟨#[115, 99, 114, 97, 112]⟩ : ByteArray), .string (⟨#[99, 108, 111, 115, 101]⟩ : ByteArray), .string (⟨#[115, 104, 105, 112]⟩ : ByteArray)]) (ok := fun _ => True) (okp := fun _ => True) ?hr ?hp (fun _ hk => hk) trivial (Below.refl _ _) (Nat.le_refl _) (by simp) ?_; (case hd => rfl); (case hg => rfl); (case hr => first | (go_simp; done) | (go_simp; rfl)); (case hp => exact (Reps.one (show Kd.M Kd.string _ _ _ (⟨#[111, 112, 101, 110]⟩ : ByteArray) [.string (⟨#[111, 112, 101, 110]⟩ : ByteArray)] from rfl) (Reps.one (show Kd.M Kd.string _ _ _ (⟨#[112, 97, 115, 115]⟩ : ByteArray) [.string (⟨#[112, 97, 115, 115]⟩ : ByteArray)] from rfl) (Reps.one (show Kd.M Kd.string _ _ _ (⟨#[114, 101, 106, 101, 99, 116]⟩ : ByteArray) [.string (⟨#[114, 101, 106, 101, 99, 116]⟩ : ByteArray)] from rfl) (Reps.one (show Kd.M Kd.string _ _ _ (⟨#[99, 111, 110, 99, 101, 100, 101]⟩ : ByteArray) [.string (⟨#[99, 111, 110, 99, 101, 100, 101]⟩ : ByteArray)] from rfl) (Reps.one (show Kd.M Kd.string _ _ _ (⟨#[115, 99, 114, 97, 112]⟩ : ByteArray) [.string (⟨#[115, 99, 114, 97, 112]⟩ : ByteArray)] from rfl) (Reps.one (show Kd.M Kd.string _ _ _ (⟨#[99, 108, 111, 115, 101]⟩ : ByteArray) [.string (⟨#[99, 108, 111, 115, 101]⟩ : ByteArray)] from rfl) (Reps.one (show Kd.M Kd.string _ _ _ (⟨#[115, 104, 105, 112]⟩ : ByteArray) [.string (⟨#[115, 104, 105, 112]⟩ : ByteArray)] from rfl) (Reps.none _ _))))))))); intro v471 w1 ho2 hb hg_ hnew_; clear hg_ hnew_; (first | rw [← Ny470.out] at ho2 | (simp only [Int.reduceToNat] at ho2; rw [← Ny470.out] at ho2)); have n0_ := Aside0.mk (Kd.R_lower ho2 (below_size (by repeat (first | (with_reducible first | exact HB.out | apply below_alloc | apply pw_below_drewN | apply below_drew1) | exact HB.out)))); have n1_ := Aside0.mk (below_step (by repeat (first | (with_reducible first | exact HB.out | apply below_alloc | apply pw_below_drewN | apply below_drew1) | exact HB.out)) hb); clear HB; have HO472 := n0_; have HB := n1_; clear n0_ n1_; clear hb ho2))
  go_ret
  exact ⟨_, by first | rfl | (simp [errW_none, errW_some] <;> rfl) | (simp [*, errW_none, errW_some] <;> rfl), by (with_reducible repeat (first | apply Kd.R_alloc | apply Kd.R_drewN | apply Kd.R_drew)); exact HO472.out, by repeat (first | (with_reducible first | exact HB.out | apply below_alloc | apply pw_below_drewN | apply below_drew1) | exact HB.out)⟩
end Go.Proofs.YtdgipencedlbmaaGreatDoor.Pr
namespace Go.Proofs.YtdgipencedlbmaaGreatDoor.Pr
set_option linter.unusedVariables false
set_option linter.unusedSimpArgs false
open Go.RowKit Go.Proofs.YtdgipencedlbmaaGreatDoorW.PrintWords Go.Proofs.YtdgipencedlbmaaGreatDoorW.PrintLast Go.Proofs.YtdgipencedlbmaaGreatDoorW.PrintMore Go.Proofs.YtdgipencedlbmaaGreatDoor.Hand
end Go.Proofs.YtdgipencedlbmaaGreatDoor.Pr
