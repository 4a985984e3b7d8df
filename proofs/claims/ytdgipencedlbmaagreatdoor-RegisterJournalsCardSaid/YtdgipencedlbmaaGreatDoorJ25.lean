/- The reference's checksums, lines and journals. Journals: the reference's Journal and the program's answer as journalS says. -/
import Derived.Test.YtdgipencedlbmaaGreatDoorJ24
import Derived.Test.YtdgipencedlbmaaGreatDoorT21
import Derived.Test.YtdgipencedlbmaaGreatDoorJ23
namespace Go.Proofs.YtdgipencedlbmaaGreatDoor.Pr
set_option linter.unusedVariables false
set_option linter.unusedSimpArgs false
open Go.RowKit Go.Proofs.YtdgipencedlbmaaGreatDoorW.PrintWords Go.Proofs.YtdgipencedlbmaaGreatDoorW.PrintLast Go.Proofs.YtdgipencedlbmaaGreatDoorW.PrintMore Go.Proofs.YtdgipencedlbmaaGreatDoor.Hand

set_option maxHeartbeats 2000000 in
set_option maxRecDepth 100000 in
theorem rSum_calls (a : Int) (s : ByteArray) (w : World) (hs : s.size ≤ 9223372036854775806) : Calls Tryz.prog 38 #[.int .i64 a, .string s] w fun e w' => e = .returned (.int .i64 (sumS a s.data.toList)) ∧ w = w' := by
  obtain ⟨x0, hx0⟩ : ∃ x0, x0 = a % 1000003 := ⟨_, rfl⟩
  have hr0 : 0 ≤ x0 ∧ x0 < 1000003 := by omega
  have HX0 := Lib.hid hx0
  have HR0 := Lib.hid hr0
  obtain ⟨t, ht⟩ : ∃ t, a.tmod 1000003 = t := ⟨_, rfl⟩
  have htr : -1000003 < t ∧ t < 1000003 ∧ (t < 0 → t + 1000003 = x0) ∧ (0 ≤ t → t = x0) := by
    rw [← ht, hx0]; exact tmod_facts a
  have hw : IntKind.i64.wrap t = t := by rw [IntKind.wrap_i64]; omega
  obtain ⟨t1, t2, t3, t4⟩ := htr
  clear hx0
  have hor : (decide (t < 0) = true ∧ IntKind.i64.wrap (t + 1000003) = t + 1000003 ∧ wrap64 (t + 1000003) = t + 1000003 ∧ t + 1000003 = x0) ∨ (decide (t < 0) = false ∧ 0 ≤ t ∧ True ∧ t = x0) := by
    by_cases h : t < 0
    · exact Or.inl ⟨decide_eq_true h, by rw [IntKind.wrap_i64]; omega, by unfold wrap64; omega, t3 h⟩
    · exact Or.inr ⟨decide_eq_false h, by omega, trivial, t4 (by omega)⟩
  clear t3 t4
  rcases hor with ⟨d1, e1, e2, e3⟩ | ⟨d1, hn, _, e3⟩
  all_goals
    have E3 := Lib.hid e3
    clear e3
    go_enter Tryz.func38, Tryz.ntmps38
    go_wp2
    go_loop [5, 6] (fun h i => ∃ (k : Nat) (x : Int), k ≤ s.size ∧ i = .int .i64 k ∧ h = .int .i64 x ∧ (0 ≤ x ∧ x < 1000003) ∧ Hid ((s.data.toList.take k).foldl stepS x0 = x)) (fun _ i => s.size - (intOf i).toNat)
    case atStart => exact ⟨0, x0, Nat.zero_le _, rfl, by rw [← E3.out], HR0.out, rfl⟩
    case round =>
      obtain ⟨k, x, hk, rfl, rfl, ⟨hx1, hx2⟩, hsum⟩ := hrel
      by_cases hlt : k < s.size
      · have HLT := Lib.hid hlt
        have hub := s[k].toNat_lt
        have hst := Lib.hid (show (s.data.toList.take (k + 1)).foldl stepS x0 = stepS x s[k] by rw [sum_loop_step s k hlt, hsum.out]; rfl)
        go_wp2
        go_round
        case rel => exact ⟨k + 1, _, HLT.out, by go_num, rfl, by omega, by
          show _ = _
          rw [hst.out]; rfl⟩
        case measure => have := HLT.out; simp [intOf]; omega
      · have hke : k = s.size := by omega
        have HK := Lib.hid hke
        have hge : ¬ k < s.size := hlt
        clear hke
        go_wp2
        go_ret
        refine ⟨sum_ret ?_, rfl⟩
        unfold sumS
        rw [← HX0.out, ← hsum.out, List.take_of_length_le (by rw [HK.out]; simp)]
theorem bytesA_size' (a : List UInt8) : (bytesA a).size = a.length := by simp [bytesA, ByteArray.size]
/-- The line of a text behind a checksum. -/
def lineT (h : Int) (s : List UInt8) : List UInt8 := Lib.itoa (sumS h s) ++ 32 :: (s ++ [10])
theorem lineT_is (h : Int) (x : S24) : lineL h x = lineT h (textE x) := rfl
theorem itoa_len7 {n : Int} (h : 0 ≤ n ∧ n < 1000003) : (Lib.itoa n).length ≤ 7 := by
  rw [itoa_pos h.1]; exact dec_len (d := 6) (by omega)
set_option maxHeartbeats 1000000 in
set_option maxRecDepth 100000 in
theorem rLine_calls (h : Int) (s : ByteArray) (w : World) (hs : s.size ≤ 9223372036854775700) :
    Calls Tryz.prog 106 #[.int .i64 h, .string s] w fun e w' => e = .returned (.tuple #[.string (bytesA (lineT h s.data.toList)), .int .i64 (sumS h s.data.toList)]) ∧ ∃ k, w' = w.drewN k := by
  have hr := sumS_range h s.data.toList
  have HS := Lib.hid (rSum_calls h s w (by omega))
  obtain ⟨m, hm⟩ : ∃ m : Nat, sumS h s.data.toList = (m : Int) := ⟨(sumS h s.data.toList).toNat, by omega⟩
  have hm2 : m < 10000000000 := by omega
  have hmz : (decA m).size ≤ 7 := decA_size (d := 6) (by omega)
  have HD := Lib.hid (rdig_calls m hm2)
  have z1 : ¬ 9223372036854775807 < (decA m).size + 1 := by omega
  have z2 : ¬ 9223372036854775807 < (decA m).size + 1 + s.size := by omega
  have z3 : ¬ 9223372036854775807 < (decA m).size + 1 + s.size + 1 := by omega
  have HR := Lib.hid (show decA m ++ ⟨#[32]⟩ ++ s ++ ⟨#[10]⟩ = bytesA (lineT h s.data.toList) from by
    apply data_inj.1
    unfold lineT
    rw [hm, itoa_pos (by omega)]
    simp [bytesA, decA, ByteArray.data_append])
  rw [hm] at HS ⊢
  clear hr hm hm2
  go_enter Tryz.func106, Tryz.ntmps106
  go_wp2_with (first
    | (go_at_call 38; (with_reducible refine HS.out.mono ?_); rintro e w1 ⟨rfl, rfl⟩)
    | (go_at_call 107; (with_reducible refine (HD.out w).mono ?_); rintro e w2 ⟨rfl, q, rfl⟩))
  go_ret2
  exact ⟨by rw [← HR.out]; rfl, q, rfl⟩
theorem linesL_len : ∀ {l : List S24} (h : Int), (∀ x ∈ l, rightE x = 0) → (linesL h l).length ≤ 49 * l.length
  | [], h, _ => Nat.le_refl _
  | x :: l, h, hr => by
    have ih := linesL_len (l := l) (sumS h (textE x)) (fun y hy => hr y (by simp [hy]))
    have h1 := (textE_len (hr x (by simp))).2
    have h2 := itoa_len7 (sumS_range h (textE x))
    show (lineL h x ++ linesL _ l).length ≤ _
    unfold lineL
    simp only [List.length_append, List.length_cons, List.length_nil] at *
    omega
/-- The first lines, and the checksum behind them. -/
theorem linesL_snoc (h : Int) (l : List S24) (x : S24) : linesL h (l ++ [x]) = linesL h l ++ lineL (sumsL h l) x ∧ sumsL h (l ++ [x]) = sumS (sumsL h l) (textE x) := by
  rw [linesL_app, sumsL_app]
  exact ⟨by show _ ++ (lineL _ x ++ []) = _; rw [List.append_nil], rfl⟩
set_option maxHeartbeats 2000000 in
set_option maxRecDepth 100000 in
theorem rLined_calls (A0 : Option Addr) (c0 : Nat) (l : List S24) (w : World) (hr0 : Kd.C k24 w A0 l.length l) (hc0 : l.length ≤ c0) (hm : l.length ≤ 4096) (hr : ∀ x ∈ l, rightE x = 0) :
    Calls Tryz.prog 63 #[.slice A0 l.length c0] w fun e w' => e = .returned (.string (bytesA (linesL 1 l))) ∧ Below w.heap.size w w' := by
  have HR := Lib.hid hr0
  have HC := Lib.hid hc0
  have HRI := Lib.hid hr
  clear hr0 hc0 hr
  go_enter Tryz.func63, Tryz.ntmps63
  go_wp2
  go_loopw [3, 4, 6] (fun s h i wr => ∃ (k : Nat) (t : ByteArray) (x : Int), k ≤ l.length ∧ i = .int .i64 k ∧ s = .string t ∧ h = .int .i64 x ∧ Hid (t = bytesA (linesL 1 (l.take k))) ∧ Hid (sumsL 1 (l.take k) = x) ∧ Hid (Below w.heap.size w wr)) (fun _ _ i _ => l.length - (intOf i).toNat)
  case atStart => exact ⟨0, ⟨#[]⟩, 1, by omega, rfl, rfl, rfl, rfl, rfl, Below.refl _ _⟩
  case round =>
    obtain ⟨k, t, x, hk, rfl, rfl, rfl, HT, HX, HB⟩ := hrel
    by_cases hlt : k < l.length
    · have HLT := Lib.hid hlt
      obtain ⟨y, hy⟩ : ∃ y, y = l.getD k z24 := ⟨_, rfl⟩
      obtain ⟨ad, rfl, q0, q1, q2, had⟩ := entry_row HR.out HB.out k hlt
      rw [← hy] at q0 q1 q2
      have hmem : y ∈ l := by rw [hy, List.getD, List.getElem?_eq_getElem hlt]; exact List.getElem_mem _
      have hyr := HRI.out y hmem
      obtain ⟨h0, h7, _⟩ := rightErr_zero hyr
      obtain ⟨kk, hkk⟩ : ∃ kk : Nat, y.f0 = (kk : Int) := ⟨y.f0.toNat, by omega⟩
      have hst : l.take (k + 1) = l.take k ++ [y] := by rw [List.take_succ_eq_append_getElem hlt, hy, List.getD, List.getElem?_eq_getElem hlt]; rfl
      have HN := Lib.hid (show linesL 1 (l.take (k + 1)) = linesL 1 (l.take k) ++ lineT x (textE y) by rw [hst, (linesL_snoc _ _ _).1, HX.out]; rfl)
      have HN2 := Lib.hid (show sumsL 1 (l.take (k + 1)) = sumS x (textE y) by rw [hst, (linesL_snoc _ _ _).2, HX.out])
      have htl := textE_len hyr
      have htz : t.size ≤ 49 * 4096 := by
        rw [HT.out, bytesA_size']
        have := linesL_len (l := l.take k) 1 (fun z hz => HRI.out z (List.mem_of_mem_take hz))
        rw [List.length_take] at this
        omega
      obtain ⟨te, hte⟩ : ∃ te, textE y = te := ⟨_, rfl⟩
      have HW := Lib.hid (show ∀ w : World, Calls Tryz.prog 64 #[.agg #[.int .i64 y.f0, .string y.f1, .int .i64 y.f2]] w fun e w' => e = .returned (.string (bytesA te)) ∧ Below w.heap.size w w' from by
        intro w
        have := rwritten_calls kk y.f1 y.f2 w (by rw [← hkk]; exact hyr)
        rw [← hkk] at this
        rw [← hte]
        exact this)
      rw [hte] at HN HN2 htl
      have ed : (bytesA te).data.toList = te := by simp [bytesA]
      have ez : (bytesA te).size = te.length := bytesA_size' te
      have HLI := Lib.hid (show ∀ w : World, Calls Tryz.prog 106 #[.int .i64 x, .string (bytesA te)] w fun e w' => e = .returned (.tuple #[.string (bytesA (lineT x te)), .int .i64 (sumS x te)]) ∧ ∃ k, w' = w.drewN k from by
        intro w
        have := rLine_calls x (bytesA te) w (by omega)
        rwa [ed] at this)
      have hlz : (bytesA (lineT x te)).size ≤ 49 := by
        rw [bytesA_size']
        have := itoa_len7 (sumS_range x te)
        unfold lineT
        simp only [List.length_append, List.length_cons, List.length_nil]
        omega
      have z1 : ¬ 9223372036854775807 < t.size + (bytesA (lineT x te)).size := by omega
      clear hy hmem hyr h0 h7 hkk hst htl hte ed ez
      go_wp2_with (first
        | (go_at_call 64; (with_reducible refine (HW.out wr).mono ?_); rintro e w2 ⟨rfl, hB2⟩; have HB2 := Lib.hid (below_then HB.out hB2); clear hB2)
        | (go_at_call 106; (with_reducible refine (HLI.out w2).mono ?_); rintro e w3 ⟨rfl, q, rfl⟩))
      go_roundw
      case rel => exact ⟨k + 1, _, _, HLT.out, by go_num, rfl, rfl, by
        show _ = _
        rw [HN.out, HT.out, bytesA_app'], HN2.out, pw_below_drewN HB2.out _⟩
      case measure => have := HLT.out; simp [intOf]; omega
    · have hke : k = l.length := by omega
      have HK := Lib.hid (show l.take k = l from List.take_of_length_le (by omega))
      clear hke
      go_wp2
      go_ret
      rw [HK.out] at HT
      exact ⟨by rw [← HT.out]; rfl, HB.out⟩
end Go.Proofs.YtdgipencedlbmaaGreatDoor.Pr
namespace Go.Proofs.YtdgipencedlbmaaGreatDoor.Pr
set_option linter.unusedVariables false
set_option linter.unusedSimpArgs false
open Go.RowKit Go.Proofs.YtdgipencedlbmaaGreatDoorW.PrintWords Go.Proofs.YtdgipencedlbmaaGreatDoorW.PrintLast Go.Proofs.YtdgipencedlbmaaGreatDoorW.PrintMore Go.Proofs.YtdgipencedlbmaaGreatDoor.Hand

/-- What Journal answers. -/
def journalS (l : List S24) : ByteArray × Int := if (allS l).2.2 ≠ 0 then (⟨#[]⟩, (allS l).2.2) else (bytesA (linesL 1 l), 0)
theorem allS_ok {l : List S24} (h : (allS l).2.2 = 0) : l.length ≤ 4096 ∧ ∃ o, runS [] l = some o ∧ allS l = (o, 0, 0) := by
  unfold allS at h ⊢
  split at h
  · cases h
  · rename_i hl
    rw [if_neg hl]
    refine ⟨by omega, (allFrom [] 0 l).1, ?_⟩
    have e : allFrom [] 0 l = ((allFrom [] 0 l).1, (allFrom [] 0 l).2.1, 0) := by rw [← h]
    have hr := all_run (i := 0) (Or.inr ⟨_, e⟩)
    exact ⟨hr, run_all hr⟩
theorem allS_right {l : List S24} (h : (allS l).2.2 = 0) : ∀ x ∈ l, rightE x = 0 := by
  obtain ⟨_, o, hr, _⟩ := allS_ok h
  exact run_right hr
theorem journal_len {l : List S24} (h : (allS l).2.2 = 0) : (bytesA (linesL 1 l)).size ≤ 200704 := by
  rw [bytesA_size']
  have := linesL_len 1 (allS_right h)
  have := (allS_ok h).1
  omega
set_option maxHeartbeats 1000000 in
set_option maxRecDepth 100000 in
theorem rJournal_calls (A0 : Option Addr) (c0 : Nat) (l : List S24) (w : World) (hr0 : Kd.C k24 w A0 l.length l) (hc0 : l.length ≤ c0) (u : ByteArray × Int) (hu : journalS l = u) :
    Calls Tryz.prog 32 #[.slice A0 l.length c0] w fun e w' => e = .returned (.tuple #[.string u.1, .int .i64 u.2]) ∧ Below w.heap.size w w' := by
  have HR := Lib.hid hr0
  have HC := Lib.hid hc0
  obtain ⟨a, ha⟩ : ∃ a, allS l = a := ⟨_, rfl⟩
  have HA := Lib.hid ha
  unfold journalS at hu
  rw [ha] at hu
  clear hr0 hc0
  by_cases h : a.2.2 = 0
  · rw [if_neg (by simpa using h)] at hu
    have d1 : (a.2.2 != 0) = false := bne_eq_false_iff_eq.mpr h
    have h0 : (allS l).2.2 = 0 := by rw [ha]; exact h
    have HM := Lib.hid (allS_ok h0).1
    have HRI := Lib.hid (allS_right h0)
    have hz := journal_len h0
    obtain ⟨t, ht⟩ : ∃ t, bytesA (linesL 1 l) = t := ⟨_, rfl⟩
    have HT := Lib.hid ht
    rw [ht] at hz hu
    have d2 : decide (262144 < (t.size : Int)) = false := decide_eq_false (by omega)
    have d3 : decide (262144 < t.size) = false := decide_eq_false (by omega)
    subst hu
    clear ha h h0 ht hz
    go_enter Tryz.func32, Tryz.ntmps32
    go_wp2_with (first
      | (go_at_call 26; (with_reducible refine (rAll_calls A0 c0 l w HR.out HC.out a HA.out).mono ?_); rintro e w2 ⟨v2, rfl, hR2, hB2⟩; have HB2 := Lib.hid hB2; clear hR2 hB2)
      | (go_at_call 63; (with_reducible refine (rLined_calls A0 c0 l w2 (Kd.C_below HR.out HB2.out) HC.out HM.out HRI.out).mono ?_); rw [HT.out]; rintro e w3 ⟨rfl, hB3⟩; have HB3 := Lib.hid (below_then HB2.out hB3); clear hB3))
    go_ret2
    exact ⟨rfl, HB3.out⟩
  · rw [if_pos h] at hu
    have d1 : (a.2.2 != 0) = true := bne_iff_ne.mpr h
    subst hu
    clear ha h
    go_enter Tryz.func32, Tryz.ntmps32
    go_wp2_with (first
      | (go_at_call 26; (with_reducible refine (rAll_calls A0 c0 l w HR.out HC.out a HA.out).mono ?_); rintro e w2 ⟨v2, rfl, hR2, hB2⟩; have HB2 := Lib.hid hB2; clear hR2 hB2))
    go_ret2
    exact ⟨rfl, HB2.out⟩
/-! the program's -/
theorem bld_keep {w w' : World} {B b : Nat} {bs : List Value} (h : Lib.IsBuilder 102 5 B b bs w) (hB : Below w.heap.size w w') : Lib.IsBuilder 102 5 B b bs w' := by
  have key : ∀ p, Lib.BuilderAt 102 5 B b p bs w → Lib.BuilderAt 102 5 B b p bs w' := by
    rintro p ⟨hBb, v, hb, hown, hne⟩
    refine ⟨hBb, v, below_keeps hB (blk_lt hb) hb, hown.kept (row := none) ⟨hB.os, hB.tape, hB.output, hB.size, fun k hk _ => hB.block k hk⟩ ?_, hne⟩
    cases v.ownBlock with
    | none => exact Or.inl rfl
    | some k => exact Or.inr (by simp)
  rcases h with h | h
  · exact Or.inl (key _ h)
  · exact Or.inr (key _ h)
theorem strCells_bytes (l : List UInt8) : Lib.strCells (bytesA l) = Lib.byteCells l := by unfold Lib.strCells Lib.byteCells; simp [bytesA]
theorem byteCells_app (a b : List UInt8) : Lib.byteCells a ++ Lib.byteCells b = Lib.byteCells (a ++ b) := by unfold Lib.byteCells; rw [List.map_append]
theorem zero102 (w : World) : (zeroValue 102).run Tryz.prog w = .ok (.agg #[.pointer none, .slice none 0 0]) w := by kernel_rfl
theorem below_lower {A B : Nat} {w w' : World} (h : Below B w w') (hA : A ≤ B) : Below A w w' := h.mono hA
theorem below_then' {w wr w8 w9 : World} {b : Nat} (h : Below w.heap.size w wr) (h8 : Below wr.heap.size wr w8) (h9 : Below b w8 w9) (hb : w.heap.size ≤ b) (hs : b ≤ wr.heap.size) : Below w.heap.size w w9 :=
  (below_then h h8).trans (h9.mono hb)
theorem below_join {w wr w5 : World} {b : Nat} (h : Below w.heap.size w wr) (h5 : Below b wr w5) (hb : w.heap.size ≤ b) : Below w.heap.size w w5 := h.trans (h5.mono hb)
set_option maxHeartbeats 4000000 in
set_option maxRecDepth 100000 in
theorem Journal_ok (A0 : Option Addr) (c0 : Nat) (l : List S24) (w : World) (hG : GOOD w) (hr0 : Kd.C k24 w A0 l.length l) (hc0 : l.length ≤ c0) (a : List S57 × Int × Int) (ha : allS l = a) (h : a.2.2 = 0) :
    Calls Tryz.prog 31 #[.slice A0 l.length c0] w fun e w' => e = .returned (.tuple #[.string (bytesA (linesL 1 l)), .int .i64 0]) ∧ Below w.heap.size w w' := by
  have HR := Lib.hid hr0
  have HC := Lib.hid hc0
  have HA := Lib.hid ha
  have d1 : (a.2.2 != 0) = false := bne_eq_false_iff_eq.mpr h
  have h0 : (allS l).2.2 = 0 := by rw [ha]; exact h
  have hm := (allS_ok h0).1
  have HM := Lib.hid hm
  have HRI := Lib.hid (allS_right h0)
  have hz := journal_len h0
  obtain ⟨t, ht⟩ : ∃ t, bytesA (linesL 1 l) = t := ⟨_, rfl⟩
  have HT := Lib.hid ht
  have hll : (linesL 1 l).length ≤ 200704 := by rw [bytesA_size'] at hz; exact hz
  have d2 : decide (262144 < (((linesL 1 l).length : Nat) : Int)) = false := decide_eq_false (by omega)
  have HLL := Lib.hid hll
  clear hr0 hc0 ha h h0 ht hz hll
  go_enter Tryz.func31, Tryz.ntmps31
  go_wp2_with (first
    | (go_at_call 25; (with_reducible refine (All_calls A0 c0 l w HR.out HC.out a HA.out).mono ?_); rintro e w2 ⟨v2, rfl, hR2, hB2⟩; have HB2 := Lib.hid hB2; clear hR2 hB2))
  have hI := Lib.fresh_isBuilder 102 5 w2
  have hB3 := Below.alloc HB2.out HB2.out.size (.cells #[.pointer none, .slice none 0 0] 102)
  have hbw := HB2.out.size
  obtain ⟨b, hb⟩ : ∃ b, w2.heap.size = b := ⟨_, rfl⟩
  obtain ⟨w3, hw3⟩ : ∃ w3, w2.alloc (.cells #[.pointer none, .slice none 0 0] 102) = w3 := ⟨_, rfl⟩
  have hs3 : b ≤ w3.heap.size := by rw [← hw3, ← hb]; simp
  rw [hb, hw3] at hI ⊢
  rw [hw3] at hB3
  rw [hb] at hbw
  have HI3 := Lib.hid hI
  have HB3 := Lib.hid hB3
  have HBW := Lib.hid hbw
  have HS3 := Lib.hid hs3
  clear hI hB3 hbw hb hw3 hs3
  go_loopw [8, 24] (fun s i wr => ∃ (k : Nat) (x : Int), k ≤ l.length ∧ i = .int .i64 k ∧ s = .int .i64 x ∧ Hid (sumsL 1 (l.take k) = x) ∧ Hid (Lib.IsBuilder 102 5 b b (Lib.byteCells (linesL 1 (l.take k))) wr) ∧ Hid (Below w.heap.size w wr) ∧ Hid (b ≤ wr.heap.size)) (fun _ i _ => l.length - (intOf i).toNat)
  case atStart => exact ⟨0, 1, by omega, rfl, rfl, rfl, HI3.out, HB3.out, HS3.out⟩
  case round =>
    obtain ⟨k, x, hk, rfl, rfl, HX, HI, HB, HS⟩ := hrel
    by_cases hlt : k < l.length
    · have HLT := Lib.hid hlt
      obtain ⟨y, hy⟩ : ∃ y, y = l.getD k z24 := ⟨_, rfl⟩
      obtain ⟨ad, rfl, q0, q1, q2, had⟩ := entry_row HR.out HB.out k hlt
      rw [← hy] at q0 q1 q2
      have hmem : y ∈ l := by rw [hy, List.getD, List.getElem?_eq_getElem hlt]; exact List.getElem_mem _
      have hyr := HRI.out y hmem
      have hst : l.take (k + 1) = l.take k ++ [y] := by rw [List.take_succ_eq_append_getElem hlt, hy, List.getD, List.getElem?_eq_getElem hlt]; rfl
      have HN := Lib.hid (show linesL 1 (l.take (k + 1)) = linesL 1 (l.take k) ++ lineT x (textE y) by rw [hst, (linesL_snoc _ _ _).1, HX.out]; rfl)
      have HN2 := Lib.hid (show sumsL 1 (l.take (k + 1)) = sumS x (textE y) by rw [hst, (linesL_snoc _ _ _).2, HX.out])
      have htl := textE_len hyr
      have hll2 : (linesL 1 (l.take k)).length ≤ 200704 := by
        have := linesL_len (l := l.take k) 1 (fun z hz => HRI.out z (List.mem_of_mem_take hz))
        rw [List.length_take] at this
        have := HM.out
        omega
      have htx : textS y.f0 y.f1 y.f2 = (bytesA (textE y), 0) := by
        unfold textS
        have hyr' : rightErr y.f0 y.f1 y.f2 = 0 := hyr
        rw [if_neg (by simpa using hyr')]; rfl
      obtain ⟨te, hte⟩ : ∃ te, textE y = te := ⟨_, rfl⟩
      rw [hte] at HN HN2 htl htx
      have ed : (bytesA te).data.toList = te := by simp [bytesA]
      have ez : (bytesA te).size = te.length := bytesA_size' te
      have HTX := Lib.hid (fun (w : World) (hG : GOOD w) => Text_is y.f0 y.f1 y.f2 _ htx w hG)
      have HSU := Lib.hid (show ∀ w : World, Calls Tryz.prog 37 #[.int .i64 x, .string (bytesA te)] w fun e w' => e = .returned (.int .i64 (sumS x te)) ∧ Below w.heap.size w w' from by
        intro w
        have := Sum_calls x (bytesA te) w (by omega)
        rwa [ed] at this)
      have hsr := sumS_range x te
      obtain ⟨m, hmm⟩ : ∃ m, sumS x te = m := ⟨_, rfl⟩
      rw [hmm] at HSU HN2 hsr
      have HIT := Lib.hid (fun (w : World) (hG : GOOD w) => itoa_calls m (by omega) (by omega) w hG)
      have hiz : (bytesA (Lib.itoa m)).size ≤ 7 := by rw [bytesA_size']; exact itoa_len7 hsr
      obtain ⟨ti, hti⟩ : ∃ ti, bytesA te = ti := ⟨_, rfl⟩
      obtain ⟨im, him⟩ : ∃ im, bytesA (Lib.itoa m) = im := ⟨_, rfl⟩
      have hline : im ++ ⟨#[32]⟩ ++ ti ++ ⟨#[10]⟩ = bytesA (lineT x te) := by
        apply data_inj.1
        unfold lineT
        rw [hmm, ← him, ← hti]
        simp [bytesA, ByteArray.data_append]
      rw [hti] at HTX HSU ez
      rw [him] at HIT hiz
      have z1 : ¬ 9223372036854775807 < im.size + 1 := by omega
      have z2 : ¬ 9223372036854775807 < im.size + 1 + ti.size := by omega
      have z3 : ¬ 9223372036854775807 < im.size + 1 + ti.size + 1 := by omega
      have HLINE := Lib.hid hline
      have HLZ := Lib.hid (show (Lib.byteCells (linesL 1 (l.take k))).length + (bytesA (lineT x te)).size ≤ 140737488355328 by
        rw [Lib.byteCells_length, ← hline]
        simp only [ByteArray.size_append]
        have e1 : (⟨#[32]⟩ : ByteArray).size = 1 := rfl
        have e2 : (⟨#[10]⟩ : ByteArray).size = 1 := rfl
        omega)
      have e0 : ((0 : Int) != 0) = false := rfl
      clear hy hmem hyr hst htl hll2 htx hte ed hmm hti him hline hsr ez
      go_wp2_with (first
        | ((with_reducible refine alloc_event rfl 24 rfl (.agg (cellsE z24)) zero24 ?_); intro q hq w4 hq4 hB4 hs4; have HQ4 := Lib.hid hq4; have HQL := Lib.hid (show wr.heap.size ≤ q by rw [hq]; exact Nat.le_refl _); have HB4 := Lib.hid hB4; clear hq hq4 hB4 hs4)
        | ((with_reducible refine store_row_event rfl 24 _ _ rfl q (cellsE y) ?hx ?hy 24 (cellsE z24) ?hg ?hi ?ho ?h1 ?_); (case hg => exact HQ4.out); (case ho => rfl); (case hx => (go_simp; done)); (case hy => (unfold cellsE; go_simp; done)); (case hi => exact info24s _); (case h1 => exact cellsE_one _); intro w5 hq5 hB5 hs5; have HB5 := Lib.hid (hB5.below HB4.out HQL.out HB4.out.size); obtain ⟨k0, k1, k2⟩ := entry_cells3 hq5; clear hq5 hB5 hs5)
        | (go_at_call 33; (with_reducible refine (HTX.out w5 (hG.below (below_then HB.out HB5.out))).mono ?_); rintro e w6 ⟨rfl, hB6⟩; have HB6 := Lib.hid (below_then HB5.out hB6); clear hB6)
        | (go_at_call 37; (with_reducible refine (HSU.out w6).mono ?_); rintro e w7 ⟨rfl, hB7⟩; have HB7 := Lib.hid (below_then HB6.out hB7); clear hB7)
        | (go_at_call 60; (with_reducible refine (HIT.out w7 (hG.below (below_then HB.out HB7.out))).mono ?_); rintro e w8 ⟨rfl, hB8⟩; have HB8 := Lib.hid (below_then HB7.out hB8); clear hB8)
        | (go_at_call 59; rw [HLINE.out]; (with_reducible refine (write_calls b b _ _ w8 (bld_keep HI.out HB8.out) HLZ.out (Nat.le_trans HS.out HB8.out.size)).mono ?_); rintro e w9 ⟨rfl, hI9, hB9⟩; have HI9 := Lib.hid hI9; have HB9 := Lib.hid hB9; clear hI9 hB9))
      go_roundw
      case rel => exact ⟨k + 1, m, HLT.out, by go_num, rfl, HN2.out, by
        show Lib.IsBuilder _ _ _ _ _ _
        rw [HN.out, ← byteCells_app, ← strCells_bytes (lineT x te)]
        exact Or.inr HI9.out, below_then' HB.out HB8.out HB9.out HBW.out HS.out, Nat.le_trans (Nat.le_trans HS.out HB8.out.size) HB9.out.size⟩
      case measure => have := HLT.out; simp [intOf]; omega
    · have hke : k = l.length := by omega
      have HK := Lib.hid (show l.take k = l from List.take_of_length_le (by omega))
      rw [HK.out] at HI
      have hbl : (Lib.byteCells (linesL 1 l)).length = (linesL 1 l).length := Lib.byteCells_length _
      have HLEN := Lib.hid (show Calls Tryz.prog 61 #[.pointer (some ⟨b, 0, none⟩)] wr fun e w' => e = .returned (.int .i64 ((linesL 1 l).length : Nat)) ∧ w' = wr from by
        have := Tryz.Builder_Len b b _ wr HI.out
        rwa [hbl] at this)
      clear hke hbl
      go_wp2_with (first
        | (go_at_call 61; (with_reducible refine HLEN.out.mono ?_); rintro e w4 ⟨rfl, hw4⟩; subst hw4)
        | (go_at_call 62; (with_reducible refine (Tryz.Builder_String_any b b _ _ HI.out HS.out).mono ?_); rintro e w5 ⟨rfl, hB5⟩; have HB5 := Lib.hid hB5; clear hB5))
      go_ret2
      exact ⟨rfl, below_join HB.out HB5.out HBW.out⟩
theorem Journal_calls (A0 : Option Addr) (c0 : Nat) (l : List S24) (w : World) (hG : GOOD w) (hr0 : Kd.C k24 w A0 l.length l) (hc0 : l.length ≤ c0) (u : ByteArray × Int) (hu : journalS l = u) :
    Calls Tryz.prog 31 #[.slice A0 l.length c0] w fun e w' => e = .returned (.tuple #[.string u.1, .int .i64 u.2]) ∧ Below w.heap.size w w' := by
  unfold journalS at hu
  by_cases h : (allS l).2.2 = 0
  · rw [if_neg (by simpa using h)] at hu
    subst hu
    exact Journal_ok A0 c0 l w hG hr0 hc0 _ rfl h
  · rw [if_pos h] at hu
    subst hu
    obtain ⟨a, ha⟩ : ∃ a, allS l = a := ⟨_, rfl⟩
    have HR := Lib.hid hr0
    have HC := Lib.hid hc0
    have HA := Lib.hid ha
    rw [ha] at h ⊢
    have d1 : (a.2.2 != 0) = true := bne_iff_ne.mpr h
    clear hr0 hc0 ha h
    go_enter Tryz.func31, Tryz.ntmps31
    go_wp2_with (first
      | (go_at_call 25; (with_reducible refine (All_calls A0 c0 l w HR.out HC.out a HA.out).mono ?_); rintro e w2 ⟨v2, rfl, hR2, hB2⟩; have HB2 := Lib.hid hB2; clear hR2 hB2))
    go_ret2
    exact ⟨rfl, HB2.out⟩
end Go.Proofs.YtdgipencedlbmaaGreatDoor.Pr
