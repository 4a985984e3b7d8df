/- The contract of register.find: the binary search by names. Laws of builtin copy at elements of several cells, of append of zeros that grows, and of slices.overlaps, told by whole blocks. The contract -/
import Derived.Test.YtdgipencedlbmaaGreatDoorZD03
import Derived.Test.YtdgipencedlbmaaGreatDoorZD04
import Derived.Test.YtdgipencedlbmaaGreatDoorZD02
import Derived.Laws.CopyOwn
import Derived.Laws.CopyRow
import Derived.Lib.Overlaps
import Derived.Deep.RegionLaw
import Derived.Laws.AppendOwn
namespace Go.Proofs.YtdgipencedlbmaaGreatDoor.Pr
set_option linter.unusedVariables false
set_option linter.unusedSimpArgs false
open Go.RowKit Go.Proofs.YtdgipencedlbmaaGreatDoorW.PrintWords Go.Proofs.YtdgipencedlbmaaGreatDoor.Hand
set_option maxHeartbeats 1000000 in
set_option maxRecDepth 100000 in
theorem findcmp_calls (x : S57) (s : ByteArray) (w : World) :
    Calls Tryz.prog 98 #[.agg #[.string x.f0, .int .i64 x.f1, .int .i64 x.f2, .int .i64 x.f3, .int .i64 x.f4, .int .i64 x.f5, .int .i64 x.f6], .string s] w fun e w' => e = .returned (.int .i64 (Lib.compareBytes x.f0.data.toList s.data.toList)) ∧ Below w.heap.size w w' := by
  go_enter Tryz.func98, Tryz.ntmps98
  go_wp2_with (go_at_call 99; refine (Tryz.strings_Compare _ _ _).mono ?_; rintro e w' ⟨rfl, rfl⟩)
  go_ret
  exact ⟨rfl, (Below.refl _ _).alloc (Nat.le_refl _) _⟩
theorem cmp_neg (a b : List UInt8) : decide (Lib.compareBytes a b < 0) = Op.bytesLess a b := by
  induction a generalizing b with
  | nil => cases b <;> simp [Lib.compareBytes, Op.bytesLess]
  | cons x a ih =>
    cases b with
    | nil => simp [Lib.compareBytes, Op.bytesLess]
    | cons y b =>
      simp only [Lib.compareBytes, Op.bytesLess]
      by_cases h : x < y
      · simp [h]
      · by_cases h' : y < x
        · have : x ≠ y := by rintro rfl; exact h h'
          simp [h, h', this]
        · have : x = y := UInt8.le_antisymm (UInt8.not_lt.1 h') (UInt8.not_lt.1 h)
          subst this
          simp [h, ih]
theorem cmp_zero (a b : List UInt8) : (Lib.compareBytes a b == 0) = decide (a = b) := by
  induction a generalizing b with
  | nil => cases b <;> simp [Lib.compareBytes]
  | cons x a ih =>
    cases b with
    | nil => simp [Lib.compareBytes]
    | cons y b =>
      simp only [Lib.compareBytes]
      by_cases h : x < y
      · have : x ≠ y := by rintro rfl; exact absurd h (by simp)
        simp [h, this]
      · by_cases h' : y < x
        · have : x ≠ y := by rintro rfl; exact absurd h' (by simp)
          simp [h, h', this]
        · have : x = y := UInt8.le_antisymm (UInt8.not_lt.1 h') (UInt8.not_lt.1 h)
          subst this
          simp only [h, if_false, ih, List.cons.injEq, true_and]
theorem findcmp_is (x : S57) (s : ByteArray) (v : Int) (hv : Lib.compareBytes x.f0.data.toList s.data.toList = v) (w : World) :
    Calls Tryz.prog 98 #[.agg #[.string x.f0, .int .i64 x.f1, .int .i64 x.f2, .int .i64 x.f3, .int .i64 x.f4, .int .i64 x.f5, .int .i64 x.f6], .string s] w fun e w' => e = .returned (.int .i64 v) ∧ Below w.heap.size w w' := by
  subst hv; exact findcmp_calls x s w
theorem sortedS_cons {x : S57} {l : List S57} (h : sortedS (x :: l) = true) : sortedS l = true ∧ ∀ y ∈ l, lessB x.f0 y.f0 = true := by
  induction l generalizing x with
  | nil => exact ⟨rfl, fun y hy => by cases hy⟩
  | cons z l ih =>
    simp only [sortedS, Bool.and_eq_true] at h
    obtain ⟨h1, h2⟩ := ih h.2
    refine ⟨h.2, fun y hy => ?_⟩
    rcases List.mem_cons.1 hy with rfl | hy
    · exact h.1
    · exact bytesLess_trans h.1 (h2 y hy)
theorem sortedS_lt {l : List S57} (h : sortedS l = true) : ∀ (i j : Nat), i < j → j < l.length → lessB (l.getD i z57).f0 (l.getD j z57).f0 = true := by
  induction l with
  | nil => intro i j _ h2; simp at h2
  | cons x l ih =>
    obtain ⟨h1, h2⟩ := sortedS_cons h
    intro i j hij hj
    obtain ⟨j, rfl⟩ : ∃ j', j = j' + 1 := ⟨j - 1, by omega⟩
    simp only [List.length_cons, Nat.add_lt_add_iff_right] at hj
    cases i with
    | zero =>
      have hm : l.getD j z57 ∈ l := by rw [List.getD, List.getElem?_eq_getElem hj]; exact List.getElem_mem _
      exact h2 _ hm
    | succ i => exact ih h1 i j (by omega) hj
theorem search_up {l : List S57} {s : ByteArray} {a h : Nat} {x : S57} (H1 : ∀ m, m < a → lessB (l.getD m z57).f0 s = true) (hs : sortedS l = true) (hx : x = l.getD h z57) (hl : h < l.length)
    (hv : Lib.compareBytes x.f0.data.toList s.data.toList < 0) : ∀ m, m < h + 1 → lessB (l.getD m z57).f0 s = true := by
  intro m hm
  have e : lessB (l.getD h z57).f0 s = true := by
    have := cmp_neg x.f0.data.toList s.data.toList
    rw [decide_eq_true hv] at this
    rw [← hx]; exact this.symm
  rcases Nat.lt_or_ge m h with h' | h'
  · exact bytesLess_trans (sortedS_lt hs m h h' hl) e
  · obtain rfl : m = h := by omega
    exact e
theorem search_down {l : List S57} {s : ByteArray} {b h : Nat} {x : S57} (H2 : ∀ m, b ≤ m → m < l.length → lessB (l.getD m z57).f0 s = false) (hs : sortedS l = true) (hx : x = l.getD h z57) (hl : h < l.length)
    (hv : ¬ Lib.compareBytes x.f0.data.toList s.data.toList < 0) : ∀ m, h ≤ m → m < l.length → lessB (l.getD m z57).f0 s = false := by
  intro m hm hml
  have e : lessB (l.getD h z57).f0 s = false := by
    have := cmp_neg x.f0.data.toList s.data.toList
    rw [decide_eq_false hv] at this
    rw [← hx]; exact this.symm
  rcases Nat.lt_or_ge h m with h' | h'
  · cases hc : lessB (l.getD m z57).f0 s with
    | false => rfl
    | true =>
      have := bytesLess_trans (sortedS_lt hs h m h' hml) hc
      exact absurd (e.symm.trans this) (by simp)
  · obtain rfl : m = h := by omega
    exact e
theorem lbS_eq {l : List S57} {s : ByteArray} {a : Nat} (H1 : ∀ m, m < a → lessB (l.getD m z57).f0 s = true) (H2 : ∀ m, a ≤ m → m < l.length → lessB (l.getD m z57).f0 s = false) (ha : a ≤ l.length) : lbS l s = a := by
  unfold lbS
  induction l generalizing a with
  | nil => simp at ha; subst ha; rfl
  | cons x l ih =>
    cases a with
    | zero =>
      have := H2 0 (by omega) (by simp)
      rw [List.takeWhile_cons, if_neg]
      · rfl
      · simpa using this
    | succ a =>
      have := H1 0 (by omega)
      rw [List.takeWhile_cons, if_pos (by simpa using this), List.length_cons, ih (a := a) (fun m hm => by simpa using H1 (m + 1) (by omega)) (fun m h1 h2 => by simpa using H2 (m + 1) (by omega) (by simpa using h2)) (by simpa using ha)]
theorem search_end {l : List S57} {s : ByteArray} {a : Nat} (_hs : sortedS l = true) (H1 : ∀ m, m < a → lessB (l.getD m z57).f0 s = true) (H2 : ∀ m, a ≤ m → m < l.length → lessB (l.getD m z57).f0 s = false) (ha : a ≤ l.length) : lbS l s = a := lbS_eq H1 H2 ha
theorem hasS_at {l : List S57} {s : ByteArray} (h : lbS l s < l.length) : hasS l s = decide ((l.getD (lbS l s) z57).f0 = s) := by
  unfold hasS
  rw [drop_getD h rfl]
theorem hasS_end {l : List S57} {s : ByteArray} (h : ¬ lbS l s < l.length) : hasS l s = false := by
  unfold hasS
  rw [List.drop_eq_nil_of_le (by omega)]
theorem data_inj {a b : ByteArray} : a.data.toList = b.data.toList ↔ a = b := by
  constructor
  · intro h
    cases a; cases b
    simp at h
    simp [h]
  · rintro rfl; rfl
theorem search_some {l : List S57} {s : ByteArray} {a : Nat} {x : S57} {v : Int} (he : lbS l s = a) (hx : x = l.getD a z57) (hl : a < l.length) (hv : Lib.compareBytes x.f0.data.toList s.data.toList = v) :
    Ending.returned (.tuple #[.int .i64 a, .bool (v == 0)]) = Ending.returned (.tuple #[.int .i64 (lbS l s : Nat), .bool (hasS l s)]) := by
  rw [hasS_at (by omega), he, ← hx, ← hv, cmp_zero]
  simp only [data_inj]
theorem search_none {l : List S57} {s : ByteArray} {a : Nat} (he : lbS l s = a) (hl : ¬ a < l.length) :
    Ending.returned (.tuple #[.int .i64 a, .bool false]) = Ending.returned (.tuple #[.int .i64 (lbS l s : Nat), .bool (hasS l s)]) := by
  rw [hasS_end (by omega), he]
set_option maxHeartbeats 2000000 in
set_option maxRecDepth 100000 in
theorem search_calls (A0 : Option Addr) (c0 : Nat) (l0 : List (S57)) (s : ByteArray) (w : World) (hr0 : Kd.C k57 w A0 l0.length l0) (hc0 : l0.length ≤ c0) (hm : l0.length ≤ 256) (hs : sortedS l0 = true) :
    Calls Tryz.prog 97 #[.slice A0 l0.length c0, .string s, .func (.func 98) #[] #[]] w fun e w' => e = .returned (.tuple #[.int .i64 (lbS l0 s : Nat), .bool (hasS l0 s)]) ∧ Below w.heap.size w w' := by
  have HR := Lib.hid hr0
  have HC := Lib.hid hc0
  have HS := Lib.hid hs
  clear hr0 hc0 hs
  go_enter Tryz.func97, Tryz.ntmps97
  go_wp2
  go_loopw [9, 10, 11] (fun i j _ wr => ∃ a b : Nat, a ≤ b ∧ b ≤ l0.length ∧ i = .int .i64 a ∧ j = .int .i64 b ∧ Hid (∀ m, m < a → lessB (l0.getD m z57).f0 s = true) ∧ Hid (∀ m, b ≤ m → m < l0.length → lessB (l0.getD m z57).f0 s = false) ∧ Hid (Below w.heap.size w wr)) (fun i j _ _ => (intOf j).toNat - (intOf i).toNat)
  case atStart => exact ⟨0, l0.length, by omega, by omega, rfl, rfl, fun m hm => by omega, fun m h1 h2 => by omega, Below.refl _ _⟩
  case round =>
    obtain ⟨a, b, hab, hbn, rfl, rfl, H1, H2, HB⟩ := hrel
    by_cases hlt : a < b
    · obtain ⟨h, hh⟩ : ∃ h : Nat, h = (a + b) / 2 := ⟨_, rfl⟩
      have eh : ((a : Int) + (b : Int)) / 2 = (h : Int) := by omega
      have hal : a ≤ h := by omega
      have hhb : h < b := by omega
      have hhl : h < l0.length := by omega
      clear hh
      obtain ⟨ad, rfl, hlot, had⟩ := LotA.of_row HR.out HB.out h hhl
      have HAD := Lib.hid had
      clear had
      obtain ⟨x, hx⟩ : ∃ x, x = l0.getD h z57 := ⟨_, rfl⟩
      rw [← hx] at hlot
      have HX := Lib.hid hx
      clear hx
      obtain ⟨q0, q1, q2, q3, q4, q5, q6⟩ := hlot
      obtain ⟨v, hv⟩ : ∃ v, Lib.compareBytes x.f0.data.toList s.data.toList = v := ⟨_, rfl⟩
      have HV := Lib.hid hv
      clear hv
      have HAL := Lib.hid hal
      have HHB := Lib.hid hhb
      have HHL := Lib.hid hhl
      have HBN := Lib.hid hbn
      by_cases hn : v < 0
      · have e1 : decide (v < 0) = true := decide_eq_true hn
        have HN := Lib.hid hn
        clear hn
        go_wp2_with (go_at_call 98; refine (findcmp_is x s v HV.out _).mono ?_; rintro e w2 ⟨rfl, hB2⟩)
        go_roundw
        case rel => exact ⟨h + 1, b, by have := HHB.out; omega, HBN.out, by go_num, rfl, search_up H1.out HS.out HX.out HHL.out (by rw [HV.out]; exact HN.out), H2.out, below_then HB.out hB2⟩
        case measure => have := HHB.out; have := HAL.out; simp [intOf]; omega
      · have e1 : decide (v < 0) = false := decide_eq_false hn
        have HN := Lib.hid hn
        clear hn
        go_wp2_with (go_at_call 98; refine (findcmp_is x s v HV.out _).mono ?_; rintro e w2 ⟨rfl, hB2⟩)
        go_roundw
        case rel => exact ⟨a, h, HAL.out, by have := HHL.out; omega, rfl, by go_num, H1.out, search_down H2.out HS.out HX.out HHL.out (by rw [HV.out]; have := HN.out; omega), below_then HB.out hB2⟩
        case measure => have := HHB.out; have := HAL.out; simp [intOf]; omega
    · have hab' : a = b := by omega
      subst hab'
      clear hlt hab
      have HE := Lib.hid (search_end HS.out H1.out H2.out hbn)
      by_cases hln : a < l0.length
      · obtain ⟨ad, rfl, hlot, had⟩ := LotA.of_row HR.out HB.out a hln
        have HAD := Lib.hid had
        clear had
        obtain ⟨x, hx⟩ : ∃ x, x = l0.getD a z57 := ⟨_, rfl⟩
        rw [← hx] at hlot
        have HX := Lib.hid hx
        clear hx
        obtain ⟨q0, q1, q2, q3, q4, q5, q6⟩ := hlot
        obtain ⟨v, hv⟩ : ∃ v, Lib.compareBytes x.f0.data.toList s.data.toList = v := ⟨_, rfl⟩
        have HV := Lib.hid hv
        clear hv
        have HLN := Lib.hid hln
        go_wp2_with (go_at_call 98; refine (findcmp_is x s v HV.out _).mono ?_; rintro e w2 ⟨rfl, hB2⟩)
        go_ret2
        exact ⟨search_some HE.out HX.out HLN.out HV.out, below_then HB.out hB2⟩
      · have e2 : decide (a < l0.length) = false := decide_eq_false hln
        have HLN := Lib.hid hln
        go_wp2
        go_ret2
        exact ⟨search_none HE.out HLN.out, HB.out⟩
theorem find_calls (A0 : Option Addr) (c0 : Nat) (l0 : List (S57)) (s : ByteArray) (w : World) (hr0 : Kd.C k57 w A0 l0.length l0) (hc0 : l0.length ≤ c0) (hm : l0.length ≤ 256) (hs : sortedS l0 = true) :
    Calls Tryz.prog 55 #[.slice A0 l0.length c0, .string s] w fun e w' => e = .returned (.tuple #[.int .i64 (lbS l0 s : Nat), .bool (hasS l0 s)]) ∧ Below w.heap.size w w' := by
  have HR := Lib.hid hr0
  have HC := Lib.hid hc0
  have HM := Lib.hid hm
  have HS := Lib.hid hs
  clear hr0 hc0 hs hm
  go_enter Tryz.func55, Tryz.ntmps55
  go_wp2_with (go_at_call 97; refine (search_calls A0 c0 l0 s _ HR.out HC.out HM.out HS.out).mono ?_; rintro e w2 ⟨rfl, hB2⟩)
  go_ret2
  exact ⟨rfl, hB2⟩
def register_find.f (l0 : List (S57)) (a1 : ByteArray) : Option (Int × Bool) := if sortedS l0 = true then if l0.length ≤ 256 then some ((lbS l0 a1 : Nat), hasS l0 a1) else none else none
theorem register_find.calls (A0 : Option Addr) (c0 : Nat) (l0 : List (S57)) (a1 : ByteArray) (r1 : Int) (r2 : Bool) (w : World) (hr0 : Kd.C k57 w A0 l0.length l0) (hc0 : l0.length ≤ c0) (h : register_find.f l0 a1 = some (r1, r2)) :
    Calls Tryz.prog 55 #[.slice A0 l0.length c0, .string a1] w fun e w' => e = .returned (.tuple #[.int .i64 r1, .bool r2]) ∧ Below w.heap.size w w' := by
  unfold register_find.f at h
  by_cases h1 : sortedS l0 = true
  · rw [if_pos h1] at h
    by_cases h2 : l0.length ≤ 256
    · rw [if_pos h2] at h
      cases h
      exact find_calls A0 c0 l0 a1 w hr0 hc0 h2 h1
    · rw [if_neg h2] at h; cases h
  · rw [if_neg h1] at h; cases h
end Go.Proofs.YtdgipencedlbmaaGreatDoor.Pr
namespace Go.Proofs.YtdgipencedlbmaaGreatDoor.Hand
set_option linter.unusedVariables false
set_option linter.unusedSimpArgs false
open Go.RowKit Go.Proofs.YtdgipencedlbmaaGreatDoorW.PrintWords
section
variable {P : Program}
theorem run_copy_rowK (w : World) (dT sT ty elem : TypeId) (k : Nat) (g o dLen dCap : Nat) (a : Addr) (sLen sCap : Nat) (cur : Array Value) (t : TypeId) (cs : List Value)
    (hu : P.underlying dT = some (.slice elem)) (hs : (P.info? elem).map (·.size) = some k)
    (hg : w.heap[g]? = some (.cells cur t (0, 0))) (hn : cs.length = Nat.min sLen dLen * k)
    (hsrc : ∀ j v, cs[j]? = some v → w.cell? (a.add j) = some v) (hfit : o + cs.length ≤ cur.size) (h1 : ∀ v ∈ cs, v.oneCell' = true) :
    (Builtin.copy_ #[dT, sT] ty #[.slice (some ⟨g, o, none⟩) dLen dCap, .slice (some a) sLen sCap]).run P w =
      .ok (goInt (Nat.min sLen dLen : Nat)) (w.setRow g (splice cur.toList o cs).toArray) := by
  have hl := run_loadCells_list (P := P) w a cs hsrc
  have hst := run_storeCells_at P g o t cs 0 cur w hg (by simpa using hfit) h1
  cases hq : P.info? elem with
  | none => simp [hq] at hs
  | some i =>
    have hi : i.size = k := by simpa [hq] using hs
    have hl' : (loadCells a (Nat.min sLen dLen * i.size)).run P w = .ok cs.toArray w := by rw [hi, ← hn]; exact hl
    simp [Builtin.copy_, run_underlying hu, Builtin.lenOf, Builtin.firstCells, sizeOf, typeInfo, hq, hl', hst, splice]
variable {ops : Array Oper} {rest : List Oper} {o : Oper} {a : Act} {Q : Exit → Act → World → Prop}
theorem but_setRow (w : World) (g : Nat) (cs : Array Value) : But g w (w.setRow g cs) := ⟨rfl, rfl, rfl, by simp, fun k _ hk => setRow_other w g k cs hk⟩
theorem copy_event {W : World} (hgd : o.guard = none) (d s : Operand) (T : TypeId) (ho : o.op = .call { callee := .builtin .copy, args := #[d, s], argTypes := #[T, T] }) (elem : TypeId) (k : Nat)
    (hu : P.underlying T = some (.slice elem)) (hs : (P.info? elem).map (·.size) = some k) (g off dLen dCap : Nat) (ad : Addr) (sLen sCap : Nat) (hd : a.eval d = .slice (some ⟨g, off, none⟩) dLen dCap) (hx : a.eval s = .slice (some ad) sLen sCap)
    (cur : Array Value) (t : TypeId) (hg : W.heap[g]? = some (.cells cur t (0, 0))) (cs : List Value) (hn : cs.length = Nat.min sLen dLen * k)
    (hsrc : ∀ j v, cs[j]? = some v → W.cell? (ad.add j) = some v) (hfit : off + cs.length ≤ cur.size) (h1 : ∀ v ∈ cs, v.oneCell' = true)
    (h : ∀ w1, w1.heap[g]? = some (.cells (splice cur.toList off cs).toArray t (0, 0)) → But g W w1 → w1.heap.size = W.heap.size → wpList P ops Q rest (a.put o.dst (goInt (Nat.min sLen dLen : Nat))) w1) : wpList P ops Q (o :: rest) a W := by
  refine wpList_plain hgd fun K hK => ?_
  have hrun := run_copy_rowK (P := P) W T T o.type elem k g off dLen dCap ad sLen sCap cur t cs hu hs hg hn hsrc hfit h1
  unfold Oper.wp
  simp [execOp, ho, resolve, invoke, builtin, hd, hx, hrun, Result.andThen]
  exact hK _ _ (h _ (setRow_heap W g cur _ t (0, 0) hg) (but_setRow W g _) (by simp))
theorem copy_step {W : World} {K : Act → World → Prop} {E : Prop} (hgd : o.guard = none) (d s : Operand) (T : TypeId) (ho : o.op = .call { callee := .builtin .copy, args := #[d, s], argTypes := #[T, T] }) (elem : TypeId) (k : Nat)
    (hu : P.underlying T = some (.slice elem)) (hs : (P.info? elem).map (·.size) = some k) (g off dLen dCap : Nat) (ad : Addr) (sLen sCap : Nat) (hd : a.eval d = .slice (some ⟨g, off, none⟩) dLen dCap) (hx : a.eval s = .slice (some ad) sLen sCap)
    (cur : Array Value) (t : TypeId) (hg : W.heap[g]? = some (.cells cur t (0, 0))) (cs : List Value) (hn : cs.length = Nat.min sLen dLen * k)
    (hsrc : ∀ j v, cs[j]? = some v → W.cell? (ad.add j) = some v) (hfit : off + cs.length ≤ cur.size) (h1 : ∀ v ∈ cs, v.oneCell' = true)
    (h : ∀ w1, w1.heap[g]? = some (.cells (splice cur.toList off cs).toArray t (0, 0)) → But g W w1 → w1.heap.size = W.heap.size → K (a.put o.dst (goInt (Nat.min sLen dLen : Nat))) w1) : if Region.wanted o (yielded ops a.tmps) = true then Oper.wp P o a W K Q else E := by
  have hw : Region.wanted o (yielded ops a.tmps) = true := by simp [Region.wanted, hgd]
  rw [if_pos hw]
  have hrun := run_copy_rowK (P := P) W T T o.type elem k g off dLen dCap ad sLen sCap cur t cs hu hs hg hn hsrc hfit h1
  unfold Oper.wp
  simp [execOp, ho, resolve, invoke, builtin, hd, hx, hrun, Result.andThen]
  exact h _ (setRow_heap W g cur _ t (0, 0) hg) (but_setRow W g _) (by simp)
theorem run_append_zeros_grow (w : World) (t ti ty e : TypeId) (i : TypeInfo) (z : Value) (size bytes : Nat) (ht : P.underlying t = some (.slice e)) {k : IntKind} (hti : P.underlying ti = some (.int k)) (hi : P.info? e = some i) (hz : i.zero = some z)
    (hsize : i.size = size) (hbt : i.bytes = bytes) (hzs : z.cells.size = size) (hb0 : 0 < bytes) (hs0 : 0 < size)
    (A : Addr) (n m cap : Nat) (hm : 0 < m) (kx : IntKind) (xs : List Value) (hxl : xs.length = n * size) (holds : ∀ j v, xs[j]? = some v → w.cell? (A.add j) = some v) (hcap : cap < n + m) (hbytes : (n + m) * bytes ≤ 140737488355328) :
    ∃ c, n + m ≤ c ∧ c ≤ maxLen ∧ (Builtin.append_ #[t, ti] ty #[.slice (some A) n cap, .int kx m]).run P w =
      .ok (.slice (some ⟨w.heap.size, 0, none⟩) (n + m) c) (w.drew.alloc (.cells (xs.toArray ++ Builtin.zeroCells z.cells m ++ Builtin.zeroCells z.cells (c - (n + m))) e)) := by
  subst hsize hbt
  have hlim : n + m ≤ 140737488355328 := Nat.le_trans (Nat.le_mul_of_pos_right _ hb0) hbytes
  have h63 : n + m ≤ maxLen := by simp only [maxLen]; omega
  have hw : IntKind.i64.wrap (m : Int) = m := by rw [IntKind.wrap_i64]; omega
  have hneg : ¬ ((m : Int) < 0) := by omega
  have hmb : m * i.bytes ≤ 140737488355328 := Nat.le_trans (Nat.mul_le_mul_right _ (Nat.le_add_left m n)) hbytes
  have hbig : ¬ (281474976710656 < (m : Int) * (i.bytes : Int)) := by
    rw [← Int.natCast_mul]
    omega
  have hfo := run_firstCells_some (P := P) w.drew i.size n A n cap xs hxl (by simpa using holds)
  have hn : ¬ (n + m ≤ cap) := by omega
  have h63' : ¬ (9223372036854775807 < ((n : Int) + (m : Int))) := by omega
  have hfit := growslice_fits hcap hbytes
  have h48' : ¬ (281474976710656 < Builtin.nextslicecap (n + m) cap * i.bytes) := by omega
  have hmz : ¬ (m * i.size = 0) := Nat.mul_ne_zero (by omega) (by omega)
  refine ⟨grownCap w (n + m) cap e, grownCap_ge w (n + m) cap e, grownCap_le_maxLen w (n + m) cap e h63, ?_⟩
  simp [Builtin.append_, run_underlying ht, run_underlying hti, sizeOf, typeInfo, zeroValue, hi, hz, asInt, asIntOf, hw, hneg, hbig, hn, h63', h48', Question.forced, hfo, newRow, grownCap, hmz]
theorem append_zeros_event {W : World} (hgd : o.guard = none) (s x : Operand) (t ti e : TypeId) (ho : o.op = .call { callee := .builtin .append, args := #[s, x], argTypes := #[t, ti] }) (z : Value) (size bytes : Nat)
    (ht : P.underlying t = some (.slice e)) {k : IntKind} (hti : P.underlying ti = some (.int k)) (hinfo : (P.info? e).map (fun i => (i.zero, i.size, i.bytes)) = some (some z, size, bytes)) (hzs : z.cells.size = size) (hb0 : 0 < bytes) (hs0 : 0 < size)
    (A : Addr) (n m cap : Nat) (hm : 0 < m) (kx : IntKind) (hs : a.eval s = .slice (some A) n cap) (hx : a.eval x = .int kx m) (xs : List Value) (hxl : xs.length = n * size) (holds : ∀ j v, xs[j]? = some v → W.cell? (A.add j) = some v) (hcap : cap < n + m) (hbytes : (n + m) * bytes ≤ 140737488355328)
    (h : ∀ g c cur w1, g = W.heap.size → n + m ≤ c → c ≤ maxLen → cur.size = c * size → cur.toList.take (n * size) = xs → w1.heap[g]? = some (.cells cur e (0, 0)) → Below W.heap.size W w1 → w1.heap.size = g + 1 → wpList P ops Q rest (a.put o.dst (.slice (some ⟨g, 0, none⟩) (n + m) c)) w1) : wpList P ops Q (o :: rest) a W := by
  refine wpList_plain hgd fun K hK => ?_
  obtain ⟨i, hi, hzz⟩ := Option.map_eq_some_iff.1 hinfo
  simp only [Prod.mk.injEq] at hzz
  obtain ⟨hz0, hz1, hz2⟩ := hzz
  obtain ⟨c, hc1, hc2, hrun⟩ := run_append_zeros_grow (P := P) W t ti o.type e i z size bytes ht hti hi hz0 hz1 hz2 hzs hb0 hs0 A n m cap hm kx xs hxl holds hcap hbytes
  unfold Oper.wp
  simp [execOp, ho, resolve, invoke, builtin, hs, hx, hrun, Result.andThen]
  refine hK _ _ (h W.heap.size c _ _ rfl hc1 hc2 ?_ ?_ (heap_alloc_new W.drew _) ⟨rfl, rfl, rfl, by simp, fun j hj => heap_alloc_old W.drew _ hj⟩ (by simp))
  · simp only [Array.size_append, List.size_toArray, size_zeroCells, hzs, hxl, ← Nat.add_mul]
    congr 1; omega
  · simp only [Array.toList_append, List.append_assoc]
    rw [← hxl]; exact List.take_left
end
end Go.Proofs.YtdgipencedlbmaaGreatDoor.Hand
namespace Go.Proofs.YtdgipencedlbmaaGreatDoor.Pr
set_option linter.unusedVariables false
set_option linter.unusedSimpArgs false
open Go.RowKit Go.Proofs.YtdgipencedlbmaaGreatDoorW.PrintWords Go.Proofs.YtdgipencedlbmaaGreatDoor.Hand
theorem reps_take {α : Type} {R : α → List Value → Prop} {size : Nat} {ps : List α} {cs : List Value} (h : Reps R size ps cs) (i : Nat) (hi : i ≤ ps.length) : Reps R size (ps.take i) (cs.take (i * size)) := by
  have hle : i * size ≤ ps.length * size := Nat.mul_le_mul_right _ hi
  refine ⟨by rw [List.length_take, List.length_take, h.1, Nat.min_eq_left hi, Nat.min_eq_left hle], fun j p hj => ?_⟩
  have hji : j < i := by
    have := (List.getElem?_eq_some_iff.1 hj).1
    rw [List.length_take] at this; omega
  rw [List.getElem?_take_of_lt hji] at hj
  have h2 := h.2 j p hj
  have h3 : j * size + size ≤ i * size := by rw [← Nat.succ_mul]; exact Nat.mul_le_mul_right _ hji
  rw [List.drop_take, List.take_take, Nat.min_eq_left (by omega)]
  exact h2
theorem reps_drop {α : Type} {R : α → List Value → Prop} {size : Nat} {ps : List α} {cs : List Value} (h : Reps R size ps cs) (i : Nat) : Reps R size (ps.drop i) (cs.drop (i * size)) := by
  refine ⟨by rw [List.length_drop, List.length_drop, h.1, ← Nat.sub_mul], fun j p hj => ?_⟩
  rw [List.getElem?_drop] at hj
  have h2 := h.2 _ p hj
  rw [List.drop_drop, ← Nat.add_mul]
  exact h2
def LR (x : S57) (c : List Value) : Prop := c = (cellsS x).toList
theorem LR_M {w : World} {base : Nat} {ok : Nat → Prop} {x : S57} {c : List Value} : LR x c ↔ k57.M w base ok x c := by
  constructor
  · intro h; rw [h]; exact k57_mkM w base ok x
  · intro h; exact k57_openM h
theorem LR_one {l : List S57} {cs : List Value} (h : Reps LR 7 l cs) : ∀ v ∈ cs, v.oneCell' = true := by
  intro v hv
  obtain ⟨j, hj⟩ := List.getElem?_of_mem hv
  have hjl : j < cs.length := (List.getElem?_eq_some_iff.1 hj).1
  have hq : j / 7 < l.length := by rw [h.1] at hjl; omega
  have h2 := h.2 (j / 7) l[j / 7] (List.getElem?_eq_getElem hq)
  have h3 : ((cs.drop (j / 7 * 7)).take 7)[j % 7]? = some v := by
    rw [List.getElem?_take_of_lt (by omega), List.getElem?_drop, ← hj]; congr 1; omega
  rw [h2] at h3
  have hm := List.mem_of_getElem? h3
  have ho := cellsS_one l[j / 7]
  rw [Array.all_eq_true_iff_forall_mem] at ho
  exact ho v (by simpa using hm)
theorem own_open {W : World} {base : Nat} {ok : Nat → Prop} {v : Value} {l : List S57} (h : Kd.R k57 57 W base ok v l) :
    (v = .slice none 0 0 ∧ l = []) ∨ ∃ g cap cur, v = .slice (some ⟨g, 0, none⟩) l.length cap ∧ ok g ∧ base ≤ g ∧ W.heap[g]? = some (.cells cur 57 (0, 0)) ∧ l.length ≤ cap ∧ cap ≤ maxLen ∧ cur.size = cap * 7 ∧ Reps LR 7 l (cur.toList.take (l.length * 7)) := by
  obtain ⟨h0, inner, hown, hr⟩ := h
  have hr' : Reps LR 7 l inner := hr.imp_ (fun _ _ hp => LR_M.2 hp)
  rcases hown.2 with ⟨rfl, hn⟩ | ⟨g, cap, cur, rfl, hbg, hg, hnc, hcm, hcs, htake⟩
  · exact .inl ⟨rfl, List.eq_nil_of_length_eq_zero hn⟩
  · exact .inr ⟨g, cap, cur, rfl, h0 g rfl, hbg, hg, hnc, hcm, hcs, by rw [show List.take (l.length * 7) cur.toList = inner from htake]; exact hr'⟩
theorem own_shut {W : World} {base : Nat} {ok : Nat → Prop} {l : List S57} {g cap : Nat} {cur : Array Value} (hok : ok g) (hbg : base ≤ g) (hg : W.heap[g]? = some (.cells cur 57 (0, 0))) (hnc : l.length ≤ cap) (hcm : cap ≤ maxLen) (hcs : cur.size = cap * 7)
    (hr : Reps LR 7 l (cur.toList.take (l.length * 7))) : Kd.R k57 57 W base ok (.slice (some ⟨g, 0, none⟩) l.length cap) l :=
  ⟨fun k hk => by simp [Value.ownBlock] at hk; rw [← hk]; exact hok, _, ⟨hr.1, .inr ⟨g, cap, cur, rfl, hbg, hg, hnc, hcm, hcs, rfl⟩⟩, hr.imp_ (fun _ _ hp => LR_M.1 hp)⟩
theorem splice_two (cur : List Value) (n i : Nat) (xs : List Value) (hxs : xs.length = 7) (hi : i ≤ n) (hc : (n + 1) * 7 ≤ cur.length) :
    (splice (splice cur ((i + 1) * 7) ((cur.take (n * 7)).drop (i * 7))) (i * 7) xs).take ((n + 1) * 7) = (cur.take (n * 7)).take (i * 7) ++ xs ++ (cur.take (n * 7)).drop (i * 7) := by
  unfold splice
  have e1 : ((cur.take (n * 7)).drop (i * 7)).length = n * 7 - i * 7 := by simp; omega
  have e2 : (i + 1) * 7 = i * 7 + 7 := by omega
  have e3 : (n + 1) * 7 = n * 7 + 7 := by omega
  rw [e1, hxs, e2, e3]
  apply List.ext_getElem?
  intro j
  simp only [List.getElem?_take, List.getElem?_append, List.getElem?_drop, List.length_append, List.length_take, List.length_drop, hxs]
  rcases Nat.lt_or_ge j (n * 7 + 7) with hj | hj
  · rw [if_pos hj]
    rcases Nat.lt_or_ge j (i * 7) with h1 | h1
    · repeat (first | rw [if_pos (by omega)] | rw [if_neg (by omega)])
    · rcases Nat.lt_or_ge j (i * 7 + 7) with h2 | h2
      · repeat (first | rw [if_pos (by omega)] | rw [if_neg (by omega)])
        first | rfl | (congr 1; omega)
      · repeat (first | rw [if_pos (by omega)] | rw [if_neg (by omega)])
        first | rfl | (congr 1; omega)
  · repeat (first | rw [if_pos (by omega)] | rw [if_neg (by omega)])
    try (symm; apply List.getElem?_eq_none; omega)
theorem size57 : (Tryz.prog.info? 57).map (·.size) = some 7 := by kernel_rfl
theorem over_calls {W : World} {vb b off lb cb : Nat} {x : S57} {cur : Array Value} (hv : W.heap[vb]? = some (.cells (cellsS x) 57 (0, 0))) (hb : W.heap[b]? = some (.cells cur 57 (0, 0))) (hne : vb ≠ b) (hc : cur.size ≠ 0) :
    (callFunc 116 #[.slice (some ⟨vb, 0, none⟩) 1 1, .slice (some ⟨b, off, none⟩) lb cb]).run Tryz.prog W = .ok (.value (.bool false)) W := by
  have hsa : W.shape? vb = some (57, 7) := by simp [World.shape?, hv, cellsS]
  have hsb : W.shape? b = some (57, cur.size) := by simp [World.shape?, hb]
  have hz : ∀ w, (Go.sizeOf 57).run Tryz.prog w = .ok 7 w := fun w => by kernel_rfl
  rw [run_callFunc_extern Tryz.func116 (by kernel_rfl) (by kernel_rfl) (by kernel_rfl) (e := Extern.SlicesOverlaps.overlaps #[22, 22] #[4]) (by kernel_rfl),
    Lib.run_overlaps_apart W 22 4 57 Tryz.underlying22 7 hz ⟨vb, 0, none⟩ ⟨b, off, none⟩ 1 1 lb cb hne 57 57 7 cur.size hsa hsb hc (frozen_of_row W vb 0 _ 57 hv) (frozen_of_row W vb 7 _ 57 hv)]
  rfl
theorem copy_src {W : World} {b off m : Nat} {cur : Array Value} {t : TypeId} {fr : Nat × Nat} (hg : W.heap[b]? = some (.cells cur t fr)) : ∀ j v, ((cur.toList.take m).drop off)[j]? = some v → W.cell? ((⟨b, off, none⟩ : Addr).add j) = some v := by
  intro j v hj
  rw [Addr.add_lit, cellB hg]
  rw [List.getElem?_drop, List.getElem?_take] at hj
  split at hj
  · rw [← Array.getElem?_toList]; exact hj
  · cases hj
theorem ins_len {cur : Array Value} {n i cap : Nat} (hi : i < n) (hn : n + 1 ≤ cap) (hc : cur.size = cap * 7) : ((cur.toList.take (n * 7)).drop (i * 7)).length = Nat.min (n + 1 - i) (n - i) * 7 := by
  have e : Nat.min (n + 1 - i) (n - i) = n - i := by simp only [Nat.min_def]; split <;> omega
  rw [e, List.length_drop, List.length_take, Array.length_toList, hc]; omega
theorem ins_fit {cur : Array Value} {n i cap : Nat} (hi : i < n) (hn : n + 1 ≤ cap) (hc : cur.size = cap * 7) : (i + 1) * 7 + ((cur.toList.take (n * 7)).drop (i * 7)).length ≤ cur.size := by
  rw [List.length_drop, List.length_take, Array.length_toList, hc]; omega
theorem ins_len1 {x : S57} {n i : Nat} (hi : i ≤ n) : (cellsS x).toList.length = Nat.min 1 (n + 1 - i) * 7 := by
  have e : Nat.min 1 (n + 1 - i) = 1 := by simp only [Nat.min_def]; split <;> omega
  rw [e]; rfl
theorem block_src {W : World} {b : Nat} {cs : Array Value} {t : TypeId} {fr : Nat × Nat} (hg : W.heap[b]? = some (.cells cs t fr)) : ∀ j v, cs.toList[j]? = some v → W.cell? ((⟨b, 0, none⟩ : Addr).add j) = some v := by
  intro j v hj
  rw [Addr.add_lit, cellB hg, Nat.zero_add, ← Array.getElem?_toList]; exact hj
theorem ins_fit1 {cur : Array Value} {cs : List Value} {x : S57} {n i cap off : Nat} (hi : i ≤ n) (hn : n + 1 ≤ cap) (hc : cur.size = cap * 7) (hf : off + cs.length ≤ cur.size) : i * 7 + (cellsS x).toList.length ≤ (splice cur.toList off cs).toArray.size := by
  rw [List.size_toArray, length_splice _ _ _ (by rw [Array.length_toList]; exact hf)]
  have e : cur.toList.length = cap * 7 := by rw [Array.length_toList, hc]
  rw [e]
  show i * 7 + 7 ≤ _
  omega
theorem cells_one (x : S57) : ∀ v ∈ (cellsS x).toList, v.oneCell' = true := by
  have ho := cellsS_one x
  rw [Array.all_eq_true_iff_forall_mem] at ho
  exact fun v hv => ho v (by simpa using hv)
set_option maxHeartbeats 4000000 in
set_option maxRecDepth 100000 in
theorem ins_shift (W : World) (b cap vb n i : Nat) (cur : Array Value) (x : S57) (hg : W.heap[b]? = some (.cells cur 57 (0, 0))) (hv : W.heap[vb]? = some (.cells (cellsS x) 57 (0, 0))) (hne : vb ≠ b)
    (hi : i < n) (hroom : n + 1 ≤ cap) (hn : n ≤ 256) (hcm : cap ≤ maxLen) (hcs : cur.size = cap * 7) (h1 : ∀ v ∈ cur.toList.take (n * 7), v.oneCell' = true) :
    Calls Tryz.prog 80 #[.slice (some ⟨b, 0, none⟩) n cap, .int .i64 i, .slice (some ⟨vb, 0, none⟩) 1 1] W fun e w' =>
      e = .returned (.slice (some ⟨b, 0, none⟩) (n + 1) cap) ∧ w'.heap[b]? = some (.cells (splice (splice cur.toList ((i + 1) * 7) ((cur.toList.take (n * 7)).drop (i * 7))) (i * 7) (cellsS x).toList).toArray 57 (0, 0)) ∧ But b W w' := by
  have HG := Lib.hid hg
  have HV := Lib.hid hv
  have HN := Lib.hid hne
  have hov := fun lb cb => over_calls (off := (i + 1) * 7) (lb := lb) (cb := cb) hv hg hne (by omega)
  have HC := Lib.hid hcs
  have H1 := Lib.hid h1
  unfold maxLen at hcm
  clear hg hv hne hcs h1
  have w1 : IntKind.i64.wrap ((n : Int) + 1) = (n : Int) + 1 := by rw [IntKind.wrap_i64]; omega
  have w2 : IntKind.i64.wrap ((i : Int) + 1) = (i : Int) + 1 := by rw [IntKind.wrap_i64]; omega
  have t1 : ((n : Int) + 1).toNat = n + 1 := by omega
  have t2 : ((i : Int) + 1).toNat = i + 1 := by omega
  have hin : i ≤ n := by omega
  have hb1 : (0 : Int) ≤ (i : Int) + 1 := by omega
  have hb3 : (i : Int) ≤ (n : Int) + 1 := by omega
  have q1 : ¬ (cap = i) := by omega
  have q2 : ¬ (cap = i + 1) := by omega
  go_enter Tryz.func80, Tryz.ntmps80
  go_wp2_with (simp only [hov])
  clear hov
  go_region_law (refine copy_step rfl _ _ 22 rfl 57 7 Tryz.underlying22 size57 b ((i + 1) * 7) (n - i) (cap - (i + 1)) ⟨b, i * 7, none⟩ (n + 1 - i) (cap - i) (by simp [Act.eval, Act.put]) (by simp [Act.eval, Act.put]) cur 57 HG.out ((cur.toList.take (n * 7)).drop (i * 7)) (ins_len (by omega) (by omega) HC.out) (copy_src HG.out) (ins_fit (by omega) (by omega) HC.out) (fun v hv => H1.out v (List.mem_of_mem_drop hv)) ?_; intro w1 hw1 hB1 hs1)
  have HW1 := Lib.hid hw1
  have HB1 := Lib.hid hB1
  have HV1 := Lib.hid (show w1.heap[vb]? = some (.cells (cellsS x) 57 (0, 0)) from hB1.keeps HN.out HV.out)
  clear hw1 hB1 hs1
  go_wp2_with ((with_reducible refine gate_builtin (b := .copy) (xs := #[.tmp 80, .tmp 81]) rfl ?_); refine copy_event rfl _ _ 22 rfl 57 7 Tryz.underlying22 size57 b (i * 7) (n + 1 - i) (cap - i) ⟨vb, 0, none⟩ 1 1 ?hd ?hx _ 57 HW1.out (cellsS x).toList (ins_len1 (by omega)) (block_src HV1.out) (ins_fit1 (by omega) (by omega) HC.out (ins_fit (by omega) (by omega) HC.out)) (cells_one x) ?_; (case hd => (go_simp; done)); (case hx => (go_simp; done)); intro w2 hw2 hB2 hs2)
  go_ret
  exact ⟨rfl, by simpa using hw2, (But.of_below (below_drew (Below.refl _ _))).trans (HB1.out.trans hB2)⟩
theorem splice_grow (cur1 : List Value) (cs : List Value) (n i : Nat) (xs : List Value) (hxs : xs.length = 7) (hcs : cs.length = n * 7) (hi : i ≤ n) (hc : (n + 1) * 7 ≤ cur1.length) (ht : cur1.take (i * 7) = cs.take (i * 7)) :
    (splice (splice cur1 (i * 7) xs) ((i + 1) * 7) (cs.drop (i * 7))).take ((n + 1) * 7) = cs.take (i * 7) ++ xs ++ cs.drop (i * 7) := by
  unfold splice
  have e1 : (cs.drop (i * 7)).length = n * 7 - i * 7 := by simp; omega
  have e2 : (i + 1) * 7 = i * 7 + 7 := by omega
  have e3 : (n + 1) * 7 = n * 7 + 7 := by omega
  rw [e1, hxs, e2, e3, ht]
  have e4 : (cs.take (i * 7)).length = i * 7 := by simp; omega
  apply List.ext_getElem?
  intro j
  simp only [List.getElem?_take, List.getElem?_append, List.getElem?_drop, List.length_append, List.length_take, List.length_drop, hxs, e4]
  rcases Nat.lt_or_ge j (n * 7 + 7) with hj | hj
  · rw [if_pos hj]
    rcases Nat.lt_or_ge j (i * 7) with h1 | h1
    · repeat (first | rw [if_pos (by omega)] | rw [if_neg (by omega)])
    · rcases Nat.lt_or_ge j (i * 7 + 7) with h2 | h2
      · repeat (first | rw [if_pos (by omega)] | rw [if_neg (by omega)])
      · repeat (first | rw [if_pos (by omega)] | rw [if_neg (by omega)])
        first | rfl | (congr 1; omega)
  · repeat (first | rw [if_pos (by omega)] | rw [if_neg (by omega)])
    try (symm; apply List.getElem?_eq_none; omega)
theorem grow_len {cur : Array Value} {n i : Nat} (hi : i < n) (hc : cur.size = n * 7) : (cur.toList.take (i * 7)).length = i * 7 := by
  have e : cur.toList.length = n * 7 := by rw [Array.length_toList, hc]
  rw [List.length_take, e]; omega
theorem take_src {W : World} {b m : Nat} {cur : Array Value} {t : TypeId} {fr : Nat × Nat} (hg : W.heap[b]? = some (.cells cur t fr)) : ∀ j v, (cur.toList.take m)[j]? = some v → W.cell? ((⟨b, 0, none⟩ : Addr).add j) = some v := by
  intro j v hj
  rw [Addr.add_lit, cellB hg, Nat.zero_add]
  rw [List.getElem?_take] at hj
  split at hj
  · rw [← Array.getElem?_toList]; exact hj
  · cases hj
theorem grow_fit {cur1 : Array Value} {x : S57} {n i c : Nat} (hi : i < n) (hc1 : i + (n + 1 - i) ≤ c) (hc : cur1.size = c * 7) : i * 7 + (cellsS x).toList.length ≤ cur1.size := by
  show i * 7 + 7 ≤ _
  omega
theorem grow_ne {W : World} {g b : Nat} (hg : g = W.heap.size) (hb : b < W.heap.size) : b ≠ g := by omega
theorem grow_len2 {cur : Array Value} {n i : Nat} (hc : cur.size = n * 7) : (cur.toList.drop (i * 7)).length = Nat.min (n - i) (n - i) * 7 := by
  have e : cur.toList.length = n * 7 := by rw [Array.length_toList, hc]
  rw [List.length_drop, e, show Nat.min (n - i) (n - i) = n - i from Nat.min_self _]; omega
theorem drop_src {W : World} {b off : Nat} {cur : Array Value} {t : TypeId} {fr : Nat × Nat} (hg : W.heap[b]? = some (.cells cur t fr)) : ∀ j v, (cur.toList.drop off)[j]? = some v → W.cell? ((⟨b, off, none⟩ : Addr).add j) = some v := by
  intro j v hj
  rw [Addr.add_lit, cellB hg]
  rw [List.getElem?_drop] at hj
  rw [← Array.getElem?_toList]; exact hj
theorem grow_lens {cur1 : Array Value} {x : S57} {n i c : Nat} (hi : i < n) (hc1 : i + (n + 1 - i) ≤ c) (hcs : cur1.size = c * 7) : (splice cur1.toList (i * 7) (cellsS x).toList).length = c * 7 := by
  have e : cur1.toList.length = c * 7 := by rw [Array.length_toList, hcs]
  rw [length_splice _ _ _ (by rw [e]; show i * 7 + 7 ≤ _; omega), e]
theorem grow_fit2 {cur cur1 : Array Value} {x : S57} {n i c : Nat} (hi : i < n) (hc : cur.size = n * 7) (hc1 : i + (n + 1 - i) ≤ c) (hcs : cur1.size = c * 7) : (i + 1) * 7 + (cur.toList.drop (i * 7)).length ≤ (splice cur1.toList (i * 7) (cellsS x).toList).toArray.size := by
  have e : cur.toList.length = n * 7 := by rw [Array.length_toList, hc]
  rw [List.size_toArray, grow_lens hi hc1 hcs, List.length_drop, e]; omega
theorem grow_size {cur cur1 : Array Value} {x : S57} {n i c : Nat} (hi : i < n) (hc : cur.size = n * 7) (hc1 : i + (n + 1 - i) ≤ c) (hcs : cur1.size = c * 7) : (splice (splice cur1.toList (i * 7) (cellsS x).toList).toArray.toList ((i + 1) * 7) (cur.toList.drop (i * 7))).toArray.size = c * 7 := by
  have h := grow_fit2 (x := x) hi hc hc1 hcs
  rw [List.size_toArray] at h
  rw [List.size_toArray, length_splice _ _ _ h]
  exact grow_lens hi hc1 hcs
theorem grow_take {cur cur1 : Array Value} {x : S57} {n i c : Nat} (hi : i < n) (hc : cur.size = n * 7) (hc1 : i + (n + 1 - i) ≤ c) (hcs : cur1.size = c * 7) (ht : cur1.toList.take (i * 7) = cur.toList.take (i * 7)) :
    (splice (splice cur1.toList (i * 7) (cellsS x).toList).toArray.toList ((i + 1) * 7) (cur.toList.drop (i * 7))).toArray.toList.take ((n + 1) * 7) = cur.toList.take (i * 7) ++ (cellsS x).toList ++ cur.toList.drop (i * 7) :=
  splice_grow cur1.toList cur.toList n i (cellsS x).toList rfl (by rw [Array.length_toList, hc]) (by omega) (by rw [Array.length_toList, hcs]; omega) ht
theorem info57g : (Tryz.prog.info? 57).map (fun i => (i.zero, i.size, i.bytes)) = some (some (.agg (cellsS z57)), 7, 64) := by kernel_rfl
set_option maxHeartbeats 4000000 in
set_option maxRecDepth 100000 in
theorem ins_grow (W : World) (b vb n i : Nat) (cur : Array Value) (x : S57) (hg : W.heap[b]? = some (.cells cur 57 (0, 0))) (hv : W.heap[vb]? = some (.cells (cellsS x) 57 (0, 0)))
    (hi : i < n) (hn : n ≤ 256) (hcs : cur.size = n * 7) (h1 : ∀ v ∈ cur.toList, v.oneCell' = true) :
    Calls Tryz.prog 80 #[.slice (some ⟨b, 0, none⟩) n n, .int .i64 i, .slice (some ⟨vb, 0, none⟩) 1 1] W fun e w' =>
      ∃ g c, e = .returned (.slice (some ⟨g, 0, none⟩) (n + 1) c) ∧ W.heap.size ≤ g ∧ n + 1 ≤ c ∧ c ≤ maxLen ∧ (∃ cur', w'.heap[g]? = some (.cells cur' 57 (0, 0)) ∧ cur'.size = c * 7 ∧ cur'.toList.take ((n + 1) * 7) = cur.toList.take (i * 7) ++ (cellsS x).toList ++ cur.toList.drop (i * 7)) ∧ Below W.heap.size W w' := by
  have hbl : b < W.heap.size := by
    rcases Nat.lt_or_ge b W.heap.size with h | h
    · exact h
    · rw [Array.getElem?_eq_none h] at hg; cases hg
  have hvl : vb < W.heap.size := by
    rcases Nat.lt_or_ge vb W.heap.size with h | h
    · exact h
    · rw [Array.getElem?_eq_none h] at hv; cases hv
  have HG := Lib.hid hg
  have HV := Lib.hid hv
  have HC := Lib.hid hcs
  have H1 := Lib.hid h1
  have HI := Lib.hid hi
  have HBL := Lib.hid hbl
  have HVL := Lib.hid hvl
  clear hg hv hcs h1 hbl hvl
  have w1 : IntKind.i64.wrap ((n : Int) + 1) = (n : Int) + 1 := by rw [IntKind.wrap_i64]; omega
  have w2 : IntKind.i64.wrap ((i : Int) + 1) = (i : Int) + 1 := by rw [IntKind.wrap_i64]; omega
  have w3 : IntKind.i64.wrap ((n : Int) + 1 - (i : Int)) = (n : Int) + 1 - (i : Int) := by rw [IntKind.wrap_i64]; omega
  have t1 : ((n : Int) + 1).toNat = n + 1 := by omega
  have t2 : ((i : Int) + 1).toNat = i + 1 := by omega
  have hin : i ≤ n := by omega
  have hb1 : (0 : Int) ≤ (i : Int) + 1 := by omega
  have hb3 : (i : Int) ≤ (n : Int) + 1 := by omega
  have q1 : ¬ (n = i) := by omega
  have ez : ((n : Int) + 1 - (i : Int)) = ((n + 1 - i : Nat) : Int) := by omega
  go_enter Tryz.func80, Tryz.ntmps80
  have es : i + (n + 1 - i) = n + 1 := by omega
  go_wp2_with (first
    | ((with_reducible refine gate_builtin (b := .append) (xs := #[.tmp 34, .tmp 39]) rfl ?_); refine append_zeros_event rfl _ _ 22 3 57 rfl (.agg (cellsS z57)) 7 64 Tryz.underlying22 Tryz.underlying3 info57g rfl (by omega) (by omega) ⟨b, 0, none⟩ i (n + 1 - i) n (by omega) .i64 ?hs ?hx (cur.toList.take (i * 7)) (grow_len HI.out HC.out) (take_src HG.out) (by omega) (by omega) ?_; (case hs => (go_simp; done)); (case hx => (go_simp; done)); intro g c cur1 w1 hg1 hc1 hc2 hcs1 ht1 hh1 hB1 hsz1; have HG1 := Lib.hid hg1; have HC1 := Lib.hid hc1; have HC2 := Lib.hid hc2; have HCS := Lib.hid hcs1; have HT := Lib.hid ht1; have HH := Lib.hid hh1; have HB1 := Lib.hid hB1; have HV1 := Lib.hid (below_keeps hB1 HVL.out HV.out); have HS1 := Lib.hid (below_keeps hB1 HBL.out HG.out); have q3 : ¬ (c = i) := (by omega); have q4 : ¬ (c = i + 1) := (by omega); clear hg1 hc1 hc2 hcs1 ht1 hh1 hB1 hsz1)
    | ((with_reducible refine gate_builtin (b := .copy) (xs := #[.tmp 43, .tmp 44]) rfl ?_); refine copy_event rfl _ _ 22 rfl 57 7 Tryz.underlying22 size57 g (i * 7) (n + 1 - i) (c - i) ⟨vb, 0, none⟩ 1 1 ?hd ?hx _ 57 HH.out (cellsS x).toList (ins_len1 (by omega)) (block_src HV1.out) (grow_fit HI.out HC1.out HCS.out) (cells_one x) ?_; (case hd => (go_simp; done)); (case hx => (go_simp; done)); intro w2 hw2 hB2 hs2; have HW2 := Lib.hid hw2; have HB2 := Lib.hid hB2; have HS2 := Lib.hid (hB2.keeps (grow_ne HG1.out HBL.out) HS1.out); clear hw2 hB2 hs2))
  go_region_law (refine copy_step rfl _ _ 22 rfl 57 7 Tryz.underlying22 size57 g ((i + 1) * 7) (n - i) (c - (i + 1)) ⟨b, i * 7, none⟩ (n - i) (n - i) (by simp [Act.eval, Act.put]) (by simp [Act.eval, Act.put]) _ 57 HW2.out (cur.toList.drop (i * 7)) (grow_len2 HC.out) (drop_src HS2.out) (grow_fit2 HI.out HC.out HC1.out HCS.out) (fun v hv => H1.out v (List.mem_of_mem_drop hv)) ?_; intro w3 hw3 hB3 hs3)
  have HW3 := Lib.hid hw3
  have HB3 := Lib.hid hB3
  clear hw3 hB3 hs3
  go_wp2
  go_ret
  refine ⟨g, c, rfl, ?_, ?_, HC2.out, ⟨_, HW3.out, ?_, ?_⟩, ?_⟩
  · rw [HG1.out]; exact Nat.le_refl _
  · have := HC1.out; omega
  · exact grow_size HI.out HC.out HC1.out HCS.out
  · have h := grow_take (x := x) HI.out HC.out HC1.out HCS.out HT.out
    rw [List.append_assoc] at h
    exact h
  · have e0 : W.heap.size ≤ w1.heap.size := HB1.out.size
    have e1 := HB2.out.size
    have f1 : Below W.heap.size W w2 := HB2.out.below HB1.out (by rw [HG1.out]; exact Nat.le_refl _) e0
    exact HB3.out.below (f1.trans ⟨rfl, rfl, rfl, Nat.le_refl _, fun _ _ => rfl⟩) (by rw [HG1.out]; exact Nat.le_refl _) (show W.heap.size ≤ w2.heap.size by omega)
theorem info57k : (Tryz.prog.info? 57).map (fun i => (i.zero, i.size, i.bytes)) = some (some (.agg (cellsS z57)), k57.sz, 64) := info57g
theorem one_row {W : World} {vb : Nat} {x : S57} {t : TypeId} {fr : Nat × Nat} (hv : W.heap[vb]? = some (.cells (cellsS x) t fr)) : ReadsRow LR k57.sz W (some ⟨vb, 0, none⟩) 1 [x] := by
  refine ⟨rfl, by omega, fun _ => ⟨_, rfl, fun j p hj => ?_⟩⟩
  have hj0 : j = 0 := by
    have := (List.getElem?_eq_some_iff.1 hj).1
    simpa using this
  subst hj0
  have hp : x = p := by simpa using hj
  subst hp
  refine ⟨(cellsS x).toList, rfl, rfl, fun i u hu => ?_⟩
  rw [Nat.zero_mul, Nat.zero_add]
  exact block_src hv i u hu
set_option maxHeartbeats 4000000 in
set_option maxRecDepth 100000 in
theorem ins_end (W w0 : World) (base : Nat) (vs : Value) (l : List S57) (x : S57) (vb : Nat) (hR : Kd.R k57 57 W base (fun _ => True) vs l) (hv : W.heap[vb]? = some (.cells (cellsS x) 57 (0, 0))) (hl : l.length ≤ 256) (hbase : base ≤ W.heap.size) (hB : Below base w0 W) :
    Calls Tryz.prog 80 #[vs, .int .i64 l.length, .slice (some ⟨vb, 0, none⟩) 1 1] W fun e w' => ∃ v1, e = .returned v1 ∧ Kd.R k57 57 w' base (fun _ => True) v1 (l ++ [x]) ∧ Below base w0 w' := by
  have HR := Lib.hid hR
  have HV := Lib.hid hv
  have HBs := Lib.hid hbase
  have HB := Lib.hid hB
  clear hv hbase hB
  rcases own_open hR with ⟨rfl, rfl⟩ | ⟨g, cap, cur, rfl, _, hbg, hg, hnc, hcm, hcs, hr⟩
  · clear hR
    go_enter Tryz.func80, Tryz.ntmps80
    go_wp2_with ((with_reducible refine gate_builtin (b := .append) (xs := #[.tmp 23, .tmp 24]) rfl ?_); refine Kd.R_append_rows k57 (w0 := w0) base rfl (.tmp 23) (.tmp 24) 22 57 (.agg (cellsS z57)) 64 rfl Tryz.underlying22 info57k rfl (by decide) (by decide) (.slice none 0 0) [] [x] (some ⟨vb, 0, none⟩) 1 1 (fun _ => True) (fun _ => False) ?hs ?hx HR.out (one_row HV.out) (fun _ _ h => LR_M.1 h) (fun _ h => h.elim) (fun _ _ => trivial) HB.out HBs.out (by decide) ?_; (case hs => (go_simp; done)); (case hx => (go_simp; done)); intro v1 w1 ho hb1 hgr hat)
    go_ret
    exact ⟨_, rfl, ho, hb1⟩
  · have HNC := Lib.hid hnc
    have HL := Lib.hid hl
    unfold maxLen at hcm
    clear hR hg hcs hr hbg
    by_cases hq : cap = l.length
    · subst hq
      have e1 : ((l.length : Int) == (l.length : Int)) = true := by simp
      go_enter Tryz.func80, Tryz.ntmps80
      go_wp2_with ((with_reducible refine gate_builtin (b := .append) (xs := #[.tmp 23, .tmp 24]) rfl ?_); refine Kd.R_append_rows k57 (w0 := w0) base rfl (.tmp 23) (.tmp 24) 22 57 (.agg (cellsS z57)) 64 rfl Tryz.underlying22 info57k rfl (by decide) (by decide) (.slice (some ⟨g, 0, none⟩) l.length _) l [x] (some ⟨vb, 0, none⟩) 1 1 (fun _ => True) (fun _ => False) ?hs ?hx HR.out (one_row HV.out) (fun _ _ h => LR_M.1 h) (fun _ h => h.elim) (fun _ _ => trivial) HB.out HBs.out (by have := HL.out; omega) ?_; (case hs => (go_simp; done)); (case hx => (go_simp; done)); intro v1 w1 ho hb1 hgr hat)
      go_ret
      exact ⟨_, rfl, ho, hb1⟩
    · have e1 : ((l.length : Int) == (l.length : Int)) = true := by simp
      go_enter Tryz.func80, Tryz.ntmps80
      go_wp2_with ((with_reducible refine gate_builtin (b := .append) (xs := #[.tmp 23, .tmp 24]) rfl ?_); refine Kd.R_append_rows k57 (w0 := w0) base rfl (.tmp 23) (.tmp 24) 22 57 (.agg (cellsS z57)) 64 rfl Tryz.underlying22 info57k rfl (by decide) (by decide) (.slice (some ⟨g, 0, none⟩) l.length _) l [x] (some ⟨vb, 0, none⟩) 1 1 (fun _ => True) (fun _ => False) ?hs ?hx HR.out (one_row HV.out) (fun _ _ h => LR_M.1 h) (fun _ h => h.elim) (fun _ _ => trivial) HB.out HBs.out (by have := HL.out; omega) ?_; (case hs => (go_simp; done)); (case hx => (go_simp; done)); intro v1 w1 ho hb1 hgr hat)
      go_ret
      exact ⟨_, rfl, ho, hb1⟩
theorem Insert_calls (W w0 : World) (base : Nat) (vs : Value) (l : List S57) (x : S57) (vb i : Nat) (hR : Kd.R k57 57 W base (fun _ => True) vs l) (hv : W.heap[vb]? = some (.cells (cellsS x) 57 (0, 0))) (hne : ∀ k, vs.ownBlock = some k → vb ≠ k)
    (hi : i ≤ l.length) (hl : l.length ≤ 256) (hbase : base ≤ W.heap.size) (hB : Below base w0 W) :
    Calls Tryz.prog 80 #[vs, .int .i64 i, .slice (some ⟨vb, 0, none⟩) 1 1] W fun e w' => ∃ v1, e = .returned v1 ∧ Kd.R k57 57 w' base (fun _ => True) v1 (l.take i ++ x :: l.drop i) ∧ Below base w0 w' := by
  rcases Nat.eq_or_lt_of_le hi with rfl | hlt
  · rw [List.take_length, List.drop_length]
    exact ins_end W w0 base vs l x vb hR hv hl hbase hB
  · rcases own_open hR with ⟨rfl, rfl⟩ | ⟨g, cap, cur, rfl, _, hbg, hg, hnc, hcm, hcs, hr⟩
    · simp at hlt
    · have hx : Reps LR 7 [x] (cellsS x).toList := ⟨rfl, fun j p hj => by
        have hj0 : j = 0 := by
          have := (List.getElem?_eq_some_iff.1 hj).1
          simpa using this
        subst hj0
        have hp : x = p := by simpa using hj
        subst hp
        rfl⟩
      have hlen : (l.take i ++ x :: l.drop i).length = l.length + 1 := by simp; omega
      have hreps : Reps LR 7 (l.take i ++ x :: l.drop i) ((cur.toList.take (l.length * 7)).take (i * 7) ++ (cellsS x).toList ++ (cur.toList.take (l.length * 7)).drop (i * 7)) := by
        rw [List.append_assoc]
        exact Kd.reps_append (reps_take hr i hi) (Kd.reps_append (ps := [x]) hx (reps_drop hr i))
      by_cases hroom : l.length + 1 ≤ cap
      · refine (ins_shift W g cap vb l.length i cur x hg hv (hne g rfl) hlt hroom hl hcm hcs (LR_one hr)).mono fun e w' ⟨he, hw, hb⟩ => ?_
        refine ⟨_, he, ?_, hb.below hB hbg hbase⟩
        rw [← hlen]
        have hsz : (splice (splice cur.toList ((i + 1) * 7) ((cur.toList.take (l.length * 7)).drop (i * 7))) (i * 7) (cellsS x).toList).toArray.size = cap * 7 := by
          have e : cur.toList.length = cap * 7 := by rw [Array.length_toList, hcs]
          have f1 := ins_fit (i := i) hlt hroom hcs
          have e1 : (splice cur.toList ((i + 1) * 7) ((cur.toList.take (l.length * 7)).drop (i * 7))).length = cap * 7 := by
            rw [length_splice _ _ _ (by rw [Array.length_toList]; exact f1), e]
          rw [List.size_toArray, length_splice _ _ _ (by rw [e1]; show i * 7 + 7 ≤ _; omega), e1]
        refine own_shut trivial hbg hw (by rw [hlen]; exact hroom) hcm hsz ?_
        rw [hlen]
        have e : cur.toList.length = cap * 7 := by rw [Array.length_toList, hcs]
        have := splice_two cur.toList l.length i (cellsS x).toList rfl hi (by rw [e]; exact Nat.mul_le_mul_right _ hroom)
        rw [show (splice (splice cur.toList ((i + 1) * 7) ((cur.toList.take (l.length * 7)).drop (i * 7))) (i * 7) (cellsS x).toList).toArray.toList = _ from rfl, this]
        exact hreps
      · obtain rfl : cap = l.length := by omega
        have ecur : cur.toList.take (l.length * 7) = cur.toList := List.take_of_length_le (by rw [Array.length_toList, hcs]; exact Nat.le_refl _)
        rw [ecur] at hr hreps
        refine (ins_grow W g vb l.length i cur x hg hv hlt hl hcs (LR_one hr)).mono fun e w' ⟨g', c, he, hg', hc1, hc2, ⟨cur', hw, hsz, ht⟩, hb⟩ => ?_
        refine ⟨_, he, ?_, hB.trans (hb.mono hbase)⟩
        rw [← hlen]
        exact own_shut trivial (Nat.le_trans hbase hg') hw (by rw [hlen]; exact hc1) hc2 hsz (by rw [hlen, ht]; exact hreps)
end Go.Proofs.YtdgipencedlbmaaGreatDoor.Pr
namespace Go.Proofs.YtdgipencedlbmaaGreatDoor.Pr
set_option linter.unusedVariables false
set_option linter.unusedSimpArgs false
open Go.RowKit Go.Proofs.YtdgipencedlbmaaGreatDoorW.PrintWords Go.Proofs.YtdgipencedlbmaaGreatDoor.Hand
theorem C_LR {W : World} {A : Option Addr} {n : Nat} {l : List S57} (h : Kd.C k57 W A n l) : ReadsRow LR k57.sz W A n l := ReadsRow.imp_ h (Below.refl _ _) (fun _ _ hp => k57_open hp)
theorem empty_own (W : World) : Kd.R k57 57 (W.alloc (.cells #[] 57)) W.heap.size (fun _ => True) (.slice (some ⟨W.heap.size, 0, none⟩) 0 0) [] :=
  own_shut (l := []) (cap := 0) trivial (Nat.le_refl _) (heap_alloc_new W _) (Nat.le_refl _) (by unfold maxLen; omega) rfl ⟨rfl, fun j p h => by simp at h⟩
set_option maxHeartbeats 4000000 in
set_option maxRecDepth 100000 in
theorem Clone_calls (A0 : Option Addr) (c0 : Nat) (l : List S57) (W : World) (hr : Kd.C k57 W A0 l.length l) (hc : l.length ≤ c0) (hl : l.length ≤ 256) :
    Calls Tryz.prog 81 #[.slice A0 l.length c0] W fun e w' => ∃ v1, e = .returned v1 ∧ Kd.R k57 57 w' W.heap.size (fun _ => True) v1 l ∧ Below W.heap.size W w' := by
  have HR := Lib.hid hr
  have HL := Lib.hid hl
  have hn1 := @Lib.run_eql_slice_nil Tryz.prog
  clear hr
  cases A0 with
  | none =>
    have h0 : l = [] := by
      cases l with
      | nil => rfl
      | cons x l => obtain ⟨ad, e, _⟩ := HR.out.2.2 (by simp); cases e
    subst h0
    go_enter Tryz.func81, Tryz.ntmps81
    go_wp2
    go_ret
    exact ⟨_, rfl, Kd.R_nil _ _ _ _ _, Below.refl _ _⟩
  | some ad =>
    go_enter Tryz.func81, Tryz.ntmps81
    go_wp2_with ((with_reducible refine gate_builtin (b := .append) (xs := #[.tmp 5, .tmp 6]) rfl ?_); refine Kd.R_append_rows k57 (w0 := W) W.heap.size rfl (.tmp 5) (.tmp 6) 22 57 (.agg (cellsS z57)) 64 rfl Tryz.underlying22 info57k rfl (by decide) (by decide) (.slice (some ⟨W.heap.size, 0, none⟩) 0 0) [] l (some ad) l.length c0 (fun _ => True) (fun _ => False) ?hs ?hx (empty_own W) (C_LR (Kd.C_below HR.out (below_alloc (Below.refl _ _) _))) (fun _ _ h => LR_M.1 h) (fun _ h => h.elim) (fun _ _ => trivial) (below_alloc (Below.refl _ _) _) (by simp) (by have := HL.out; simp; omega) ?_; (case hs => (go_simp; done)); (case hx => (go_simp; done)); intro v1 w1 ho hb1 hgr hat)
    go_ret
    exact ⟨_, rfl, ho, hb1⟩
end Go.Proofs.YtdgipencedlbmaaGreatDoor.Pr
