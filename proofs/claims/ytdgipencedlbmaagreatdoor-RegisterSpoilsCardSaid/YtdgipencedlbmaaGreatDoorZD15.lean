/- Numerals in plain Lean: the decimal digits of a number are read back. strings.Trim at this translation's numbers. whole.Check at numerals of numbers that are not negative. Integers of one word: (*wide -/
import Derived.Test.YtdgipencedlbmaaGreatDoorZD02
import Derived.Lib.AtoiAll
import Derived.Lib.AtoiAllCases
import Derived.Shelf.Strings.SlTrimAscii
import Derived.Ground.NamesProg
import Derived.Test.YtdgipencedlbmaaGreatDoorProg
import Derived.Test.YtdgipencedlbmaaGreatDoorZD04
import Derived.Test.YtdgipencedlbmaaGreatDoorZD05
import Derived.Test.YtdgipencedlbmaaGreatDoorZD01
import Derived.Laws.EntriesVeiled
import Derived.Deep.RegionHeld3
import Derived.Test.YtdgipencedlbmaaGreatDoorZD08
import Derived.Test.YtdgipencedlbmaaGreatDoorZD06
import Derived.Lib.AppendIntMem
namespace Go.Proofs.YtdgipencedlbmaaGreatDoor.Hand
open Go.RowKit Go.Lib
theorem u8_digit {d : Nat} (h : d < 10) : (UInt8.ofNat (48 + d)).toNat = 48 + d := by
  rw [UInt8.toNat_ofNat']; omega
theorem dec_digit (u : Nat) : ∀ c ∈ decDigits u, 48 ≤ c.toNat ∧ c.toNat ≤ 57 := by
  induction u using Nat.strongRecOn with
  | _ u ih =>
    intro c hc
    rw [decDigits] at hc
    split at hc
    · rename_i h
      rw [List.mem_singleton.1 hc, u8_digit h]; omega
    · rcases List.mem_append.1 hc with hc | hc
      · exact ih (u / 10) (by omega) c hc
      · rw [List.mem_singleton.1 hc, u8_digit (Nat.mod_lt _ (by decide))]; omega
theorem dec_ne (u : Nat) : decDigits u ≠ [] := by
  intro h
  have := decDigits_length u
  rw [h] at this
  have := nDigits_pos u
  simp at *; omega
theorem parse_append (d : UInt8) (hd : 48 ≤ d.toNat ∧ d.toNat ≤ 57) : ∀ (l : List UInt8) (acc v : Nat), parseUint10 acc l = .ok v → v * 10 + (d.toNat - 48) < 18446744073709551616 →
    parseUint10 acc (l ++ [d]) = .ok (v * 10 + (d.toNat - 48))
  | [], acc, v, h, hv => by
    have e : acc = v := by simpa [parseUint10] using h
    subst e
    simp only [List.nil_append, parseUint10]
    rw [if_pos hd, if_neg (by omega), if_neg (by omega)]
  | c :: r, acc, v, h, hv => by
    simp only [List.cons_append, parseUint10] at h ⊢
    by_cases h1 : 48 ≤ c.toNat ∧ c.toNat ≤ 57
    · rw [if_pos h1] at h ⊢
      by_cases h2 : 1844674407370955162 ≤ acc
      · rw [if_pos h2] at h; cases h
      · rw [if_neg h2] at h ⊢
        by_cases h3 : 18446744073709551616 ≤ acc * 10 + (c.toNat - 48)
        · rw [if_pos h3] at h; cases h
        · rw [if_neg h3] at h ⊢
          exact parse_append d hd r _ v h hv
    · rw [if_neg h1] at h; cases h
theorem parse_dec (u : Nat) (hu : u < 18446744073709551616) : parseUint10 0 (decDigits u) = .ok u := by
  induction u using Nat.strongRecOn with
  | _ u ih =>
    rw [decDigits]
    split
    · rename_i h
      simp only [parseUint10, u8_digit h]
      rw [if_pos (by omega), if_neg (by omega), if_neg (by omega)]
      simp
    · rename_i h
      have hm : u % 10 < 10 := Nat.mod_lt _ (by decide)
      have e := parse_append (UInt8.ofNat (48 + u % 10)) (by rw [u8_digit hm]; omega) _ 0 (u / 10) (ih (u / 10) (by omega) (by omega)) (by rw [u8_digit hm]; omega)
      rw [e, u8_digit hm]
      congr 1
      omega
theorem dec_head (u : Nat) : ∃ c r, decDigits u = c :: r ∧ 48 ≤ c.toNat ∧ c.toNat ≤ 57 ∧ (c.toNat = 48 → u = 0) := by
  induction u using Nat.strongRecOn with
  | _ u ih =>
    rw [decDigits]
    split
    · rename_i h
      exact ⟨_, _, rfl, by rw [u8_digit h]; omega, by rw [u8_digit h]; omega, by rw [u8_digit h]; omega⟩
    · rename_i h
      obtain ⟨c, r, e, h1, h2, h3⟩ := ih (u / 10) (by omega)
      exact ⟨c, r ++ [UInt8.ofNat (48 + u % 10)], by rw [e]; rfl, h1, h2, fun h => by have := h3 h; omega⟩
theorem atoi_dec (u : Nat) (hu : u < 9223372036854775808) : atoiAll (decDigits u) = .ok (u : Int) := by
  obtain ⟨c, r, e, h1, h2, _⟩ := dec_head u
  have hp : parseMag (decDigits u) = .ok u := by unfold parseMag; rw [if_neg (dec_ne u)]; exact parse_dec u (by omega)
  rw [e] at hp ⊢
  unfold atoiAll
  simp only
  rw [if_neg (by omega), hp]
  simp only
  rw [if_neg (by omega), if_neg (by omega), if_neg (by omega)]
theorem dec_inj {u v : Nat} (hu : u < 9223372036854775808) (hv : v < 9223372036854775808) (h : decDigits u = decDigits v) : u = v := by
  have a := atoi_dec u hu
  rw [h, atoi_dec v hv] at a
  injection a with a
  omega
theorem dec_zero : decDigits 0 = [48] := by rw [decDigits, dif_pos (by decide)]; rfl
theorem dec_one : decDigits 1 = [49] := by rw [decDigits, dif_pos (by decide)]; rfl
theorem dec_is_one {u : Nat} (hu : u < 9223372036854775808) : decDigits u = [49] ↔ u = 1 :=
  ⟨fun h => dec_inj hu (by decide) (h.trans dec_one.symm), fun h => h ▸ dec_one⟩
theorem dec_len {d u : Nat} (h : u < 10 ^ (d + 1)) : (decDigits u).length ≤ d + 1 := by
  induction d generalizing u with
  | zero => rw [decDigits, dif_pos (by simpa using h)]; simp
  | succ d ih =>
    rw [decDigits]
    split
    · simp
    · have := ih (u := u / 10) (by rw [Nat.div_lt_iff_lt_mul (by omega)]; rw [Nat.pow_succ] at h; exact h)
      simp; omega
end Go.Proofs.YtdgipencedlbmaaGreatDoor.Hand
namespace Go.Proofs
open Go.Shelf
def Tryz.lays160_ren : Go.Shelf.Ren := ⟨fun | 160 => 141 | 232 => 168 | 231 => 167 | 227 => 169 | 234 => 171 | 233 => 170 | 236 => 173 | 235 => 172 | 228 => 195 | 271 => 197 | 151 => 196 | 197 => 158 | 120 => 212 | 152 => 211 | 260 => 192 | 137 => 217 | 119 => 218 | 224 => 136 | 225 => 135 | 217 => 134 | 266 => 163 | n => n, fun | 9 => 9 | 4 => 4 | 3 => 3 | 5 => 5 | 117 => 204 | 116 => 203 | 0 => 0 | 124 => 207 | 21 => 21 | 105 => 193 | 46 => 155 | 119 => 243 | 139 => 246 | 138 => 245 | n => n, fun | 3 => 4 | 4 => 5 | n => n⟩
theorem Tryz.lays160 : Go.Proofs.Lays.n160 Tryz.prog Tryz.lays160_ren := {
  mixed := by kernel_rfl
  f119 := Tryz.func218.trans (congrArg some (by kernel_rfl))
  f120 := Tryz.func212.trans (congrArg some (by kernel_rfl))
  f137 := Tryz.func217.trans (congrArg some (by kernel_rfl))
  f151 := Tryz.func196.trans (congrArg some (by kernel_rfl))
  f152 := Tryz.func211.trans (congrArg some (by kernel_rfl))
  f160 := Tryz.func141.trans (congrArg some (by kernel_rfl))
  f197 := Tryz.func158.trans (congrArg some (by kernel_rfl))
  f217 := Tryz.func134.trans (congrArg some (by kernel_rfl))
  f224 := Tryz.func136.trans (congrArg some (by kernel_rfl))
  f225 := Tryz.func135.trans (congrArg some (by kernel_rfl))
  f227 := Tryz.func169.trans (congrArg some (by kernel_rfl))
  f228 := Tryz.func195.trans (congrArg some (by kernel_rfl))
  f231 := Tryz.func167.trans (congrArg some (by kernel_rfl))
  f232 := Tryz.func168.trans (congrArg some (by kernel_rfl))
  f233 := Tryz.func170.trans (congrArg some (by kernel_rfl))
  f234 := Tryz.func171.trans (congrArg some (by kernel_rfl))
  f235 := Tryz.func172.trans (congrArg some (by kernel_rfl))
  f236 := Tryz.func173.trans (congrArg some (by kernel_rfl))
  f260 := Tryz.func192.trans (congrArg some (by kernel_rfl))
  f266 := Tryz.func163.trans (congrArg some (by kernel_rfl))
  f271 := Tryz.func197.trans (congrArg some (by kernel_rfl))
  t0 := Tryz.underlying0
  a0 := Tryz.isAgg0
  z0 := Tryz.sizeOf0
  v0 := Tryz.zeroValue0
  t3 := Tryz.underlying3
  a3 := Tryz.isAgg3
  z3 := Tryz.sizeOf3
  v3 := Tryz.zeroValue3
  t4 := Tryz.underlying4
  a4 := Tryz.isAgg4
  z4 := Tryz.sizeOf4
  v4 := Tryz.zeroValue4
  t5 := Tryz.underlying5
  a5 := Tryz.isAgg5
  z5 := Tryz.sizeOf5
  v5 := Tryz.zeroValue5
  t9 := Tryz.underlying9
  a9 := Tryz.isAgg9
  z9 := Tryz.sizeOf9
  v9 := Tryz.zeroValue9
  t21 := Tryz.underlying21
  a21 := Tryz.isAgg21
  z21 := Tryz.sizeOf21
  v21 := Tryz.zeroValue21
  t46 := Tryz.underlying155
  a46 := Tryz.isAgg155
  z46 := Tryz.sizeOf155
  v46 := Tryz.zeroValue155
  t105 := Tryz.underlying193
  a105 := Tryz.isAgg193
  z105 := Tryz.sizeOf193
  v105 := Tryz.zeroValue193
  t116 := Tryz.underlying203
  a116 := Tryz.isAgg203
  z116 := Tryz.sizeOf203
  t117 := Tryz.underlying204
  a117 := Tryz.isAgg204
  z117 := Tryz.sizeOf204
  v117 := Tryz.zeroValue204
  t119 := Tryz.underlying243
  a119 := Tryz.isAgg243
  z119 := Tryz.sizeOf243
  t124 := Tryz.underlying207
  a124 := Tryz.isAgg207
  z124 := Tryz.sizeOf207
  v124 := Tryz.zeroValue207
  t138 := Tryz.underlying245
  a138 := Tryz.isAgg245
  z138 := Tryz.sizeOf245
  v138 := Tryz.zeroValue245
  t139 := Tryz.underlying246
  a139 := Tryz.isAgg246
  z139 := Tryz.sizeOf246
  v139 := Tryz.zeroValue246
  g3 := by kernel_rfl
  g4 := by kernel_rfl }
open Go.RowKit in
theorem Tryz.strings_Trim (s cutset : ByteArray) (w : World) (hs : s.size ≤ 9223372036854775807) (hcs : cutset.size < 4294967281) (ha : ∀ (j : Nat) b, cutset.data.toList[j]? = some b → b.toNat < 128) :
    Calls Tryz.prog 141 #[.string s, .string cutset] w fun e w' => e = .returned (.string ⟨(Lib.trimS s.data.toList cutset.data.toList).toArray⟩) ∧ Below w.heap.size w w' :=
  Any.strings_Trim_laid Tryz.lays160 (by kernel_rfl) s cutset w hs hcs ha
end Go.Proofs
namespace Go.Proofs.YtdgipencedlbmaaGreatDoor.Pr
set_option linter.unusedVariables false
set_option linter.unusedSimpArgs false
open Go.RowKit Go.Proofs.YtdgipencedlbmaaGreatDoorW.PrintWords Go.Proofs.YtdgipencedlbmaaGreatDoor.Hand
structure Num (s : ByteArray) : Prop where
  pos : 1 ≤ s.size
  small : s.size ≤ 8
  dig : ∀ c ∈ s.data.toList, 48 ≤ c.toNat ∧ c.toNat ≤ 57
  zero : (s.get! 0).toNat = 48 → s = ⟨#[48]⟩
theorem num_dec {u : Nat} (h : u < 100000000) : Num (bytesA (Lib.decDigits u)) := by
  obtain ⟨c, r, e, h1, h2, h3⟩ := dec_head u
  have hl : (Lib.decDigits u).length ≤ 8 := dec_len (d := 7) (by omega)
  refine ⟨?_, ?_, ?_, ?_⟩
  · rw [e]; simp [bytesA, ByteArray.size]
  · simpa [bytesA, ByteArray.size] using hl
  · intro c hc; exact dec_digit u c (by simpa [bytesA] using hc)
  · intro h
    have hu : u = 0 := h3 (by rw [e] at h; simpa [bytesA, ByteArray.get!] using h)
    rw [hu, dec_zero]; rfl
theorem bytes_self (s : ByteArray) : (⟨s.data.toList.toArray⟩ : ByteArray) = s := by cases s; simp
theorem num_trimPrefix {s : ByteArray} (h : Num s) : (⟨(Lib.trimPrefix s.data.toList (⟨#[45]⟩ : ByteArray).data.toList).toArray⟩ : ByteArray) = s := by
  have e : Lib.trimPrefix s.data.toList (⟨#[45]⟩ : ByteArray).data.toList = s.data.toList := by
    cases hl : s.data.toList with
    | nil => rfl
    | cons c r =>
      have hc := h.dig c (by rw [hl]; simp)
      unfold Lib.trimPrefix Lib.hasPrefix
      rw [if_neg]
      simp
      intro hx
      rw [← hx] at hc
      exact absurd hc.1 (by decide)
  rw [e, bytes_self]
theorem all_dropWhile (p : UInt8 → Bool) : ∀ (l : List UInt8), (∀ c ∈ l, p c = true) → l.dropWhile p = []
  | [], _ => rfl
  | c :: r, h => by rw [List.dropWhile_cons, if_pos (h c (by simp))]; exact all_dropWhile p r fun x hx => h x (by simp [hx])
theorem num_lead {s : ByteArray} (h : Num s) (h0 : 0 < s.size) (h1 : (s[0].toNat : Int) = 48) (h2 : (!s.toList == [48]) = true) : False := by
  have e : s.get! 0 = s[0] := by
    rw [ByteArray.getElem_eq_getElem_data]
    show s.data[0]! = _
    rw [getElem!_pos]
  have := h.zero (by rw [e]; omega)
  rw [this] at h2
  rw [toList_eq] at h2
  exact absurd h2 (by decide)
theorem num_trim {s : ByteArray} (h : Num s) : (⟨(Lib.trimS s.data.toList (⟨#[48, 49, 50, 51, 52, 53, 54, 55, 56, 57]⟩ : ByteArray).data.toList).toArray⟩ : ByteArray) = ⟨#[]⟩ := by
  have hd : ∀ c : UInt8, 48 ≤ c.toNat → c.toNat ≤ 57 → ([48, 49, 50, 51, 52, 53, 54, 55, 56, 57] : List UInt8).contains c = true := by
    have : ∀ n : Fin 58, 48 ≤ n.val → ([48, 49, 50, 51, 52, 53, 54, 55, 56, 57] : List UInt8).contains (UInt8.ofNat n.val) = true := by decide
    intro c h1 h2
    have := this ⟨c.toNat, by omega⟩ h1
    simpa using this
  have e : Lib.trimRightS s.data.toList [48, 49, 50, 51, 52, 53, 54, 55, 56, 57] = [] := by
    unfold Lib.trimRightS
    rw [List.reverse_eq_nil_iff]
    refine all_dropWhile _ _ fun c hc => ?_
    have := h.dig c (by simpa using hc)
    exact hd c this.1 this.2
  show (⟨(Lib.trimS s.data.toList [48, 49, 50, 51, 52, 53, 54, 55, 56, 57]).toArray⟩ : ByteArray) = _
  unfold Lib.trimS
  rw [e]; rfl
set_option maxHeartbeats 1000000 in
set_option maxRecDepth 100000 in
theorem WCheck_num (s : ByteArray) (hn : Num s) (w : World) :
    Calls Tryz.prog 119 #[.string s] w fun e w' => e = .returned (.int .i64 0) ∧ Below w.heap.size w w' := by
  have HN := Lib.hid hn
  have h0 := hn.pos
  have h8 := hn.small
  have hy : s.toList.isEmpty = false := by
    rw [toList_eq]
    have : s.data.toList ≠ [] := by intro h; have := (size_zero_iff s).2 h; omega
    simpa using this
  go_enter Tryz.func119, Tryz.ntmps119
  go_wp2_with (first
    | (go_at_call 140; refine (Tryz.strings_TrimPrefix _ _ _).mono ?_; rw [num_trimPrefix HN.out]; rintro e w1 ⟨rfl, rfl⟩)
    | (go_at_call 141; refine (Tryz.strings_Trim _ _ _ (by omega) (by decide) (ascii_of_all (by decide))).mono ?_; rw [num_trim HN.out]; rintro e w2 ⟨rfl, hB2⟩; have HB2 := Lib.hid hB2; clear hB2))
  all_goals first
    | (go_ret; exact ⟨rfl, HB2.out⟩)
    | (exact (num_lead HN.out (by assumption) (by assumption) (by assumption)).elim)
    | (exfalso; omega)
end Go.Proofs.YtdgipencedlbmaaGreatDoor.Pr
namespace Go.Proofs.YtdgipencedlbmaaGreatDoor.Pr
set_option linter.unusedVariables false
set_option linter.unusedSimpArgs false
open Go.RowKit Go.Proofs.YtdgipencedlbmaaGreatDoorW.PrintWords Go.Proofs.YtdgipencedlbmaaGreatDoor.Hand
def Wide (w : World) (g : Nat) (n v : Int) : Prop :=
  ∃ row : Array Value, w.heap[g]? = some (.cells row 215 (0, 0)) ∧ row[0]? = some (.bool false) ∧ row[1]? = some (.int .i64 n) ∧ row[2]? = some (.int .i64 v) ∧ row.size = 234
theorem Wide.c0 {w : World} {g : Nat} {n v : Int} (h : Wide w g n v) : w.cell? ⟨g, 0, none⟩ = some (.bool false) := by obtain ⟨r, e, h0, _⟩ := h; rw [cellB e]; exact h0
theorem Wide.c1 {w : World} {g : Nat} {n v : Int} (h : Wide w g n v) : w.cell? ⟨g, 1, none⟩ = some (.int .i64 n) := by obtain ⟨r, e, _, h1, _⟩ := h; rw [cellB e]; exact h1
theorem Wide.c2 {w : World} {g : Nat} {n v : Int} (h : Wide w g n v) : w.cell? ⟨g, 2, none⟩ = some (.int .i64 v) := by obtain ⟨r, e, _, _, h2, _⟩ := h; rw [cellB e]; exact h2
theorem Wide.lt {w : World} {g : Nat} {n v : Int} (h : Wide w g n v) : g < w.heap.size := by
  obtain ⟨r, e, _⟩ := h
  rcases Nat.lt_or_ge g w.heap.size with h | h
  · exact h
  · rw [Array.getElem?_eq_none h] at e; cases e
theorem Wide.fr {w : World} {g : Nat} {n v : Int} (h : Wide w g n v) (j : Nat) : w.frozen? ⟨g, j, none⟩ = false := by obtain ⟨r, e, _⟩ := h; exact frozen_of_row w g j r 215 e
theorem Wide.set1 {w : World} {g : Nat} {n v : Int} (h : Wide w g n v) (m : Int) : Wide (w.setCell ⟨g, 1, none⟩ (.int .i64 m)) g m v := by
  obtain ⟨r, e, h0, h1, h2, hz⟩ := h
  exact ⟨_, heap_setCell_same w g 1 r 215 (.int .i64 m) e, by rw [Array.getElem?_setIfInBounds_ne (by decide)]; exact h0, by rw [Array.getElem?_setIfInBounds_self_of_lt (by omega)], by rw [Array.getElem?_setIfInBounds_ne (by decide)]; exact h2, by simpa using hz⟩
theorem Wide.set2 {w : World} {g : Nat} {n v : Int} (h : Wide w g n v) (m : Int) : Wide (w.setCell ⟨g, 2, none⟩ (.int .i64 m)) g n m := by
  obtain ⟨r, e, h0, h1, h2, hz⟩ := h
  exact ⟨_, heap_setCell_same w g 2 r 215 (.int .i64 m) e, by rw [Array.getElem?_setIfInBounds_ne (by decide)]; exact h0, by rw [Array.getElem?_setIfInBounds_ne (by decide)]; exact h1, by rw [Array.getElem?_setIfInBounds_self_of_lt (by omega)], by simpa using hz⟩
theorem Wide.keep {w w' : World} {g B : Nat} {n v : Int} (h : Wide w g n v) (hb : Below B w w') (hg : g < B) : Wide w' g n v := by
  obtain ⟨r, e, h⟩ := h; exact ⟨r, below_keeps hb hg e, h⟩
theorem Wide.drewN {w : World} {g : Nat} {n v : Int} (h : Wide w g n v) (k : Nat) : Wide (w.drewN k) g n v := h
theorem Wide.drew {w : World} {g : Nat} {n v : Int} (h : Wide w g n v) : Wide w.drew g n v := h
def nz (v : Int) : Int := if v = 0 then 0 else 1
theorem nz_pos {v : Int} (h : ¬ v = 0) : nz v = 1 := if_neg h
def nOf (w : World) (g : Nat) : Nat := match w.cell? ⟨g, 1, none⟩ with | some v => (intOf v).toNat | none => 0
theorem nOf_eq {w : World} {g : Nat} {n : Int} (h : w.cell? ⟨g, 1, none⟩ = some (.int .i64 n)) : nOf w g = n.toNat := by unfold nOf; rw [h]; rfl
theorem but_refl (g : Nat) (w : World) : But g w w := ⟨rfl, rfl, rfl, Nat.le_refl _, fun _ _ _ => rfl⟩
theorem but_set1 (W : World) (g i : Nat) (v : Value) : But g W (W.setCell ⟨g, i, none⟩ v) :=
  ⟨rfl, rfl, rfl, by simp, fun k _ hk => heap_setCell_other W ⟨g, i, none⟩ k v hk⟩
theorem but_draws {g : Nat} {w w' : World} (h : But g w w') (k : Nat) : But g w (w'.drewN k) := ⟨h.os, h.tape, h.output, h.size, h.block⟩
set_option maxHeartbeats 1000000 in
set_option maxRecDepth 100000 in
theorem trimmed_calls (g : Nat) (v : Int) (w : World) (h : Wide w g 1 v) :
    Calls Tryz.prog 198 #[.pointer (some ⟨g, 0, none⟩)] w fun e w' => e = .returned (.pointer (some ⟨g, 0, none⟩)) ∧ Wide w' g (nz v) v ∧ But g w w' ∧ w'.heap.size = w.heap.size := by
  have HW := Lib.hid h
  clear h
  go_enter Tryz.func198, Tryz.ntmps198
  go_wp2
  go_loopw [3, 4, 5, 6, 7, 8, 9, 10, 11, 12, 13, 14, 15, 16, 17, 18, 19, 20, 21, 22, 23, 24, 25, 26, 27] (fun _ _ _ _ _ _ _ _ _ _ _ _ _ _ _ _ _ _ _ _ _ _ _ _ _ wr => ∃ n : Int, (n = 1 ∨ (n = 0 ∧ v = 0)) ∧ Hid (Wide wr g n v) ∧ Hid (But g w wr ∧ wr.heap.size = w.heap.size)) (fun _ _ _ _ _ _ _ _ _ _ _ _ _ _ _ _ _ _ _ _ _ _ _ _ _ wr => nOf wr g)
  case atStart => exact ⟨1, Or.inl rfl, HW, ⟨⟨rfl, rfl, rfl, Nat.le_refl _, fun _ _ _ => rfl⟩, rfl⟩⟩
  case round =>
    obtain ⟨n, hn, HR, HB⟩ := hrel
    have q1 := HR.out.c1
    have q2 := HR.out.c2
    have f1 := HR.out.fr 1
    rcases hn with rfl | ⟨rfl, rfl⟩
    · by_cases hv : v = 0
      · subst hv
        go_wp2
        go_quiet (fail)
        go_wp2
        refine ⟨⟨0, Or.inr ⟨rfl, trivial⟩, (HR.out.drewN _).set1 0, ?_, ?_⟩, ?_⟩
        · exact HB.out.1.trans ((but_draws (but_refl _ _) _).trans (but_set1 _ _ _ _))
        · rw [World.size_setCell]; exact HB.out.2
        · rw [nOf_eq ((HR.out.drewN _).set1 0).c1, nOf_eq HR.out.c1]; decide
      · have d1 : (v == 0) = false := by simpa using hv
        go_wp2
        go_quiet (fail)
        go_wp2
        go_ret
        exact ⟨rfl, (by rw [nz_pos hv]; exact HR.out.drewN _), but_draws HB.out.1 _, HB.out.2⟩
    · go_wp2
      go_quiet (fail)
      go_wp2
      go_ret
      exact ⟨rfl, HR.out.drewN _, but_draws HB.out.1 _, HB.out.2⟩
theorem extract_all (s : ByteArray) : s.extract 0 s.size = s := by
  apply ByteArray.ext; simp
theorem drew_below {w w' : World} (h : Below w.drew.heap.size w.drew w') : Below w.heap.size w w' := ⟨h.os, h.tape, h.output, h.size, h.block⟩
theorem atoi_below {w w' : World} (h : w' = w ∨ ∃ t, w' = Lib.bytesWorld w 5 t) : Below w.heap.size w w' := by
  rcases h with rfl | ⟨t, rfl⟩
  · exact Below.refl _ _
  · exact below_bytes w 5 t
theorem atoi_all (s : ByteArray) (v : Nat) (w : World) (hs : s.size ≤ 8) (h : Lib.atoiAll s.data.toList = .ok (v : Int)) :
    Calls Tryz.prog 68 #[.string s] w fun e w' => e = .returned (.tuple #[.int .i64 v, .nilIface]) ∧ Below w.heap.size w w' := by
  refine (Tryz.strconv_Atoi_ok s (by omega) _ h w).mono ?_
  rintro e w' ⟨rfl, hB⟩
  exact ⟨rfl, atoi_below hB⟩
def szOf : Value → Nat | .string s => s.size | _ => 0
def zw : Array Value := #[.bool false, .int .i64 0] ++ Array.replicate 232 (.int .i64 0)
theorem built_zw : Tryz.prog.built 215 [(0, Value.bool false)] = some zw := by kernel_rfl
theorem wide_new {w : World} {g : Nat} (h : w.heap[g]? = some (.cells zw 215 (0, 0))) : Wide w g 0 0 := ⟨zw, h, by simp [zw], by simp [zw], by simp [zw, Array.getElem?_append, Array.getElem?_replicate], by simp [zw]⟩
set_option maxHeartbeats 4000000 in
set_option maxRecDepth 100000 in
theorem read_calls (s : ByteArray) (v : Nat) (w : World) (hn : Num s) (hv : Lib.atoiAll s.data.toList = .ok (v : Int)) :
    Calls Tryz.prog 175 #[.string s] w fun e w' => ∃ g, w.heap.size ≤ g ∧ e = .returned (.pointer (some ⟨g, 0, none⟩)) ∧ Wide w' g (nz v) v ∧ Below w.heap.size w w' := by
  have HN := Lib.hid hn
  have HV := Lib.hid hv
  have h0 := hn.pos
  have h8 := hn.small
  have hc : (s[0].toNat : Int) ≠ 45 := by
    have := hn.dig s[0] (by rw [ByteArray.getElem_eq_getElem_data, ← Array.getElem_toList]; exact List.getElem_mem _)
    omega
  have hd : ((s[0].toNat : Int) == 45) = false := by simpa using hc
  clear hv hn hc
  go_enter Tryz.func175, Tryz.ntmps175
  go_wp2_with (first
    | ((with_reducible refine build_event rfl 215 _ rfl zw ?hf ?_); (case hf => exact built_zw))
    | ((with_reducible refine box_abs rfl 215 _ rfl zw ?hx ?_); (case hx => rfl); intro g hg w1 hg1 hB1 hs1; have HG := Lib.hid hg; have HW1 := Lib.hid (wide_new hg1); have HB1 := Lib.hid hB1; have HS1 := Lib.hid hs1; clear hg hg1 hB1 hs1)
    | (go_at_call 140; refine (Tryz.strings_TrimPrefix _ _ _).mono ?_; rw [num_trimPrefix HN.out]; rintro e w2 ⟨rfl, rfl⟩))
  have HB := Lib.hid HB1.out
  have HGL := Lib.hid (show w.heap.size ≤ g by rw [HG.out]; exact Nat.le_refl _)
  go_loopw [3, 5, 14, 15, 16, 17, 18, 19, 20, 21, 22, 23, 24, 25, 26, 27, 28, 29, 30, 31, 32, 33, 34, 35, 36, 37, 38, 39, 40, 41, 42, 43, 44, 45] (fun t _ _ _ _ _ _ _ _ _ _ _ _ _ _ _ _ _ _ _ _ _ _ _ _ _ _ _ _ _ _ _ _ _ wr => Hid ((t = .string s ∧ Wide wr g 0 0) ∨ (t = .string ⟨#[]⟩ ∧ Wide wr g 1 v)) ∧ Hid (Below w.heap.size w wr)) (fun t _ _ _ _ _ _ _ _ _ _ _ _ _ _ _ _ _ _ _ _ _ _ _ _ _ _ _ _ _ _ _ _ _ _ => szOf t)
  case atStart => exact ⟨Or.inl ⟨rfl, HW1.out⟩, HB1.out⟩
  case round =>
    obtain ⟨hor, hbl⟩ := hrel
    rcases hor.out with ⟨rfl, hw⟩ | ⟨rfl, hw⟩
    · have HR := Lib.hid hw
      have q1 := hw.c1
      have q2 := hw.c2
      have f1 := hw.fr 1
      have f2 := hw.fr 2
      clear hw hor
      have hmx : max (0 : Int) ((s.size : Int) - 9) = 0 := by omega
      go_wp2
      go_region_held3 (fun W' => W'.cell? ⟨g, 1, none⟩ = some (.int .i64 0)) (first | exact q1 | exact (HR4.out.set2 _).c1 | go_keep) (first | (go_at_call 68; refine (atoi_all s v _ h8 HV.out).mono ?_; rintro e w4 ⟨rfl, hB4⟩; have HB4 := Lib.hid (drew_below hB4); have HR4 := Lib.hid (HR.out.keep HB4.out HR.out.lt); have q1 := HR4.out.c1; have q2 := HR4.out.c2; have f1 := HR4.out.fr 1; have f2 := HR4.out.fr 2; clear hB4))
      have q1' := (HR4.out.set2 v).c1
      have f1' := (HR4.out.set2 v).fr 1
      go_wp2
      have hbw := below_then hbl.out HB4.out
      refine ⟨⟨Or.inr ⟨rfl, (HR4.out.set2 v).set1 1⟩, ?_⟩, ?_⟩
      · exact ((but_set1 w4 g 2 (.int .i64 v)).trans (but_set1 _ g 1 (.int .i64 1))).below hbw HGL.out hbw.size
      · show 0 < s.size
        omega
    · have HR := Lib.hid hw
      clear hw hor
      go_wp2_with (go_at_call 198; refine (trimmed_calls g v _ HR.out).mono ?_; rintro e w5 ⟨rfl, hW5, hB5, hz5⟩)
      go_ret
      exact ⟨g, HGL.out, rfl, hW5, hB5.below hbl.out HGL.out (Nat.le_trans HGL.out (Nat.le_of_lt HR.out.lt))⟩
end Go.Proofs.YtdgipencedlbmaaGreatDoor.Pr
namespace Go.Proofs.YtdgipencedlbmaaGreatDoor.Pr
set_option linter.unusedVariables false
set_option linter.unusedSimpArgs false
open Go.RowKit Go.Proofs.YtdgipencedlbmaaGreatDoorW.PrintWords Go.Proofs.YtdgipencedlbmaaGreatDoor.Hand
theorem pick2 {w : World} {g k : Nat} {a b : ByteArray} {t : TypeId} (h : w.heap[g]? = some (.cells #[.string a, .string b] t (0, 0))) (hk : k < 2) (ha : Num a) (hb : Num b) :
    ∃ s, w.cell? ⟨g, k, none⟩ = some (.string s) ∧ Num s := by
  rcases (show k = 0 ∨ k = 1 by omega) with rfl | rfl
  · exact ⟨a, cellB h 0, ha⟩
  · exact ⟨b, cellB h 1, hb⟩
set_option maxHeartbeats 1000000 in
set_option maxRecDepth 100000 in
theorem all_calls (g : Nat) (a b : ByteArray) (t : TypeId) (w : World) (hg : w.heap[g]? = some (.cells #[.string a, .string b] t (0, 0))) (ha : Num a) (hb : Num b) :
    Calls Tryz.prog 174 #[.slice (some ⟨g, 0, none⟩) 2 2] w fun e w' => e = .returned (.int .i64 0) ∧ Below w.heap.size w w' := by
  have HG := Lib.hid hg
  have HA := Lib.hid ha
  have HB := Lib.hid hb
  have HL := Lib.hid (blk_lt hg)
  clear hg ha hb
  go_enter Tryz.func174, Tryz.ntmps174
  go_wp2
  go_loopw [4, 5, 8, 9, 10, 11, 12, 13, 14, 15, 16, 17] (fun _ _ i _ _ _ _ _ _ _ _ _ wr => ∃ k : Nat, k ≤ 2 ∧ i = .int .i64 k ∧ Hid (Below w.heap.size w wr)) (fun _ _ i _ _ _ _ _ _ _ _ _ _ => 2 - (intOf i).toNat)
  case atStart => exact ⟨0, by omega, rfl, Below.refl _ _⟩
  case round =>
    obtain ⟨k, hk, rfl, hB⟩ := hrel
    by_cases hlt : k < 2
    · obtain ⟨s, hs, hn⟩ := pick2 (below_keeps hB.out HL.out HG.out) hlt HA.out HB.out
      have HN := Lib.hid hn
      clear hn
      go_wp2_with (go_at_call 119; refine (WCheck_num s HN.out _).mono ?_; rintro e w2 ⟨rfl, hB2⟩; have HB2 := Lib.hid (below_then hB.out hB2); clear hB2)
      go_round
      case rel => exact ⟨k + 1, by omega, by go_num, HB2⟩
      case measure => simp [intOf]; omega
    · have hk2 : k = 2 := by omega
      subst hk2
      go_wp2
      go_ret
      exact ⟨rfl, hB.out⟩
end Go.Proofs.YtdgipencedlbmaaGreatDoor.Pr
namespace Go.Proofs.YtdgipencedlbmaaGreatDoor.Pr
set_option linter.unusedVariables false
set_option linter.unusedSimpArgs false
open Go.RowKit Go.Proofs.YtdgipencedlbmaaGreatDoorW.PrintWords Go.Proofs.YtdgipencedlbmaaGreatDoor.Hand
theorem rowsA {w w2 : World} {b : Nat} {o : Obj} (h2 : Below w.heap.size w w2) (hz : b < w2.heap.size) (he : w2.heap[b]? = some o) :
    Calls Tryz.prog 54 #[] w2.drew fun e w4 => e = .returned (.agg rowsC) ∧ Below w.heap.size w w4 ∧ w4.heap[b]? = some o :=
  (rows_calls w2.drew).mono fun e w4 ⟨h, hb⟩ => ⟨h, below_then (below_drew h2) hb, below_keeps hb hz he⟩
theorem rowsB {w w2 : World} {b : Nat} {o q : Obj} (h2 : Below w.heap.size w w2) (hz : b < w2.heap.size) (he : w2.heap[b]? = some o) :
    Calls Tryz.prog 54 #[] (w2.alloc q).drew fun e w4 => e = .returned (.agg rowsC) ∧ Below w.heap.size w w4 ∧ w4.heap[b]? = some o ∧ w4.heap[w2.heap.size]? = some q :=
  (rows_calls (w2.alloc q).drew).mono fun e w4 ⟨h, hb⟩ => ⟨h, below_then (below_drew (below_alloc h2 _)) hb, below_keeps hb (show b < (w2.alloc q).heap.size by simp; omega) ((heap_alloc_old w2 _ hz).trans he), below_keeps hb (show w2.heap.size < (w2.alloc q).heap.size by simp) (heap_alloc_new w2 q)⟩
theorem row_cells {W : World} {g : Nat} {a0 a1 a2 : Value} {t : TypeId} {fr : Nat × Nat} (h : W.heap[g]? = some (.cells #[a0, a1, a2] t fr)) :
    W.cell? ⟨g, 0, none⟩ = some a0 ∧ W.cell? ⟨g, 1, none⟩ = some a1 ∧ W.cell? ⟨g, 2, none⟩ = some a2 := ⟨cellB h 0, cellB h 1, cellB h 2⟩
structure TW (w : World) (b rb : Nat) (s wd : ByteArray) (n : Int) (pl : Bool) (W : World) : Prop where
  below : Below w.heap.size w W
  word : W.cell? ⟨rb, 0, none⟩ = some (.string wd)
  plain : W.cell? ⟨rb, 1, none⟩ = some (.bool pl)
  e1 : W.cell? ⟨b, 1, none⟩ = some (.string s)
  e2 : W.cell? ⟨b, 2, none⟩ = some (.int .i64 n)
  lb : b < W.heap.size
  lr : rb < W.heap.size
theorem TW.keep {w W W' : World} {b rb : Nat} {s wd : ByteArray} {n : Int} {pl : Bool} (h : TW w b rb s wd n pl W) (hb : Below W.heap.size W W') : TW w b rb s wd n pl W' := by
  have e : ∀ g j, g < W.heap.size → W'.cell? ⟨g, j, none⟩ = W.cell? ⟨g, j, none⟩ := fun g j hg => hb.cell (p := ⟨g, j, none⟩) hg
  exact ⟨below_then h.below hb, by rw [e _ _ h.lr]; exact h.word, by rw [e _ _ h.lr]; exact h.plain, by rw [e _ _ h.lb]; exact h.e1, by rw [e _ _ h.lb]; exact h.e2, Nat.lt_of_lt_of_le h.lb hb.size, Nat.lt_of_lt_of_le h.lr hb.size⟩
theorem TW_A {w w4 : World} {b : Nat} {s wd : ByteArray} {k n : Int} {pl : Bool} {v : Value} {t : TypeId} (hB : Below w.heap.size w w4) (hE : w4.heap[b]? = some (.cells #[.int .i64 k, .string s, .int .i64 n] t (0, 0))) :
    TW w b w4.heap.size s wd n pl (w4.alloc (.cells #[.string wd, .bool pl, v] 92)) := by
  have hl := blk_lt hE
  have hb : (w4.alloc (.cells #[.string wd, .bool pl, v] 92)).heap[b]? = some (.cells #[.int .i64 k, .string s, .int .i64 n] t (0, 0)) := (heap_alloc_old w4 _ hl).trans hE
  have hr := heap_alloc_new w4 (.cells #[.string wd, .bool pl, v] 92)
  exact ⟨below_alloc hB _, cellB hr 0, cellB hr 1, cellB hb 1, cellB hb 2, by simp; omega, by simp⟩
theorem TW_B {w w2 w4 : World} {b : Nat} {s wd : ByteArray} {k n : Int} {pl : Bool} {v z0 z1 z2 : Value} {t : TypeId} (h2 : Below w.heap.size w w2) (hl2 : b < w2.heap.size) (hB : Below w.heap.size w w4) (hE : w4.heap[b]? = some (.cells #[.int .i64 k, .string s, .int .i64 n] t (0, 0)))
    (hR : w4.heap[w2.heap.size]? = some (.cells #[z0, z1, z2] 92 (0, 0))) :
    TW w b w2.heap.size s wd n pl (((w4.setCell ⟨w2.heap.size, 0, none⟩ (.string wd)).setCell ⟨w2.heap.size, 1, none⟩ (.bool pl)).setCell ⟨w2.heap.size, 2, none⟩ v) := by
  have hne : b ≠ w2.heap.size := Nat.ne_of_lt hl2
  have hb : (((w4.setCell ⟨w2.heap.size, 0, none⟩ (.string wd)).setCell ⟨w2.heap.size, 1, none⟩ (.bool pl)).setCell ⟨w2.heap.size, 2, none⟩ v).heap[b]? = some (.cells #[.int .i64 k, .string s, .int .i64 n] t (0, 0)) := by
    rw [heap_setCell_other _ _ _ _ hne, heap_setCell_other _ _ _ _ hne, heap_setCell_other _ _ _ _ hne]; exact hE
  have hr := heap_setCell_same _ w2.heap.size 2 _ 92 v (heap_setCell_same _ w2.heap.size 1 _ 92 (.bool pl) (heap_setCell_same w4 w2.heap.size 0 _ 92 (.string wd) hR))
  have f : But w2.heap.size w4 (((w4.setCell ⟨w2.heap.size, 0, none⟩ (.string wd)).setCell ⟨w2.heap.size, 1, none⟩ (.bool pl)).setCell ⟨w2.heap.size, 2, none⟩ v) := ((but_setCell _ _ _ _).trans (but_setCell _ _ _ _)).trans (but_setCell _ _ _ _)
  exact ⟨f.below hB h2.size hB.size, cellB hr 0, cellB hr 1, cellB hb 1, cellB hb 2, blk_lt hb, blk_lt hr⟩
theorem exit_world {K : Act → World → Prop} {Q : Exit → Act → World → Prop} {a : Act} {W : World} (F : World → Prop) (hF : F W) (h : ∀ w5, F w5 → Exit.then K Q .normal a w5) : Exit.then K Q .normal a W := h W hF
theorem itoa_len {n : Int} (h0 : 0 ≤ n) (h1 : n ≤ 1048576) : (Lib.itoa n).length ≤ 7 := by
  have e : Lib.itoa n = Lib.decDigits n.toNat := by unfold Lib.itoa; rw [if_neg (by omega)]
  rw [e]
  have h : ∀ (d : Nat) (u : Nat), u < 10 ^ (d + 1) → (Lib.decDigits u).length ≤ d + 1 := by
    intro d
    induction d with
    | zero => intro u hu; unfold Lib.decDigits; rw [dif_pos (by simpa using hu)]; simp
    | succ d ih =>
      intro u hu
      unfold Lib.decDigits
      split
      · simp
      · have := ih (u / 10) (by rw [Nat.div_lt_iff_lt_mul (by omega)]; rw [Nat.pow_succ] at hu; exact hu)
        simp; omega
  exact h 6 n.toNat (by omega)
theorem itoa_size {n : Int} (h0 : 0 ≤ n) (h1 : n ≤ 1048576) : (bytesA (Lib.itoa n)).size ≤ 7 := by
  have := itoa_len h0 h1
  simpa [bytesA, ByteArray.size] using this
theorem below_of_drew {w w' : World} (h : Below w.drew.heap.size w.drew w') : Below w.heap.size w w' := ⟨h.os, h.tape, h.output, h.size, h.block⟩
theorem text_ret {a b : ByteArray} (h : a = b) : Ending.returned (.tuple #[.string a, .int .i64 0]) = Ending.returned (.tuple #[.string b, .int .i64 0]) := by rw [h]
theorem bytes_ext {a b : ByteArray} (h : a.data.toList = b.data.toList) : a = b := data_inj.1 h
theorem plain_text {k : Int} (n : Int) (s : ByteArray) {wd : ByteArray} (hk : 5 ≤ k) (hw : wordS k = wd.data.toList) : wd ++ (⟨#[32]⟩ ++ s) = bytesA (textL k s.data.toList n) := by
  apply bytes_ext
  unfold textL
  rw [if_pos hk, hw]
  simp [bytesA, ByteArray.data_append]
theorem count_text {k : Int} (n : Int) (s : ByteArray) {wd : ByteArray} (hk : ¬ 5 ≤ k) (hw : wordS k = wd.data.toList) : wd ++ (⟨#[32]⟩ ++ (s ++ (⟨#[32]⟩ ++ bytesA (Lib.itoa n)))) = bytesA (textL k s.data.toList n) := by
  apply bytes_ext
  unfold textL
  rw [if_neg hk, hw]
  simp [bytesA, ByteArray.data_append]
theorem itoa_calls (n : Int) (h0 : -9223372036854775808 ≤ n) (h1 : n ≤ 9223372036854775807) (w : World) (hG : GOOD w) : Calls Tryz.prog 60 #[.int .i64 n] w fun e w' => e = .returned (.string (bytesA (Lib.itoa n))) ∧ Below w.heap.size w w' := by
  refine (Tryz.strconv_Itoa n h0 h1 w hG.tab).mono ?_
  rintro e w' ⟨rfl, k, os, rfl⟩
  exact ⟨rfl, Lib.below_grow w.heap.size w (Nat.le_refl _) k os⟩
end Go.Proofs.YtdgipencedlbmaaGreatDoor.Pr
namespace Go.Proofs.YtdgipencedlbmaaGreatDoor.Pr
set_option linter.unusedVariables false
set_option linter.unusedSimpArgs false
open Go.RowKit Go.Proofs.YtdgipencedlbmaaGreatDoorW.PrintWords Go.Proofs.YtdgipencedlbmaaGreatDoor.Hand
set_option maxHeartbeats 1000000 in
set_option maxRecDepth 100000 in
theorem WOf_calls (n : Int) (h0 : -9223372036854775808 ≤ n) (h1 : n ≤ 9223372036854775807) (w : World) (hG : GOOD w) :
    Calls Tryz.prog 101 #[.int .i64 n] w fun e w' => e = .returned (.string (bytesA (Lib.itoa n))) ∧ Below w.heap.size w w' := by
  go_enter Tryz.func101, Tryz.ntmps101
  go_wp2_with (go_at_call 60; refine (itoa_calls n h0 h1 _ hG).mono ?_; rintro e w2 ⟨rfl, hB2⟩)
  go_ret
  exact ⟨rfl, hB2⟩
set_option maxHeartbeats 1000000 in
set_option maxRecDepth 100000 in
theorem small_calls (a b : ByteArray) (m n : Nat) (w : World) (ha : Num a) (hb : Num b) (hm : Lib.atoiAll a.data.toList = .ok (m : Int)) (hn : Lib.atoiAll b.data.toList = .ok (n : Int)) :
    Calls Tryz.prog 205 #[.string a, .string b] w fun e w' => e = .returned (.tuple #[.int .i64 m, .int .i64 n, .bool true]) ∧ Below w.heap.size w w' := by
  have a8 := ha.small
  have b8 := hb.small
  have d1 : decide (9 < (a.size : Int)) = false := decide_eq_false (by omega)
  have d2 : decide (9 < (b.size : Int)) = false := decide_eq_false (by omega)
  have HM := Lib.hid hm
  have HN := Lib.hid hn
  clear hm hn ha hb
  go_enter Tryz.func205, Tryz.ntmps205
  go_wp2_with (first
    | (go_at_call 68; with_reducible refine (atoi_all a m _ a8 HM.out).mono ?_; rintro e w2 ⟨rfl, hB2⟩; have HB2 := Lib.hid hB2; clear hB2)
    | (go_at_call 68; with_reducible refine (atoi_all b n _ b8 HN.out).mono ?_; rintro e w3 ⟨rfl, hB3⟩; have HB3 := Lib.hid (below_then HB2.out hB3); clear hB3))
  go_ret3
  exact ⟨rfl, HB3.out⟩
end Go.Proofs.YtdgipencedlbmaaGreatDoor.Pr
namespace Go.Proofs.YtdgipencedlbmaaGreatDoor.Pr
set_option linter.unusedVariables false
set_option linter.unusedSimpArgs false
open Go.RowKit Go.Proofs.YtdgipencedlbmaaGreatDoorW.PrintWords Go.Proofs.YtdgipencedlbmaaGreatDoor.Hand
set_option maxHeartbeats 2000000 in
set_option maxRecDepth 100000 in
theorem Gcd_calls (a b : ByteArray) (m n : Nat) (w : World) (hG : GOOD w) (ha : Num a) (hb : Num b) (hm : Lib.atoiAll a.data.toList = .ok (m : Int)) (hn : Lib.atoiAll b.data.toList = .ok (n : Int))
    (hm8 : m < 100000000) (hn8 : n < 100000000) (hn1 : 1 ≤ n) :
    Calls Tryz.prog 143 #[.string a, .string b] w fun e w' => e = .returned (.tuple #[.string (bytesA (Lib.itoa (m.gcd n : Nat))), .int .i64 0]) ∧ Below w.heap.size w w' := by
  have HA := Lib.hid ha
  have HB := Lib.hid hb
  have HM := Lib.hid hm
  have HN := Lib.hid hn
  clear ha hb hm hn
  go_enter Tryz.func143, Tryz.ntmps143
  go_wp2_with (first
    | (go_at_call 174; with_reducible refine (all_calls w.heap.size a b 141 _ (heap_alloc_new w _) HA.out HB.out).mono ?_; rintro e w2 ⟨rfl, hB2⟩; have HB2 := Lib.hid (below_then (below_alloc (Below.refl _ _) _) hB2); clear hB2)
    | (go_at_call 175; with_reducible refine (read_calls a m _ HA.out HM.out).mono ?_; rintro e w3 ⟨g, hg, rfl, hW3, hB3⟩; have HW3 := Lib.hid hW3; have HL3 := Lib.hid hB3; have HB3 := Lib.hid (below_then HB2.out hB3); clear hB3 hW3)
    | (go_at_call 175; with_reducible refine (read_calls b n _ HB.out HN.out).mono ?_; rintro e w4 ⟨g', hg', rfl, hW4, hB4⟩; have HX4 := Lib.hid (HW3.out.keep hB4 HW3.out.lt); have HW4 := Lib.hid hW4; have HB4 := Lib.hid (below_then HB3.out hB4); clear hB4 hW4))
  have HY4 := Lib.hid (show Wide w4 g' 1 n by have := HW4.out; rwa [nz_pos (by omega)] at this)
  go_loopw [7, 8, 9, 10, 11, 12, 24, 25, 26, 27, 28, 29, 30, 31, 32, 33, 34, 35, 36, 37, 38, 39, 40, 41, 42, 43, 44, 45, 46, 47, 48, 49, 50, 51, 52, 53, 54, 55, 56, 57, 58, 59, 60, 61, 62, 63, 64, 65, 66] (fun x y _ _ _ _ _ _ _ _ _ _ _ _ _ _ _ _ _ _ _ _ _ _ _ _ _ _ _ _ _ _ _ _ _ _ _ _ _ _ _ _ _ _ _ _ _ _ _ wr => x = .pointer (some ⟨g, 0, none⟩) ∧ y = .pointer (some ⟨g', 0, none⟩) ∧ Hid (Wide wr g (nz m) m) ∧ Hid (Wide wr g' 1 n) ∧ Hid (Below w.heap.size w wr)) (fun _ _ _ _ _ _ _ _ _ _ _ _ _ _ _ _ _ _ _ _ _ _ _ _ _ _ _ _ _ _ _ _ _ _ _ _ _ _ _ _ _ _ _ _ _ _ _ _ _ _ => 0)
  case atStart => exact ⟨rfl, rfl, HX4, HY4, HB4⟩
  case round =>
    obtain ⟨rfl, rfl, hx, hy, hbl⟩ := hrel
    have q1 := hx.out.c1
    have q2 := hx.out.c2
    have q3 := hy.out.c1
    have q4 := hy.out.c2
    obtain ⟨z, hz⟩ : ∃ z, nz (m : Int) = z := ⟨_, rfl⟩
    have d1 : decide (z ≤ 1) = true := decide_eq_true (by rw [← hz]; unfold nz; split <;> omega)
    rw [hz] at q1
    clear hz
    go_wp2
    go_quiet (fail)
    go_wp2
    go_loopw [9, 10, 51, 52, 53, 54, 55, 56] (fun x y _ _ _ _ _ _ wr2 => ∃ p q : Nat, x = .int .i64 p ∧ y = .int .i64 q ∧ p < 100000000 ∧ q < 100000000 ∧ Hid (p.gcd q = m.gcd n) ∧ Hid (Below w.heap.size w wr2)) (fun _ y _ _ _ _ _ _ _ => (intOf y).toNat)
    case atStart => exact ⟨m, n, rfl, rfl, hm8, hn8, rfl, below_then hbl.out ⟨rfl, rfl, rfl, Nat.le_refl _, fun _ _ => rfl⟩⟩
    case round =>
      obtain ⟨p, q, rfl, rfl, hp, hq, hgcd, hbl2⟩ := hrel
      by_cases hq0 : q = 0
      · subst hq0
        have e := hgcd.out
        rw [Nat.gcd_zero_right] at e
        subst e
        go_wp2_with (go_at_call 101; refine (WOf_calls _ (by omega) (by omega) _ (hG.below hbl2.out)).mono ?_; rintro e w6 ⟨rfl, hB6⟩)
        go_ret2
        subst_vars
        exact ⟨rfl, below_then hbl2.out hB6⟩
      · have hqz : ((q : Int) == 0) = false := by simpa using hq0
        have hqn : ((q : Int) != 0) = true := by simpa using hq0
        go_wp2
        go_quiet (fail)
        go_wp2
        refine ⟨⟨q, p % q, rfl, by rw [Int.natCast_emod], hq, Nat.lt_of_le_of_lt (Nat.mod_le _ _) hp, ?_, ?_⟩, ?_⟩
        · show q.gcd (p % q) = m.gcd n
          rw [← hgcd.out, Nat.gcd_comm q, ← Nat.gcd_rec, Nat.gcd_comm]
        · exact below_then hbl2.out ⟨rfl, rfl, rfl, Nat.le_refl _, fun _ _ => rfl⟩
        · show ((p : Int) % (q : Int)).toNat < (q : Int).toNat
          rw [← Int.natCast_emod, Int.toNat_natCast, Int.toNat_natCast]
          exact Nat.mod_lt _ (by omega)
end Go.Proofs.YtdgipencedlbmaaGreatDoor.Pr
namespace Go.Proofs.YtdgipencedlbmaaGreatDoor.Pr
set_option linter.unusedVariables false
set_option linter.unusedSimpArgs false
open Go.RowKit Go.Proofs.YtdgipencedlbmaaGreatDoorW.PrintWords Go.Proofs.YtdgipencedlbmaaGreatDoor.Hand
theorem itoa_nat (n : Nat) : Lib.itoa (n : Int) = Lib.decDigits n := by unfold Lib.itoa; rw [if_neg (by omega), Int.toNat_natCast]
theorem num_not_zero {b : ByteArray} {n : Nat} (hn : Lib.atoiAll b.data.toList = .ok (n : Int)) (h1 : 1 ≤ n) : (b.toList == [48]) = false := by
  rw [toList_eq, beq_eq_false_iff_ne]
  intro h
  rw [h] at hn
  have : Lib.atoiAll [48] = .ok (0 : Int) := by have := atoi_dec 0 (by decide); rwa [dec_zero] at this
  rw [this] at hn
  injection hn with hn
  omega
theorem quo_nat {m n : Nat} (h : m < 100000000) : wrap64 ((m : Int) / (n : Int)) = ((m / n : Nat) : Int) := by
  have := Nat.div_le_self m n
  rw [← Int.natCast_ediv]
  obtain ⟨q, hq⟩ : ∃ q, m / n = q := ⟨_, rfl⟩
  rw [hq] at this ⊢
  unfold wrap64; omega
theorem nat_range {q : Nat} (h : q < 100000000) : -9223372036854775808 ≤ (q : Int) ∧ (q : Int) ≤ 9223372036854775807 := by omega
theorem Calls.cast101 {v v' : Int} {w : World} {Q : Ending → World → Prop} (h : v = v') (hc : Calls Tryz.prog 101 #[.int .i64 v'] w Q) : Calls Tryz.prog 101 #[.int .i64 v] w Q := h ▸ hc
set_option maxHeartbeats 2000000 in
set_option maxRecDepth 100000 in
theorem parted_calls (a b : ByteArray) (m n : Nat) (w : World) (hG : GOOD w) (ha : Num a) (hb : Num b) (hm : Lib.atoiAll a.data.toList = .ok (m : Int)) (hn : Lib.atoiAll b.data.toList = .ok (n : Int))
    (hm8 : m < 100000000) (hn8 : n < 100000000) (hn1 : 1 ≤ n) :
    Calls Tryz.prog 180 #[.string a, .string b] w fun e w' => e = .returned (.tuple #[.string (bytesA (Lib.itoa (m / n : Nat))), .string (bytesA (Lib.itoa (m % n : Nat))), .int .i64 0]) ∧ Below w.heap.size w w' := by
  have HA := Lib.hid ha
  have HB := Lib.hid hb
  have HM := Lib.hid hm
  have HN := Lib.hid hn
  have hz := num_not_zero hn hn1
  clear ha hb hm hn
  have hnz : ((n : Int) == 0) = false := by rw [beq_eq_false_iff_ne]; omega
  have hn0 : decide ((n : Int) < 0) = false := decide_eq_false (by omega)
  have hr0 : decide ((m : Int) % (n : Int) < 0) = false := decide_eq_false (by have := Int.emod_nonneg (m : Int) (show (n : Int) ≠ 0 by omega); omega)
  go_enter Tryz.func180, Tryz.ntmps180
  go_wp2_with (first
    | (go_at_call 174; with_reducible refine (all_calls w.heap.size a b 141 _ (heap_alloc_new w _) HA.out HB.out).mono ?_; rintro e w2 ⟨rfl, hB2⟩; have HB2 := Lib.hid (below_then (below_alloc (Below.refl _ _) _) hB2); clear hB2)
    | (go_at_call 205; with_reducible refine (small_calls a b m n _ HA.out HB.out HM.out HN.out).mono ?_; rintro e w3 ⟨rfl, hB3⟩; have HB3 := Lib.hid (below_then HB2.out hB3); clear hB3))
  have HQ := Lib.hid (quo_nat (m := m) (n := n) hm8)
  have HRR := Lib.hid (show (m : Int) % (n : Int) = ((m % n : Nat) : Int) from (Int.natCast_emod m n).symm)
  have hq8 : m / n < 100000000 := Nat.lt_of_le_of_lt (Nat.div_le_self _ _) hm8
  have hr8 : m % n < 100000000 := Nat.lt_of_le_of_lt (Nat.mod_le _ _) hm8
  go_quiet (fail)
  by_cases hr : ((m : Int) % (n : Int) != 0) = true
  · have hr' : ((m : Int) % (n : Int) == 0) = false := by simpa using hr
    go_wp2_with (first
      | (go_at_call 101; (with_reducible refine Calls.cast101 HQ.out ?_); with_reducible refine (WOf_calls ((m / n : Nat) : Int) (nat_range hq8).1 (nat_range hq8).2 _ ((hG.below HB3.out).drewN _)).mono ?_; rintro e w4 ⟨rfl, hB4⟩; have HB4 := Lib.hid (below_then HB3.out (below_of_drewN hB4)); clear hB4)
      | (go_at_call 101; (with_reducible refine Calls.cast101 HRR.out ?_); with_reducible refine (WOf_calls ((m % n : Nat) : Int) (nat_range hr8).1 (nat_range hr8).2 _ (hG.below HB4.out)).mono ?_; rintro e w5 ⟨rfl, hB5⟩; have HB5 := Lib.hid (below_then HB4.out hB5); clear hB5))
    go_ret3
    exact ⟨rfl, HB5.out⟩
  · have hr' : ((m : Int) % (n : Int) == 0) = true := by simpa using hr
    have hr2 : ((m : Int) % (n : Int) != 0) = false := by simpa using hr
    go_wp2_with (first
      | (go_at_call 101; (with_reducible refine Calls.cast101 HQ.out ?_); with_reducible refine (WOf_calls ((m / n : Nat) : Int) (nat_range hq8).1 (nat_range hq8).2 _ ((hG.below HB3.out).drewN _)).mono ?_; rintro e w4 ⟨rfl, hB4⟩; have HB4 := Lib.hid (below_then HB3.out (below_of_drewN hB4)); clear hB4)
      | (go_at_call 101; (with_reducible refine Calls.cast101 HRR.out ?_); with_reducible refine (WOf_calls ((m % n : Nat) : Int) (nat_range hr8).1 (nat_range hr8).2 _ (hG.below HB4.out)).mono ?_; rintro e w5 ⟨rfl, hB5⟩; have HB5 := Lib.hid (below_then HB4.out hB5); clear hB5))
    go_ret3
    exact ⟨rfl, HB5.out⟩
theorem Quo_calls (a b : ByteArray) (m n : Nat) (w : World) (hG : GOOD w) (ha : Num a) (hb : Num b) (hm : Lib.atoiAll a.data.toList = .ok (m : Int)) (hn : Lib.atoiAll b.data.toList = .ok (n : Int))
    (hm8 : m < 100000000) (hn8 : n < 100000000) (hn1 : 1 ≤ n) :
    Calls Tryz.prog 147 #[.string a, .string b] w fun e w' => e = .returned (.tuple #[.string (bytesA (Lib.decDigits (m / n))), .int .i64 0]) ∧ Below w.heap.size w w' := by
  have HD := num_dec (u := m / n) (Nat.lt_of_le_of_lt (Nat.div_le_self _ _) hm8)
  rw [← itoa_nat]
  rw [← itoa_nat] at HD
  go_enter Tryz.func147, Tryz.ntmps147
  go_wp2_with (first
    | (go_at_call 180; refine (parted_calls a b m n _ hG ha hb hm hn hm8 hn8 hn1).mono ?_; rintro e w2 ⟨rfl, hB2⟩; have HB2 := Lib.hid hB2; clear hB2)
    | (go_at_call 119; refine (WCheck_num _ HD _).mono ?_; rintro e w3 ⟨rfl, hB3⟩; have HB3 := Lib.hid (below_then HB2.out hB3); clear hB3))
  go_ret2
  exact ⟨rfl, HB3.out⟩
end Go.Proofs.YtdgipencedlbmaaGreatDoor.Pr
namespace Go.Proofs.YtdgipencedlbmaaGreatDoor.Pr
set_option linter.unusedVariables false
set_option linter.unusedSimpArgs false
open Go.RowKit Go.Proofs.YtdgipencedlbmaaGreatDoorW.PrintWords Go.Proofs.YtdgipencedlbmaaGreatDoor.Hand
set_option maxHeartbeats 2000000 in
set_option maxRecDepth 100000 in
theorem do_Gcd (p : Nat) (a b : ByteArray) (m n : Nat) (w : World) (hG : GOOD w) (hp : w.heap[p]? = some (.cells #[.int .i64 0] 160 (0, 0))) (ha : Num a) (hb : Num b) (hm : Lib.atoiAll a.data.toList = .ok (m : Int)) (hn : Lib.atoiAll b.data.toList = .ok (n : Int))
    (hm8 : m < 100000000) (hn8 : n < 100000000) (hn1 : 1 ≤ n) :
    Calls Tryz.prog 142 #[.pointer (some ⟨p, 0, none⟩), .func (.func 143) #[] #[], .string a, .string b] w fun e w' => e = .returned (.string (bytesA (Lib.decDigits (m.gcd n)))) ∧ w'.heap[p]? = some (.cells #[.int .i64 0] 160 (0, 0)) ∧ But p w w' := by
  have HP := Lib.hid hp
  have HL := Lib.hid (blk_lt hp)
  have q0 := cellB hp 0
  clear hp
  go_enter Tryz.func142, Tryz.ntmps142
  go_wp2_with (go_at_call 143; with_reducible refine (Gcd_calls a b m n _ hG ha hb hm hn hm8 hn8 hn1).mono ?_; rintro e w2 ⟨rfl, hB2⟩; have HP2 := Lib.hid (below_keeps hB2 (g := p) HL.out HP.out); have HB2 := Lib.hid hB2; have q2 := cellB HP2.out 0; have f2 := frozen_of_row w2 p 0 _ 160 HP2.out; clear hB2)
  go_ret
  exact ⟨by rw [← itoa_nat]; rfl, heap_setCell_same _ p 0 _ 160 _ HP2.out, (But.of_below HB2.out).trans (but_set1 _ _ _ _)⟩
set_option maxHeartbeats 2000000 in
set_option maxRecDepth 100000 in
theorem do_Quo (p : Nat) (a b : ByteArray) (m n : Nat) (w : World) (hG : GOOD w) (hp : w.heap[p]? = some (.cells #[.int .i64 0] 160 (0, 0))) (ha : Num a) (hb : Num b) (hm : Lib.atoiAll a.data.toList = .ok (m : Int)) (hn : Lib.atoiAll b.data.toList = .ok (n : Int))
    (hm8 : m < 100000000) (hn8 : n < 100000000) (hn1 : 1 ≤ n) :
    Calls Tryz.prog 142 #[.pointer (some ⟨p, 0, none⟩), .func (.func 147) #[] #[], .string a, .string b] w fun e w' => e = .returned (.string (bytesA (Lib.decDigits (m / n)))) ∧ w'.heap[p]? = some (.cells #[.int .i64 0] 160 (0, 0)) ∧ But p w w' := by
  have HP := Lib.hid hp
  have HL := Lib.hid (blk_lt hp)
  have q0 := cellB hp 0
  clear hp
  go_enter Tryz.func142, Tryz.ntmps142
  go_wp2_with (go_at_call 147; with_reducible refine (Quo_calls a b m n _ hG ha hb hm hn hm8 hn8 hn1).mono ?_; rintro e w2 ⟨rfl, hB2⟩; have HP2 := Lib.hid (below_keeps hB2 (g := p) HL.out HP.out); have HB2 := Lib.hid hB2; have q2 := cellB HP2.out 0; have f2 := frozen_of_row w2 p 0 _ 160 HP2.out; clear hB2)
  go_ret
  exact ⟨rfl, heap_setCell_same _ p 0 _ 160 _ HP2.out, (But.of_below HB2.out).trans (but_set1 _ _ _ _)⟩
end Go.Proofs.YtdgipencedlbmaaGreatDoor.Pr
namespace Go.Proofs.YtdgipencedlbmaaGreatDoor.Pr
set_option linter.unusedVariables false
set_option linter.unusedSimpArgs false
open Go.RowKit Go.Proofs.YtdgipencedlbmaaGreatDoorW.PrintWords Go.Proofs.YtdgipencedlbmaaGreatDoor.Hand
def overL (a b : Nat) : List UInt8 := if b / a.gcd b = 1 then Lib.decDigits (a / a.gcd b) else Lib.decDigits (a / a.gcd b) ++ 47 :: Lib.decDigits (b / a.gcd b)
def joinL (a b : Nat) : List UInt8 := if b = 1 then Lib.decDigits a else Lib.decDigits a ++ 47 :: Lib.decDigits b
theorem bytes_join (a b : List UInt8) : bytesA a ++ ⟨#[47]⟩ ++ bytesA b = bytesA (a ++ 47 :: b) := by
  apply ByteArray.ext
  simp [bytesA]
theorem joinL_one (a : Nat) : joinL a 1 = Lib.decDigits a := if_pos rfl
theorem joinL_ne {a b : Nat} (h : ¬ b = 1) : joinL a b = Lib.decDigits a ++ 47 :: Lib.decDigits b := if_neg h
set_option maxHeartbeats 1000000 in
set_option maxRecDepth 100000 in
theorem joined_calls (m n : Nat) (w : World) (hm : m < 100000000) (hn : n < 100000000) :
    Calls Tryz.prog 146 #[.string (bytesA (Lib.decDigits m)), .string (bytesA (Lib.decDigits n))] w fun e w' => e = .returned (.string (bytesA (joinL m n))) ∧ Below w.heap.size w w' := by
  by_cases h1 : n = 1
  · subst h1
    have e1 : ((bytesA (Lib.decDigits 1)).toList == [49]) = true := by rw [toList_eq, beq_iff_eq]; simpa [bytesA] using dec_one
    rw [joinL_one]
    go_enter Tryz.func146, Tryz.ntmps146
    go_wp2
    go_ret
    exact ⟨rfl, Below.refl _ _⟩
  · have e1 : ((bytesA (Lib.decDigits n)).toList == [49]) = false := by rw [toList_eq, beq_eq_false_iff_ne]; intro h; exact h1 ((dec_is_one (by omega)).mp (by simpa [bytesA] using h))
    have s1 := (num_dec hm).small
    have s2 := (num_dec hn).small
    have g1 : ¬ 9223372036854775807 < (bytesA (Lib.decDigits m)).size + 1 := by omega
    have g2 : ¬ 9223372036854775807 < (bytesA (Lib.decDigits m)).size + 1 + (bytesA (Lib.decDigits n)).size := by omega
    rw [joinL_ne h1]
    go_enter Tryz.func146, Tryz.ntmps146
    go_wp2
    go_ret
    refine ⟨?_, Below.refl _ _⟩
    show Ending.returned (.string (bytesA (Lib.decDigits m) ++ ⟨#[47]⟩ ++ bytesA (Lib.decDigits n))) = _
    rw [bytes_join]
theorem dec_not_minus {b : ByteArray} (h : Num b) : Lib.hasPrefix b.data.toList (⟨#[45]⟩ : ByteArray).data.toList = false := by
  cases hl : b.data.toList with
  | nil => rfl
  | cons c r =>
    have hc := h.dig c (by rw [hl]; simp)
    unfold Lib.hasPrefix
    show ((45 : UInt8) == c && List.isPrefixOf [] r) = false
    have : ((45 : UInt8) == c) = false := by
      rw [beq_eq_false_iff_ne]
      intro hx
      rw [← hx] at hc
      exact absurd hc.1 (by decide)
    rw [this]; rfl
theorem good_but {p : Nat} {w w' : World} (h : GOOD w) (hb : But p w w') (hp : 8 ≤ p) : GOOD w' := h.step (hb.below (Below.refl 8 w) hp h.low) (Nat.le_refl 8)
set_option maxHeartbeats 2000000 in
set_option maxRecDepth 100000 in
theorem lowest_calls (p : Nat) (a b : ByteArray) (m n : Nat) (w : World) (hG : GOOD w) (hp : w.heap[p]? = some (.cells #[.int .i64 0] 160 (0, 0))) (hp8 : 8 ≤ p) (ha : Num a) (hb : Num b) (hm : Lib.atoiAll a.data.toList = .ok (m : Int)) (hn : Lib.atoiAll b.data.toList = .ok (n : Int))
    (hm8 : m < 100000000) (hn8 : n < 100000000) (hn1 : 1 ≤ n) :
    Calls Tryz.prog 120 #[.pointer (some ⟨p, 0, none⟩), .string a, .string b] w fun e w' => e = .returned (.string (bytesA (overL m n))) ∧ w'.heap[p]? = some (.cells #[.int .i64 0] 160 (0, 0)) ∧ But p w w' := by
  obtain ⟨g, hg⟩ : ∃ g, m.gcd n = g := ⟨_, rfl⟩
  have hg1 : 1 ≤ g := by rw [← hg]; exact Nat.gcd_pos_of_pos_right m hn1
  have hg8 : g < 100000000 := Nat.lt_of_le_of_lt (by rw [← hg]; exact Nat.gcd_le_right m hn1) hn8
  have hgn := num_dec hg8
  have hga : Lib.atoiAll (bytesA (Lib.decDigits g)).data.toList = .ok (g : Int) := by simpa [bytesA] using atoi_dec g (by omega)
  have hpre := dec_not_minus hb
  have hq1 : m / g < 100000000 := Nat.lt_of_le_of_lt (Nat.div_le_self _ _) hm8
  have hq2 : n / g < 100000000 := Nat.lt_of_le_of_lt (Nat.div_le_self _ _) hn8
  have HP := Lib.hid hp
  have HL := Lib.hid (blk_lt hp)
  clear hp
  go_enter Tryz.func120, Tryz.ntmps120
  go_wp2_with (first
    | (go_at_call 142; with_reducible refine (do_Gcd p a b m n _ hG HP.out ha hb hm hn hm8 hn8 hn1).mono ?_; rw [hg]; rintro e w2 ⟨rfl, hp2, hB2⟩; have HP2 := Lib.hid hp2; have HG2 := Lib.hid (good_but hG hB2 hp8); have HB2 := Lib.hid hB2; have q2 := cellB hp2 0; clear hB2 hp2)
    | (go_at_call 144; refine (Tryz.strings_HasPrefix b _ _).mono ?_; rw [hpre]; rintro e w3 ⟨rfl, rfl⟩)
    | (go_at_call 142; with_reducible refine (do_Quo p a _ m g _ HG2.out HP2.out ha hgn hm hga hm8 hg8 hg1).mono ?_; rintro e w4 ⟨rfl, hp4, hB4⟩; have HP4 := Lib.hid hp4; have HG4 := Lib.hid (good_but HG2.out hB4 hp8); have HB4 := Lib.hid (HB2.out.trans hB4); clear hB4 hp4)
    | (go_at_call 142; with_reducible refine (do_Quo p b _ n g _ HG4.out HP4.out hb hgn hn hga hn8 hg8 hg1).mono ?_; rintro e w5 ⟨rfl, hp5, hB5⟩; have HP5 := Lib.hid hp5; have HB5 := Lib.hid (HB4.out.trans hB5); clear hB5 hp5)
    | (go_at_call 146; with_reducible refine (joined_calls _ _ _ hq1 hq2).mono ?_; rintro e w6 ⟨rfl, hB6⟩; have HP6 := Lib.hid (below_keeps hB6 (g := p) (blk_lt HP5.out) HP5.out); have HB6 := Lib.hid (HB5.out.trans (But.of_below hB6)); clear hB6))
  go_ret
  exact ⟨by rw [← hg]; rfl, HP6.out, HB6.out⟩
theorem built_160 : Tryz.prog.built 160 [] = some #[.int .i64 0] := by kernel_rfl
set_option maxHeartbeats 4000000 in
set_option maxRecDepth 100000 in
theorem Make_calls (a b : ByteArray) (m n : Nat) (w : World) (hG : GOOD w) (ha : Num a) (hb : Num b) (hm : Lib.atoiAll a.data.toList = .ok (m : Int)) (hn : Lib.atoiAll b.data.toList = .ok (n : Int))
    (hm8 : m < 100000000) (hn8 : n < 100000000) (hn1 : 1 ≤ n) :
    Calls Tryz.prog 100 #[.string a, .string b] w fun e w' => e = .returned (.tuple #[.string (bytesA (overL m n)), .int .i64 0]) ∧ Below w.heap.size w w' := by
  have HA := Lib.hid ha
  have HB := Lib.hid hb
  have HM := Lib.hid hm
  have HN := Lib.hid hn
  have hz := num_not_zero hn hn1
  have HG8 := Lib.hid hG.low
  clear ha hb hm hn
  go_enter Tryz.func100, Tryz.ntmps100
  go_wp2
  go_loopw [7, 8, 15, 16, 17, 18, 19, 20, 21, 22, 23, 24] (fun _ _ i _ _ _ _ _ _ _ _ _ wr => ∃ k : Nat, k ≤ 2 ∧ i = .int .i64 k ∧ Hid (wr.heap[w.heap.size]? = some (.cells #[.string a, .string b] 141 (0, 0))) ∧ Hid (Below w.heap.size w wr)) (fun _ _ i _ _ _ _ _ _ _ _ _ _ => 2 - (intOf i).toNat)
  case atStart => exact ⟨0, by omega, rfl, heap_alloc_new w _, below_alloc (Below.refl _ _) _⟩
  case round =>
    obtain ⟨k, hk, rfl, hbk, hbl⟩ := hrel
    by_cases hlt : k < 2
    · obtain ⟨s, hs, hnum⟩ := pick2 hbk.out hlt HA.out HB.out
      have HNum := Lib.hid hnum
      clear hnum
      go_wp2_with (go_at_call 119; refine (WCheck_num s HNum.out _).mono ?_; rintro e w2 ⟨rfl, hB2⟩; have HK2 := Lib.hid (below_keeps hB2 (blk_lt hbk.out) hbk.out); have HB2 := Lib.hid (below_then hbl.out hB2); clear hB2)
      go_round
      case rel => exact ⟨k + 1, by omega, by go_num, HK2, HB2⟩
      case measure => simp [intOf]; omega
    · have hk2 : k = 2 := by omega
      subst hk2
      go_wp2_with (first
        | ((with_reducible refine build_event rfl 160 _ rfl #[.int .i64 0] ?hf ?_); (case hf => exact built_160))
        | ((with_reducible refine box_abs rfl 160 _ rfl #[.int .i64 0] ?hx ?_); (case hx => rfl); intro p hp w1 hp1 hB1 hs1; have HPZ := Lib.hid (show 8 ≤ p by rw [hp]; exact Nat.le_trans HG8.out hbl.out.size); have HPW := Lib.hid (show w.heap.size ≤ p by rw [hp]; exact hbl.out.size); have HP1 := Lib.hid hp1; have HB1 := Lib.hid (below_then hbl.out hB1); have HG1 := Lib.hid (hG.below HB1.out); clear hp hp1 hB1 hs1)
        | (go_at_call 120; with_reducible refine (lowest_calls p a b m n _ HG1.out HP1.out HPZ.out HA.out HB.out HM.out HN.out hm8 hn8 hn1).mono ?_; rintro e w2 ⟨rfl, hp2, hB2⟩; have HB2 := Lib.hid (hB2.below HB1.out HPW.out HB1.out.size); have q2 := cellB hp2 0; clear hp2 hB2))
      go_ret2
      exact ⟨rfl, HB2.out⟩
def ratio_Of.f (a0 a1 : Int) : Option (ByteArray × Int) := if 0 ≤ a0 then if 1 ≤ a1 then if a0 ≤ 99999999 then if a1 ≤ 99999999 then some (bytesA (overL a0.toNat a1.toNat), 0) else none else none else none else none
set_option maxHeartbeats 1000000 in
set_option maxRecDepth 100000 in
theorem Of_calls (m n : Nat) (w : World) (hG : GOOD w) (hm8 : m < 100000000) (hn8 : n < 100000000) (hn1 : 1 ≤ n) :
    Calls Tryz.prog 56 #[.int .i64 (m : Int), .int .i64 (n : Int)] w fun e w' => e = .returned (.tuple #[.string (bytesA (overL m n)), .int .i64 0]) ∧ Below w.heap.size w w' := by
  have e1 := num_dec hm8
  have e2 := num_dec hn8
  have e3 : Lib.atoiAll (bytesA (Lib.decDigits m)).data.toList = .ok (m : Int) := by simpa [bytesA] using atoi_dec m (by omega)
  have e4 : Lib.atoiAll (bytesA (Lib.decDigits n)).data.toList = .ok (n : Int) := by simpa [bytesA] using atoi_dec n (by omega)
  go_enter Tryz.func56, Tryz.ntmps56
  go_wp2_with (first
    | (go_at_call 101; with_reducible refine (WOf_calls (m : Int) (by omega) (by omega) _ hG).mono ?_; rw [itoa_nat]; rintro e w2 ⟨rfl, hB2⟩; have HB2 := Lib.hid hB2; clear hB2)
    | (go_at_call 101; with_reducible refine (WOf_calls (n : Int) (by omega) (by omega) _ (hG.below HB2.out)).mono ?_; rw [itoa_nat]; rintro e w3 ⟨rfl, hB3⟩; have HB3 := Lib.hid (below_then HB2.out hB3); clear hB3)
    | (go_at_call 100; with_reducible refine (Make_calls _ _ m n _ (hG.below HB3.out) e1 e2 e3 e4 hm8 hn8 hn1).mono ?_; rintro e w4 ⟨rfl, hB4⟩; have HB4 := Lib.hid (below_then HB3.out hB4); clear hB4))
  go_ret2
  exact ⟨rfl, HB4.out⟩
theorem ratio_Of.calls (a0 a1 : Int) (r1 : ByteArray) (r2 : Int) (w : World) (hG : GOOD w) (h : ratio_Of.f a0 a1 = some (r1, r2)) :
    Calls Tryz.prog 56 #[.int .i64 a0, .int .i64 a1] w fun e w' => e = .returned (.tuple #[.string r1, .int .i64 r2]) ∧ Below w.heap.size w w' := by
  unfold ratio_Of.f at h
  split at h <;> try cases h
  split at h <;> try cases h
  split at h <;> try cases h
  split at h <;> try cases h
  have := Of_calls a0.toNat a1.toNat w hG (by omega) (by omega) (by omega)
  rwa [Int.toNat_of_nonneg (by omega), Int.toNat_of_nonneg (by omega)] at this
end Go.Proofs.YtdgipencedlbmaaGreatDoor.Pr
