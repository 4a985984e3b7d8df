/- Small words of my own, used by all hand contracts: strings as lists of bytes, worlds that keep what lay below. Contracts of dimension.letter, digit, Name: what each call answers. Contracts of register -/
import Derived.Test.YtdgipencedlbmaaGreatDoorProg
import Derived.Below
import Derived.Deep.Draws
import Derived.Deep.AppendLies
import Derived.Maps.AppendAt
import Derived.OwnWalk
import Derived.Laws.BytesArg
import Derived.Laws.MakeOwn
import Derived.Laws.OwnMore
import Derived.Deep.OwnRows
import Derived.Tactics
import Derived.Lib.ConvBytes
import Derived.Laws.Slices
import Derived.WalkKit
import Derived.KernelRfl
import Derived.RowKit3
import Derived.Deep.LoopGhost
import Derived.Deep.QuietTactic
import Derived.BigQuiet
import Derived.WideLaws
import Derived.Deep.DeepCutAuto
import Derived.Deep.CutBlock
import Derived.Deep.RegionHeld3
import Derived.Laws.Rows
import Derived.Lib.AppendStr
import Derived.ArgAppend
import Derived.Laws.IdiomCopy
import Derived.OrdersHeld
import Derived.Laws.BitsLemmas
import Derived.RowKit
import Derived.Test.YtdgipencedlbmaaGreatDoorZD01
import Derived.Test.YtdgipencedlbmaaGreatDoorZWWords
import Derived.Test.YtdgipencedlbmaaGreatDoorZWLast
import Derived.Test.YtdgipencedlbmaaGreatDoorZWTab
import Derived.Test.YtdgipencedlbmaaGreatDoorZWFour
import Derived.Test.YtdgipencedlbmaaGreatDoorZWQPut
import Derived.Test.YtdgipencedlbmaaGreatDoorZWApart
import Derived.Test.YtdgipencedlbmaaGreatDoorZWArr
import Derived.Test.YtdgipencedlbmaaGreatDoorZWZeros
import Derived.Test.YtdgipencedlbmaaGreatDoorZWFoot
import Derived.Test.YtdgipencedlbmaaGreatDoorZWKept
import Derived.Test.YtdgipencedlbmaaGreatDoorZWShare
import Derived.Test.YtdgipencedlbmaaGreatDoorZWN
import Derived.Test.YtdgipencedlbmaaGreatDoorZWFootNe
import Derived.Test.YtdgipencedlbmaaGreatDoorZWAt
import Derived.Test.YtdgipencedlbmaaGreatDoorZWEqStruct
import Derived.Test.YtdgipencedlbmaaGreatDoorZWRepsOne
import Derived.Test.YtdgipencedlbmaaGreatDoorZWInv
import Derived.Test.YtdgipencedlbmaaGreatDoorZWInvWords
import Derived.Test.YtdgipencedlbmaaGreatDoorZWGuard
import Derived.Test.YtdgipencedlbmaaGreatDoorZWNEv
import Derived.Test.YtdgipencedlbmaaGreatDoorZWMore
import Derived.Lib.Hide
import Derived.WalkSpells
import Derived.WalkLawsBesides
import Derived.Outline
import Derived.Laws.Tables
import Derived.Lib.ItoaNum
namespace Go.Proofs.YtdgipencedlbmaaGreatDoor.Pr
open Go.RowKit Go.Proofs.YtdgipencedlbmaaGreatDoorW.PrintWords Go.Proofs.YtdgipencedlbmaaGreatDoorW.PrintLast Go.Proofs.YtdgipencedlbmaaGreatDoorW.PrintMore
attribute [local go_sem] max2_int min2_int max_two min_two max_three min_three max_four min_four   -- for this text's walks alone
set_option linter.unusedVariables false
set_option linter.unusedSimpArgs false
def errW : Option Int → Value
  | none => .nilIface
  | some c => .iface 0 (.int .i64 c)
theorem errW_none : errW none = .nilIface := rfl
theorem errW_some (c : Int) : errW (some c) = .iface 0 (.int .i64 c) := rfl
theorem info34 : (Tryz.prog.info? 34).map (fun i => (i.zero, i.size, i.bytes)) = some (some (.agg #[(.int .i64 0), (.string ⟨#[]⟩), (.int .i64 0)]), 3, 32) := by kernel_rfl
theorem info84 : (Tryz.prog.info? 84).map (fun i => (i.zero, i.size, i.bytes)) = some (some (.agg #[(.string ⟨#[]⟩), (.int .i64 0), (.int .i64 0), (.int .i64 0), (.int .i64 0), (.int .i64 0), (.int .i64 0)]), 7, 64) := by kernel_rfl
structure S84 where
  f0 : ByteArray
  f1 : Int
  f2 : Int
  f3 : Int
  f4 : Int
  f5 : Int
  f6 : Int
def z84 : S84 := ⟨(⟨#[]⟩ : ByteArray), (0 : Int), (0 : Int), (0 : Int), (0 : Int), (0 : Int), (0 : Int)⟩
def k84 : Kd S84 := Kd.iso (Kd.pair Kd.string (Kd.pair (Kd.int .i64) (Kd.pair (Kd.int .i64) (Kd.pair (Kd.int .i64) (Kd.pair (Kd.int .i64) (Kd.pair (Kd.int .i64) (Kd.int .i64))))))) (fun x : S84 => (x.f0, x.f1, x.f2, x.f3, x.f4, x.f5, x.f6))
theorem k84_open {w : World} {x : S84} {cs : List Value} (h : k84.K w x cs) : cs = [.string x.f0, .int .i64 x.f1, .int .i64 x.f2, .int .i64 x.f3, .int .i64 x.f4, .int .i64 x.f5, .int .i64 x.f6] := by
  obtain ⟨_, _, rfl, rfl, ⟨_, _, rfl, rfl, ⟨_, _, rfl, rfl, ⟨_, _, rfl, rfl, ⟨_, _, rfl, rfl, ⟨_, _, rfl, rfl, rfl⟩⟩⟩⟩⟩⟩ := h
  exact rfl
theorem k84_mkM (w : World) (base : Nat) (ok : Nat → Prop) (x : S84)  : k84.M w base ok x [.string x.f0, .int .i64 x.f1, .int .i64 x.f2, .int .i64 x.f3, .int .i64 x.f4, .int .i64 x.f5, .int .i64 x.f6] := ⟨[.string x.f0], [.int .i64 x.f1, .int .i64 x.f2, .int .i64 x.f3, .int .i64 x.f4, .int .i64 x.f5, .int .i64 x.f6], rfl, rfl, ⟨[.int .i64 x.f1], [.int .i64 x.f2, .int .i64 x.f3, .int .i64 x.f4, .int .i64 x.f5, .int .i64 x.f6], rfl, rfl, ⟨[.int .i64 x.f2], [.int .i64 x.f3, .int .i64 x.f4, .int .i64 x.f5, .int .i64 x.f6], rfl, rfl, ⟨[.int .i64 x.f3], [.int .i64 x.f4, .int .i64 x.f5, .int .i64 x.f6], rfl, rfl, ⟨[.int .i64 x.f4], [.int .i64 x.f5, .int .i64 x.f6], rfl, rfl, ⟨[.int .i64 x.f5], [.int .i64 x.f6], rfl, rfl, rfl⟩⟩⟩⟩⟩⟩
def rd_T84 (xs : List S84) (i : Int) : S84 := xs.getD i.toNat z84
theorem at_T84 {w : World} {A : Option Addr} {n : Nat} {xs : List S84} (h : Kd.C k84 w A n xs) (i : Int) (h0 : 0 ≤ i) (h1 : i < n) : ∃ ad , A = some ad ∧ w.cell? (ad.add (i.toNat * 7)) = some (.string (rd_T84 xs i).f0) ∧ w.cell? ⟨(ad.add (i.toNat * 7)).block, (ad.add (i.toNat * 7)).off + 1, none⟩ = some (.int .i64 (rd_T84 xs i).f1) ∧ w.cell? ⟨(ad.add (i.toNat * 7)).block, (ad.add (i.toNat * 7)).off + 2, none⟩ = some (.int .i64 (rd_T84 xs i).f2) ∧ w.cell? ⟨(ad.add (i.toNat * 7)).block, (ad.add (i.toNat * 7)).off + 3, none⟩ = some (.int .i64 (rd_T84 xs i).f3) ∧ w.cell? ⟨(ad.add (i.toNat * 7)).block, (ad.add (i.toNat * 7)).off + 4, none⟩ = some (.int .i64 (rd_T84 xs i).f4) ∧ w.cell? ⟨(ad.add (i.toNat * 7)).block, (ad.add (i.toNat * 7)).off + 5, none⟩ = some (.int .i64 (rd_T84 xs i).f5) ∧ w.cell? ⟨(ad.add (i.toNat * 7)).block, (ad.add (i.toNat * 7)).off + 6, none⟩ = some (.int .i64 (rd_T84 xs i).f6) := by
  obtain ⟨ad, c, e, _, hK, hc0⟩ := Kd.C_get h z84 i h0 h1
  have hc : ∀ j u, c[j]? = some u → w.cell? (ad.add (i.toNat * 7 + j)) = some u := hc0
  obtain rfl := k84_open hK
  exact ⟨ad, e, hc 0 _ rfl, by rw [← add_field _ _ 1 (by omega)]; exact hc 1 _ rfl, by rw [← add_field _ _ 2 (by omega)]; exact hc 2 _ rfl, by rw [← add_field _ _ 3 (by omega)]; exact hc 3 _ rfl, by rw [← add_field _ _ 4 (by omega)]; exact hc 4 _ rfl, by rw [← add_field _ _ 5 (by omega)]; exact hc 5 _ rfl, by rw [← add_field _ _ 6 (by omega)]; exact hc 6 _ rfl⟩
structure S57 where
  f0 : ByteArray
  f1 : Int
  f2 : Int
  f3 : Int
  f4 : Int
  f5 : Int
  f6 : Int
def z57 : S57 := ⟨(⟨#[]⟩ : ByteArray), (0 : Int), (0 : Int), (0 : Int), (0 : Int), (0 : Int), (0 : Int)⟩
def k57 : Kd S57 := Kd.iso (Kd.pair Kd.string (Kd.pair (Kd.int .i64) (Kd.pair (Kd.int .i64) (Kd.pair (Kd.int .i64) (Kd.pair (Kd.int .i64) (Kd.pair (Kd.int .i64) (Kd.int .i64))))))) (fun x : S57 => (x.f0, x.f1, x.f2, x.f3, x.f4, x.f5, x.f6))
theorem k57_open {w : World} {x : S57} {cs : List Value} (h : k57.K w x cs) : cs = [.string x.f0, .int .i64 x.f1, .int .i64 x.f2, .int .i64 x.f3, .int .i64 x.f4, .int .i64 x.f5, .int .i64 x.f6] := by
  obtain ⟨_, _, rfl, rfl, ⟨_, _, rfl, rfl, ⟨_, _, rfl, rfl, ⟨_, _, rfl, rfl, ⟨_, _, rfl, rfl, ⟨_, _, rfl, rfl, rfl⟩⟩⟩⟩⟩⟩ := h
  exact rfl
theorem k57_openM {w : World} {base : Nat} {ok : Nat → Prop} {x : S57} {cs : List Value} (h : k57.M w base ok x cs) : cs = [.string x.f0, .int .i64 x.f1, .int .i64 x.f2, .int .i64 x.f3, .int .i64 x.f4, .int .i64 x.f5, .int .i64 x.f6] := by
  obtain ⟨_, _, rfl, rfl, ⟨_, _, rfl, rfl, ⟨_, _, rfl, rfl, ⟨_, _, rfl, rfl, ⟨_, _, rfl, rfl, ⟨_, _, rfl, rfl, rfl⟩⟩⟩⟩⟩⟩ := h
  exact rfl
theorem k57_mkM (w : World) (base : Nat) (ok : Nat → Prop) (x : S57)  : k57.M w base ok x [.string x.f0, .int .i64 x.f1, .int .i64 x.f2, .int .i64 x.f3, .int .i64 x.f4, .int .i64 x.f5, .int .i64 x.f6] := ⟨[.string x.f0], [.int .i64 x.f1, .int .i64 x.f2, .int .i64 x.f3, .int .i64 x.f4, .int .i64 x.f5, .int .i64 x.f6], rfl, rfl, ⟨[.int .i64 x.f1], [.int .i64 x.f2, .int .i64 x.f3, .int .i64 x.f4, .int .i64 x.f5, .int .i64 x.f6], rfl, rfl, ⟨[.int .i64 x.f2], [.int .i64 x.f3, .int .i64 x.f4, .int .i64 x.f5, .int .i64 x.f6], rfl, rfl, ⟨[.int .i64 x.f3], [.int .i64 x.f4, .int .i64 x.f5, .int .i64 x.f6], rfl, rfl, ⟨[.int .i64 x.f4], [.int .i64 x.f5, .int .i64 x.f6], rfl, rfl, ⟨[.int .i64 x.f5], [.int .i64 x.f6], rfl, rfl, rfl⟩⟩⟩⟩⟩⟩
def rd_T57 (xs : List S57) (i : Int) : S57 := xs.getD i.toNat z57
theorem at_T57 {w : World} {A : Option Addr} {n : Nat} {xs : List S57} (h : Kd.C k57 w A n xs) (i : Int) (h0 : 0 ≤ i) (h1 : i < n) : ∃ ad , A = some ad ∧ w.cell? (ad.add (i.toNat * 7)) = some (.string (rd_T57 xs i).f0) ∧ w.cell? ⟨(ad.add (i.toNat * 7)).block, (ad.add (i.toNat * 7)).off + 1, none⟩ = some (.int .i64 (rd_T57 xs i).f1) ∧ w.cell? ⟨(ad.add (i.toNat * 7)).block, (ad.add (i.toNat * 7)).off + 2, none⟩ = some (.int .i64 (rd_T57 xs i).f2) ∧ w.cell? ⟨(ad.add (i.toNat * 7)).block, (ad.add (i.toNat * 7)).off + 3, none⟩ = some (.int .i64 (rd_T57 xs i).f3) ∧ w.cell? ⟨(ad.add (i.toNat * 7)).block, (ad.add (i.toNat * 7)).off + 4, none⟩ = some (.int .i64 (rd_T57 xs i).f4) ∧ w.cell? ⟨(ad.add (i.toNat * 7)).block, (ad.add (i.toNat * 7)).off + 5, none⟩ = some (.int .i64 (rd_T57 xs i).f5) ∧ w.cell? ⟨(ad.add (i.toNat * 7)).block, (ad.add (i.toNat * 7)).off + 6, none⟩ = some (.int .i64 (rd_T57 xs i).f6) := by
  obtain ⟨ad, c, e, _, hK, hc0⟩ := Kd.C_get h z57 i h0 h1
  have hc : ∀ j u, c[j]? = some u → w.cell? (ad.add (i.toNat * 7 + j)) = some u := hc0
  obtain rfl := k57_open hK
  exact ⟨ad, e, hc 0 _ rfl, by rw [← add_field _ _ 1 (by omega)]; exact hc 1 _ rfl, by rw [← add_field _ _ 2 (by omega)]; exact hc 2 _ rfl, by rw [← add_field _ _ 3 (by omega)]; exact hc 3 _ rfl, by rw [← add_field _ _ 4 (by omega)]; exact hc 4 _ rfl, by rw [← add_field _ _ 5 (by omega)]; exact hc 5 _ rfl, by rw [← add_field _ _ 6 (by omega)]; exact hc 6 _ rfl⟩
structure S24 where
  f0 : Int
  f1 : ByteArray
  f2 : Int
def z24 : S24 := ⟨(0 : Int), (⟨#[]⟩ : ByteArray), (0 : Int)⟩
def k24 : Kd S24 := Kd.iso (Kd.pair (Kd.int .i64) (Kd.pair Kd.string (Kd.int .i64))) (fun x : S24 => (x.f0, x.f1, x.f2))
theorem k24_open {w : World} {x : S24} {cs : List Value} (h : k24.K w x cs) : cs = [.int .i64 x.f0, .string x.f1, .int .i64 x.f2] := by
  obtain ⟨_, _, rfl, rfl, ⟨_, _, rfl, rfl, rfl⟩⟩ := h
  exact rfl
theorem k24_mkM (w : World) (base : Nat) (ok : Nat → Prop) (x : S24)  : k24.M w base ok x [.int .i64 x.f0, .string x.f1, .int .i64 x.f2] := ⟨[.int .i64 x.f0], [.string x.f1, .int .i64 x.f2], rfl, rfl, ⟨[.string x.f1], [.int .i64 x.f2], rfl, rfl, rfl⟩⟩
def rd_T24 (xs : List S24) (i : Int) : S24 := xs.getD i.toNat z24
theorem at_T24 {w : World} {A : Option Addr} {n : Nat} {xs : List S24} (h : Kd.C k24 w A n xs) (i : Int) (h0 : 0 ≤ i) (h1 : i < n) : ∃ ad , A = some ad ∧ w.cell? (ad.add (i.toNat * 3)) = some (.int .i64 (rd_T24 xs i).f0) ∧ w.cell? ⟨(ad.add (i.toNat * 3)).block, (ad.add (i.toNat * 3)).off + 1, none⟩ = some (.string (rd_T24 xs i).f1) ∧ w.cell? ⟨(ad.add (i.toNat * 3)).block, (ad.add (i.toNat * 3)).off + 2, none⟩ = some (.int .i64 (rd_T24 xs i).f2) := by
  obtain ⟨ad, c, e, _, hK, hc0⟩ := Kd.C_get h z24 i h0 h1
  have hc : ∀ j u, c[j]? = some u → w.cell? (ad.add (i.toNat * 3 + j)) = some u := hc0
  obtain rfl := k24_open hK
  exact ⟨ad, e, hc 0 _ rfl, by rw [← add_field _ _ 1 (by omega)]; exact hc 1 _ rfl, by rw [← add_field _ _ 2 (by omega)]; exact hc 2 _ rfl⟩
structure S34 where
  f0 : Int
  f1 : ByteArray
  f2 : Int
def z34 : S34 := ⟨(0 : Int), (⟨#[]⟩ : ByteArray), (0 : Int)⟩
def k34 : Kd S34 := Kd.iso (Kd.pair (Kd.int .i64) (Kd.pair Kd.string (Kd.int .i64))) (fun x : S34 => (x.f0, x.f1, x.f2))
theorem k34_open {w : World} {x : S34} {cs : List Value} (h : k34.K w x cs) : cs = [.int .i64 x.f0, .string x.f1, .int .i64 x.f2] := by
  obtain ⟨_, _, rfl, rfl, ⟨_, _, rfl, rfl, rfl⟩⟩ := h
  exact rfl
theorem k34_mkM (w : World) (base : Nat) (ok : Nat → Prop) (x : S34)  : k34.M w base ok x [.int .i64 x.f0, .string x.f1, .int .i64 x.f2] := ⟨[.int .i64 x.f0], [.string x.f1, .int .i64 x.f2], rfl, rfl, ⟨[.string x.f1], [.int .i64 x.f2], rfl, rfl, rfl⟩⟩
def rd_T34 (xs : List S34) (i : Int) : S34 := xs.getD i.toNat z34
theorem at_T34 {w : World} {A : Option Addr} {n : Nat} {xs : List S34} (h : Kd.C k34 w A n xs) (i : Int) (h0 : 0 ≤ i) (h1 : i < n) : ∃ ad , A = some ad ∧ w.cell? (ad.add (i.toNat * 3)) = some (.int .i64 (rd_T34 xs i).f0) ∧ w.cell? ⟨(ad.add (i.toNat * 3)).block, (ad.add (i.toNat * 3)).off + 1, none⟩ = some (.string (rd_T34 xs i).f1) ∧ w.cell? ⟨(ad.add (i.toNat * 3)).block, (ad.add (i.toNat * 3)).off + 2, none⟩ = some (.int .i64 (rd_T34 xs i).f2) := by
  obtain ⟨ad, c, e, _, hK, hc0⟩ := Kd.C_get h z34 i h0 h1
  have hc : ∀ j u, c[j]? = some u → w.cell? (ad.add (i.toNat * 3 + j)) = some u := hc0
  obtain rfl := k34_open hK
  exact ⟨ad, e, hc 0 _ rfl, by rw [← add_field _ _ 1 (by omega)]; exact hc 1 _ rfl, by rw [← add_field _ _ 2 (by omega)]; exact hc 2 _ rfl⟩
end Go.Proofs.YtdgipencedlbmaaGreatDoor.Pr
namespace Go.Proofs.YtdgipencedlbmaaGreatDoor.Hand
open Go.RowKit Go.Proofs.YtdgipencedlbmaaGreatDoorW.PrintWords
theorem toListLoop_eq (s : ByteArray) (d : Nat) : ∀ (i : Nat) (r : List UInt8), s.size - i = d → ByteArray.toList.loop s i r = r.reverse ++ s.data.toList.drop i := by
  induction d with
  | zero =>
    intro i r h
    unfold ByteArray.toList.loop
    rw [if_neg (by omega), List.drop_eq_nil_of_le (by simp; omega)]
    simp
  | succ d ih =>
    intro i r h
    unfold ByteArray.toList.loop
    have hlt : i < s.size := by omega
    rw [if_pos hlt, ih (i + 1) _ (by omega)]
    have hl : i < s.data.toList.length := by simpa using hlt
    rw [List.drop_eq_getElem_cons hl]
    simp [ByteArray.get!, hlt]
theorem toList_eq (s : ByteArray) : s.toList = s.data.toList := by
  unfold ByteArray.toList
  rw [toListLoop_eq s _ 0 [] rfl]
  simp
theorem bt_u8 (s : ByteArray) (k : Nat) (h : k < s.size) : bt s k = ((s[k]'h).toNat : Int) := by
  unfold bt; simp [h]
theorem bt_range (s : ByteArray) (i : Int) : 0 ≤ bt s i ∧ bt s i ≤ 255 := by
  unfold bt
  split
  · have := (s[i.toNat]'‹_›).toNat_lt; omega
  · omega
theorem all_take_snoc (s : ByteArray) (p : UInt8 → Bool) (k : Nat) (h : k < s.size) : (s.data.toList.take (k + 1)).all p = ((s.data.toList.take k).all p && p (s[k]'h)) := by
  rw [List.take_succ_eq_append_getElem (by simpa using h)]
  simp [ByteArray.getElem_eq_getElem_data]
theorem all_false_of (s : ByteArray) (p : UInt8 → Bool) (k : Nat) (h : k < s.size) (hp : p (s[k]'h) = false) : s.data.toList.all p = false := by
  rw [List.all_eq_false]
  exact ⟨s[k]'h, by rw [ByteArray.getElem_eq_getElem_data, ← Array.getElem_toList]; exact List.getElem_mem _, by simp [hp]⟩
theorem below_bytes (w : World) (e : TypeId) (s : ByteArray) : Below w.heap.size w (Lib.bytesWorld w e s) :=
  ⟨rfl, rfl, rfl, by rw [Lib.bytesWorld_size]; omega, fun j hj => Lib.bytesWorld_at_old w e s j hj⟩
theorem bytes_made {P : Program} (w : World) (src dst e : TypeId) (s : ByteArray) {u : TypeDesc}
    (hs : P.underlying src = some u) (hd : P.underlying dst = some (.slice e)) (he : P.underlying e = some (.int .u8)) :
    ∃ W c, (convert src dst (.string s)).run P w = .ok (.slice (some ⟨w.heap.size, 0, none⟩) s.size c) W ∧ (∀ j : Nat, j < s.size → W.cell? ⟨w.heap.size, j, none⟩ = some (.int .u8 (bt s j))) ∧ Below w.heap.size w W :=
  ⟨_, _, Lib.run_convert_string_bytes w src dst e s hs hd he, fun j hj => by
    rw [Lib.bytesWorld_cell w e s j hj]
    have h1 : ((s.data.toList.getD j 0).toNat : Int) = bt s j := by
      rw [bt_u8 s j hj]
      have : j < s.data.size := hj
      simp [List.getD, ByteArray.getElem_eq_getElem_data, Array.getElem?_eq_getElem this]
    rw [h1], below_bytes w e s⟩
theorem size_zero_iff (s : ByteArray) : s.size = 0 ↔ s.data.toList = [] := by
  rw [← List.length_eq_zero_iff, Array.length_toList]; rfl
section
variable {P : Program} {ops : Array Oper} {rest : List Oper} {o : Oper} {a : Act} {Q : Exit → Act → World → Prop}
structure But (g : Nat) (w w' : World) : Prop where
  os : w'.os = w.os
  tape : w'.tape = w.tape
  output : w'.output = w.output
  size : w.heap.size ≤ w'.heap.size
  block : ∀ k, k < w.heap.size → k ≠ g → w'.heap[k]? = w.heap[k]?
theorem But.of_below {g : Nat} {w w' : World} (h : Below w.heap.size w w') : But g w w' := ⟨h.os, h.tape, h.output, h.size, fun k hk _ => h.block k hk⟩
theorem But.trans {g : Nat} {w w1 w2 : World} (h : But g w w1) (h' : But g w1 w2) : But g w w2 :=
  ⟨h'.os.trans h.os, h'.tape.trans h.tape, h'.output.trans h.output, Nat.le_trans h.size h'.size, fun k hk hg => (h'.block k (Nat.lt_of_lt_of_le hk h.size) hg).trans (h.block k hk hg)⟩
theorem But.below {g B : Nat} {w0 w w' : World} (h : But g w w') (hb : Below B w0 w) (hg : B ≤ g) (hB : B ≤ w.heap.size) : Below B w0 w' :=
  ⟨h.os.trans hb.os, h.tape.trans hb.tape, h.output.trans hb.output, Nat.le_trans hb.size h.size, fun k hk => (h.block k (by omega) (by omega)).trans (hb.block k hk)⟩
theorem alloc_event {W : World} (hgd : o.guard = none) (t : TypeId) (ho : o.op = .alloc t) (z : Value) (hz : ∀ w, (zeroValue t).run P w = .ok z w)
    (h : ∀ g, g = W.heap.size → ∀ w1, w1.heap[g]? = some (.cells z.cells t (0, 0)) → Below W.heap.size W w1 → w1.heap.size = g + 1 → wpList P ops Q rest (a.put o.dst (.pointer (some ⟨g, 0, none⟩))) w1) : wpList P ops Q (o :: rest) a W := by
  have hrun : (execOp a.eval o).run P W = .ok (.value (.pointer (some ⟨W.heap.size, 0, none⟩))) (W.alloc (.cells z.cells t (0, 0))) := by
    unfold execOp
    simp only [ho]
    unfold Instr.alloc
    go_simp
  exact Kd.event_run hgd hrun (h _ rfl _ (heap_alloc_new W _) (below_alloc (Below.refl _ _) _) (by simp))
theorem build_event {W : World} (hgd : o.guard = none) (t : TypeId) (parts : Array (Nat × Operand)) (ho : o.op = .build t parts) (cells : Array Value)
    (hf : P.built t (parts.map fun (i, x) => (i, a.eval x)).toList = some cells)
    (h : wpList P ops Q rest (a.put o.dst (.agg cells)) W) : wpList P ops Q (o :: rest) a W :=
  wpList_build hgd t parts ho (by rw [hf]; rfl) (by rw [hf]; exact h)
theorem store_row_event {W : World} (hgd : o.guard = none) (ty : TypeId) (x y : Operand) (ho : o.op = .store ty x y)
    (g : Nat) (cells : Array Value) (hx : a.eval x = .pointer (some ⟨g, 0, none⟩)) (hy : a.eval y = .agg cells)
    (t : TypeId) (old : Array Value) (hg : W.heap[g]? = some (.cells old t (0, 0))) (hi : (P.info? ty).map (·.size) = some cells.size)
    (hold : old.size = cells.size) (h1 : cells.all (·.oneCell') = true)
    (h : ∀ w1, w1.heap[g]? = some (.cells cells t (0, 0)) → But g W w1 → w1.heap.size = W.heap.size → wpList P ops Q rest (a.put o.dst undef) w1) : wpList P ops Q (o :: rest) a W :=
  wpList_store_row hgd ty x y ho g cells hx hy t old hg hi hold h1 (h _ (setRow_heap W g old cells t (0, 0) hg) ⟨rfl, rfl, rfl, by simp, fun k _ hk => setRow_other W g k cells hk⟩ (by simp))
theorem box_abs {W : World} (hgd : o.guard = none) (t : TypeId) (x : Operand) (ho : o.op = .box t x) (cs : Array Value) (hx : a.eval x = .agg cs)
    (h : ∀ g, g = W.heap.size → ∀ w1, w1.heap[g]? = some (.cells cs t (0, 0)) → Below W.heap.size W w1 → w1.heap.size = g + 1 → wpList P ops Q rest (a.put o.dst (.pointer (some ⟨g, 0, none⟩))) w1) : wpList P ops Q (o :: rest) a W := by
  have hrun : (execOp a.eval o).run P W = .ok (.value (.pointer (some ⟨W.heap.size, 0, none⟩))) (W.alloc (.cells cs t (0, 0))) := by
    unfold execOp
    simp only [ho, hx]
    unfold Instr.box
    go_simp
  exact Kd.event_run hgd hrun (h _ rfl _ (heap_alloc_new W _) (below_alloc (Below.refl _ _) _) (by simp))
theorem cellB {W : World} {g : Nat} {cs : Array Value} {t : TypeId} {fr : Nat × Nat} (h : W.heap[g]? = some (.cells cs t fr)) (j : Nat) : W.cell? ⟨g, j, none⟩ = cs[j]? := cell_of_row W g j cs t fr h
theorem below_of_drewN {w w' : World} {n : Nat} (h : Below (w.drewN n).heap.size (w.drewN n) w') : Below w.heap.size w w' := ⟨h.os, h.tape, h.output, h.size, h.block⟩
theorem below_keeps {B : Nat} {w w' : World} (h : Below B w w') {g : Nat} {o : Obj} (hg : g < B) (hb : w.heap[g]? = some o) : w'.heap[g]? = some o := (h.block g hg).trans hb
theorem But.keeps {g : Nat} {w w' : World} (h : But g w w') {k : Nat} {o : Obj} (hk : k ≠ g) (hb : w.heap[k]? = some o) : w'.heap[k]? = some o :=
  (h.block k (by rcases Nat.lt_or_ge k w.heap.size with hlt | hge
                 · exact hlt
                 · rw [Array.getElem?_eq_none hge] at hb; cases hb) hk).trans hb
end
end Go.Proofs.YtdgipencedlbmaaGreatDoor.Hand
namespace Go.Proofs.YtdgipencedlbmaaGreatDoor.Hand
open Go.RowKit Go.Proofs.YtdgipencedlbmaaGreatDoorW.PrintWords
def letterB (c : Int) : Bool := decide (65 ≤ c ∧ c ≤ 90 ∨ 97 ≤ c ∧ c ≤ 122)
def digitB (c : Int) : Bool := decide (48 ≤ c ∧ c ≤ 57)
theorem letter_calls (c : Int) (w : World) : Calls Tryz.prog 84 #[.int .u8 c] w fun e w' => e = .returned (.bool (letterB c)) ∧ w = w' := by
  have e : letterB c = ((decide (65 ≤ c) && decide (c ≤ 90)) || (decide (97 ≤ c) && decide (c ≤ 122))) := by
    unfold letterB; rw [Bool.eq_iff_iff]; simp
  rw [e]
  by_cases h1 : 65 ≤ c <;> by_cases h2 : c ≤ 90 <;> by_cases h3 : 97 ≤ c <;> by_cases h4 : c ≤ 122 <;>
    (go_enter Tryz.func84, Tryz.ntmps84
     go_wp2
     go_ret
     exact ⟨by simp [*], rfl⟩)
theorem digit_calls (c : Int) (w : World) : Calls Tryz.prog 85 #[.int .u8 c] w fun e w' => e = .returned (.bool (digitB c)) ∧ w = w' := by
  have e : digitB c = ((decide (48 ≤ c) && decide (c ≤ 57))) := by
    unfold digitB; rw [Bool.eq_iff_iff]; simp
  rw [e]
  by_cases h1 : 48 ≤ c <;> by_cases h2 : c ≤ 57 <;>
    (go_enter Tryz.func85, Tryz.ntmps85
     go_wp2
     go_ret
     exact ⟨by simp [*], rfl⟩)
theorem letter_is (c : Int) (b : Bool) (h : letterB c = b) (w : World) : Calls Tryz.prog 84 #[.int .u8 c] w fun e w' => e = .returned (.bool b) ∧ w = w' := by
  subst h; exact letter_calls c w
theorem digit_is (c : Int) (b : Bool) (h : digitB c = b) (w : World) : Calls Tryz.prog 85 #[.int .u8 c] w fun e w' => e = .returned (.bool b) ∧ w = w' := by
  subst h; exact digit_calls c w
def signB (c : Int) : Bool := letterB c || digitB c
def nameErr (s : ByteArray) : Int :=
  if s.size > 24 then 17 else if s.data.toList = [] then 3 else if letterB (bt s 0) = false then 3
  else if s.data.toList.all (fun b => signB b.toNat) then 0 else 3
set_option maxHeartbeats 400000 in
set_option maxRecDepth 100000 in
theorem Name_calls (s : ByteArray) (w : World) : Calls Tryz.prog 51 #[.string s] w fun e w' => e = .returned (.int .i64 (nameErr s)) ∧ Below w.heap.size w w' := by
  by_cases h1 : s.size > 24
  · have hx : decide (24 < s.size) = true := by simpa using h1
    go_enter Tryz.func51, Tryz.ntmps51
    go_wp2
    go_ret
    exact ⟨by simp [nameErr, h1], Below.refl _ _⟩
  · by_cases h2 : s.data.toList = []
    · have hy : s.toList = [] := by rw [toList_eq]; exact h2
      go_enter Tryz.func51, Tryz.ntmps51
      go_wp2
      go_ret
      exact ⟨by simp [nameErr, h1, h2], Below.refl _ _⟩
    · have h0 : 0 < s.size := by
        rcases Nat.eq_zero_or_pos s.size with h | h
        · exact absurd ((size_zero_iff s).1 h) h2
        · exact h
      have hy : s.toList.isEmpty = false := by rw [toList_eq]; simpa using h2
      have hc : bt s 0 = (s[0].toNat : Int) := bt_u8 s 0 h0
      have H0 := Lib.hid hc
      clear hc
      cases h3 : letterB (bt s 0) with
      | false =>
        have H3 := Lib.hid h3
        clear h3
        go_enter Tryz.func51, Tryz.ntmps51
        go_wp2_with (go_at_call 84; refine (letter_is _ false (by rw [← H0.out]; exact H3.out) _).mono ?_; rintro e w' ⟨rfl, rfl⟩)
        go_ret
        exact ⟨by simp [nameErr, h1, h2, H3.out], Below.refl _ _⟩
      | true =>
        have H3 := Lib.hid h3
        clear h3
        obtain ⟨W, c, hcv, hcell, hb⟩ := bytes_made (P := Tryz.prog) w 9 82 5 s Tryz.underlying9 Tryz.underlying82 Tryz.underlying5
        have HB := Lib.hid hb
        have HC := Lib.hid hcell
        clear hb hcell
        go_enter Tryz.func51, Tryz.ntmps51
        go_wp2_with (go_at_call 84; refine (letter_is _ true (by rw [← H0.out]; exact H3.out) _).mono ?_; rintro e w' ⟨rfl, rfl⟩)
        clear hcv
        go_loop [2, 4, 19, 21, 22, 23, 24, 25, 26, 27, 28, 29, 30, 31] (fun r _ i _ _ _ _ _ _ _ _ _ _ _ => ∃ k : Nat, k ≤ s.size ∧ i = .int .i64 k ∧ Hid ((s.data.toList.take k).all (fun b => signB b.toNat) = true)) (fun _ _ i _ _ _ _ _ _ _ _ _ _ _ => s.size - (intOf i).toNat)
        case atStart => exact ⟨0, Nat.zero_le _, rfl, by simp [Hid]⟩
        case round =>
          obtain ⟨k, hk, rfl, hall⟩ := hrel
          by_cases hlt : k < s.size
          · have hx := HC.out k hlt
            have hr := bt_range s k
            have hu := bt_u8 s k hlt
            have H5 := Lib.hid hu
            clear hu
            cases h4 : letterB (bt s k) with
            | true =>
              have H4 := Lib.hid h4
              clear h4
              go_wp2_with (go_at_call 84; refine (letter_is _ true H4.out _).mono ?_; rintro e w' ⟨rfl, rfl⟩)
              go_round
              case rel => exact ⟨k + 1, by omega, by go_num, by
                show _ = true
                rw [all_take_snoc s _ k hlt, hall.out]; simp [signB, ← H5.out, H4.out]⟩
              case measure => simp [intOf]; omega
            | false =>
              have H4 := Lib.hid h4
              clear h4
              cases h6 : digitB (bt s k) with
              | true =>
                have H6 := Lib.hid h6
                clear h6
                go_wp2_with (first | (go_at_call 84; refine (letter_is _ false H4.out _).mono ?_; rintro e w' ⟨rfl, rfl⟩) | (go_at_call 85; refine (digit_is _ true H6.out _).mono ?_; rintro e w' ⟨rfl, rfl⟩))
                go_round
                case rel => exact ⟨k + 1, by omega, by go_num, by
                  show _ = true
                  rw [all_take_snoc s _ k hlt, hall.out]; simp [signB, ← H5.out, H6.out]⟩
                case measure => simp [intOf]; omega
              | false =>
                have H6 := Lib.hid h6
                clear h6
                go_wp2_with (first | (go_at_call 84; refine (letter_is _ false H4.out _).mono ?_; rintro e w' ⟨rfl, rfl⟩) | (go_at_call 85; refine (digit_is _ false H6.out _).mono ?_; rintro e w' ⟨rfl, rfl⟩))
                go_ret
                refine ⟨?_, HB.out⟩
                have hf := all_false_of s (fun b => signB b.toNat) k hlt (by simp [signB, ← H5.out, H4.out, H6.out])
                simp [nameErr, h1, h2, H3.out, hf]
          · obtain rfl : k = s.size := by omega
            go_wp2
            go_ret
            refine ⟨?_, HB.out⟩
            have hf : s.data.toList.all (fun b => signB b.toNat) = true := by
              have := hall.out
              rwa [List.take_of_length_le (by simp)] at this
            simp only [nameErr, h1, h2, H3.out, hf]
            simp
theorem Name_is (s : ByteArray) (v : Int) (h : nameErr s = v) (w : World) : Calls Tryz.prog 51 #[.string s] w fun e w' => e = .returned (.int .i64 v) ∧ Below w.heap.size w w' := by
  subst h; exact Name_calls s w
end Go.Proofs.YtdgipencedlbmaaGreatDoor.Hand
namespace Go.Proofs.YtdgipencedlbmaaGreatDoor.Hand
set_option linter.unusedVariables false
set_option linter.unusedSimpArgs false
open Go.RowKit Go.Proofs.YtdgipencedlbmaaGreatDoorW.PrintWords
def sOpen : ByteArray := ⟨#[111, 112, 101, 110]⟩
def sPass : ByteArray := ⟨#[112, 97, 115, 115]⟩
def sReject : ByteArray := ⟨#[114, 101, 106, 101, 99, 116]⟩
def sConcede : ByteArray := ⟨#[99, 111, 110, 99, 101, 100, 101]⟩
def sScrap : ByteArray := ⟨#[115, 99, 114, 97, 112]⟩
def sClose : ByteArray := ⟨#[99, 108, 111, 115, 101]⟩
def sShip : ByteArray := ⟨#[115, 104, 105, 112]⟩
def rowsC : Array Value := #[.string sOpen, .bool false, .nilFunc, .string sPass, .bool false, .func (.func 88) #[] #[], .string sReject, .bool false, .func (.func 90) #[] #[],
  .string sConcede, .bool false, .func (.func 91) #[] #[], .string sScrap, .bool false, .func (.func 93) #[] #[], .string sClose, .bool true, .func (.func 94) #[] #[], .string sShip, .bool true, .func (.func 96) #[] #[]]
def rowsZ : Array Value := #[.string ⟨#[]⟩, .bool false, .nilFunc, .string ⟨#[]⟩, .bool false, .nilFunc, .string ⟨#[]⟩, .bool false, .nilFunc, .string ⟨#[]⟩, .bool false, .nilFunc,
  .string ⟨#[]⟩, .bool false, .nilFunc, .string ⟨#[]⟩, .bool false, .nilFunc, .string ⟨#[]⟩, .bool false, .nilFunc]
theorem zero93 (w : World) : (zeroValue 93).run Tryz.prog w = .ok (.agg rowsZ) w := by kernel_rfl
set_option maxHeartbeats 8000000 in
set_option maxRecDepth 100000 in
theorem rows_calls (w : World) : Calls Tryz.prog 54 #[] w fun e w' => e = .returned (.agg rowsC) ∧ Below w.heap.size w w' := by
  go_enter Tryz.func54, Tryz.ntmps54
  go_wp2_with (first | ((with_reducible refine alloc_event rfl 93 rfl (.agg rowsZ) zero93 ?_); intro g hg w1 hb1 hB1 hs1; have HG := Lib.hid hg; have HS1 := Lib.hid hs1; clear hg hs1) | ((with_reducible refine build_event (o := ⟨some 1, _, _, _, _, _⟩) rfl 92 _ rfl #[.string sOpen, .bool false, .nilFunc] ?hb ?_); (case hb => kernel_rfl)) | ((with_reducible refine build_event (o := ⟨some 2, _, _, _, _, _⟩) rfl 92 _ rfl #[.string sPass, .bool false, .func (.func 88) #[] #[]] ?hb ?_); (case hb => kernel_rfl)) | ((with_reducible refine build_event (o := ⟨some 3, _, _, _, _, _⟩) rfl 92 _ rfl #[.string sReject, .bool false, .func (.func 90) #[] #[]] ?hb ?_); (case hb => kernel_rfl)) | ((with_reducible refine build_event (o := ⟨some 4, _, _, _, _, _⟩) rfl 92 _ rfl #[.string sConcede, .bool false, .func (.func 91) #[] #[]] ?hb ?_); (case hb => kernel_rfl)) | ((with_reducible refine build_event (o := ⟨some 5, _, _, _, _, _⟩) rfl 92 _ rfl #[.string sScrap, .bool false, .func (.func 93) #[] #[]] ?hb ?_); (case hb => kernel_rfl)) | ((with_reducible refine build_event (o := ⟨some 6, _, _, _, _, _⟩) rfl 92 _ rfl #[.string sClose, .bool true, .func (.func 94) #[] #[]] ?hb ?_); (case hb => kernel_rfl)) | ((with_reducible refine build_event (o := ⟨some 7, _, _, _, _, _⟩) rfl 92 _ rfl #[.string sShip, .bool true, .func (.func 96) #[] #[]] ?hb ?_); (case hb => kernel_rfl)) | ((with_reducible refine build_event rfl 93 _ rfl rowsC ?hb ?_); (case hb => kernel_rfl)) | ((with_reducible refine store_row_event rfl 93 _ _ rfl g rowsC ?hx ?hy 93 _ hb1 ?hi ?ho ?h1 ?_); (case hx => (go_simp; done)); (case hy => (go_simp; done)); (case hi => kernel_rfl); (case ho => kernel_rfl); (case h1 => kernel_rfl); intro w2 hb2 hB2 hs2; have HS2 := Lib.hid hs2; clear hs2))
  refine bodyPost_ret (v := .agg rowsC) ?hres ?hd ⟨rfl, ?_⟩
  case hres =>
    refine results_cell_row Tryz.results54 _ _ g 93 rowsC (0, 0) _ ?hp hb2 Tryz.underlying93 rfl (by kernel_rfl)
    go_simp
  case hd => go_simp
  exact hB2.below hB1 (by have := HG.out; omega) (by have := hB1.size; omega)
def rightErr (k : Int) (s : ByteArray) (n : Int) : Int :=
  if k < 0 ∨ 7 ≤ k then 1 else if nameErr s ≠ 0 then nameErr s
  else if (5 ≤ k ∧ n ≠ 0) ∨ (k < 5 ∧ (n < 1 ∨ n > 1048576)) then 2 else 0
theorem right_below {w w1 w2 w3 w4 : World} {b g : Nat} (hb : b = w.heap.size) (hs1 : w1.heap.size = b + 1) (hg : g = w2.heap.size)
    (hB1 : Below w.heap.size w w1) (hB2 : Below w1.heap.size w1 w2) (hB3 : Below w2.heap.size w2 w3) (hB4 : But g w3 w4) : Below w.heap.size w w4 := by
  have a1 := hB1.size; have a2 := hB2.size; have a3 := hB3.size
  exact hB4.below ((hB1.trans (hB2.mono (by omega))).trans (hB3.mono (by omega))) (by omega) (by omega)
theorem entry_at {W : World} {b : Nat} {k : Int} {s : ByteArray} {n : Int} {t : TypeId} (h : W.heap[b]? = some (.cells #[.int .i64 k, .string s, .int .i64 n] t (0, 0))) :
    W.cell? ⟨b, 0, none⟩ = some (.int .i64 k) ∧ W.cell? ⟨b, 1, none⟩ = some (.string s) ∧ W.cell? ⟨b, 2, none⟩ = some (.int .i64 n) := ⟨cellB h 0, cellB h 1, cellB h 2⟩
theorem row_at {W : World} {g : Nat} (h : W.heap[g]? = some (.cells rowsC 93 (0, 0))) :
    W.cell? ⟨g, 1, none⟩ = some (.bool false) ∧ W.cell? ⟨g, 4, none⟩ = some (.bool false) ∧ W.cell? ⟨g, 7, none⟩ = some (.bool false) ∧ W.cell? ⟨g, 10, none⟩ = some (.bool false) ∧ W.cell? ⟨g, 13, none⟩ = some (.bool false)
    ∧ W.cell? ⟨g, 16, none⟩ = some (.bool true) ∧ W.cell? ⟨g, 19, none⟩ = some (.bool true) :=
  ⟨cellB h 1, cellB h 4, cellB h 7, cellB h 10, cellB h 13, cellB h 16, cellB h 19⟩
theorem below_then {w w1 w2 : World} (h : Below w.heap.size w w1) (h' : Below w1.heap.size w1 w2) : Below w.heap.size w w2 := h.trans (h'.mono h.size)
theorem right_at {w w1 w2 w3 w4 : World} {b g : Nat} {cs : Array Value} {t : TypeId} (hb : b = w.heap.size) (hs1 : w1.heap.size = b + 1) (hg : g = w2.heap.size)
    (hb1 : w1.heap[b]? = some (.cells cs t (0, 0))) (hB1 : Below w.heap.size w w1) (hB2 : Below w1.heap.size w1 w2) (hB3 : Below w2.heap.size w2 w3) (hB4 : But g w3 w4) :
    w4.heap[b]? = some (.cells cs t (0, 0)) ∧ b < w4.heap.size := by
  have a1 := hB1.size; have a2 := hB2.size; have a3 := hB3.size; have a4 := hB4.size
  exact ⟨hB4.keeps (by omega) (below_keeps hB3 (by omega) (below_keeps hB2 (by omega) hb1)), by omega⟩
set_option maxHeartbeats 8000000 in
set_option maxRecDepth 100000 in
theorem Right_kind (k : Int) (s : ByteArray) (n : Int) (w : World) (h : k < 0 ∨ 7 ≤ k) : Calls Tryz.prog 20 #[.agg #[.int .i64 k, .string s, .int .i64 n]] w fun e w' => e = .returned (.int .i64 1) ∧ Below w.heap.size w w' := by
  rcases Int.lt_or_le k 0 with h1 | h1
  all_goals
    first | (have d1 : decide (k < 0) = true := decide_eq_true h1) | (have d1 : decide (k < 0) = false := decide_eq_false (by omega); have d2 : decide (7 ≤ k) = true := decide_eq_true (by omega))
    go_enter Tryz.func20, Tryz.ntmps20
    go_wp2_with (first
        | ((with_reducible refine box_abs rfl 24 _ rfl #[.int .i64 k, .string s, .int .i64 n] ?hx ?_); (case hx => rfl); intro b hb w1 hb1 hB1 hs1; have HBk := Lib.hid hb; have HS1 := Lib.hid hs1; clear hb hs1)
        | (go_at_call 54; refine (rows_calls _).mono ?_; rintro e w2 ⟨rfl, hB2⟩)
        | ((with_reducible refine alloc_event rfl 93 rfl (.agg rowsZ) zero93 ?_); intro g hg w3 hb3 hB3 hs3; have HG := Lib.hid hg; have HS3 := Lib.hid hs3; clear hg hs3)
        | ((with_reducible refine store_row_event rfl 93 _ _ rfl g rowsC ?hx ?hy 93 _ hb3 ?hi ?ho ?h1 ?_); (case hx => (go_simp; done)); (case hy => (go_simp; done)); (case hi => kernel_rfl); (case ho => kernel_rfl); (case h1 => kernel_rfl); intro w4 hb4 hB4 hs4; have HE := Lib.hid (right_at HBk.out HS1.out HG.out hb1 hB1 hB2 hB3 hB4); clear hb1 hb3; have HR4 := Lib.hid (And.intro hb4 (show g < w4.heap.size by have := HG.out; have := HS3.out; omega)); have HS4 := Lib.hid hs4; have HB4 := Lib.hid (right_below HBk.out HS1.out HG.out hB1 hB2 hB3 hB4); clear hB1 hB2 hB3 hB4 hs4 hb4; obtain ⟨hk0, hk1, hk2⟩ := entry_at HE.out.1))
    go_ret
    exact ⟨rfl, HB4.out⟩
set_option maxHeartbeats 8000000 in
set_option maxRecDepth 100000 in
theorem Right_name (k : Int) (s : ByteArray) (n : Int) (w : World) (h0 : 0 ≤ k) (h7 : k < 7) (v : Int) (hv : nameErr s = v) (h : v ≠ 0) : Calls Tryz.prog 20 #[.agg #[.int .i64 k, .string s, .int .i64 n]] w fun e w' => e = .returned (.int .i64 v) ∧ Below w.heap.size w w' := by
  have d1 : decide (k < 0) = false := decide_eq_false (by omega)
  have d2 : decide (7 ≤ k) = false := decide_eq_false (by omega)
  have d3 : (v != 0) = true := by simpa using h
  have HV := Lib.hid hv
  clear hv h
  go_enter Tryz.func20, Tryz.ntmps20
  go_wp2_with (first
      | ((with_reducible refine box_abs rfl 24 _ rfl #[.int .i64 k, .string s, .int .i64 n] ?hx ?_); (case hx => rfl); intro b hb w1 hb1 hB1 hs1; have HBk := Lib.hid hb; have HS1 := Lib.hid hs1; clear hb hs1)
      | (go_at_call 54; refine (rows_calls _).mono ?_; rintro e w2 ⟨rfl, hB2⟩)
      | ((with_reducible refine alloc_event rfl 93 rfl (.agg rowsZ) zero93 ?_); intro g hg w3 hb3 hB3 hs3; have HG := Lib.hid hg; have HS3 := Lib.hid hs3; clear hg hs3)
      | ((with_reducible refine store_row_event rfl 93 _ _ rfl g rowsC ?hx ?hy 93 _ hb3 ?hi ?ho ?h1 ?_); (case hx => (go_simp; done)); (case hy => (go_simp; done)); (case hi => kernel_rfl); (case ho => kernel_rfl); (case h1 => kernel_rfl); intro w4 hb4 hB4 hs4; have HE := Lib.hid (right_at HBk.out HS1.out HG.out hb1 hB1 hB2 hB3 hB4); clear hb1 hb3; have HR4 := Lib.hid (And.intro hb4 (show g < w4.heap.size by have := HG.out; have := HS3.out; omega)); have HS4 := Lib.hid hs4; have HB4 := Lib.hid (right_below HBk.out HS1.out HG.out hB1 hB2 hB3 hB4); clear hB1 hB2 hB3 hB4 hs4 hb4; obtain ⟨hk0, hk1, hk2⟩ := entry_at HE.out.1)
      | (go_at_call 51; refine (Name_is _ v HV.out _).mono ?_; rintro e w5 ⟨rfl, hB5⟩))
  go_ret
  exact ⟨rfl, below_then HB4.out hB5⟩
def countErr (k n : Int) : Int := if (5 ≤ k ∧ n ≠ 0) ∨ (k < 5 ∧ (n < 1 ∨ n > 1048576)) then 2 else 0
theorem countErr_bad {k n : Int} (h : (5 ≤ k ∧ n ≠ 0) ∨ (k < 5 ∧ (n < 1 ∨ n > 1048576))) : Ending.returned (.int .i64 2) = Ending.returned (.int .i64 (countErr k n)) := by
  unfold countErr; rw [if_pos h]
theorem countErr_ok {k n : Int} (h : ¬ ((5 ≤ k ∧ n ≠ 0) ∨ (k < 5 ∧ (n < 1 ∨ n > 1048576)))) : Ending.returned (.int .i64 0) = Ending.returned (.int .i64 (countErr k n)) := by
  unfold countErr; rw [if_neg h]
set_option maxHeartbeats 8000000 in
set_option maxRecDepth 100000 in
theorem Right_count (k : Int) (s : ByteArray) (n : Int) (w : World) (h0 : 0 ≤ k) (h7 : k < 7) (hv : nameErr s = 0) : Calls Tryz.prog 20 #[.agg #[.int .i64 k, .string s, .int .i64 n]] w fun e w' => e = .returned (.int .i64 (countErr k n)) ∧ Below w.heap.size w w' := by
  have HV := Lib.hid hv
  clear hv
  have hk : Hid (k = 0 ∨ k = 1 ∨ k = 2 ∨ k = 3 ∨ k = 4 ∨ k = 5 ∨ k = 6) := by show _ ∨ _; omega
  have H0 := Lib.hid h0
  have H7 := Lib.hid h7
  clear h0 h7
  go_enter Tryz.func20, Tryz.ntmps20
  go_upto_region 2 with (first
        | ((with_reducible refine box_abs rfl 24 _ rfl #[.int .i64 k, .string s, .int .i64 n] ?hx ?_); (case hx => rfl); intro b hb w1 hb1 hB1 hs1; have HBk := Lib.hid hb; have HS1 := Lib.hid hs1; clear hb hs1)
        | (go_at_call 54; refine (rows_calls _).mono ?_; rintro e w2 ⟨rfl, hB2⟩)
        | ((with_reducible refine alloc_event rfl 93 rfl (.agg rowsZ) zero93 ?_); intro g hg w3 hb3 hB3 hs3; have HG := Lib.hid hg; have HS3 := Lib.hid hs3; clear hg hs3)
        | ((with_reducible refine store_row_event rfl 93 _ _ rfl g rowsC ?hx ?hy 93 _ hb3 ?hi ?ho ?h1 ?_); (case hx => (go_simp; done)); (case hy => (go_simp; done)); (case hi => kernel_rfl); (case ho => kernel_rfl); (case h1 => kernel_rfl); intro w4 hb4 hB4 hs4; have HE := Lib.hid (right_at HBk.out HS1.out HG.out hb1 hB1 hB2 hB3 hB4); clear hb1 hb3; have HR4 := Lib.hid (And.intro hb4 (show g < w4.heap.size by have := HG.out; have := HS3.out; omega)); have HS4 := Lib.hid hs4; have HB4 := Lib.hid (right_below HBk.out HS1.out HG.out hB1 hB2 hB3 hB4); clear hB1 hB2 hB3 hB4 hs4 hb4; obtain ⟨hk0, hk1, hk2⟩ := entry_at HE.out.1))
  have finish : ∀ (w5 : World), Below w4.heap.size w4 w5 → Below w.heap.size w w5 := fun w5 h => below_then HB4.out h
  have HF := Lib.hid finish
  clear finish
  rcases hk.out with rfl | rfl | rfl | rfl | rfl | rfl | rfl
  all_goals
    clear hk H0 H7
    rcases (show (n < 1 ∧ n ≠ 0) ∨ n = 0 ∨ (1 ≤ n ∧ n ≤ 1048576) ∨ 1048576 < n by omega) with c | c | c | c
    all_goals
      first | (have d1 : decide (n < 1) = true := decide_eq_true (by omega)) | (have d1 : decide (n < 1) = false := decide_eq_false (by omega))
      first | (have d2 : decide (1048576 < n) = true := decide_eq_true (by omega)) | (have d2 : decide (1048576 < n) = false := decide_eq_false (by omega))
      first | (have d3 : (n != 0) = true := bne_iff_ne.mpr (by omega)) | (have d3 : (n != 0) = false := bne_eq_false_iff_eq.mpr (by omega))
      have C := Lib.hid c
      clear c
      go_wp2_with (go_at_call 51; refine (Name_is _ 0 HV.out _).mono ?_; rintro e w5 ⟨rfl, hB5⟩; have HB5 := Lib.hid (HF.out _ hB5); obtain ⟨r0, r1, r2, r3, r4, r5, r6⟩ := row_at (below_keeps hB5 HR4.out.2 HR4.out.1); obtain ⟨hk0, hk1, hk2⟩ := entry_at (below_keeps hB5 HE.out.2 HE.out.1); clear hB5)
      go_ret
      refine ⟨?_, HB5.out⟩
      have C1 := C.out
      first
      | exact countErr_bad (by omega)
      | exact countErr_ok (by omega)
theorem Right_calls (k : Int) (s : ByteArray) (n : Int) (w : World) : Calls Tryz.prog 20 #[.agg #[.int .i64 k, .string s, .int .i64 n]] w fun e w' => e = .returned (.int .i64 (rightErr k s n)) ∧ Below w.heap.size w w' := by
  unfold rightErr
  by_cases h : k < 0 ∨ 7 ≤ k
  · rw [if_pos h]; exact Right_kind k s n w h
  · rw [if_neg h]
    by_cases h' : nameErr s = 0
    · rw [if_neg (by simpa using h')]
      exact Right_count k s n w (by omega) (by omega) h'
    · rw [if_pos h']
      exact Right_name k s n w (by omega) (by omega) _ rfl h'
end Go.Proofs.YtdgipencedlbmaaGreatDoor.Hand
namespace Go.Proofs.YtdgipencedlbmaaGreatDoor.Pr
open Go.RowKit Go.Proofs.YtdgipencedlbmaaGreatDoorW.PrintWords Go.Proofs.YtdgipencedlbmaaGreatDoor.Hand
def leftS (x : S57) : Int := x.f1 - x.f2 - x.f3 - x.f4 - x.f5
def okNum (n size : Int) : Bool := decide (0 ≤ n) && decide (n ≤ size)
def fitsS (x : S57) : Int :=
  if x.f1 < 1 ∨ x.f1 > 1048576 then 2
  else if (okNum x.f2 x.f1 && okNum x.f3 x.f1 && okNum x.f4 x.f1 && okNum x.f5 x.f1) = false then 2
  else if x.f6 < 0 ∨ x.f6 > 2 then 1
  else if leftS x < 0 ∨ (x.f6 ≠ 0 ∧ leftS x > 0) ∨ (x.f6 = 2 ∧ x.f3 > 0) then 16 else 0
def lessB (a b : ByteArray) : Bool := Op.bytesLess a.data.toList b.data.toList
def badOrder : Option ByteArray → ByteArray → Bool
  | none, _ => false
  | some q, s => !lessB q s
def checkFrom : Option ByteArray → List S57 → Int
  | _, [] => 0
  | p, x :: l =>
    if nameErr x.f0 ≠ 0 then nameErr x.f0
    else if badOrder p x.f0 = true then 9
    else if fitsS x ≠ 0 then fitsS x else checkFrom (some x.f0) l
def checkS (l : List S57) : Int := if 256 < l.length then 5 else checkFrom none l
def lbS (l : List S57) (s : ByteArray) : Nat := (l.takeWhile fun x => lessB x.f0 s).length
def hasS (l : List S57) (s : ByteArray) : Bool := match (l.drop (lbS l s)) with | [] => false | x :: _ => decide (x.f0 = s)
def sortedS : List S57 → Bool
  | [] => true
  | [_] => true
  | x :: y :: l => lessB x.f0 y.f0 && sortedS (y :: l)
def deedS (k n : Int) (x : S57) : S57 × Int :=
  if k = 1 ∨ k = 2 then
    if x.f6 ≠ 0 then (x, 14) else if n > leftS x then (x, 16)
    else (if k = 1 then { x with f2 := x.f2 + n } else { x with f3 := x.f3 + n }, 0)
  else if k = 3 ∨ k = 4 then
    if x.f6 = 2 then (x, 14) else if n > x.f3 then (x, 16)
    else (if k = 3 then { x with f3 := x.f3 - n, f4 := x.f4 + n } else { x with f3 := x.f3 - n, f5 := x.f5 + n }, 0)
  else if k = 5 then
    if x.f6 ≠ 0 then (x, 14) else if leftS x > 0 then (x, 16) else ({ x with f6 := 1 }, 0)
  else
    if x.f6 ≠ 1 then (x, 14) else if x.f3 > 0 then (x, 16) else ({ x with f6 := 2 }, 0)
def newLot (s : ByteArray) (n : Int) : S57 := ⟨s, n, 0, 0, 0, 0, 0⟩
def doneS (l : List S57) (k : Int) (s : ByteArray) (n : Int) : List S57 × Int :=
  if k = 0 then
    if hasS l s = true then ([], 7) else if l.length = 256 then ([], 5)
    else (l.take (lbS l s) ++ newLot s n :: l.drop (lbS l s), 0)
  else if hasS l s = false then ([], 6)
  else if (deedS k n (l.getD (lbS l s) z57)).2 ≠ 0 then ([], (deedS k n (l.getD (lbS l s) z57)).2)
  else (l.set (lbS l s) (deedS k n (l.getD (lbS l s) z57)).1, 0)
def bytesA (l : List UInt8) : ByteArray := ⟨l.toArray⟩
def wordS (k : Int) : List UInt8 :=
  if k = 0 then sOpen.data.toList else if k = 1 then sPass.data.toList else if k = 2 then sReject.data.toList else if k = 3 then sConcede.data.toList
  else if k = 4 then sScrap.data.toList else if k = 5 then sClose.data.toList else sShip.data.toList
def textL (k : Int) (s : List UInt8) (n : Int) : List UInt8 :=
  if 5 ≤ k then wordS k ++ 32 :: s else wordS k ++ 32 :: s ++ 32 :: Lib.itoa n
def textS (k : Int) (s : ByteArray) (n : Int) : ByteArray × Int :=
  if rightErr k s n ≠ 0 then (bytesA [], rightErr k s n) else (bytesA (textL k s.data.toList n), 0)
def stepS (h : Int) (b : UInt8) : Int := (257 * h + b.toNat + 1) % 1000003
def sumS (before : Int) (l : List UInt8) : Int := l.foldl stepS (before % 1000003)
end Go.Proofs.YtdgipencedlbmaaGreatDoor.Pr
