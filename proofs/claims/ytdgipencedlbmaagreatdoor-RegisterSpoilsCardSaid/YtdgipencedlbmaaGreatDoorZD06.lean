/- Contracts of what the kinds of entries do to a lot: the functions in register.rows. The contract of register.done: the register behind a right entry. The contract of register.done at the entries that -/
import Derived.Test.YtdgipencedlbmaaGreatDoorZD05
import Derived.Deep.RegionWith
namespace Go.Proofs.YtdgipencedlbmaaGreatDoor.Pr
set_option linter.unusedVariables false
set_option linter.unusedSimpArgs false
open Go.RowKit Go.Proofs.YtdgipencedlbmaaGreatDoorW.PrintWords Go.Proofs.YtdgipencedlbmaaGreatDoor.Hand
def putLot (cur : Array Value) (o : Nat) (x : S57) : Array Value := (splice cur.toList o (cellsS x).toList).toArray
def DeedEnd (g o : Nat) (cur : Array Value) (r : S57 × Int) (W : World) (e : Ending) (w' : World) : Prop :=
  e = .returned (.int .i64 r.2) ∧ (r.2 = 0 → w'.heap[g]? = some (.cells (putLot cur o r.1) 57 (0, 0))) ∧ But g W w'
theorem deed_err {g o : Nat} {cur : Array Value} {r : S57 × Int} {W w' : World} {v : Int} (hv : r.2 = v) (h0 : v ≠ 0) (hb : But g W w') : DeedEnd g o cur r W (.returned (.int .i64 v)) w' :=
  ⟨by rw [hv], fun h => absurd (hv.symm.trans h) h0, hb⟩
theorem deed_ok {g o : Nat} {cur cur' : Array Value} {r : S57 × Int} {W w' : World} (hv : r.2 = 0) (hw : w'.heap[g]? = some (.cells cur' 57 (0, 0))) (hc : cur' = putLot cur o r.1) (hb : But g W w') : DeedEnd g o cur r W (.returned (.int .i64 0)) w' :=
  ⟨by rw [hv], fun _ => by rw [← hc]; exact hw, hb⟩
def LotIn (cur : Array Value) (o : Nat) (x : S57) : Prop := ∀ j, j < 7 → cur[o + j]? = (cellsS x)[j]?
theorem LotIn.at {W : World} {g o : Nat} {cur : Array Value} {x : S57} {t : TypeId} {fr : Nat × Nat} (h : LotIn cur o x) (hg : W.heap[g]? = some (.cells cur t fr)) : LotAt W g o x :=
  ⟨(cellB hg o).trans (h 0 (by omega)), (cellB hg _).trans (h 1 (by omega)), (cellB hg _).trans (h 2 (by omega)), (cellB hg _).trans (h 3 (by omega)), (cellB hg _).trans (h 4 (by omega)), (cellB hg _).trans (h 5 (by omega)), (cellB hg _).trans (h 6 (by omega))⟩
theorem put_ext {cur cur' : Array Value} {o : Nat} {x y : S57} (h : LotIn cur o x) (hs : cur'.size = cur.size) (hin : ∀ j, j < 7 → cur'[o + j]? = (cellsS y)[j]?) (hout : ∀ k, (k < o ∨ o + 7 ≤ k) → cur'[k]? = cur[k]?) : cur' = putLot cur o y := by
  have hlen : o + 7 ≤ cur.size := by
    have := h 6 (by omega)
    have h2 : (cellsS x)[6]? = some (.int .i64 x.f6) := rfl
    rw [h2] at this
    have := (Array.getElem?_eq_some_iff.1 this).1
    omega
  apply Array.ext'
  apply List.ext_getElem?
  intro k
  unfold putLot splice
  rw [Array.getElem?_toList]
  have e7 : (cellsS y).toList.length = 7 := rfl
  simp only [List.getElem?_append, List.getElem?_take, List.length_take, Array.length_toList, List.getElem?_drop, e7]
  rcases Nat.lt_or_ge k o with h1 | h1
  · rw [hout k (.inl h1), if_pos (by omega), if_pos h1, Array.getElem?_toList]
  · rw [if_neg (by omega)]
    rcases Nat.lt_or_ge k (o + 7) with h2 | h2
    · rw [if_pos (by omega), Array.getElem?_toList]
      have := hin (k - o) (by omega)
      rw [show o + (k - o) = k by omega] at this
      rw [this]
      congr 1; omega
    · rw [if_neg (by omega), hout k (.inr h2), Array.getElem?_toList]
      congr 1; omega
theorem lot_lt {cur : Array Value} {o j : Nat} {x : S57} (h : LotIn cur o x) (hj : j < 7) : o + j < cur.size := by
  have h1 := h 6 (by omega)
  have h2 : (cellsS x)[6]? = some (.int .i64 x.f6) := rfl
  rw [h2] at h1
  have := (Array.getElem?_eq_some_iff.1 h1).1
  omega
theorem but_setCell (W : World) (g i : Nat) (v : Value) : But g W (W.setCell ⟨g, i, none⟩ v) :=
  ⟨rfl, rfl, rfl, by simp, fun k _ hk => heap_setCell_other W ⟨g, i, none⟩ k v hk⟩
theorem deedS_err {k n : Int} {x : S57} {v : Int} (h : deedS k n x = (x, v)) : (deedS k n x).2 = v := by rw [h]
theorem but_drewN {g : Nat} {W w' : World} {n : Nat} (h : But g (W.drewN n) w') : But g W w' := ⟨h.os, h.tape, h.output, h.size, h.block⟩
set_option maxHeartbeats 2000000 in
set_option maxRecDepth 100000 in
theorem deed1_calls (W : World) (g o : Nat) (cur : Array Value) (x : S57) (n : Int) (hg : W.heap[g]? = some (.cells cur 57 (0, 0))) (hx : LotIn cur o x) (hs : SmallLot x) (hn : 0 ≤ n ∧ n ≤ 1048576) :
    Calls Tryz.prog 88 #[.pointer (some ⟨g, o, none⟩), .int .i64 n] W (DeedEnd g o cur (deedS 1 n x) W) := by
  have HX := Lib.hid (hx.at hg)
  have hfz : ∀ j, W.frozen? ⟨g, j, none⟩ = false := fun j => frozen_of_row W g j cur 57 hg
  have HG := Lib.hid hg
  have HI := Lib.hid hx
  clear hg hx
  have hx := HX.out
  obtain ⟨c0, c1, c2, c3, c4, c5, c6⟩ := hx
  obtain ⟨hn0, hn1⟩ := hn
  have h2 := hs.s2
  have h3 := hs.s3
  have h4 := hs.s4
  have h5 := hs.s5
  have HS := Lib.hid hs
  clear hs
  obtain ⟨p2, r2⟩ := h2
  obtain ⟨p3, r3⟩ := h3
  obtain ⟨p4, r4⟩ := h4
  obtain ⟨p5, r5⟩ := h5
  rcases (show x.f6 ≠ 0 ∨ (x.f6 = 0 ∧ leftS x < n) ∨ (x.f6 = 0 ∧ n ≤ leftS x) by omega) with h | h | h
  · have e1 : (x.f6 != 0) = true := bne_iff_ne.mpr h
    have e2 : deedS 1 n x = (x, 14) := by simp [deedS, h]
    have E := Lib.hid e2
    clear h e2
    go_enter Tryz.func88, Tryz.ntmps88
    go_wp2
    go_ret
    exact deed_err (deedS_err E.out) (by omega) (But.of_below (Below.refl _ _))
  · have e1 : (x.f6 != 0) = false := bne_eq_false_iff_eq.mpr h.1
    have e3 : decide (leftS x < n) = true := decide_eq_true h.2
    have e2 : deedS 1 n x = (x, 16) := by simp [deedS, h.1]; omega
    have E := Lib.hid e2
    clear h e2
    go_enter Tryz.func88, Tryz.ntmps88
    go_wp2_with (first | (go_at_call 86; refine (left_calls _ _ x _ HX.out HS.out).mono ?_; rintro e w' ⟨rfl, nd, rfl⟩) | go_in)
    go_ret
    exact deed_err (deedS_err E.out) (by omega) (But.of_below (pw_below_drewN (Below.refl _ _) _))
  · have e1 : (x.f6 != 0) = false := bne_eq_false_iff_eq.mpr h.1
    have e3 : decide (leftS x < n) = false := decide_eq_false (by omega)
    have e2 : deedS 1 n x = ({ x with f2 := x.f2 + n }, 0) := by
      simp [deedS, h.1]; omega
    have E := Lib.hid e2
    clear h e2
    go_enter Tryz.func88, Tryz.ntmps88
    go_wp2_with (first | (go_at_call 86; refine (left_calls _ _ x _ HX.out HS.out).mono ?_; rintro e w' ⟨rfl, nd, rfl⟩) | go_in)
    go_ret
    refine deed_ok (by rw [E.out]) (heap_setCell_same _ g _ cur 57 _ HG.out) ?_ (but_drewN (but_setCell _ _ _ _))
    rw [E.out]
    refine put_ext HI.out (by simp) (fun j hj => ?_) (fun m hm => ?_)
    · rcases (show j = 2 ∨ j ≠ 2 by omega) with rfl | hne
      · rw [Array.getElem?_setIfInBounds_self_of_lt (lot_lt HI.out (by omega))]; rfl
      · rw [Array.getElem?_setIfInBounds_ne (by omega), HI.out j hj]
        rcases (show j = 0 ∨ j = 1 ∨ j = 2 ∨ j = 3 ∨ j = 4 ∨ j = 5 ∨ j = 6 by omega) with rfl | rfl | rfl | rfl | rfl | rfl | rfl <;> first | rfl | (exfalso; omega)
    · rw [Array.getElem?_setIfInBounds_ne (by omega)]
set_option maxHeartbeats 2000000 in
set_option maxRecDepth 100000 in
theorem deed2_calls (W : World) (g o : Nat) (cur : Array Value) (x : S57) (n : Int) (hg : W.heap[g]? = some (.cells cur 57 (0, 0))) (hx : LotIn cur o x) (hs : SmallLot x) (hn : 0 ≤ n ∧ n ≤ 1048576) :
    Calls Tryz.prog 90 #[.pointer (some ⟨g, o, none⟩), .int .i64 n] W (DeedEnd g o cur (deedS 2 n x) W) := by
  have HX := Lib.hid (hx.at hg)
  have hfz : ∀ j, W.frozen? ⟨g, j, none⟩ = false := fun j => frozen_of_row W g j cur 57 hg
  have HG := Lib.hid hg
  have HI := Lib.hid hx
  clear hg hx
  have hx := HX.out
  obtain ⟨c0, c1, c2, c3, c4, c5, c6⟩ := hx
  obtain ⟨hn0, hn1⟩ := hn
  have h2 := hs.s2
  have h3 := hs.s3
  have h4 := hs.s4
  have h5 := hs.s5
  have HS := Lib.hid hs
  clear hs
  obtain ⟨p2, r2⟩ := h2
  obtain ⟨p3, r3⟩ := h3
  obtain ⟨p4, r4⟩ := h4
  obtain ⟨p5, r5⟩ := h5
  rcases (show x.f6 ≠ 0 ∨ (x.f6 = 0 ∧ leftS x < n) ∨ (x.f6 = 0 ∧ n ≤ leftS x) by omega) with h | h | h
  · have e1 : (x.f6 != 0) = true := bne_iff_ne.mpr h
    have e2 : deedS 2 n x = (x, 14) := by simp [deedS, h]
    have E := Lib.hid e2
    clear h e2
    go_enter Tryz.func90, Tryz.ntmps90
    go_wp2
    go_ret
    exact deed_err (deedS_err E.out) (by omega) (But.of_below (Below.refl _ _))
  · have e1 : (x.f6 != 0) = false := bne_eq_false_iff_eq.mpr h.1
    have e3 : decide (leftS x < n) = true := decide_eq_true h.2
    have e2 : deedS 2 n x = (x, 16) := by simp [deedS, h.1]; omega
    have E := Lib.hid e2
    clear h e2
    go_enter Tryz.func90, Tryz.ntmps90
    go_wp2_with (first | (go_at_call 86; refine (left_calls _ _ x _ HX.out HS.out).mono ?_; rintro e w' ⟨rfl, nd, rfl⟩) | go_in)
    go_ret
    exact deed_err (deedS_err E.out) (by omega) (But.of_below (pw_below_drewN (Below.refl _ _) _))
  · have e1 : (x.f6 != 0) = false := bne_eq_false_iff_eq.mpr h.1
    have e3 : decide (leftS x < n) = false := decide_eq_false (by omega)
    have e2 : deedS 2 n x = ({ x with f3 := x.f3 + n }, 0) := by
      simp [deedS, h.1]; omega
    have E := Lib.hid e2
    clear h e2
    go_enter Tryz.func90, Tryz.ntmps90
    go_wp2_with (first | (go_at_call 86; refine (left_calls _ _ x _ HX.out HS.out).mono ?_; rintro e w' ⟨rfl, nd, rfl⟩) | go_in)
    go_ret
    refine deed_ok (by rw [E.out]) (heap_setCell_same _ g _ cur 57 _ HG.out) ?_ (but_drewN (but_setCell _ _ _ _))
    rw [E.out]
    refine put_ext HI.out (by simp) (fun j hj => ?_) (fun m hm => ?_)
    · rcases (show j = 3 ∨ j ≠ 3 by omega) with rfl | hne
      · rw [Array.getElem?_setIfInBounds_self_of_lt (lot_lt HI.out (by omega))]; rfl
      · rw [Array.getElem?_setIfInBounds_ne (by omega), HI.out j hj]
        rcases (show j = 0 ∨ j = 1 ∨ j = 2 ∨ j = 3 ∨ j = 4 ∨ j = 5 ∨ j = 6 by omega) with rfl | rfl | rfl | rfl | rfl | rfl | rfl <;> first | rfl | (exfalso; omega)
    · rw [Array.getElem?_setIfInBounds_ne (by omega)]
set_option maxHeartbeats 2000000 in
set_option maxRecDepth 100000 in
theorem deed3_calls (W : World) (g o : Nat) (cur : Array Value) (x : S57) (n : Int) (hg : W.heap[g]? = some (.cells cur 57 (0, 0))) (hx : LotIn cur o x) (hs : SmallLot x) (hn : 0 ≤ n ∧ n ≤ 1048576) :
    Calls Tryz.prog 91 #[.pointer (some ⟨g, o, none⟩), .int .i64 n] W (DeedEnd g o cur (deedS 3 n x) W) := by
  have HX := Lib.hid (hx.at hg)
  have hfz : ∀ j, W.frozen? ⟨g, j, none⟩ = false := fun j => frozen_of_row W g j cur 57 hg
  have HG := Lib.hid hg
  have HI := Lib.hid hx
  clear hg hx
  have hx := HX.out
  obtain ⟨c0, c1, c2, c3, c4, c5, c6⟩ := hx
  obtain ⟨hn0, hn1⟩ := hn
  have h2 := hs.s2
  have h3 := hs.s3
  have h4 := hs.s4
  have h5 := hs.s5
  have HS := Lib.hid hs
  clear hs
  obtain ⟨p2, r2⟩ := h2
  obtain ⟨p3, r3⟩ := h3
  obtain ⟨p4, r4⟩ := h4
  obtain ⟨p5, r5⟩ := h5
  rcases (show x.f6 = 2 ∨ (x.f6 ≠ 2 ∧ x.f3 < n) ∨ (x.f6 ≠ 2 ∧ n ≤ x.f3) by omega) with h | h | h
  · have e1 : (x.f6 == 2) = true := beq_iff_eq.mpr h
    have e2 : deedS 3 n x = (x, 14) := by simp [deedS, h]
    have E := Lib.hid e2
    clear h e2
    go_enter Tryz.func91, Tryz.ntmps91
    go_wp2
    go_ret
    exact deed_err (deedS_err E.out) (by omega) (But.of_below (Below.refl _ _))
  · have e1 : (x.f6 == 2) = false := beq_eq_false_iff_ne.mpr h.1
    have e3 : decide (x.f3 < n) = true := decide_eq_true h.2
    have e2 : deedS 3 n x = (x, 16) := by simp [deedS, h.1]; omega
    have E := Lib.hid e2
    clear h e2
    go_enter Tryz.func91, Tryz.ntmps91
    go_wp2
    go_ret
    exact deed_err (deedS_err E.out) (by omega) (But.of_below (Below.refl _ _))
  · have e1 : (x.f6 == 2) = false := beq_eq_false_iff_ne.mpr h.1
    have e3 : decide (x.f3 < n) = false := decide_eq_false (by omega)
    have e2 : deedS 3 n x = ({ x with f3 := x.f3 - n, f4 := x.f4 + n }, 0) := by
      simp [deedS, h.1]; omega
    have E := Lib.hid e2
    clear h e2
    go_enter Tryz.func91, Tryz.ntmps91
    go_wp2
    go_ret
    refine deed_ok (by rw [E.out]) (heap_setCell_same _ g _ _ 57 _ (heap_setCell_same _ g _ cur 57 _ HG.out)) ?_ ((but_setCell _ _ _ _).trans (but_setCell _ _ _ _))
    rw [E.out]
    refine put_ext HI.out (by simp) (fun j hj => ?_) (fun m hm => ?_)
    · rcases (show j = 4 ∨ j = 3 ∨ (j ≠ 4 ∧ j ≠ 3) by omega) with rfl | rfl | hne
      · rw [Array.getElem?_setIfInBounds_self_of_lt (by rw [Array.size_setIfInBounds]; exact lot_lt HI.out (by omega))]; rfl
      · rw [Array.getElem?_setIfInBounds_ne (by omega), Array.getElem?_setIfInBounds_self_of_lt (lot_lt HI.out (by omega))]; rfl
      · rw [Array.getElem?_setIfInBounds_ne (by omega), Array.getElem?_setIfInBounds_ne (by omega), HI.out j hj]
        rcases (show j = 0 ∨ j = 1 ∨ j = 2 ∨ j = 3 ∨ j = 4 ∨ j = 5 ∨ j = 6 by omega) with rfl | rfl | rfl | rfl | rfl | rfl | rfl <;> first | rfl | (exfalso; omega)
    · rw [Array.getElem?_setIfInBounds_ne (by omega), Array.getElem?_setIfInBounds_ne (by omega)]
set_option maxHeartbeats 2000000 in
set_option maxRecDepth 100000 in
theorem deed4_calls (W : World) (g o : Nat) (cur : Array Value) (x : S57) (n : Int) (hg : W.heap[g]? = some (.cells cur 57 (0, 0))) (hx : LotIn cur o x) (hs : SmallLot x) (hn : 0 ≤ n ∧ n ≤ 1048576) :
    Calls Tryz.prog 93 #[.pointer (some ⟨g, o, none⟩), .int .i64 n] W (DeedEnd g o cur (deedS 4 n x) W) := by
  have HX := Lib.hid (hx.at hg)
  have hfz : ∀ j, W.frozen? ⟨g, j, none⟩ = false := fun j => frozen_of_row W g j cur 57 hg
  have HG := Lib.hid hg
  have HI := Lib.hid hx
  clear hg hx
  have hx := HX.out
  obtain ⟨c0, c1, c2, c3, c4, c5, c6⟩ := hx
  obtain ⟨hn0, hn1⟩ := hn
  have h2 := hs.s2
  have h3 := hs.s3
  have h4 := hs.s4
  have h5 := hs.s5
  have HS := Lib.hid hs
  clear hs
  obtain ⟨p2, r2⟩ := h2
  obtain ⟨p3, r3⟩ := h3
  obtain ⟨p4, r4⟩ := h4
  obtain ⟨p5, r5⟩ := h5
  rcases (show x.f6 = 2 ∨ (x.f6 ≠ 2 ∧ x.f3 < n) ∨ (x.f6 ≠ 2 ∧ n ≤ x.f3) by omega) with h | h | h
  · have e1 : (x.f6 == 2) = true := beq_iff_eq.mpr h
    have e2 : deedS 4 n x = (x, 14) := by simp [deedS, h]
    have E := Lib.hid e2
    clear h e2
    go_enter Tryz.func93, Tryz.ntmps93
    go_wp2
    go_ret
    exact deed_err (deedS_err E.out) (by omega) (But.of_below (Below.refl _ _))
  · have e1 : (x.f6 == 2) = false := beq_eq_false_iff_ne.mpr h.1
    have e3 : decide (x.f3 < n) = true := decide_eq_true h.2
    have e2 : deedS 4 n x = (x, 16) := by simp [deedS, h.1]; omega
    have E := Lib.hid e2
    clear h e2
    go_enter Tryz.func93, Tryz.ntmps93
    go_wp2
    go_ret
    exact deed_err (deedS_err E.out) (by omega) (But.of_below (Below.refl _ _))
  · have e1 : (x.f6 == 2) = false := beq_eq_false_iff_ne.mpr h.1
    have e3 : decide (x.f3 < n) = false := decide_eq_false (by omega)
    have e2 : deedS 4 n x = ({ x with f3 := x.f3 - n, f5 := x.f5 + n }, 0) := by
      simp [deedS, h.1]; omega
    have E := Lib.hid e2
    clear h e2
    go_enter Tryz.func93, Tryz.ntmps93
    go_wp2
    go_ret
    refine deed_ok (by rw [E.out]) (heap_setCell_same _ g _ _ 57 _ (heap_setCell_same _ g _ cur 57 _ HG.out)) ?_ ((but_setCell _ _ _ _).trans (but_setCell _ _ _ _))
    rw [E.out]
    refine put_ext HI.out (by simp) (fun j hj => ?_) (fun m hm => ?_)
    · rcases (show j = 5 ∨ j = 3 ∨ (j ≠ 5 ∧ j ≠ 3) by omega) with rfl | rfl | hne
      · rw [Array.getElem?_setIfInBounds_self_of_lt (by rw [Array.size_setIfInBounds]; exact lot_lt HI.out (by omega))]; rfl
      · rw [Array.getElem?_setIfInBounds_ne (by omega), Array.getElem?_setIfInBounds_self_of_lt (lot_lt HI.out (by omega))]; rfl
      · rw [Array.getElem?_setIfInBounds_ne (by omega), Array.getElem?_setIfInBounds_ne (by omega), HI.out j hj]
        rcases (show j = 0 ∨ j = 1 ∨ j = 2 ∨ j = 3 ∨ j = 4 ∨ j = 5 ∨ j = 6 by omega) with rfl | rfl | rfl | rfl | rfl | rfl | rfl <;> first | rfl | (exfalso; omega)
    · rw [Array.getElem?_setIfInBounds_ne (by omega), Array.getElem?_setIfInBounds_ne (by omega)]
set_option maxHeartbeats 2000000 in
set_option maxRecDepth 100000 in
theorem deed5_calls (W : World) (g o : Nat) (cur : Array Value) (x : S57) (n : Int) (hg : W.heap[g]? = some (.cells cur 57 (0, 0))) (hx : LotIn cur o x) (hs : SmallLot x) (hn : 0 ≤ n ∧ n ≤ 1048576) :
    Calls Tryz.prog 94 #[.pointer (some ⟨g, o, none⟩), .int .i64 n] W (DeedEnd g o cur (deedS 5 n x) W) := by
  have HX := Lib.hid (hx.at hg)
  have hfz : ∀ j, W.frozen? ⟨g, j, none⟩ = false := fun j => frozen_of_row W g j cur 57 hg
  have HG := Lib.hid hg
  have HI := Lib.hid hx
  clear hg hx
  have hx := HX.out
  obtain ⟨c0, c1, c2, c3, c4, c5, c6⟩ := hx
  obtain ⟨hn0, hn1⟩ := hn
  have h2 := hs.s2
  have h3 := hs.s3
  have h4 := hs.s4
  have h5 := hs.s5
  have HS := Lib.hid hs
  clear hs
  obtain ⟨p2, r2⟩ := h2
  obtain ⟨p3, r3⟩ := h3
  obtain ⟨p4, r4⟩ := h4
  obtain ⟨p5, r5⟩ := h5
  rcases (show x.f6 ≠ 0 ∨ (x.f6 = 0 ∧ 0 < leftS x) ∨ (x.f6 = 0 ∧ leftS x ≤ 0) by omega) with h | h | h
  · have e1 : (x.f6 != 0) = true := bne_iff_ne.mpr h
    have e2 : deedS 5 n x = (x, 14) := by simp [deedS, h]
    have E := Lib.hid e2
    clear h e2
    go_enter Tryz.func94, Tryz.ntmps94
    go_wp2_with (first | (go_at_call 86; refine (left_calls _ _ x _ HX.out HS.out).mono ?_; rintro e w' ⟨rfl, nd, rfl⟩) | go_in)
    go_ret
    exact deed_err (deedS_err E.out) (by omega) (But.of_below (pw_below_drewN (Below.refl _ _) _))
  · have e1 : (x.f6 != 0) = false := bne_eq_false_iff_eq.mpr h.1
    have e3 : decide (0 < leftS x) = true := decide_eq_true h.2
    have e2 : deedS 5 n x = (x, 16) := by simp [deedS, h.1]; omega
    have E := Lib.hid e2
    clear h e2
    go_enter Tryz.func94, Tryz.ntmps94
    go_wp2_with (first | (go_at_call 86; refine (left_calls _ _ x _ HX.out HS.out).mono ?_; rintro e w' ⟨rfl, nd, rfl⟩) | go_in)
    go_ret
    exact deed_err (deedS_err E.out) (by omega) (But.of_below (pw_below_drewN (Below.refl _ _) _))
  · have e1 : (x.f6 != 0) = false := bne_eq_false_iff_eq.mpr h.1
    have e3 : decide (0 < leftS x) = false := decide_eq_false (by omega)
    have e2 : deedS 5 n x = ({ x with f6 := 1 }, 0) := by
      simp [deedS, h.1]; omega
    have E := Lib.hid e2
    clear h e2
    go_enter Tryz.func94, Tryz.ntmps94
    go_wp2_with (first | (go_at_call 86; refine (left_calls _ _ x _ HX.out HS.out).mono ?_; rintro e w' ⟨rfl, nd, rfl⟩) | go_in)
    go_ret
    refine deed_ok (by rw [E.out]) (heap_setCell_same _ g _ cur 57 _ HG.out) ?_ (but_drewN (but_setCell _ _ _ _))
    rw [E.out]
    refine put_ext HI.out (by simp) (fun j hj => ?_) (fun m hm => ?_)
    · rcases (show j = 6 ∨ j ≠ 6 by omega) with rfl | hne
      · rw [Array.getElem?_setIfInBounds_self_of_lt (lot_lt HI.out (by omega))]; rfl
      · rw [Array.getElem?_setIfInBounds_ne (by omega), HI.out j hj]
        rcases (show j = 0 ∨ j = 1 ∨ j = 2 ∨ j = 3 ∨ j = 4 ∨ j = 5 ∨ j = 6 by omega) with rfl | rfl | rfl | rfl | rfl | rfl | rfl <;> first | rfl | (exfalso; omega)
    · rw [Array.getElem?_setIfInBounds_ne (by omega)]
set_option maxHeartbeats 2000000 in
set_option maxRecDepth 100000 in
theorem deed6_calls (W : World) (g o : Nat) (cur : Array Value) (x : S57) (n : Int) (hg : W.heap[g]? = some (.cells cur 57 (0, 0))) (hx : LotIn cur o x) (hs : SmallLot x) (hn : 0 ≤ n ∧ n ≤ 1048576) :
    Calls Tryz.prog 96 #[.pointer (some ⟨g, o, none⟩), .int .i64 n] W (DeedEnd g o cur (deedS 6 n x) W) := by
  have HX := Lib.hid (hx.at hg)
  have hfz : ∀ j, W.frozen? ⟨g, j, none⟩ = false := fun j => frozen_of_row W g j cur 57 hg
  have HG := Lib.hid hg
  have HI := Lib.hid hx
  clear hg hx
  have hx := HX.out
  obtain ⟨c0, c1, c2, c3, c4, c5, c6⟩ := hx
  obtain ⟨hn0, hn1⟩ := hn
  have h2 := hs.s2
  have h3 := hs.s3
  have h4 := hs.s4
  have h5 := hs.s5
  have HS := Lib.hid hs
  clear hs
  obtain ⟨p2, r2⟩ := h2
  obtain ⟨p3, r3⟩ := h3
  obtain ⟨p4, r4⟩ := h4
  obtain ⟨p5, r5⟩ := h5
  rcases (show x.f6 ≠ 1 ∨ (x.f6 = 1 ∧ 0 < x.f3) ∨ (x.f6 = 1 ∧ x.f3 ≤ 0) by omega) with h | h | h
  · have e1 : (x.f6 != 1) = true := bne_iff_ne.mpr h
    have e2 : deedS 6 n x = (x, 14) := by simp [deedS, h]
    have E := Lib.hid e2
    clear h e2
    go_enter Tryz.func96, Tryz.ntmps96
    go_wp2
    go_ret
    exact deed_err (deedS_err E.out) (by omega) (But.of_below (Below.refl _ _))
  · have e1 : (x.f6 != 1) = false := bne_eq_false_iff_eq.mpr h.1
    have e3 : decide (0 < x.f3) = true := decide_eq_true h.2
    have e2 : deedS 6 n x = (x, 16) := by simp [deedS, h.1]; omega
    have E := Lib.hid e2
    clear h e2
    go_enter Tryz.func96, Tryz.ntmps96
    go_wp2
    go_ret
    exact deed_err (deedS_err E.out) (by omega) (But.of_below (Below.refl _ _))
  · have e1 : (x.f6 != 1) = false := bne_eq_false_iff_eq.mpr h.1
    have e3 : decide (0 < x.f3) = false := decide_eq_false (by omega)
    have e2 : deedS 6 n x = ({ x with f6 := 2 }, 0) := by
      simp [deedS, h.1]; omega
    have E := Lib.hid e2
    clear h e2
    go_enter Tryz.func96, Tryz.ntmps96
    go_wp2
    go_ret
    refine deed_ok (by rw [E.out]) (heap_setCell_same _ g _ cur 57 _ HG.out) ?_ (but_setCell _ _ _ _)
    rw [E.out]
    refine put_ext HI.out (by simp) (fun j hj => ?_) (fun m hm => ?_)
    · rcases (show j = 6 ∨ j ≠ 6 by omega) with rfl | hne
      · rw [Array.getElem?_setIfInBounds_self_of_lt (lot_lt HI.out (by omega))]; rfl
      · rw [Array.getElem?_setIfInBounds_ne (by omega), HI.out j hj]
        rcases (show j = 0 ∨ j = 1 ∨ j = 2 ∨ j = 3 ∨ j = 4 ∨ j = 5 ∨ j = 6 by omega) with rfl | rfl | rfl | rfl | rfl | rfl | rfl <;> first | rfl | (exfalso; omega)
    · rw [Array.getElem?_setIfInBounds_ne (by omega)]
end Go.Proofs.YtdgipencedlbmaaGreatDoor.Pr
namespace Go.Proofs.YtdgipencedlbmaaGreatDoor.Pr
set_option linter.unusedVariables false
set_option linter.unusedSimpArgs false
open Go.RowKit Go.Proofs.YtdgipencedlbmaaGreatDoorW.PrintWords Go.Proofs.YtdgipencedlbmaaGreatDoor.Hand
theorem build57 (s : ByteArray) (n : Int) (w : World) : (Instr.build 57 #[(0, .string s), (1, .int .i64 n)]).run Tryz.prog w = .ok (.agg #[.string s, .int .i64 n, .int .i64 0, .int .i64 0, .int .i64 0, .int .i64 0, .int .i64 0]) w := run_build w 57 _ _ (by kernel_rfl)
theorem lb_le (l : List S57) (s : ByteArray) : lbS l s ≤ l.length := by
  unfold lbS; exact (List.takeWhile_sublist _).length_le
theorem own_ne_new {W : World} {base : Nat} {v : Value} {l : List S57} (h : Kd.R k57 57 W base (fun _ => True) v l) : ∀ k, v.ownBlock = some k → W.heap.size ≠ k := by
  intro k hk
  rcases own_open h with ⟨rfl, rfl⟩ | ⟨g, cap, cur, rfl, _, hbg, hg, _⟩
  · simp [Value.ownBlock] at hk
  · simp [Value.ownBlock] at hk
    subst hk
    intro he
    rw [Array.getElem?_eq_none (by omega)] at hg; cases hg
theorem own_ne_old {W : World} {base vb : Nat} {v : Value} {l : List S57} (h : Kd.R k57 57 W base (fun _ => True) v l) (hb : vb < base) : ∀ k, v.ownBlock = some k → vb ≠ k := by
  intro k hk
  rcases own_open h with ⟨rfl, rfl⟩ | ⟨g, cap, cur, rfl, _, hbg, hg, _⟩
  · simp [Value.ownBlock] at hk
  · simp [Value.ownBlock] at hk
    omega
theorem below_endA {w w2 w3 : World} {o : Obj} (h2 : Below w.heap.size w w2) (h3 : Below w2.drew.heap.size w2.drew w3) : Below w.heap.size w (w3.alloc o) := below_alloc (below_then (below_drew h2) h3) _
theorem below_endB {w w2 w3 : World} {o : Obj} (h2 : Below w.heap.size w w2) (h3 : Below (w2.alloc o).drew.heap.size (w2.alloc o).drew w3) : Below w.heap.size w w3 := below_then (below_drew (below_alloc h2 _)) h3
theorem base_leA {w w2 w3 : World} {o : Obj} (h2 : Below w.heap.size w w2) (h3 : Below w2.drew.heap.size w2.drew w3) : w.heap.size ≤ (w3.alloc o).heap.size := (below_endA (o := o) h2 h3).size
theorem base_leB {w w2 w3 : World} {o : Obj} (h2 : Below w.heap.size w w2) (h3 : Below (w2.alloc o).drew.heap.size (w2.alloc o).drew w3) : w.heap.size ≤ w3.heap.size := (below_endB h2 h3).size
def DoneEnd (l : List S57) (e2 : Int) (w : World) (e : Ending) (w' : World) : Prop := ∃ v0_ : Value, e = .returned (.tuple #[v0_, .int .i64 e2]) ∧ Kd.R k57 57 w' w.heap.size (fun _ => True) v0_ l ∧ Below w.heap.size w w'
theorem done_nil {e2 : Int} {w w' : World} (h : Below w.heap.size w w') : DoneEnd [] e2 w (.returned (.tuple #[.slice none 0 0, .int .i64 e2])) w' := ⟨_, rfl, Kd.R_nil _ _ _ _ _, h⟩
theorem done_at {l l' : List S57} {k n : Int} {s : ByteArray} {w w' : World} {v : Value} (e : doneS l k s n = (l', 0)) (hR : Kd.R k57 57 w' w.heap.size (fun _ => True) v l') (hB : Below w.heap.size w w') :
    DoneEnd (doneS l k s n).1 (doneS l k s n).2 w (.returned (.tuple #[v, .int .i64 0])) w' := by
  rw [e]; exact ⟨_, rfl, hR, hB⟩
set_option maxHeartbeats 4000000 in
set_option maxRecDepth 100000 in
theorem done_open (A0 : Option Addr) (c0 : Nat) (l0 : List (S57)) (s : ByteArray) (n : Int) (w : World) (hr0 : Kd.C k57 w A0 l0.length l0) (hc0 : l0.length ≤ c0) (hm : l0.length ≤ 256) (hs : sortedS l0 = true) :
    Calls Tryz.prog 49 #[.slice A0 l0.length c0, .agg #[.int .i64 0, .string s, .int .i64 n]] w (DoneEnd (doneS l0 0 s n).1 (doneS l0 0 s n).2 w) := by
  have HR := Lib.hid hr0
  have HC := Lib.hid hc0
  have HM := Lib.hid hm
  have HS := Lib.hid hs
  obtain ⟨p, hp⟩ : ∃ p, lbS l0 s = p := ⟨_, rfl⟩
  have HP := Lib.hid hp
  clear hr0 hc0 hs hp
  cases hh : hasS l0 s with
  | true =>
    have HH := Lib.hid hh
    clear hh
    go_enter Tryz.func49, Tryz.ntmps49
    go_wp2_with (first
      | ((with_reducible refine box_abs rfl 24 _ rfl #[.int .i64 0, .string s, .int .i64 n] ?hx ?_); (case hx => rfl); intro b hb w1 hb1 hB1 hs1; have HBk := Lib.hid hb; have HE1 := Lib.hid hb1; have HB1 := Lib.hid hB1; have HS1 := Lib.hid hs1; obtain ⟨k0, k1, k2⟩ := entry_at hb1; clear hb hs1 hb1 hB1)
      | (go_at_call 55; refine (find_calls _ _ l0 s _ (Kd.C_below HR.out HB1.out) HC.out HM.out HS.out).mono ?_; rw [HP.out, HH.out]; rintro e w2 ⟨rfl, hB2⟩; have HB2 := Lib.hid (below_then HB1.out hB2); have HE2 := Lib.hid (below_keeps hB2 (by rw [HS1.out]; omega) HE1.out); obtain ⟨k0, k1, k2⟩ := entry_at HE2.out; clear hB2))
    go_ret2
    have e : doneS l0 0 s n = ([], 7) := by unfold doneS; rw [if_pos rfl, if_pos HH.out]
    rw [e]
    exact done_nil HB2.out
  | false =>
    have HH := Lib.hid hh
    clear hh
    by_cases h256 : l0.length = 256
    · have d1 : ((l0.length : Int) == 256) = true := beq_iff_eq.mpr (by omega)
      have H256 := Lib.hid h256
      clear h256
      go_enter Tryz.func49, Tryz.ntmps49
      go_wp2_with (first
        | ((with_reducible refine box_abs rfl 24 _ rfl #[.int .i64 0, .string s, .int .i64 n] ?hx ?_); (case hx => rfl); intro b hb w1 hb1 hB1 hs1; have HBk := Lib.hid hb; have HE1 := Lib.hid hb1; have HB1 := Lib.hid hB1; have HS1 := Lib.hid hs1; obtain ⟨k0, k1, k2⟩ := entry_at hb1; clear hb hs1 hb1 hB1)
        | (go_at_call 55; refine (find_calls _ _ l0 s _ (Kd.C_below HR.out HB1.out) HC.out HM.out HS.out).mono ?_; rw [HP.out, HH.out]; rintro e w2 ⟨rfl, hB2⟩; have HB2 := Lib.hid (below_then HB1.out hB2); have HE2 := Lib.hid (below_keeps hB2 (by rw [HS1.out]; omega) HE1.out); obtain ⟨k0, k1, k2⟩ := entry_at HE2.out; clear hB2))
      go_ret2
      have e : doneS l0 0 s n = ([], 5) := by unfold doneS; rw [if_pos rfl, if_neg (by rw [HH.out]; simp), if_pos H256.out]
      rw [e]
      exact done_nil HB2.out
    · have d1 : ((l0.length : Int) == 256) = false := beq_eq_false_iff_ne.mpr (by omega)
      have H256 := Lib.hid h256
      clear h256
      have hb57 := build57 s n
      go_enter Tryz.func49, Tryz.ntmps49
      go_wp2_with (first
        | ((with_reducible refine box_abs rfl 24 _ rfl #[.int .i64 0, .string s, .int .i64 n] ?hx ?_); (case hx => rfl); intro b hb w1 hb1 hB1 hs1; have HBk := Lib.hid hb; have HE1 := Lib.hid hb1; have HB1 := Lib.hid hB1; have HS1 := Lib.hid hs1; obtain ⟨k0, k1, k2⟩ := entry_at hb1; clear hb hs1 hb1 hB1)
        | (go_at_call 55; refine (find_calls _ _ l0 s _ (Kd.C_below HR.out HB1.out) HC.out HM.out HS.out).mono ?_; rw [HP.out, HH.out]; rintro e w2 ⟨rfl, hB2⟩; have HB2 := Lib.hid (below_then HB1.out hB2); have HE2 := Lib.hid (below_keeps hB2 (by rw [HS1.out]; omega) HE1.out); have HZ2 := Lib.hid (show b < w2.heap.size by have := hB2.size; have := HS1.out; omega); obtain ⟨k0, k1, k2⟩ := entry_at HE2.out; clear hB2))
      go_region_with (first
        | (go_at_call 81; refine (Clone_calls _ _ l0 _ (Kd.C_below HR.out ?hb) HC.out HM.out).mono ?_; (case hb => first | exact below_drew HB2.out | exact below_drew (below_alloc HB2.out _)); rintro e w3 ⟨v1, rfl, hR3, hB3⟩; have hE3 := below_keeps hB3 (g := b) (show b < _ by first | exact HZ2.out | exact Nat.lt_of_lt_of_le HZ2.out (by simp)) (by first | exact HE2.out | exact (heap_alloc_old w2 _ HZ2.out).trans HE2.out); obtain ⟨k0, k1, k2⟩ := entry_at hE3; have HE3 := Lib.hid hE3; have HR3 := Lib.hid hR3; have HB3 := Lib.hid hB3; clear hE3 hR3 hB3)
        | (go_at_call 80; refine (Insert_calls _ w w.heap.size v1 l0 (newLot s n) _ p ?hR ?hv ?hne (by rw [← HP.out]; exact lb_le _ _) HM.out ?hbase ?hB).mono ?_; (case hR => first | exact Kd.R_alloc (Kd.R_lower HR3.out HB2.out.size) _ | exact Kd.R_lower HR3.out (Nat.le_trans HB2.out.size (by simp))); (case hv => first | exact heap_alloc_new w3 _ | exact below_keeps HB3.out (by simp) (heap_alloc_new w2 _)); (case hne => first | exact own_ne_new HR3.out | exact own_ne_old HR3.out (by simp)); (case hbase => first | exact base_leA HB2.out HB3.out | exact base_leB HB2.out HB3.out); (case hB => first | exact below_endA HB2.out HB3.out | exact below_endB HB2.out HB3.out); rintro e w4 ⟨v2, rfl, hR4, hB4⟩; have HR4 := Lib.hid hR4; have HB4 := Lib.hid hB4; clear hR4 hB4))
      all_goals
        go_wp2
        go_ret2
        exact done_at (by unfold doneS; rw [if_pos rfl, if_neg (by rw [HH.out]; simp), if_neg H256.out, HP.out]) HR4.out HB4.out
end Go.Proofs.YtdgipencedlbmaaGreatDoor.Pr
namespace Go.Proofs.YtdgipencedlbmaaGreatDoor.Pr
set_option linter.unusedVariables false
set_option linter.unusedSimpArgs false
open Go.RowKit Go.Proofs.YtdgipencedlbmaaGreatDoorW.PrintWords Go.Proofs.YtdgipencedlbmaaGreatDoor.Hand
theorem blk_lt {W : World} {g : Nat} {o : Obj} (h : W.heap[g]? = some o) : g < W.heap.size := by
  rcases Nat.lt_or_ge g W.heap.size with h1 | h1
  · exact h1
  · rw [Array.getElem?_eq_none h1] at h; cases h
theorem own_slice {W : World} {base : Nat} {v : Value} {l : List S57} (h : Kd.R k57 57 W base (fun _ => True) v l) (hne : l ≠ []) :
    ∃ g cap cur, v = .slice (some ⟨g, 0, none⟩) l.length cap ∧ base ≤ g ∧ W.heap[g]? = some (.cells cur 57 (0, 0)) ∧ l.length ≤ cap ∧ cap ≤ maxLen ∧ cur.size = cap * 7 ∧ Reps LR 7 l (cur.toList.take (l.length * 7)) := by
  rcases own_open h with ⟨_, rfl⟩ | ⟨g, cap, cur, hv, _, r⟩
  · exact absurd rfl hne
  · exact ⟨g, cap, cur, hv, r⟩
theorem reps_in {l : List S57} {cur : Array Value} {p cap : Nat} (hr : Reps LR 7 l (cur.toList.take (l.length * 7))) (hp : p < l.length) : LotIn cur (p * 7) (l.getD p z57) := by
  intro j hj
  have h2 := hr.2 p (l.getD p z57) (by rw [List.getD, List.getElem?_eq_getElem hp]; rfl)
  have h3 : ((cur.toList.take (l.length * 7)).drop (p * 7)).take 7 = (cellsS (l.getD p z57)).toList := h2
  rw [← Array.getElem?_toList, ← Array.getElem?_toList, ← h3, List.getElem?_take_of_lt hj, List.getElem?_drop, List.getElem?_take_of_lt]
  have := Nat.mul_le_mul_right 7 hp
  omega
theorem take_splice (cs xs : List Value) (o m : Nat) (h : o + xs.length ≤ m) (hm : m ≤ cs.length) : (splice cs o xs).take m = splice (cs.take m) o xs := by
  unfold splice
  apply List.ext_getElem?
  intro j
  simp only [List.getElem?_take, List.getElem?_append, List.getElem?_drop, List.length_take]
  rcases Nat.lt_or_ge j m with h1 | h1
  · rw [if_pos h1]
    rcases Nat.lt_or_ge j o with h2 | h2
    · repeat (first | rw [if_pos (by omega)] | rw [if_neg (by omega)])
    · rcases Nat.lt_or_ge j (o + xs.length) with h3 | h3
      · repeat (first | rw [if_pos (by omega)] | rw [if_neg (by omega)])
        congr 1; omega
      · repeat (first | rw [if_pos (by omega)] | rw [if_neg (by omega)])
        congr 1; omega
  · rw [if_neg (by omega)]
    repeat (first | rw [if_pos (by omega)] | rw [if_neg (by omega)])
theorem reps_set {l : List S57} {cs : List Value} {p : Nat} {y : S57} (hr : Reps LR 7 l cs) (hp : p < l.length) : Reps LR 7 (l.set p y) (splice cs (p * 7) (cellsS y).toList) := by
  have hl : p * 7 + 7 ≤ cs.length := by rw [hr.1]; have := Nat.mul_le_mul_right 7 hp; omega
  have e7 : (cellsS y).toList.length = 7 := rfl
  refine ⟨by rw [length_splice _ _ _ (by rw [e7]; exact hl), hr.1, List.length_set], fun j q hj => ?_⟩
  unfold LR splice
  rw [e7]
  apply List.ext_getElem?
  intro m
  rcases Nat.lt_or_ge m 7 with hm | hm
  · rw [List.getElem?_take_of_lt hm, List.getElem?_drop]
    simp only [List.getElem?_append, List.getElem?_take, List.length_take, List.getElem?_drop, e7]
    rcases Nat.lt_trichotomy j p with h1 | h1 | h1
    · have hjm : j * 7 + m < p * 7 := by omega
      have hq : l[j]? = some q := by rwa [List.getElem?_set_ne (by omega)] at hj
      have h2 := hr.2 j q hq
      repeat (first | rw [if_pos (by omega)] | rw [if_neg (by omega)])
      rw [← show _ = (cellsS q).toList from h2, List.getElem?_take_of_lt hm, List.getElem?_drop]
    · subst h1
      have hq : y = q := by rw [List.getElem?_set_self hp] at hj; exact Option.some.inj hj
      subst hq
      repeat (first | rw [if_pos (by omega)] | rw [if_neg (by omega)])
      congr 1; omega
    · have hq : l[j]? = some q := by rwa [List.getElem?_set_ne (by omega)] at hj
      have h2 := hr.2 j q hq
      repeat (first | rw [if_pos (by omega)] | rw [if_neg (by omega)])
      rw [← show _ = (cellsS q).toList from h2, List.getElem?_take_of_lt hm, List.getElem?_drop]
      congr 1; omega
  · rw [List.getElem?_eq_none (by rw [List.length_take]; omega), List.getElem?_eq_none (by show 7 ≤ m; exact hm)]
theorem done_set {l : List S57} {k n : Int} {s : ByteArray} {w w' : World} {g cap p : Nat} {cur : Array Value} {y : S57} (e : doneS l k s n = (l.set p y, 0)) (hp : p < l.length) (hbg : w.heap.size ≤ g) (hw : w'.heap[g]? = some (.cells (putLot cur (p * 7) y) 57 (0, 0)))
    (hnc : l.length ≤ cap) (hcm : cap ≤ maxLen) (hcs : cur.size = cap * 7) (hr : Reps LR 7 l (cur.toList.take (l.length * 7))) (hB : Below w.heap.size w w') :
    DoneEnd (doneS l k s n).1 (doneS l k s n).2 w (.returned (.tuple #[.slice (some ⟨g, 0, none⟩) l.length cap, .int .i64 0])) w' := by
  have hlen : (l.set p y).length = l.length := List.length_set
  have e7 : (cellsS y).toList.length = 7 := rfl
  have ecur : cur.toList.length = cap * 7 := by rw [Array.length_toList, hcs]
  have hp7 : p * 7 + 7 ≤ l.length * 7 := by have := Nat.mul_le_mul_right 7 hp; omega
  have hl7 : l.length * 7 ≤ cap * 7 := Nat.mul_le_mul_right 7 hnc
  refine done_at e ?_ hB
  rw [← hlen]
  refine own_shut trivial hbg hw (by rw [hlen]; exact hnc) hcm ?_ ?_
  · unfold putLot; rw [List.size_toArray, length_splice _ _ _ (by rw [e7, ecur]; omega), ecur]
  · rw [hlen]
    unfold putLot
    rw [show (splice cur.toList (p * 7) (cellsS y).toList).toArray.toList = splice cur.toList (p * 7) (cellsS y).toList from rfl, take_splice _ _ _ _ (by rw [e7]; exact hp7) (by rw [ecur]; exact hl7)]
    exact reps_set hr hp
theorem done_err {l : List S57} {k n v : Int} {s : ByteArray} {w w' : World} (e : doneS l k s n = ([], v)) (hB : Below w.heap.size w w') :
    DoneEnd (doneS l k s n).1 (doneS l k s n).2 w (.returned (.tuple #[.slice none 0 0, .int .i64 v])) w' := by
  rw [e]; exact done_nil hB
theorem lt_of_has {l : List S57} {s : ByteArray} {p : Nat} (h : hasS l s = true) (hp : lbS l s = p) : p < l.length := by
  rcases Nat.lt_or_ge (lbS l s) l.length with h1 | h1
  · omega
  · rw [hasS_end (by omega)] at h; cases h
theorem doneS_err {l : List S57} {k n v : Int} {s : ByteArray} {p : Nat} {x : S57} (hk : k ≠ 0) (h : hasS l s = true) (hp : lbS l s = p) (hx : x = l.getD p z57) (hv : (deedS k n x).2 = v) (h0 : v ≠ 0) : doneS l k s n = ([], v) := by
  unfold doneS
  rw [if_neg hk, if_neg (by rw [h]; simp), hp, ← hx, if_pos (by rw [hv]; exact h0), hv]
theorem doneS_ok {l : List S57} {k n v : Int} {s : ByteArray} {p : Nat} {x : S57} (hk : k ≠ 0) (h : hasS l s = true) (hp : lbS l s = p) (hx : x = l.getD p z57) (hv : (deedS k n x).2 = v) (h0 : v = 0) : doneS l k s n = (l.set p (deedS k n x).1, 0) := by
  unfold doneS
  rw [if_neg hk, if_neg (by rw [h]; simp), hp, ← hx, if_neg (by rw [hv, h0]; simp)]
theorem doneS_none {l : List S57} {k n : Int} {s : ByteArray} (hk : k ≠ 0) (h : hasS l s = false) : doneS l k s n = ([], 6) := by
  unfold doneS
  rw [if_neg hk, if_pos h]
def DeedIs (g o : Nat) (cur : Array Value) (y : S57) (v : Int) (W : World) (e : Ending) (w' : World) : Prop :=
  e = .returned (.int .i64 v) ∧ (v = 0 → w'.heap[g]? = some (.cells (putLot cur o y) 57 (0, 0))) ∧ But g W w'
theorem deed_is {g o : Nat} {cur : Array Value} {k n v : Int} {x : S57} {W : World} {P : Program} {f : Nat} {ar : Array Value} (h : Calls P f ar W (DeedEnd g o cur (deedS k n x) W)) (hv : (deedS k n x).2 = v) : Calls P f ar W (DeedIs g o cur (deedS k n x).1 v W) := by
  refine h.mono fun e w' ⟨he, hok, hb⟩ => ⟨by rw [he, hv], fun h0 => hok (by rw [hv]; exact h0), hb⟩
end Go.Proofs.YtdgipencedlbmaaGreatDoor.Pr
