/- register's reader: its next line. A range over a function whose iterator keeps its state in one block of cells: what such an iterator owes, and the law of its callers. register's reader as an iterator -/
import Derived.Test.YtdgipencedlbmaaGreatDoorZL25
import Derived.Test.YtdgipencedlbmaaGreatDoorZJ23
import Derived.Deep.RegionHeld3
import Derived.Test.YtdgipencedlbmaaGreatDoorZD02
import Derived.RangeFuncKeeps
import Derived.RangeFuncCalls
import Derived.RangeFuncLeaves
import Derived.Shelf.Abstract
import Derived.Shelf.RegionOpen
import Derived.WalkKit
import Derived.OwnWalkIn
import Derived.TacticsInMore
import Derived.LoopNIn
import Derived.LoopIn
namespace Go.Proofs.YtdgipencedlbmaaGreatDoor.Pr
set_option linter.unusedVariables false
set_option linter.unusedSimpArgs false
open Go.RowKit Go.Proofs.YtdgipencedlbmaaGreatDoorW.PrintWords Go.Proofs.YtdgipencedlbmaaGreatDoorW.PrintLast Go.Proofs.YtdgipencedlbmaaGreatDoorW.PrintMore Go.Proofs.YtdgipencedlbmaaGreatDoor.Hand
structure RAt (w : World) (B g : Nat) (A : Option Addr) (c : Nat) (o : List S57) (n : Nat) (h : Int) (t : ByteArray) : Prop where
  box : w.heap[g]? = some (.cells #[.slice A o.length c, .int .i64 n, .int .i64 h, .string t] 122 (0, 0))
  row : Kd.R k57 57 w B (fun _ => True) (.slice A o.length c) o
theorem RAt.keep {w w' : World} {B g : Nat} {A : Option Addr} {c : Nat} {o : List S57} {n : Nat} {h : Int} {t : ByteArray} (r : RAt w B g A c o n h t) (hB : Below w.heap.size w w') : RAt w' B g A c o n h t :=
  ⟨below_keeps hB (blk_lt r.box) r.box, Kd.R_step r.row (fun k _ hk => hB.block k hk)⟩
def LineEnd (B g : Nat) (s : Int ⊕ (List S57 × Int × List UInt8)) (n : Nat) (w : World) (e : Ending) (w' : World) : Prop :=
  match s with
  | .inl v => e = .returned (.int .i64 v) ∧ Below w.heap.size w w'
  | .inr r => e = .returned (.int .i64 0) ∧ But g w w' ∧ ∃ (A : Option Addr) (c : Nat) (t : ByteArray), t.data.toList = r.2.2 ∧ RAt w' B g A c r.1 (n + 1) r.2.1 t
theorem doneS_read {x : S24} {t : List UInt8} (hr : readS t = (x, 0)) : rightE x = 0 := by
  have := (readS_zero (t := t) (by rw [hr])).1; rw [hr] at this; exact this
theorem line_sum {c : List UInt8} {sc si : ByteArray} {i : List UInt8} (hc : bytesA c = sc) (hi : bytesA i = si) (v : Bool) (h : decide (c = i) = v) : (sc.toList == si.toList) = v := by
  rw [toList_eq, toList_eq, ← hc, ← hi, ← h]
  show (c == i) = _
  by_cases e : c = i
  · rw [decide_eq_true e, beq_iff_eq]; exact e
  · rw [decide_eq_false e]; exact beq_eq_false_iff_ne.mpr e
theorem drew_any {B : Nat} {w w1 W : World} (h : Below B w w1) (hW : ∃ n, W = w1.drewN n) : Below B w W := by obtain ⟨n, rfl⟩ := hW; exact pw_below_drewN h n
set_option maxHeartbeats 4000000 in
set_option maxRecDepth 100000 in
theorem line_calls (B g : Nat) (A : Option Addr) (c : Nat) (o : List S57) (n : Nat) (h : Int) (t : ByteArray) (w : World) (hG : GOOD w) (hr : RAt w B g A c o n h t) (hBw : B ≤ w.heap.size) (hck : checkS o = 0) (hn : n ≤ 4096) (hs : t.size ≤ 1048576) (s : Int ⊕ (List S57 × Int × List UInt8)) (hst : stepL o n h t.data.toList = s) :
    Calls Tryz.prog 112 #[.pointer (some ⟨g, 0, none⟩)] w (LineEnd B g s n w) := by
  have HR := Lib.hid hr
  have HX := Lib.hid hr.box
  have HBW := Lib.hid hBw
  have HCK := Lib.hid hck
  have HS := Lib.hid hs
  have HST := Lib.hid hst
  have g0 := cellB hr.box 0
  have g1 := cellB hr.box 1
  have g2 := cellB hr.box 2
  have g3 := cellB hr.box 3
  have HC := Lib.hid (reads_of hr.row)
  have HCC := Lib.hid (Kd.R_reads' hr.row).2.1
  clear hr hBw hck hst
  by_cases hn4 : n = 4096
  · subst hn4
    go_enter Tryz.func112, Tryz.ntmps112
    go_wp2
    go_ret
    rw [← HST.out, step_many rfl]
    exact ⟨rfl, Below.refl _ _⟩
  · have c0 : ((n : Int) == 4096) = false := beq_eq_false_iff_ne.mpr (by omega)
    have c0' : (n == 4096) = false := beq_eq_false_iff_ne.mpr hn4
    have HN4 := Lib.hid hn4
    clear hn4
    obtain ⟨v1, hv1⟩ : ∃ v1, cutA 10 t = v1 := ⟨_, rfl⟩
    have HV1 := Lib.hid (fun (w : World) (hG : GOOD w) => Cut_is t ⟨#[10]⟩ v1 10 rfl hv1 w hG (by omega))
    rcases cutL_cases 10 t.data.toList with ⟨_, k1⟩ | ⟨a, b, k1a, _, k1⟩
    · have e1 := cutA_none k1
      rw [hv1] at e1
      subst e1
      have HK1 := Lib.hid k1
      clear k1 hv1
      go_enter Tryz.func112, Tryz.ntmps112
      go_wp2_with (first
        | (go_at_call 133; (with_reducible refine (HV1.out w hG).mono ?_); rintro e w1 ⟨rfl, hw1⟩; have HB1 := Lib.hid (drew_any (Below.refl w.heap.size w) hw1); have HX1 := Lib.hid (below_keeps HB1.out (blk_lt HX.out) HX.out); have g0 := cellB HX1.out 0; have g1 := cellB HX1.out 1; have g2 := cellB HX1.out 2; have g3 := cellB HX1.out 3; clear hw1))
      go_ret
      rw [← HST.out, step_torn HN4.out HK1.out]
      exact ⟨rfl, HB1.out⟩
    · have e1 := cutA_some k1
      rw [hv1] at e1
      subst e1
      have hab : t.size = a.length + (b.length + 1) := by
        have := congrArg List.length k1a
        rw [List.length_append, List.length_cons, Array.length_toList] at this
        exact this
      have HK1 := Lib.hid k1
      clear k1 hv1 k1a
      obtain ⟨sa, hsa⟩ : ∃ sa, bytesA a = sa := ⟨_, rfl⟩
      have hsz : sa.size = a.length := by rw [← hsa]; rfl
      have hsd : sa.data.toList = a := by rw [← hsa]; rfl
      rw [hsa] at HV1
      obtain ⟨v2, hv2⟩ : ∃ v2, cutA 32 sa = v2 := ⟨_, rfl⟩
      have HV2 := Lib.hid (fun (w : World) (hG : GOOD w) => Cut_is sa ⟨#[32]⟩ v2 32 rfl hv2 w hG (by omega))
      rcases cutL_cases 32 a with ⟨_, k2⟩ | ⟨cc, d, k2a, _, k2⟩
      · have e2 := cutA_none (c := 32) (s := sa) (by rw [hsd]; exact k2)
        rw [hv2] at e2
        subst e2
        have HK2 := Lib.hid k2
        have HSU := Lib.hid (fun w' => Sum_calls h ⟨#[]⟩ w' (by decide))
        clear k2 hv2 hsa hsd
        go_enter Tryz.func112, Tryz.ntmps112
        go_wp2_with (first
          | (go_at_call 133; (with_reducible refine (HV1.out w hG).mono ?_); rintro e w1 ⟨rfl, hw1⟩; have HB1 := Lib.hid (drew_any (Below.refl w.heap.size w) hw1); have HX1 := Lib.hid (below_keeps HB1.out (blk_lt HX.out) HX.out); have g0 := cellB HX1.out 0; have g1 := cellB HX1.out 1; have g2 := cellB HX1.out 2; have g3 := cellB HX1.out 3; clear hw1)
          | (go_at_call 133; (with_reducible refine (HV2.out w1 (hG.below HB1.out)).mono ?_); rintro e w2 ⟨rfl, hw2⟩; have HB2 := Lib.hid (drew_any HB1.out hw2); have HX2 := Lib.hid (below_keeps HB2.out (blk_lt HX.out) HX.out); have g0 := cellB HX2.out 0; have g1 := cellB HX2.out 1; have g2 := cellB HX2.out 2; have g3 := cellB HX2.out 3; clear hw2)
          | (go_at_call 37; (with_reducible refine (HSU.out w2).mono ?_); rintro e w3 ⟨rfl, hB3⟩; have HB3 := Lib.hid (below_then HB2.out hB3); have HX3 := Lib.hid (below_keeps hB3 (blk_lt HX2.out) HX2.out); have g0 := cellB HX3.out 0; have g1 := cellB HX3.out 1; have g2 := cellB HX3.out 2; have g3 := cellB HX3.out 3; clear hB3))
        go_ret
        rw [← HST.out, step_bare HN4.out HK1.out HK2.out]
        exact ⟨rfl, HB3.out⟩
      · have e2 := cutA_some (c := 32) (s := sa) (by rw [hsd]; exact k2)
        rw [hv2] at e2
        subst e2
        have hcd : a.length = cc.length + (d.length + 1) := by
          have := congrArg List.length k2a
          rw [List.length_append, List.length_cons] at this
          exact this
        obtain ⟨sc, hsc⟩ : ∃ sc, bytesA cc = sc := ⟨_, rfl⟩
        obtain ⟨sd, hsd2⟩ : ∃ sd, bytesA d = sd := ⟨_, rfl⟩
        have hsdl : sd.data.toList = d := by rw [← hsd2]; rfl
        obtain ⟨m, hm⟩ : ∃ m, sumS h d = m := ⟨_, rfl⟩
        have hmr := sumS_range h d
        rw [hm] at hmr
        obtain ⟨si, hsi⟩ : ∃ si, bytesA (Lib.itoa m) = si := ⟨_, rfl⟩
        have HSU := Lib.hid (show ∀ w' : World, Calls Tryz.prog 37 #[.int .i64 h, .string sd] w' fun e w'' => e = .returned (.int .i64 m) ∧ Below w'.heap.size w' w'' from fun w' => by
          have := Sum_calls h sd w' (by rw [← hsd2]; show d.length ≤ _; omega)
          rw [hsdl, hm] at this
          exact this)
        have HIT := Lib.hid (fun (w : World) (hG : GOOD w) => itoa_calls m (by omega) (by omega) w hG)
        rw [hsi] at HIT
        rw [hsc, hsd2] at HV2
        have HK2 := Lib.hid k2
        have HM := Lib.hid hm
        by_cases k3 : cc = Lib.itoa m
        rotate_left
        · have c1 : (sc.toList == si.toList) = false := line_sum hsc hsi _ (decide_eq_false k3)
          have c1' : (sc.toList != si.toList) = true := by rw [bne, c1]; rfl
          have HK3 := Lib.hid k3
          clear k2 hv2 hsa hsd hsc hsd2 hsdl k2a k3 hm hmr hsi
          go_enter Tryz.func112, Tryz.ntmps112
          go_wp2_with (first
            | (go_at_call 133; (with_reducible refine (HV1.out w hG).mono ?_); rintro e w1 ⟨rfl, hw1⟩; have HB1 := Lib.hid (drew_any (Below.refl w.heap.size w) hw1); have HX1 := Lib.hid (below_keeps HB1.out (blk_lt HX.out) HX.out); have g0 := cellB HX1.out 0; have g1 := cellB HX1.out 1; have g2 := cellB HX1.out 2; have g3 := cellB HX1.out 3; clear hw1)
            | (go_at_call 133; (with_reducible refine (HV2.out w1 (hG.below HB1.out)).mono ?_); rintro e w2 ⟨rfl, hw2⟩; have HB2 := Lib.hid (drew_any HB1.out hw2); have HX2 := Lib.hid (below_keeps HB2.out (blk_lt HX.out) HX.out); have g0 := cellB HX2.out 0; have g1 := cellB HX2.out 1; have g2 := cellB HX2.out 2; have g3 := cellB HX2.out 3; clear hw2)
            | (go_at_call 37; (with_reducible refine (HSU.out w2).mono ?_); rintro e w3 ⟨rfl, hB3⟩; have HB3 := Lib.hid (below_then HB2.out hB3); have HX3 := Lib.hid (below_keeps hB3 (blk_lt HX2.out) HX2.out); have g0 := cellB HX3.out 0; have g1 := cellB HX3.out 1; have g2 := cellB HX3.out 2; have g3 := cellB HX3.out 3; clear hB3)
            | (go_at_call 60; (with_reducible refine (HIT.out w3 (hG.below HB3.out)).mono ?_); rintro e w4 ⟨rfl, hB4⟩; have HB4 := Lib.hid (below_then HB3.out hB4); have HX4 := Lib.hid (below_keeps hB4 (blk_lt HX3.out) HX3.out); have g0 := cellB HX4.out 0; have g1 := cellB HX4.out 1; have g2 := cellB HX4.out 2; have g3 := cellB HX4.out 3; clear hB4))
          go_ret
          rw [← HST.out, step_sum HN4.out HK1.out HK2.out (by rw [HM.out]; exact HK3.out)]
          exact ⟨rfl, HB4.out⟩
        · have c1 : (sc.toList == si.toList) = true := line_sum hsc hsi _ (decide_eq_true k3)
          have c1' : (sc.toList != si.toList) = false := by rw [bne, c1]; rfl
          have HK3 := Lib.hid k3
          obtain ⟨rd, hrd⟩ : ∃ rd, readS d = rd := ⟨_, rfl⟩
          have HRD := Lib.hid (show readS sd.data.toList = rd by rw [hsdl]; exact hrd)
          have HRD' := Lib.hid hrd
          clear k2 hv2 hsa hsd hsc hsd2 hsdl k2a k3 hm hmr hsi hrd
          by_cases hr0 : rd.2 = 0
          rotate_left
          · have f1 : (rd.2 != 0) = true := bne_iff_ne.mpr hr0
            have HR0 := Lib.hid hr0
            clear hr0
            go_enter Tryz.func112, Tryz.ntmps112
            go_wp2_with (first
              | (go_at_call 133; (with_reducible refine (HV1.out w hG).mono ?_); rintro e w1 ⟨rfl, hw1⟩; have HB1 := Lib.hid (drew_any (Below.refl w.heap.size w) hw1); have HX1 := Lib.hid (below_keeps HB1.out (blk_lt HX.out) HX.out); have g0 := cellB HX1.out 0; have g1 := cellB HX1.out 1; have g2 := cellB HX1.out 2; have g3 := cellB HX1.out 3; clear hw1)
              | (go_at_call 133; (with_reducible refine (HV2.out w1 (hG.below HB1.out)).mono ?_); rintro e w2 ⟨rfl, hw2⟩; have HB2 := Lib.hid (drew_any HB1.out hw2); have HX2 := Lib.hid (below_keeps HB2.out (blk_lt HX.out) HX.out); have g0 := cellB HX2.out 0; have g1 := cellB HX2.out 1; have g2 := cellB HX2.out 2; have g3 := cellB HX2.out 3; clear hw2)
              | (go_at_call 37; (with_reducible refine (HSU.out w2).mono ?_); rintro e w3 ⟨rfl, hB3⟩; have HB3 := Lib.hid (below_then HB2.out hB3); have HX3 := Lib.hid (below_keeps hB3 (blk_lt HX2.out) HX2.out); have g0 := cellB HX3.out 0; have g1 := cellB HX3.out 1; have g2 := cellB HX3.out 2; have g3 := cellB HX3.out 3; clear hB3)
              | (go_at_call 60; (with_reducible refine (HIT.out w3 (hG.below HB3.out)).mono ?_); rintro e w4 ⟨rfl, hB4⟩; have HB4 := Lib.hid (below_then HB3.out hB4); have HX4 := Lib.hid (below_keeps hB4 (blk_lt HX3.out) HX3.out); have g0 := cellB HX4.out 0; have g1 := cellB HX4.out 1; have g2 := cellB HX4.out 2; have g3 := cellB HX4.out 3; clear hB4)
              | (go_at_call 35; (with_reducible refine (Read_calls sd w4 (hG.below HB4.out) _ HRD.out).mono ?_); rintro e w5 ⟨rfl, hB5⟩; have HB5 := Lib.hid (below_then HB4.out hB5); have HX5 := Lib.hid (below_keeps hB5 (blk_lt HX4.out) HX4.out); have g0 := cellB HX5.out 0; have g1 := cellB HX5.out 1; have g2 := cellB HX5.out 2; have g3 := cellB HX5.out 3; clear hB5)
              | ((with_reducible refine alloc_event (o := ⟨some 9, _, _, _, _, _⟩) rfl 24 rfl (.agg (cellsE z24)) zero24 ?_); intro q hq w6 hq1 hB6 hs6; have HH6 := Lib.hid hq1; have HLq := Lib.hid (show w.heap.size ≤ q by rw [hq]; exact HB5.out.size); have HNQ := Lib.hid (show g ≠ q by rw [hq]; exact Nat.ne_of_lt (blk_lt HX5.out)); have HB6 := Lib.hid (below_then HB5.out hB6); have HX6 := Lib.hid (below_keeps hB6 (blk_lt HX5.out) HX5.out); have g0 := cellB HX6.out 0; have g1 := cellB HX6.out 1; have g2 := cellB HX6.out 2; have g3 := cellB HX6.out 3; clear hq hq1 hB6 hs6)
              | ((with_reducible refine store_row_event rfl 24 _ _ rfl q (cellsE rd.1) ?hx ?hy 24 (cellsE z24) ?hg ?hi ?ho ?h1 ?_); (case hg => exact HH6.out); (case ho => rfl); (case hx => (go_simp; done)); (case hy => first | rfl | (unfold cellsE; go_simp; done) | (go_simp; rfl)); (case hi => exact info24s _); (case h1 => exact cellsE_one _); intro w7 hq2 hB7 hs7; have HG7 := Lib.hid hq2; have HX7 := Lib.hid (hB7.keeps HNQ.out HX6.out); have HB7 := Lib.hid (hB7.below HB6.out HLq.out HB6.out.size); have g0 := cellB HX7.out 0; have g1 := cellB HX7.out 1; have g2 := cellB HX7.out 2; have g3 := cellB HX7.out 3; obtain ⟨o0, o1, o2⟩ := entry_cells3 HG7.out; clear hq2 hB7 hs7))
            go_ret
            rw [← HST.out, step_read HN4.out HK1.out HK2.out (by rw [HM.out]; exact HK3.out) (by rw [HRD'.out]; exact HR0.out)]
            exact ⟨rfl, HB7.out⟩
          · obtain ⟨x, hx⟩ : ∃ x, rd = (x, 0) := ⟨rd.1, Prod.ext rfl hr0⟩
            subst hx
            clear hr0
            have HXR := Lib.hid (show rightErr x.f0 x.f1 x.f2 = 0 from doneS_read HRD'.out)
            obtain ⟨v, hv⟩ : ∃ v, doneS o x.f0 x.f1 x.f2 = v := ⟨_, rfl⟩
            have HV := Lib.hid hv
            go_enter Tryz.func112, Tryz.ntmps112
            go_wp2_with (first
              | (go_at_call 133; (with_reducible refine (HV1.out w hG).mono ?_); rintro e w1 ⟨rfl, hw1⟩; have HB1 := Lib.hid (drew_any (Below.refl w.heap.size w) hw1); have HX1 := Lib.hid (below_keeps HB1.out (blk_lt HX.out) HX.out); have g0 := cellB HX1.out 0; have g1 := cellB HX1.out 1; have g2 := cellB HX1.out 2; have g3 := cellB HX1.out 3; clear hw1)
              | (go_at_call 133; (with_reducible refine (HV2.out w1 (hG.below HB1.out)).mono ?_); rintro e w2 ⟨rfl, hw2⟩; have HB2 := Lib.hid (drew_any HB1.out hw2); have HX2 := Lib.hid (below_keeps HB2.out (blk_lt HX.out) HX.out); have g0 := cellB HX2.out 0; have g1 := cellB HX2.out 1; have g2 := cellB HX2.out 2; have g3 := cellB HX2.out 3; clear hw2)
              | (go_at_call 37; (with_reducible refine (HSU.out w2).mono ?_); rintro e w3 ⟨rfl, hB3⟩; have HB3 := Lib.hid (below_then HB2.out hB3); have HX3 := Lib.hid (below_keeps hB3 (blk_lt HX2.out) HX2.out); have g0 := cellB HX3.out 0; have g1 := cellB HX3.out 1; have g2 := cellB HX3.out 2; have g3 := cellB HX3.out 3; clear hB3)
              | (go_at_call 60; (with_reducible refine (HIT.out w3 (hG.below HB3.out)).mono ?_); rintro e w4 ⟨rfl, hB4⟩; have HB4 := Lib.hid (below_then HB3.out hB4); have HX4 := Lib.hid (below_keeps hB4 (blk_lt HX3.out) HX3.out); have g0 := cellB HX4.out 0; have g1 := cellB HX4.out 1; have g2 := cellB HX4.out 2; have g3 := cellB HX4.out 3; clear hB4)
              | (go_at_call 35; (with_reducible refine (Read_calls sd w4 (hG.below HB4.out) _ HRD.out).mono ?_); rintro e w5 ⟨rfl, hB5⟩; have HB5 := Lib.hid (below_then HB4.out hB5); have HX5 := Lib.hid (below_keeps hB5 (blk_lt HX4.out) HX4.out); have g0 := cellB HX5.out 0; have g1 := cellB HX5.out 1; have g2 := cellB HX5.out 2; have g3 := cellB HX5.out 3; clear hB5)
              | ((with_reducible refine alloc_event (o := ⟨some 9, _, _, _, _, _⟩) rfl 24 rfl (.agg (cellsE z24)) zero24 ?_); intro q hq w6 hq1 hB6 hs6; have HH6 := Lib.hid hq1; have HLq := Lib.hid (show w.heap.size ≤ q by rw [hq]; exact HB5.out.size); have HNQ := Lib.hid (show g ≠ q by rw [hq]; exact Nat.ne_of_lt (blk_lt HX5.out)); have HB6 := Lib.hid (below_then HB5.out hB6); have HX6 := Lib.hid (below_keeps hB6 (blk_lt HX5.out) HX5.out); have g0 := cellB HX6.out 0; have g1 := cellB HX6.out 1; have g2 := cellB HX6.out 2; have g3 := cellB HX6.out 3; clear hq hq1 hB6 hs6)
              | ((with_reducible refine store_row_event rfl 24 _ _ rfl q (cellsE x) ?hx ?hy 24 (cellsE z24) ?hg ?hi ?ho ?h1 ?_); (case hg => exact HH6.out); (case ho => rfl); (case hx => (go_simp; done)); (case hy => first | rfl | (unfold cellsE; go_simp; done) | (go_simp; rfl)); (case hi => exact info24s _); (case h1 => exact cellsE_one _); intro w7 hq2 hB7 hs7; have HG7 := Lib.hid hq2; have HX7 := Lib.hid (hB7.keeps HNQ.out HX6.out); have HB7 := Lib.hid (hB7.below HB6.out HLq.out HB6.out.size); have g0 := cellB HX7.out 0; have g1 := cellB HX7.out 1; have g2 := cellB HX7.out 2; have g3 := cellB HX7.out 3; obtain ⟨o0, o1, o2⟩ := entry_cells3 HG7.out; clear hq2 hB7 hs7))
            go_region_held3 (fun W' => W'.cell? ⟨g, 0, none⟩ = some (.slice A o.length c) ∧ W'.cell? ⟨q, 0, none⟩ = some (.int .i64 x.f0) ∧ W'.cell? ⟨q, 1, none⟩ = some (.string x.f1) ∧ W'.cell? ⟨q, 2, none⟩ = some (.int .i64 x.f2)) (first | exact ⟨g0, o0, o1, o2⟩ | go_keep) (first
              | (go_at_call 49; (with_reducible refine (done_calls A c o x.f0 x.f1 x.f2 _ (Kd.C_below HC.out (below_drew HB7.out)) HCC.out HCK.out HXR.out).mono ?_); rintro e w8 ⟨v8, rfl, hR8, hB8⟩; have hB8 := drew_below hB8; have HR8 := Lib.hid (Kd.R_lower hR8 (Nat.le_trans HBW.out HB7.out.size)); have HB8 := Lib.hid (below_then HB7.out hB8); have HX8 := Lib.hid (below_keeps hB8 (blk_lt HX7.out) HX7.out); have g0 := cellB HX8.out 0; have g1 := cellB HX8.out 1; have g2 := cellB HX8.out 2; have g3 := cellB HX8.out 3; have HG8 := Lib.hid (below_keeps hB8 (blk_lt HG7.out) HG7.out); obtain ⟨o0, o1, o2⟩ := entry_cells3 HG8.out; clear hR8 hB8))
            all_goals
              rw [hv] at HR8
              by_cases hv0 : v.2 = 0
              rotate_left
              · have f2 : (v.2 != 0) = true := bne_iff_ne.mpr hv0
                go_wp2
                go_ret
                rw [← HST.out, step_done HN4.out HK1.out HK2.out (by rw [HM.out]; exact HK3.out) HRD'.out hv hv0]
                exact ⟨rfl, HB8.out⟩
              · have f2 : (v.2 != 0) = false := bne_eq_false_iff_eq.mpr hv0
                obtain ⟨A8, c8, rfl, hc8, hC8⟩ := Kd.R_reads HR8.out
                have hfz : ∀ j, w8.frozen? ⟨g, j, none⟩ = false := fun j => frozen_of_row w8 g j _ 122 HX8.out
                clear hC8
                go_wp2
                go_ret
                rw [← HST.out, step_on HN4.out HK1.out HK2.out (by rw [HM.out]; exact HK3.out) HRD'.out hv hv0]
                have hbut : ∀ (W : World) (i : Nat) (u : Value), But g W (W.setCell ⟨g, i, none⟩ u) := fun W i u => but_setCell W g i u
                have hB4 := (((hbut w8 0 (.slice A8 v.1.length c8)).trans (hbut _ 1 (.int .i64 ((n : Int) + 1)))).trans (hbut _ 2 (.int .i64 m))).trans (hbut _ 3 (.string (bytesA b)))
                refine ⟨rfl, (But.of_below HB8.out).trans ?_, A8, c8, bytesA b, rfl, ?_, ?_⟩
                · exact hB4
                · have k := heap_setCell_same _ g 3 _ 122 (.string (bytesA b)) (heap_setCell_same _ g 2 _ 122 (.int .i64 m) (heap_setCell_same _ g 1 _ 122 (.int .i64 ((n : Int) + 1)) (heap_setCell_same w8 g 0 _ 122 (.slice A8 v.1.length c8) HX8.out)))
                  show _ = some (Obj.cells #[.slice A8 v.1.length c8, .int .i64 ((n + 1 : Nat) : Int), .int .i64 (sumS h d), .string (bytesA b)] 122 (0, 0))
                  rw [HM.out]
                  exact k
                · exact R_but HR8.out HX8.out (by decide) hB4
end Go.Proofs.YtdgipencedlbmaaGreatDoor.Pr
namespace Go.Proofs.YtdgipencedlbmaaGreatDoor.Hand
open Go.RowKit
def Off (l : Nat) (W : World) : Prop := ∃ o : Obj, W.heap[l]? = some o ∧ o.isCells = false
theorem Off.lt {l : Nat} {W : World} (h : Off l W) : l < W.heap.size := by obtain ⟨o, h, _⟩ := h; exact (Array.getElem?_eq_some_iff.1 h).1
theorem but_put (l : Nat) (W : World) (o : Obj) : But l W (W.putObj l o) :=
  ⟨rfl, rfl, rfl, Nat.le_of_eq World.putObj_size.symm, fun _ _ hk => World.putObj_heap_other hk⟩
theorem But.put {g : Nat} {w W : World} (h : But g w W) {l : Nat} (hl : w.heap.size ≤ l) (o : Obj) : But g w (W.putObj l o) :=
  ⟨h.os, h.tape, h.output, Nat.le_trans h.size (Nat.le_of_eq World.putObj_size.symm), fun k hk hg => (World.putObj_heap_other (by omega)).trans (h.block k hk hg)⟩
theorem But.alloc {g : Nat} {w W : World} (h : But g w W) (o : Obj) : But g w (W.alloc o) :=
  ⟨h.os, h.tape, h.output, Nat.le_trans h.size (by simp), fun k hk hg => (Below.heap_alloc W o k (Nat.lt_of_lt_of_le hk h.size)).trans (h.block k hk hg)⟩
end Go.Proofs.YtdgipencedlbmaaGreatDoor.Hand
namespace Go.Proofs.YtdgipencedlbmaaGreatDoor.Pr
open Go.RowKit Go.Proofs.YtdgipencedlbmaaGreatDoor.Hand
def SeqBut {α : Type} (F : Fence) (n : Nat) (P : Program) (gf : Nat) (lb : Array Value) (encs : α → Array Value) (g : Nat) (Ok : α → Prop) (St : α → World → Prop) (S : World → Prop) (w : World) : Prop :=
  ∀ (l : Nat) (J Jx : World → Prop) (W : World), w.heap.size ≤ l → Below w.heap.size w W → J W → (∀ A B, J A → But g A B → J B) → (∀ A, J A → Off l A) →
    (∀ x W1, J W1 → St x W1 → YieldAt F (n - 1) P l (encs x) W1 fun e W' => (e = .returned (.bool true) ∧ J W' ∧ But l W1 W' ∧ Ok x) ∨ (e = .returned (.bool false) ∧ Jx W')) →
    CallsIn F n P gf (#[.func (.yield l) #[] #[]] ++ lb) W fun e W' => (∃ v, e = .returned v) ∧ ((S W' ∧ J W') ∨ Jx W')
def butPost (ok : Prop) (Ix : Code → World → Prop) (W : World) : Exit → Act → World → Prop
  | .normal, _, W' => W' = W ∧ ok
  | .ret, _, W' => KeepsOthers W W' ∧ Ix .ret W'
  | .exit id, _, W' => KeepsOthers W W' ∧ Ix (.exit id) W'
  | .goto t, _, W' => KeepsOthers W W' ∧ Ix (.goto t) W'
  | .panic _, _, _ => False
  | .outgrown, _, _ => False
theorem wpIn_range_but {α : Type} {F : Fence} {n : Nat} {P : Program} {op : Operand} {ps : Array Tmp} {assign body : Code} {Q : Exit → Act → World → Prop} {a : Act} {w : World}
    (hro : F.round = none) (h1 : 1 ≤ n) {gf : Nat} {lb : Array Value} (hop : a.eval op = .func (.func gf) #[] lb) (hF : F.fn gf) (hin : ∀ args w, (callFunc gf args).run P w = .ok (.enter gf args) w)
    {encs : α → Array Value} {g : Nat} {Ok : α → Prop} {St : α → World → Prop} {S : World → Prop} (hseq : SeqBut F (n - 1) P gf lb encs g Ok St S w) (hg : g < w.heap.size) (hps : ∀ x, (encs x).size = ps.size)
    (hSt : ∀ x W l o, St x W → w.heap.size ≤ l → Off l W → St x (W.putObj l o)) (hS : ∀ W l o, S W → w.heap.size ≤ l → Off l W → S (W.putObj l o))
    (Ix : Code → World → Prop) (hIx : ∀ c W l o, Ix c W → w.heap.size ≤ l → Off l W → Ix c (W.putObj l o)) (a₁ : α → Act)
    (hassign : ∀ (l : Nat) (x : α) (W : World) (K : Act → World → Prop), K (a₁ x) W →
      assign.wpIn (F.inRound l) (n - 1 - 1) P (Exit.then K (fun _ _ _ => False)) { tmps := (ps.zip (encs x)).foldl (fun t (p, v) => t.setIfInBounds p v) a.tmps, defers := [] } W)
    (hbody : ∀ (l : Nat) (x : α) (W : World), But g w W → St x W → body.wpIn (F.inRound l) (n - 1 - 1) P (butPost (Ok x) Ix W) (a₁ x) W)
    (hdone : ∀ (D : Nat) (W : World), S W → But g w W → w.heap.size ≤ D → W.heap[D]? = some (.deferred (some [])) → Q .normal { a with defers := { target := .collected D, args := #[] } :: a.defers } W)
    (hstop : ∀ (D : Nat) (c : Code) (W : World), Ix c W → w.heap.size ≤ D → W.heap[D]? = some (.deferred (some [])) → c.wpIn F n P Q { a with defers := { target := .collected D, args := #[] } :: a.defers } W) :
    (Code.rangeFunc op ps assign body).wpIn F n P Q a w := by
  refine wpIn_rangeFunc fun fn hfn => ?_
  rw [hro]
  -- the two blocks that the statement lays: D (deferred calls) and l (the record)
  generalize hD : w.heap.size = D at *
  obtain ⟨rc, hrc⟩ : ∃ rc : LoopState → Option Code → Loop, rc = fun st j => { state := st, pending := j, fn, tmps := a.tmps, params := ps, assign, body, defers := D } := ⟨_, rfl⟩
  have hen : (Instr.enterLoop fn a.tmps ps assign body none).run P w = .ok (D + 1, [{ target := .collected D, args := #[] }]) ((w.alloc (.deferred (some []))).alloc (.loop (rc .ready none))) := by
    rw [hrc, ← hD]; exact run_enterLoop_outer _ _ _ _ _
  have hl0 : ((w.alloc (.deferred (some []))).alloc (.loop (rc .ready none))).heap[D + 1]? = some (.loop (rc .ready none)) := by
    have := World.alloc_heap_new (w.alloc (.deferred (some []))) (.loop (rc .ready none)); rwa [World.size_alloc, hD] at this
  have hd0 : ((w.alloc (.deferred (some []))).alloc (.loop (rc .ready none))).heap[D]? = some (.deferred (some [])) := by
    have := World.alloc_heap_new w (.deferred (some [])); rw [hD] at this
    exact (Below.heap_alloc _ _ _ (by simp; omega)).trans this
  have hb0 : Below D w ((w.alloc (.deferred (some []))).alloc (.loop (rc .ready none))) := by
    rw [← hD]; exact ((Below.refl _ w).alloc (Nat.le_refl _) _).alloc (by simp) _
  have hg0 : But g w ((w.alloc (.deferred (some []))).alloc (.loop (rc .ready none))) := ((But.of_below (Below.refl _ w)).alloc _).alloc _
  generalize (w.alloc (.deferred (some []))).alloc (.loop (rc .ready none)) = W1 at *
  refine ⟨D + 1, [{ target := .collected D, args := #[] }], W1, { target := .fn (.func gf) lb, args := #[.func (.yield (D + 1)) #[] #[]] }, W1, gf, #[.func (.yield (D + 1)) #[] #[]] ++ lb, W1, hen, ?_, ?_, ?_, fun _ => h1, ?_⟩
  · simp only [resolve, hop]; simp [go_sem]
  · intro f hf; simp [Target.leads] at hf; subst hf; exact hF
  · simp [invoke, go_sem, hin]
  refine (hseq (D + 1) (fun W => But g w W ∧ W.heap[D + 1]? = some (.loop (rc .ready none)) ∧ W.heap[D]? = some (.deferred (some [])))
    (fun W => ∃ c, Ix c W ∧ W.heap[D + 1]? = some (.loop (rc .done (some c))) ∧ W.heap[D]? = some (.deferred (some []))) W1 (by omega) (by rw [hD]; exact hb0) ⟨hg0, hl0, hd0⟩
    (fun A B h hB => ⟨h.1.trans hB, hB.keeps (by omega) h.2.1, hB.keeps (by omega) h.2.2⟩) (fun A h => ⟨_, h.2.1, rfl⟩) ?_).mono ?_
  · -- one round
    rintro x W ⟨hi, hl, hd⟩ hst
    have hlt : D + 1 < W.heap.size := (Array.getElem?_eq_some_iff.1 hl).1
    have hoff : Off (D + 1) W := ⟨_, hl, rfl⟩
    have hy := run_yield (P := P) (args := encs x) hl (by rw [hrc]; exact hps x)
    rw [hrc] at hy
    refine ⟨fn, _, assign, body, hy, roundIn_of_wpIn hfn (hassign _ x W _ ⟨_, run_beginRound hl (by rw [hrc]), ?_⟩)⟩
    have hl2 : (W.putObj (D + 1) (.loop { rc .ready none with state := .busy })).heap[D + 1]? = some (.loop { rc .ready none with state := .busy }) := World.putObj_heap_same hlt
    have hd2 : (W.putObj (D + 1) (.loop { rc .ready none with state := .busy })).heap[D]? = some (.deferred (some [])) := (World.putObj_heap_other (by omega)).trans hd
    have left : ∀ (c : Code) (W3 : World), KeepsOthers (W.putObj (D + 1) (.loop { rc .ready none with state := .busy })) W3 → Ix c W3 →
        ∃ v W', (Instr.endRound (D + 1) (some c)).run P W3 = .ok v W' ∧ (v = .bool false ∧ ∃ c, Ix c W' ∧ W'.heap[D + 1]? = some (.loop (rc .done (some c))) ∧ W'.heap[D]? = some (.deferred (some []))) := by
      intro c W3 hk hx
      have h3 := hk.same _ _ hl2 rfl
      have h4 := hk.same _ _ hd2 rfl
      have he := run_endRound (P := P) (some c) h3
      refine ⟨_, _, he, rfl, c, hIx c _ _ _ hx (by omega) ⟨_, h3, rfl⟩, ?_, (World.putObj_heap_other (by omega)).trans h4⟩
      rw [hrc]
      exact World.putObj_heap_same (Array.getElem?_eq_some_iff.1 h3).1
    refine wpIn_mono (hbody _ x _ (hi.put (by omega) _) (hSt x W _ _ hst (by omega) hoff)) ?_
    rintro e a3 W3 hp
    cases e with
    | normal =>
      obtain ⟨rfl, hok⟩ : W3 = _ ∧ Ok x := hp
      have he := run_endRound (P := P) none hl2
      refine ⟨_, _, he, .inl ⟨rfl, ⟨(hi.put (by omega) _).put (by omega) _, ?_, (World.putObj_heap_other (by omega)).trans hd2⟩, (but_put _ _ _).trans (but_put _ _ _), hok⟩⟩
      rw [hrc]
      exact World.putObj_heap_same (by rw [World.putObj_size]; exact hlt)
    | ret => obtain ⟨v, W', h, rfl, hx⟩ := left _ W3 hp.1 hp.2; exact ⟨_, W', h, .inr ⟨rfl, hx⟩⟩
    | exit id => obtain ⟨v, W', h, rfl, hx⟩ := left _ W3 hp.1 hp.2; exact ⟨_, W', h, .inr ⟨rfl, hx⟩⟩
    | goto t => obtain ⟨v, W', h, rfl, hx⟩ := left _ W3 hp.1 hp.2; exact ⟨_, W', h, .inr ⟨rfl, hx⟩⟩
    | panic ch => exact hp.elim
    | outgrown => exact hp.elim
  · -- behind the iterator
    rintro e W2 ⟨⟨v, rfl⟩, (⟨hs, hi, hl, hd⟩ | ⟨c, hx, hl, hd⟩)⟩
    · have he := run_endLoop (P := P) hl (by rw [hrc]; simp)
      rw [show (rc .ready none).pending = none by rw [hrc]] at he
      exact ⟨none, _, he, hdone D _ (hS _ _ _ hs (by omega) ⟨_, hl, rfl⟩) (hi.put (by omega) _) (by omega) ((World.putObj_heap_other (by omega)).trans hd)⟩
    · have he := run_endLoop (P := P) hl (by rw [hrc]; simp)
      rw [show (rc .done (some c)).pending = some c by rw [hrc]] at he
      exact ⟨some c, _, he, hstop D c _ (hIx c _ _ _ hx (by omega) ⟨_, hl, rfl⟩) (by omega) ((World.putObj_heap_other (by omega)).trans hd)⟩
end Go.Proofs.YtdgipencedlbmaaGreatDoor.Pr
namespace Go.Proofs.YtdgipencedlbmaaGreatDoor.Pr
set_option linter.unusedVariables false
set_option linter.unusedSimpArgs false
open Go.RowKit Go.Shelf Go.Proofs.YtdgipencedlbmaaGreatDoorW.PrintWords Go.Proofs.YtdgipencedlbmaaGreatDoorW.PrintLast Go.Proofs.YtdgipencedlbmaaGreatDoorW.PrintMore Go.Proofs.YtdgipencedlbmaaGreatDoor.Hand
attribute [local go_sem] Oper.semAt_some
theorem RAt.but {w w' : World} {B g l : Nat} {A : Option Addr} {c : Nat} {o : List S57} {n : Nat} {h : Int} {t : ByteArray} (r : RAt w B g A c o n h t) (hl : Off l w) (hB : But l w w') : RAt w' B g A c o n h t := by
  obtain ⟨ob, h1, h2⟩ := hl
  have ne : ∀ (k : Nat) (cs : Array Value) (q : TypeId), w.heap[k]? = some (.cells cs q (0, 0)) → k ≠ l := by
    rintro k cs q hk rfl
    rw [hk] at h1
    cases h1
    cases h2
  exact ⟨hB.keeps (ne _ _ _ r.box) r.box, Kd.R_mono (Kd.R_step (Kd.R_bound r.row) (fun k hk hlt => by
    obtain ⟨_, _, _, q, _, cs, hc⟩ := hk
    exact hB.block k hlt (ne _ _ _ hc))) (fun _ _ => trivial)⟩
def FinU (U : List S57 × Nat × List UInt8 × Int) (B g : Nat) (x : Int) (W : World) : Prop :=
  ∃ (A : Option Addr) (c : Nat) (o : List S57) (n : Nat) (h : Int) (t : ByteArray), RAt W B g A c o n h t ∧ U = (o, n, t.data.toList, x)
theorem FinU.put {U : List S57 × Nat × List UInt8 × Int} {B g l : Nat} {x : Int} {W : World} (f : FinU U B g x W) (hl : Off l W) (o : Obj) : FinU U B g x (W.putObj l o) := by
  obtain ⟨A, c, o, n, h, t, hr, hu⟩ := f
  exact ⟨A, c, o, n, h, t, hr.but hl (but_put _ _ _), hu⟩
theorem step_ne {o : List S57} {n : Nat} {h : Int} {t : List UInt8} {e : Int} (hs : stepL o n h t = .inl e) : e ≠ 0 := by
  unfold stepL at hs
  split at hs
  · cases hs; decide
  · split at hs
    · cases hs; decide
    · split at hs
      · cases hs; decide
      · split at hs
        · cases hs; decide
        · split at hs
          · cases hs; decide
          · split at hs
            · rename_i h1; cases hs; exact h1
            · cases hs
def leftW (g : Nat) (W : World) : Nat := match W.cell? ⟨g, 3, none⟩ with | some (.string t) => t.size | _ => 0
theorem leftW_is {W : World} {B g : Nat} {A : Option Addr} {c : Nat} {o : List S57} {n : Nat} {h : Int} {t : ByteArray} (r : RAt W B g A c o n h t) : leftW g W = t.size := by
  have e : W.cell? ⟨g, 3, none⟩ = some (.string t) := cellB r.box 3
  unfold leftW; rw [e]
theorem step_check {o : List S57} {n : Nat} {h : Int} {t : List UInt8} {r : List S57 × Int × List UInt8} (hc : checkS o = 0) (hs : stepL o n h t = .inr r) : checkS r.1 = 0 := by
  unfold stepL at hs
  split at hs
  · cases hs
  · split at hs
    · cases hs
    · split at hs
      · cases hs
      · split at hs
        · cases hs
        · split at hs
          · cases hs
          · split at hs
            · cases hs
            · rename_i h4 h5
              cases hs
              exact done_check hc (readS_zero (by simpa using h4)).1 (by simpa using h5)
set_option maxHeartbeats 4000000 in
set_option maxRecDepth 100000 in
theorem iter_seq (m : Nat) (U : List S57 × Nat × List UInt8 × Int) (B g b : Nat) (A0 : Option Addr) (c0 : Nat) (o0 : List S57) (n0 : Nat) (h0 : Int) (t0 : ByteArray) (w : World) (hG : GOOD w) (hb : w.heap[b]? = some (.cells #[.pointer (some ⟨g, 0, none⟩)] 120 (0, 0))) (hbg : b ≠ g) (hg8 : 8 ≤ g)
    (hr : RAt w B g A0 c0 o0 n0 h0 t0) (hBw : B ≤ w.heap.size) (hck : checkS o0 = 0) (hn : n0 ≤ 4096) (hs : t0.size ≤ 1048576) (hU : loadS o0 n0 h0 t0.data.toList = U) :
    SeqBut Fence.wide m Tryz.prog 111 #[.pointer (some ⟨b, 0, none⟩)] (fun x : Int => #[.int .i64 x]) g (fun x => x = 0) (fun x W => x ≠ 0 → FinU U B g x W) (fun W => FinU U B g 0 W) w := by
  intro l J Jx W hlw hBW hJ hJg hJo hY
  have HJG := Lib.hid hJg
  have HJO := Lib.hid hJo
  have HY := Lib.hid hY
  have HJ := Lib.hid hJ
  have HR := Lib.hid (hr.keep hBW)
  have HBX := Lib.hid (below_keeps hBW (blk_lt hb) hb)
  have HGD := Lib.hid (hG.below hBW)
  have HBS := Lib.hid (Nat.le_trans hBw hBW.size)
  have HL8 := Lib.hid (show 8 ≤ l from Nat.le_trans hG.low hlw)
  have HCK := Lib.hid hck
  have HU := Lib.hid hU
  clear hJg hJo hY hJ hr hBW hb hck hU hG
  refine callsIn_of_wp Tryz.func111 rfl trivial ?_ rfl
  simp only [Tryz.ntmps111, List.size_toArray, List.length_cons, List.length_nil, Nat.reduceAdd, Nat.reduceSub, Array.replicate_succ, Array.replicate_zero, List.push_toArray, List.append_toArray, List.nil_append, List.cons_append]
  gi_wp2
  gi_loopw [3] (fun _ wr => ∃ (A : Option Addr) (c : Nat) (o : List S57) (n : Nat) (h : Int) (t : ByteArray), n ≤ 4096 ∧ t.size ≤ 1048576 ∧ Hid (RAt wr B g A c o n h t) ∧ Hid (loadS o n h t.data.toList = U) ∧ Hid (checkS o = 0) ∧ Hid (J wr) ∧ Hid (wr.heap[b]? = some (.cells #[.pointer (some ⟨g, 0, none⟩)] 120 (0, 0))) ∧ Hid (GOOD wr) ∧ Hid (B ≤ wr.heap.size)) (fun _ wr => leftW g wr)
  case atStart => exact ⟨A0, c0, o0, n0, h0, t0, hn, hs, HR.out, HU.out, HCK.out, HJ.out, HBX.out, HGD.out, HBS.out⟩
  case round =>
    obtain ⟨A, c, o, n, h, t, hn1, hs1, HR1, HU1, HCK1, HJ1, HBX1, HGD1, HBS1⟩ := hrel
    have b0 := cellB HBX1.out 0
    have g3 := cellB HR1.out.box 3
    by_cases ht : t.data.toList = []
    · obtain rfl : t = ⟨#[]⟩ := by cases t; simp only [ByteArray.mk.injEq]; exact Array.toList_inj.mp ht
      clear ht
      gi_wp2
      go_end0
      exact ⟨⟨_, rfl⟩, .inl ⟨⟨A, c, o, n, h, ⟨#[]⟩, HR1.out, by rw [← HU1.out]; exact load_nil _ _ _⟩, HJ1.out⟩⟩
    · have d1 : (t.toList != (⟨#[]⟩ : ByteArray).toList) = true := by
        rw [bne_iff_ne, toList_eq, toList_eq]; exact ht
      have d1' : (t.toList == (⟨#[]⟩ : ByteArray).toList) = false := by
        rw [beq_eq_false_iff_ne, toList_eq, toList_eq]; exact ht
      have d1'' : t.toList.isEmpty = false := by
        rw [toList_eq]
        cases hh : t.data.toList with
        | nil => exact absurd hh ht
        | cons _ _ => rfl
      have HT := Lib.hid ht
      obtain ⟨s, hst⟩ : ∃ s, stepL o n h t.data.toList = s := ⟨_, rfl⟩
      have HST := Lib.hid hst
      clear ht hst
      cases s with
      | inl e =>
        have hne := step_ne HST.out
        have d2 : (e != 0) = true := bne_iff_ne.mpr hne
        have HNE := Lib.hid hne
        clear hne
        gi_wp2_with (first
          | (refine ⟨trivial, fun h => (by cases h), ?_⟩; gi_at_call 112; refine (callsIn_wide.2 (line_calls B g A c o n h t wr HGD1.out HR1.out HBS1.out HCK1.out hn1 hs1 _ HST.out)).mono ?_; rintro e1 w2 ⟨rfl, hB2⟩; have HR2 := Lib.hid (HR1.out.keep hB2); have HJ2 := Lib.hid (HJG.out _ _ HJ1.out (But.of_below hB2)); clear hB2; obtain ⟨fn, tmps, assign, body, hy, hR⟩ := HY.out e w2 HJ2.out (fun _ => ⟨A, c, o, n, h, t, HR2.out, by rw [← HU1.out]; exact load_err HT.out HST.out⟩)))
        refine ⟨fun h => (by cases h), hR.mono ?_⟩
        rintro e1 W3 (⟨rfl, hJ3, hk3, h0⟩ | ⟨rfl, hJx3⟩)
        · exact absurd h0 HNE.out
        · gi_wp2
          refine bodyPost_ret (results_none rfl _ _ _) rfl ?_
          exact ⟨⟨_, rfl⟩, .inr hJx3⟩
      | inr r =>
        have HST' := Lib.hid (step_shorter HST.out)
        gi_wp2_with (first
          | (refine ⟨trivial, fun h => (by cases h), ?_⟩; gi_at_call 112; refine (callsIn_wide.2 (line_calls B g A c o n h t wr HGD1.out HR1.out HBS1.out HCK1.out hn1 hs1 _ HST.out)).mono ?_; rintro e1 w2 ⟨rfl, hB2, A2, c2, t2, ht2, hR2⟩; have HR2 := Lib.hid hR2; have HT2 := Lib.hid ht2; have HB2 := Lib.hid hB2; have HJ2 := Lib.hid (HJG.out _ _ HJ1.out hB2); have HBX2 := Lib.hid (hB2.keeps hbg HBX1.out); clear hB2 hR2 ht2; obtain ⟨fn, tmps, assign, body, hy, hR⟩ := HY.out 0 w2 HJ2.out (fun h => absurd rfl h)))
        refine ⟨fun h => (by cases h), hR.mono ?_⟩
        rintro e1 W3 (⟨rfl, hJ3, hk3, h0⟩ | ⟨rfl, hJx3⟩)
        · have hoff := HJO.out _ HJ2.out
          have HR3 := Lib.hid (HR2.out.but hoff hk3)
          have HJ3 := Lib.hid hJ3
          have hbl : b ≠ l := by
            rintro rfl
            obtain ⟨ob, h1, h2⟩ := hoff
            rw [HBX2.out] at h1
            cases h1; cases h2
          have HBX3 := Lib.hid (hk3.keeps hbl HBX2.out)
          have HB3 := Lib.hid hk3
          clear hJ3 hk3 hoff hbl
          gi_wp2
          go_roundw
          case rel =>
            have hts : t2.size < t.size := by
              have e1 : t2.size = t2.data.toList.length := by simp
              have e2 : t.size = t.data.toList.length := by simp
              have := HST'.out.1
              rw [e1, e2, HT2.out]
              exact this
            have e := HU1.out
            rw [load_on HT.out HST.out, ← HT2.out] at e
            have hG2 : GOOD w2 := HGD1.out.step (HB2.out.below (Below.refl 8 wr) hg8 HGD1.out.low) (by omega)
            have hG3 : GOOD W3 := hG2.step (HB3.out.below (Below.refl 8 w2) HL8.out hG2.low) (by omega)
            exact ⟨A2, c2, r.1, n + 1, r.2.1, t2, by have := HST'.out.2; omega, by omega, HR3.out, e, step_check HCK1.out HST.out, HJ3.out, HBX3.out, hG3, Nat.le_trans HBS1.out (Nat.le_trans HB2.out.size HB3.out.size)⟩
          case measure =>
            rw [leftW_is HR3.out, leftW_is HR1.out]
            have e1 : t2.size = t2.data.toList.length := by simp
            have e2 : t.size = t.data.toList.length := by simp
            have := HST'.out.1
            rw [e1, e2, HT2.out]
            exact this
        · gi_wp2
          refine bodyPost_ret (results_none rfl _ _ _) rfl ?_
          exact ⟨⟨_, rfl⟩, .inr hJx3⟩
end Go.Proofs.YtdgipencedlbmaaGreatDoor.Pr
