/- register.Load and register.Repair. register.Load at every text, and register.Repair. RegisterLoads returns true. -/
import Derived.Test.YtdgipencedlbmaaGreatDoorZL26
import Derived.Test.YtdgipencedlbmaaGreatDoorZL25
import Derived.RangeFuncNested
import Derived.RangeFuncBound
import Derived.Test.YtdgipencedlbmaaGreatDoorZT20
namespace Go.Proofs.YtdgipencedlbmaaGreatDoor.Pr
set_option linter.unusedVariables false
set_option linter.unusedSimpArgs false
open Go.RowKit Go.Shelf Go.Proofs.YtdgipencedlbmaaGreatDoorW.PrintWords Go.Proofs.YtdgipencedlbmaaGreatDoorW.PrintLast Go.Proofs.YtdgipencedlbmaaGreatDoorW.PrintMore Go.Proofs.YtdgipencedlbmaaGreatDoor.Hand
attribute [local go_sem] Oper.semAt_some
set_option maxRecDepth 100000 in
theorem rdr_calls (g : Nat) (w : World) :
    Calls Tryz.prog 73 #[.pointer (some ⟨g, 0, none⟩)] w fun e w' => e = .returned (.func (.func 111) #[] #[.pointer (some ⟨w.heap.size, 0, none⟩)]) ∧ w'.heap[w.heap.size]? = some (.cells #[.pointer (some ⟨g, 0, none⟩)] 120 (0, 0)) ∧ w.heap.size < w'.heap.size ∧ Below w.heap.size w w' := by
  go_enter Tryz.func73, Tryz.ntmps73
  go_wp2
  go_ret
  exact ⟨rfl, World.alloc_heap_new _ _, by simp, (Below.refl _ w).alloc (Nat.le_refl _) _⟩
structure LoadAt (s : Nat) (w w1 : World) (z : ByteArray) : Prop where
  c2 : w1.heap[s]? = some (.cells #[.slice none 0 0] 22 (0, 0))
  c3 : w1.heap[s + 1]? = some (.cells #[.int .i64 0] 3 (0, 0))
  c4 : w1.heap[s + 1 + 1]? = some (.cells #[.int .i64 0] 29 (0, 0))
  cg : w1.heap[s + 1 + 1 + 1]? = some (.cells #[.slice none 0 0, .int .i64 0, .int .i64 1, .string z] 122 (0, 0))
  c5 : w1.heap[s + 1 + 1 + 1 + 1]? = some (.cells #[.pointer (some ⟨s + 1 + 1 + 1, 0, none⟩)] 120 (0, 0))
  c6 : w1.heap[s + 1 + 1 + 1 + 1 + 1]? = some (.cells #[.pointer (some ⟨s + 1 + 1 + 1, 0, none⟩)] 120 (0, 0))
  below : Below s w w1
theorem load_at {w w1 : World} {z : ByteArray} {s : Nat} {w5 : World} (hs : w.heap.size = s)
    (h5 : w5 = ((((w.alloc (.cells #[.slice none 0 0] 22)).alloc (.cells #[.int .i64 0] 3)).alloc (.cells #[.int .i64 0] 29)).alloc (.cells #[.slice none 0 0, .int .i64 0, .int .i64 1, .string z] 122)).alloc (.cells #[.pointer (some ⟨s + 1 + 1 + 1, 0, none⟩)] 120))
    (hb : w1.heap[w5.heap.size]? = some (.cells #[.pointer (some ⟨s + 1 + 1 + 1, 0, none⟩)] 120 (0, 0))) (hB : Below w5.heap.size w5 w1) : LoadAt s w w1 z := by
  have z5 : w5.heap.size = s + 1 + 1 + 1 + 1 + 1 := by rw [h5]; simp [hs]
  rw [z5] at hb
  have k : ∀ j, j < s + 1 + 1 + 1 + 1 + 1 → w1.heap[j]? = w5.heap[j]? := fun j hj => hB.block j (by omega)
  have n : ∀ (W : World) (o : Obj) (j : Nat), W.heap.size = j → (W.alloc o).heap[j]? = some o := fun W o j h => by rw [← h]; exact World.alloc_heap_new W o
  have o : ∀ (W : World) (o : Obj) (j : Nat), j < W.heap.size → (W.alloc o).heap[j]? = W.heap[j]? := fun W o j h => Below.heap_alloc W o j h
  refine ⟨?_, ?_, ?_, ?_, ?_, hb, ?_⟩
  · rw [k _ (by omega), h5, o _ _ _ (by simp only [World.size_alloc, hs]; omega), o _ _ _ (by simp only [World.size_alloc, hs]; omega), o _ _ _ (by simp only [World.size_alloc, hs]; omega), o _ _ _ (by simp only [World.size_alloc, hs]; try omega)]; exact n _ _ _ hs
  · rw [k _ (by omega), h5, o _ _ _ (by simp only [World.size_alloc, hs]; omega), o _ _ _ (by simp only [World.size_alloc, hs]; omega), o _ _ _ (by simp only [World.size_alloc, hs]; try omega)]; exact n _ _ _ (by simp only [World.size_alloc, hs]; try omega)
  · rw [k _ (by omega), h5, o _ _ _ (by simp only [World.size_alloc, hs]; omega), o _ _ _ (by simp only [World.size_alloc, hs]; try omega)]; exact n _ _ _ (by simp only [World.size_alloc, hs]; try omega)
  · rw [k _ (by omega), h5, o _ _ _ (by simp only [World.size_alloc, hs]; try omega)]; exact n _ _ _ (by simp only [World.size_alloc, hs]; try omega)
  · rw [k _ (by omega), h5]; exact n _ _ _ (by simp only [World.size_alloc, hs]; try omega)
  · have hb5 : Below s w w5 := by
      rw [h5]
      exact (((((Below.refl s w).alloc (by omega) _).alloc (by simp; omega) _).alloc (by simp; omega) _).alloc (by simp; omega) _).alloc (by simp; omega) _
    exact hb5.trans (hB.mono (by omega))
theorem R_off {l t B : Nat} {w w' : World} {v : Value} {xs : List S57} (h : Kd.R k57 t w B (fun _ => True) v xs) (hl : Off l w) (hB : But l w w') : Kd.R k57 t w' B (fun _ => True) v xs := by
  obtain ⟨ob, h1, h2⟩ := hl
  refine Kd.R_mono (Kd.R_step (Kd.R_bound h) (fun k hk hlt => ?_)) (fun _ _ => trivial)
  obtain ⟨_, _, _, q, _, cs, hc⟩ := hk
  refine hB.block k hlt ?_
  rintro rfl
  rw [hc] at h1
  cases h1; cases h2
theorem load_stored {s : Nat} {W : World} {a2 a3 a4 v2 v3 v4 : Value} (h2 : W.heap[s]? = some (.cells #[a2] 22 (0, 0))) (h3 : W.heap[s + 1]? = some (.cells #[a3] 3 (0, 0))) (h4 : W.heap[s + 1 + 1]? = some (.cells #[a4] 29 (0, 0))) :
    KeepsOthers W ((((W.setCell ⟨s, 0, none⟩ v2).setCell ⟨s + 1, 0, none⟩ v3).setCell ⟨s + 1 + 1, 0, none⟩ v4).drew) ∧ ((((W.setCell ⟨s, 0, none⟩ v2).setCell ⟨s + 1, 0, none⟩ v3).setCell ⟨s + 1 + 1, 0, none⟩ v4).drew).heap[s]? = some (.cells #[v2] 22 (0, 0)) ∧ ((((W.setCell ⟨s, 0, none⟩ v2).setCell ⟨s + 1, 0, none⟩ v3).setCell ⟨s + 1 + 1, 0, none⟩ v4).drew).heap[s + 1]? = some (.cells #[v3] 3 (0, 0)) ∧ ((((W.setCell ⟨s, 0, none⟩ v2).setCell ⟨s + 1, 0, none⟩ v3).setCell ⟨s + 1 + 1, 0, none⟩ v4).drew).heap[s + 1 + 1]? = some (.cells #[v4] 29 (0, 0)) ∧ Below s W ((((W.setCell ⟨s, 0, none⟩ v2).setCell ⟨s + 1, 0, none⟩ v3).setCell ⟨s + 1 + 1, 0, none⟩ v4).drew) ∧
    ∀ {v : Value} {xs : List S57} {B : Nat}, Kd.R k57 57 W B (fun _ => True) v xs → Kd.R k57 57 ((((W.setCell ⟨s, 0, none⟩ v2).setCell ⟨s + 1, 0, none⟩ v3).setCell ⟨s + 1 + 1, 0, none⟩ v4).drew) B (fun _ => True) v xs := by
  have b1 := but_setCell W s 0 v2
  have b2 := but_setCell (W.setCell ⟨s, 0, none⟩ v2) (s + 1) 0 v3
  have b3 := but_setCell ((W.setCell ⟨s, 0, none⟩ v2).setCell ⟨s + 1, 0, none⟩ v3) (s + 1 + 1) 0 v4
  have k2 : (W.setCell ⟨s, 0, none⟩ v2).heap[s]? = some (.cells #[v2] 22 (0, 0)) := heap_setCell_same W s 0 _ 22 v2 h2
  have k3 := b1.keeps (show s + 1 ≠ s by omega) h3
  have k4 := b1.keeps (show s + 1 + 1 ≠ s by omega) h4
  have l2 := b2.keeps (show s ≠ s + 1 by omega) k2
  have l3 : ((W.setCell ⟨s, 0, none⟩ v2).setCell ⟨s + 1, 0, none⟩ v3).heap[s + 1]? = some (.cells #[v3] 3 (0, 0)) := heap_setCell_same _ (s + 1) 0 _ 3 v3 k3
  have l4 := b2.keeps (show s + 1 + 1 ≠ s + 1 by omega) k4
  have m2 := b3.keeps (show s ≠ s + 1 + 1 by omega) l2
  have m3 := b3.keeps (show s + 1 ≠ s + 1 + 1 by omega) l3
  have m4 : (((W.setCell ⟨s, 0, none⟩ v2).setCell ⟨s + 1, 0, none⟩ v3).setCell ⟨s + 1 + 1, 0, none⟩ v4).heap[s + 1 + 1]? = some (.cells #[v4] 29 (0, 0)) := heap_setCell_same _ (s + 1 + 1) 0 _ 29 v4 l4
  have hsz : s < W.heap.size := blk_lt h2
  have s1 := b1.size
  have s2 := b2.size
  have s3 := b3.size
  refine ⟨(((KeepsOthers.setCell W _ _).trans (.setCell _ _ _)).trans (.setCell _ _ _)).trans (.drew _), m2, m3, m4, ?_, ?_⟩
  · exact (b3.below (b2.below (b1.below (Below.refl s W) (Nat.le_refl _) (Nat.le_of_lt hsz)) (by omega) (by omega)) (by omega) (by omega)).trans ⟨rfl, rfl, rfl, Nat.le_refl _, fun _ _ => rfl⟩
  · intro v xs B h
    exact Kd.R_step (R_but (R_but (R_but h h2 (by decide) b1) k3 (by decide) b2) l4 (by decide) b3) (fun _ _ _ => rfl)
theorem load_end {s D : Nat} {w W : World} {v : Value} {e1 e2 : Int} {xs : List S57} {tmps : Array Value} (hs : w.heap.size = s) (h2 : W.heap[s]? = some (.cells #[v] 22 (0, 0))) (h3 : W.heap[s + 1]? = some (.cells #[.int .i64 e1] 3 (0, 0))) (h4 : W.heap[s + 1 + 1]? = some (.cells #[.int .i64 e2] 29 (0, 0)))
    (hD : s + 1 + 1 < D) (hK : W.heap[D]? = some (.deferred (some []))) (hB : Below s w W) (hR : Kd.R k57 57 W s (fun _ => True) v xs)
    (t2 : tmps.getD 2 undef = .pointer (some ⟨s, 0, none⟩)) (t3 : tmps.getD 3 undef = .pointer (some ⟨s + 1, 0, none⟩)) (t4 : tmps.getD 4 undef = .pointer (some ⟨s + 1 + 1, 0, none⟩)) (r : List S57 × Int × Int) (hr : r = (xs, e1, e2)) :
    ∃ u, (results Tryz.f41 tmps).run Tryz.prog (W.putObj D (.deferred none)) = .ok u (W.putObj D (.deferred none)) ∧ AllEnd 57 r w (.returned u) (W.putObj D (.deferred none)) := by
  have c2 : (W.putObj D (.deferred none)).cell? ⟨s, 0, none⟩ = some (v) := cellB ((World.putObj_heap_other (o := .deferred none) (show s ≠ D by omega)).trans h2) 0
  have c3 : (W.putObj D (.deferred none)).cell? ⟨s + 1, 0, none⟩ = some (.int .i64 e1) := cellB ((World.putObj_heap_other (o := .deferred none) (show s + 1 ≠ D by omega)).trans h3) 0
  have c4 : (W.putObj D (.deferred none)).cell? ⟨s + 1 + 1, 0, none⟩ = some (.int .i64 e2) := cellB ((World.putObj_heap_other (o := .deferred none) (show s + 1 + 1 ≠ D by omega)).trans h4) 0
  refine ⟨.tuple #[v, .int .i64 e1, .int .i64 e2], ?_, v, by rw [hr], by rw [hr, hs]; exact R_off hR ⟨_, hK, rfl⟩ (but_put _ _ _), ?_⟩
  · have u2 : tmps[2]?.getD undef = .pointer (some ⟨s, 0, none⟩) := by simpa using t2
    have u3 : tmps[3]?.getD undef = .pointer (some ⟨s + 1, 0, none⟩) := by simpa using t3
    have u4 : tmps[4]?.getD undef = .pointer (some ⟨s + 1 + 1, 0, none⟩) := by simpa using t4
    simp only [results, Tryz.f41]
    simp [go_sem, u2, u3, u4, c2, c3, c4, asAddr]
  · rw [hs]; exact (but_put D W _).below hB (by omega) (by have := hB.size; omega)
set_option maxHeartbeats 4000000 in
set_option maxRecDepth 100000 in
theorem Load_small (z : ByteArray) (w : World) (hG : GOOD w) (hs : z.size ≤ 262144) (U : List S57 × Nat × List UInt8 × Int) (hU : loadS [] 0 1 z.data.toList = U) :
    Calls Tryz.prog 41 #[.string z] w (AllEnd 57 (if U.2.2.2 ≠ 0 then ([], (U.2.1 : Int), U.2.2.2) else (U.1, (U.2.1 : Int), 0)) w) := by
  have d1 : decide (262144 < (z.size : Int)) = false := decide_eq_false (by omega)
  have d1' : decide (262144 < z.size) = false := decide_eq_false (by omega)
  obtain ⟨r, hr⟩ : ∃ r : List S57 × Int × Int, (if U.2.2.2 ≠ 0 then ([], (U.2.1 : Int), U.2.2.2) else (U.1, (U.2.1 : Int), 0)) = r := ⟨_, rfl⟩
  rw [hr]
  have HRR := Lib.hid hr
  have HU := Lib.hid hU
  clear hr hU
  obtain ⟨s, hsz⟩ : ∃ s, w.heap.size = s := ⟨_, rfl⟩
  have HSZ := Lib.hid hsz
  refine (callsIn_wide (n := 3)).1 ?_
  refine callsIn_of_wp_marks Tryz.func41 rfl trivial ?_ rfl
  simp only [Tryz.ntmps41, List.size_toArray, List.length_cons, List.length_nil, Nat.reduceAdd, Nat.reduceSub, Array.replicate_succ, Array.replicate_zero, List.push_toArray, List.append_toArray, List.nil_append, List.cons_append]
  gi_wp2_with (first
    | (refine ⟨trivial, ?_⟩; gi_at_call 73; refine (callsIn_wide.2 (rdr_calls _ _)).mono ?_; rintro e w1 ⟨rfl, hb1, hs1, hB1⟩; have HA := Lib.hid (load_at (z := z) hsz rfl hb1 hB1); clear hb1 hs1 hB1))
  have A := HA.out
  have hg : s + 1 + 1 + 1 < w1.heap.size := blk_lt A.cg
  have hr1 : RAt w1 s (s + 1 + 1 + 1) none 0 [] 0 1 z := ⟨A.cg, Kd.R_nil _ _ _ _ _⟩
  have h8 := hG.low
  have hB1 : Below w.heap.size w w1 := by rw [hsz]; exact A.below
  refine wpIn_range_but (α := Int) (F := Fence.wide) rfl (by omega) (gf := 111) (lb := #[.pointer (some ⟨s + 1 + 1 + 1 + 1 + 1, 0, none⟩)]) rfl trivial (enters_of Tryz.func111 (by kernel_rfl) rfl)
    (iter_seq _ U s (s + 1 + 1 + 1) (s + 1 + 1 + 1 + 1 + 1) none 0 [] 0 1 z w1 (hG.below hB1) A.c6 (by omega) (by omega) hr1 (by omega) rfl (by omega) (by omega) HU.out) hg (fun _ => rfl)
    (fun x W l o h hl ho hx => (h hx).put ho o) (fun W l o h hl ho => h.put ho o)
    (fun c W => c = .ret ∧ U.2.2.2 ≠ 0 ∧ W.heap[s]? = some (.cells #[.slice none 0 0] 22 (0, 0)) ∧ W.heap[s + 1]? = some (.cells #[.int .i64 (U.2.1 : Int)] 3 (0, 0)) ∧ W.heap[s + 1 + 1]? = some (.cells #[.int .i64 U.2.2.2] 29 (0, 0)) ∧ Below s w W)
    (fun c W l o h hl ho => by
      obtain ⟨h1, h2, h3, h4, h5, h6⟩ := h
      exact ⟨h1, h2, (World.putObj_heap_other (by omega)).trans h3, (World.putObj_heap_other (by omega)).trans h4, (World.putObj_heap_other (by omega)).trans h5, (but_put l W o).below h6 (by omega) (by have := h6.size; omega)⟩)
    (fun x => { tmps := #[.string z, undef, .pointer (some ⟨s, 0, none⟩), .pointer (some ⟨s + 1, 0, none⟩), .pointer (some ⟨s + 1 + 1, 0, none⟩), .pointer (some ⟨s + 1 + 1 + 1 + 1, 0, none⟩), .int .i64 x, .string z, .int .i64 z.size, .bool false, .string z, .agg #[.slice none 0 0, .int .i64 0, .int .i64 1, .string z], .pointer (some ⟨s + 1 + 1 + 1, 0, none⟩), .pointer (some ⟨s + 1 + 1 + 1, 0, none⟩), .func (.func 111) #[] #[.pointer (some ⟨s + 1 + 1 + 1 + 1 + 1, 0, none⟩)], .int .i64 x, undef, undef, undef, undef, undef, undef, undef, undef, undef, undef, undef, undef, undef, undef, undef], defers := [] }) ?assign ?body ?done ?stop
  case assign =>
    intro l x W K hK
    gi_wp2
    exact hK
  case body =>
    intro l x W hBW hF
    by_cases hx : x = 0
    · subst hx
      gi_wp2
      exact ⟨by first | rfl | trivial, by first | rfl | trivial⟩
    · obtain ⟨A', c', o, n, h, t, hr, hu⟩ := hF hx
      have e1 : (x != 0) = true := bne_iff_ne.mpr hx
      have g1 := cellB hr.box 1
      have q2 := hBW.keeps (show s ≠ s + 1 + 1 + 1 by omega) A.c2
      have q3 := hBW.keeps (show s + 1 ≠ s + 1 + 1 + 1 by omega) A.c3
      have q4 := hBW.keeps (show s + 1 + 1 ≠ s + 1 + 1 + 1 by omega) A.c4
      have q5 := hBW.keeps (show s + 1 + 1 + 1 + 1 ≠ s + 1 + 1 + 1 by omega) A.c5
      have b5 := cellB q5 0
      have b2 := cellB q2 0
      have b3 := cellB q3 0
      have b4 := cellB q4 0
      have f2 := frozen_of_row W s 0 _ 22 q2
      have f3 := frozen_of_row W (s + 1) 0 _ 3 q3
      have f4 := frozen_of_row W (s + 1 + 1) 0 _ 29 q4
      have Q2 := Lib.hid q2
      have Q3 := Lib.hid q3
      have Q4 := Lib.hid q4
      clear q2 q3 q4 q5 hF
      have hmix : Tryz.prog.follows .mixedOrders = true := by kernel_rfl
      gi_wp2
      gi_region_with_o (fail)
      all_goals gi_wp2
      all_goals
        obtain ⟨hK, m2, m3, m4, hB, _⟩ := load_stored (W := W) (v2 := .slice none 0 0) (v3 := .int .i64 n) (v4 := .int .i64 x) Q2.out Q3.out Q4.out
        exact ⟨hK, rfl, by rw [hu]; exact hx, m2, by rw [hu]; exact m3, by rw [hu]; exact m4, (hBW.below A.below (by omega) (by have := A.below.size; omega)).trans hB⟩
  case done =>
    intro D W hF hBW hD hK
    obtain ⟨A', c', o, n, h, t, hr, hu⟩ := hF
    have g0 := cellB hr.box 0
    have g1 := cellB hr.box 1
    have q2 := hBW.keeps (show s ≠ s + 1 + 1 + 1 by omega) A.c2
    have q3 := hBW.keeps (show s + 1 ≠ s + 1 + 1 + 1 by omega) A.c3
    have q4 := hBW.keeps (show s + 1 + 1 ≠ s + 1 + 1 + 1 by omega) A.c4
    have q5 := hBW.keeps (show s + 1 + 1 + 1 + 1 ≠ s + 1 + 1 + 1 by omega) A.c5
    have b5 := cellB q5 0
    have b2 := cellB q2 0
    have b3 := cellB q3 0
    have b4 := cellB q4 0
    have f2 := frozen_of_row W s 0 _ 22 q2
    have f3 := frozen_of_row W (s + 1) 0 _ 3 q3
    have f4 := frozen_of_row W (s + 1 + 1) 0 _ 29 q4
    have Q2 := Lib.hid q2
    have Q3 := Lib.hid q3
    have Q4 := Lib.hid q4
    have HK := Lib.hid hK
    clear q2 q3 q4 q5 hK
    gi_wp2
    gi_region
    all_goals gi_wp2
    all_goals
      obtain ⟨hKO, m2, m3, m4, hB, hRR⟩ := load_stored (W := W) (v2 := .slice A' o.length c') (v3 := .int .i64 n) (v4 := .int .i64 0) Q2.out Q3.out Q4.out
      have hK' := hKO.same D _ HK.out rfl
      refine ⟨by simp, .inl ⟨_, _, rfl, run_takeDeferred hK', ?_⟩⟩
      exact load_end hsz m2 m3 m4 (by omega) hK' ((hBW.below A.below (by omega) (by have := A.below.size; omega)).trans hB) (hRR hr.row) rfl rfl rfl _ (by rw [← HRR.out, hu]; rfl)
  case stop =>
    intro D c W h hD hK
    obtain ⟨rfl, hne, m2, m3, m4, hB⟩ := h
    gi_wp2
    refine ⟨by simp, .inl ⟨_, _, rfl, run_takeDeferred hK, ?_⟩⟩
    exact load_end hsz m2 m3 m4 (by omega) hK hB (Kd.R_nil _ _ _ _ _) rfl rfl rfl _ (by rw [← HRR.out, if_pos hne])
end Go.Proofs.YtdgipencedlbmaaGreatDoor.Pr
namespace Go.Proofs.YtdgipencedlbmaaGreatDoor.Pr
set_option linter.unusedVariables false
set_option linter.unusedSimpArgs false
open Go.RowKit Go.Shelf Go.Proofs.YtdgipencedlbmaaGreatDoorW.PrintWords Go.Proofs.YtdgipencedlbmaaGreatDoorW.PrintLast Go.Proofs.YtdgipencedlbmaaGreatDoorW.PrintMore Go.Proofs.YtdgipencedlbmaaGreatDoor.Hand
attribute [local go_sem] Oper.semAt_some
theorem loadF_len : ∀ (f : Nat) (o : List S57) (n : Nat) (h : Int) (t : List UInt8), (loadF f o n h t).2.2.1.length ≤ t.length
  | 0, _, _, _, _ => Nat.le_refl _
  | f + 1, o, n, h, t => by
    unfold loadF
    split
    · exact Nat.zero_le _
    · split
      · exact Nat.le_refl _
      · rename_i r hs
        exact Nat.le_trans (loadF_len f _ _ _ _) (Nat.le_of_lt (step_shorter hs).1)
set_option maxHeartbeats 1000000 in
set_option maxRecDepth 100000 in
theorem Load_big (z : ByteArray) (w : World) (hs : 262144 < z.size) : Calls Tryz.prog 41 #[.string z] w (AllEnd 57 ([], 0, 17) w) := by
  have d1 : decide (262144 < (z.size : Int)) = true := decide_eq_true (by omega)
  have d1' : decide (262144 < z.size) = true := decide_eq_true hs
  clear hs
  refine (callsIn_wide (n := 3)).1 ?_
  refine callsIn_of_wp_marks Tryz.func41 rfl trivial ?_ rfl
  simp only [Tryz.ntmps41, List.size_toArray, List.length_cons, List.length_nil, Nat.reduceAdd, Nat.reduceSub, Array.replicate_succ, Array.replicate_zero, List.push_toArray, List.append_toArray, List.nil_append, List.cons_append]
  gi_wp2
  obtain ⟨s, hsz⟩ : ∃ s, w.heap.size = s := ⟨_, rfl⟩
  rw [hsz]
  have n : ∀ (W : World) (o : Obj) (j : Nat), W.heap.size = j → (W.alloc o).heap[j]? = some o := fun W o j h => by rw [← h]; exact World.alloc_heap_new W o
  have o : ∀ (W : World) (o : Obj) (j : Nat), j < W.heap.size → (W.alloc o).heap[j]? = W.heap[j]? := fun W o j h => Below.heap_alloc W o j h
  obtain ⟨W, hW⟩ : ∃ W, ((w.alloc (.cells #[.slice none 0 0] 22)).alloc (.cells #[.int .i64 0] 3)).alloc (.cells #[.int .i64 17] 29) = W := ⟨_, rfl⟩
  have h2 : W.heap[s]? = some (.cells #[.slice none 0 0] 22 (0, 0)) := by
    rw [← hW, o _ _ _ (by simp only [World.size_alloc, hsz]; omega), o _ _ _ (by simp only [World.size_alloc, hsz]; omega)]; exact n _ _ _ hsz
  have h3 : W.heap[s + 1]? = some (.cells #[.int .i64 0] 3 (0, 0)) := by
    rw [← hW, o _ _ _ (by simp only [World.size_alloc, hsz]; omega)]; exact n _ _ _ (by simp only [World.size_alloc, hsz])
  have h4 : W.heap[s + 1 + 1]? = some (.cells #[.int .i64 17] 29 (0, 0)) := by
    rw [← hW]; exact n _ _ _ (by simp only [World.size_alloc, hsz])
  have hB : Below s w W := by
    rw [← hW]
    exact (((Below.refl s w).alloc (by omega) _).alloc (by simp only [World.size_alloc, hsz]; omega) _).alloc (by simp only [World.size_alloc, hsz]; omega) _
  rw [hW]
  have c2 : W.cell? ⟨s, 0, none⟩ = some (.slice none 0 0) := cellB h2 0
  have c3 : W.cell? ⟨s + 1, 0, none⟩ = some (.int .i64 0) := cellB h3 0
  have c4 : W.cell? ⟨s + 1 + 1, 0, none⟩ = some (.int .i64 17) := cellB h4 0
  refine ⟨.tuple #[.slice none 0 0, .int .i64 0, .int .i64 17], ?_, AllEnd.nil (by rw [hsz]; exact hB)⟩
  simp only [results, Tryz.f41]
  simp [go_sem, c2, c3, c4, asAddr]
theorem Load_calls (z : ByteArray) (w : World) (hG : GOOD w) (r : List S57 × Int × Int) (hr : loadR z = r) : Calls Tryz.prog 41 #[.string z] w (AllEnd 57 r w) := by
  subst hr
  unfold loadR
  by_cases h : 262144 < z.size
  · rw [if_pos h]; exact Load_big z w h
  · rw [if_neg h]; exact Load_small z w hG (by omega) _ rfl
set_option maxHeartbeats 4000000 in
set_option maxRecDepth 100000 in
theorem Repair_calls (z : ByteArray) (w : World) (hG : GOOD w) (hs : z.size ≤ 1048576) (v : ByteArray) (hv : repairR z = v) : Calls Tryz.prog 43 #[.string z] w fun e w' => e = .returned (.string v) ∧ Below w.heap.size w w' := by
  obtain ⟨y, hy⟩ : ∃ y, z.extract 0 (min z.size 262144) = y := ⟨_, rfl⟩
  have hys : y.size = min z.size 262144 := by rw [← hy]; simp
  have hmin : ((min (z.size : Int) 262144) : Int) = ((min z.size 262144 : Nat) : Int) := by omega
  obtain ⟨U, hU⟩ : ∃ U, loadS [] 0 1 y.data.toList = U := ⟨_, rfl⟩
  have HU := Lib.hid hU
  have HY := Lib.hid hy
  have HV := Lib.hid hv
  obtain ⟨s, hsz⟩ : ∃ s, w.heap.size = s := ⟨_, rfl⟩
  clear hU hv
  refine (callsIn_wide (n := 3)).1 ?_
  refine callsIn_of_wp_marks Tryz.func43 rfl trivial ?_ rfl
  simp only [Tryz.ntmps43, List.size_toArray, List.length_cons, List.length_nil, Nat.reduceAdd, Nat.reduceSub, Array.replicate_succ, Array.replicate_zero, List.push_toArray, List.append_toArray, List.nil_append, List.cons_append]
  gi_wp2_with (first
    | (refine ⟨trivial, ?_⟩; gi_at_call 73; refine (callsIn_wide.2 (rdr_calls _ _)).mono ?_; rintro e w1 ⟨rfl, hb1, hs1, hB1⟩))
  have z1 : (w.alloc (.cells #[.slice none 0 0, .int .i64 0, .int .i64 1, .string y] 122)).heap.size = s + 1 := by rw [World.size_alloc, hsz]
  rw [z1] at hb1 hs1
  have hcg : w1.heap[s]? = some (.cells #[.slice none 0 0, .int .i64 0, .int .i64 1, .string y] 122 (0, 0)) := by
    rw [hB1.block s (by omega), ← hsz]
    exact World.alloc_heap_new _ _
  have hB : Below s w w1 := ((Below.refl s w).alloc (by omega) _).trans (hB1.mono (by omega))
  have hr1 : RAt w1 s s none 0 [] 0 1 y := ⟨hcg, Kd.R_nil _ _ _ _ _⟩
  have h8 := hG.low
  have hg : s < w1.heap.size := by omega
  have hlen : U.2.2.1.length ≤ y.size := by
    have := loadF_len (y.data.toList.length + 1) [] 0 1 y.data.toList
    have e : loadF (y.data.toList.length + 1) [] 0 1 y.data.toList = U := HU.out
    rw [e, Array.length_toList] at this
    exact this
  have hfin : ∀ (t : ByteArray), U.2.2.1 = t.data.toList → y.extract 0 (y.size - t.size) = v ∧ t.size ≤ y.size := by
    intro t ht
    have e : U.2.2.1.length = t.size := by rw [ht, Array.length_toList]; rfl
    refine ⟨?_, by omega⟩
    rw [← HV.out]
    unfold repairR
    rw [HY.out, HU.out, e]
  have HFN := Lib.hid hfin
  clear hfin
  refine wpIn_range_but (α := Int) (F := Fence.wide) rfl (by omega) (gf := 111) (lb := #[.pointer (some ⟨s + 1, 0, none⟩)]) rfl trivial (enters_of Tryz.func111 (by kernel_rfl) rfl)
    (iter_seq _ U s s (s + 1) none 0 [] 0 1 y w1 (hG.below (by rw [hsz]; exact hB)) hb1 (by omega) (by omega) hr1 (by omega) rfl (by omega) (by omega) HU.out) hg (fun _ => rfl)
    (fun x W l o h hl ho hx => (h hx).put ho o) (fun W l o h hl ho => h.put ho o)
    (fun c W => c = .exit 0 ∧ FinU U s s U.2.2.2 W ∧ Below s w W)
    (fun c W l o h hl ho => ⟨h.1, h.2.1.put ho o, (but_put l W o).below h.2.2 (by omega) (by have := h.2.2.size; omega)⟩)
    (fun x => { tmps := #[.string y, undef, .string ⟨#[]⟩, .pointer (some ⟨s, 0, none⟩), .int .i64 x, .string z, .string z, .int .i64 z.size, .int .i64 ((min z.size 262144 : Nat) : Int), .string y, .string y, .agg #[.slice none 0 0, .int .i64 0, .int .i64 1, .string y], .pointer (some ⟨s, 0, none⟩), .pointer (some ⟨s, 0, none⟩), .func (.func 111) #[] #[.pointer (some ⟨s + 1, 0, none⟩)], .int .i64 x, undef, undef, undef, undef, undef, undef, undef, undef, undef, undef, undef, undef], defers := [] }) ?assign ?body ?done ?stop
  case assign =>
    intro l x W K hK
    gi_wp2
    exact hK
  case body =>
    intro l x W hBW hF
    by_cases hx : x = 0
    · subst hx
      gi_wp2
      exact ⟨by first | rfl | trivial, by first | rfl | trivial⟩
    · have e1 : (x != 0) = true := bne_iff_ne.mpr hx
      gi_wp2
      refine ⟨KeepsOthers.refl _, rfl, ?_, hBW.below hB (by omega) (by omega)⟩
      obtain ⟨A', c', o, n, h, t, hr, hu⟩ := hF hx
      exact ⟨A', c', o, n, h, t, hr, by rw [hu]⟩
  case done =>
    intro D W hF hBW hD hK
    obtain ⟨A', c', o, n, h, t, hr, hu⟩ := hF
    have g3 := cellB hr.box 3
    obtain ⟨hv, hts⟩ := HFN.out t (by rw [hu])
    have HVV := Lib.hid hv
    have hBD := hBW.below hB (by omega) (by omega)
    clear hv hr hu
    have hsub : ((y.size : Int) - (t.size : Int)) = ((y.size - t.size : Nat) : Int) := by omega
    gi_wp2
    refine ⟨by simp, .inl ⟨_, _, rfl, run_takeDeferred hK, ?_⟩⟩
    exact ⟨_, results_tmp rfl _ _ _, by rw [← HVV.out, hys]; rfl, by rw [hsz]; exact (but_put D W _).below hBD (by omega) (by have := hBD.size; omega)⟩
  case stop =>
    intro D c W h hD hK
    obtain ⟨rfl, ⟨A', c', o, n, h, t, hr, hu⟩, hBD⟩ := h
    have g3 := cellB hr.box 3
    obtain ⟨hv, hts⟩ := HFN.out t (by rw [hu])
    have HVV := Lib.hid hv
    clear hv hr hu
    have hsub : ((y.size : Int) - (t.size : Int)) = ((y.size - t.size : Nat) : Int) := by omega
    gi_wp2
    refine ⟨by simp, .inl ⟨_, _, rfl, run_takeDeferred hK, ?_⟩⟩
    exact ⟨_, results_tmp rfl _ _ _, by rw [← HVV.out, hys]; rfl, by rw [hsz]; exact (but_put D W _).below hBD (by omega) (by have := hBD.size; omega)⟩
end Go.Proofs.YtdgipencedlbmaaGreatDoor.Pr
namespace Go.Proofs.YtdgipencedlbmaaGreatDoor.Pr
set_option linter.unusedVariables false
set_option linter.unusedSimpArgs false
open Go.RowKit Go.Proofs.YtdgipencedlbmaaGreatDoorW.PrintWords Go.Proofs.YtdgipencedlbmaaGreatDoorW.PrintLast Go.Proofs.YtdgipencedlbmaaGreatDoorW.PrintMore Go.Proofs.YtdgipencedlbmaaGreatDoor.Hand
end Go.Proofs.YtdgipencedlbmaaGreatDoor.Pr
