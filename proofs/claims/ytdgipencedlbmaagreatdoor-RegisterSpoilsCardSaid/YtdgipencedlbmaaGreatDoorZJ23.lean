/- register.Read answers as readS says. -/
import Derived.Test.YtdgipencedlbmaaGreatDoorZJ22
namespace Go.Proofs.YtdgipencedlbmaaGreatDoor.Pr
set_option linter.unusedVariables false
set_option linter.unusedSimpArgs false
open Go.RowKit Go.Proofs.YtdgipencedlbmaaGreatDoorW.PrintWords Go.Proofs.YtdgipencedlbmaaGreatDoor.Hand
theorem entry_cells3 {W : World} {b : Nat} {x : S24} {t : TypeId} (h : W.heap[b]? = some (.cells (cellsE x) t (0, 0))) : W.cell? ⟨b, 0, none⟩ = some (.int .i64 x.f0) ∧ W.cell? ⟨b, 1, none⟩ = some (.string x.f1) ∧ W.cell? ⟨b, 2, none⟩ = some (.int .i64 x.f2) :=
  ⟨cellB h 0, cellB h 1, cellB h 2⟩
structure RdAt (w W : World) (r c p n x : Nat) (ws : List ByteArray) (g : S24) : Prop where
  below : Below w.heap.size w W
  res : W.heap[r]? = some (.cells (cellsE z24) 24 (0, 0))
  lo : w.heap.size ≤ r
  box : W.heap[c]? = some (.cells #[.slice (some ⟨p, 0, none⟩) n n] 112 (0, 0))
  parts : PartsAt W p n ws
  ent : W.heap[x]? = some (.cells (cellsE g) 24 (0, 0))
  xl : w.heap.size ≤ x
  xr : x ≠ r
  xc : x ≠ c
  xp : x ≠ p
theorem RdAt.keep {w W W' : World} {r c p n x : Nat} {ws : List ByteArray} {g : S24} (h : RdAt w W r c p n x ws g) (hB : Below W.heap.size W W') : RdAt w W' r c p n x ws g :=
  ⟨below_then h.below hB, below_keeps hB (blk_lt h.res) h.res, h.lo, below_keeps hB (blk_lt h.box) h.box, h.parts.keep hB, below_keeps hB (blk_lt h.ent) h.ent, h.xl, h.xr, h.xc, h.xp⟩
theorem RdAt.set1 {w W : World} {r c p n x : Nat} {ws : List ByteArray} {g : S24} (h : RdAt w W r c p n x ws g) (s : ByteArray) : RdAt w (W.setCell ⟨x, 1, none⟩ (.string s)) r c p n x ws { g with f1 := s } := by
  have hb := but_setCell W x 1 (.string s)
  refine ⟨hb.below h.below h.xl h.below.size, hb.keeps h.xr.symm h.res, h.lo, hb.keeps h.xc.symm h.box, ⟨h.parts.len, h.parts.pos, hb.keeps h.xp.symm h.parts.cells⟩, ?_, h.xl, h.xr, h.xc, h.xp⟩
  exact heap_setCell_same W x 1 _ 24 (.string s) h.ent
theorem RdAt.set2 {w W : World} {r c p n x : Nat} {ws : List ByteArray} {g : S24} (h : RdAt w W r c p n x ws g) (m : Int) : RdAt w (W.setCell ⟨x, 2, none⟩ (.int .i64 m)) r c p n x ws { g with f2 := m } := by
  have hb := but_setCell W x 2 (.int .i64 m)
  refine ⟨hb.below h.below h.xl h.below.size, hb.keeps h.xr.symm h.res, h.lo, hb.keeps h.xc.symm h.box, ⟨h.parts.len, h.parts.pos, hb.keeps h.xp.symm h.parts.cells⟩, ?_, h.xl, h.xr, h.xc, h.xp⟩
  exact heap_setCell_same W x 2 _ 24 (.int .i64 m) h.ent
structure RdCells (W : World) (r c p n x : Nat) (g : S24) : Prop where
  box : W.cell? ⟨c, 0, none⟩ = some (.slice (some ⟨p, 0, none⟩) n n)
  x0 : W.cell? ⟨x, 0, none⟩ = some (.int .i64 g.f0)
  x1 : W.cell? ⟨x, 1, none⟩ = some (.string g.f1)
  x2 : W.cell? ⟨x, 2, none⟩ = some (.int .i64 g.f2)
  fx : ∀ j, W.frozen? ⟨x, j, none⟩ = false
theorem RdAt.cells {w W : World} {r c p n x : Nat} {ws : List ByteArray} {g : S24} (h : RdAt w W r c p n x ws g) : RdCells W r c p n x g := by
  obtain ⟨a, b, d⟩ := entry_cells3 h.ent
  exact ⟨cellB h.box 0, a, b, d, fun j => frozen_of_row W x j _ 24 h.ent⟩
set_option maxHeartbeats 1000000 in
set_option maxRecDepth 100000 in
theorem Read_long (t : ByteArray) (w : World) (h : 4096 < t.data.toList.length) :
    Calls Tryz.prog 35 #[.string t] w fun e w' => e = .returned (.tuple #[.agg (cellsE z24), .int .i64 17]) ∧ Below w.heap.size w w' := by
  have e : t.data.toList.length = t.size := by simp
  have d0 : decide (4096 < (t.size : Int)) = true := decide_eq_true (by omega)
  clear h e
  go_enter Tryz.func35, Tryz.ntmps35
  go_wp2_with (first
    | ((with_reducible refine alloc_event (o := ⟨some 2, _, _, _, _, _⟩) rfl 24 rfl (.agg (cellsE z24)) zero24 ?_); intro r hr w1 hr1 hB1 hs1; have HR1 := Lib.hid hr1; have HB1 := Lib.hid hB1; have HLO := Lib.hid (show w.heap.size ≤ r by rw [hr]; exact Nat.le_refl _); clear hr hr1 hB1 hs1)
    | ((with_reducible refine store_row_event rfl 24 _ _ rfl r (cellsE z24) ?hx ?hy 24 (cellsE z24) ?hg ?hi ?ho ?h1 ?_); (case hg => exact HR1.out); (case ho => rfl); (case hx => (go_simp; done)); (case hy => rfl); (case hi => exact info24s _); (case h1 => exact cellsE_one _); intro w2 hr2 hB2 hs2; have HR2 := Lib.hid hr2; have HB2 := Lib.hid (hB2.below HB1.out HLO.out HB1.out.size); clear hr2 hB2 hs2))
  refine bodyPost_ret (results_ct rfl _ _ r 24 (cellsE z24) (0, 0) _ rfl HR2.out Tryz.underlying24 rfl (info24s _)) rfl ?_
  exact ⟨rfl, HB2.out⟩
theorem part_le (l : List UInt8) : ∀ x ∈ splitS l, x.length ≤ l.length := by
  induction l with
  | nil => intro x hx; simp [splitS] at hx; subst hx; simp
  | cons y l ih =>
    intro x hx
    unfold splitS at hx
    split at hx
    · rcases List.mem_cons.1 hx with rfl | hx
      · simp
      · have := ih x hx; simp only [List.length_cons]; omega
    · split at hx
      · simp at hx; subst hx; simp
      · rename_i p r e
        rcases List.mem_cons.1 hx with rfl | hx
        · have := ih p (by rw [e]; simp); simp only [List.length_cons]; omega
        · have := ih x (by rw [e]; simp [hx]); simp only [List.length_cons]; omega
theorem part_size {t : ByteArray} {ws : List ByteArray} (h : ws.map (·.data.toList) = splitS t.data.toList) (hs : t.size ≤ 4096) (k : Nat) : (ws.getD k ByteArray.empty).size ≤ 281474976710656 := by
  by_cases hk : k < ws.length
  · have hm : (ws.getD k ByteArray.empty).data.toList ∈ splitS t.data.toList := by
      rw [← h, List.getD, List.getElem?_eq_getElem hk]
      exact List.mem_map_of_mem (List.getElem_mem hk)
    have := part_le _ _ hm
    have e1 : t.data.toList.length = t.size := by simp
    have e2 : (ws.getD k ByteArray.empty).data.toList.length = (ws.getD k ByteArray.empty).size := by simp
    omega
  · rw [List.getD, List.getElem?_eq_none (by omega)]
    show ByteArray.empty.size ≤ _
    decide
theorem Text_is (k : Int) (s : ByteArray) (n : Int) (v : ByteArray × Int) (h : textS k s n = v) (w : World) (hG : GOOD w) :
    Calls Tryz.prog 33 #[.agg #[.int .i64 k, .string s, .int .i64 n]] w fun e w' => e = .returned (.tuple #[.string v.1, .int .i64 v.2]) ∧ Below w.heap.size w w' := by subst h; exact Text_calls k s n w hG
theorem guess_ws {ws : List ByteArray} {n : Nat} {cnt : List UInt8 → Int} (h : ws.length = n) : guessS (ws.map (·.data.toList)) cnt = ⟨kindL ((ws.map (·.data.toList)).getD 0 []), if 1 < n then ws.getD 1 ByteArray.empty else ⟨#[]⟩, if 2 < n then cnt (ws.getD 2 ByteArray.empty).data.toList else 0⟩ := by
  subst h
  unfold guessS
  have e1 : bytesA ((ws.map (·.data.toList)).getD 1 []) = if 1 < ws.length then ws.getD 1 ByteArray.empty else ⟨#[]⟩ := by
    by_cases h : 1 < ws.length
    · rw [if_pos h, List.getD, List.getElem?_map, List.getElem?_eq_getElem h, List.getD, List.getElem?_eq_getElem h]
      exact bytesA_data _
    · rw [if_neg h, List.getD, List.getElem?_map, List.getElem?_eq_none (by omega)]; rfl
  have e2 : (match (ws.map (·.data.toList))[2]? with | none => 0 | some c => cnt c) = if 2 < ws.length then cnt (ws.getD 2 ByteArray.empty).data.toList else 0 := by
    by_cases h : 2 < ws.length
    · rw [if_pos h, List.getElem?_map, List.getElem?_eq_getElem h, List.getD, List.getElem?_eq_getElem h]; rfl
    · rw [if_neg h, List.getElem?_map, List.getElem?_eq_none (by omega)]; rfl
  have hm : ∀ (a : Int) (b b' : ByteArray) (c c' : Int), b = b' → c = c' → (⟨a, b, c⟩ : S24) = ⟨a, b', c'⟩ := by rintro a b b' c c' rfl rfl; rfl
  exact hm _ _ _ _ _ e1 e2
theorem kind_ws {ws : List ByteArray} (h : 0 < ws.length) : (ws.map (·.data.toList)).getD 0 [] = (ws.getD 0 ByteArray.empty).data.toList := by
  rw [List.getD, List.getElem?_map, List.getElem?_eq_getElem h, List.getD, List.getElem?_eq_getElem h]; rfl
theorem read_end {t : ByteArray} {ws : List ByteArray} {n : Nat} {g : S24} (hl : ¬ 4096 < t.data.toList.length) (hws : ws.map (·.data.toList) = splitS t.data.toList) (hn : ws.length = n) (hp : 0 < n)
    (hg : g = ⟨kindL (ws.getD 0 ByteArray.empty).data.toList, if 1 < n then ws.getD 1 ByteArray.empty else ⟨#[]⟩, if 2 < n then atoiAny (ws.getD 2 ByteArray.empty).data.toList else 0⟩) : readG t g = readS t.data.toList := by
  refine readG_is hl fun x hx ht => ?_
  have e : g = guessS (splitS t.data.toList) atoiAny := by rw [← hws, guess_ws hn, kind_ws (by omega)]; exact hg
  rw [e, ← ht]
  exact guess_right hx atoiAny_itoa
theorem read_good {t : ByteArray} {g : S24} {v : ByteArray × Int} (h : textS g.f0 g.f1 g.f2 = v) (h2 : v.2 = 0) (h1 : v.1 = t) : readG t g = (g, 0) := by unfold readG; rw [h, if_pos ⟨h2, h1⟩]
theorem read_bad {t : ByteArray} {g : S24} {v : ByteArray × Int} (h : textS g.f0 g.f1 g.f2 = v) (h2 : ¬ (v.2 = 0 ∧ v.1 = t)) : readG t g = (z24, 4) := by unfold readG; rw [h, if_neg h2]
theorem zero112 (w : World) : (zeroValue 112).run Tryz.prog w = .ok (.slice none 0 0) w := by kernel_rfl
theorem box_set {w3 w4 : World} {c p n : Nat} (h : w3.heap[c]? = some (.cells (Value.slice none 0 0).cells 112 (0, 0))) (hB : Below (w3.setCell ⟨c, 0, none⟩ (.slice (some ⟨p, 0, none⟩) n n)).heap.size (w3.setCell ⟨c, 0, none⟩ (.slice (some ⟨p, 0, none⟩) n n)) w4) :
    w4.heap[c]? = some (.cells #[.slice (some ⟨p, 0, none⟩) n n] 112 (0, 0)) :=
  below_keeps hB (by simp; exact blk_lt h) (heap_setCell_same w3 c 0 _ 112 _ h)
set_option maxHeartbeats 2000000 in
set_option maxRecDepth 100000 in
theorem Read_short (t : ByteArray) (w : World) (hG : GOOD w) (h : ¬ 4096 < t.data.toList.length) :
    Calls Tryz.prog 35 #[.string t] w fun e w' => ∃ u : S24 × Int, u = readS t.data.toList ∧ e = .returned (.tuple #[.agg (cellsE u.1), .int .i64 u.2]) ∧ Below w.heap.size w w' := by
  have e : t.data.toList.length = t.size := by simp
  have HS := Lib.hid (show t.size ≤ 4096 by omega)
  have HN := Lib.hid h
  have d0 : decide (4096 < (t.size : Int)) = false := decide_eq_false (by omega)
  clear h e
  go_enter Tryz.func35, Tryz.ntmps35
  go_upto_region 6 with (first
    | ((with_reducible refine alloc_event (o := ⟨some 2, _, _, _, _, _⟩) rfl 24 rfl (.agg (cellsE z24)) zero24 ?_); intro r hr w1 hr1 hB1 hs1; have HR1 := Lib.hid hr1; have HB1 := Lib.hid hB1; have HLO := Lib.hid (show w.heap.size ≤ r by rw [hr]; exact Nat.le_refl _); clear hr hr1 hB1 hs1)
    | (go_at_call 65; (with_reducible refine (Split_calls t HS.out w1 (hG.below HB1.out)).mono ?_); rintro e w2 ⟨p, n, ws, rfl, hP2, hws, hB2, hpl⟩; have HR2 := Lib.hid (below_keeps hB2 (blk_lt HR1.out) HR1.out); have HP2 := Lib.hid hP2; have HWS := Lib.hid hws; have HRP := Lib.hid (show r < p from Nat.lt_of_lt_of_le (blk_lt HR1.out) hpl); have HB2 := Lib.hid (below_then HB1.out hB2); clear hP2 hws hB2 hpl)
    | ((with_reducible refine alloc_event rfl 112 rfl (.slice none 0 0) zero112 ?_); intro c hc w3 hc3 hB3 hs3; have HR3 := Lib.hid (below_keeps hB3 (blk_lt HR2.out) HR2.out); have HP3 := Lib.hid (HP2.out.keep hB3); have HC3 := Lib.hid hc3; have HCP := Lib.hid (show p < c by rw [hc]; exact blk_lt HP2.out.cells); have HLC := Lib.hid (show w.heap.size ≤ c by rw [hc]; exact HB2.out.size); have HB3 := Lib.hid (below_then HB2.out hB3); have c3 := cellB hc3 0; have f3 := frozen_of_row w3 c 0 _ 112 hc3; clear hc hc3 hB3 hs3)
    | (go_at_call 54; (with_reducible refine (rows_calls _).mono ?_); rintro e w4 ⟨rfl, hB4⟩; have HBX := Lib.hid (box_set HC3.out hB4); have HR4 := Lib.hid (below_keeps hB4 (by simp; exact blk_lt HR3.out) ((heap_setCell_other _ _ _ _ (by have := HRP.out; have := HCP.out; simp; omega)).trans HR3.out)); have HP4 := Lib.hid (⟨HP3.out.len, HP3.out.pos, below_keeps hB4 (by simp; exact blk_lt HP3.out.cells) ((heap_setCell_other _ _ _ _ (by have := HCP.out; simp; omega)).trans HP3.out.cells)⟩ : PartsAt w4 p n ws); have HB4 := Lib.hid (below_then ((but_setCell w3 c 0 _).below HB3.out HLC.out HB3.out.size) hB4); clear hB4 c3 f3)
    | ((with_reducible refine alloc_event rfl 93 rfl (.agg rowsZ) zero93 ?_); intro g hg w5 hg5 hB5 hs5; have HR5 := Lib.hid (below_keeps hB5 (blk_lt HR4.out) HR4.out); have HP5 := Lib.hid (HP4.out.keep hB5); have HC5 := Lib.hid (below_keeps hB5 (blk_lt HBX.out) HBX.out); have HG5 := Lib.hid hg5; have HLG := Lib.hid (show w.heap.size ≤ g ∧ r < g ∧ p < g ∧ c < g by rw [hg]; exact ⟨HB4.out.size, blk_lt HR4.out, blk_lt HP4.out.cells, blk_lt HBX.out⟩); have HB5 := Lib.hid (below_then HB4.out hB5); clear hg hg5 hB5 hs5)
    | ((with_reducible refine store_row_event rfl 93 _ _ rfl g rowsC ?hx ?hy 93 rowsZ ?hg ?hi ?ho ?h1 ?_); (case hg => exact HG5.out); (case hx => (go_simp; done)); (case hy => (go_simp; done)); (case hi => kernel_rfl); (case ho => kernel_rfl); (case h1 => kernel_rfl); intro w6 hg6 hB6 hs6; have HG6 := Lib.hid hg6; have HR6 := Lib.hid (hB6.keeps (by have := HLG.out; omega) HR5.out); have HP6 := Lib.hid (⟨HP5.out.len, HP5.out.pos, hB6.keeps (by have := HLG.out; omega) HP5.out.cells⟩ : PartsAt w6 p n ws); have HC6 := Lib.hid (hB6.keeps (by have := HLG.out; omega) HC5.out); have HB6 := Lib.hid (hB6.below HB5.out HLG.out.1 HB5.out.size); clear hg6 hB6 hs6)
    | (go_at_call 66; (with_reducible refine (rdidx_calls g c p n n 93 (ws.getD 0 ByteArray.empty) w6 HG6.out ⟨HC6.out, HP6.out.cell 0 HP6.out.pos⟩ HP6.out.pos _ rfl).mono ?_); rintro e w7 ⟨rfl, hB7⟩; have HR7 := Lib.hid (below_keeps hB7 (blk_lt HR6.out) HR6.out); have HP7 := Lib.hid (HP6.out.keep hB7); have HC7 := Lib.hid (below_keeps hB7 (blk_lt HC6.out) HC6.out); have HB7 := Lib.hid (below_then HB6.out hB7); clear hB7)
    | ((with_reducible refine build_event (o := ⟨some 19, _, _, _, _, _⟩) rfl 24 _ rfl (cellsE ⟨kindL (ws.getD 0 ByteArray.empty).data.toList, ⟨#[]⟩, 0⟩) ?hf ?_); (case hf => exact built24 _))
    | ((with_reducible refine alloc_event (o := ⟨some 6, _, _, _, _, _⟩) rfl 24 rfl (.agg (cellsE z24)) zero24 ?_); intro x hx w8 hx8 hB8 hs8; have HX8 := Lib.hid hx8; have HR8 := Lib.hid (below_keeps hB8 (blk_lt HR7.out) HR7.out); have HP8 := Lib.hid (HP7.out.keep hB8); have HC8 := Lib.hid (below_keeps hB8 (blk_lt HC7.out) HC7.out); have HXL := Lib.hid (show w.heap.size ≤ x ∧ r < x ∧ p < x ∧ c < x by rw [hx]; exact ⟨HB7.out.size, blk_lt HR7.out, blk_lt HP7.out.cells, blk_lt HC7.out⟩); have HB8 := Lib.hid (below_then HB7.out hB8); clear hx hx8 hB8 hs8)
    | ((with_reducible refine store_row_event rfl 24 _ _ rfl x (cellsE ⟨kindL (ws.getD 0 ByteArray.empty).data.toList, ⟨#[]⟩, 0⟩) ?hx ?hy 24 (cellsE z24) ?hg ?hi ?ho ?h1 ?_); (case hg => exact HX8.out); (case ho => rfl); (case hx => (go_simp; done)); (case hy => (unfold cellsE; go_simp; done)); (case hi => exact info24s _); (case h1 => exact cellsE_one _); intro w9 hx9 hB9 hs9; have HA := Lib.hid (⟨hB9.below HB8.out HXL.out.1 HB8.out.size, hB9.keeps (by have := HXL.out; omega) HR8.out, HLO.out, hB9.keeps (by have := HXL.out; omega) HC8.out, ⟨HP8.out.len, HP8.out.pos, hB9.keeps (by have := HXL.out; omega) HP8.out.cells⟩, hx9, HXL.out.1, by have := HXL.out; omega, by have := HXL.out; omega, by have := HXL.out; omega⟩ : RdAt w w9 r c p n x ws ⟨kindL (ws.getD 0 ByteArray.empty).data.toList, ⟨#[]⟩, 0⟩); obtain ⟨q0, q1, q2, q3, q4⟩ := HA.out.cells; clear hx9 hB9 hs9))
  have HLEN := Lib.hid HA.out.parts.len
  have HPOS := Lib.hid HA.out.parts.pos
  have hxc := HA.out.xc
  have hcx : ¬ c = x := fun e => hxc e.symm
  have hxp := HA.out.xp
  have hpx : ¬ p = x := fun e => hxp e.symm
  obtain ⟨K, hK⟩ : ∃ K, kindL (ws.getD 0 ByteArray.empty).data.toList = K := ⟨_, rfl⟩
  have HK := Lib.hid hK
  rw [hK] at HA q1
  clear hK
  have h3 : n = 1 ∨ n = 2 ∨ 2 < n := by have := HPOS.out; omega
  rcases h3 with hn | hn | hn
  · have hd : True := trivial
    have a1 : decide (1 < (n : Int)) = false := decide_eq_false (by omega)
    have b1 : decide (1 < n) = false := decide_eq_false (by omega)
    have a2 : decide (2 < (n : Int)) = false := decide_eq_false (by omega)
    have b2 : decide (2 < n) = false := decide_eq_false (by omega)
    go_upto_region 10 with (fail)
    have HRE := Lib.hid (read_end (g := ⟨K, ⟨#[]⟩, 0⟩) HN.out HWS.out HLEN.out HPOS.out (by rw [← HK.out]; rw [if_neg (by omega), if_neg (by omega)]))
    clear hn
    obtain ⟨v, hv⟩ : ∃ v, textS (⟨K, ⟨#[]⟩, 0⟩ : S24).f0 (⟨K, ⟨#[]⟩, 0⟩ : S24).f1 (⟨K, ⟨#[]⟩, 0⟩ : S24).f2 = v := ⟨_, rfl⟩
    have HV := Lib.hid hv
    clear hv
    have hc : (v.2 ≠ 0) ∨ (v.2 = 0 ∧ v.1 ≠ t) ∨ (v.2 = 0 ∧ v.1 = t) := by by_cases h1 : v.2 = 0 <;> by_cases h2 : v.1 = t <;> simp [h1, h2]
    rcases hc with h1 | ⟨h1, h2⟩ | ⟨h1, h2⟩
    · have e1 : (v.2 != 0) = true := bne_iff_ne.mpr h1
      have HE := Lib.hid (read_bad (t := t) HV.out (fun h => h1 h.1))
      clear h1
      go_wp2_with (first
        | (go_at_call 33; (with_reducible refine (Text_is (⟨K, ⟨#[]⟩, 0⟩ : S24).f0 (⟨K, ⟨#[]⟩, 0⟩ : S24).f1 (⟨K, ⟨#[]⟩, 0⟩ : S24).f2 v HV.out w9 (hG.below HA.out.below)).mono ?_); rintro e w12 ⟨rfl, hB12⟩; have HA12 := Lib.hid (HA.out.keep hB12); obtain ⟨q0, q1, q2, q3, q4⟩ := HA12.out.cells; clear hB12)
        | ((with_reducible refine store_row_event rfl 24 _ _ rfl r (cellsE z24) ?hx ?hy 24 (cellsE z24) ?hg ?hi ?ho ?h1 ?_); (case hg => exact HA12.out.res); (case ho => rfl); (case hx => (go_simp; done)); (case hy => first | rfl | (unfold cellsE; go_simp; done) | (go_simp; rfl)); (case hi => exact info24s _); (case h1 => exact cellsE_one _); intro w13 hr13 hB13 hs13; have HR13 := Lib.hid hr13; have HB13 := Lib.hid (hB13.below HA12.out.below HLO.out HA12.out.below.size); clear hr13 hB13 hs13))
      refine bodyPost_ret (results_ct rfl _ _ r 24 (cellsE z24) (0, 0) _ rfl HR13.out Tryz.underlying24 rfl (info24s _)) rfl ?_
      exact ⟨_, HE.out.symm.trans HRE.out, rfl, HB13.out⟩
    · have e1 : (v.2 != 0) = false := bne_eq_false_iff_eq.mpr h1
      have e2 : (v.1.toList == t.toList) = false := by rw [beq_eq_false_iff_ne, toList_eq, toList_eq]; exact fun h => h2 (data_inj.1 h)
      have HE := Lib.hid (read_bad HV.out (fun h => h2 h.2))
      clear h1 h2
      go_wp2_with (first
        | (go_at_call 33; (with_reducible refine (Text_is (⟨K, ⟨#[]⟩, 0⟩ : S24).f0 (⟨K, ⟨#[]⟩, 0⟩ : S24).f1 (⟨K, ⟨#[]⟩, 0⟩ : S24).f2 v HV.out w9 (hG.below HA.out.below)).mono ?_); rintro e w12 ⟨rfl, hB12⟩; have HA12 := Lib.hid (HA.out.keep hB12); obtain ⟨q0, q1, q2, q3, q4⟩ := HA12.out.cells; clear hB12)
        | ((with_reducible refine store_row_event rfl 24 _ _ rfl r (cellsE z24) ?hx ?hy 24 (cellsE z24) ?hg ?hi ?ho ?h1 ?_); (case hg => exact HA12.out.res); (case ho => rfl); (case hx => (go_simp; done)); (case hy => first | rfl | (unfold cellsE; go_simp; done) | (go_simp; rfl)); (case hi => exact info24s _); (case h1 => exact cellsE_one _); intro w13 hr13 hB13 hs13; have HR13 := Lib.hid hr13; have HB13 := Lib.hid (hB13.below HA12.out.below HLO.out HA12.out.below.size); clear hr13 hB13 hs13))
      refine bodyPost_ret (results_ct rfl _ _ r 24 (cellsE z24) (0, 0) _ rfl HR13.out Tryz.underlying24 rfl (info24s _)) rfl ?_
      exact ⟨_, HE.out.symm.trans HRE.out, rfl, HB13.out⟩
    · have e1 : (v.2 != 0) = false := bne_eq_false_iff_eq.mpr h1
      have e2 : (v.1.toList == t.toList) = true := by rw [h2]; simp
      have HE := Lib.hid (read_good HV.out h1 h2)
      clear h1 h2
      go_wp2_with (first
        | (go_at_call 33; (with_reducible refine (Text_is (⟨K, ⟨#[]⟩, 0⟩ : S24).f0 (⟨K, ⟨#[]⟩, 0⟩ : S24).f1 (⟨K, ⟨#[]⟩, 0⟩ : S24).f2 v HV.out w9 (hG.below HA.out.below)).mono ?_); rintro e w12 ⟨rfl, hB12⟩; have HA12 := Lib.hid (HA.out.keep hB12); obtain ⟨q0, q1, q2, q3, q4⟩ := HA12.out.cells; clear hB12)
        | ((with_reducible refine store_row_event rfl 24 _ _ rfl r (cellsE (⟨K, ⟨#[]⟩, 0⟩ : S24)) ?hx ?hy 24 (cellsE z24) ?hg ?hi ?ho ?h1 ?_); (case hg => exact HA12.out.res); (case ho => rfl); (case hx => (go_simp; done)); (case hy => first | rfl | (unfold cellsE; go_simp; done) | (go_simp; rfl)); (case hi => exact info24s _); (case h1 => exact cellsE_one _); intro w13 hr13 hB13 hs13; have HR13 := Lib.hid hr13; have HB13 := Lib.hid (hB13.below HA12.out.below HLO.out HA12.out.below.size); clear hr13 hB13 hs13))
      refine bodyPost_ret (results_ct rfl _ _ r 24 (cellsE (⟨K, ⟨#[]⟩, 0⟩ : S24)) (0, 0) _ rfl HR13.out Tryz.underlying24 rfl (info24s _)) rfl ?_
      exact ⟨_, HE.out.symm.trans HRE.out, rfl, HB13.out⟩
  · have hd : True := trivial
    have a1 : decide (1 < (n : Int)) = true := decide_eq_true (by omega)
    have b1 : decide (1 < n) = true := decide_eq_true (by omega)
    have a2 : decide (2 < (n : Int)) = false := decide_eq_false (by omega)
    have b2 : decide (2 < n) = false := decide_eq_false (by omega)
    obtain ⟨s1, hs1⟩ : ∃ s1, ws.getD 1 ByteArray.empty = s1 := ⟨_, rfl⟩
    have pc1 := HA.out.parts.cell 1 (by omega)
    rw [hs1] at pc1
    have HS1 := Lib.hid hs1
    clear hs1
    go_upto_region 8 with (fail)
    have HA := Lib.hid (HA.out.set1 s1)
    obtain ⟨w10, hw10⟩ : ∃ w10, w9.setCell ⟨x, 1, none⟩ (.string s1) = w10 := ⟨_, rfl⟩
    rw [hw10] at HA ⊢
    clear hw10 q0 q1 q2 q3 q4 pc1
    obtain ⟨q0, q1, q2, q3, q4⟩ := HA.out.cells
    go_upto_region 10 with (fail)
    have HRE := Lib.hid (read_end (g := ⟨K, s1, 0⟩) HN.out HWS.out HLEN.out HPOS.out (by rw [← HK.out]; rw [if_pos (by omega), if_neg (by omega), HS1.out]))
    clear hn
    obtain ⟨v, hv⟩ : ∃ v, textS (⟨K, s1, 0⟩ : S24).f0 (⟨K, s1, 0⟩ : S24).f1 (⟨K, s1, 0⟩ : S24).f2 = v := ⟨_, rfl⟩
    have HV := Lib.hid hv
    clear hv
    have hc : (v.2 ≠ 0) ∨ (v.2 = 0 ∧ v.1 ≠ t) ∨ (v.2 = 0 ∧ v.1 = t) := by by_cases h1 : v.2 = 0 <;> by_cases h2 : v.1 = t <;> simp [h1, h2]
    rcases hc with h1 | ⟨h1, h2⟩ | ⟨h1, h2⟩
    · have e1 : (v.2 != 0) = true := bne_iff_ne.mpr h1
      have HE := Lib.hid (read_bad (t := t) HV.out (fun h => h1 h.1))
      clear h1
      go_wp2_with (first
        | (go_at_call 33; (with_reducible refine (Text_is (⟨K, s1, 0⟩ : S24).f0 (⟨K, s1, 0⟩ : S24).f1 (⟨K, s1, 0⟩ : S24).f2 v HV.out w10 (hG.below HA.out.below)).mono ?_); rintro e w12 ⟨rfl, hB12⟩; have HA12 := Lib.hid (HA.out.keep hB12); obtain ⟨q0, q1, q2, q3, q4⟩ := HA12.out.cells; clear hB12)
        | ((with_reducible refine store_row_event rfl 24 _ _ rfl r (cellsE z24) ?hx ?hy 24 (cellsE z24) ?hg ?hi ?ho ?h1 ?_); (case hg => exact HA12.out.res); (case ho => rfl); (case hx => (go_simp; done)); (case hy => first | rfl | (unfold cellsE; go_simp; done) | (go_simp; rfl)); (case hi => exact info24s _); (case h1 => exact cellsE_one _); intro w13 hr13 hB13 hs13; have HR13 := Lib.hid hr13; have HB13 := Lib.hid (hB13.below HA12.out.below HLO.out HA12.out.below.size); clear hr13 hB13 hs13))
      refine bodyPost_ret (results_ct rfl _ _ r 24 (cellsE z24) (0, 0) _ rfl HR13.out Tryz.underlying24 rfl (info24s _)) rfl ?_
      exact ⟨_, HE.out.symm.trans HRE.out, rfl, HB13.out⟩
    · have e1 : (v.2 != 0) = false := bne_eq_false_iff_eq.mpr h1
      have e2 : (v.1.toList == t.toList) = false := by rw [beq_eq_false_iff_ne, toList_eq, toList_eq]; exact fun h => h2 (data_inj.1 h)
      have HE := Lib.hid (read_bad HV.out (fun h => h2 h.2))
      clear h1 h2
      go_wp2_with (first
        | (go_at_call 33; (with_reducible refine (Text_is (⟨K, s1, 0⟩ : S24).f0 (⟨K, s1, 0⟩ : S24).f1 (⟨K, s1, 0⟩ : S24).f2 v HV.out w10 (hG.below HA.out.below)).mono ?_); rintro e w12 ⟨rfl, hB12⟩; have HA12 := Lib.hid (HA.out.keep hB12); obtain ⟨q0, q1, q2, q3, q4⟩ := HA12.out.cells; clear hB12)
        | ((with_reducible refine store_row_event rfl 24 _ _ rfl r (cellsE z24) ?hx ?hy 24 (cellsE z24) ?hg ?hi ?ho ?h1 ?_); (case hg => exact HA12.out.res); (case ho => rfl); (case hx => (go_simp; done)); (case hy => first | rfl | (unfold cellsE; go_simp; done) | (go_simp; rfl)); (case hi => exact info24s _); (case h1 => exact cellsE_one _); intro w13 hr13 hB13 hs13; have HR13 := Lib.hid hr13; have HB13 := Lib.hid (hB13.below HA12.out.below HLO.out HA12.out.below.size); clear hr13 hB13 hs13))
      refine bodyPost_ret (results_ct rfl _ _ r 24 (cellsE z24) (0, 0) _ rfl HR13.out Tryz.underlying24 rfl (info24s _)) rfl ?_
      exact ⟨_, HE.out.symm.trans HRE.out, rfl, HB13.out⟩
    · have e1 : (v.2 != 0) = false := bne_eq_false_iff_eq.mpr h1
      have e2 : (v.1.toList == t.toList) = true := by rw [h2]; simp
      have HE := Lib.hid (read_good HV.out h1 h2)
      clear h1 h2
      go_wp2_with (first
        | (go_at_call 33; (with_reducible refine (Text_is (⟨K, s1, 0⟩ : S24).f0 (⟨K, s1, 0⟩ : S24).f1 (⟨K, s1, 0⟩ : S24).f2 v HV.out w10 (hG.below HA.out.below)).mono ?_); rintro e w12 ⟨rfl, hB12⟩; have HA12 := Lib.hid (HA.out.keep hB12); obtain ⟨q0, q1, q2, q3, q4⟩ := HA12.out.cells; clear hB12)
        | ((with_reducible refine store_row_event rfl 24 _ _ rfl r (cellsE (⟨K, s1, 0⟩ : S24)) ?hx ?hy 24 (cellsE z24) ?hg ?hi ?ho ?h1 ?_); (case hg => exact HA12.out.res); (case ho => rfl); (case hx => (go_simp; done)); (case hy => first | rfl | (unfold cellsE; go_simp; done) | (go_simp; rfl)); (case hi => exact info24s _); (case h1 => exact cellsE_one _); intro w13 hr13 hB13 hs13; have HR13 := Lib.hid hr13; have HB13 := Lib.hid (hB13.below HA12.out.below HLO.out HA12.out.below.size); clear hr13 hB13 hs13))
      refine bodyPost_ret (results_ct rfl _ _ r 24 (cellsE (⟨K, s1, 0⟩ : S24)) (0, 0) _ rfl HR13.out Tryz.underlying24 rfl (info24s _)) rfl ?_
      exact ⟨_, HE.out.symm.trans HRE.out, rfl, HB13.out⟩
  · have hd : True := trivial
    have a1 : decide (1 < (n : Int)) = true := decide_eq_true (by omega)
    have b1 : decide (1 < n) = true := decide_eq_true (by omega)
    have a2 : decide (2 < (n : Int)) = true := decide_eq_true (by omega)
    have b2 : decide (2 < n) = true := decide_eq_true (by omega)
    obtain ⟨s1, hs1⟩ : ∃ s1, ws.getD 1 ByteArray.empty = s1 := ⟨_, rfl⟩
    have pc1 := HA.out.parts.cell 1 (by omega)
    rw [hs1] at pc1
    have HS1 := Lib.hid hs1
    clear hs1
    go_upto_region 8 with (fail)
    have HA := Lib.hid (HA.out.set1 s1)
    obtain ⟨w10, hw10⟩ : ∃ w10, w9.setCell ⟨x, 1, none⟩ (.string s1) = w10 := ⟨_, rfl⟩
    rw [hw10] at HA ⊢
    clear hw10 q0 q1 q2 q3 q4 pc1
    obtain ⟨q0, q1, q2, q3, q4⟩ := HA.out.cells
    obtain ⟨s2, hs2⟩ : ∃ s2, ws.getD 2 ByteArray.empty = s2 := ⟨_, rfl⟩
    have pc2 := HA.out.parts.cell 2 (by omega)
    rw [hs2] at pc2
    have HS2 := Lib.hid hs2
    have HZ2 := Lib.hid (show s2.size ≤ 281474976710656 by rw [← hs2]; exact part_size HWS.out HS.out 2)
    clear hs2
    go_upto_region 10 with (first
      | (go_at_call 68; (with_reducible refine (Atoi_any s2 HZ2.out w10 (hG.below HA.out.below)).mono ?_); rintro e w11 ⟨i, rfl, hB11⟩; have HA := Lib.hid (HA.out.keep hB11); obtain ⟨q0, q1, q2, q3, q4⟩ := HA.out.cells; clear hB11 pc2))
    have HA := Lib.hid (HA.out.set2 (atoiAny s2.data.toList))
    obtain ⟨w12, hw12⟩ : ∃ w12, w11.setCell ⟨x, 2, none⟩ (.int .i64 (atoiAny s2.data.toList)) = w12 := ⟨_, rfl⟩
    rw [hw12] at HA ⊢
    clear hw12 q0 q1 q2 q3 q4
    obtain ⟨q0, q1, q2, q3, q4⟩ := HA.out.cells
    obtain ⟨C, hC⟩ : ∃ C, atoiAny s2.data.toList = C := ⟨_, rfl⟩
    have HCC := Lib.hid hC
    rw [hC] at HA q3
    clear hC
    have HRE := Lib.hid (read_end (g := ⟨K, s1, C⟩) HN.out HWS.out HLEN.out HPOS.out (by rw [← HK.out]; rw [if_pos (by omega), if_pos (by omega), HS1.out, HS2.out, HCC.out]))
    clear hn
    obtain ⟨v, hv⟩ : ∃ v, textS (⟨K, s1, C⟩ : S24).f0 (⟨K, s1, C⟩ : S24).f1 (⟨K, s1, C⟩ : S24).f2 = v := ⟨_, rfl⟩
    have HV := Lib.hid hv
    clear hv
    have hc : (v.2 ≠ 0) ∨ (v.2 = 0 ∧ v.1 ≠ t) ∨ (v.2 = 0 ∧ v.1 = t) := by by_cases h1 : v.2 = 0 <;> by_cases h2 : v.1 = t <;> simp [h1, h2]
    rcases hc with h1 | ⟨h1, h2⟩ | ⟨h1, h2⟩
    · have e1 : (v.2 != 0) = true := bne_iff_ne.mpr h1
      have HE := Lib.hid (read_bad (t := t) HV.out (fun h => h1 h.1))
      clear h1
      go_wp2_with (first
        | (go_at_call 33; (with_reducible refine (Text_is (⟨K, s1, C⟩ : S24).f0 (⟨K, s1, C⟩ : S24).f1 (⟨K, s1, C⟩ : S24).f2 v HV.out w12 (hG.below HA.out.below)).mono ?_); rintro e w12 ⟨rfl, hB12⟩; have HA12 := Lib.hid (HA.out.keep hB12); obtain ⟨q0, q1, q2, q3, q4⟩ := HA12.out.cells; clear hB12)
        | ((with_reducible refine store_row_event rfl 24 _ _ rfl r (cellsE z24) ?hx ?hy 24 (cellsE z24) ?hg ?hi ?ho ?h1 ?_); (case hg => exact HA12.out.res); (case ho => rfl); (case hx => (go_simp; done)); (case hy => first | rfl | (unfold cellsE; go_simp; done) | (go_simp; rfl)); (case hi => exact info24s _); (case h1 => exact cellsE_one _); intro w13 hr13 hB13 hs13; have HR13 := Lib.hid hr13; have HB13 := Lib.hid (hB13.below HA12.out.below HLO.out HA12.out.below.size); clear hr13 hB13 hs13))
      refine bodyPost_ret (results_ct rfl _ _ r 24 (cellsE z24) (0, 0) _ rfl HR13.out Tryz.underlying24 rfl (info24s _)) rfl ?_
      exact ⟨_, HE.out.symm.trans HRE.out, rfl, HB13.out⟩
    · have e1 : (v.2 != 0) = false := bne_eq_false_iff_eq.mpr h1
      have e2 : (v.1.toList == t.toList) = false := by rw [beq_eq_false_iff_ne, toList_eq, toList_eq]; exact fun h => h2 (data_inj.1 h)
      have HE := Lib.hid (read_bad HV.out (fun h => h2 h.2))
      clear h1 h2
      go_wp2_with (first
        | (go_at_call 33; (with_reducible refine (Text_is (⟨K, s1, C⟩ : S24).f0 (⟨K, s1, C⟩ : S24).f1 (⟨K, s1, C⟩ : S24).f2 v HV.out w12 (hG.below HA.out.below)).mono ?_); rintro e w12 ⟨rfl, hB12⟩; have HA12 := Lib.hid (HA.out.keep hB12); obtain ⟨q0, q1, q2, q3, q4⟩ := HA12.out.cells; clear hB12)
        | ((with_reducible refine store_row_event rfl 24 _ _ rfl r (cellsE z24) ?hx ?hy 24 (cellsE z24) ?hg ?hi ?ho ?h1 ?_); (case hg => exact HA12.out.res); (case ho => rfl); (case hx => (go_simp; done)); (case hy => first | rfl | (unfold cellsE; go_simp; done) | (go_simp; rfl)); (case hi => exact info24s _); (case h1 => exact cellsE_one _); intro w13 hr13 hB13 hs13; have HR13 := Lib.hid hr13; have HB13 := Lib.hid (hB13.below HA12.out.below HLO.out HA12.out.below.size); clear hr13 hB13 hs13))
      refine bodyPost_ret (results_ct rfl _ _ r 24 (cellsE z24) (0, 0) _ rfl HR13.out Tryz.underlying24 rfl (info24s _)) rfl ?_
      exact ⟨_, HE.out.symm.trans HRE.out, rfl, HB13.out⟩
    · have e1 : (v.2 != 0) = false := bne_eq_false_iff_eq.mpr h1
      have e2 : (v.1.toList == t.toList) = true := by rw [h2]; simp
      have HE := Lib.hid (read_good HV.out h1 h2)
      clear h1 h2
      go_wp2_with (first
        | (go_at_call 33; (with_reducible refine (Text_is (⟨K, s1, C⟩ : S24).f0 (⟨K, s1, C⟩ : S24).f1 (⟨K, s1, C⟩ : S24).f2 v HV.out w12 (hG.below HA.out.below)).mono ?_); rintro e w12 ⟨rfl, hB12⟩; have HA12 := Lib.hid (HA.out.keep hB12); obtain ⟨q0, q1, q2, q3, q4⟩ := HA12.out.cells; clear hB12)
        | ((with_reducible refine store_row_event rfl 24 _ _ rfl r (cellsE (⟨K, s1, C⟩ : S24)) ?hx ?hy 24 (cellsE z24) ?hg ?hi ?ho ?h1 ?_); (case hg => exact HA12.out.res); (case ho => rfl); (case hx => (go_simp; done)); (case hy => first | rfl | (unfold cellsE; go_simp; done) | (go_simp; rfl)); (case hi => exact info24s _); (case h1 => exact cellsE_one _); intro w13 hr13 hB13 hs13; have HR13 := Lib.hid hr13; have HB13 := Lib.hid (hB13.below HA12.out.below HLO.out HA12.out.below.size); clear hr13 hB13 hs13))
      refine bodyPost_ret (results_ct rfl _ _ r 24 (cellsE (⟨K, s1, C⟩ : S24)) (0, 0) _ rfl HR13.out Tryz.underlying24 rfl (info24s _)) rfl ?_
      exact ⟨_, HE.out.symm.trans HRE.out, rfl, HB13.out⟩
theorem Read_calls (t : ByteArray) (w : World) (hG : GOOD w) (u : S24 × Int) (hu : readS t.data.toList = u) :
    Calls Tryz.prog 35 #[.string t] w fun e w' => e = .returned (.tuple #[.agg (cellsE u.1), .int .i64 u.2]) ∧ Below w.heap.size w w' := by
  by_cases h : 4096 < t.data.toList.length
  · rw [readS_long h] at hu
    subst hu
    exact Read_long t w h
  · refine (Read_short t w hG h).mono ?_
    rintro e w' ⟨v, hv, he, hB⟩
    rw [hu] at hv
    subst hv
    exact ⟨he, hB⟩
end Go.Proofs.YtdgipencedlbmaaGreatDoor.Pr
