/- The reference's Done at right registers and entries. -/
import Derived.Test.YtdgipencedlbmaaGreatDoorYD09
namespace Go.Proofs.YtdgipencedlbmaaGreatDoor.Pr
set_option linter.unusedVariables false
set_option linter.unusedSimpArgs false
open Go.RowKit Go.Proofs.YtdgipencedlbmaaGreatDoorW.PrintWords Go.Proofs.YtdgipencedlbmaaGreatDoorW.PrintLast Go.Proofs.YtdgipencedlbmaaGreatDoorW.PrintMore Go.Proofs.YtdgipencedlbmaaGreatDoor.Hand
theorem rchanged_is (k : Int) (h1 : 1 ≤ k) (h6 : k ≤ 6) (x : S57) (s : ByteArray) (n : Int) (u : S57 × Int) (hu : deedS k n x = u) (hs : SmallLot x) (hn : 0 ≤ n ∧ n ≤ 1048576) (w : World) :
    Calls Tryz.prog 83 #[.agg #[.string x.f0, .int .i64 x.f1, .int .i64 x.f2, .int .i64 x.f3, .int .i64 x.f4, .int .i64 x.f5, .int .i64 x.f6], .agg #[.int .i64 k, .string s, .int .i64 n]] w fun e w' => e = .returned (.tuple #[.agg #[.string u.1.f0, .int .i64 u.1.f1, .int .i64 u.1.f2, .int .i64 u.1.f3, .int .i64 u.1.f4, .int .i64 u.1.f5, .int .i64 u.1.f6], .int .i64 u.2]) ∧ Below w.heap.size w w' := by
  subst hu
  rcases (show k = 1 ∨ k = 2 ∨ k = 3 ∨ k = 4 ∨ k = 5 ∨ k = 6 by omega) with rfl | rfl | rfl | rfl | rfl | rfl
  · exact rchanged_1 x s n w hs hn
  · exact rchanged_2 x s n w hs hn
  · exact rchanged_3 x s n w hs hn
  · exact rchanged_4 x s n w hs hn
  · exact rchanged_5 x s n w hs hn
  · exact rchanged_6 x s n w hs hn
theorem cellsS_one' (x : S57) : ∀ q ∈ (cellsS x).toList, q.oneCell' = true := by simp [cellsS, Value.oneCell']
theorem rdone_M {W : World} {base : Nat} {x : S57} {c : List Value} (h : c.length = 7) : k57.M W base (fun _ => False) x (c.take 0 ++ (cellsS x).toList ++ c.drop (0 + (cellsS x).toList.length)) := by
  have e : c.take 0 ++ (cellsS x).toList ++ c.drop (0 + (cellsS x).toList.length) = (cellsS x).toList := by
    rw [List.take_zero, List.nil_append, List.drop_eq_nil_of_le (by rw [h]; exact Nat.le_refl 7), List.append_nil]
  rw [e]
  exact k57_mkM _ _ _ x
theorem rdone_callA {w w2 W w4 : World} {b : Nat} {o : Obj} (hE : w2.heap[b]? = some o) (hB : Below w.heap.size w w2) (h4 : Below W.heap.size W w4) (hW : ∃ n, W = w2.drewN n) :
    w4.heap[b]? = some o ∧ Below w.heap.size w w4 := by
  obtain ⟨n, rfl⟩ := hW
  exact ⟨blk_below (w := w2.drewN n) hE h4, hB.trans ((show Below w2.heap.size w2 w4 from ⟨h4.os, h4.tape, h4.output, h4.size, h4.block⟩).mono hB.size)⟩
theorem rdone_callB {w w2 W w4 : World} {b : Nat} {o : Obj} (hE : w2.heap[b]? = some o) (hB : Below w.heap.size w w2) (h4 : Below W.heap.size W w4) (hW : ∃ n, W = (w2.alloc (.cells (cellsS z57) 84 (0, 0))).drewN n) :
    w4.heap[b]? = some o ∧ Below w.heap.size w w4 ∧ w4.heap[w2.heap.size]? = some (.cells (cellsS z57) 84 (0, 0)) := by
  obtain ⟨n, rfl⟩ := hW
  have h4' : Below (w2.alloc (.cells (cellsS z57) 84 (0, 0))).heap.size (w2.alloc (.cells (cellsS z57) 84 (0, 0))) w4 := ⟨h4.os, h4.tape, h4.output, h4.size, h4.block⟩
  exact ⟨blk_below (blk_alloc hE _) h4', (below_alloc hB _).trans (h4'.mono (below_alloc hB _).size), blk_below (heap_alloc_new w2 _) h4'⟩
theorem gateA {P : Program} {f : Nat} {ar : Array Value} {w2 W : World} {Q : Ending → World → Prop} (h : ∃ n, W = w2.drewN n) (k : (∃ n, W = w2.drewN n) → Calls P f ar W Q) : Calls P f ar W Q := k h
theorem gateB {P : Program} {f : Nat} {ar : Array Value} {w2 W : World} {Q : Ending → World → Prop} (h : ∃ n, W = (w2.alloc (.cells (cellsS z57) 84 (0, 0))).drewN n) (k : (∃ n, W = (w2.alloc (.cells (cellsS z57) 84 (0, 0))).drewN n) → Calls P f ar W Q) : Calls P f ar W Q := k h
theorem put7 {W : World} {r : Nat} (y : S57) (h : W.heap[r]? = some (.cells (cellsS z57) 84 (0, 0))) :
    (((((((W.setCell ⟨r, 0, none⟩ (.string y.f0)).setCell ⟨r, 1, none⟩ (.int .i64 y.f1)).setCell ⟨r, 2, none⟩ (.int .i64 y.f2)).setCell ⟨r, 3, none⟩ (.int .i64 y.f3)).setCell ⟨r, 4, none⟩ (.int .i64 y.f4)).setCell ⟨r, 5, none⟩ (.int .i64 y.f5)).setCell ⟨r, 6, none⟩ (.int .i64 y.f6)).heap[r]? = some (.cells (cellsS y) 84 (0, 0)) ∧
    But r W (((((((W.setCell ⟨r, 0, none⟩ (.string y.f0)).setCell ⟨r, 1, none⟩ (.int .i64 y.f1)).setCell ⟨r, 2, none⟩ (.int .i64 y.f2)).setCell ⟨r, 3, none⟩ (.int .i64 y.f3)).setCell ⟨r, 4, none⟩ (.int .i64 y.f4)).setCell ⟨r, 5, none⟩ (.int .i64 y.f5)).setCell ⟨r, 6, none⟩ (.int .i64 y.f6)) :=
  ⟨blk_put (blk_put (blk_put (blk_put (blk_put (blk_put (blk_put h 0 _ rfl) 1 _ rfl) 2 _ rfl) 3 _ rfl) 4 _ rfl) 5 _ rfl) 6 _ rfl,
    ((((((but_setCell _ _ _ _).trans (but_setCell _ _ _ _)).trans (but_setCell _ _ _ _)).trans (but_setCell _ _ _ _)).trans (but_setCell _ _ _ _)).trans (but_setCell _ _ _ _)).trans (but_setCell _ _ _ _)⟩
section
variable {ops : Array Oper} {rest : List Oper} {o : Oper} {a : Act} {Q : Exit → Act → World → Prop}
theorem rdone_store {w0 W : World} {g cap p : Nat} {l : List S57} {y : S57} {ok : Nat → Prop} (px x : Operand) (hN : o.dst = none) (hgd : o.guard = none) (ho : o.op = .store 84 px x)
    (HO : Kd.R k57 84 W w0.heap.size ok (.slice (some ⟨g, 0, none⟩) l.length cap) l) (hp : p < l.length) (hx : a.eval px = .pointer (some ⟨g, p * 7, none⟩)) (hy : a.eval x = .agg (cellsS y)) (HB : Below w0.heap.size w0 W)
    (h : ∀ w1, Kd.R k57 84 w1 w0.heap.size ok (.slice (some ⟨g, 0, none⟩) l.length cap) (l.set p y) → Below w0.heap.size w0 w1 → wpList Tryz.prog ops Q rest a w1) : wpList Tryz.prog ops Q (o :: rest) a W := by
  obtain ⟨cc, hc1, hc2, hc3, _⟩ := Kd.R_elem HO z57 (p : Int) (by omega) (by omega)
  refine Kd.R_store k57 (w0 := w0) (o' := p * 7) w0.heap.size hN hgd 84 px x ho 84 (p : Int) 0 l y (.agg (cellsS y)) (cellsS y).toList cc ok (fun _ => False) hx ?so hy rfl ?st (cellsS_one' y) HO (by omega) (by omega) hc1 hc3 ?sj ?sm (fun _ h => h.elim) HB ?_
  case so => show p * 7 = (p : Int).toNat * 7 + 0; rw [Int.toNat_natCast]; rfl
  case st => exact info84s y
  case sj => exact Nat.le_refl _
  case sm => exact rdone_M hc1
  intro w8 ho8 hb8 _
  exact h w8 ho8 hb8
end
section
variable {P : Program} {ops : Array Oper} {o : Oper} {a : Act} {Q : Exit → Act → World → Prop} {Kc : Act → World → Prop}
end
set_option maxHeartbeats 8000000 in
set_option maxRecDepth 100000 in
theorem rdone_has (A0 : Option Addr) (c0 : Nat) (l0 : List S57) (kk : Int) (s : ByteArray) (n : Int) (w : World) (hr0 : Kd.C k57 w A0 l0.length l0) (hc0 : l0.length ≤ c0) (hm : l0.length ≤ 256) (hs : sortedS l0 = true)
    (hsm : ∀ x ∈ l0, SmallLot x) (hn : 0 ≤ n ∧ n ≤ 1048576) (h1 : 1 ≤ kk) (h6 : kk ≤ 6) (hh : hasS l0 s = true) :
    Calls Tryz.prog 50 #[.slice A0 l0.length c0, .agg #[.int .i64 kk, .string s, .int .i64 n]] w fun e w' => ∃ v, e = .returned (.tuple #[v, .int .i64 (doneS l0 kk s n).2]) ∧ Kd.R k57 84 w' w.heap.size (fun _ => True) v (doneS l0 kk s n).1 ∧ Below w.heap.size w w' := by
  obtain ⟨p, hp⟩ : ∃ p, lbS l0 s = p := ⟨_, rfl⟩
  have HPL := Lib.hid (lt_of_has hh hp)
  obtain ⟨x, hx⟩ : ∃ x, x = l0.getD p z57 := ⟨_, rfl⟩
  have HSM := Lib.hid (hsm x (by rw [hx, List.getD, List.getElem?_eq_getElem HPL.out]; exact List.getElem_mem _))
  obtain ⟨u, hu⟩ : ∃ u, deedS kk n x = u := ⟨_, rfl⟩
  obtain ⟨dd, hdd⟩ : ∃ dd, doneS l0 kk s n = dd := ⟨_, rfl⟩
  rw [hdd]
  have HD := Lib.hid hdd
  have HR := Lib.hid hr0
  have HC := Lib.hid hc0
  have HM := Lib.hid hm
  have HS := Lib.hid hs
  have HN := Lib.hid hn
  have HK1 := Lib.hid h1
  have HK6 := Lib.hid h6
  have HH := Lib.hid hh
  have HX := Lib.hid hx
  have HU := Lib.hid hu
  have HQ := Lib.hid hp
  have HP := Lib.hid (show (if hasS l0 s = true then ((lbS l0 s : Nat) : Int) else -1) = (p : Int) by rw [hh, if_pos rfl, hp])
  have e1 : (kk == 0) = false := by rw [beq_eq_false_iff_ne]; omega
  have hlt := HPL.out
  clear hr0 hc0 hs hn h1 h6 hh hx hu hp hsm hdd
  go_enter Tryz.func50, Tryz.ntmps50
  go_wp2_with (first
    | ((with_reducible refine box_abs rfl 34 _ rfl #[.int .i64 kk, .string s, .int .i64 n] ?hx ?_); (case hx => rfl); intro b hb w1 hb1 hB1 hs1; have HE := Lib.hid hb1; obtain ⟨k0, k1, k2⟩ := entry34 hb1; have HBW := Lib.hid (show w.heap.size ≤ b by rw [hb]; exact Nat.le_refl _); have HB := Lib.hid hB1; clear hb hb1 hB1 hs1)
    | (go_at_call 57; refine (rPlace_calls _ _ l0 s (p : Int) _ (Kd.C_below HR.out HB.out) HC.out HM.out HS.out HP.out).mono ?_; rintro e w2 ⟨rfl, hB2⟩; have HE := Lib.hid (below_keeps hB2 (blk_lt HE.out) HE.out); have HB := Lib.hid (below_then HB.out hB2); clear hB2; obtain ⟨k0, k1, k2⟩ := entry34 HE.out))
  obtain ⟨adX, hadX, hlX, hqlt⟩ := LotA.of_row HR.out HB.out p HPL.out; cases hadX; rw [← HX.out] at hlX; obtain ⟨q0, q1, q2, q3, q4, q5, q6⟩ := hlX
  have hbl := blk_lt HE.out
  have HBs := Lib.hid HB.out.size
  have hbn : b ≠ w2.heap.size := Nat.ne_of_lt hbl
  have hql : (adX.add (p * 7)).block < w2.heap.size := Nat.lt_of_lt_of_le hqlt HB.out.size
  have hqn : (adX.add (p * 7)).block ≠ w2.heap.size := Nat.ne_of_lt hql
  go_region_with (first
    | (go_at_call 83; refine gateA (w2 := w2) ?g ?_; (case g => first | exact ⟨_, rfl⟩ | exact ⟨1, rfl⟩ | exact ⟨0, rfl⟩); intro hW; refine (rchanged_is kk HK1.out HK6.out x s n u HU.out HSM.out HN.out _).mono ?_; rintro e w4 ⟨rfl, hB4⟩; obtain ⟨hE4, hB4'⟩ := rdone_callA HE.out HB.out hB4 hW; have HE := Lib.hid hE4; have HB := Lib.hid hB4'; clear hB4 hE4 hB4' hW; obtain ⟨k0, k1, k2⟩ := entry34 HE.out; obtain ⟨adX, hadX, hlX, _⟩ := LotA.of_row HR.out HB.out p HPL.out; cases hadX; rw [← HX.out] at hlX; obtain ⟨q0, q1, q2, q3, q4, q5, q6⟩ := hlX)
    | (go_at_call 83; refine gateB (w2 := w2) ?g ?_; (case g => first | exact ⟨_, rfl⟩ | exact ⟨1, rfl⟩ | exact ⟨0, rfl⟩); intro hW; refine (rchanged_is kk HK1.out HK6.out x s n u HU.out HSM.out HN.out _).mono ?_; rintro e w4 ⟨rfl, hB4⟩; obtain ⟨hE4, hB4', hR4⟩ := rdone_callB HE.out HB.out hB4 hW; have HE := Lib.hid hE4; have HB := Lib.hid hB4'; clear hB4 hE4 hB4' hW; obtain ⟨k0, k1, k2⟩ := entry34 HE.out; obtain ⟨adX, hadX, hlX, _⟩ := LotA.of_row HR.out HB.out p HPL.out; cases hadX; rw [← HX.out] at hlX; obtain ⟨q0, q1, q2, q3, q4, q5, q6⟩ := hlX; have HR4 := Lib.hid hR4; obtain ⟨z0, z1, z2, z3, z4, z5, z6⟩ := LotAt.of_block hR4; have fz0 := frozen_of_row w4 w2.heap.size 0 _ 84 hR4; have fz1 := frozen_of_row w4 w2.heap.size 1 _ 84 hR4; have fz2 := frozen_of_row w4 w2.heap.size 2 _ 84 hR4; have fz3 := frozen_of_row w4 w2.heap.size 3 _ 84 hR4; have fz4 := frozen_of_row w4 w2.heap.size 4 _ 84 hR4; have fz5 := frozen_of_row w4 w2.heap.size 5 _ 84 hR4; have fz6 := frozen_of_row w4 w2.heap.size 6 _ 84 hR4; clear hR4))
  all_goals
    first
      | (have hput := put7 u.1 HR4.out
         generalize hw5 : World.setCell _ _ _ = w5
         rw [hw5] at hput
         have HE5 := Lib.hid (hput.2.keeps hbn HE.out)
         have HB5 := Lib.hid (changed_end hput.2 HB.out HBs.out)
         have HR5 := Lib.hid hput.1
         have HW5 := Lib.hid HBs.out
         obtain ⟨r, hr⟩ : ∃ r, r = w2.heap.size := ⟨_, rfl⟩
         rw [← hr] at HR5 HW5
         rw [← hr]
         clear hr)
      | (have HE5' := HE.out
         have HB5' := HB.out
         have HW5 := Lib.hid HB.out.size
         generalize hw5 : World.alloc _ _ = w5
         have HE5 := Lib.hid (hw5 ▸ blk_alloc HE5' _)
         have HB5 := Lib.hid (hw5 ▸ below_alloc HB5' _)
         have HR5 := Lib.hid (hw5 ▸ heap_alloc_new w4 _)
         obtain ⟨r, hr⟩ : ∃ r, r = w4.heap.size := ⟨_, rfl⟩
         rw [← hr] at HR5 HW5
         rw [← hr]
         clear hr)
    clear hw5
    have HE := HE5
    have HB := HB5
    have HRr : Hid (w5.heap[r]? = some (.cells (cellsS u.1) 84 (0, 0))) := HR5
    by_cases hv0 : u.2 = 0
    · have d1 : (u.2 != 0) = false := bne_eq_false_iff_eq.mpr hv0
      have HV0 := Lib.hid (show dd = (l0.set p u.1, 0) by rw [← HD.out, ← HU.out]; exact doneS_ok (by have := HK1.out; omega) HH.out HQ.out HX.out (by rw [HU.out]) hv0)
      clear hv0
      go_wp2_with (first
        | ((with_reducible refine gate_dst (N := 36) rfl ?_); refine Kd.R_lit k57 _ 84 ?hg (N := 36) ?hd (xs := ([] : List (S57))) (inner := []) (ok := fun _ => True) (okp := fun _ => True) ?hr ?hp (fun _ hk => hk) trivial (Below.refl _ _) (Nat.le_refl _) (by simp) ?_; (case hd => rfl); (case hg => rfl); (case hr => first | (go_simp; done) | (go_simp; rfl)); (case hp => exact (Reps.none _ _)); intro v6 w6 ho6 hb6 hg_ hnew_; clear hg_ hnew_; have HO := Lib.hid (Kd.R_lower (Kd.R_newB ho6 HRr.out) HB.out.size); have HE := Lib.hid (below_keeps hb6 (blk_lt HE.out) HE.out); have HRr := Lib.hid (below_keeps hb6 (blk_lt HRr.out) HRr.out); have HB := Lib.hid (below_then HB.out hb6); clear ho6 hb6)
        | ((with_reducible refine gate_builtin (b := .append) (xs := #[.tmp 36, .tmp 37]) rfl ?_); at_builtin; refine Kd.R_append_rows k57 (w0 := w) w.heap.size rfl (.tmp 36) (.tmp 37) 26 84 (.agg #[(.string ⟨#[]⟩), (.int .i64 0), (.int .i64 0), (.int .i64 0), (.int .i64 0), (.int .i64 0), (.int .i64 0)]) 64 rfl Tryz.underlying26 info84 rfl (by decide) (by omega) v6 ([] : List S57) l0 _ _ _ (fun k_ => True ∧ k_ ≠ r) (fun _ => False) rfl rfl HO.out (Kd.C_below HR.out HB.out) (fun _ _ h => h) (fun _ h => h.elim) (fun k_ hk => ⟨trivial, Kd.freshB HRr.out k_ hk⟩) HB.out HB.out.size ?aL ?_; (case aL => have := HM.out; simp; omega); intro v7 w7 ho hb hg hat; rw [List.nil_append] at ho; have HE := Lib.hid (blk_grown HE.out hg (Kd.R_ne HO.out HE.out (by decide))); have HRr := Lib.hid (blk_grown HRr.out hg (Kd.R_away HO.out (fun _ hk => hk.2))); have HB := Lib.hid hb; have HO := Lib.hid ho; obtain ⟨g, cap, rfl, hbg, _, _⟩ := Kd.R_form ho (Nat.lt_of_le_of_lt (Nat.zero_le _) HPL.out); obtain ⟨r0, r1, r2, r3, r4, r5, r6⟩ := LotAt.of_block HRr.out; clear ho hb hg hat hbg)
        | ((with_reducible refine gate_ (.store 84 (.tmp 42) (.tmp 41)) rfl ?_); refine rdone_store (w0 := w) (y := u.1) (.tmp 42) (.tmp 41) rfl rfl rfl HO.out HPL.out ?sa ?sx HB.out ?_; (case sa => first | rfl | (go_simp; done)); (case sx => first | rfl | (unfold cellsS; go_simp; done)); intro w8 ho8 hb8; have HO := Lib.hid ho8; have HB := Lib.hid hb8; clear ho8 hb8))
      go_ret2
      exact ⟨_, by rw [HV0.out]; rfl, by rw [HV0.out]; exact Kd.R_mono HO.out (fun _ _ => trivial), HB.out⟩
    · have d1 : (u.2 != 0) = true := bne_iff_ne.mpr hv0
      have HV0 := Lib.hid (show dd = ([], u.2) by rw [← HD.out]; exact doneS_err (by have := HK1.out; omega) HH.out HQ.out HX.out (by rw [HU.out]) hv0)
      clear hv0
      go_wp2
      go_ret2
      exact ⟨_, by rw [HV0.out]; rfl, by rw [HV0.out]; exact Kd.R_nil _ _ _ _ _, HB.out⟩
end Go.Proofs.YtdgipencedlbmaaGreatDoor.Pr
