/- The reference's Split and number. The reference's Read answers as readS says. -/
import Derived.Test.YtdgipencedlbmaaGreatDoorYJ24
import Derived.RegionTactic
import Derived.ChangeAlike
import Derived.Test.YtdgipencedlbmaaGreatDoorYD15
import Derived.Test.YtdgipencedlbmaaGreatDoorYJ23
namespace Go.Proofs.YtdgipencedlbmaaGreatDoor.Pr
set_option linter.unusedVariables false
set_option linter.unusedSimpArgs false
open Go.RowKit Go.Proofs.YtdgipencedlbmaaGreatDoorW.PrintWords Go.Proofs.YtdgipencedlbmaaGreatDoorW.PrintLast Go.Proofs.YtdgipencedlbmaaGreatDoorW.PrintMore Go.Proofs.YtdgipencedlbmaaGreatDoor.Hand
def addS (ws : List ByteArray) (b : UInt8) : List ByteArray := if b = 32 then ws ++ [⟨#[]⟩] else ws.set (ws.length - 1) (ws.getD (ws.length - 1) ByteArray.empty ++ ⟨#[b]⟩)
theorem splitS_snoc (l : List UInt8) (x : UInt8) : splitS (l ++ [x]) = if x = 32 then splitS l ++ [[]] else (splitS l).set ((splitS l).length - 1) ((splitS l).getD ((splitS l).length - 1) [] ++ [x]) := by
  induction l with
  | nil =>
    by_cases h : x = 32
    · subst h; rfl
    · show splitS [x] = _
      unfold splitS
      rw [if_neg h, if_neg h]; rfl
  | cons y l ih =>
    have hne := splitS_ne l
    by_cases hy : y = 32
    · subst hy
      have e : splitS (32 :: l) = [] :: splitS l := by conv => lhs; unfold splitS
                                                       rw [if_pos rfl]
      show splitS (32 :: (l ++ [x])) = _
      have e2 : splitS (32 :: (l ++ [x])) = [] :: splitS (l ++ [x]) := by conv => lhs; unfold splitS
                                                                          rw [if_pos rfl]
      rw [e2, e, ih]
      by_cases h : x = 32
      · rw [if_pos h, if_pos h]; rfl
      · rw [if_neg h, if_neg h]
        cases hs : splitS l with
        | nil => exact absurd hs hne
        | cons p r => simp
    · cases hs : splitS l with
      | nil => exact absurd hs hne
      | cons p r =>
        have e : splitS (y :: l) = (y :: p) :: r := by conv => lhs; unfold splitS
                                                       rw [if_neg hy, hs]
        have e2 : splitS (y :: (l ++ [x])) = match splitS (l ++ [x]) with | [] => [[y]] | p :: r => (y :: p) :: r := by
          conv => lhs; unfold splitS
          rw [if_neg hy]
          cases splitS (l ++ [x]) <;> rfl
        show splitS (y :: (l ++ [x])) = _
        rw [e2, e, ih, hs]
        by_cases h : x = 32
        · rw [if_pos h, if_pos h]; rfl
        · rw [if_neg h, if_neg h]
          cases r with
          | nil => simp
          | cons q r => simp
theorem addS_map (ws : List ByteArray) (b : UInt8) (h : 0 < ws.length) : (addS ws b).map (·.data.toList) = if b = 32 then ws.map (·.data.toList) ++ [[]] else (ws.map (·.data.toList)).set (ws.length - 1) ((ws.map (·.data.toList)).getD (ws.length - 1) [] ++ [b]) := by
  unfold addS
  by_cases hb : b = 32
  · rw [if_pos hb, if_pos hb, List.map_append]; rfl
  · rw [if_neg hb, if_neg hb, List.map_set]
    congr 1
    rw [List.getD, List.getD, List.getElem?_map, List.getElem?_eq_getElem (by omega)]
    show ((ws[ws.length - 1]'_) ++ _).data.toList = _
    rw [ByteArray.data_append]; simp
theorem last_cell {W : World} {base : Nat} {v : Value} {ws : List ByteArray} (h : Kd.R Kd.string 9 W base (fun _ => True) v ws) (hp : 0 < ws.length) :
    ∃ g c, v = .slice (some ⟨g, 0, none⟩) ws.length c ∧ W.cell? ⟨g, ws.length - 1, none⟩ = some (.string (ws.getD (ws.length - 1) ByteArray.empty)) ∧ W.frozen? ⟨g, ws.length - 1, none⟩ = false ∧ base ≤ g ∧
      ∀ x, Kd.R Kd.string 9 (W.setCell ⟨g, ws.length - 1, none⟩ (.string x)) base (fun _ => True) (.slice (some ⟨g, 0, none⟩) ws.length c) (ws.set (ws.length - 1) x) := by
  obtain ⟨g, c, hv, hb, hl, cells, hc⟩ := Kd.R_form h hp
  subst hv
  obtain ⟨_, _, hC⟩ := Kd.R_reads' h
  obtain ⟨ad, cc, e2, hll, hK, hcell⟩ := Kd.C_get hC ByteArray.empty ((ws.length - 1 : Nat) : Int) (by omega) (by omega)
  cases e2
  have : cc = [.string (ws.getD (ws.length - 1) ByteArray.empty)] := hK
  subst this
  have hq := hcell 0 _ rfl
  have e3 : (ws.length - 1) * Kd.string.sz + 0 = ws.length - 1 := Nat.mul_one _
  rw [Int.toNat_natCast, e3] at hq
  have e4 : (⟨g, 0, none⟩ : Addr).add (ws.length - 1) = ⟨g, ws.length - 1, none⟩ := by simp [Addr.add] <;> omega
  rw [e4] at hq
  refine ⟨g, c, rfl, hq, frozen_of_row W g _ _ 9 hc, hb, fun x => ?_⟩
  have := (Kd.R_putg h ((ws.length - 1 : Nat) : Int) x).1
  rwa [Int.toNat_natCast] at this
theorem byte_ext {b : UInt8} {n : Nat} (h : b.toNat = n) (hn : n < 256) : b = UInt8.ofNat n := by
  apply UInt8.toNat_inj.1
  rw [h, UInt8.toNat_ofNat']; omega
set_option maxHeartbeats 2000000 in
set_option maxRecDepth 100000 in
theorem rsplit_calls (s : ByteArray) (hs : s.size ≤ 4096) (w : World) :
    Calls Tryz.prog 69 #[.string s] w fun e w' => ∃ v ws, e = .returned v ∧ Kd.R Kd.string 9 w' w.heap.size (fun _ => True) v ws ∧ ws.map (·.data.toList) = splitS s.data.toList ∧ Below w.heap.size w w' := by
  have HS := Lib.hid hs
  go_enter Tryz.func69, Tryz.ntmps69
  go_wp2_with (first
    | ((with_reducible refine gate_dst (N := 5) rfl ?_); refine Kd.R_lit Kd.string _ 9 ?hg (N := 5) ?hd (xs := ([⟨#[]⟩] : List ByteArray)) (inner := [.string ⟨#[]⟩]) (ok := fun _ => True) (okp := fun _ => True) ?hr ?hp (fun _ hk => hk) trivial (Below.refl _ _) (Nat.le_refl _) (by simp) ?_; (case hd => rfl); (case hg => rfl); (case hr => first | (go_simp; done) | (go_simp; rfl)); (case hp => exact (Reps.one (show Kd.M Kd.string _ _ _ (⟨#[]⟩ : ByteArray) [.string ⟨#[]⟩] from rfl) (Reps.none _ _))); intro v1 w1 ho1 hb1 hg_ hnew_; clear hg_ hnew_; have HO1 := Lib.hid ho1; have HB1 := Lib.hid hb1; clear ho1 hb1))
  go_loopw [3, 4] (fun v i wr => ∃ (k : Nat) (ws : List ByteArray), k ≤ s.size ∧ i = .int .i64 k ∧ Hid (Kd.R Kd.string 9 wr w.heap.size (fun _ => True) v ws) ∧ Hid (ws.map (·.data.toList) = splitS (s.data.toList.take k)) ∧ Hid (ws.length ≤ k + 1 ∧ ∀ x ∈ ws, x.size ≤ k) ∧ Hid (Below w.heap.size w wr)) (fun _ i _ => s.size - (intOf i).toNat)
  case atStart => exact ⟨0, [⟨#[]⟩], by omega, rfl, HO1.out, rfl, ⟨by simp, fun x hx => by simp at hx; subst hx; exact Nat.le_refl _⟩, HB1.out⟩
  case round =>
    obtain ⟨k, ws, hk, rfl, HO, HW, HZ, HB⟩ := hrel
    have hpos : 0 < ws.length := by
      have : (ws.map (·.data.toList)).length ≠ 0 := by rw [HW.out]; exact fun h => splitS_ne _ (List.length_eq_zero_iff.1 h)
      simpa using Nat.pos_of_ne_zero this
    obtain ⟨g, c, rfl, hq, hf, hgb, hput⟩ := last_cell HO.out hpos
    have HPUT := Lib.hid hput
    have HGB := Lib.hid hgb
    clear hput hgb
    by_cases hlt : k < s.size
    · have HLT := Lib.hid hlt
      have hst : (s.data.toList.take (k + 1)) = s.data.toList.take k ++ [s[k]] := by
        rw [List.take_succ_eq_append_getElem (by simpa using hlt)]
        simp [ByteArray.getElem_eq_getElem_data]
        try rfl
      have HN := Lib.hid (show (addS ws s[k]).map (·.data.toList) = splitS (s.data.toList.take (k + 1)) by rw [hst, splitS_snoc, addS_map ws _ hpos, HW.out, ← HW.out, List.length_map])
      clear hst
      by_cases h32 : s[k].toNat = 32
      · have hb32 : s[k] = 32 := byte_ext h32 (by decide)
        have ea : addS ws s[k] = ws ++ [(⟨#[]⟩ : ByteArray)] := by unfold addS; rw [if_pos hb32]
        rw [ea] at HN
        have c1 : ((s[k].toNat : Int) == 32) = true := by rw [h32]; rfl
        clear h32 hb32 ea hq hf
        go_wp2_with (first
          | ((with_reducible refine gate_builtin (b := .append) (xs := #[.tmp 16, .tmp 17]) rfl ?_); at_builtin; refine Kd.R_append Kd.string (w0 := w) w.heap.size rfl (.tmp 16) (.tmp 17) 112 9 (.string ⟨#[]⟩) 16 rfl Tryz.underlying112 info9 rfl (by decide) (by omega) (.slice (some ⟨g, 0, none⟩) ws.length c) ws (⟨#[]⟩ : ByteArray) [.string ⟨#[]⟩] (fun _ => True) (fun _ => False) rfl (by first | (go_simp; done) | (go_simp; rfl)) ?aP (fun _ hk => hk.elim) ?aF ?aO ?aB ?aS ?aL ?_; (case aP => exact rfl); (case aF => exact (fun _ _ => trivial)); (case aO => exact HO.out); (case aB => exact HB.out); (case aS => exact HB.out.size); (case aL => have := HZ.out.1; have := HLT.out; have := HS.out; omega); intro v5 w5 ho hb hg hat; have HO5 := Lib.hid ho; have HB5 := Lib.hid hb; clear ho hb hg hat))
        go_roundw
        case rel => exact ⟨k + 1, ws ++ [(⟨#[]⟩ : ByteArray)], HLT.out, by go_num, HO5.out, HN.out, ⟨by have := HZ.out.1; simp; omega, fun x hx => by
          rcases List.mem_append.1 hx with hx | hx
          · have := HZ.out.2 x hx; omega
          · simp at hx; subst hx; show 0 ≤ _; omega⟩, HB5.out⟩
        case measure => have := HLT.out; simp [intOf]; omega
      · have hb32 : ¬ s[k] = 32 := fun e => h32 (by rw [e]; rfl)
        have ea : addS ws s[k] = ws.set (ws.length - 1) (ws.getD (ws.length - 1) ByteArray.empty ++ ⟨#[s[k]]⟩) := by unfold addS; rw [if_neg hb32]
        rw [ea] at HN
        have c1 : ((s[k].toNat : Int) == 32) = false := by rw [beq_eq_false_iff_ne]; omega
        obtain ⟨j, hj⟩ : ∃ j, ws.length - 1 = j := ⟨_, rfl⟩
        obtain ⟨last, hlast⟩ : ∃ last, ws.getD j ByteArray.empty = last := ⟨_, rfl⟩
        have hls : last.size ≤ k := by
          rw [← hlast]
          exact HZ.out.2 _ (by rw [List.getD, List.getElem?_eq_getElem (by omega)]; exact List.getElem_mem _)
        have hex : s.extract k (k + 1) = ⟨#[s[k]]⟩ := by
          apply data_inj.1
          rw [Lib.extract_data, show k + 1 - k = 1 by omega, List.drop_eq_getElem_cons (by simpa using hlt)]
          simp [ByteArray.getElem_eq_getElem_data]
          try rfl
        rw [hj] at hq hf HN HPUT
        rw [hlast] at hq HN
        obtain ⟨piece, hpiece, hps⟩ : ∃ piece : ByteArray, (⟨#[s[k]]⟩ : ByteArray) = piece ∧ piece.size = 1 := ⟨_, rfl, rfl⟩
        rw [hpiece] at hex HN
        have HX := Lib.hid hex
        have HPS := Lib.hid hps
        clear hpiece hps
        have HJ := Lib.hid hj
        have HLS := Lib.hid hls
        have w1' : IntKind.i64.wrap ((ws.length : Int) - 1) = (j : Int) := by rw [IntKind.wrap_i64]; have := HZ.out.1; omega
        have w3' : IntKind.i64.wrap (j : Int) = (j : Int) := by rw [IntKind.wrap_i64]; have := HZ.out.1; omega
        have w4' : wrap64 (j : Int) = (j : Int) := by unfold wrap64; have := HZ.out.1; omega
        have w2' : IntKind.i64.wrap ((k : Int) + 1) = (k : Int) + 1 := by rw [IntKind.wrap_i64]; omega
        have g1 : ¬ 9223372036854775807 < last.size + (k + 1 - k) := by omega
        have g2 : ¬ 9223372036854775807 < last.size + 1 := by omega
        have hjl : j < ws.length := by omega
        have e1 : (ws.length : Int) - 1 = (j : Int) := by omega
        clear h32 hb32 ea hex hj hlast hls
        go_wp2
        go_region
        all_goals
          go_wp2
          go_roundw
          case measure => have := HLT.out; simp [intOf]; omega
          case rel => exact ⟨k + 1, ws.set j (last ++ piece), HLT.out, by go_num, by
            show Kd.R _ _ _ _ _ _ _
            rw [HX.out]; exact Kd.R_drew (HPUT.out _), HN.out, ⟨by have := HZ.out.1; rw [List.length_set]; omega, fun x hx => by
            rcases List.mem_or_eq_of_mem_set hx with hx | rfl
            · have := HZ.out.2 x hx; omega
            · have := HLS.out
              rw [ByteArray.size_append, HPS.out]; omega⟩, below_drew (below_set HB.out HGB.out)⟩
    · have hke : k = s.size := by omega
      have HK := Lib.hid hke
      clear hke
      go_wp2
      go_ret
      exact ⟨_, ws, rfl, HO.out, by rw [HW.out, List.take_of_length_le (by rw [HK.out]; simp)], HB.out⟩
def spellD7 (l : List UInt8) : Int := l.foldl (fun n c => 10 * n + ((c.toNat : Int) - 48)) 0
theorem spell7_snoc (l : List UInt8) (c : UInt8) : spellD7 (l ++ [c]) = 10 * spellD7 l + ((c.toNat : Int) - 48) := by
  unfold spellD7; rw [List.foldl_append]; rfl
theorem spell7_dec (u : Nat) : spellD7 (Lib.decDigits u) = u := by
  induction u using Nat.strongRecOn with
  | _ u ih =>
    rw [Lib.decDigits]
    split
    · rename_i h
      show 10 * 0 + (((UInt8.ofNat (48 + u)).toNat : Int) - 48) = u
      rw [u8_digit h]; omega
    · rename_i h
      rw [spell7_snoc, ih (u / 10) (by omega), u8_digit (by omega)]
      omega
theorem spell7_from (l : List UInt8) (h : ∀ c ∈ l, 48 ≤ c.toNat ∧ c.toNat ≤ 57) : ∀ (a : Nat) (d : Nat), a < 10 ^ d → ∃ v : Nat, l.foldl (fun (n : Int) c => 10 * n + ((c.toNat : Int) - 48)) a = v ∧ v < 10 ^ (d + l.length) := by
  induction l with
  | nil => intro a d ha; exact ⟨a, rfl, ha⟩
  | cons c l ih =>
    intro a d ha
    have hc := h c (by simp)
    obtain ⟨v, h1, h2⟩ := ih (fun x hx => h x (by simp [hx])) (10 * a + (c.toNat - 48)) (d + 1) (by rw [Nat.pow_succ]; omega)
    refine ⟨v, ?_, by rw [List.length_cons, show d + (l.length + 1) = d + 1 + l.length by omega]; exact h2⟩
    rw [List.foldl_cons, ← h1]
    congr 1
    omega
theorem spell7_range (l : List UInt8) (h : ∀ c ∈ l, 48 ≤ c.toNat ∧ c.toNat ≤ 57) (hl : l.length ≤ 7) : 0 ≤ spellD7 l ∧ spellD7 l < 10000000 := by
  obtain ⟨v, h1, h2⟩ := spell7_from l h 0 0 (by decide)
  have h3 : 10 ^ (0 + l.length) ≤ 10 ^ 7 := Nat.pow_le_pow_right (by decide) (by omega)
  have h4 : spellD7 l = v := h1
  rw [h4]
  have : (10 : Nat) ^ 7 = 10000000 := by decide
  omega
def digB (c : UInt8) : Bool := decide (48 ≤ c.toNat) && decide (c.toNat ≤ 57)
def numS (l : List UInt8) : Int := if l.length = 0 ∨ 7 < l.length then -1 else if l.all digB then spellD7 l else -1
theorem numS_itoa (n : Int) (h1 : 1 ≤ n) (h2 : n ≤ 1048576) : numS (Lib.itoa n) = n := by
  rw [itoa_pos (by omega)]
  unfold numS
  have hl : (Lib.decDigits n.toNat).length ≤ 7 := dec_len (d := 6) (by omega)
  have hne := dec_ne n.toNat
  rw [if_neg, if_pos]
  · rw [spell7_dec]; omega
  · rw [List.all_eq_true]
    intro c hc
    have := dec_digit n.toNat c hc
    unfold digB
    rw [decide_eq_true this.1, decide_eq_true this.2]; rfl
  · rintro (h | h)
    · exact hne (List.length_eq_zero_iff.1 h)
    · omega
set_option maxHeartbeats 1000000 in
set_option maxRecDepth 100000 in
theorem rnumber7_calls (s : ByteArray) (hs : s.size ≤ 4096) (w : World) : Calls Tryz.prog 71 #[.string s] w fun e w' => e = .returned (.int .i64 (numS s.data.toList)) ∧ w = w' := by
  have e : s.data.toList.length = s.size := by simp
  by_cases h0 : s.size = 0
  · have hr : numS s.data.toList = -1 := by unfold numS; rw [if_pos (Or.inl (by omega))]
    rw [hr]
    have c1 : ((s.size : Int) == 0) = true := by rw [beq_iff_eq]; omega
    have hz : s.toList.isEmpty = true := by rw [toList_eq, (size_zero_iff s).1 h0]; rfl
    clear hr e
    go_enter Tryz.func71, Tryz.ntmps71
    go_wp2
    go_ret
    exact ⟨rfl, rfl⟩
  · have hz : s.toList.isEmpty = false := by
      rw [toList_eq]
      cases hl : s.data.toList with
      | nil => exact absurd ((size_zero_iff s).2 hl) h0
      | cons c r => rfl
    have c1 : ((s.size : Int) == 0) = false := by rw [beq_eq_false_iff_ne]; omega
    by_cases h7 : 7 < s.size
    · have hr : numS s.data.toList = -1 := by unfold numS; rw [if_pos (Or.inr (by omega))]
      rw [hr]
      have c2 : decide (7 < (s.size : Int)) = true := decide_eq_true (by omega)
      have c3 : decide (7 < s.size) = true := decide_eq_true (by omega)
      clear hr e
      go_enter Tryz.func71, Tryz.ntmps71
      go_wp2
      go_ret
      exact ⟨rfl, rfl⟩
    · have c2 : decide (7 < (s.size : Int)) = false := decide_eq_false (by omega)
      have c3 : decide (7 < s.size) = false := decide_eq_false (by omega)
      have HR := Lib.hid (show numS s.data.toList = if s.data.toList.all digB then spellD7 s.data.toList else -1 by unfold numS; rw [if_neg (by omega)])
      have HS := Lib.hid hs
      have hs7 : s.size ≤ 7 := by omega
      have HS7 := Lib.hid hs7
      clear e h0 h7 hs
      go_enter Tryz.func71, Tryz.ntmps71
      go_wp2
      go_loop [3, 4] (fun n i => ∃ (k : Nat) (x : Int), k ≤ s.size ∧ i = .int .i64 k ∧ n = .int .i64 x ∧ Hid (spellD7 (s.data.toList.take k) = x) ∧ Hid ((s.data.toList.take k).all digB = true)) (fun _ i => s.size - (intOf i).toNat)
      case atStart => exact ⟨0, 0, Nat.zero_le _, rfl, rfl, rfl, rfl⟩
      case round =>
        obtain ⟨k, x, hk, rfl, rfl, hx, hall⟩ := hrel
        have hrg := spell7_range (s.data.toList.take k) (fun c hc => by
          have := List.all_eq_true.1 hall.out c hc
          unfold digB at this
          simpa using this) (by rw [List.length_take]; have := HS7.out; simp; omega)
        rw [hx.out] at hrg
        obtain ⟨x1, x2⟩ := hrg
        by_cases hlt : k < s.size
        · have HLT := Lib.hid hlt
          have hstep := Lib.hid (show (s.data.toList.take (k + 1)).all digB = ((s.data.toList.take k).all digB && digB s[k]) from all_take_snoc s digB k hlt)
          have hst : (s.data.toList.take (k + 1)) = s.data.toList.take k ++ [s[k]] := by
            rw [List.take_succ_eq_append_getElem (by simpa using hlt)]
            simp [ByteArray.getElem_eq_getElem_data]
            try rfl
          have hsp := Lib.hid (show spellD7 (s.data.toList.take (k + 1)) = 10 * spellD7 (s.data.toList.take k) + ((s[k].toNat : Int) - 48) by rw [hst, spell7_snoc])
          clear hst
          by_cases hd : digB s[k] = true
          · have hd2 : 48 ≤ s[k].toNat ∧ s[k].toNat ≤ 57 := by unfold digB at hd; simpa using hd
            have HD := Lib.hid hd
            have HD2 := Lib.hid hd2
            have a1 : decide ((s[k].toNat : Int) < 48) = false := decide_eq_false (by omega)
            have a2 : decide (57 < (s[k].toNat : Int)) = false := decide_eq_false (by omega)
            have a3 : decide (s[k].toNat < 48) = false := decide_eq_false (by omega)
            have a4 : decide (57 < s[k].toNat) = false := decide_eq_false (by omega)
            have p1 : ¬ (s[k].toNat : Int) < 48 := by omega
            have p2 : ¬ (57 < (s[k].toNat : Int)) := by omega
            clear hd hd2
            go_wp2
            go_round
            case rel => exact ⟨k + 1, _, HLT.out, by go_num, rfl, by
              show _ = _
              rw [hsp.out, hx.out]
              have := HD2.out
              omega, by
              show _ = _
              rw [hstep.out, hall.out, HD.out]; rfl⟩
            case measure => have := HLT.out; simp [intOf]; omega
          · have hd2 : ¬ (48 ≤ s[k].toNat ∧ s[k].toNat ≤ 57) := by unfold digB at hd; simpa using hd
            have hdf : digB s[k] = false := by simpa using hd
            have hno := Lib.hid (all_false_of s digB k hlt hdf)
            have hor : s[k].toNat < 48 ∨ (¬ s[k].toNat < 48 ∧ 57 < s[k].toNat) := by omega
            clear hd hd2 hdf
            rcases hor with h | ⟨h, h'⟩
            · have a1 : decide ((s[k].toNat : Int) < 48) = true := decide_eq_true (by omega)
              have a3 : decide (s[k].toNat < 48) = true := decide_eq_true (by omega)
              have p1 : (s[k].toNat : Int) < 48 := by omega
              clear h
              go_wp2
              go_ret
              exact ⟨by rw [HR.out, hno.out]; rfl, rfl⟩
            · have a1 : decide ((s[k].toNat : Int) < 48) = false := decide_eq_false (by omega)
              have a3 : decide (s[k].toNat < 48) = false := decide_eq_false (by omega)
              have a2 : decide (57 < (s[k].toNat : Int)) = true := decide_eq_true (by omega)
              have a4 : decide (57 < s[k].toNat) = true := decide_eq_true (by omega)
              have p1 : ¬ (s[k].toNat : Int) < 48 := by omega
              have p2 : 57 < (s[k].toNat : Int) := by omega
              clear h h'
              go_wp2
              go_ret
              exact ⟨by rw [HR.out, hno.out]; rfl, rfl⟩
        · have hke : k = s.size := by omega
          have HK := Lib.hid hke
          have HF := Lib.hid (show s.data.toList.take k = s.data.toList from List.take_of_length_le (by rw [hke]; simp))
          clear hke
          go_wp2
          go_ret
          refine ⟨?_, rfl⟩
          rw [HF.out] at hall hx
          rw [HR.out, hall.out, ← hx.out]
          rfl
end Go.Proofs.YtdgipencedlbmaaGreatDoor.Pr
namespace Go.Proofs.YtdgipencedlbmaaGreatDoor.Pr
set_option linter.unusedVariables false
set_option linter.unusedSimpArgs false
open Go.RowKit Go.Proofs.YtdgipencedlbmaaGreatDoorW.PrintWords Go.Proofs.YtdgipencedlbmaaGreatDoorW.PrintLast Go.Proofs.YtdgipencedlbmaaGreatDoorW.PrintMore Go.Proofs.YtdgipencedlbmaaGreatDoor.Hand
theorem zero34 (w : World) : (zeroValue 34).run Tryz.prog w = .ok (.agg (cellsE z24)) w := by kernel_rfl
theorem info34s (x : S24) : (Tryz.prog.info? 34).map (·.size) = some (cellsE x).size := by
  have e : (Tryz.prog.info? 34).map (·.size) = some 3 := by kernel_rfl
  rw [e]; rfl
def lastK (w : List UInt8) : Nat → Int
  | 0 => -1
  | k + 1 => if wordS k = w then (k : Int) else lastK w k
theorem lastK_seven (w : List UInt8) : lastK w 7 = kindL w := by
  by_cases h : ∃ j : Nat, j < 7 ∧ wordS j = w
  · obtain ⟨j, hj, rfl⟩ := h
    rcases (show j = 0 ∨ j = 1 ∨ j = 2 ∨ j = 3 ∨ j = 4 ∨ j = 5 ∨ j = 6 by omega) with rfl | rfl | rfl | rfl | rfl | rfl | rfl <;> decide
  · have hn : ∀ j : Nat, j < 7 → wordS j ≠ w := fun j hj e => h ⟨j, hj, e⟩
    rw [kind_none hn]
    have : ∀ k : Nat, k ≤ 7 → lastK w k = -1 := by
      intro k
      induction k with
      | zero => intro _; rfl
      | succ k ih =>
        intro hk
        unfold lastK
        rw [if_neg (hn k (by omega)), ih (by omega)]
    exact this 7 (Nat.le_refl _)
structure RRd (w W : World) (r g n c x : Nat) (ws : List ByteArray) (e : S24) : Prop where
  below : Below w.heap.size w W
  res : W.heap[r]? = some (.cells (cellsE z24) 34 (0, 0))
  lo : w.heap.size ≤ r
  len : ws.length = n
  pos : 0 < n
  own : Kd.R Kd.string 9 W w.heap.size (fun _ => True) (.slice (some ⟨g, 0, none⟩) n c) ws
  ent : W.heap[x]? = some (.cells (cellsE e) 34 (0, 0))
  xl : w.heap.size ≤ x
  xr : x ≠ r
theorem RRd.keep {w W W' : World} {r g n c x : Nat} {ws : List ByteArray} {e : S24} (h : RRd w W r g n c x ws e) (hB : Below W.heap.size W W') : RRd w W' r g n c x ws e :=
  ⟨below_then h.below hB, below_keeps hB (blk_lt h.res) h.res, h.lo, h.len, h.pos, Kd.R_below h.own hB, below_keeps hB (blk_lt h.ent) h.ent, h.xl, h.xr⟩
theorem RRd.set {w W : World} {r g n c x : Nat} {ws : List ByteArray} {e e' : S24} (h : RRd w W r g n c x ws e) (j : Nat) (u : Value) (he : (cellsE e).setIfInBounds j u = cellsE e') : RRd w (W.setCell ⟨x, j, none⟩ u) r g n c x ws e' := by
  have hb := but_setCell W x j u
  refine ⟨hb.below h.below h.xl h.below.size, hb.keeps h.xr.symm h.res, h.lo, h.len, h.pos, Kd.R_set h.own h.ent (by intro q hq e9; subst e9; revert hq; decide) j u, ?_, h.xl, h.xr⟩
  rw [← he]; exact heap_setCell_same W x j _ 34 u h.ent
structure RRc (W : World) (x : Nat) (e : S24) : Prop where
  x0 : W.cell? ⟨x, 0, none⟩ = some (.int .i64 e.f0)
  x1 : W.cell? ⟨x, 1, none⟩ = some (.string e.f1)
  x2 : W.cell? ⟨x, 2, none⟩ = some (.int .i64 e.f2)
  fx : ∀ j, W.frozen? ⟨x, j, none⟩ = false
theorem RRd.cells {w W : World} {r g n c x : Nat} {ws : List ByteArray} {e : S24} (h : RRd w W r g n c x ws e) : RRc W x e := by
  obtain ⟨a, b, d⟩ := entry_cells3 h.ent
  exact ⟨a, b, d, fun j => frozen_of_row W x j _ 34 h.ent⟩
theorem RRd.part {w W : World} {r g n c x : Nat} {ws : List ByteArray} {e : S24} (h : RRd w W r g n c x ws e) (j : Nat) (hj : j < n) : W.cell? ⟨g, j, none⟩ = some (.string (ws.getD j ByteArray.empty)) := by
  have hl := h.len
  obtain ⟨_, _, hC⟩ := Kd.R_reads' h.own
  obtain ⟨ad, cc, e2, hll, hK, hcell⟩ := Kd.C_get hC ByteArray.empty ((j : Nat) : Int) (by omega) (by omega)
  cases e2
  have : cc = [.string (ws.getD j ByteArray.empty)] := hK
  subst this
  have hq := hcell 0 _ rfl
  have e3 : j * Kd.string.sz + 0 = j := Nat.mul_one _
  rw [Int.toNat_natCast, e3] at hq
  have e4 : (⟨g, 0, none⟩ : Addr).add j = ⟨g, j, none⟩ := by simp [Addr.add] <;> omega
  rwa [e4] at hq
theorem rText_is (k : Int) (s : ByteArray) (n : Int) (v : ByteArray × Int) (h : textS k s n = v) (w : World) :
    Calls Tryz.prog 34 #[.agg #[.int .i64 k, .string s, .int .i64 n]] w fun e w' => e = .returned (.tuple #[.string v.1, .int .i64 v.2]) ∧ Below w.heap.size w w' := rText_calls k s n v h w
theorem rread_end {t : ByteArray} {ws : List ByteArray} {n : Nat} {g : S24} (hl : ¬ 4096 < t.data.toList.length) (hws : ws.map (·.data.toList) = splitS t.data.toList) (hn : ws.length = n) (hp : 0 < n)
    (hg : g = ⟨kindL (ws.getD 0 ByteArray.empty).data.toList, if 1 < n then ws.getD 1 ByteArray.empty else ⟨#[]⟩, if 2 < n then numS (ws.getD 2 ByteArray.empty).data.toList else 0⟩) : readG t g = readS t.data.toList := by
  refine readG_is hl fun x hx ht => ?_
  have e : g = guessS (splitS t.data.toList) numS := by rw [← hws, guess_ws hn, kind_ws (by omega)]; exact hg
  rw [e, ← ht]
  exact guess_right hx numS_itoa
theorem part_4096 {t : ByteArray} {ws : List ByteArray} (h : ws.map (·.data.toList) = splitS t.data.toList) (hs : t.size ≤ 4096) (k : Nat) : (ws.getD k ByteArray.empty).size ≤ 4096 := by
  by_cases hk : k < ws.length
  · have hm : (ws.getD k ByteArray.empty).data.toList ∈ splitS t.data.toList := by
      rw [← h, List.getD, List.getElem?_eq_getElem hk]
      exact List.mem_map_of_mem (List.getElem_mem hk)
    have := part_le _ _ hm
    have e1 : t.data.toList.length = t.size := by simp
    have e2 : (ws.getD k ByteArray.empty).data.toList.length = (ws.getD k ByteArray.empty).size := by simp
    omega
  · rw [List.getD, List.getElem?_eq_none (by omega)]
    show ByteArray.empty.size ≤ _
    decide
set_option maxHeartbeats 1000000 in
set_option maxRecDepth 100000 in
theorem rRead_long (t : ByteArray) (w : World) (h : 4096 < t.data.toList.length) :
    Calls Tryz.prog 36 #[.string t] w fun e w' => e = .returned (.tuple #[.agg (cellsE z24), .int .i64 17]) ∧ Below w.heap.size w w' := by
  have e : t.data.toList.length = t.size := by simp
  have d0 : decide (4096 < (t.size : Int)) = true := decide_eq_true (by omega)
  clear h e
  go_enter Tryz.func36, Tryz.ntmps36
  go_wp2_with (first
    | ((with_reducible refine alloc_event (o := ⟨some 2, _, _, _, _, _⟩) rfl 34 rfl (.agg (cellsE z24)) zero34 ?_); intro r hr w1 hr1 hB1 hs1; have HR1 := Lib.hid hr1; have HB1 := Lib.hid hB1; have HLO := Lib.hid (show w.heap.size ≤ r by rw [hr]; exact Nat.le_refl _); clear hr hr1 hB1 hs1)
    | ((with_reducible refine store_row_event rfl 34 _ _ rfl r (cellsE z24) ?hx ?hy 34 (cellsE z24) ?hg ?hi ?ho ?h1 ?_); (case hg => exact HR1.out); (case ho => rfl); (case hx => (go_simp; done)); (case hy => rfl); (case hi => exact info34s _); (case h1 => exact cellsE_one _); intro w2 hr2 hB2 hs2; have HR2 := Lib.hid hr2; have HB2 := Lib.hid (hB2.below HB1.out HLO.out HB1.out.size); clear hr2 hB2 hs2))
  refine bodyPost_ret (results_ct rfl _ _ r 34 (cellsE z24) (0, 0) _ rfl HR2.out Tryz.underlying34 rfl (info34s _)) rfl ?_
  exact ⟨rfl, HB2.out⟩
theorem R_but' {W w1 : World} {e g t base : Nat} {cells : Array Value} {v : Value} {xs : List ByteArray} (h : Kd.R Kd.string e W base (fun _ => True) v xs) (hb : W.heap[g]? = some (.cells cells t (0, 0))) (ht : ∀ q, q ∈ e :: Kd.string.E → q ≠ t) (hB : But g W w1) :
    Kd.R Kd.string e w1 base (fun _ => True) v xs := Kd.R_mono (Kd.R_step (Kd.R_types h hb ht) (fun k hk hlt => hB.block k hlt hk.2)) (fun _ _ => trivial)
set_option maxHeartbeats 2000000 in
set_option maxRecDepth 100000 in
theorem rRead_short (t : ByteArray) (w : World) (h : ¬ 4096 < t.data.toList.length) :
    Calls Tryz.prog 36 #[.string t] w fun e w' => ∃ u : S24 × Int, u = readS t.data.toList ∧ e = .returned (.tuple #[.agg (cellsE u.1), .int .i64 u.2]) ∧ Below w.heap.size w w' := by
  have e : t.data.toList.length = t.size := by simp
  have HS := Lib.hid (show t.size ≤ 4096 by omega)
  have HN := Lib.hid h
  have d0 : decide (4096 < (t.size : Int)) = false := decide_eq_false (by omega)
  clear h e
  go_enter Tryz.func36, Tryz.ntmps36
  go_wp2_with (first
    | ((with_reducible refine alloc_event (o := ⟨some 2, _, _, _, _, _⟩) rfl 34 rfl (.agg (cellsE z24)) zero34 ?_); intro r hr w1 hr1 hB1 hs1; have HR1 := Lib.hid hr1; have HB1 := Lib.hid hB1; have HLO := Lib.hid (show w.heap.size ≤ r by rw [hr]; exact Nat.le_refl _); clear hr hr1 hB1 hs1)
    | (go_at_call 69; (with_reducible refine (rsplit_calls t HS.out w1).mono ?_); rintro e w2 ⟨v2, ws, rfl, hO2, hws, hB2⟩; have hwp := splitS_ne t.data.toList; obtain ⟨g, c, rfl, _⟩ := Kd.R_form hO2 (by rw [← hws] at hwp; rcases Nat.eq_zero_or_pos ws.length with h | h; exact absurd (by rw [List.length_eq_zero_iff.1 h]; rfl) hwp; exact h); have HR2 := Lib.hid (below_keeps hB2 (blk_lt HR1.out) HR1.out); have HO2 := Lib.hid (Kd.R_lower hO2 HB1.out.size); have HWS := Lib.hid hws; have HB2 := Lib.hid (below_then HB1.out hB2); have HPOS := Lib.hid (show 0 < ws.length by rw [← hws] at hwp; rcases Nat.eq_zero_or_pos ws.length with h | h; exact absurd (by rw [List.length_eq_zero_iff.1 h]; rfl) hwp; exact h); clear hwp hO2 hws hB2)
    | ((with_reducible refine alloc_event (o := ⟨some 5, _, _, _, _, _⟩) rfl 34 rfl (.agg (cellsE z24)) zero34 ?_); intro x hx w3 hx3 hB3 hs3; have HX3 := Lib.hid hx3; have HR3 := Lib.hid (below_keeps hB3 (blk_lt HR2.out) HR2.out); have HO3 := Lib.hid (Kd.R_below HO2.out hB3); have HXL := Lib.hid (show w.heap.size ≤ x ∧ r < x by rw [hx]; exact ⟨HB2.out.size, blk_lt HR2.out⟩); have HB3 := Lib.hid (below_then HB2.out hB3); clear hx hx3 hB3 hs3)
    | ((with_reducible refine store_row_event rfl 34 _ _ rfl x (cellsE ⟨-1, ⟨#[]⟩, 0⟩) ?hx ?hy 34 (cellsE z24) ?hg ?hi ?ho ?h1 ?_); (case hg => exact HX3.out); (case ho => rfl); (case hx => (go_simp; done)); (case hy => first | rfl | (unfold cellsE; go_simp; done) | (go_simp; rfl)); (case hi => exact info34s _); (case h1 => exact cellsE_one _); intro w4 hx4 hB4 hs4; have HA := Lib.hid (⟨hB4.below HB3.out HXL.out.1 HB3.out.size, hB4.keeps (by have := HXL.out; omega) HR3.out, HLO.out, rfl, HPOS.out, R_but' HO3.out HX3.out (by decide) hB4, hx4, HXL.out.1, by have := HXL.out; omega⟩ : RRd w w4 r g ws.length c x ws ⟨-1, ⟨#[]⟩, 0⟩); clear hx4 hB4 hs4))
  obtain ⟨n, hnl⟩ : ∃ n, ws.length = n := ⟨_, rfl⟩
  rw [hnl] at HA ⊢
  clear hnl
  obtain ⟨w0, hw0⟩ : ∃ w0, ws.getD 0 ByteArray.empty = w0 := ⟨_, rfl⟩
  have HW0 := Lib.hid hw0
  clear hw0
  go_loopw [6] (fun i wr => ∃ k : Nat, k ≤ 7 ∧ i = .int .i64 k ∧ Hid (RRd w wr r g n c x ws ⟨lastK w0.data.toList k, ⟨#[]⟩, 0⟩)) (fun i _ => 7 - (intOf i).toNat)
  case atStart => exact ⟨0, by omega, rfl, HA.out⟩
  case round =>
    obtain ⟨k, hk, rfl, HL⟩ := hrel
    by_cases hlt : k < 7
    · have HLT := Lib.hid hlt
      have hn0 := HL.out.pos
      have hn1 : 0 < (n : Int) := by omega
      have qw := HL.out.part 0 HL.out.pos
      rw [HW0.out] at qw
      have HWD := Lib.hid (wordA_data (k := (k : Int)) (by omega) (by omega))
      obtain ⟨wd, hwd⟩ : ∃ wd, wordA (k : Int) = wd := ⟨_, rfl⟩
      have HWA := Lib.hid hwd
      rw [hwd] at HWD
      clear hwd
      obtain ⟨b, hb⟩ : ∃ b, (wd.toList == w0.toList) = b := ⟨_, rfl⟩
      have HBV := Lib.hid hb
      cases b with
      | true =>
        go_wp2
        go_region_with (first | (go_at_call 70; (with_reducible refine (rwords_calls _).mono ?_); rintro e w5 ⟨ad, cq, rfl, hcl, hB5⟩; have hB5 := drew_below' hB5; have HL5 := Lib.hid (HL.out.keep hB5); have hcw := hcl k HLT.out; rw [HWA.out] at hcw; have qw := HL5.out.part 0 HL5.out.pos; rw [HW0.out] at qw; clear hcl hB5))
        all_goals
          obtain ⟨x0, x1, x2, fx⟩ := HL5.out.cells
          go_wp2
          go_roundw
          case measure => have := HLT.out; simp [intOf]; omega
          case rel => exact ⟨k + 1, HLT.out, by go_num, HL5.out.set 0 _ (by
            have e : wordS k = w0.data.toList := by have := beq_iff_eq.1 HBV.out; rw [toList_eq, toList_eq] at this; rw [← HWD.out]; exact this
            unfold lastK; rw [if_pos e]; rfl)⟩
      | false =>
        go_wp2
        go_region_with (first | (go_at_call 70; (with_reducible refine (rwords_calls _).mono ?_); rintro e w5 ⟨ad, cq, rfl, hcl, hB5⟩; have hB5 := drew_below' hB5; have HL5 := Lib.hid (HL.out.keep hB5); have hcw := hcl k HLT.out; rw [HWA.out] at hcw; have qw := HL5.out.part 0 HL5.out.pos; rw [HW0.out] at qw; clear hcl hB5))
        all_goals
          go_wp2
          go_roundw
          case measure => have := HLT.out; simp [intOf]; omega
          case rel => exact ⟨k + 1, HLT.out, by go_num, by
            show RRd _ _ _ _ _ _ _ _ _
            have e : ¬ wordS k = w0.data.toList := by
              intro e
              have := beq_eq_false_iff_ne.1 HBV.out
              rw [toList_eq, toList_eq, HWD.out] at this
              exact this e
            unfold lastK; rw [if_neg e]; exact HL5.out⟩
    · have hk7 : k = 7 := by omega
      subst hk7
      obtain ⟨K, hK⟩ : ∃ K, lastK w0.data.toList 7 = K := ⟨_, rfl⟩
      have HK := Lib.hid (show kindL (ws.getD 0 ByteArray.empty).data.toList = K by rw [HW0.out, ← lastK_seven]; exact hK)
      rw [hK] at HL
      obtain ⟨w9, hw9⟩ : ∃ w9, wr = w9 := ⟨_, rfl⟩
      rw [hw9] at HL ⊢
      clear hK hw9 hlt
      have HA := HL
      have HLEN := Lib.hid HA.out.len
      have HPO := Lib.hid HA.out.pos
      obtain ⟨q0, q1, q2, q4⟩ := HA.out.cells
      have h3 : n = 1 ∨ n = 2 ∨ 2 < n := by have := HPO.out; omega
      rcases h3 with hn | hn | hn
      · have hd : True := trivial
        have a1 : decide (1 < (n : Int)) = false := decide_eq_false (by omega)
        have b1 : decide (1 < n) = false := decide_eq_false (by omega)
        have a2 : decide (2 < (n : Int)) = false := decide_eq_false (by omega)
        have b2 : decide (2 < n) = false := decide_eq_false (by omega)
        go_upto_region 14 with (fail)
        have HRE := Lib.hid (rread_end (g := ⟨K, ⟨#[]⟩, 0⟩) HN.out HWS.out HLEN.out HPO.out (by rw [← HK.out]; rw [if_neg (by omega), if_neg (by omega)]))
        clear hn
        obtain ⟨v, hv⟩ : ∃ v, textS (⟨K, ⟨#[]⟩, 0⟩ : S24).f0 (⟨K, ⟨#[]⟩, 0⟩ : S24).f1 (⟨K, ⟨#[]⟩, 0⟩ : S24).f2 = v := ⟨_, rfl⟩
        have HV := Lib.hid hv
        clear hv
        have hc : (v.2 ≠ 0) ∨ (v.2 = 0 ∧ v.1 ≠ t) ∨ (v.2 = 0 ∧ v.1 = t) := by by_cases h1 : v.2 = 0 <;> by_cases h2 : v.1 = t <;> simp [h1, h2]
        rcases hc with h1 | ⟨h1, h2⟩ | ⟨h1, h2⟩
        · have e1 : (v.2 != 0) = true := bne_iff_ne.mpr h1
          have HE := Lib.hid (read_bad (t := t) HV.out (fun h => h1 h.1))
          clear h1
          go_wp2_with (first
            | (go_at_call 34; (with_reducible refine (rText_is (⟨K, ⟨#[]⟩, 0⟩ : S24).f0 (⟨K, ⟨#[]⟩, 0⟩ : S24).f1 (⟨K, ⟨#[]⟩, 0⟩ : S24).f2 v HV.out w9).mono ?_); rintro e w12 ⟨rfl, hB12⟩; have HA12 := Lib.hid (HA.out.keep hB12); obtain ⟨q0, q1, q2, q4⟩ := HA12.out.cells; clear hB12)
            | ((with_reducible refine store_row_event rfl 34 _ _ rfl r (cellsE z24) ?hx ?hy 34 (cellsE z24) ?hg ?hi ?ho ?h1 ?_); (case hg => exact HA12.out.res); (case ho => rfl); (case hx => (go_simp; done)); (case hy => first | rfl | (unfold cellsE; go_simp; done) | (go_simp; rfl)); (case hi => exact info34s _); (case h1 => exact cellsE_one _); intro w13 hr13 hB13 hs13; have HR13 := Lib.hid hr13; have HB13 := Lib.hid (hB13.below HA12.out.below HLO.out HA12.out.below.size); clear hr13 hB13 hs13))
          refine bodyPost_ret (results_ct rfl _ _ r 34 (cellsE z24) (0, 0) _ rfl HR13.out Tryz.underlying34 rfl (info34s _)) rfl ?_
          exact ⟨_, HE.out.symm.trans HRE.out, rfl, HB13.out⟩
        · have e1 : (v.2 != 0) = false := bne_eq_false_iff_eq.mpr h1
          have e2 : (v.1.toList == t.toList) = false := by rw [beq_eq_false_iff_ne, toList_eq, toList_eq]; exact fun h => h2 (data_inj.1 h)
          have HE := Lib.hid (read_bad HV.out (fun h => h2 h.2))
          clear h1 h2
          go_wp2_with (first
            | (go_at_call 34; (with_reducible refine (rText_is (⟨K, ⟨#[]⟩, 0⟩ : S24).f0 (⟨K, ⟨#[]⟩, 0⟩ : S24).f1 (⟨K, ⟨#[]⟩, 0⟩ : S24).f2 v HV.out w9).mono ?_); rintro e w12 ⟨rfl, hB12⟩; have HA12 := Lib.hid (HA.out.keep hB12); obtain ⟨q0, q1, q2, q4⟩ := HA12.out.cells; clear hB12)
            | ((with_reducible refine store_row_event rfl 34 _ _ rfl r (cellsE z24) ?hx ?hy 34 (cellsE z24) ?hg ?hi ?ho ?h1 ?_); (case hg => exact HA12.out.res); (case ho => rfl); (case hx => (go_simp; done)); (case hy => first | rfl | (unfold cellsE; go_simp; done) | (go_simp; rfl)); (case hi => exact info34s _); (case h1 => exact cellsE_one _); intro w13 hr13 hB13 hs13; have HR13 := Lib.hid hr13; have HB13 := Lib.hid (hB13.below HA12.out.below HLO.out HA12.out.below.size); clear hr13 hB13 hs13))
          refine bodyPost_ret (results_ct rfl _ _ r 34 (cellsE z24) (0, 0) _ rfl HR13.out Tryz.underlying34 rfl (info34s _)) rfl ?_
          exact ⟨_, HE.out.symm.trans HRE.out, rfl, HB13.out⟩
        · have e1 : (v.2 != 0) = false := bne_eq_false_iff_eq.mpr h1
          have e2 : (v.1.toList == t.toList) = true := by rw [h2]; simp
          have HE := Lib.hid (read_good HV.out h1 h2)
          clear h1 h2
          go_wp2_with (first
            | (go_at_call 34; (with_reducible refine (rText_is (⟨K, ⟨#[]⟩, 0⟩ : S24).f0 (⟨K, ⟨#[]⟩, 0⟩ : S24).f1 (⟨K, ⟨#[]⟩, 0⟩ : S24).f2 v HV.out w9).mono ?_); rintro e w12 ⟨rfl, hB12⟩; have HA12 := Lib.hid (HA.out.keep hB12); obtain ⟨q0, q1, q2, q4⟩ := HA12.out.cells; clear hB12)
            | ((with_reducible refine store_row_event rfl 34 _ _ rfl r (cellsE (⟨K, ⟨#[]⟩, 0⟩ : S24)) ?hx ?hy 34 (cellsE z24) ?hg ?hi ?ho ?h1 ?_); (case hg => exact HA12.out.res); (case ho => rfl); (case hx => (go_simp; done)); (case hy => first | rfl | (unfold cellsE; go_simp; done) | (go_simp; rfl)); (case hi => exact info34s _); (case h1 => exact cellsE_one _); intro w13 hr13 hB13 hs13; have HR13 := Lib.hid hr13; have HB13 := Lib.hid (hB13.below HA12.out.below HLO.out HA12.out.below.size); clear hr13 hB13 hs13))
          refine bodyPost_ret (results_ct rfl _ _ r 34 (cellsE (⟨K, ⟨#[]⟩, 0⟩ : S24)) (0, 0) _ rfl HR13.out Tryz.underlying34 rfl (info34s _)) rfl ?_
          exact ⟨_, HE.out.symm.trans HRE.out, rfl, HB13.out⟩
      · have hd : True := trivial
        have a1 : decide (1 < (n : Int)) = true := decide_eq_true (by omega)
        have b1 : decide (1 < n) = true := decide_eq_true (by omega)
        have a2 : decide (2 < (n : Int)) = false := decide_eq_false (by omega)
        have b2 : decide (2 < n) = false := decide_eq_false (by omega)
        obtain ⟨s1, hs1⟩ : ∃ s1, ws.getD 1 ByteArray.empty = s1 := ⟨_, rfl⟩
        have pc1 := HA.out.part 1 (by omega)
        rw [hs1] at pc1
        have HS1 := Lib.hid hs1
        clear hs1
        go_upto_region 12 with (fail)
        have HA := Lib.hid (HA.out.set (e' := ⟨K, s1, 0⟩) 1 (.string s1) rfl)
        obtain ⟨w10, hw10⟩ : ∃ w10, w9.setCell ⟨x, 1, none⟩ (.string s1) = w10 := ⟨_, rfl⟩
        rw [hw10] at HA ⊢
        clear hw10 q0 q1 q2 q4 pc1
        obtain ⟨q0, q1, q2, q4⟩ := HA.out.cells
        go_upto_region 14 with (fail)
        have HRE := Lib.hid (rread_end (g := ⟨K, s1, 0⟩) HN.out HWS.out HLEN.out HPO.out (by rw [← HK.out]; rw [if_pos (by omega), if_neg (by omega), HS1.out]))
        clear hn
        obtain ⟨v, hv⟩ : ∃ v, textS (⟨K, s1, 0⟩ : S24).f0 (⟨K, s1, 0⟩ : S24).f1 (⟨K, s1, 0⟩ : S24).f2 = v := ⟨_, rfl⟩
        have HV := Lib.hid hv
        clear hv
        have hc : (v.2 ≠ 0) ∨ (v.2 = 0 ∧ v.1 ≠ t) ∨ (v.2 = 0 ∧ v.1 = t) := by by_cases h1 : v.2 = 0 <;> by_cases h2 : v.1 = t <;> simp [h1, h2]
        rcases hc with h1 | ⟨h1, h2⟩ | ⟨h1, h2⟩
        · have e1 : (v.2 != 0) = true := bne_iff_ne.mpr h1
          have HE := Lib.hid (read_bad (t := t) HV.out (fun h => h1 h.1))
          clear h1
          go_wp2_with (first
            | (go_at_call 34; (with_reducible refine (rText_is (⟨K, s1, 0⟩ : S24).f0 (⟨K, s1, 0⟩ : S24).f1 (⟨K, s1, 0⟩ : S24).f2 v HV.out w10).mono ?_); rintro e w12 ⟨rfl, hB12⟩; have HA12 := Lib.hid (HA.out.keep hB12); obtain ⟨q0, q1, q2, q4⟩ := HA12.out.cells; clear hB12)
            | ((with_reducible refine store_row_event rfl 34 _ _ rfl r (cellsE z24) ?hx ?hy 34 (cellsE z24) ?hg ?hi ?ho ?h1 ?_); (case hg => exact HA12.out.res); (case ho => rfl); (case hx => (go_simp; done)); (case hy => first | rfl | (unfold cellsE; go_simp; done) | (go_simp; rfl)); (case hi => exact info34s _); (case h1 => exact cellsE_one _); intro w13 hr13 hB13 hs13; have HR13 := Lib.hid hr13; have HB13 := Lib.hid (hB13.below HA12.out.below HLO.out HA12.out.below.size); clear hr13 hB13 hs13))
          refine bodyPost_ret (results_ct rfl _ _ r 34 (cellsE z24) (0, 0) _ rfl HR13.out Tryz.underlying34 rfl (info34s _)) rfl ?_
          exact ⟨_, HE.out.symm.trans HRE.out, rfl, HB13.out⟩
        · have e1 : (v.2 != 0) = false := bne_eq_false_iff_eq.mpr h1
          have e2 : (v.1.toList == t.toList) = false := by rw [beq_eq_false_iff_ne, toList_eq, toList_eq]; exact fun h => h2 (data_inj.1 h)
          have HE := Lib.hid (read_bad HV.out (fun h => h2 h.2))
          clear h1 h2
          go_wp2_with (first
            | (go_at_call 34; (with_reducible refine (rText_is (⟨K, s1, 0⟩ : S24).f0 (⟨K, s1, 0⟩ : S24).f1 (⟨K, s1, 0⟩ : S24).f2 v HV.out w10).mono ?_); rintro e w12 ⟨rfl, hB12⟩; have HA12 := Lib.hid (HA.out.keep hB12); obtain ⟨q0, q1, q2, q4⟩ := HA12.out.cells; clear hB12)
            | ((with_reducible refine store_row_event rfl 34 _ _ rfl r (cellsE z24) ?hx ?hy 34 (cellsE z24) ?hg ?hi ?ho ?h1 ?_); (case hg => exact HA12.out.res); (case ho => rfl); (case hx => (go_simp; done)); (case hy => first | rfl | (unfold cellsE; go_simp; done) | (go_simp; rfl)); (case hi => exact info34s _); (case h1 => exact cellsE_one _); intro w13 hr13 hB13 hs13; have HR13 := Lib.hid hr13; have HB13 := Lib.hid (hB13.below HA12.out.below HLO.out HA12.out.below.size); clear hr13 hB13 hs13))
          refine bodyPost_ret (results_ct rfl _ _ r 34 (cellsE z24) (0, 0) _ rfl HR13.out Tryz.underlying34 rfl (info34s _)) rfl ?_
          exact ⟨_, HE.out.symm.trans HRE.out, rfl, HB13.out⟩
        · have e1 : (v.2 != 0) = false := bne_eq_false_iff_eq.mpr h1
          have e2 : (v.1.toList == t.toList) = true := by rw [h2]; simp
          have HE := Lib.hid (read_good HV.out h1 h2)
          clear h1 h2
          go_wp2_with (first
            | (go_at_call 34; (with_reducible refine (rText_is (⟨K, s1, 0⟩ : S24).f0 (⟨K, s1, 0⟩ : S24).f1 (⟨K, s1, 0⟩ : S24).f2 v HV.out w10).mono ?_); rintro e w12 ⟨rfl, hB12⟩; have HA12 := Lib.hid (HA.out.keep hB12); obtain ⟨q0, q1, q2, q4⟩ := HA12.out.cells; clear hB12)
            | ((with_reducible refine store_row_event rfl 34 _ _ rfl r (cellsE (⟨K, s1, 0⟩ : S24)) ?hx ?hy 34 (cellsE z24) ?hg ?hi ?ho ?h1 ?_); (case hg => exact HA12.out.res); (case ho => rfl); (case hx => (go_simp; done)); (case hy => first | rfl | (unfold cellsE; go_simp; done) | (go_simp; rfl)); (case hi => exact info34s _); (case h1 => exact cellsE_one _); intro w13 hr13 hB13 hs13; have HR13 := Lib.hid hr13; have HB13 := Lib.hid (hB13.below HA12.out.below HLO.out HA12.out.below.size); clear hr13 hB13 hs13))
          refine bodyPost_ret (results_ct rfl _ _ r 34 (cellsE (⟨K, s1, 0⟩ : S24)) (0, 0) _ rfl HR13.out Tryz.underlying34 rfl (info34s _)) rfl ?_
          exact ⟨_, HE.out.symm.trans HRE.out, rfl, HB13.out⟩
      · have hd : True := trivial
        have a1 : decide (1 < (n : Int)) = true := decide_eq_true (by omega)
        have b1 : decide (1 < n) = true := decide_eq_true (by omega)
        have a2 : decide (2 < (n : Int)) = true := decide_eq_true (by omega)
        have b2 : decide (2 < n) = true := decide_eq_true (by omega)
        obtain ⟨s1, hs1⟩ : ∃ s1, ws.getD 1 ByteArray.empty = s1 := ⟨_, rfl⟩
        have pc1 := HA.out.part 1 (by omega)
        rw [hs1] at pc1
        have HS1 := Lib.hid hs1
        clear hs1
        go_upto_region 12 with (fail)
        have HA := Lib.hid (HA.out.set (e' := ⟨K, s1, 0⟩) 1 (.string s1) rfl)
        obtain ⟨w10, hw10⟩ : ∃ w10, w9.setCell ⟨x, 1, none⟩ (.string s1) = w10 := ⟨_, rfl⟩
        rw [hw10] at HA ⊢
        clear hw10 q0 q1 q2 q4 pc1
        obtain ⟨q0, q1, q2, q4⟩ := HA.out.cells
        obtain ⟨s2, hs2⟩ : ∃ s2, ws.getD 2 ByteArray.empty = s2 := ⟨_, rfl⟩
        have pc2 := HA.out.part 2 (by omega)
        rw [hs2] at pc2
        have HS2 := Lib.hid hs2
        have HZ2 := Lib.hid (show s2.size ≤ 4096 by rw [← hs2]; exact part_4096 HWS.out HS.out 2)
        clear hs2
        go_upto_region 14 with (first
          | (go_at_call 71; (with_reducible refine (rnumber7_calls s2 HZ2.out w10).mono ?_); rintro e w11 ⟨rfl, rfl⟩))
        have HA := Lib.hid (HA.out.set (e' := ⟨K, s1, numS s2.data.toList⟩) 2 (.int .i64 (numS s2.data.toList)) rfl)
        obtain ⟨w12, hw12⟩ : ∃ w12, w10.setCell ⟨x, 2, none⟩ (.int .i64 (numS s2.data.toList)) = w12 := ⟨_, rfl⟩
        rw [hw12] at HA ⊢
        clear hw12 q0 q1 q2 q4 pc2
        obtain ⟨q0, q1, q2, q4⟩ := HA.out.cells
        obtain ⟨C, hC⟩ : ∃ C, numS s2.data.toList = C := ⟨_, rfl⟩
        have HCC := Lib.hid hC
        rw [hC] at HA q2
        clear hC
        have HRE := Lib.hid (rread_end (g := ⟨K, s1, C⟩) HN.out HWS.out HLEN.out HPO.out (by rw [← HK.out]; rw [if_pos (by omega), if_pos (by omega), HS1.out, HS2.out, HCC.out]))
        clear hn
        obtain ⟨v, hv⟩ : ∃ v, textS (⟨K, s1, C⟩ : S24).f0 (⟨K, s1, C⟩ : S24).f1 (⟨K, s1, C⟩ : S24).f2 = v := ⟨_, rfl⟩
        have HV := Lib.hid hv
        clear hv
        have hc : (v.2 ≠ 0) ∨ (v.2 = 0 ∧ v.1 ≠ t) ∨ (v.2 = 0 ∧ v.1 = t) := by by_cases h1 : v.2 = 0 <;> by_cases h2 : v.1 = t <;> simp [h1, h2]
        rcases hc with h1 | ⟨h1, h2⟩ | ⟨h1, h2⟩
        · have e1 : (v.2 != 0) = true := bne_iff_ne.mpr h1
          have HE := Lib.hid (read_bad (t := t) HV.out (fun h => h1 h.1))
          clear h1
          go_wp2_with (first
            | (go_at_call 34; (with_reducible refine (rText_is (⟨K, s1, C⟩ : S24).f0 (⟨K, s1, C⟩ : S24).f1 (⟨K, s1, C⟩ : S24).f2 v HV.out w12).mono ?_); rintro e w12 ⟨rfl, hB12⟩; have HA12 := Lib.hid (HA.out.keep hB12); obtain ⟨q0, q1, q2, q4⟩ := HA12.out.cells; clear hB12)
            | ((with_reducible refine store_row_event rfl 34 _ _ rfl r (cellsE z24) ?hx ?hy 34 (cellsE z24) ?hg ?hi ?ho ?h1 ?_); (case hg => exact HA12.out.res); (case ho => rfl); (case hx => (go_simp; done)); (case hy => first | rfl | (unfold cellsE; go_simp; done) | (go_simp; rfl)); (case hi => exact info34s _); (case h1 => exact cellsE_one _); intro w13 hr13 hB13 hs13; have HR13 := Lib.hid hr13; have HB13 := Lib.hid (hB13.below HA12.out.below HLO.out HA12.out.below.size); clear hr13 hB13 hs13))
          refine bodyPost_ret (results_ct rfl _ _ r 34 (cellsE z24) (0, 0) _ rfl HR13.out Tryz.underlying34 rfl (info34s _)) rfl ?_
          exact ⟨_, HE.out.symm.trans HRE.out, rfl, HB13.out⟩
        · have e1 : (v.2 != 0) = false := bne_eq_false_iff_eq.mpr h1
          have e2 : (v.1.toList == t.toList) = false := by rw [beq_eq_false_iff_ne, toList_eq, toList_eq]; exact fun h => h2 (data_inj.1 h)
          have HE := Lib.hid (read_bad HV.out (fun h => h2 h.2))
          clear h1 h2
          go_wp2_with (first
            | (go_at_call 34; (with_reducible refine (rText_is (⟨K, s1, C⟩ : S24).f0 (⟨K, s1, C⟩ : S24).f1 (⟨K, s1, C⟩ : S24).f2 v HV.out w12).mono ?_); rintro e w12 ⟨rfl, hB12⟩; have HA12 := Lib.hid (HA.out.keep hB12); obtain ⟨q0, q1, q2, q4⟩ := HA12.out.cells; clear hB12)
            | ((with_reducible refine store_row_event rfl 34 _ _ rfl r (cellsE z24) ?hx ?hy 34 (cellsE z24) ?hg ?hi ?ho ?h1 ?_); (case hg => exact HA12.out.res); (case ho => rfl); (case hx => (go_simp; done)); (case hy => first | rfl | (unfold cellsE; go_simp; done) | (go_simp; rfl)); (case hi => exact info34s _); (case h1 => exact cellsE_one _); intro w13 hr13 hB13 hs13; have HR13 := Lib.hid hr13; have HB13 := Lib.hid (hB13.below HA12.out.below HLO.out HA12.out.below.size); clear hr13 hB13 hs13))
          refine bodyPost_ret (results_ct rfl _ _ r 34 (cellsE z24) (0, 0) _ rfl HR13.out Tryz.underlying34 rfl (info34s _)) rfl ?_
          exact ⟨_, HE.out.symm.trans HRE.out, rfl, HB13.out⟩
        · have e1 : (v.2 != 0) = false := bne_eq_false_iff_eq.mpr h1
          have e2 : (v.1.toList == t.toList) = true := by rw [h2]; simp
          have HE := Lib.hid (read_good HV.out h1 h2)
          clear h1 h2
          go_wp2_with (first
            | (go_at_call 34; (with_reducible refine (rText_is (⟨K, s1, C⟩ : S24).f0 (⟨K, s1, C⟩ : S24).f1 (⟨K, s1, C⟩ : S24).f2 v HV.out w12).mono ?_); rintro e w12 ⟨rfl, hB12⟩; have HA12 := Lib.hid (HA.out.keep hB12); obtain ⟨q0, q1, q2, q4⟩ := HA12.out.cells; clear hB12)
            | ((with_reducible refine store_row_event rfl 34 _ _ rfl r (cellsE (⟨K, s1, C⟩ : S24)) ?hx ?hy 34 (cellsE z24) ?hg ?hi ?ho ?h1 ?_); (case hg => exact HA12.out.res); (case ho => rfl); (case hx => (go_simp; done)); (case hy => first | rfl | (unfold cellsE; go_simp; done) | (go_simp; rfl)); (case hi => exact info34s _); (case h1 => exact cellsE_one _); intro w13 hr13 hB13 hs13; have HR13 := Lib.hid hr13; have HB13 := Lib.hid (hB13.below HA12.out.below HLO.out HA12.out.below.size); clear hr13 hB13 hs13))
          refine bodyPost_ret (results_ct rfl _ _ r 34 (cellsE (⟨K, s1, C⟩ : S24)) (0, 0) _ rfl HR13.out Tryz.underlying34 rfl (info34s _)) rfl ?_
          exact ⟨_, HE.out.symm.trans HRE.out, rfl, HB13.out⟩
theorem rRead_calls (t : ByteArray) (w : World) (u : S24 × Int) (hu : readS t.data.toList = u) :
    Calls Tryz.prog 36 #[.string t] w fun e w' => e = .returned (.tuple #[.agg (cellsE u.1), .int .i64 u.2]) ∧ Below w.heap.size w w' := by
  by_cases h : 4096 < t.data.toList.length
  · rw [readS_long h] at hu
    subst hu
    exact rRead_long t w h
  · refine (rRead_short t w h).mono ?_
    rintro e w' ⟨v, hv, he, hB⟩
    rw [hu] at hv
    subst hv
    exact ⟨he, hB⟩
end Go.Proofs.YtdgipencedlbmaaGreatDoor.Pr
