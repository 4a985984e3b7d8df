/- The reference's checksums, lines and journals. The reference's cut: what stands before the first of a byte and behind it; strings.Cut at one byte. The reference's Begun: what is loaded of a text, up t -/
import Derived.Test.YtdgipencedlbmaaGreatDoorYJ24
import Derived.Test.YtdgipencedlbmaaGreatDoorYT21
import Derived.Test.YtdgipencedlbmaaGreatDoorYD15
import Derived.Test.YtdgipencedlbmaaGreatDoorYK28
namespace Go.Proofs.YtdgipencedlbmaaGreatDoor.Pr
set_option linter.unusedVariables false
set_option linter.unusedSimpArgs false
open Go.RowKit Go.Proofs.YtdgipencedlbmaaGreatDoorW.PrintWords Go.Proofs.YtdgipencedlbmaaGreatDoorW.PrintLast Go.Proofs.YtdgipencedlbmaaGreatDoorW.PrintMore Go.Proofs.YtdgipencedlbmaaGreatDoor.Hand
set_option maxHeartbeats 2000000 in
set_option maxRecDepth 100000 in
theorem rSum_calls (a : Int) (s : ByteArray) (w : World) (hs : s.size ≤ 9223372036854775806) : Calls Tryz.prog 38 #[.int .i64 a, .string s] w fun e w' => e = .returned (.int .i64 (sumS a s.data.toList)) ∧ w = w' := by
  obtain ⟨x0, hx0⟩ : ∃ x0, x0 = a % 1000003 := ⟨_, rfl⟩
  have hr0 : 0 ≤ x0 ∧ x0 < 1000003 := by omega
  have HX0 := Lib.hid hx0
  have HR0 := Lib.hid hr0
  obtain ⟨t, ht⟩ : ∃ t, a.tmod 1000003 = t := ⟨_, rfl⟩
  have htr : -1000003 < t ∧ t < 1000003 ∧ (t < 0 → t + 1000003 = x0) ∧ (0 ≤ t → t = x0) := by
    rw [← ht, hx0]; exact tmod_facts a
  have hw : IntKind.i64.wrap t = t := by rw [IntKind.wrap_i64]; omega
  obtain ⟨t1, t2, t3, t4⟩ := htr
  clear hx0
  have hor : (decide (t < 0) = true ∧ IntKind.i64.wrap (t + 1000003) = t + 1000003 ∧ wrap64 (t + 1000003) = t + 1000003 ∧ t + 1000003 = x0) ∨ (decide (t < 0) = false ∧ 0 ≤ t ∧ True ∧ t = x0) := by
    by_cases h : t < 0
    · exact Or.inl ⟨decide_eq_true h, by rw [IntKind.wrap_i64]; omega, by unfold wrap64; omega, t3 h⟩
    · exact Or.inr ⟨decide_eq_false h, by omega, trivial, t4 (by omega)⟩
  clear t3 t4
  rcases hor with ⟨d1, e1, e2, e3⟩ | ⟨d1, hn, _, e3⟩
  all_goals
    have E3 := Lib.hid e3
    clear e3
    go_enter Tryz.func38, Tryz.ntmps38
    go_wp2
    go_loop [5, 6] (fun h i => ∃ (k : Nat) (x : Int), k ≤ s.size ∧ i = .int .i64 k ∧ h = .int .i64 x ∧ (0 ≤ x ∧ x < 1000003) ∧ Hid ((s.data.toList.take k).foldl stepS x0 = x)) (fun _ i => s.size - (intOf i).toNat)
    case atStart => exact ⟨0, x0, Nat.zero_le _, rfl, by rw [← E3.out], HR0.out, rfl⟩
    case round =>
      obtain ⟨k, x, hk, rfl, rfl, ⟨hx1, hx2⟩, hsum⟩ := hrel
      by_cases hlt : k < s.size
      · have HLT := Lib.hid hlt
        have hub := s[k].toNat_lt
        have hst := Lib.hid (show (s.data.toList.take (k + 1)).foldl stepS x0 = stepS x s[k] by rw [sum_loop_step s k hlt, hsum.out]; rfl)
        go_wp2
        go_round
        case rel => exact ⟨k + 1, _, HLT.out, by go_num, rfl, by omega, by
          show _ = _
          rw [hst.out]; rfl⟩
        case measure => have := HLT.out; simp [intOf]; omega
      · have hke : k = s.size := by omega
        have HK := Lib.hid hke
        have hge : ¬ k < s.size := hlt
        clear hke
        go_wp2
        go_ret
        refine ⟨sum_ret ?_, rfl⟩
        unfold sumS
        rw [← HX0.out, ← hsum.out, List.take_of_length_le (by rw [HK.out]; simp)]
def lineT (h : Int) (s : List UInt8) : List UInt8 := Lib.itoa (sumS h s) ++ 32 :: (s ++ [10])
theorem itoa_len7 {n : Int} (h : 0 ≤ n ∧ n < 1000003) : (Lib.itoa n).length ≤ 7 := by
  rw [itoa_pos h.1]; exact dec_len (d := 6) (by omega)
set_option maxHeartbeats 1000000 in
set_option maxRecDepth 100000 in
theorem rLine_calls (h : Int) (s : ByteArray) (w : World) (hs : s.size ≤ 9223372036854775700) :
    Calls Tryz.prog 106 #[.int .i64 h, .string s] w fun e w' => e = .returned (.tuple #[.string (bytesA (lineT h s.data.toList)), .int .i64 (sumS h s.data.toList)]) ∧ ∃ k, w' = w.drewN k := by
  have hr := sumS_range h s.data.toList
  have HS := Lib.hid (rSum_calls h s w (by omega))
  obtain ⟨m, hm⟩ : ∃ m : Nat, sumS h s.data.toList = (m : Int) := ⟨(sumS h s.data.toList).toNat, by omega⟩
  have hm2 : m < 10000000000 := by omega
  have hmz : (decA m).size ≤ 7 := decA_size (d := 6) (by omega)
  have HD := Lib.hid (rdig_calls m hm2)
  have z1 : ¬ 9223372036854775807 < (decA m).size + 1 := by omega
  have z2 : ¬ 9223372036854775807 < (decA m).size + 1 + s.size := by omega
  have z3 : ¬ 9223372036854775807 < (decA m).size + 1 + s.size + 1 := by omega
  have HR := Lib.hid (show decA m ++ ⟨#[32]⟩ ++ s ++ ⟨#[10]⟩ = bytesA (lineT h s.data.toList) from by
    apply data_inj.1
    unfold lineT
    rw [hm, itoa_pos (by omega)]
    simp [bytesA, decA, ByteArray.data_append])
  rw [hm] at HS ⊢
  clear hr hm hm2
  go_enter Tryz.func106, Tryz.ntmps106
  go_wp2_with (first
    | (go_at_call 38; (with_reducible refine HS.out.mono ?_); rintro e w1 ⟨rfl, rfl⟩)
    | (go_at_call 107; (with_reducible refine (HD.out w).mono ?_); rintro e w2 ⟨rfl, q, rfl⟩))
  go_ret2
  exact ⟨by rw [← HR.out]; rfl, q, rfl⟩
end Go.Proofs.YtdgipencedlbmaaGreatDoor.Pr
namespace Go.Proofs.YtdgipencedlbmaaGreatDoor.Pr
set_option linter.unusedVariables false
set_option linter.unusedSimpArgs false
open Go.RowKit Go.Proofs.YtdgipencedlbmaaGreatDoorW.PrintWords Go.Proofs.YtdgipencedlbmaaGreatDoor.Hand
def cutA (c : UInt8) (s : ByteArray) : ByteArray × ByteArray × Bool := match cutL c s.data.toList with | none => (s, ⟨#[]⟩, false) | some p => (bytesA p.1, bytesA p.2, true)
theorem cutA_none {c : UInt8} {s : ByteArray} (h : cutL c s.data.toList = none) : cutA c s = (s, ⟨#[]⟩, false) := by unfold cutA; rw [h]
theorem cutA_some {c : UInt8} {s : ByteArray} {a b : List UInt8} (h : cutL c s.data.toList = some (a, b)) : cutA c s = (bytesA a, bytesA b, true) := by unfold cutA; rw [h]
theorem cut_take {c : UInt8} {s : ByteArray} {k : Nat} (hk : k < s.size) (hno : c ∉ s.data.toList.take k) (h : s[k] = c) : cutA c s = (s.extract 0 k, s.extract (k + 1) s.size, true) := by
  have hl : s.data.toList = s.data.toList.take k ++ c :: s.data.toList.drop (k + 1) := by
    conv => lhs; rw [← List.take_append_drop k s.data.toList, List.drop_eq_getElem_cons (by simpa using hk)]
    congr 2
  rw [cutA_some (by rw [hl]; exact cutL_app hno)]
  refine Prod.ext ?_ (Prod.ext ?_ rfl)
  · apply data_inj.1
    rw [Lib.extract_data]
    simp [bytesA]
  · apply data_inj.1
    rw [Lib.extract_data]
    simp [bytesA]
    try rw [List.take_of_length_le (by simp)]
set_option maxHeartbeats 1000000 in
set_option maxRecDepth 100000 in
theorem rcut_calls (s : ByteArray) (c : UInt8) (w : World) (hs : s.size < 9223372036854775000) :
    Calls Tryz.prog 113 #[.string s, .int .u8 (c.toNat : Int)] w fun e w' => e = .returned (.tuple #[.string (cutA c s).1, .string (cutA c s).2.1, .bool (cutA c s).2.2]) ∧ ∃ n, w' = w.drewN n := by
  have HS := Lib.hid hs
  obtain ⟨v, hv⟩ : ∃ v, cutA c s = v := ⟨_, rfl⟩
  have HV := Lib.hid hv
  rw [hv]
  clear hs hv
  go_enter Tryz.func113, Tryz.ntmps113
  go_wp2
  go_loopw [7] (fun i wr => ∃ k : Nat, k ≤ s.size ∧ i = .int .i64 k ∧ Hid (c ∉ s.data.toList.take k) ∧ wr = w) (fun i _ => s.size - (intOf i).toNat)
  case atStart => exact ⟨0, by omega, rfl, Lib.hid (by simp), rfl⟩
  case round =>
    obtain ⟨k, hk, rfl, hno, rfl⟩ := hrel
    have hm := HS.out
    by_cases hlt : k < s.size
    · have HLT := Lib.hid hlt
      by_cases hc : s[k] = c
      · have e := cut_take hlt hno.out hc
        have c1 : ((s[k].toNat : Int) == (c.toNat : Int)) = true := by rw [hc]; simp
        have c2 : (s[k].toNat == c.toNat) = true := by rw [hc]; simp
        have HE := Lib.hid (HV.out.symm.trans e)
        clear e hc
        go_wp2
        go_quiet (fail)
        go_wp2
        go_ret3
        exact ⟨by rw [HE.out]; rfl, _, rfl⟩
      · have hn : s[k].toNat ≠ c.toNat := fun h => hc (UInt8.toNat_inj.mp h)
        have c1 : ((s[k].toNat : Int) == (c.toNat : Int)) = false := beq_eq_false_iff_ne.mpr (by omega)
        have c2 : (s[k].toNat == c.toNat) = false := beq_eq_false_iff_ne.mpr hn
        have HN := Lib.hid (show c ∉ s.data.toList.take (k + 1) by
          rw [List.take_succ_eq_append_getElem (by simpa using hlt)]
          simp only [List.mem_append, List.mem_singleton, not_or]
          exact ⟨hno.out, fun h => hc h.symm⟩)
        clear hc hn
        go_wp2
        go_roundw
        case rel => exact ⟨k + 1, HLT.out, by go_num, HN.out, by first | rfl | trivial⟩
        case measure => have := HLT.out; simp [intOf]; omega
    · have hkl : k = s.size := by omega
      have e := cutA_none (c := c) (s := s) (cutL_none (by have := hno.out; rwa [hkl, List.take_of_length_le (by simp)] at this))
      subst hkl
      have HE := Lib.hid (HV.out.symm.trans e)
      clear e
      go_wp2
      go_ret3
      exact ⟨by rw [HE.out]; rfl, 0, rfl⟩
theorem rcut_is (s : ByteArray) (v : ByteArray × ByteArray × Bool) (n : Int) (c : UInt8) (hv : cutA c s = v) (hc : (c.toNat : Int) = n) (w : World) (hs : s.size < 9223372036854775000) :
    Calls Tryz.prog 113 #[.string s, .int .u8 n] w fun e w' => e = .returned (.tuple #[.string v.1, .string v.2.1, .bool v.2.2]) ∧ ∃ n, w' = w.drewN n := by
  subst hv; subst hc
  exact rcut_calls s c w hs
theorem Cut_is (s p : ByteArray) (v : ByteArray × ByteArray × Bool) (c : UInt8) (hp : p = ⟨#[c]⟩) (hv : cutA c s = v) (w : World) (hG : GOOD w) (hs : s.size < 4294967281) :
    Calls Tryz.prog 133 #[.string s, .string p] w fun e w' => e = .returned (.tuple #[.string v.1, .string v.2.1, .bool v.2.2]) ∧ ∃ n, w' = w.drewN n := by
  subst hp
  obtain ⟨m, hm⟩ := hG.mlen
  refine (Tryz.strings_Cut s ⟨#[c]⟩ m w hs hm).mono fun e w' h => ⟨?_, h.2⟩
  rw [h.1]
  have hl : Lib.cut s.data.toList [c] = match cutL c s.data.toList with | none => (s.data.toList, [], false) | some p => (p.1, p.2, true) := lib_cut c s.data.toList
  have e3 : (⟨#[c]⟩ : ByteArray).data.toList = [c] := rfl
  rw [e3, hl, ← hv]
  unfold cutA
  cases cutL c s.data.toList with
  | none => cases s; rfl
  | some p => rfl
end Go.Proofs.YtdgipencedlbmaaGreatDoor.Pr
namespace Go.Proofs.YtdgipencedlbmaaGreatDoor.Pr
set_option linter.unusedVariables false
set_option linter.unusedSimpArgs false
open Go.RowKit Go.Proofs.YtdgipencedlbmaaGreatDoorW.PrintWords Go.Proofs.YtdgipencedlbmaaGreatDoorW.PrintLast Go.Proofs.YtdgipencedlbmaaGreatDoorW.PrintMore Go.Proofs.YtdgipencedlbmaaGreatDoor.Hand
theorem results_tmp4' {fn : Func} {t u v x : Tmp} (h : fn.results = #[.tmp t, .tmp u, .tmp v, .tmp x]) (tmps : Array Value) (P : Program) (w : World) :
    (results fn tmps).run P w = .ok (.tuple #[tmps.getD t undef, tmps.getD u undef, tmps.getD v undef, tmps.getD x undef]) w := by
  simp [results, h]
def BegunEnd (t : Nat) (z : ByteArray) (u : List S57 × Nat × List UInt8 × Int) (w : World) (e : Ending) (w' : World) : Prop :=
  ∃ (v : Value) (p : Nat), e = .returned (.tuple #[v, .int .i64 (u.2.1 : Int), .int .i64 (p : Int), .int .i64 u.2.2.2]) ∧ p ≤ z.size ∧ u.2.2.1 = z.data.toList.drop p ∧ Kd.R k57 t w' w.heap.size (fun _ => True) v u.1 ∧ Below w.heap.size w w'
theorem drop_data (z : ByteArray) (p : Nat) : (z.extract p z.size).data.toList = z.data.toList.drop p := by
  rw [Lib.extract_data]
  exact List.take_of_length_le (by simp)
theorem drop_size {z : ByteArray} {p : Nat} (h : p ≤ z.size) : (z.extract p z.size).size = z.size - p := by simp
theorem doS_read {o : List S57} {x : S24} {v : List S57 × Int} {t : List UInt8} (hc : checkS o = 0) (hr : readS t = (x, 0)) (h : doS o x.f0 x.f1 x.f2 = v) : rightE x = 0 ∧ doneS o x.f0 x.f1 x.f2 = v := by
  have hx : rightE x = 0 := by have := (readS_zero (t := t) (by rw [hr])).1; rw [hr] at this; exact this
  unfold doS at h
  rw [if_neg (by simpa using hc), if_neg (by simpa [rightE] using hx)] at h
  exact ⟨hx, h⟩
theorem sum_line {a c d : List UInt8} {h : Int} (hc : cutL 32 a = some (c, d)) : lineT h d = a ++ [10] ↔ c = Lib.itoa (sumS h d) := by
  rcases cutL_cases 32 a with ⟨_, h2⟩ | ⟨a', b', h1, _, h3⟩
  · rw [h2] at hc; cases hc
  · rw [h3] at hc
    cases hc
    rw [h1]
    unfold lineT
    constructor
    · intro e
      have e2 : Lib.itoa (sumS h d) ++ (32 :: (d ++ [10])) = c ++ (32 :: (d ++ [10])) := by rw [e]; simp
      exact (List.append_cancel_right e2).symm
    · intro e
      rw [e]; simp
theorem sum_len (h : Int) (d : List UInt8) : (lineT h d).length ≤ d.length + 9 := by
  have := itoa_len7 (sumS_range h d)
  unfold lineT
  simp only [List.length_append, List.length_cons, List.length_nil]
  omega
theorem cutL_split {c : UInt8} {l a b : List UInt8} (h : cutL c l = some (a, b)) : l = a ++ c :: b := by
  rcases cutL_cases c l with ⟨_, h2⟩ | ⟨a', b', h1, _, h3⟩
  · rw [h2] at h; cases h
  · rw [h3] at h; cases h; exact h1
set_option maxHeartbeats 4000000 in
set_option maxRecDepth 100000 in
theorem rBegun_calls (z : ByteArray) (w : World) (hs : z.size ≤ 1048576) (u : List S57 × Nat × List UInt8 × Int) (hu : loadS [] 0 1 z.data.toList = u) :
    Calls Tryz.prog 74 #[.string z] w (BegunEnd 84 z u w) := by
  have HS := Lib.hid hs
  have HU := Lib.hid hu
  clear hs hu
  go_enter Tryz.func74, Tryz.ntmps74
  go_wp2
  go_loopw [6, 7, 8, 9] (fun v6 v7 v8 v9 wr => ∃ (o : List S57) (h : Int) (n p : Nat), v7 = .int .i64 h ∧ v8 = .int .i64 n ∧ v9 = .int .i64 p ∧ n ≤ 4096 ∧ p ≤ z.size ∧ Hid (checkS o = 0) ∧ Hid (Kd.R k57 84 wr w.heap.size (fun _ => True) v6 o) ∧ Hid (loadS o n h (z.data.toList.drop p) = u) ∧ Hid (Below w.heap.size w wr)) (fun _ _ _ v9 _ => z.size - (intOf v9).toNat)
  case atStart => exact ⟨[], 1, 0, 0, rfl, rfl, rfl, by omega, by omega, rfl, Kd.R_nil _ _ _ _ _, HU.out, Below.refl _ _⟩
  case round =>
    obtain ⟨o, h, n, p, rfl, rfl, rfl, hn, hp, HCK, HO, HL, HB⟩ := hrel
    obtain ⟨A5, c5, rfl, hc5, hC5⟩ := Kd.R_reads HO.out
    have HCC := Lib.hid hc5
    clear hc5 hC5
    have hm := HS.out
    by_cases hlt : p < z.size
    · have HLT := Lib.hid hlt
      obtain ⟨t, ht⟩ : ∃ t, z.extract p z.size = t := ⟨_, rfl⟩
      have htd : t.data.toList = z.data.toList.drop p := by rw [← ht]; exact drop_data z p
      have hts : t.size = z.size - p := by rw [← ht]; exact drop_size hp
      have htn : t.data.toList ≠ [] := by
        intro e
        have : t.size = 0 := by
          have e2 := congrArg List.length e
          rw [Array.length_toList] at e2
          exact e2
        omega
      have HTD := Lib.hid htd
      have HTS := Lib.hid hts
      rw [← htd] at HL
      have HTN := Lib.hid htn
      clear htd hts htn
      by_cases hn4 : n = 4096
      · subst hn4
        clear ht
        go_wp2
        try simp only [Exit.inBlock, Exit.then]
        refine bodyPost_ret (results_tmp4' rfl _ _ _) rfl ?_
        have e := HL.out
        rw [load_err HTN.out (step_many rfl)] at e
        exact ⟨_, p, by rw [← e]; rfl, hp, by rw [← e]; exact HTD.out, by rw [← e]; exact HO.out, HB.out⟩
      · have c0 : ((n : Int) == 4096) = false := beq_eq_false_iff_ne.mpr (by omega)
        have c0' : (n == 4096) = false := beq_eq_false_iff_ne.mpr hn4
        have HN4 := Lib.hid hn4
        clear hn4
        obtain ⟨v1, hv1⟩ : ∃ v1, cutA 10 t = v1 := ⟨_, rfl⟩
        have HV1 := Lib.hid (rcut_is t v1 10 10 hv1 rfl)
        have hts := HTS.out
        rcases cutL_cases 10 t.data.toList with ⟨_, k1⟩ | ⟨a, b, k1a, _, k1⟩
        · have e1 := cutA_none k1
          rw [hv1] at e1
          subst e1
          have HK1 := Lib.hid k1
          clear k1 hv1
          go_wp2_with (first
            | (go_at_call 113; (with_reducible refine (HV1.out _ (by omega)).mono ?_); rintro e w1 ⟨rfl, n1, rfl⟩))
          try simp only [Exit.inBlock, Exit.then]
          refine bodyPost_ret (results_tmp4' rfl _ _ _) rfl ?_
          have e := HL.out
          rw [load_err HTN.out (step_torn HN4.out HK1.out)] at e
          exact ⟨_, p, by rw [← e]; rfl, hp, by rw [← e]; exact HTD.out, by rw [← e]; exact Kd.R_drewN HO.out _, pw_below_drewN HB.out _⟩
        · have e1 := cutA_some k1
          rw [hv1] at e1
          subst e1
          have hab : t.size = a.length + (b.length + 1) := by
            have := congrArg List.length k1a
            rw [List.length_append, List.length_cons, Array.length_toList] at this
            exact this
          have HK1 := Lib.hid k1
          have HAB := Lib.hid hab
          clear k1 hv1 k1a
          obtain ⟨sa, hsa⟩ : ∃ sa, bytesA a = sa := ⟨_, rfl⟩
          have hsz : sa.size = a.length := by rw [← hsa]; rfl
          have hsd : sa.data.toList = a := by rw [← hsa]; rfl
          rw [hsa] at HV1
          have hz1 : ¬ 9223372036854775807 < sa.size + ({ data := #[10] } : ByteArray).size := by
            have : ({ data := #[10] } : ByteArray).size = 1 := rfl
            omega
          obtain ⟨v2, hv2⟩ : ∃ v2, cutA 32 sa = v2 := ⟨_, rfl⟩
          have HV2 := Lib.hid (rcut_is sa v2 32 32 hv2 rfl)
          rcases cutL_cases 32 a with ⟨_, k2⟩ | ⟨c, d, k2a, _, k2⟩
          · have e2 := cutA_none (c := 32) (s := sa) (by rw [hsd]; exact k2)
            rw [hv2] at e2
            subst e2
            have HK2 := Lib.hid k2
            have HLN := Lib.hid (fun w' => rLine_calls h ⟨#[]⟩ w' (by decide))
            clear k2 hv2 hsa hsd
            go_wp2_with (first
              | (go_at_call 113; (with_reducible refine (HV1.out _ (by omega)).mono ?_); rintro e w1 ⟨rfl, n1, rfl⟩)
              | (go_at_call 113; (with_reducible refine (HV2.out _ (by omega)).mono ?_); rintro e w2 ⟨rfl, n2, rfl⟩)
              | (go_at_call 106; (with_reducible refine (HLN.out _).mono ?_); rintro e w3 ⟨rfl, n3, rfl⟩))
            try simp only [Exit.inBlock, Exit.then]
            refine bodyPost_ret (results_tmp4' rfl _ _ _) rfl ?_
            have e := HL.out
            rw [load_err HTN.out (step_bare HN4.out HK1.out HK2.out)] at e
            exact ⟨_, p, by rw [← e]; rfl, hp, by rw [← e]; exact HTD.out, by rw [← e]; exact Kd.R_drewN HO.out _, pw_below_drewN HB.out _⟩
          · have e2 := cutA_some (c := 32) (s := sa) (by rw [hsd]; exact k2)
            rw [hv2] at e2
            subst e2
            have hcd : a.length = c.length + (d.length + 1) := by
              have := congrArg List.length k2a
              rw [List.length_append, List.length_cons] at this
              exact this
            have hlnl := sum_len h d
            obtain ⟨sc, hsc⟩ : ∃ sc, bytesA c = sc := ⟨_, rfl⟩
            obtain ⟨sd, hsd2⟩ : ∃ sd, bytesA d = sd := ⟨_, rfl⟩
            obtain ⟨sl, hsl⟩ : ∃ sl, bytesA (lineT h d) = sl := ⟨_, rfl⟩
            have hsdl : sd.data.toList = d := by rw [← hsd2]; rfl
            have HLN := Lib.hid (show ∀ w' : World, Calls Tryz.prog 106 #[.int .i64 h, .string sd] w' fun e w'' => e = .returned (.tuple #[.string sl, .int .i64 (sumS h d)]) ∧ ∃ k, w'' = w'.drewN k from fun w' => by
              have := rLine_calls h sd w' (by rw [← hsd2]; show d.length ≤ _; omega)
              rw [hsdl, hsl] at this
              exact this)
            rw [hsc, hsd2] at HV2
            have HK2 := Lib.hid k2
            by_cases k3 : c = Lib.itoa (sumS h d)
            rotate_left
            · have g1 : (sl.toList == (sa ++ { data := #[10] }).toList) = false := by
                refine beq_eq_false_iff_ne.mpr (fun e => k3 ((sum_line (h := h) k2).1 ?_))
                rw [toList_eq, toList_eq, ← hsl, ByteArray.data_append, Array.toList_append, hsd] at e
                exact e
              have g1' : (sl.toList != (sa ++ { data := #[10] }).toList) = true := by rw [bne, g1]; rfl
              have HK3 := Lib.hid k3
              clear k2 hv2 hsa hsd hsc hsd2 hsl hsdl k2a k3 hlnl
              go_wp2_with (first
                | (go_at_call 113; (with_reducible refine (HV1.out _ (by omega)).mono ?_); rintro e w1 ⟨rfl, n1, rfl⟩)
                | (go_at_call 113; (with_reducible refine (HV2.out _ (by omega)).mono ?_); rintro e w2 ⟨rfl, n2, rfl⟩)
                | (go_at_call 106; (with_reducible refine (HLN.out _).mono ?_); rintro e w3 ⟨rfl, n3, rfl⟩))
              try simp only [Exit.inBlock, Exit.then]
              refine bodyPost_ret (results_tmp4' rfl _ _ _) rfl ?_
              have e := HL.out
              rw [load_err HTN.out (step_sum HN4.out HK1.out HK2.out HK3.out)] at e
              exact ⟨_, p, by rw [← e]; rfl, hp, by rw [← e]; exact HTD.out, by rw [← e]; exact Kd.R_drewN HO.out _, pw_below_drewN HB.out _⟩
            · have g1 : (sl.toList == (sa ++ { data := #[10] }).toList) = true := by
                rw [beq_iff_eq, toList_eq, toList_eq, ← hsl, ByteArray.data_append, Array.toList_append, hsd]
                exact (sum_line (h := h) k2).2 k3
              have g1' : (sl.toList != (sa ++ { data := #[10] }).toList) = false := by rw [bne, g1]; rfl
              have hsll : sl.size = a.length + 1 := by
                have e := congrArg List.length ((sum_line (h := h) k2).2 k3)
                rw [← hsl]
                show (lineT h d).length = _
                rw [e]; simp
              have HSLL := Lib.hid hsll
              have HK3 := Lib.hid k3
              obtain ⟨rd, hrd⟩ : ∃ rd, readS d = rd := ⟨_, rfl⟩
              have HRD := Lib.hid (show readS sd.data.toList = rd by rw [hsdl]; exact hrd)
              have HRD' := Lib.hid hrd
              clear k2 hv2 hsa hsd hsc hsd2 hsl hsdl k2a k3 hlnl hrd
              by_cases hr0 : rd.2 = 0
              rotate_left
              · have f1 : (rd.2 != 0) = true := bne_iff_ne.mpr hr0
                have HR0 := Lib.hid hr0
                clear hr0
                go_wp2_with (first
                  | (go_at_call 113; (with_reducible refine (HV1.out _ (by omega)).mono ?_); rintro e w1 ⟨rfl, n1, rfl⟩)
                  | (go_at_call 113; (with_reducible refine (HV2.out _ (by omega)).mono ?_); rintro e w2 ⟨rfl, n2, rfl⟩)
                  | (go_at_call 106; (with_reducible refine (HLN.out _).mono ?_); rintro e w3 ⟨rfl, n3, rfl⟩)
                  | (go_at_call 36; (with_reducible refine (rRead_calls sd _ _ HRD.out).mono ?_); rintro e w4 ⟨rfl, hB4⟩; have HB4 := Lib.hid (below_then (pw_below_drewN HB.out _) hB4); have HR4 := Lib.hid (Kd.R_step (Kd.R_drewN HO.out _) (fun k _ hk => hB4.block k hk)); clear hB4)
                  | ((with_reducible refine alloc_event (o := ⟨some 17, _, _, _, _, _⟩) rfl 34 rfl (.agg (cellsE z24)) zero34 ?_); intro q hq w5 hq1 hB5 hs5; have HH5 := Lib.hid hq1; have HLq := Lib.hid (show w.heap.size ≤ q by rw [hq]; exact HB4.out.size); have HR5 := Lib.hid (Kd.R_step HR4.out (fun k _ hk => hB5.block k hk)); have HQB := Lib.hid (show w4.heap.size ≤ q by rw [hq]; exact Nat.le_refl _); have HB5 := Lib.hid (below_then HB4.out hB5); clear hq hq1 hB5 hs5)
                  | ((with_reducible refine store_row_event rfl 34 _ _ rfl q (cellsE rd.1) ?hx ?hy 34 (cellsE z24) ?hg ?hi ?ho ?h1 ?_); (case hg => exact HH5.out); (case ho => rfl); (case hx => (go_simp; done)); (case hy => first | rfl | (unfold cellsE; go_simp; done) | (go_simp; rfl)); (case hi => exact info34s _); (case h1 => exact cellsE_one _); intro w6 hq2 hB6 hs6; have HG6 := Lib.hid hq2; have HR6 := Lib.hid (R_but HR5.out HH5.out (by decide) hB6); have HB6 := Lib.hid (hB6.below HB5.out HLq.out HB5.out.size); obtain ⟨o0, o1, o2⟩ := entry_cells3 HG6.out; clear hq2 hB6 hs6))
                try simp only [Exit.inBlock, Exit.then]
                refine bodyPost_ret (results_tmp4' rfl _ _ _) rfl ?_
                have e := HL.out
                rw [load_err HTN.out (step_read HN4.out HK1.out HK2.out HK3.out (by rw [HRD'.out]; exact HR0.out))] at e
                exact ⟨_, p, by rw [← e]; rfl, hp, by rw [← e]; exact HTD.out, by rw [← e]; exact HR6.out, HB6.out⟩
              · obtain ⟨x, hx⟩ : ∃ x, rd = (x, 0) := ⟨rd.1, Prod.ext rfl hr0⟩
                subst hx
                clear hr0
                obtain ⟨v, hv⟩ : ∃ v, doS o x.f0 x.f1 x.f2 = v := ⟨_, rfl⟩
                have HV := Lib.hid hv
                clear hv
                by_cases hv0 : v.2 = 0
                rotate_left
                · have f2 : (v.2 != 0) = true := bne_iff_ne.mpr hv0
                  have HV0 := Lib.hid hv0
                  clear hv0
                  go_wp2_with (first
                    | (go_at_call 113; (with_reducible refine (HV1.out _ (by omega)).mono ?_); rintro e w1 ⟨rfl, n1, rfl⟩)
                    | (go_at_call 113; (with_reducible refine (HV2.out _ (by omega)).mono ?_); rintro e w2 ⟨rfl, n2, rfl⟩)
                    | (go_at_call 106; (with_reducible refine (HLN.out _).mono ?_); rintro e w3 ⟨rfl, n3, rfl⟩)
                    | (go_at_call 36; (with_reducible refine (rRead_calls sd _ _ HRD.out).mono ?_); rintro e w4 ⟨rfl, hB4⟩; have HB4 := Lib.hid (below_then (pw_below_drewN HB.out _) hB4); have HR4 := Lib.hid (Kd.R_step (Kd.R_drewN HO.out _) (fun k _ hk => hB4.block k hk)); clear hB4)
                    | ((with_reducible refine alloc_event (o := ⟨some 17, _, _, _, _, _⟩) rfl 34 rfl (.agg (cellsE z24)) zero34 ?_); intro q hq w5 hq1 hB5 hs5; have HH5 := Lib.hid hq1; have HLq := Lib.hid (show w.heap.size ≤ q by rw [hq]; exact HB4.out.size); have HR5 := Lib.hid (Kd.R_step HR4.out (fun k _ hk => hB5.block k hk)); have HQB := Lib.hid (show w4.heap.size ≤ q by rw [hq]; exact Nat.le_refl _); have HB5 := Lib.hid (below_then HB4.out hB5); clear hq hq1 hB5 hs5)
                    | ((with_reducible refine store_row_event rfl 34 _ _ rfl q (cellsE x) ?hx ?hy 34 (cellsE z24) ?hg ?hi ?ho ?h1 ?_); (case hg => exact HH5.out); (case ho => rfl); (case hx => (go_simp; done)); (case hy => first | rfl | (unfold cellsE; go_simp; done) | (go_simp; rfl)); (case hi => exact info34s _); (case h1 => exact cellsE_one _); intro w6 hq2 hB6 hs6; have HG6 := Lib.hid hq2; have HR6 := Lib.hid (R_but HR5.out HH5.out (by decide) hB6); have HB6 := Lib.hid (hB6.below HB5.out HLq.out HB5.out.size); obtain ⟨o0, o1, o2⟩ := entry_cells3 HG6.out; clear hq2 hB6 hs6)
                    | (go_at_call 17; (with_reducible refine (rDo_calls A5 c5 o x.f0 x.f1 x.f2 w6 (reads_of HR6.out) HCC.out v HV.out).mono ?_); rintro e w7 ⟨v7, rfl, hR7, hB7⟩; have HR7 := Lib.hid (Kd.R_lower hR7 HB6.out.size); have HO7 := Lib.hid (Kd.R_step HR6.out (fun k _ hk => hB7.block k hk)); have HB7 := Lib.hid (below_then HB6.out hB7); clear hB7 hR7))
                  try simp only [Exit.inBlock, Exit.then]
                  refine bodyPost_ret (results_tmp4' rfl _ _ _) rfl ?_
                  have e := HL.out
                  have hd := doS_read HCK.out HRD'.out HV.out
                  rw [load_err HTN.out (step_done HN4.out HK1.out HK2.out HK3.out HRD'.out hd.2 HV0.out)] at e
                  exact ⟨_, p, by rw [← e]; rfl, hp, by rw [← e]; exact HTD.out, by rw [← e]; exact HO7.out, HB7.out⟩
                · have f2 : (v.2 != 0) = false := bne_eq_false_iff_eq.mpr hv0
                  have HV0 := Lib.hid hv0
                  clear hv0
                  go_wp2_with (first
                    | (go_at_call 113; (with_reducible refine (HV1.out _ (by omega)).mono ?_); rintro e w1 ⟨rfl, n1, rfl⟩)
                    | (go_at_call 113; (with_reducible refine (HV2.out _ (by omega)).mono ?_); rintro e w2 ⟨rfl, n2, rfl⟩)
                    | (go_at_call 106; (with_reducible refine (HLN.out _).mono ?_); rintro e w3 ⟨rfl, n3, rfl⟩)
                    | (go_at_call 36; (with_reducible refine (rRead_calls sd _ _ HRD.out).mono ?_); rintro e w4 ⟨rfl, hB4⟩; have HB4 := Lib.hid (below_then (pw_below_drewN HB.out _) hB4); have HR4 := Lib.hid (Kd.R_step (Kd.R_drewN HO.out _) (fun k _ hk => hB4.block k hk)); clear hB4)
                    | ((with_reducible refine alloc_event (o := ⟨some 17, _, _, _, _, _⟩) rfl 34 rfl (.agg (cellsE z24)) zero34 ?_); intro q hq w5 hq1 hB5 hs5; have HH5 := Lib.hid hq1; have HLq := Lib.hid (show w.heap.size ≤ q by rw [hq]; exact HB4.out.size); have HR5 := Lib.hid (Kd.R_step HR4.out (fun k _ hk => hB5.block k hk)); have HQB := Lib.hid (show w4.heap.size ≤ q by rw [hq]; exact Nat.le_refl _); have HB5 := Lib.hid (below_then HB4.out hB5); clear hq hq1 hB5 hs5)
                    | ((with_reducible refine store_row_event rfl 34 _ _ rfl q (cellsE x) ?hx ?hy 34 (cellsE z24) ?hg ?hi ?ho ?h1 ?_); (case hg => exact HH5.out); (case ho => rfl); (case hx => (go_simp; done)); (case hy => first | rfl | (unfold cellsE; go_simp; done) | (go_simp; rfl)); (case hi => exact info34s _); (case h1 => exact cellsE_one _); intro w6 hq2 hB6 hs6; have HG6 := Lib.hid hq2; have HR6 := Lib.hid (R_but HR5.out HH5.out (by decide) hB6); have HB6 := Lib.hid (hB6.below HB5.out HLq.out HB5.out.size); obtain ⟨o0, o1, o2⟩ := entry_cells3 HG6.out; clear hq2 hB6 hs6)
                    | (go_at_call 17; (with_reducible refine (rDo_calls A5 c5 o x.f0 x.f1 x.f2 w6 (reads_of HR6.out) HCC.out v HV.out).mono ?_); rintro e w7 ⟨v7, rfl, hR7, hB7⟩; have HR7 := Lib.hid (Kd.R_lower hR7 HB6.out.size); have HO7 := Lib.hid (Kd.R_step HR6.out (fun k _ hk => hB7.block k hk)); have HB7 := Lib.hid (below_then HB6.out hB7); clear hB7 hR7))
                  go_roundw
                  case rel =>
                    have hd := doS_read HCK.out HRD'.out HV.out
                    have hab := HAB.out
                    have e := HL.out
                    rw [load_on HTN.out (step_on HN4.out HK1.out HK2.out HK3.out HRD'.out hd.2 HV0.out)] at e
                    refine ⟨v.1, sumS h d, n + 1, p + (a.length + 1), rfl, by go_num, ?_, by have := HN4.out; omega, by have := HTS.out; omega, ?_, HR7.out, ?_, HB7.out⟩
                    · congr 1
                      omega
                    · have := done_check HCK.out hd.1 (by rw [hd.2]; exact HV0.out)
                      rw [hd.2] at this
                      exact this
                    · have e3 : z.data.toList.drop (p + (a.length + 1)) = b := by
                        rw [← List.drop_drop, ← HTD.out]
                        have k := cutL_split HK1.out
                        rw [k, List.drop_append]; simp
                      rw [e3]
                      exact e
                  case measure => have := HTS.out; have := HAB.out; have := HSLL.out; simp [intOf]; omega
    · have hpz : p = z.size := by omega
      go_wp2
      try simp only [Exit.inBlock, Exit.then]
      refine bodyPost_ret (results_tmp4' rfl _ _ _) rfl ?_
      have hd : z.data.toList.drop p = [] := List.drop_eq_nil_of_le (by rw [hpz]; simp)
      have e := HL.out
      rw [hd, load_nil] at e
      exact ⟨_, p, by rw [← e]; rfl, hp, by rw [← e]; exact hd.symm, by rw [← e]; exact HO.out, HB.out⟩
end Go.Proofs.YtdgipencedlbmaaGreatDoor.Pr
namespace Go.Proofs.YtdgipencedlbmaaGreatDoor.Pr
set_option linter.unusedVariables false
set_option linter.unusedSimpArgs false
open Go.RowKit Go.Proofs.YtdgipencedlbmaaGreatDoorW.PrintWords Go.Proofs.YtdgipencedlbmaaGreatDoorW.PrintLast Go.Proofs.YtdgipencedlbmaaGreatDoorW.PrintMore Go.Proofs.YtdgipencedlbmaaGreatDoor.Hand
noncomputable def loadR (z : ByteArray) : List S57 × Int × Int :=
  if 262144 < z.size then ([], 0, 17) else if (loadS [] 0 1 z.data.toList).2.2.2 ≠ 0 then ([], (loadS [] 0 1 z.data.toList).2.1, (loadS [] 0 1 z.data.toList).2.2.2)
  else ((loadS [] 0 1 z.data.toList).1, (loadS [] 0 1 z.data.toList).2.1, 0)
noncomputable def repairR (z : ByteArray) : ByteArray :=
  (z.extract 0 (min z.size 262144)).extract 0 ((z.extract 0 (min z.size 262144)).size - (loadS [] 0 1 (z.extract 0 (min z.size 262144)).data.toList).2.2.1.length)
theorem rest_at {z : ByteArray} {r : List UInt8} {p : Nat} (h : r = z.data.toList.drop p) (hp : p ≤ z.size) : z.size - r.length = p := by
  have : r.length = z.size - p := by rw [h, List.length_drop, Array.length_toList]; rfl
  omega
set_option maxHeartbeats 1000000 in
set_option maxRecDepth 100000 in
theorem rLoad_calls (z : ByteArray) (w : World) (hs : z.size ≤ 1048576) (r : List S57 × Int × Int) (hr : loadR z = r) : Calls Tryz.prog 42 #[.string z] w (AllEnd 84 r w) := by
  obtain ⟨u, hu⟩ : ∃ u, loadS [] 0 1 z.data.toList = u := ⟨_, rfl⟩
  unfold loadR at hr
  rw [hu] at hr
  have HU := Lib.hid hu
  have HS := Lib.hid hs
  clear hu hs
  by_cases h1 : 262144 < z.size
  · rw [if_pos h1] at hr
    subst hr
    have d1 : decide (262144 < (z.size : Int)) = true := decide_eq_true (by omega)
    have d1' : decide (262144 < z.size) = true := decide_eq_true h1
    clear h1
    go_enter Tryz.func42, Tryz.ntmps42
    go_wp2
    go_ret3
    exact AllEnd.nil (Below.refl _ _)
  · rw [if_neg h1] at hr
    have d1 : decide (262144 < (z.size : Int)) = false := decide_eq_false (by omega)
    have d1' : decide (262144 < z.size) = false := decide_eq_false h1
    clear h1
    by_cases h2 : u.2.2.2 = 0
    · rw [if_neg (by simpa using h2)] at hr
      subst hr
      have e2 : (u.2.2.2 != 0) = false := bne_eq_false_iff_eq.mpr h2
      clear h2
      go_enter Tryz.func42, Tryz.ntmps42
      go_wp2_with (first
        | (go_at_call 74; (with_reducible refine (rBegun_calls z _ HS.out u HU.out).mono ?_); rintro e w1 ⟨v1, p, rfl, hp, hd, hR1, hB1⟩; have HR1 := Lib.hid hR1; have HB1 := Lib.hid hB1; clear hR1 hB1 hp hd))
      go_ret3
      exact ⟨v1, rfl, HR1.out, HB1.out⟩
    · rw [if_pos h2] at hr
      subst hr
      have e2 : (u.2.2.2 != 0) = true := bne_iff_ne.mpr h2
      clear h2
      go_enter Tryz.func42, Tryz.ntmps42
      go_wp2_with (first
        | (go_at_call 74; (with_reducible refine (rBegun_calls z _ HS.out u HU.out).mono ?_); rintro e w1 ⟨v1, p, rfl, hp, hd, hR1, hB1⟩; have HR1 := Lib.hid hR1; have HB1 := Lib.hid hB1; clear hR1 hB1 hp hd))
      go_ret3
      exact AllEnd.nil HB1.out
theorem repair_is {z y : ByteArray} {u : List S57 × Nat × List UInt8 × Int} {p : Nat} (hy : z.extract 0 (min z.size 262144) = y) (hu : loadS [] 0 1 y.data.toList = u) (hp : p ≤ y.size) (hd : u.2.2.1 = y.data.toList.drop p) : y.extract 0 p = repairR z := by
  unfold repairR
  rw [hy, hu, rest_at hd hp]
set_option maxHeartbeats 1000000 in
set_option maxRecDepth 100000 in
theorem rRepair_calls (z : ByteArray) (w : World) (hs : z.size ≤ 1048576) (v : ByteArray) (hv : repairR z = v) : Calls Tryz.prog 44 #[.string z] w fun e w' => e = .returned (.string v) ∧ Below w.heap.size w w' := by
  obtain ⟨y, hy⟩ : ∃ y, z.extract 0 (min z.size 262144) = y := ⟨_, rfl⟩
  have hys : y.size = min z.size 262144 := by rw [← hy]; simp
  obtain ⟨u, hu⟩ : ∃ u, loadS [] 0 1 y.data.toList = u := ⟨_, rfl⟩
  have HU := Lib.hid hu
  have HY := Lib.hid hy
  have HV := Lib.hid hv
  have HS := Lib.hid (show y.size ≤ 1048576 by omega)
  by_cases h1 : 262144 < z.size
  · have d1 : decide (262144 < (z.size : Int)) = true := decide_eq_true (by omega)
    have d1' : decide (262144 < z.size) = true := decide_eq_true h1
    have ey : z.extract 0 262144 = y := by rw [← hy, show min z.size 262144 = 262144 by omega]
    clear hy hu hv hs hys
    go_enter Tryz.func44, Tryz.ntmps44
    go_wp2_with (first
      | (go_at_call 74; (with_reducible refine (rBegun_calls y _ HS.out u HU.out).mono ?_); rintro e w1 ⟨v1, p, rfl, hp, hd, hR1, hB1⟩; have HD := Lib.hid hd; have HB1 := Lib.hid hB1; clear hR1 hB1 hd))
    go_ret
    exact ⟨by rw [← HV.out, ← repair_is HY.out HU.out hp HD.out]; rfl, HB1.out⟩
  · have d1 : decide (262144 < (z.size : Int)) = false := decide_eq_false (by omega)
    have d1' : decide (262144 < z.size) = false := decide_eq_false h1
    have ey : y = z := by
      rw [← hy, show min z.size 262144 = z.size by omega]
      exact extract_all z
    subst ey
    clear hy hu hv hs hys h1
    go_enter Tryz.func44, Tryz.ntmps44
    go_wp2_with (first
      | (go_at_call 74; (with_reducible refine (rBegun_calls y _ HS.out u HU.out).mono ?_); rintro e w1 ⟨v1, p, rfl, hp, hd, hR1, hB1⟩; have HD := Lib.hid hd; have HB1 := Lib.hid hB1; clear hR1 hB1 hd))
    go_ret
    exact ⟨by rw [← HV.out, ← repair_is HY.out HU.out hp HD.out]; rfl, HB1.out⟩
def shortB (z : ByteArray) : Bool := decide (z.size ≤ 1500) || (decide (262144 < z.size) && decide (z.size < 524288))
set_option maxHeartbeats 1000000 in
set_option maxRecDepth 100000 in
theorem Short_calls (z : ByteArray) (w : World) (v : Bool) (hv : shortB z = v) : Calls Tryz.prog 40 #[.string z] w fun e w' => e = .returned (.bool v) ∧ w' = w := by
  subst hv
  unfold shortB
  by_cases h1 : z.size ≤ 1500
  · have d1 : decide ((z.size : Int) ≤ 1500) = true := decide_eq_true (by omega)
    have d1' : decide (z.size ≤ 1500) = true := decide_eq_true h1
    rw [d1']
    clear h1
    go_enter Tryz.func40, Tryz.ntmps40
    go_wp2
    go_ret
    exact ⟨rfl, by first | rfl | trivial⟩
  · have d1 : decide ((z.size : Int) ≤ 1500) = false := decide_eq_false (by omega)
    have d1' : decide (z.size ≤ 1500) = false := decide_eq_false h1
    by_cases h2 : 262144 < z.size
    · have d2 : decide (262144 < (z.size : Int)) = true := decide_eq_true (by omega)
      have d2' : decide (262144 < z.size) = true := decide_eq_true h2
      by_cases h3 : z.size < 524288
      · have d3 : decide ((z.size : Int) < 524288) = true := decide_eq_true (by omega)
        have d3' : decide (z.size < 524288) = true := decide_eq_true h3
        rw [d1', d2', d3']
        clear h1 h2 h3
        go_enter Tryz.func40, Tryz.ntmps40
        go_wp2
        go_ret
        exact ⟨rfl, by first | rfl | trivial⟩
      · have d3 : decide ((z.size : Int) < 524288) = false := decide_eq_false (by omega)
        have d3' : decide (z.size < 524288) = false := decide_eq_false h3
        rw [d1', d2', d3']
        clear h1 h2 h3
        go_enter Tryz.func40, Tryz.ntmps40
        go_wp2
        go_ret
        exact ⟨rfl, by first | rfl | trivial⟩
    · have d2 : decide (262144 < (z.size : Int)) = false := decide_eq_false (by omega)
      have d2' : decide (262144 < z.size) = false := decide_eq_false h2
      rw [d1', d2']
      clear h1 h2
      go_enter Tryz.func40, Tryz.ntmps40
      go_wp2
      go_ret
      exact ⟨rfl, by first | rfl | trivial⟩
end Go.Proofs.YtdgipencedlbmaaGreatDoor.Pr
