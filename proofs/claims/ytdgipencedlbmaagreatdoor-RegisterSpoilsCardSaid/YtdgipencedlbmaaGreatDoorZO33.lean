/- RegisterSpoils: for all arguments that a call can take, the law returns true and leaves its arguments as they were (the tied card). -/
import Derived.Test.YtdgipencedlbmaaGreatDoorZO32
import Derived.Test.YtdgipencedlbmaaGreatDoorCards
import Derived.Test.YtdgipencedlbmaaGreatDoorTie
import Derived.MakeChecks
import Derived.Lay
import Derived.Stop.Joined
import Derived.SevenTiedAt
namespace Go.Proofs.YtdgipencedlbmaaGreatDoor.registerSpoils
open Go.ChangeShapes Go.WideShapes Go.ChangeAt Go.RowKit Go.Proofs.YtdgipencedlbmaaGreatDoor.Pr
set_option linter.unusedVariables false
set_option maxRecDepth 100000
theorem own : ownKnob Tryz.prog.godebug = none := by kernel_rfl
theorem laidOut : laidOutB Tryz.prog = true := by kernel_rfl
theorem b24 : Tryz.prog.bytesOf 24 = 32 := by kernel_rfl
theorem few_ents {H : Type} {ts : List TypeId} {ds : List (DataW H)} {d : DataW H} {len j : Nat} (hsz : (DataW.weightsEach Tryz.prog ts ds).all (· ≤ reachBytes) = true) (ht : ts[j]? = some 41) (hd : ds[j]? = some d)
    (h : d = .nil ∧ len = 0 ∨ ∃ elems sp, d = .slice elems sp ∧ elems.length = len) : len < 4398046511104 := by
  rcases h with ⟨_, rfl⟩ | ⟨elems, sp, rfl, rfl⟩
  · decide
  · have z := sized_slice hsz ht hd Tryz.underlying41
    rw [b24] at z
    have : reachBytes = 140737488351232 := by decide
    omega
theorem contract (H : Type) (enc : TypeId × Value → H) (W : World) (base : Nat) (args : Array Value) (ds gs : List (DataW H)) (before : List MemPlace)
    (hval0 : ∀ (j : Nat) t v, Tryz.f12.params[j]? = some t → args[j]? = some v → Value.okWide Tryz.prog W .any base t v)
    (hW : DataW.Whole enc Tryz.prog Tryz.f12.params.toList Rows.registerSpoilsSpec.vars false W args.toList ds gs before)
    (hsz0 : (DataW.weightsEach Tryz.prog (Tryz.f12.params.toList ++ Rows.registerSpoilsSpec.plain.varTypes Tryz.prog) (ds ++ gs)).all (· ≤ reachBytes) = true)
    (hL : laidMetH Tryz.prog Rows.registerSpoilsRow.laid W) (hsh : W.ShapedOpen Tryz.prog) :
    Calls Tryz.prog 12 args W fun e W' => ∃ v, e = .returned v ∧ Rows.registerSpoilsSpec.post enc Tryz.prog Tryz.f12 false true false false W args v W' := by
  rw [MakeChecks.laidMetH_plain _ _ _ (by kernel_rfl)] at hL
  have hG := good_of hsh hL
  have hval : ∀ (j : Nat) t v, Tryz.f12.params[j]? = some t → args[j]? = some v → Value.okWide Tryz.prog W .any base t v := hval0
  have hsz := hsz0
  have hW' := hW
  obtain ⟨p, q, hA0, hV, rfl, hfz, hnd⟩ := hW
  have hA : DataW.TrodAll enc Tryz.prog W 0 (fun _ => true) true Tryz.f12.params.toList args.toList ds p := hA0
  rw [Tryz.params12] at hA hval hsz
  obtain ⟨v0, vs0, d0, ds0, p0, q0, hargs, rfl, rfl, h0, r0⟩ := trodAll_cons hA
  obtain ⟨v1, vs1, d1, ds1, p1, q1, rfl, rfl, rfl, h1, r1⟩ := trodAll_cons r0
  obtain ⟨v2, vs2, d2, ds2, p2, q2, rfl, rfl, rfl, h2, r2⟩ := trodAll_cons r1
  obtain ⟨rfl, rfl, rfl⟩ := trodAll_nil r2
  obtain rfl : args = #[v0, v1, v2] := by cases args; simp_all
  obtain ⟨rfl, rfl⟩ := trodVars_none hV
  obtain ⟨a0, len0, cap0, rfl⟩ := okWide_slice Tryz.underlying41 (hval 0 41 v0 rfl rfl)
  obtain ⟨n1, rfl⟩ := okWide_int Tryz.underlying79 (hval 1 79 v1 rfl rfl)
  obtain ⟨n2, rfl⟩ := okWide_int Tryz.underlying5 (hval 2 5 v2 rfl rfl)
  have k0 := h0
  have lt0 : ∀ x ∈ p0, x.block < W.heap.size := by obtain ⟨m, hm⟩ := k0; exact DataW.trod_lt m _ _ _ hm
  have k1 := h1
  have lt1 : ∀ x ∈ p1, x.block < W.heap.size := by obtain ⟨m, hm⟩ := k1; exact DataW.trod_lt m _ _ _ hm
  have k2 := h2
  have lt2 : ∀ x ∈ p2, x.block < W.heap.size := by obtain ⟨m, hm⟩ := k2; exact DataW.trod_lt m _ _ _ hm
  obtain ⟨l0, rfl, hlc0, hC0, hd0⟩ := ents_of h0
  have hfew0 := few_ents hsz (j := 0) rfl rfl hd0
  clear hA0 hval0 hsz0 hsz
  refine (Spoils_calls a0 cap0 l0 n1 n2 W hG hC0 hlc0 hfew0 (u16_of h1) (u8_of h2)).mono fun e W' ⟨he, bel⟩ => ?_
  subst he
  exact ⟨_, rfl, _, _, _, [], _, [], hW', trodAll_mk1 (shut_bool Tryz.underlying4 _), (trodAll_cons_mk (Below.trod laidOut (by kernel_rfl) (of_decide_eq_true (by kernel_rfl)) k0 bel lt0) (trodAll_cons_mk (Below.trod laidOut (by kernel_rfl) (of_decide_eq_true (by kernel_rfl)) k1 bel lt1) (trodAll_cons_mk (Below.trod laidOut (by kernel_rfl) (of_decide_eq_true (by kernel_rfl)) k2 bel lt2) trodAll_mk0))), rfl, bel.frame _, fun h => by cases h⟩
def wargs : Array Value := #[.slice none 0 0, .int .u16 0, .int .u8 0]
theorem reads (os : Os) {H : Type} (enc : TypeId × Value → H) : ∃ places, DataW.whole enc Tryz.prog ((World.laidAll Tryz.prog os Rows.registerSpoilsRow.laid).forCall (fun _ _ => 0) ⟨#[], wargs, []⟩).memory Tryz.f12.params.toList Rows.registerSpoilsSpec.vars false wargs.toList 8 = some ([.nil, .lit (.int .u16 0), .lit (.int .u8 0)], [], places) :=
  ⟨[], by kernel_rfl⟩
theorem lifted (os : Os) (started : os.Started) (H : Type) (enc : TypeId × Value → H) (F : Stop.Interp) :
    ReturnsInHanded {} Tryz.checked os 12 .any ((OpenSpec.ofChange Rows.registerSpoilsSpec).preRow enc Tryz.prog Tryz.f12 Rows.registerSpoilsRow.domain false Rows.registerSpoilsRow.laid) (((OpenSpec.ofChange Rows.registerSpoilsSpec).at F).post enc Tryz.prog Tryz.f12 false true false false) := by
  obtain ⟨places, hx⟩ := reads os enc
  refine returnsInHanded_of_row (C := Tryz.checked) (s := OpenSpec.ofChange Rows.registerSpoilsSpec) own started (by kernel_rfl) Tryz.func12
    ⟨World.laidAll Tryz.prog os Rows.registerSpoilsRow.laid, fun _ _ => 0, ⟨#[], wargs, []⟩, World.laidAll_os _ _ _, World.shaped_of_ZipB (by kernel_rfl) (by kernel_rfl), rfl, (Input.okWide_of_okWideB (by kernel_rfl)).2,
      OpenSpec.preRow_of_cond 8 hx (by kernel_rfl) (fun k hk => by cases hk) (by kernel_rfl) (by rw [MakeChecks.laidMetH_plain _ _ _ (by kernel_rfl)]; exact laidMet_laidAll _ (by kernel_rfl) (by kernel_rfl)), by
      simp only [Assume.holds]
      exact ⟨by simp, by simp, fun _ => Modest.zero, by simp, by simp⟩⟩ ?_
  intro W base args ds gs before hval hW _ _ hsz hL hsh _
  exact contract H enc W base args ds gs before hval hW hsz hL hsh
theorem said : Rows.RegisterSpoilsSaid :=
  OpenClaim.holds_of_cond 12 Tryz.f12 rfl rfl rfl rfl rfl rfl rfl ⟨rfl, rfl, rfl, rfl, rfl⟩ rfl rfl rfl rfl rfl (by kernel_rfl) Tryz.func12 (by kernel_rfl)
    (of_decide_eq_true (by kernel_rfl)) (by unfold Func.isWrapper; first | (rw [if_pos (by decide +kernel)]; kernel_rfl) | (rw [if_neg (by decide +kernel)]; exact ⟨rfl, rfl⟩))
    (fun os started H enc _ F => by rw [OpenClaim.pre_eq_preRow]; exact lifted os started H enc F)
theorem plain (f : FuncId) (fn : Func) (hf : Tryz.pinned.checked.prog.funcNamed "metrolab/metrolablaw56.RegisterSpoils" = some f) (hfn : Tryz.pinned.checked.prog.funcs[f]? = some fn) :
    true = Tryz.pinned.checked.prog.looks [] ∧ ∀ (j : Nat) t, fn.params[j]? = some t → Tryz.pinned.checked.prog.wantsStandIn t = false := by
  obtain rfl : f = 12 := Option.some.inj ((show Tryz.prog.funcNamed "metrolab/metrolablaw56.RegisterSpoils" = some 12 by kernel_rfl).symm.trans hf) |>.symm
  obtain rfl : fn = Tryz.f12 := (Option.some.inj (Tryz.func12.symm.trans hfn)).symm
  refine ⟨by kernel_rfl, fun j t ht => ?_⟩
  rw [Tryz.params12] at ht
  have hm := Array.mem_of_getElem? ht
  have h2 : t = 41 ∨ t = 79 ∨ t = 5 := by first | simpa using hm | (simp at hm; omega)
  rcases h2 with rfl | rfl | rfl
  · exact (show Tryz.prog.wantsStandIn 41 = false by kernel_rfl)
  · exact (show Tryz.prog.wantsStandIn 79 = false by kernel_rfl)
  · exact (show Tryz.prog.wantsStandIn 5 = false by kernel_rfl)
end Go.Proofs.YtdgipencedlbmaaGreatDoor.registerSpoils
namespace Go.Proofs.YtdgipencedlbmaaGreatDoor
theorem registerSpoils_holds : Rows.RegisterSpoilsCardSaid :=
  Claim7.holds_tied_plain_at .later [] _ _ _ _ registerSpoils.said (fun _ h => by cases h) (by kernel_rfl) (fun _ h => by cases h) registerSpoils_row_tie rfl ⟨rfl, rfl⟩ (by kernel_rfl) rfl registerSpoils.plain (by kernel_rfl)
#print axioms registerSpoils_holds
end Go.Proofs.YtdgipencedlbmaaGreatDoor
