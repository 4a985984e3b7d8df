/- What the law of spoilt journals reads, in plain Lean. -/
import Derived.Test.YtdgipencedlbmaaGreatDoorZO28
namespace Go.Proofs.YtdgipencedlbmaaGreatDoor.Pr
set_option linter.unusedVariables false
set_option linter.unusedSimpArgs false
open Go.RowKit Go.Proofs.YtdgipencedlbmaaGreatDoorW.PrintWords Go.Proofs.YtdgipencedlbmaaGreatDoor.Hand
def badA (z : ByteArray) (p : Nat) (d : UInt8) : ByteArray := (z.extract 0 p ++ ⟨#[d]⟩) ++ z.extract (p + 1) z.size
theorem badA_data (z : ByteArray) (p : Nat) (d : UInt8) : (badA z p d).data.toList = z.data.toList.take p ++ d :: z.data.toList.drop (p + 1) := by
  unfold badA
  rw [ByteArray.data_append, Array.toList_append, ByteArray.data_append, Array.toList_append, Lib.extract_data, Lib.extract_data]
  rw [List.take_of_length_le (l := List.drop (p + 1) z.data.toList) (by simp)]
  simp
theorem spoil_facts {l : List S24} {o : List S57} {z : ByteArray} {p : Nat} {d : UInt8} (ho : runS [] l = some o) (hn : l.length ≤ 20) (hz : bytesA (linesL 1 l) = z) (hzs : z.size ≤ 200704) (hp : p < z.size) (hcd : z[p] ≠ d) (hc : z[p] ≠ 10) (hd : d ≠ 10) :
    ∃ (k : Nat) (rp : ByteArray) (v : List S57) (e : Int), loadR (badA z p d) = (v, (k : Int), e) ∧ e ≠ 0 ∧ repairR (badA z p d) = rp ∧ Lib.countByte (z.extract 0 p).data.toList 10 = k ∧
      Lib.lastIndex (z.extract 0 p).data.toList [10] = (rp.size : Int) - 1 ∧ z.extract 0 rp.size = rp ∧ rp.size ≤ z.size ∧ (badA z p d).size ≤ 200704 := by
  have hall := run_right ho
  have hzd : z.data.toList = linesL 1 l := by rw [← hz]; rfl
  have hget : (linesL 1 l)[p]? = some z[p] := by
    rw [← hzd, List.getElem?_eq_getElem (by simpa using hp)]
    rfl
  obtain ⟨k, v, e, hv, hk, ⟨t, ht, hno⟩, hl, he⟩ := load_changed ho hn hget hcd hc hd
  have hkl : (l.take k).length = k := by rw [List.length_take]; omega
  have hbd : (badA z p d).data.toList = (linesL 1 l).take p ++ d :: (linesL 1 l).drop (p + 1) := by rw [badA_data, hzd]
  rw [← hbd] at hl
  have hps : p < (linesL 1 l).length := by rw [← hzd]; simpa using hp
  have hbs : (badA z p d).size = z.size := by
    have e1 := congrArg List.length hbd
    rw [Array.length_toList, List.length_append, List.length_cons, List.length_take, List.length_drop] at e1
    have e2 : z.size = (linesL 1 l).length := by rw [← hzd]; simp
    have e3 : (badA z p d).data.size = (badA z p d).size := rfl
    omega
  have hlen : p = (linesL 1 (l.take k)).length + t.length := by
    have := congrArg List.length ht
    rw [List.length_take, List.length_append] at this
    omega
  have ex : (z.extract 0 p).data.toList = linesL 1 (l.take k) ++ t := by rw [← hz, bytesA_take, ← ht]; rfl
  refine ⟨k, bytesA (linesL 1 (l.take k)), _, e, loadR_of (by omega) hl, he, ?_, ?_, ?_, ?_, ?_, by omega⟩
  · rw [repairR_of (by omega) hl, List.length_drop, Array.length_toList]
    have e3 : (badA z p d).data.size = (badA z p d).size := rfl
    rw [e3, show (badA z p d).size - ((badA z p d).size - (linesL 1 (l.take k)).length) = (linesL 1 (l.take k)).length by omega]
    apply data_inj.1
    rw [Lib.extract_data, hbd, ht]
    simp [bytesA]
  · rw [ex, count_tail hno, count_lines 1 (fun x hx => hall x (List.mem_of_mem_take hx)), hkl]
  · rw [ex, last_feed (lines_end 1 _) hno, bytesA_size']
  · rw [bytesA_size', ← hz, bytesA_take]
    have := congrArg (List.take (linesL 1 (l.take k)).length) ht
    rw [List.take_take, List.take_left, show min (linesL 1 (l.take k)).length p = (linesL 1 (l.take k)).length by omega] at this
    rw [this]
  · rw [bytesA_size']; omega
end Go.Proofs.YtdgipencedlbmaaGreatDoor.Pr
