/- Words of the proof. -/
import Derived.Test.YtdgipencedlbmaaGreatDoorZWTab
namespace Go.Proofs.YtdgipencedlbmaaGreatDoorW.PrintLast
section
variable {P : Program} {ops : Array Oper} {Q : Exit → Act → World → Prop} {md : Region.Mode} {S : World → Prop} {ds : List Nat} {T : Bool × List (List Nat × List Nat)}
end
end Go.Proofs.YtdgipencedlbmaaGreatDoorW.PrintLast
