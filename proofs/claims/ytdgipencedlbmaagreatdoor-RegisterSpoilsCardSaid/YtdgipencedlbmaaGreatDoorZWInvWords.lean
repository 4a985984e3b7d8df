/- Words of the proof. -/
import Derived.Test.YtdgipencedlbmaaGreatDoorZWInv
import Derived.Test.YtdgipencedlbmaaGreatDoorZWFootNe
namespace Go.Proofs.YtdgipencedlbmaaGreatDoorW.PrintWords
open Go.RowKit
end Go.Proofs.YtdgipencedlbmaaGreatDoorW.PrintWords
namespace Go.Proofs.YtdgipencedlbmaaGreatDoorW.PrintLast
section
variable {ops : Array Oper} {a : Act} {o og : Oper} {g : Nat} {t : Tmp} {u : Bool}
end
end Go.Proofs.YtdgipencedlbmaaGreatDoorW.PrintLast
