/- Words of the proof. -/
import Derived.Test.YtdgipencedlbmaaGreatDoorZWWords
namespace Go.Proofs.YtdgipencedlbmaaGreatDoorW.PrintWords
open Go.RowKit
section
variable {P : Program} {ops : Array Oper} {rest : List Oper} {o : Oper} {a : Act} {Q : Exit → Act → World → Prop} {W : World}
end
end Go.Proofs.YtdgipencedlbmaaGreatDoorW.PrintWords
