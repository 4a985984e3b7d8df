/- Words of the proof. -/
import Derived.Test.YtdgipencedlbmaaGreatDoorZWLast
import Derived.Test.YtdgipencedlbmaaGreatDoorZWWords
namespace Go.Proofs.YtdgipencedlbmaaGreatDoorW.PrintLast
open Go.Proofs.YtdgipencedlbmaaGreatDoorW.PrintWords (Aside0)
section
variable {md : Region.Mode} {ops : Array Oper} {T : Bool × List (List Nat × List Nat)} {l l' li lj lk : Array Bool} {ds : List Nat} {i j k : Nat}
end
end Go.Proofs.YtdgipencedlbmaaGreatDoorW.PrintLast
