/- The reference's changed: what an entry does to a lot. -/
import Derived.Test.YtdgipencedlbmaaGreatDoorZD08
import Derived.Test.YtdgipencedlbmaaGreatDoorZD06
import Derived.RegionTactic
namespace Go.Proofs.YtdgipencedlbmaaGreatDoor.Pr
set_option linter.unusedVariables false
set_option linter.unusedSimpArgs false
open Go.RowKit Go.Proofs.YtdgipencedlbmaaGreatDoorW.PrintWords Go.Proofs.YtdgipencedlbmaaGreatDoorW.PrintLast Go.Proofs.YtdgipencedlbmaaGreatDoorW.PrintMore Go.Proofs.YtdgipencedlbmaaGreatDoor.Hand
end Go.Proofs.YtdgipencedlbmaaGreatDoor.Pr
