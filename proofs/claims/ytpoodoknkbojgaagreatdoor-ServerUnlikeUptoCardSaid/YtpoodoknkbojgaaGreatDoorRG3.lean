/- A part of the proof. -/
import Derived.Test.YtpoodoknkbojgaaGreatDoorRG2
set_option linter.all false
namespace Go.Proofs.YtpoodoknkbojgaaGreatDoor
open Go.Ab Tys
variable [Dr]
end Go.Proofs.YtpoodoknkbojgaaGreatDoor
