/- A part of the proof. -/
import Derived.Test.YtmhboloicpieeaaGreatDoorRP14
set_option linter.all false
namespace Go.Proofs.YtmhboloicpieeaaGreatDoor
open Go.Ab Tys
variable [Dr]
end Go.Proofs.YtmhboloicpieeaaGreatDoor
