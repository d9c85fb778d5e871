/- A part of the proof. -/
import Derived.Test.YtmhboloicpieeaaGreatDoorRPD
import Derived.Test.YtmhboloicpieeaaGreatDoorRS4
import Derived.Test.YtmhboloicpieeaaGreatDoorRAbDl
set_option linter.all false
namespace Go.Proofs.YtmhboloicpieeaaGreatDoor
open Go.Ab Tys
variable [Dr]
end Go.Proofs.YtmhboloicpieeaaGreatDoor
