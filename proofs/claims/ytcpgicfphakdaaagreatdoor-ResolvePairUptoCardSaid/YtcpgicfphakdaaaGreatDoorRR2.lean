/- A part of the proof. -/
import Derived.Test.YtcpgicfphakdaaaGreatDoorRP50
set_option linter.all false
namespace Go.Proofs.YtcpgicfphakdaaaGreatDoor
open Go.Ab Tys
variable [Dr]
end Go.Proofs.YtcpgicfphakdaaaGreatDoor
