/- A part of the proof. -/
import Derived.Test.YtcpgicfphakdaaaGreatDoorRX6
import Derived.Test.YtcpgicfphakdaaaGreatDoorRX11
import Derived.Test.YtcpgicfphakdaaaGreatDoorRT3
set_option linter.all false
namespace Go.Proofs.YtcpgicfphakdaaaGreatDoor
open Go.Ab Tys
variable [yF]
@[reducible] def Rt (r:bH×Int):Bool×List C:=if r.2=0 then acY r.1 else(true,[G9, .d (.v (.bool false))])
theorem xC (ps:List ByteArray) (l:List bH):∀k,(oN ps l k).length=k
 |0=>rfl
 |k+1=>by simp[oN,xC ps l k]
end Go.Proofs.YtcpgicfphakdaaaGreatDoor
namespace Go.Proofs.YtcpgicfphakdaaaGreatDoor
open Go.Ab Tys
variable [yF]
end Go.Proofs.YtcpgicfphakdaaaGreatDoor
