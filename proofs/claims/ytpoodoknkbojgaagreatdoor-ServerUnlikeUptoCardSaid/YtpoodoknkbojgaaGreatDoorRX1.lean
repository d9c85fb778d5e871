/- A part of the proof. -/
import Derived.Test.YtpoodoknkbojgaaGreatDoorRP29
import Derived.Test.YtpoodoknkbojgaaGreatDoorRG3
set_option linter.all false
namespace Go.Proofs.YtpoodoknkbojgaaGreatDoor
open Go.Ab Tys
variable [Dr]
theorem DK {x:VJ} {k:Nat} (h1:1≤k) (hk:k<x.size) (h:okB (byteAt x k)=false):dP x=false:=by
 cases e:dP x
 ·rfl
 ·simp only[dP,Uf] at e
  have:=oP _ k (fun k=>decide (k=0)||okB (byteAt x k)) hk e.2
  simp[show ¬k=0 by omega,h] at this
end Go.Proofs.YtpoodoknkbojgaaGreatDoor
