/- A part of the proof. -/
import Derived.Test.YtpoodoknkbojgaaGreatDoorRX1
set_option linter.all false
namespace Go.Proofs.YtpoodoknkbojgaaGreatDoor
open Go.Ab Tys
variable [Dr]
def PB (n:Nat) (p:fJ):Prop:=p.parts.length≤n∧∀s∈p.parts,s.size≤n
theorem PB.get {n:Nat} {p:fJ} (h:PB n p) (i:Nat):(p.parts.getD i noS).size≤n:=by
 rw[Uc]
 cases e:p.parts[i]? with
 |none=>exact U8 _
 |some s=>exact h.2 s (TZ e)
theorem PB.mono {n m:Nat} {p:fJ} (h:PB n p) (hm:n≤m):PB m p:=⟨Ur h.1 hm,fun s hs=>Ur (h.2 s hs) hm⟩
end Go.Proofs.YtpoodoknkbojgaaGreatDoor
