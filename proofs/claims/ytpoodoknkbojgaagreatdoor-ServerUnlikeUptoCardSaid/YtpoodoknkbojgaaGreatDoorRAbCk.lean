/- A part of the proof. -/
import Derived.Test.YtpoodoknkbojgaaGreatDoorRAbR
set_option linter.all false
namespace Go.Ab
variable [Dr]
section
variable {P:Program} {x:X} {ops:Array Oper}
end
end Go.Ab
namespace Go.Ab
variable [Dr]
section
variable {P:Program} {x:X} {ops:List Oper} {o:Oper} {s s1:S} {wr:Bool} {cs:List (Nat×AV)} {d0:Nat} {r:AV} {Rel:AV→Prop}
end
end Go.Ab
namespace Go.Ab
variable [Dr]
section
variable {P:Program} {x:X}
end
end Go.Ab
namespace Go.Ab
variable [Dr]
section
variable {P:Program} {x:X}
end
end Go.Ab
namespace Go.Ab
variable [Dr]
section
variable {P:Program} {x:X}
end
theorem Qd {P:Program} {x:X} {c:Code} {s:S} {Q:Exit→S→Prop} (S0:S) (h:T P x c s (fun e s=>e= .normal∧qc x s S0)) (hQ:Q .normal S0):T P x c s Q:=
 Eo h fun e s ⟨he,hE⟩ a w hs=>⟨S0,by rw[he];exact hQ,hE a w hs⟩
theorem KD {P:Program} {x:X} {wr:Bool} {ops l:List Oper} {o:Oper} {s:S} {Q:Exit→S→Prop} (cs:List (Nat×AV)) {out:Out} (hd:iV o s.n=true) (h:eY P wr ops cs o s=some out) (ho:All out.obl)
 (hk:TO P x ops l ⟨s.n,cZ s.env o.dst out.v,ag s.st out.upd⟩ Q):TO P x ops (o::l) s Q:=by
 intro a w hs
 have:=mM (x:=x) h ho hd hs (K:=wpList P ops.toArray (BA x Q) l) (Q:=BA x Q) (fun a w h=>hk a w h)
 unfold wpList
 split
 ·rename_i hw;rw[if_pos hw] at this;exact .inl this
 ·rename_i hw;rw[if_neg hw] at this;exact this
end Go.Ab
