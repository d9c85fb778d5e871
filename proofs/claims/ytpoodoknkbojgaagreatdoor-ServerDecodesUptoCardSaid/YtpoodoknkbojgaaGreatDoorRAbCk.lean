/- A part of the proof. -/
import Derived.Test.YtpoodoknkbojgaaGreatDoorRAbR
set_option linter.all false
namespace Go.Ab
variable [Dr]
section
variable {P:Program} {x:X} {ops:Array Oper}
end
end Go.Ab
namespace Go.Ab
variable [Dr]
section
variable {P:Program} {x:X} {ops:List Oper} {o:Oper} {s s1:S} {wr:Bool} {cs:List (Nat×AV)} {d0:Nat} {r:AV} {Rel:AV→Prop}
end
end Go.Ab
namespace Go.Ab
variable [Dr]
section
variable {P:Program} {x:X}
end
end Go.Ab
namespace Go.Ab
variable [Dr]
section
variable {P:Program} {x:X}
end
end Go.Ab
namespace Go.Ab
variable [Dr]
section
variable {P:Program} {x:X}
end
theorem Cf {P:Program} {x:X} {c:Code} {s:S} {Q:Exit→S→Prop} (S0:S) (h:T P x c s (fun e s=>e= .normal∧mZ x s S0)) (hQ:Q .normal S0):T P x c s Q:=
 BJ h fun e s ⟨he,hE⟩ a w hs=>⟨S0,by rw[he];exact hQ,hE a w hs⟩
theorem Vp {P:Program} {x:X} {c:Code} {s:S} {Q:Exit→S→Prop} {ι:Type} (I:ι→S) (F:ι→Prop) (h:T P x c s (fun e s=>e= .normal∧∃i,F i∧mZ x s (I i))) (hQ:∀i,F i→Q .normal (I i)):T P x c s Q:=
 BJ h fun e s ⟨he,i,hF,hE⟩ a w hs=>⟨I i,by rw[he];exact hQ i hF,hE a w hs⟩
theorem Jl {P:Program} {x:X} {wr:Bool} {ops l:List Oper} {o:Oper} {s:S} {Q:Exit→S→Prop} (cs:List (Nat×AV)) {out:Out} (hd:jP o s.n=true) (h:iy P wr ops cs o s=some out) (ho:All out.obl)
 (hk:TO P x ops l ⟨s.n,dB s.env o.dst out.v,ah s.st out.upd⟩ Q):TO P x ops (o::l) s Q:=by
 intro a w hs
 have:=qJ (x:=x) h ho hd hs (K:=wpList P ops.toArray (Aq x Q) l) (Q:=Aq x Q) (fun a w h=>hk a w h)
 unfold wpList
 split
 ·rename_i hw;rw[if_pos hw] at this;exact .inl this
 ·rename_i hw;rw[if_neg hw] at this;exact this
theorem Vr {P:Program} {f:FuncId} {args args':List AV} {st:List (Nat×AO)} {R:AV→List (Nat×AO)→Prop} (h:AC P f args' st R) (ha:∀k us,aj (af k) args us→aj (af k) args' us):AC P f args st R:=
 ⟨h.1,fun bl cap F w us hs hr=>h.2 bl cap F w us hs (ha _ _ hr)⟩
end Go.Ab
