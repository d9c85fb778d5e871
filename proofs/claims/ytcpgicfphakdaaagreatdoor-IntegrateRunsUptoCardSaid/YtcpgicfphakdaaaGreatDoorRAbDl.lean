/- A part of the proof. -/
import Derived.Test.YtcpgicfphakdaaaGreatDoorRAbCk
import Derived.RangeFuncCalls
import Derived.RangeFuncLeaves
import Derived.RangeFuncIn
import Derived.TacticsIn
import Derived.Below
set_option linter.all false
namespace Go.Ab
variable [Dr]
section
variable {P:Program} {x:X}
structure Open (P:Program) (F:Fence):Prop where
 all:∀m,Machine.fenced P F m
 fn:∀f,F.fn f
 depth:F.depth=none
variable {Q:Exit→S→Prop} {s s':S} {F:Fence}
end
omit [Dr] in
theorem uy {P:Program} {rs:List ResultVar} {x:X} {R:AV→List (Nat×AO)→Prop} {s:S} {r:AV} {obl:List Prop} {e:Exit} (he:e= .ret∨e= .normal) (h:LY P rs s=some (r,obl)) (ho:All obl)
 (st':List (Nat×AO)) (hsub:Sub x (fun i=>i) s.st st') (hcl:aH (ae st') r) (hR:R r st'):PG P rs x R e s:=⟨he,r,obl,h,ho,st',hsub,hcl,hR⟩
end Go.Ab
namespace Go.Ab
variable [Dr]
section
variable {P:Program} {x:X}
end
end Go.Ab
