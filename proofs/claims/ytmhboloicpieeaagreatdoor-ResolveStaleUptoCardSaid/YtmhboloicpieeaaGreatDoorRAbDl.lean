/- A part of the proof. -/
import Derived.Test.YtmhboloicpieeaaGreatDoorRAbCk
import Derived.RangeFuncCalls
import Derived.RangeFuncLeaves
import Derived.RangeFuncIn
import Derived.TacticsIn
import Derived.Below
set_option linter.all false
namespace Go.Ab
variable [Dr]
section
variable {P : Program} {x : X}
structure Open (P : Program) (F : Fence) : Prop where
 all : ∀ m, Machine.fenced P F m
 fn : ∀ f, F.fn f
 depth : F.depth = none
variable {Q : Exit → S → Prop} {s s' : S} {F : Fence}
end
end Go.Ab
namespace Go.Ab
variable [Dr]
section
variable {P : Program} {x : X}
end
end Go.Ab
