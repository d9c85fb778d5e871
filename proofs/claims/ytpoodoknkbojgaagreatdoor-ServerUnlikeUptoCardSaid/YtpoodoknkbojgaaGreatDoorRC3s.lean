/- A part of the proof. -/
import Derived.Test.YtpoodoknkbojgaaGreatDoorRAbEv
import Derived.Test.YtpoodoknkbojgaaGreatDoorCards
import Derived.Test.YtpoodoknkbojgaaGreatDoorTie
import Derived.WalkKit
import Derived.ProofKit
import Derived.OpenShut
import Derived.Carry
import Derived.Deep.DeepHandedRow
import Derived.Lib.LaidTab
set_option linter.all false
namespace Go.Proofs.YtpoodoknkbojgaaGreatDoor
open Go.Ab Go.ChangeShapes Go.WideShapes Go.ChangeAt Go.RowKit
instance TF:Ez where
 d:=false
 no:=rfl
theorem own:ownKnob Tryz.prog.godebug=none:=by kernel_rfl
theorem laidOut:laidOutB Tryz.prog=true:=by kernel_rfl
@[reducible] def FX:Nat→List Nat:=fun _=>[]
@[reducible] def cap0:Nat→Nat:=fun _=>0
theorem Om (b:Nat):¬MM FX [] b:=by
 rintro⟨id,o,h,_⟩;simp[Ab.get] at h
theorem Jl (W:World):aA (X.start FX cap0 rU [] W) FX cap0 [] W:=by
 refine⟨?_,?_,?_,?_,?_,?_,?_,?_⟩
 ·intro id o h;simp[Ab.get] at h
 ·intro id id' o o' b h;simp[Ab.get] at h
 ·intro id o h;simp[Ab.get] at h
 ·intro b h;exact absurd h (Om b)
 ·intro b h;exact absurd h (Om b)
 ·exact⟨Ui _,fun _ _ _=>rfl,rfl,rfl,rfl,fun _=>Ui _⟩
 ·intro id h;simp[X.start,Ab.get] at h
 ·exact⟨fun b h=>False.elim h,fun b h=>False.elim h⟩
theorem IU {W:World} {x:D} {v:Value} (h:aP rU W x v):aP (mkK (X.start FX cap0 rU [] W) FX cap0 [] W).M W x v:=
 h.stable (fun _ _ _=>rfl) (fun b hb=>by
  rcases hb with hb|hb
  ·exact absurd hb (Om b)
  ·exact False.elim hb)
theorem Ql {W:World} {xs:List D} {vs:List Value} (h:ai (aP rU W) xs vs):af (mkK (X.start FX cap0 rU [] W) FX cap0 [] W) (.agg (xs.map C.d)) (.agg vs.toArray):=
 ⟨vs,rfl,ai.iO.2 (h.mono fun _ _ h=>IU h)⟩
theorem Kt {W W':World} {bl':Nat→List Nat} {cap':Nat→Nat} (h:aA (X.start FX cap0 rU [] W) bl' cap' [] W'):Below W.heap.size W W':=
 ⟨h.fr.os,h.fr.tape,h.fr.output,h.fr.size,fun k hk=>h.fr.heap k hk (Om k)⟩
theorem FD {f:FuncId} {args:List AV} {us:List Value} {W:World} (h:AC Tryz.prog f args [] (fun r st=>r=B true∧st=[])) (ha:ai (af (mkK (X.start FX cap0 rU [] W) FX cap0 [] W)) args us):
 Calls Tryz.prog f us.toArray W fun e W'=>e= .returned (.bool true)∧Below W.heap.size W W':=
 (h.2 FX cap0 rU W us (Jl W) ha).mono fun e W' ⟨r,st',bl',cap',v,he,⟨hr,hst⟩,_,hs,hv⟩=>by
   subst hr hst
   have:v= .bool true:=dY hv
   subst this
   exact⟨he,Kt hs⟩
set_option maxRecDepth 100000 in
theorem oh {W:World} {base:Nat} {t e:TypeId} {v:Value} (hu:Tryz.prog.underlying t=some (.slice e)) (h:Value.okWide Tryz.prog W .any base t v):v.cells.toList=[v]:=by
 simp only[Value.okWide,hu,Cell.okWide] at h
 cases v<;>first|rfl|(simp[Cell.ok,hu] at h)
set_option maxRecDepth 100000 in
theorem QI {W:World} {base:Nat} {t:TypeId} {fs:Array Field} {v:Value} (hu:Tryz.prog.underlying t=some (.struct fs)) (h:Value.okWide Tryz.prog W .any base t v):v= .agg v.cells:=by
 simp only[Value.okWide,hu] at h
 obtain⟨cs,rfl,_⟩:=h
 rfl
noncomputable def firstCells:Array Value:=(Go.Pinned.utf8FirstZ.map fun n:Nat=>Value.int .u8 (n:Int)).toArray
def DJ:Array Value:=([128,191,160,191,128,159,144,191,128,143,0,0,0,0,0,0,0,0,0,0,0,0,0,0,0,0,0,0,0,0,0,0].map fun n:Nat=>Value.int .u8 (n:Int)).toArray
def lay (c:Array Value):Obj→Obj
 | .cells _ t frozen=> .cells c t frozen
 |o=>o
noncomputable def laidWorld (os:Os):World:=
 {World.holding Tryz.prog os ⟨#[], #[],[]⟩ with heap:=((World.holding Tryz.prog os ⟨#[], #[],[]⟩).heap.modify 1 (lay firstCells)).modify 2 (lay DJ)}
end Go.Proofs.YtpoodoknkbojgaaGreatDoor
