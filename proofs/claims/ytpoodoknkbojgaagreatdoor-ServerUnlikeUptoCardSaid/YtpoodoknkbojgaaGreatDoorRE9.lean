/- A part of the proof. -/
import Derived.Test.YtpoodoknkbojgaaGreatDoorRAbEw
set_option linter.all false
namespace Go.Proofs.YtpoodoknkbojgaaGreatDoor
open Go.Ab Tys
variable [Dr]
variable [Dr]
@[reducible] def TK (L D:Nat) (lr:Loop):List (Nat×AO):=[(3000, .loop L D [] lr),(2001, .box [.mp 2002]),(2002, .map [])]
@[reducible] def SY (L D:Nat) (lr:Loop):List (Nat×AO):=[(3000, .loop L D [] lr),(2001, .box [.mp 2002]),(2002, .dead)]
def SX.kk:=p11 kB kM MO Tryz.ntmps137 KT Sr PQ QQ PK Ej Tryz.results137
set_option maxRecDepth 100000 in
set_option maxHeartbeats 4000000 in
open SX in
theorem yC (L D:Nat) (lr:Loop):AC Tryz.prog 137 [.c (.d (.v (.func (.yield L) #[] #[]))), .c (.ptr 2001 0)] (TK L D lr) (fun r st=>r= .tup []∧st=SY L D lr):=by
 refine jH Tryz.func137 Tryz.ntmps137 fun x hx=>?_
 refine mW ?_
 refine bI (wr:=false) 0 (by simp only[kk,Nat.reduceAdd,Nat.reduceLT,Nat.reduceEqDiff, ↓reduceIte,reduceCtorEq];first|done|rfl) (by first|exact trivial|(simp only[kO];omega)|(simp[All,aZ];first|done|omega)) ?_
 refine dD (nX (i:=5) (id:=2002) (es:=[]) rfl rfl) ?_
 refine jF ?_
 try refine nv ?_
 refine bP (ι:=Unit) (I:=fun _=>⟨15,[(6, .c (.ptr 6 0))],[(3000, .loop L D [] lr),(2001, .box [.mp 2002]),(2002, .dead),(6, .iter none [])]⟩) (Inv:=fun _=>True) (μ:=fun _=>0) () trivial ?_ ?_
 ·exact jG
 rintro⟨⟩ _
 refine mW ?_
 refine Oy (id:=6) (by simp) (by simp only[kV, ↓reduceIte,Nat.reduceEqDiff,reduceCtorEq];first|done|rfl) rfl ?_ ?_
 ·intro h0
  refine jF ?_
  try refine nv ?_
  refine bV ?_ ?_
  ·intro h;cases h
  intro _
  try refine nv ?_
  refine rV ((SY L D lr)) ?_
  refine⟨?_,rfl⟩
  rfl
 ·intro l1 e l2 hsp
  simp at hsp
theorem KU {l:List (Nat×AO)} (h:∀p∈l,Il p.2=true):∀id o,Ab.get l id=some o→Il o=true:=fun id o hg=>h _ (get_mem hg)
theorem I8 {l:List (Nat×AV)} (h:∀p∈l,EJ p.2=true):∀id o,Ab.get l id=some o→EJ o=true:=fun id o hg=>h _ (get_mem hg)
def z182.kk:=p9 kB kS Tryz.ntmps182 Tryz.underlying74 KT Rf PK Ti Tryz.results182
set_option maxRecDepth 100000 in
set_option maxHeartbeats 4000000 in
open z182 in
theorem rX:AC Tryz.prog 182 [.c (.d (.v (.slice none 0 0))), .c (.fn 137 [.ptr 2001 0])] [(2001, .box [.mp 2002]),(2002, .map [])]
 (fun r st=>r= .c (.d (.v (.slice none 0 0)))∧st=[(2001, .box [.mp 2002]),(2002, .dead)]):=by
 refine Iu Tryz.func182 rfl rfl (by simp only[Tryz.ntmps182,List.length];omega) ?_
 intro x hrf hx
 simp only[List.range,List.range.loop,List.length,List.zip,List.zipWith,Nat.reduceAdd,Tryz.ntmps182]
 try refine nv ?_
 refine Dl (env0:=[]) 3000 [(2001, .box [.mp 2002]),(2002, .map [])] hrf (by simp only[kV, ↓reduceIte,Nat.reduceEqDiff,reduceCtorEq];first|done|rfl) (by simp only[MO,List.map];first|done|rfl) (by simp[Ab.get]) (by simp[Ab.get]) (by simp[aH,ay,bC,bf,ae,Ab.get]) (by simp[ax,bC,Cap.toC,ae,Ab.get]) trivial (fun i v h=>by cases h)
  (R:=fun L D lr v st'=>(lr.state= .ready∧lr.pending=none)∧st'=SY L D lr) ?_ ?_
 ·intro L D lr h1 h2 _ _ _ _
  exact(yC L D lr).mono fun _ _ h=>⟨⟨h1,h2⟩,h.2⟩
 ·rintro L D lr v st' ⟨⟨h1,h2⟩,rfl⟩
  refine⟨by simp[ae,Ab.get],⟨_,rfl,by rw[h1];simp,h2⟩,?_⟩
  simp only[kP,Nat.reduceEqDiff, ↓reduceIte,reduceCtorEq]
  try refine nv ?_
  refine⟨.inl rfl,⟨13,[(4, .c (.d (.v (.slice none 0 0))))],[(2001, .box [.mp 2002]),(2002, .dead)]⟩,?_,KU (by simp[Il,Gn]),I8 (by simp[EJ,Gn]),_,_,(by simp only[kR,Tryz.results182,fG,kk, ↓reduceIte,Nat.reduceEqDiff,reduceCtorEq];first|done|rfl),?_,[(2001, .box [.mp 2002]),(2002, .dead)],⟨by simp[Ab.get,aG],by simp,by simp[aH,ay,bC,ae,Ab.get],eU hx (by simp[ae,Ab.get])⟩,?_,rfl,rfl⟩
  ·exact jG
  ·trivial
  ·trivial
end Go.Proofs.YtpoodoknkbojgaaGreatDoor
