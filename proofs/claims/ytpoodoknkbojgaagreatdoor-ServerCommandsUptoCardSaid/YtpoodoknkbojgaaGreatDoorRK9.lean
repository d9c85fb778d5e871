/- A part of the proof. -/
import Derived.Test.YtpoodoknkbojgaaGreatDoorRK2
import Derived.Test.YtpoodoknkbojgaaGreatDoorRP62
set_option linter.all false
namespace Go.Proofs.YtpoodoknkbojgaaGreatDoor
open Go.Ab Tys
variable [wJ]
def DR (s p:abW):abW×Bool:=if hasPrefix s p then(s.extract p.size s.size,true) else(s,false)
def Zm.kk:=p6 kB kS Tryz.ntmps303 Tryz.underlying9 sQ Tryz.results303
set_option maxRecDepth 100000 in
set_option maxHeartbeats 4000000 in
open Zm in
theorem Ih (s p:abW) (hs:s.size≤1000000):AC Tryz.prog 303 [Str s,Str p] [] (fun r st=>r= .tup [pS (DR s p).1,pB (DR s p).2]∧st=[]):=by
 have hp:=qM s p
 refine dI Tryz.func303 Tryz.ntmps303 fun x hx=>?_
 (repeat (first|refine nv ?_|refine cf (hp) ?_))
 refine aU ?_ ?_
 ·intro h
  have h':hasPrefix s p=false:=by simpa using h
  try refine nv ?_
  refine rA [] ?_
  refine⟨?_,rfl⟩
  simp only[DR,h',if_false,aak]
 intro h
 have h':hasPrefix s p=true:=by simpa using h
 have hl:p.size≤s.size:=by simp only[hasPrefix,aaj,aae] at h';exact h'.1
 try refine nv ?_
 refine rA [] ?_
 refine⟨?_,rfl⟩
 simp only[DR,h',if_true]
def YM.kk:=p3 kB Tryz.ntmps260 Tryz.results260
set_option maxRecDepth 100000 in
set_option maxHeartbeats 4000000 in
open YM in
theorem Oy (s p:abW) (hs:s.size≤1000000):AC Tryz.prog 260 [Str s,Str p] [] (fun r st=>r= .tup [pS (DR s p).1,pB (DR s p).2]∧st=[]):=by
 refine dI Tryz.func260 Tryz.ntmps260 fun x hx=>?_
 (repeat (first|refine nv ?_|refine cf (Ih s p hs) ?_))
 refine rA [] ?_
 refine⟨?_,rfl⟩
 rfl
end Go.Proofs.YtpoodoknkbojgaaGreatDoor
