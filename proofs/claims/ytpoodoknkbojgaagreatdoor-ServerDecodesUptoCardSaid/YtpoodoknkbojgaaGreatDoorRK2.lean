/- A part of the proof. -/
import Derived.Test.YtpoodoknkbojgaaGreatDoorRK1
set_option linter.all false
namespace Go.Proofs.YtpoodoknkbojgaaGreatDoor
open Go.Ab Tys
variable [Dr]
def zo (s t:abW):abW×Bool:=if dF s t then(s.extract 0 (s.size-t.size),true) else(s,false)
def Zw.kk:=p6 kB kS Tryz.ntmps304 Tryz.underlying9 sQ Tryz.results304
set_option maxRecDepth 100000 in
set_option maxHeartbeats 4000000 in
open Zw in
theorem Iz (s t:abW) (hs:s.size≤1000000) (ht:t.size≤1000000):AC Tryz.prog 304 [Str s,Str t] [] (fun r st=>r= .tup [pS (zo s t).1,pB (zo s t).2]∧st=[]):=by
 refine dI Tryz.func304 Tryz.ntmps304 fun x hx=>?_
 (repeat (first|refine nv ?_|refine cf (IM s t hs ht) ?_))
 refine aU ?_ ?_
 ·intro h
  have h':dF s t=false:=by simpa using h
  try refine nv ?_
  refine rA [] ?_
  refine⟨?_,rfl⟩
  simp only[zo,h',if_false,aak]
 intro h
 have h':dF s t=true:=by simpa using h
 have hl:=Ov h'
 have e:((s.size:Int)-t.size).toNat=s.size-t.size:=by omega
 try refine nx @e ?_
 refine rA [] ?_
 refine⟨?_,rfl⟩
 simp only[zo,h',if_true]
def ZF.kk:=p3 kB Tryz.ntmps261 Tryz.results261
set_option maxRecDepth 100000 in
set_option maxHeartbeats 4000000 in
open ZF in
theorem PP (s t:abW) (hs:s.size≤1000000) (ht:t.size≤1000000):AC Tryz.prog 261 [Str s,Str t] [] (fun r st=>r= .tup [pS (zo s t).1,pB (zo s t).2]∧st=[]):=by
 refine dI Tryz.func261 Tryz.ntmps261 fun x hx=>?_
 (repeat (first|refine nv ?_|refine cf (Iz s t hs ht) ?_))
 refine rA [] ?_
 refine⟨?_,rfl⟩
 rfl
end Go.Proofs.YtpoodoknkbojgaaGreatDoor
