/- A part of the proof. -/
import Derived.Test.YtpoodoknkbojgaaGreatDoorRPD
set_option linter.all false
namespace Go.Proofs.YtpoodoknkbojgaaGreatDoor
open Go.Ab Tys
variable [Dr]
def Tv.kk:=p7 kB kG kS Tryz.ntmps268 Tryz.underlying9 Ej Tryz.results268
set_option maxRecDepth 100000 in
set_option maxHeartbeats 4000000 in
open Tv in
theorem xy (s p:VJ):AC Tryz.prog 268 [Str s,Str p] [] (fun r st=>r=B (hasPrefix s p)∧st=[]):=by
 refine jH Tryz.func268 Tryz.ntmps268 fun x hx=>?_
 try refine nv ?_
 refine gq ?_ ?_
 ·exact Pz @UU
 refine mW ?_
 refine rA [] ?_
 refine⟨?_,rfl⟩
 cases h:decide (p.size≤s.size)<;>simp_all[hasPrefix]
def z228.kk:=p3 kB Tryz.ntmps228 Tryz.results228
set_option maxRecDepth 100000 in
set_option maxHeartbeats 4000000 in
open z228 in
theorem Bv (s p:VJ):AC Tryz.prog 228 [Str s,Str p] [] (fun r st=>r=B (hasPrefix s p)∧st=[]):=by
 refine jH Tryz.func228 Tryz.ntmps228 fun x hx=>?_
 (repeat (first|refine nv ?_|refine cf (xy s p) ?_))
 refine rA [] ?_
 refine⟨?_,rfl⟩
 rfl
end Go.Proofs.YtpoodoknkbojgaaGreatDoor
