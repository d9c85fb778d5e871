/- A part of the proof. -/
import Derived.Test.YtpoodoknkbojgaaGreatDoorRPD
set_option maxRecDepth 100000
set_option maxHeartbeats 4000000
set_option linter.all false
namespace Go.Proofs.YtpoodoknkbojgaaGreatDoor
open Go.Ab Tys
variable [Dr]
def Zl.kk:=p3 kB Tryz.ntmps179 Tryz.results179
open Zl in
theorem pY (a:abW) (c:Int):AC Tryz.prog 179 [Str a,I .u8 c] [] (fun r st=>r=I .i64 (Lib.indexByte a.data.toList c.toNat.toUInt8)∧st=[]):=by
 refine dI Tryz.func179 Tryz.ntmps179 fun x hx=>?_
 try refine nv ?_
 refine RF [.string a, .int .u8 c] (by simp) (by simp only[gz,kk,Nat.reduceAdd,Nat.reduceLT,Nat.reduceEqDiff, ↓reduceIte,reduceCtorEq];first|done|rfl) (fun w=>by rw[run_callFunc_extern Tryz.func217 (by kernel_rfl) (by kernel_rfl) (by kernel_rfl) (e:=Extern.BytealgIndexByte.indexByte) (by kernel_rfl)];simp only[Lib.run_indexByteString,Result.andThen];first|done|rfl) rfl ?_
 simp only[dB,Ab.put,Nat.reduceEqDiff, ↓reduceIte,reduceCtorEq]
 try refine nv ?_
 refine rA [] ?_
 refine⟨?_,rfl⟩
 rfl
def Y0.kk:=p3 kB Tryz.ntmps129 Tryz.results129
open Y0 in
theorem vP (a:abW) (c:Int):AC Tryz.prog 129 [Str a,I .u8 c] [] (fun r st=>r=I .i64 (Lib.indexByte a.data.toList c.toNat.toUInt8)∧st=[]):=by
 refine dI Tryz.func129 Tryz.ntmps129 fun x hx=>?_
 (repeat (first|refine nv ?_|refine cf (pY a c) ?_))
 refine rA [] ?_
 refine⟨?_,rfl⟩
 rfl
def Zj.kk:=p7 kB kG kS Tryz.ntmps268 Tryz.underlying9 sQ Tryz.results268
open Zj in
theorem qM (s p:abW):AC Tryz.prog 268 [Str s,Str p] [] (fun r st=>r=B (hasPrefix s p)∧st=[]):=by
 refine dI Tryz.func268 Tryz.ntmps268 fun x hx=>?_
 try refine nv ?_
 refine gq ?_ ?_
 ·exact Fa @aaG
 refine jk ?_
 refine rA [] ?_
 refine⟨?_,rfl⟩
 cases h:decide (p.size≤s.size)<;>simp_all[hasPrefix]
def z228.kk:=p3 kB Tryz.ntmps228 Tryz.results228
open z228 in
theorem Gu (s p:abW):AC Tryz.prog 228 [Str s,Str p] [] (fun r st=>r=B (hasPrefix s p)∧st=[]):=by
 refine dI Tryz.func228 Tryz.ntmps228 fun x hx=>?_
 (repeat (first|refine nv ?_|refine cf (qM s p) ?_))
 refine rA [] ?_
 refine⟨?_,rfl⟩
 rfl
end Go.Proofs.YtpoodoknkbojgaaGreatDoor
