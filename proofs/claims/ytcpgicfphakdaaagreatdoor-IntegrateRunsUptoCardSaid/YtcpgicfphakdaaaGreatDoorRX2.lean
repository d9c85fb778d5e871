/- A part of the proof. -/
import Derived.Test.YtcpgicfphakdaaaGreatDoorRG3
set_option linter.all false
namespace Go.Proofs.YtcpgicfphakdaaaGreatDoor
open Go.Ab Tys
variable [Dr]
theorem Oc {x:ByteArray} {k:Nat} (h1:1≤k) (hk:k<x.size) (h:okB (byteAt x k)=false):aX x=false:=by
 cases e:aX x
 ·rfl
 ·simp only[aX,Bool.and_eq_true] at e
  have:=jm _ k (fun k=>decide (k=0)||okB (byteAt x k)) hk e.2
  simp[show ¬k=0 by omega,h] at this
def aej.kk:=p7 kB kG kS Tryz.ntmps260 Tryz.underlying9 kC Tryz.results260
set_option maxRecDepth 100000 in
set_option maxHeartbeats 4000000 in
open aej in
theorem xE (s t:ByteArray) (hs:s.size≤1000000) (ht:t.size≤1000000):AC Tryz.prog 260 [Str s,Str t] [] (fun r st=>r=B (dP s t)∧st=[]):=by
 refine dA Tryz.func260 Tryz.ntmps260 fun x hx=>?_
 refine bC ?_
 refine gg ?_
 refine bC ?_
 refine gq ?_ ?_
 ·simp only[All,List.cons_append,List.nil_append,and_true,true_and,implies_true,forall_const,decide_eq_true_eq,dG]
  repeat' (first|exact trivial|refine And.intro ?_ ?_|intro _|omega|(simp_all;done))
 refine bC ?_
 refine rA [] ?_
 refine⟨?_,rfl⟩
 have e:((s.size:Int)-t.size).toNat=s.size-t.size:=by omega
 cases h:decide (t.size≤s.size)<;>simp_all[dP]
def aec.kk:=p3 kB Tryz.ntmps247 Tryz.results247
set_option maxRecDepth 100000 in
set_option maxHeartbeats 4000000 in
open aec in
theorem WM (s t:ByteArray) (hs:s.size≤1000000) (ht:t.size≤1000000):AC Tryz.prog 247 [Str s,Str t] [] (fun r st=>r=B (dP s t)∧st=[]):=by
 refine dA Tryz.func247 Tryz.ntmps247 fun x hx=>?_
 (repeat (first|refine nv ?_|refine cf (xE s t hs ht) ?_))
 refine rA [] ?_
 refine⟨?_,rfl⟩
 rfl
theorem wO (a:ByteArray):(jY a).size≤a.size:=by
 unfold jY
 split
 ·rw[ByteArray.size_extract];omega
 ·show 0≤_;omega
theorem JJ {s t:ByteArray} (h:dP s t=true):t.size≤s.size:=by
 simp only[dP,Bool.and_eq_true,decide_eq_true_eq] at h;exact h.1
def PB (n:Nat) (p:bH):Prop:=p.parts.length≤n∧∀s∈p.parts,s.size≤n
theorem PB.get {n:Nat} {p:bH} (h:PB n p) (i:Nat):(p.parts.getD i noS).size≤n:=by
 rw[List.getD_eq_getElem?_getD]
 cases e:p.parts[i]? with
 |none=>exact Nat.zero_le _
 |some s=>exact h.2 s (List.mem_of_getElem? e)
theorem PB.mono {n m:Nat} {p:bH} (h:PB n p) (hm:n≤m):PB m p:=⟨Nat.le_trans h.1 hm,fun s hs=>Nat.le_trans (h.2 s hs) hm⟩
theorem tY:aC []=0:=rfl
end Go.Proofs.YtcpgicfphakdaaaGreatDoor
