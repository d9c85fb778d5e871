/- A part of the proof. -/
import Derived.Test.YtcpgicfphakdaaaGreatDoorRK18
import Derived.Test.YtcpgicfphakdaaaGreatDoorRX15
import Derived.Test.YtcpgicfphakdaaaGreatDoorRX16
import Derived.Test.YtcpgicfphakdaaaGreatDoorRR3
set_option linter.all false
namespace Go.Proofs.YtcpgicfphakdaaaGreatDoor
open Go.Ab Tys
def tgW (tg:Option (Rev×ByteArray)):Rev:=(tg.map (·.1)).getD af
@[reducible] def UG (l:List pz):AV:= .c (.d (.ps 11 (l.map lM)))
@[reducible] def Tf (l:List pz):Bool×List C:=(false,[.d (.ps 11 (l.map lM))])
section
variable {d:bJ} {m:List eQ} {p:ByteArray} {v:Rev} (hv:dD d p=some v)
include hv
theorem Xd (h:(oW m p).2=false∨v.act=5):l7 d m p=[]:=by
 unfold l7;rw[hv];simp only[Option.getD_some];rw[if_pos h]
theorem UD (h:¬((oW m p).2=false∨v.act=5)):l7 d m p=
 match xw d m (line d (first d v)) with
 |none=>if v.act=3∨live d (oW m p).1=true then [] else [brT d p (oW m p).1 v]
 |some (w,q)=>
  if w.act=3 then(if v.act=3∨live d (oW m p).1=true∨uq d (fileOf v) (xw d m (line d (first d v)))=[] then [] else [brT d p (oW m p).1 v])
  else ut (first d v) (uq d (fileOf v) (xw d m (line d (first d v)))) (line d (first d v)) w (NT d m p (oW m p).1 w q) 0:=by
 unfold l7;rw[hv];simp only[Option.getD_some];rw[if_neg h]
 cases xw d m (line d (first d v))<;>rfl
theorem aaz (h:¬((oW m p).2=false∨v.act=5)) (hb:(xw d m (line d (first d v))).isSome=false∨(tgW (xw d m (line d (first d v)))).act=3):
 l7 d m p=if v.act=3∨live d (oW m p).1=true∨((xw d m (line d (first d v))).isSome=true∧uq d (fileOf v) (xw d m (line d (first d v)))=[]) then [] else [brT d p (oW m p).1 v]:=by
 rw[UD hv h]
 cases htg:xw d m (line d (first d v)) with
 |none=>simp
 |some x=>
  obtain⟨w,q⟩:=x
  rw[htg] at hb
  have h3:w.act=3:=by simpa[tgW] using hb
  simp[h3]
theorem YS (h:¬((oW m p).2=false∨v.act=5)) {w:Rev} {q:ByteArray} (htg:xw d m (line d (first d v))=some (w,q)) (w3:¬w.act=3):
 l7 d m p=ut (first d v) (uq d (fileOf v) (some (w,q))) (line d (first d v)) w (NT d m p (oW m p).1 w q) 0:=by
 rw[UD hv h,htg]
 simp only
 rw[if_neg w3]
end
theorem Ap (f:bf) (rest:List bf) (ln:List Rev) (w:Rev) (mv:ByteArray):∀n i,(wz f rest ln w mv n i).length≤n
 |0,_=>by simp[wz]
 |n+1,i=>by
  rw[wz]
  split
  ·split
   ·have:=Ap f rest ln w mv n (qB rest ln (ln.getD i af).path i+1);simp only[List.length_cons];omega
   ·have:=Ap f rest ln w mv n (i+1);omega
  ·simp
theorem Qn {d:bJ} (hN:d.revs.length≤512) (m:List eQ) (p:ByteArray):(l7 d m p).length≤512:=by
 have hl:=fun f=>Nat.le_trans (List.length_filter_le (BX d f) d.revs) hN
 unfold l7
 simp only
 split
 ·simp
 ·split
  ·split<;>simp
  ·split
   ·split<;>simp
   ·exact Nat.le_trans (Ap ..) (hl _)
theorem FO {d:bJ} (hN:d.revs.length≤512) (m:List eQ):∀l:List ByteArray,(l.flatMap (l7 d m)).length≤l.length*512
 |[]=>by simp
 |p::l=>by
  have h1:=Qn hN m p
  have h2:=FO hN m l
  simp only[List.flatMap_cons,List.length_append,List.length_cons];omega
theorem Vs {d:bJ} (m:List eQ) (l:List ByteArray) (p:ByteArray):(l++[p]).flatMap (l7 d m)=l.flatMap (l7 d m)++l7 d m p:=by simp[List.flatMap_append]
@[reducible] def brX (f:bf) (p:ByteArray) (fs ls:Int) (t:ByteArray) (h:Int):pz:=⟨1,f.path,f.num,p,fs,ls,t,h,noS,0,noS⟩
theorem emptyS:ByteArray.empty=noS:=rfl
def bsP (ln:List Rev) (i:Nat):ByteArray:=if 0<i then(ln.getD (i-1) af).path else noS
def bsN (ln:List Rev) (i:Nat):Int:=if 0<i then(ln.getD (i-1) af).num else 0
variable [yF]
end Go.Proofs.YtcpgicfphakdaaaGreatDoor
