/- A part of the proof. -/
import Derived.Test.YtcpgicfphakdaaaGreatDoorRV2
import Derived.Test.YtcpgicfphakdaaaGreatDoorRK15
import Derived.Test.YtcpgicfphakdaaaGreatDoorRR3
set_option linter.all false
namespace Go.Proofs.YtcpgicfphakdaaaGreatDoor
open Go.Ab Tys
def tgW (tg:Option (Rev×akK)):Rev:=(tg.map (·.1)).getD ag
@[reducible] def aaG (l:List jo):AV:= .c (.d (.ps 11 (l.map ik)))
@[reducible] def Ht (l:List jo):Bool×List C:=(false,[.d (.ps 11 (l.map ik))])
section
variable {d:aW} {m:List fA} {p:akK} {v:Rev} (hv:aU d p=some v)
include hv
theorem ab7 (h:(nG m p).2=false∨v.act=5):rC d m p=[]:=by
 unfold rC;rw[hv];simp only[Option.getD_some];rw[if_pos h]
theorem X8 (h:¬((nG m p).2=false∨v.act=5)):rC d m p=
 match oV d m (line d (first d v)) with
 |none=>if v.act=3∨live d (nG m p).1=true then [] else [brT d p (nG m p).1 v]
 |some (w,q)=>
  if w.act=3 then(if v.act=3∨live d (nG m p).1=true∨zS d (fileOf v) (oV d m (line d (first d v)))=[] then [] else [brT d p (nG m p).1 v])
  else zF (first d v) (zS d (fileOf v) (oV d m (line d (first d v)))) (line d (first d v)) w (S9 d m p (nG m p).1 w q) 0:=by
 unfold rC;rw[hv];simp only[Option.getD_some];rw[if_neg h]
 cases oV d m (line d (first d v))<;>rfl
theorem aeO (h:¬((nG m p).2=false∨v.act=5)) (hb:(oV d m (line d (first d v))).isSome=false∨(tgW (oV d m (line d (first d v)))).act=3):
 rC d m p=if v.act=3∨live d (nG m p).1=true∨((oV d m (line d (first d v))).isSome=true∧zS d (fileOf v) (oV d m (line d (first d v)))=[]) then [] else [brT d p (nG m p).1 v]:=by
 rw[X8 hv h]
 cases htg:oV d m (line d (first d v)) with
 |none=>simp
 |some x=>
  obtain⟨w,q⟩:=x
  rw[htg] at hb
  have h3:w.act=3:=by simpa[tgW] using hb
  simp[h3]
theorem abO (h:¬((nG m p).2=false∨v.act=5)) {w:Rev} {q:akK} (htg:oV d m (line d (first d v))=some (w,q)) (w3:¬w.act=3):
 rC d m p=zF (first d v) (zS d (fileOf v) (some (w,q))) (line d (first d v)) w (S9 d m p (nG m p).1 w q) 0:=by
 rw[X8 hv h,htg]
 simp only
 rw[if_neg w3]
end
theorem EH (f:bJ) (rest:List bJ) (ln:List Rev) (w:Rev) (mv:akK):∀n i,(CW f rest ln w mv n i).length≤n
 |0,_=>by simp[CW]
 |n+1,i=>by
  rw[CW]
  split
  ·split
   ·have:=EH f rest ln w mv n (uD rest ln (ln.getD i ag).path i+1);simp only[List.length_cons];omega
   ·have:=EH f rest ln w mv n (i+1);omega
  ·simp
theorem UM {d:aW} (hN:d.revs.length≤512) (m:List fA) (p:akK):(rC d m p).length≤512:=by
 have hl:=fun f=>ajo (ajy (o7 d f) d.revs) hN
 unfold rC
 simp only
 split
 ·simp
 ·split
  ·split<;>simp
  ·split
   ·split<;>simp
   ·exact ajo (EH ..) (hl _)
theorem JI {d:aW} (hN:d.revs.length≤512) (m:List fA):∀l:List akK,(l.flatMap (rC d m)).length≤l.length*512
 |[]=>by simp
 |p::l=>by
  have h1:=UM hN m p
  have h2:=JI hN m l
  simp only[List.flatMap_cons,afI,List.length_cons];omega
theorem ZR {d:aW} (m:List fA) (l:List akK) (p:akK):(l++[p]).flatMap (rC d m)=l.flatMap (rC d m)++rC d m p:=by simp[List.flatMap_append]
@[reducible] def brX (f:bJ) (p:akK) (fs ls:Int) (t:akK) (h:Int):jo:=⟨1,f.path,f.num,p,fs,ls,t,h,noS,0,noS⟩
theorem emptyS:ByteArray.empty=noS:=rfl
def bsP (ln:List Rev) (i:Nat):akK:=if 0<i then(ln.getD (i-1) ag).path else noS
def bsN (ln:List Rev) (i:Nat):Int:=if 0<i then(ln.getD (i-1) ag).num else 0
variable [zg]
end Go.Proofs.YtcpgicfphakdaaaGreatDoor
