/- A part of the proof. -/
import Derived.Test.YtcpgicfphakdaaaGreatDoorRX10
import Derived.Test.YtcpgicfphakdaaaGreatDoorRL1
set_option linter.all false
namespace Go.Proofs.YtcpgicfphakdaaaGreatDoor
open Go.Ab Tys
variable [yF]
def hF (x:eQ) (h:bH):Option bH:=if(o9 x.line h).2.1 then some (o9 x.line h).1.right else none
def hOK (x:eQ) (h:bH):Bool:=decide ((o9 x.line h).2.2=0)
theorem Dj (x:eQ):∀l:List bH,kz x l=if l.all (hOK x) then some (l.filterMap (hF x)) else none
 |[]=>rfl
 |h::l=>by
  have ih:=Dj x l
  by_cases e:(o9 x.line h).2.2=0
  ·have ha:(h::l).all (hOK x)=l.all (hOK x):=by simp[hOK,e]
   rw[ha,kz,if_pos e,ih]
   have hf:(h::l).filterMap (hF x)=if(o9 x.line h).2.1 then(o9 x.line h).1.right::l.filterMap (hF x) else l.filterMap (hF x):=by
    rw[List.filterMap_cons,hF]
    cases(o9 x.line h).2.1<;>rfl
   rw[hf]
   cases(o9 x.line h).2.1<;>cases l.all (hOK x)<;>rfl
  ·have ha:(h::l).all (hOK x)=false:=by simp[hOK,e]
   rw[ha,kz,if_neg e];rfl
theorem aaK (x:eQ) (l:List bH) (v:bH):(l++[v]).filterMap (hF x)=l.filterMap (hF x)++(hF x v).toList:=by
 rw[List.filterMap_append,List.filterMap_cons]
 cases hF x v<;>rfl
theorem Ol {n:Nat} {p q:bH} (h1:1≤n) (hp:PB n p) (hq:PB n q):∀b∈(jS p q).getD [],PB n b:=by
 cases h:jS p q with
 |none=>intro b hb;simp at hb
 |some l=>exact(Ny h1 hp hq h).2
theorem aaW {n:Nat} {r:IK} {p:bH} (hn:12≤n) (hl:PB n r.left) (hr:PB n r.right) (hp:PB n p):PB (2*n) (o9 r p).1.right:=by
 unfold o9
 split
 ·split
  ·cases hm:jF r.left p with
   |none=>exact rE _
   |some m=>
    simp only
    split
    ·exact UH hn hr (Ol (by omega) hl (Hu hl hp hm))
    ·exact rE _
  ·exact rE _
 ·exact rE _
@[reducible] def I5:List C:=[G9, .d (.v (.bool false)),G9]
@[reducible] def Yr:Option Iz→Bool×List C
 |none=>(true,I5)
 |some g=>adu g
end Go.Proofs.YtcpgicfphakdaaaGreatDoor
namespace Go.Proofs.YtcpgicfphakdaaaGreatDoor
open Go.Ab Tys
variable [yF]
theorem EB.mono {n m:Nat} {e:eQ} (h:EB n e) (hm:n≤m):EB m e:=⟨h.left.mono hm,h.right.mono hm,Nat.le_trans h.len hm,fun x hx=>(h.holes x hx).mono hm⟩
def clB (x y:eQ):Bool:=kT x.BR y.BR||kT ((CB x).getD ace) ((CB y).getD ace)
structure FV (m:List eQ):Prop where
 ent:∀e∈m,gm e.line=0∧lD e.BR=0
 len:m.length≤32
 right:∀e∈m,(CB e).isSome=true
 apart:∀(i j:Nat) (x y:eQ),j<i→m[i]? =some x→m[j]? =some y→clB x y=false
theorem uJ {g:Iz} (h:lD g=0):g.holes.length≤64:=by
 unfold lD at h
 split at h
 ·split at h
  ·split at h
   ·omega
   ·omega
  ·omega
 ·omega
structure EB1 (e:eQ):Prop where
 left:PB 10000 e.left
 right:PB 10000 e.right
 len:e.holes.length≤1000000
 holes:∀h∈e.holes,PB 10000 h
theorem EB1.eb {e:eQ} (h:EB1 e) (hc:lD e.BR=0):EB 10000 e:=⟨h.left,h.right,by have:=uJ hc;simp only[eQ.BR] at this;omega,h.holes⟩
end Go.Proofs.YtcpgicfphakdaaaGreatDoor
