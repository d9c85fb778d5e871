/- A part of the proof. -/
import Derived.Test.YtpoodoknkbojgaaGreatDoorRP12
set_option linter.all false
namespace Go.Proofs.YtpoodoknkbojgaaGreatDoor
open Go.Ab
theorem Pi {d:eQ} (hg:Good d.revs) {f:yG} {w:Rev}:Ci d f.path f.num=some w↔∃j:Nat,d.revs[j]? =some w∧fileOf w=f∧¬w.act=5:=by
 unfold Ci
 cases h:uN d f.path f.num with
 |none=>
  simp only[reduceCtorEq,false_iff,not_exists]
  rintro j ⟨h1,h2,_⟩
  rw[(xx hg).2 ⟨j,h1,h2⟩] at h;cases h
 |some v=>
  obtain⟨i,h1,h2⟩:=(xx hg).1 h
  simp only
  constructor
  ·intro hw
   split at hw
   ·cases hw
   ·cases hw;exact⟨i,h1,h2,by assumption⟩
  ·rintro⟨j,g1,g2,g3⟩
   have:=su hg h1 g1 (by rw[h2,g2])
   subst this;rw[h1] at g1;cases g1;rw[if_neg g3]
def Be (A B:SS):Prop:=(∀g,A.car g↔B.car g)∧(∀g,A.con g↔B.con g)∧(∀g,A.cre g↔B.cre g)
theorem Be.refl (A:SS):Be A A:=⟨fun _=>Iff.rfl,fun _=>Iff.rfl,fun _=>Iff.rfl⟩
theorem Be.trans {A B C:SS} (h:Be A B) (k:Be B C):Be A C:=⟨fun g=>(h.1 g).trans (k.1 g),fun g=>(h.2.1 g).trans (k.2.1 g),fun g=>(h.2.2 g).trans (k.2.2 g)⟩
theorem Be.symm {A B:SS} (h:Be A B):Be B A:=⟨fun g=>(h.1 g).symm,fun g=>(h.2.1 g).symm,fun g=>(h.2.2 g).symm⟩
theorem KN {α:Type} (l:List α) (i j:Nat) (z:α) (hi:i<l.length) (hj:j<l.length):((l.set i (l.getD j z)).set j (l.getD i z)).Perm l:=by
 have:=List.set_set_perm hi hj
 simpa[List.getD,hi,hj] using this
theorem xY:∀(k:Nat) (l:List iR),k<l.length→(tZ k l).Perm l
 |0,l,_=>List.Perm.refl _
 |k+1,l,h=>by
  rw[tZ]
  split
  ·exact(xY k _ (by simp;omega)).trans (KN l (k+1) k rM h (by omega))
  ·exact List.Perm.refl _
theorem xR (l:List iR):∀k,k≤l.length→(zY l k).Perm l
 |0,_=>List.Perm.refl _
 |k+1,h=>(xY k _ (by rw[oO];omega)).trans (xR l k (by omega))
theorem rP (l:List iR) (r:iR):r∈Gl l↔r∈l:=(xR l l.length (Ui _)).mem_iff
section
variable {d:eQ} {c:uA} (hg:Good d.revs) (hN:d.revs.length≤512) (hk:vZ d c)
include hg hN hk
theorem uY {i:Nat} (hi:i<d.revs.length):(gV d c).revs[i]? =d.revs[i]?:=by
 simp only[gV];rw[UX hi]
theorem Gi {a:Nat} (ha:a<c.edits.length):(gV d c).revs[d.revs.length+a]? =some (made c (c.edits.getD a dh)):=by
 simp only[gV]
 rw[Vd (by omega),U6,UB,TT ha]
 simp[List.getD,ha]
theorem JL {i a:Nat} {v:Rev} (hv:d.revs[i]? =some v) (ha:a<c.edits.length):fileOf v≠fileOf (made c (c.edits.getD a dh)):=by
 intro e
 have hi:=(Ue.1 hv).1
 have:=su (Es hg hN hk) (by rw[uY hg hN hk hi];exact hv) (Gi hg hN hk ha) e
 omega
theorem KZ {i:Nat} {v:Rev} (hv:d.revs[i]? =some v) (r:iR):r∈zF (gV d c) (fileOf v)↔r∈zF d (fileOf v):=by
 simp only[zF,UD,gV,rP,Uw,TW]
 constructor
 ·rintro⟨h|h,e⟩
  ·exact⟨h,e⟩
  ·exfalso
   obtain⟨j,hj,er⟩:=UA.1 h
   have h0:=hk.recd j hj
   rw[show c.recs.getD j rM=r by simp[List.getD,hj,er]] at h0
   obtain⟨x,hx,⟨t1,t2,t3⟩,_⟩:=h0.okTgt
   obtain⟨a,ha,ea⟩:=UA.1 hx
   have hx':c.edits.getD a dh=x:=by simp[List.getD,ha,ea]
   refine JL hg hN hk hv ha ?_
   rw[hx',←e]
   simp only[fileOf,made,t1,t2]
 ·rintro⟨h,e⟩;exact⟨.inl h,e⟩
end
section
variable {d:eQ} (hg:Good d.revs) (hN:d.revs.length≤512)
include hg hN
end
structure MN where
 kind:Int
 lpath:VJ
 lnum:Int
 frm:VJ
 first:Int
 last:Int
 to:VJ
 head:Int
 bpath:VJ
 bnum:Int
 move:VJ
def MN.line (t:MN):yG:=⟨t.lpath,t.lnum⟩
@[reducible] def noS:VJ:={data:= #[]}
def qi (p:VJ):Bool:=(gZ p).isSome&&decide (p.size≤200)
def SI (d:eQ) (p:VJ) (n:Int):Option yG:=(Ci d p n).map (first d)
def OZ (d:eQ) (t:MN):Prop:=∀n:Int,t.first≤n→n≤t.last→SI d t.frm n=some t.line
def MV (d:eQ) (t:MN):Rev:=(uN d t.frm t.last).getD Js
def J6 (d:eQ) (t:MN):Bool:=decide ((MV d t).act=3)
def Qo (d:eQ) (t:MN):Bool:=decide (t.move=noS)||(qi t.move&&!live d t.move&&!decide (t.move=t.to))
def JX (d:eQ) (t:MN):Bool:=if t.kind=1 then !live d t.to&&!J6 d t&&decide (t.move=noS) else live d t.to&&!decide (SI d t.to t.head=some t.line)&&(J6 d t==decide (t.kind=3))&&Qo d t
structure Fits (d:eQ) (t:MN):Prop where
 kind:1≤t.kind∧t.kind≤3
 lo:1≤t.first
 le:t.first≤t.last
 run:OZ d t
 use:qi t.to=true
 head:dn d t.to=t.head
 rest:JX d t=true
def uo (d:eQ):Prop:=∀v∈d.revs,v.num≤(log d v.path).length
theorem uo.last {d:eQ} (h:uo d) (p:VJ):dn d p≤(log d p).length:=by
 unfold dn
 cases hl:sW d p with
 |none=>simp[Js]
 |some v=>
  obtain⟨j,h1,h2,_⟩:=oC hl
  have:=h v (TZ h1)
  rw[h2] at this;exact this
theorem Jq {d:eQ} {c:uA} (hg:Good d.revs) (hN:d.revs.length≤512) (h:uo d) (hk:vZ d c):uo (gV d c):=by
 intro v hv
 have hlog:(log (gV d c) v.path).length=(log d v.path).length+((c.edits.map (made c)).filter fun u=>decide (u.path=v.path)).length:=by
  simp only[log,gV,VE,Uo]
 simp only[gV,Uw] at hv
 rcases hv with hv|hv
 ·have:=h v hv;rw[hlog];omega
 ·have hpos:0<((c.edits.map (made c)).filter fun u=>decide (u.path=v.path)).length:=List.length_pos_of_mem (UD.2 ⟨hv,by simp⟩)
  obtain⟨e,he,rfl⟩:=Uy.1 hv
  obtain⟨i,hi,e2⟩:=UA.1 he
  have hE:=hk.edit i hi
  rw[show c.edits.getD i dh=e by simp[List.getD,hi,e2]] at hE
  have h1:=hE.okPrev
  have h2:=pY hg e.path
  have h3:=h.last e.path
  have hw:wr (e.prev+1)=e.prev+1:=LV (by omega) (by omega)
  rw[hlog]
  simp only[made] at hpos⊢
  rw[hw]
  omega
theorem jk.QG {l:List uA} {d:eQ} (h:jk l d):uo d:=by
 induction h with
 |nil=>intro r hr;simp[KA] at hr
 |skip c h ih=>exact ih
 |app h hc hk ih=>exact Jq h.good h.ok.1 ih hk
end Go.Proofs.YtpoodoknkbojgaaGreatDoor
