/- A part of the proof. -/
import Derived.Test.YtcpgicfphakdaaaGreatDoorRK20
import Derived.Test.YtcpgicfphakdaaaGreatDoorRX13
set_option linter.all false
namespace Go.Proofs.YtcpgicfphakdaaaGreatDoor
open Go.Ab Tys
variable [yF]
theorem Ue {s:ByteArray} {l:List ByteArray} (h:aJ s=some l):∀k,(l.getD k noS).size≤s.size:=by
 intro k
 unfold aJ at h
 split at h
 ·rename_i l' hpp
  split at h
  ·cases h
  ·cases h
   unfold iT at hpp
   split at hpp
   ·split at hpp
    ·cases hpp
     rw[List.getD_eq_getElem?_getD]
     cases e:(split (s.extract 2 s.size))[k]? with
     |none=>exact Nat.zero_le _
     |some v=>
      have h1:=oQ _ _ v (List.mem_of_getElem? e)
      rw[ByteArray.size_extract] at h1
      simp only[Option.getD_some];omega
    ·cases hpp
   ·cases hpp
 ·cases h
theorem UR (a c:ByteArray):(qw a c).1.size≤c.size:=by
 unfold qw
 split
 ·split
  ·simp only[ByteArray.size_extract];omega
  ·exact Nat.zero_le _
 ·exact Nat.zero_le _
theorem Ia {ps ls:List ByteArray} {n:Nat} (h:∀k,(ls.getD k noS).size≤n):∀k,∀s∈iR ps ls k,s.size≤n
 |0,s,hs=>by simp[iR] at hs
 |k+1,s,hs=>by
  simp only[iR,List.mem_append] at hs
  rcases hs with hs|hs
  ·exact Ia h k s hs
  ·split at hs
   ·simp only[List.mem_singleton] at hs
    subst hs
    exact Nat.le_trans (UR _ _) (h k)
   ·cases hs
theorem Rn {s:ByteArray} {l:List ByteArray} (h:aJ s=some l):l=split (s.extract 2 s.size)∧2≤s.size:=by
 unfold aJ at h
 split at h
 ·rename_i l' hpp
  split at h
  ·cases h
  ·cases h
   unfold iT at hpp
   split at hpp
   ·rename_i hd
    split at hpp
    ·cases hpp
     exact⟨rfl,of_decide_eq_true (Bool.and_eq_true_iff.1 hd).1⟩
    ·cases hpp
   ·cases hpp
 ·cases h
theorem GL:∀t:List UInt8,((bZ t).map fun x=>x.length+1).sum=t.length+1
 |[]=>rfl
 |a::l=>by
  have ih:=GL l
  simp only[bZ]
  split
  ·simp only[List.map_cons,List.sum_cons,List.length_nil,List.length_cons,ih];omega
  ·obtain⟨h,t,e⟩:=gX l
   rw[e] at ih⊢
   simp only[List.map_cons,List.sum_cons,List.length_cons] at ih⊢
   omega
theorem Zv (L:List Nat) (n:Nat):(L.drop n).sum≤L.sum:=by
 have:=congrArg List.sum (List.take_append_drop n L)
 rw[List.sum_append] at this
 omega
theorem Pv:∀L:List (List UInt8),(Lib.join L [47]).length≤(L.map fun x=>x.length+1).sum
 |[]=>by simp[Lib.join_nil]
 |[a]=>by simp[Lib.join_one]
 |a::b::L=>by
  have ih:=Pv (b::L)
  have e:Lib.join (a::b::L) [47]=a++47::Lib.join (b::L) [47]:=by
   rw[Lib.join_cons,Lib.join_cons]
   simp[Lib.joinTail]
  rw[e,List.map_cons,List.sum_cons,List.length_append,List.length_cons]
  omega
set_option maxRecDepth 100000 in
theorem WI {s:ByteArray} {l:List ByteArray} (h:aJ s=some l) (n:Nat):(dL (l.drop n) slash).size≤s.size:=by
 obtain⟨rfl,h2⟩:=Rn h
 have e:(dL ((split (s.extract 2 s.size)).drop n) slash).size=(Lib.join (((split (s.extract 2 s.size)).drop n).map (·.data.toList)) [47]).length:=rfl
 have hL:((split (s.extract 2 s.size)).drop n).map (fun b:ByteArray=>b.data.toList)=(bZ (s.extract 2 s.size).data.toList).drop n:=by
  rw[rC,←List.map_drop,List.map_map]
  conv=>rhs;rw[←List.map_id ((bZ (s.extract 2 s.size).data.toList).drop n)]
  exact List.map_congr_left fun _ _=>rfl
 rw[e,hL]
 have h3:=Pv ((bZ (s.extract 2 s.size).data.toList).drop n)
 have h4:=Zv ((bZ (s.extract 2 s.size).data.toList).map fun x=>x.length+1) n
 rw[GL,←List.map_drop] at h4
 have h5:(s.extract 2 s.size).data.toList.length=s.size-2:=by
  have:(s.extract 2 s.size).size=s.size-2:=by rw[ByteArray.size_extract];omega
  rw[←this];rfl
 omega
theorem Rj (p:bH) (s:ByteArray):∀l,eP p s=some l→p.parts.length≤100000→s.size≤300000→l.length≤400000∧∀c∈l,c.size≤400000:=by
 intro l h hp hs
 unfold eP at h
 cases hm:aJ s with
 |none=>rw[hm] at h;cases h
 |some m=>
  rw[hm] at h
  simp only at h
  split at h
  ·cases h
   have h1:=Dc p.parts m p.parts.length
   constructor
   ·rw[List.length_append];split<;>simp<;>omega
   ·intro c hc
    rcases List.mem_append.1 hc with hc|hc
    ·exact Nat.le_trans (Ia (Ue hm) _ c hc) (by omega)
    ·split at hc
     ·simp only[List.mem_singleton] at hc
      subst hc
      exact Nat.le_trans (WI hm _) (by omega)
     ·cases hc
  ·cases h
theorem aac (M:Option (List ByteArray)):∃c:D,iJ M=(false,[.d c]):=by cases M<;>exact⟨_,rfl⟩
end Go.Proofs.YtcpgicfphakdaaaGreatDoor
namespace Go.Proofs.YtcpgicfphakdaaaGreatDoor
open Go.Ab Tys
variable [yF]
theorem PX {n:Nat} {p q:bH} (hp:PB n p) (hq:PB n q):∀k,∀s∈iL p q k,s.size≤n
 |0,s,h=>by simp[iL] at h
 |k+1,s,h=>by
  simp only[iL,List.mem_append,List.mem_singleton] at h
  rcases h with h|rfl
  ·exact PX hp hq k s h
  ·split
   ·exact hp.get k
   ·exact hq.get k
theorem Om {n:Nat} {p q m:bH} (hp:PB n p) (hq:PB n q) (h:wS p q=some m):PB n m:=by
 unfold wS at h
 split at h
 ·cases h
 ·split at h
  ·cases h
   exact⟨by simp only[lQ];exact hp.1,PX hp hq _⟩
  ·cases h
theorem Hu {n:Nat} {p q m:bH} (hp:PB n p) (hq:PB n q) (h:jF p q=some m):PB n m:=by
 unfold jF at h
 split at h
 ·split at h
  ·exact Om hq hp h
  ·exact Om hp hq h
 ·cases h
theorem Qb {n:Nat} {p q:bH} (h1:1≤n) (hq:PB n q):∀k,∀b∈BB p q k,PB n b
 |0,b,h=>by simp[BB] at h
 |k+1,b,h=>by
  simp only[BB,List.mem_append] at h
  rcases h with h|h
  ·exact Qb h1 hq k b h
  ·split at h
   ·simp only[List.mem_singleton] at h
    subst h
    refine⟨by simpa using h1,?_⟩
    intro s hs
    simp only[List.mem_singleton] at hs
    subst hs
    have:=hq.get k
    rw[ByteArray.size_extract];omega
   ·cases h
theorem Ny {n:Nat} {p q:bH} {l:List bH} (h1:1≤n) (hp:PB n p) (hq:PB n q) (h:jS p q=some l):l.length≤n+1∧∀b∈l,PB n b:=by
 unfold jS at h
 split at h
 ·cases h
  constructor
  ·have:=JY p q p.parts.length
   have:=hp.1
   rw[List.length_append];split<;>simp<;>omega
  ·intro b hb
   rcases List.mem_append.1 hb with hb|hb
   ·exact Qb h1 hq _ b hb
   ·split at hb
    ·simp only[List.mem_singleton] at hb
     subst hb
     exact⟨by simp only[List.length_drop];have:=hq.1;omega,fun s hs=>hq.2 s (List.mem_of_mem_drop hs)⟩
    ·cases hb
 ·cases h
theorem KO {n:Nat} {p:bH} {l:List bH} (hp:PB n p) (hl:∀b∈l,PB n b):∀k,∀s∈oN p.parts l k,s.size≤2*n
 |0,s,h=>by simp[oN] at h
 |k+1,s,h=>by
  simp only[oN,List.mem_append,List.mem_singleton] at h
  rcases h with h|rfl
  ·exact KO hp hl k s h
  ·have a:=hp.get k
   have c:=wO (p.parts.getD k noS)
   split
   ·have b:((l.getD (aC (p.parts.take k)) dm).parts.getD 0 noS).size≤n:=by
     rw[List.getD_eq_getElem?_getD (l:=l)]
     cases e:l[aC (p.parts.take k)]? with
     |none=>exact Nat.zero_le _
     |some b=>exact(hl b (List.mem_of_getElem? e)).get 0
    rw[ByteArray.size_append];omega
   ·omega
theorem ZV {n:Nat} {l:List bH} (hl:∀b∈l,PB n b) (k:Nat):PB n (l.getD k dm):=by
 rw[List.getD_eq_getElem?_getD]
 cases e:l[k]? with
 |none=>exact⟨Nat.zero_le _,fun s hs=>by simp[dm] at hs⟩
 |some b=>exact hl b (List.mem_of_getElem? e)
theorem TV {n:Nat} {p:bH} (hs:∀s∈p.parts,s.size≤n) (hn:12≤n):PB n (IU p).1:=by
 unfold IU
 split
 ·exact⟨Nat.zero_le _,fun s hs=>by simp[dm] at hs⟩
 ·rename_i h;exact⟨by simp only;omega,hs⟩
theorem rE (n:Nat):PB n dm:=⟨Nat.zero_le _,fun s hs=>by simp[dm] at hs⟩
theorem UH {n:Nat} {p:bH} {l:List bH} (hn:12≤n) (hp:PB n p) (hl:∀b∈l,PB n b):PB (2*n) (iI p l).1:=by
 unfold iI
 split
 ·split
  ·split
   ·split
    ·split
     ·refine TV ?_ (by omega)
      intro s hs
      rcases List.mem_append.1 hs with h|h
      ·exact KO hp hl _ s h
      ·have:=(ZV hl (aC p.parts)).2 s h;omega
     ·exact rE _
    ·exact TV (KO hp hl _) (by omega)
   ·exact rE _
  ·exact rE _
 ·exact rE _
@[reducible] def YH:List C:=[.d (.v (.bool false)),G9, .d (.v (.bool false)),G9, .d (.v (.bool false))]
@[reducible] def adJ (x:IK×Bool×Int):AV:= .tup [if x.2.1 then acA x.1 else(true,YH),pB x.2.1,pI x.2.2]
structure EB (n:Nat) (e:eQ):Prop where
 left:PB n e.left
 right:PB n e.right
 len:e.holes.length≤n
 holes:∀h∈e.holes,PB n h
end Go.Proofs.YtcpgicfphakdaaaGreatDoor
