/- A part of the proof. -/
import Derived.Test.YtcpgicfphakdaaaGreatDoorRU9
import Derived.Test.YtcpgicfphakdaaaGreatDoorRX4
import Derived.Test.YtcpgicfphakdaaaGreatDoorRK17
set_option linter.all false
namespace Go.Proofs.YtcpgicfphakdaaaGreatDoor
section
open Go.Ab Tys
variable [Dr]
@[reducible] def acY:Option (List bV)→Bool×List C
 |none=>(false,[.d (.v (.slice none 0 0))])
 |some l=>(false,[.d (.ps 2 (l.map bU))])
theorem Oi (p q:bV):∀k,(EK p q k).length≤k
 |0=>afJ _
 |k+1=>by
  have:=Oi p q k
  simp only[EK,afI]
  split<;>simp<;>omega
end
section
open Go.Ab Tys
variable [zg]
@[reducible] def VQ (r:bV×Int):Bool×List C:=if r.2=0 then ahj r.1 else(true,[Lt, .d (.v (.bool false))])
theorem zk (ps:List akK) (l:List bV):∀k,(qH ps l k).length=k
 |0=>rfl
 |k+1=>by simp[qH,zk ps l k]
end
section
open Go.Ab Tys
variable [zg]
theorem XB {s:akK} {l:List akK} (h:aG s=some l):∀k,(l.getD k noS).size≤s.size:=by
 intro k
 unfold aG at h
 split at h
 ·rename_i l' hpp
  split at h
  ·cases h
  ·cases h
   unfold jm at hpp
   split at hpp
   ·split at hpp
    ·cases hpp
     rw[adI]
     cases e:(split (s.extract 2 s.size))[k]? with
     |none=>exact aj8 _
     |some v=>
      have h1:=qL _ _ v (aem e)
      rw[aj3] at h1
      simp only[Option.getD_some];omega
    ·cases hpp
   ·cases hpp
 ·cases h
theorem aab (a c:akK):(uA a c).1.size≤c.size:=by
 unfold uA
 split
 ·split
  ·simp only[aj3];omega
  ·exact aj8 _
 ·exact aj8 _
theorem Jc {ps ls:List akK} {n:Nat} (h:∀k,(ls.getD k noS).size≤n):∀k,∀s∈jG ps ls k,s.size≤n
 |0,s,hs=>by simp[jG] at hs
 |k+1,s,hs=>by
  simp only[jG,afs] at hs
  rcases hs with hs|hs
  ·exact Jc h k s hs
  ·split at hs
   ·simp only[aft] at hs
    subst hs
    exact ajo (aab _ _) (h k)
   ·cases hs
theorem VW {s:akK} {l:List akK} (h:aG s=some l):l=split (s.extract 2 s.size)∧2≤s.size:=by
 unfold aG at h
 split at h
 ·rename_i l' hpp
  split at h
  ·cases h
  ·cases h
   unfold jm at hpp
   split at hpp
   ·rename_i hd
    split at hpp
    ·cases hpp
     exact⟨rfl,agw (Bool.and_eq_true_iff.1 hd).1⟩
    ·cases hpp
   ·cases hpp
 ·cases h
theorem Kr:∀t:List UInt8,((dn t).map fun x=>x.length+1).sum=t.length+1
 |[]=>rfl
 |a::l=>by
  have ih:=Kr l
  simp only[dn]
  split
  ·simp only[agV,List.sum_cons,List.length_nil,List.length_cons,ih];omega
  ·obtain⟨h,t,e⟩:=je l
   rw[e] at ih⊢
   simp only[agV,List.sum_cons,List.length_cons] at ih⊢
   omega
theorem ado (L:List Nat) (n:Nat):(L.drop n).sum≤L.sum:=by
 have:=congrArg List.sum (agu n L)
 rw[List.sum_append] at this
 omega
theorem Tn:∀L:List (List UInt8),(Lib.join L [47]).length≤(L.map fun x=>x.length+1).sum
 |[]=>by simp[Lib.join_nil]
 |[a]=>by simp[Lib.join_one]
 |a::b::L=>by
  have ih:=Tn (b::L)
  have e:Lib.join (a::b::L) [47]=a++47::Lib.join (b::L) [47]:=by
   rw[Lib.join_cons,Lib.join_cons]
   simp[Lib.joinTail]
  rw[e,agV,List.sum_cons,afI,List.length_cons]
  omega
set_option maxRecDepth 100000 in
theorem YR {s:akK} {l:List akK} (h:aG s=some l) (n:Nat):(dR (l.drop n) slash).size≤s.size:=by
 obtain⟨rfl,h2⟩:=VW h
 have e:(dR ((split (s.extract 2 s.size)).drop n) slash).size=(Lib.join (((split (s.extract 2 s.size)).drop n).map (·.data.toList)) [47]).length:=rfl
 have hL:((split (s.extract 2 s.size)).drop n).map (fun b:akK=>b.data.toList)=(dn (s.extract 2 s.size).data.toList).drop n:=by
  rw[vU,←List.map_drop,ajM]
  conv=>rhs;rw[←List.map_id ((dn (s.extract 2 s.size).data.toList).drop n)]
  exact ajZ fun _ _=>rfl
 rw[e,hL]
 have h3:=Tn ((dn (s.extract 2 s.size).data.toList).drop n)
 have h4:=ado ((dn (s.extract 2 s.size).data.toList).map fun x=>x.length+1) n
 rw[Kr,←List.map_drop] at h4
 have h5:(s.extract 2 s.size).data.toList.length=s.size-2:=by
  have:(s.extract 2 s.size).size=s.size-2:=by rw[aj3];omega
  rw[←this];rfl
 omega
theorem Wv (p:bV) (s:akK):∀l,fQ p s=some l→p.parts.length≤100000→s.size≤300000→l.length≤400000∧∀c∈l,c.size≤400000:=by
 intro l h hp hs
 unfold fQ at h
 cases hm:aG s with
 |none=>rw[hm] at h;cases h
 |some m=>
  rw[hm] at h
  simp only at h
  split at h
  ·cases h
   have h1:=Fz p.parts m p.parts.length
   constructor
   ·rw[afI];split<;>simp<;>omega
   ·intro c hc
    rcases afs.1 hc with hc|hc
    ·exact ajo (Jc (XB hm) _ c hc) (by omega)
    ·split at hc
     ·simp only[aft] at hc
      subst hc
      exact ajo (YR hm _) (by omega)
     ·cases hc
  ·cases h
theorem ae6 (M:Option (List akK)):∃c:D,jJ M=(false,[.d c]):=by cases M<;>exact⟨_,rfl⟩
end
section
open Go.Ab Tys
variable [Dr]
theorem acP (m:List (Int×List Int)) (n:Int):dC [C.d (.v (.int .i64 n))] ((bz kN vL m).map dJ)=(ai m n).map fun v=>(false,[C.d (.ps 1 (v.map eI))]):=
 gX (ve:=vL) GK m n
theorem ag1 (m:List (Int×List Int)):∀e∈(bz kN vL m).map dJ,e.1.1=false∧cu [.int .i64] e.1.2:=by
 intro e he
 simp only[bz,agh] at he
 obtain⟨_,⟨f,_,rfl⟩,rfl⟩:=he
 exact⟨rfl,by simp[dJ,jY,cu]⟩
@[reducible] def eB (b:Bool):List D:=[.v (.bool b)]
def z42.kk:=p2 (p13 kB kS kM Tryz.ntmps42 Tryz.underlying114 Tryz.underlying55 vG PH uf QX vP I8 I7) (p12 PN J7 YF Yb KD mG IP DU afg aaJ Em Tryz.results42)
set_option maxRecDepth 100000 in
set_option maxHeartbeats 8000000 in
open z42 in
theorem CE (L:jA) (hL:zi L) (la:List (akK×Int)) (me:List (Int×List Int)) (s t:Int) (hs:0≤s∧s<L.revs.length) (ht:0≤t∧t<L.revs.length) (ms:List Int) (hm:ai me (L.fst.getD s.toNat 0)=some ms)
 (hms:∀i∈ms,0≤i∧i<L.revs.length∧∃l,L.con.getD i.toNat none=some l) (hcr:∃l,L.cre.getD t.toNat none=some l) (hml:ms.length≤1000):
 AC Tryz.prog 42 [.c (.pp (uw L la me)),I .i64 s,I .i64 t] [] (fun r st=>r= .tup [(false,[.d (.ps 1 ((upto ms s).map eI))]),(false,[.d (.ps 1 (((upto ms s).map (jh L t)).map eB))])]∧st=[]):=by
 obtain⟨s1,s2⟩:=hs
 have hfl:=hL.fst
 have hil:s.toNat<L.fst.length:=by omega
 have hi2:s<(L.fst.length:Int):=by omega
 have eg:=bH eI L.fst s.toNat 0 hil
 refine df Tryz.func42 Tryz.ntmps42 fun x hx=>?_
 try refine nv ?_
 refine dx ([]) (p3 @eg @acP @hm) ?_ ?_
 ·exact eQ @ag1
 refine aZ ?_
 refine mQ (kH (i:=6) (id:=100) (sz:=1) rfl rfl (by omega)) ?_
 refine fE ?_
 refine mQ (kH (i:=7) (id:=101) (sz:=1) rfl rfl (by omega)) ?_
 refine fE ?_
 refine au (ι:=Nat) (I:=fun k=>⟨56,[(0, .c (.pp (uw L la me))),(1,I .i64 s),(2,I .i64 t),(6, .c (.ms 100 1 0 (ms.take k).length)),(7, .c (.ms 101 1 0 (ms.take k).length)),(21, .c (.d (.ps 1 (ms.map eI)))),(22,I .i64 ms.length),(23,I .i64 k)],
  [(100,ay 1 ((ms.take k).map eI)),(101,ay 1 (((ms.take k).map (jh L t)).map eB))]⟩)
  (Inv:=fun k=>k≤ms.length∧¬s∈ms.take k) (μ:=fun k=>ms.length-k) 0 ⟨by omega,by simp⟩ ?_ ?_
 ·exact bQ
 rintro k ⟨hk,hns⟩
 have hkl:(ms.take k).length=k:=by simp;omega
 try refine nv ?_
 refine aj ?_ ?_
 ·intro hlt
  have hlt':k<ms.length:=by simpa using hlt
  obtain⟨v,hv,he,htk⟩:=round eI ms k 0 hlt'
  obtain⟨v1,v2,c1,hc1⟩:=hms v (aem hv)
  obtain⟨c2,hc2⟩:=hcr
  have hcl1:=hL.con
  have hcl2:=hL.cre
  have e1:=bH jP L.con v.toNat none (by omega)
  have e2:=bH jP L.cre t.toNat none (by omega)
  rw[hc1] at e1
  rw[hc2] at e2
  have hob:(!Zy c1 c2)=jh L t v:=by simp only[jh,hc1,hc2,Option.getD]
  try refine nx @he ?_
  refine dx ([(46,B (Zy c1 c2))]) (p2 @e1 @e2) ?_ ?_
  ·exact eQ (YN c1 c2)
  try refine nv ?_
  refine aj ?_ ?_
  ·intro heq
   have heq':v=s:=by simpa using heq
   have hup:upto ms s=ms.take (k+1):=SC hns (by rw[←heq'];exact hv)
   refine mQ (s':=⟨56,[(6, .c (.ms 100 1 0 (ms.take (k+1)).length)),(7, .c (.ms 101 1 0 (ms.take (k+1)).length))],[(100,ay 1 ((ms.take (k+1)).map eI)),(101,ay 1 (((ms.take (k+1)).map (jh L t)).map eB))]⟩) ?_ ?_
   ·rw[htk]
    exact enS @hob (fun i=>if i=100 then 30 else if i=101 then 49 else i)
   refine aZ ?_
   refine bC (aY (i:=6) (id:=100) (ys:=(ms.take (k+1)).map eI) rfl rfl (by simp)) ?_
   refine fE ?_
   refine bC (aY (i:=7) (id:=101) (ys:=((ms.take (k+1)).map (jh L t)).map eB) rfl rfl (by simp)) ?_
   refine fE ?_
   try refine nv ?_
   refine rA [] ?_
   refine⟨?_,rfl⟩
   rw[hup]
  ·intro hne
   have hne':¬v=s:=by simpa using hne
   try refine nv ?_
   refine⟨k+1,⟨by omega,?_⟩,by omega,?_⟩
   ·rw[htk,afs]
    rintro(h|h)
    ·exact hns h
    ·simp at h;exact hne' h.symm
   ·rw[htk]
    exact enS @hob (fun i=>if i=100 then 30 else if i=101 then 49 else i)
 ·intro hge
  have hge':k=ms.length:=by have:¬k<ms.length:=by simpa using hge
                            omega
  refine aZ ?_
  refine bC (aY (i:=6) (id:=100) (ys:=(ms.take k).map eI) rfl rfl (by simp)) ?_
  refine fE ?_
  refine bC (aY (i:=7) (id:=101) (ys:=((ms.take k).map (jh L t)).map eB) rfl rfl (by simp)) ?_
  refine fE ?_
  try refine nv ?_
  refine rA [] ?_
  refine⟨?_,rfl⟩
  rw[hge',afu] at hns⊢
  rw[OY hns]
end
end Go.Proofs.YtcpgicfphakdaaaGreatDoor
