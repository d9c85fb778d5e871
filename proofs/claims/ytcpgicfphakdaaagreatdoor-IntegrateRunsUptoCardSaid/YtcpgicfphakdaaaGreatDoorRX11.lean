/- A part of the proof. -/
import Derived.Test.YtcpgicfphakdaaaGreatDoorRPD
import Derived.Test.YtcpgicfphakdaaaGreatDoorRX3
import Derived.Test.YtcpgicfphakdaaaGreatDoorRP14
set_option linter.all false
namespace Go.Proofs.YtcpgicfphakdaaaGreatDoor
open Go.Ab Tys
variable [Dr]
def z7.kk:=p2 (RJ kB kG Tryz.ntmps7 Tryz.underlying22 Tryz.underlying28 Tryz.underlying60 Tryz.underlying9 Du zk FC abp DD Kv yJ) (p13 EP yK Bo Ak EE acM IW We PE IY Qz kC Tryz.results7)
set_option maxRecDepth 100000 in
set_option maxHeartbeats 16000000 in
open z7 in
theorem X6 (l:List oD) (hf:Few l):
 AC Tryz.prog 7 [.c (.d (.ps 5 (l.map fJ)))] [] (fun r st=>(∃b:Bool,r=B b∧(b=true→l.length≤40∧tot l≤200∧∀c∈l,sC c))∧st=[]):=by
 have hlen:=hf.len
 have htot:=hf.tot
 refine dA Tryz.func7 Tryz.ntmps7 fun x hx=>?_
 try refine nv ?_
 refine ax (ι:=Nat) (I:=fun k=>⟨65,[(0, .c (.d (.ps 5 (l.map fJ)))),(3,I .i64 (tot (l.take k))),(10, .c (.d (.ps 5 (l.map fJ)))),(11,I .i64 l.length),(12,I .i64 k)],[]⟩)
  (Inv:=fun k=>k≤l.length∧∀c∈l.take k,sC c) (μ:=fun k=>l.length-k) 0 ⟨by omega,by simp⟩ ?_ ?_
 ·(refine bI (fun i=>i) rfl ?_ ⟨?_,?_,?_,di hx (by simp[ae,Ab.get])⟩<;>first|(simp only[kE,aK, ↓reduceIte,Nat.reduceEqDiff,reduceCtorEq,tot];done)|simp[aW,aA,ag,Ab.get,aH,cu,aB,bD,aS,aQ,aU,aP,aT,ae,List.flatten,tot])
 rintro k ⟨hk,hall⟩
 have htk0:=PZ l k
 try refine nv ?_
 refine aj ?_ ?_
 ·intro hlt
  have hlt':k<l.length:=by simpa using hlt
  obtain⟨c,hc,he,htk⟩:=round fJ l k acS hlt'
  have hm:=List.mem_of_getElem? hc
  have htm:=SG hm
  have htk1:=PZ l (k+1)
  have e1:tot (l.take (k+1))=tot (l.take k)+(c.edits.length+c.recs.length):=by rw[htk,Gu];simp[tot]
  have e2:(((tot (l.take k):Nat):Int)+(((c.edits.length:Nat):Int)+((c.recs.length:Nat):Int)))=((tot (l.take (k+1)):Nat):Int):=by rw[e1];omega
  try refine nx (p2 @he @e2) ?_
  refine ax (ι:=Nat) (I:=fun j=>⟨65,[(0, .c (.d (.ps 5 (l.map fJ)))),(3,I .i64 (tot (l.take (k+1)))),(5, .c (.ptr 5 0)),(10, .c (.d (.ps 5 (l.map fJ)))),(11,I .i64 l.length),(12,I .i64 k),(26, .c (.d (.ps 12 (c.edits.map fM)))),(27,I .i64 c.edits.length),(28,I .i64 j)],[(5, .box ((fJ c).map C.d))]⟩)
   (Inv:=fun j=>j≤c.edits.length∧∀e∈c.edits.take j,sE e) (μ:=fun j=>c.edits.length-j) 0 ⟨by omega,by simp⟩ ?_ ?_
  ·exact cO
  rintro j ⟨hj,hej⟩
  try refine nv ?_
  refine aj ?_ ?_
  ·intro hlt2
   have hlt2':j<c.edits.length:=by simpa using hlt2
   obtain⟨y,hy,hey,hty⟩:=round fM c.edits j dU hlt2'
   have hys:=hf.es c hm y (List.mem_of_getElem? hy)
   try refine nx @hey ?_
   refine aj ?_ ?_
   ·intro _
    try refine nv ?_
    refine rA [] ?_
    refine⟨?_,rfl⟩
    exact⟨_,rfl,fun h=>by cases h⟩
   intro hb
   have hb':sE y:=by simp at hb;unfold sE;omega
   try refine nv ?_
   refine⟨j+1,⟨by omega,?_⟩,by omega,?_⟩
   ·intro u hu
    rw[hty,List.mem_append] at hu
    rcases hu with hu|hu
    ·exact hej u hu
    ·simp at hu;rw[hu];exact hb'
   ·exact cO
  intro hge2
  have hge2':j=c.edits.length:=by have:¬j<c.edits.length:=by simpa using hge2
                                  omega
  rw[hge2',List.take_length] at hej
  try refine nv ?_
  refine ax (ι:=Nat) (I:=fun j=>⟨65,[(0, .c (.d (.ps 5 (l.map fJ)))),(3,I .i64 (tot (l.take (k+1)))),(10, .c (.d (.ps 5 (l.map fJ)))),(11,I .i64 l.length),(12,I .i64 k),(42, .c (.d (.ps 6 (c.recs.map bi)))),(43,I .i64 c.recs.length),(44,I .i64 j)],[]⟩)
   (Inv:=fun j=>j≤c.recs.length∧∀e∈c.recs.take j,sR e) (μ:=fun j=>c.recs.length-j) 0 ⟨by omega,by simp⟩ ?_ ?_
  ·exact cO
  rintro j2 ⟨hj2,hrj⟩
  try refine nv ?_
  refine aj ?_ ?_
  ·intro hlt2
   have hlt2':j2<c.recs.length:=by simpa using hlt2
   obtain⟨y,hy,hey,hty⟩:=round bi c.recs j2 lZ hlt2'
   have hys:=hf.rs c hm y (List.mem_of_getElem? hy)
   try refine nx @hey ?_
   refine aj ?_ ?_
   ·intro _
    try refine nv ?_
    refine rA [] ?_
    refine⟨?_,rfl⟩
    exact⟨_,rfl,fun h=>by cases h⟩
   intro hb
   have hb':sR y:=by simp at hb;unfold sR;omega
   try refine nv ?_
   refine⟨j2+1,⟨by omega,?_⟩,by omega,?_⟩
   ·intro u hu
    rw[hty,List.mem_append] at hu
    rcases hu with hu|hu
    ·exact hrj u hu
    ·simp at hu;rw[hu];exact hb'
   ·exact cO
  intro hge3
  have hge3':j2=c.recs.length:=by have:¬j2<c.recs.length:=by simpa using hge3
                                  omega
  rw[hge3',List.take_length] at hrj
  try refine nv ?_
  refine⟨k+1,⟨by omega,?_⟩,by omega,?_⟩
  ·intro u hu
   rw[htk,List.mem_append] at hu
   rcases hu with hu|hu
   ·exact hall u hu
   ·simp at hu;rw[hu];exact⟨hej,hrj⟩
  ·exact cO
 intro hge
 have hge':k=l.length:=by have:¬k<l.length:=by simpa using hge
                          omega
 rw[hge',List.take_length] at hall
 try refine nv ?_
 refine rA [] ?_
 refine⟨?_,rfl⟩
 refine⟨_,rfl,fun h=>?_⟩
 rw[hge',List.take_length] at h
 simp at h
 exact⟨by omega,by omega,hall⟩
end Go.Proofs.YtcpgicfphakdaaaGreatDoor
namespace Go.Proofs.YtcpgicfphakdaaaGreatDoor
open Go.Ab Tys
variable [yF]
theorem zH (ps cs:List ByteArray):∀k,(jg ps cs k).length=k
 |0=>rfl
 |k+1=>by simp[jg,zH ps cs k]
theorem Ko {n:Nat} {l:List ByteArray} (h:∀s∈l,s.size≤n) (k:Nat):(l.getD k noS).size≤n:=by
 rw[List.getD_eq_getElem?_getD]
 cases e:l[k]? with
 |none=>exact Nat.zero_le _
 |some s=>exact h s (List.mem_of_getElem? e)
theorem GM {ps cs:List ByteArray} (h1:∀s∈ps,s.size≤100000) (h2:∀s∈cs,s.size≤400000):∀k,∀s∈jg ps cs k,s.size≤500000
 |0,s,h=>by simp[jg] at h
 |k+1,s,h=>by
  simp only[jg,List.mem_append,List.mem_singleton] at h
  rcases h with h|rfl
  ·exact GM h1 h2 k s h
  ·have a:=Ko h1 k
   have b:=Ko h2 (aC (ps.take k))
   have c:=wO (ps.getD k noS)
   split
   ·rw[ByteArray.size_append];omega
   ·omega
theorem F6 {ps:List ByteArray} {k:Nat} {v:ByteArray} (h:ps[k]? =some v):aC (ps.take (k+1))=aC (ps.take k)+(if aX v then 1 else 0):=by
 rw[List.take_add_one,h]
 simp only[aC,Option.toList,List.filter_append,List.length_append,List.filter_cons,List.filter_nil]
 split<;>simp
theorem Zk (ps:List ByteArray) (k:Nat):aC (ps.take k)≤aC ps:=by
 have:=List.take_append_drop k ps
 conv=>rhs;rw[←this]
 simp only[aC,List.filter_append,List.length_append];omega
theorem D5 (ps cs:List ByteArray) (k:Nat):o7 ps cs (k+1)=(o7 ps cs k&&(!aX (ps.getD k noS)||comp (cs.getD (aC (ps.take k)) noS))):=by
 simp[o7,List.range_succ,List.all_append]
theorem Vp {ps cs:List ByteArray} {k n:Nat} (hk:k<n) (h:(!aX (ps.getD k noS)||comp (cs.getD (aC (ps.take k)) noS))=false):o7 ps cs n=false:=by
 cases e:o7 ps cs n
 ·rfl
 ·have:=jm n k _ hk e
  rw[h] at this;cases this
end Go.Proofs.YtcpgicfphakdaaaGreatDoor
namespace Go.Proofs.YtcpgicfphakdaaaGreatDoor
open Go.Ab Tys
variable [yF]
end Go.Proofs.YtcpgicfphakdaaaGreatDoor
