/- A part of the proof. -/
import Derived.Test.YtcpgicfphakdaaaGreatDoorRT7a
set_option maxRecDepth 100000
set_option maxHeartbeats 8000000
set_option linter.all false
namespace Go.Proofs.YtcpgicfphakdaaaGreatDoor
open Go.Ab Tys
variable [Dr]
def z31.kk:=p11 kB kS Tryz.ntmps31 Tryz.underlying27 kZ iI mf uO rJ ny Tryz.results31
open z31 in
theorem zk (d:bK) (p:ByteArray) (hd:d.revs.length≤1000000):AC Tryz.prog 31 [sH d,Str p] [] (fun r st=>r= .tup [Cc ((eQ d p).getD ai),pB (eQ d p).isSome]∧st=[]):=by
 have hL:(log d p).length≤d.revs.length:=List.length_filter_le ..
 refine bV Tryz.func31 Tryz.ntmps31 fun x hx=>?_
 (repeat (first|refine nv ?_|refine cf (Tv d p hd) ?_))
 refine af ?_ ?_
 ·intro h
  have h':log d p=[]:=by simpa using h
  try refine nv ?_
  refine rA [] ?_
  refine⟨?_,rfl⟩
  simp[eQ,h',ai]
 ·intro h
  have h':log d p≠[]:=by simpa using h
  have hl:0<(log d p).length:=List.length_pos_iff.2 h'
  have hlast:eQ d p=some ((log d p).getD ((log d p).length-1) ai):=by
   rw[eQ,List.getLast?_eq_getElem?,List.getD_eq_getElem?_getD,List.getElem?_eq_getElem (by omega:(log d p).length-1<(log d p).length)];rfl
  have hi:((((log d p).length:Nat):Int)-1).toNat=(log d p).length-1:=by omega
  have he:=bi ax (log d p) ((log d p).length-1) ai (by omega)
  refine aJ ?_
  refine gx (p2 @hi @he) ?_
  refine aJ ?_
  refine rA [] ?_
  refine⟨?_,rfl⟩
  simp[hlast]
def z91.kk:=p13 kB kS Tryz.ntmps91 Tryz.underlying27 kZ iI mf jf uO uK rJ ny Tryz.results91
open z91 in
theorem uF (d:bK) (p:ByteArray) (n:Int) (hd:d.revs.length≤1000000):AC Tryz.prog 91 [sH d,Str p,I .i64 n] [] (fun r st=>r= .tup [Cc ((oQ d p n).getD ai),pB (oQ d p n).isSome]∧st=[]):=by
 have hL:(log d p).length≤d.revs.length:=List.length_filter_le ..
 refine bV Tryz.func91 Tryz.ntmps91 fun x hx=>?_
 (repeat (first|refine nv ?_|refine cf (Tv d p hd) ?_))
 refine ag (ι:=Nat) (I:=fun k=>⟨25,[(2,I .i64 n),(6, .c (.ptr 6 0)),(12,ja (log d p)),(13,I .i64 (log d p).length),(14,I .i64 k)],[(6, .box ((ax ai).map C.d))]⟩)
  (Inv:=fun k=>k≤(log d p).length∧((log d p).take k).find? (fun v=>decide (v.num=n))=none) (μ:=fun k=>(log d p).length-k) 0 ⟨by omega,by simp⟩ ?_ ?_
 ·((try simp only[ai]);exact aW)
 ·rintro k ⟨hk,hbefore⟩
  try refine nv ?_
  refine af ?_ ?_
  ·intro hlt
   have hlt':k<(log d p).length:=by simpa using hlt
   obtain⟨v,hv,he,htk⟩:=round ax (log d p) k ai hlt'
   have hsplit:log d p=(log d p).take k++v::(log d p).drop (k+1):=by
    rw[←List.take_append_drop (k+1) (log d p),htk];simp[List.take_append,List.drop_append,Nat.min_eq_left (Nat.le_of_lt hlt')]
   refine aJ ?_
   refine gx @he ?_
   try refine nv ?_
   refine af ?_ ?_
   ·intro heq
    have heq':v.num=n:=by simpa using heq
    have hg:oQ d p n=some v:=by rw[oQ,hsplit,List.find?_append,hbefore];simp[heq']
    try refine nv ?_
    refine rA [] ?_
    refine⟨?_,rfl⟩
    simp[hg]
   ·intro hne
    have hne':¬v.num=n:=by simpa using hne
    try refine nv ?_
    refine⟨k+1,⟨by omega,?_⟩,by omega,?_⟩
    ·rw[htk,List.find?_append,hbefore];simp[hne']
    ·((try simp only[ai]);exact aW)
  ·intro hge
   have hge':k=(log d p).length:=by have:¬k<(log d p).length:=by simpa using hge
                                    omega
   have hg:oQ d p n=none:=by rw[hge',List.take_length] at hbefore;exact hbefore
   try refine nv ?_
   refine rA [] ?_
   refine⟨?_,rfl⟩
   simp[hg,ai]
def z38.kk:=p10 kB kG Tryz.ntmps38 kZ iI jf uK rJ ny Tryz.results38
open z38 in
theorem Md (d:bK) (p:ByteArray) (hd:d.revs.length≤1000000):AC Tryz.prog 38 [sH d,Str p] [] (fun r st=>r= .tup [pB (live d p),pI (dh d p)]∧st=[]):=by
 refine bV Tryz.func38 Tryz.ntmps38 fun x hx=>?_
 (repeat (first|refine nv ?_|refine cf (zk d p hd) ?_))
 refine dr ([(17,B (gone ((eQ d p).getD ai)))]) ?_ ?_
 ·exact gI @NR
 refine aJ ?_
 refine rA [] ?_
 refine⟨?_,rfl⟩
 cases h:eQ d p<;>simp[live,dh,h]
def z85.kk:=XD kB kS Tryz.ntmps85 kZ iI jD jf jA NF MO uK rJ ny jy Tryz.results85
open z85 in
theorem NI (d:bK) (v:Rev) (hd:d.revs.length≤1000000):AC Tryz.prog 85 [sH d,MS v] [] (fun r st=>r= .tup [Cc ((jQ d v).getD ai),pB (jQ d v).isSome]∧st=[]):=by
 refine bV Tryz.func85 Tryz.ntmps85 fun x hx=>?_
 try refine nv ?_
 refine af ?_ ?_
 ·intro h
  have h':v.act=1:=by simpa using h
  try refine nv ?_
  refine rA [] ?_
  refine⟨?_,rfl⟩
  simp[jQ,h',ai]
 ·intro h
  have h':¬v.act=1:=by simpa using h
  try refine nv ?_
  refine af ?_ ?_
  ·intro h4
   have h4':v.act=4:=by simpa using h4
   (repeat (first|refine nv ?_|refine cf (uF d v.frm v.fnum hd) ?_))
   refine rA [] ?_
   refine⟨?_,rfl⟩
   simp[jQ,h4']
  ·intro h4
   have h4':¬v.act=4:=by simpa using h4
   refine aJ ?_
   refine dR (wr:=true) 400 (by simp only[kk,Nat.reduceAdd,Nat.reduceLT,Nat.reduceEqDiff, ↓reduceIte,reduceCtorEq];first|done|rfl) (by first|exact trivial|(simp only[kO];omega)|(simp[All,dI];first|done|omega)|(simp+contextual [All,dI];first|done|grind)) ?_
   (repeat (first|refine nv ?_|refine cf (uF d v.path (wr (v.num-1)) hd) ?_))
   refine rA [] ?_
   refine⟨?_,rfl⟩
   simp[jQ,h',h4']
def z33.kk:=p2 (p9 kB kG kS Tryz.ntmps33 kZ lL iI nZ oI) (p9 jD jf BD uK rJ sK ny jy Tryz.results33)
open z33 in
theorem rW (d:bK) (v:Rev) (hd:d.revs.length≤1000000):AC Tryz.prog 33 [sH d,MS v] [] (fun r st=>r=uI (first d v)∧st=[]):=by
 refine bV Tryz.func33 Tryz.ntmps33 fun x hx=>?_
 try refine nv ?_
 refine ag (ι:=Rev) (I:=fun u=>⟨28,[(2, .c (.ptr 2 0)),(3, .c (.ptr 3 0)),(4, .c (.ptr 4 0))],[(2, .box ((fD d).map C.d)),(3, .box ((ax u).map C.d)),(4, .box ((fJ Em).map C.d))]⟩)
  (Inv:=fun u=>first d u=first d v) (μ:=fun u=>cnt d u.chg) v rfl ?_ ?_
 ·((try simp only[Em]);exact aW)
 ·intro u hu
  refine aJ ?_
  refine gg ?_
  refine oG [] (by simp) (by simp only[iV,kk,Nat.reduceAdd,Nat.reduceLT,Nat.reduceEqDiff, ↓reduceIte,reduceCtorEq];first|done|rfl) ⟨by simp,by simp,by simp[aZ,dH,aN,aO,bF]⟩ (NI d u hd) ?_
  rintro r st' ⟨rfl,rfl⟩
  refine⟨by simp[lC],?_⟩
  simp only[kP,Nat.reduceEqDiff, ↓reduceIte,reduceCtorEq]
  cases hp:jQ d u with
  |none=>
   refine wX (wr:=false) (by simp only[kk,Nat.reduceAdd,Nat.reduceLT,Nat.reduceEqDiff, ↓reduceIte,reduceCtorEq,Option.isSome];first|done|rfl) ?_
   try refine nv ?_
   refine af ?_ ?_
   ·intro _
    try refine nv ?_
    refine rA [] ?_
    refine⟨?_,rfl⟩
    rw[←hu,ji hp];simp[fileOf]
   ·intro h;simp at h
  |some u'=>
   refine wX (wr:=false) (by simp only[kk,Nat.reduceAdd,Nat.reduceLT,Nat.reduceEqDiff, ↓reduceIte,reduceCtorEq,Option.isSome];first|done|rfl) ?_
   try refine nv ?_
   refine af ?_ ?_
   ·intro h
    have hc:u.chg≤u'.chg:=by simpa using h
    try refine nv ?_
    refine rA [] ?_
    refine⟨?_,rfl⟩
    rw[←hu,Xy hp hc];simp[fileOf]
   ·intro h
    have hc:u'.chg<u.chg:=by simpa using h
    try refine nv ?_
    refine⟨u',?_,cnt_lt (zQ hp) hc,?_⟩
    ·rw[←hu,A8 hp hc]
    ·((try simp only[Em]);exact aW)
@[reducible] def vL (l:List Int):Bool×List D:=(false,[.ps 1 (l.map eI)])
@[reducible] def sG (L:jv) (la:List (ByteArray×Int)) (me:List (Int×List Int)):List D:=
 [.ps 12 (L.revs.map ax), .pm (bJ kF vI L.index), .pm (bJ Bg vI la), .ps 1 (L.prev.map eI), .ps 1 (L.fst.map eI), .pm (bJ kN vL me), .ps 1 (L.car.map jM), .ps 1 (L.con.map jM), .ps 1 (L.cre.map jM)]
def z41.kk:=p2 (p9 kB kG kM Tryz.ntmps41 lL sV Aj zn uq) (p8 xA KJ uK sK Ji VI CJ Tryz.results41)
open z41 in
theorem Kr (L:jv) (hL:yY L) (la:List (ByteArray×Int)) (me:List (Int×List Int)) (f:bP):
 AC Tryz.prog 41 [.c (.pp (sG L la me)),uI f] [] (fun r st=>(∃i:Int,r= .tup [pI i,pB (rG L f).isSome]∧∀k,rG L f=some k→i=k)∧st=[]):=by
 cases hk:aB L.index f with
 |none=>
  have hm:rG L f=none:=by simp[rG,hk]
  rw[hm]
  cases hf:L.fst with
  |nil=>
   refine bV Tryz.func41 Tryz.ntmps41 fun x hx=>?_
   try refine nv ?_
   refine DD (wr:=false) ([]:List (Nat×AV)) (by simp only[kD,kk,Nat.reduceAdd,Nat.reduceLT,Nat.reduceEqDiff, ↓reduceIte,reduceCtorEq,mV,hk,Option.map_none,Option.isSome];first|done|rfl) ?_ ?_
   ·exact gI @xU
   refine aJ ?_
   refine dx ([]) (p2 @hf @List.getD_nil.{0}) ?_ ?_
   ·exact rC
   try refine nv ?_
   refine rA [] ?_
   refine⟨?_,rfl⟩
   exact⟨0,rfl,fun k h=>by cases h⟩
  |cons a l=>
   refine bV Tryz.func41 Tryz.ntmps41 fun x hx=>?_
   try refine nv ?_
   refine DD (wr:=false) ([]:List (Nat×AV)) (by simp only[kD,kk,Nat.reduceAdd,Nat.reduceLT,Nat.reduceEqDiff, ↓reduceIte,reduceCtorEq,mV,hk,Option.map_none,Option.isSome];first|done|rfl) ?_ ?_
   ·exact gI @xU
   refine aJ ?_
   refine dx ([]) (p2 @hf @Int.toNat_zero) ?_ ?_
   ·exact rC
   try refine nv ?_
   refine rA [] ?_
   refine⟨?_,rfl⟩
   exact⟨0,rfl,fun k h=>by cases h⟩
 |some i=>
  obtain⟨i1,i2⟩:=hL.ix _ _ hk
  have hcl:=hL.fst
  have hil:i.toNat<L.fst.length:=by omega
  have hi2:i<(L.fst.length:Int):=by omega
  have eg:=bi eI L.fst i.toNat 0 hil
  refine bV Tryz.func41 Tryz.ntmps41 fun x hx=>?_
  try refine nv ?_
  refine DD (wr:=false) ([]:List (Nat×AV)) (by simp only[kD,kk,Nat.reduceAdd,Nat.reduceLT,Nat.reduceEqDiff, ↓reduceIte,reduceCtorEq,mV,hk,Option.isSome];first|done|rfl) ?_ ?_
  ·exact gI @xU
  refine aJ ?_
  refine dx ([]) @eg ?_ ?_
  ·exact rC
  try refine nv ?_
  refine rA [] ?_
  refine⟨?_,rfl⟩
  refine⟨i,?_,fun k h=>?_⟩
  ·simp only[rG,hk]
   generalize L.fst.getD i.toNat 0=z
   by_cases h:0≤z<;>simp[h]
  ·simp only[rG,hk] at h
   split at h
   ·cases h;rfl
   ·cases h
end Go.Proofs.YtcpgicfphakdaaaGreatDoor
