/- A part of the proof. -/
import Derived.Test.YtcpgicfphakdaaaGreatDoorRAbRm
import Derived.Test.YtcpgicfphakdaaaGreatDoorRF2
set_option maxRecDepth 100000
set_option maxHeartbeats 4000000
set_option linter.all false
namespace Go.Proofs.YtcpgicfphakdaaaGreatDoor
open Go.Ab Tys
variable [Dr]
def z31.kk:=p11 kB kS Tryz.ntmps31 Tryz.underlying27 iH dM jQ qU ny iq Tryz.results31
open z31 in
theorem Qn (d:aW) (p:akK) (hd:d.revs.length≤1000000):AC Tryz.prog 31 [lT d,Str p] [] (fun r st=>r= .tup [CY ((aU d p).getD ag),pB (aU d p).isSome]∧st=[]):=by
 have hL:(log d p).length≤d.revs.length:=ajy ..
 refine df Tryz.func31 Tryz.ntmps31 fun x hx=>?_
 (repeat (first|refine nv ?_|refine cf (Vr d p hd) ?_))
 refine aj ?_ ?_
 ·intro h
  have h':log d p=[]:=by simpa using h
  try refine nv ?_
  refine rA [] ?_
  refine⟨?_,rfl⟩
  simp[aU,h',ag]
 ·intro h
  have h':log d p≠[]:=by simpa using h
  have hl:0<(log d p).length:=akj.2 h'
  have hlast:aU d p=some ((log d p).getD ((log d p).length-1) ag):=by
   rw[aU,List.getLast?_eq_getElem?,adI,adH (by omega:(log d p).length-1<(log d p).length)];rfl
  have hi:((((log d p).length:Nat):Int)-1).toNat=(log d p).length-1:=by omega
  have he:=bH aA (log d p) ((log d p).length-1) ag (by omega)
  refine aZ ?_
  refine gx (p2 @hi @he) ?_
  refine aZ ?_
  refine rA [] ?_
  refine⟨?_,rfl⟩
  simp[hlast]
def z91.kk:=p13 kB kS Tryz.ntmps91 Tryz.underlying27 iH dM jQ fK qU mG ny iq Tryz.results91
open z91 in
theorem zW (d:aW) (p:akK) (n:Int) (hd:d.revs.length≤1000000):AC Tryz.prog 91 [lT d,Str p,I .i64 n] [] (fun r st=>r= .tup [CY ((iE d p n).getD ag),pB (iE d p n).isSome]∧st=[]):=by
 have hL:(log d p).length≤d.revs.length:=ajy ..
 refine df Tryz.func91 Tryz.ntmps91 fun x hx=>?_
 (repeat (first|refine nv ?_|refine cf (Vr d p hd) ?_))
 refine au (ι:=Nat) (I:=fun k=>⟨25,[(2,I .i64 n),(6, .c (.ptr 6 0)),(12,qI (log d p)),(13,I .i64 (log d p).length),(14,I .i64 k)],[(6, .box ((aA ag).map C.d))]⟩)
  (Inv:=fun k=>k≤(log d p).length∧((log d p).take k).find? (fun v=>decide (v.num=n))=none) (μ:=fun k=>(log d p).length-k) 0 ⟨by omega,by simp⟩ ?_ ?_
 ·(refine bi (fun i=>i) rfl ?_ ⟨?_,?_,?_,bW hx (by simp[ae,Ab.get])⟩<;>first|(simp only[kE,ay, ↓reduceIte,Nat.reduceEqDiff,reduceCtorEq,ag];done)|simp[aH,ax,ah,Ab.get,aJ,cZ,aB,bF,aS,aO,aQ,aT,aP,ae,List.flatten,ag])
 ·rintro k ⟨hk,hbefore⟩
  try refine nv ?_
  refine aj ?_ ?_
  ·intro hlt
   have hlt':k<(log d p).length:=by simpa using hlt
   obtain⟨v,hv,he,htk⟩:=round aA (log d p) k ag hlt'
   have hsplit:log d p=(log d p).take k++v::(log d p).drop (k+1):=by
    rw[←agu (k+1) (log d p),htk];simp[List.take_append,List.drop_append,Nat.min_eq_left (Nat.le_of_lt hlt')]
   refine aZ ?_
   refine gx @he ?_
   try refine nv ?_
   refine aj ?_ ?_
   ·intro heq
    have heq':v.num=n:=by simpa using heq
    have hg:iE d p n=some v:=by rw[iE,hsplit,List.find?_append,hbefore];simp[heq']
    try refine nv ?_
    refine rA [] ?_
    refine⟨?_,rfl⟩
    simp[hg]
   ·intro hne
    have hne':¬v.num=n:=by simpa using hne
    try refine nv ?_
    refine⟨k+1,⟨by omega,?_⟩,by omega,?_⟩
    ·rw[htk,List.find?_append,hbefore];simp[hne']
    ·(refine bi (fun i=>i) rfl ?_ ⟨?_,?_,?_,bW hx (by simp[ae,Ab.get])⟩<;>first|(simp only[kE,ay, ↓reduceIte,Nat.reduceEqDiff,reduceCtorEq,ag];done)|simp[aH,ax,ah,Ab.get,aJ,cZ,aB,bF,aS,aO,aQ,aT,aP,ae,List.flatten,ag])
  ·intro hge
   have hge':k=(log d p).length:=by have:¬k<(log d p).length:=by simpa using hge
                                    omega
   have hg:iE d p n=none:=by rw[hge',afu] at hbefore;exact hbefore
   try refine nv ?_
   refine rA [] ?_
   refine⟨?_,rfl⟩
   simp[hg,ag]
def z38.kk:=p10 kB kG Tryz.ntmps38 iH dM fK mG ny iq Tryz.results38
open z38 in
theorem XD (d:aW) (p:akK) (hd:d.revs.length≤1000000):AC Tryz.prog 38 [lT d,Str p] [] (fun r st=>r= .tup [pB (live d p),pI (bf d p)]∧st=[]):=by
 refine df Tryz.func38 Tryz.ntmps38 fun x hx=>?_
 (repeat (first|refine nv ?_|refine cf (Qn d p hd) ?_))
 refine dr ([(17,B (gone ((aU d p).getD ag)))]) ?_ ?_
 ·exact eQ @PG
 refine aZ ?_
 refine rA [] ?_
 refine⟨?_,rfl⟩
 cases h:aU d p<;>simp[live,bf,h]
def z85.kk:=U6 kB kS Tryz.ntmps85 iH dM jg fK iF Bj AP mG ny iq jB Tryz.results85
open z85 in
theorem XY (d:aW) (v:Rev) (hd:d.revs.length≤1000000):AC Tryz.prog 85 [lT d,BL v] [] (fun r st=>r= .tup [CY ((gB d v).getD ag),pB (gB d v).isSome]∧st=[]):=by
 refine df Tryz.func85 Tryz.ntmps85 fun x hx=>?_
 try refine nv ?_
 refine aj ?_ ?_
 ·intro h
  have h':v.act=1:=by simpa using h
  try refine nv ?_
  refine rA [] ?_
  refine⟨?_,rfl⟩
  simp[gB,h',ag]
 ·intro h
  have h':¬v.act=1:=by simpa using h
  try refine nv ?_
  refine aj ?_ ?_
  ·intro h4
   have h4':v.act=4:=by simpa using h4
   (repeat (first|refine nv ?_|refine cf (zW d v.frm v.fnum hd) ?_))
   refine rA [] ?_
   refine⟨?_,rfl⟩
   simp[gB,h4']
  ·intro h4
   have h4':¬v.act=4:=by simpa using h4
   refine aZ ?_
   refine dD (wr:=true) 400 (by simp only[kk,Nat.reduceAdd,Nat.reduceLT,Nat.reduceEqDiff, ↓reduceIte,reduceCtorEq];first|done|rfl) (by first|exact trivial|(simp only[kO];omega)|(simp[All,dB];first|done|omega)|(simp+contextual [All,dB];first|done|grind)) ?_
   (repeat (first|refine nv ?_|refine cf (zW d v.path (wr (v.num-1)) hd) ?_))
   refine rA [] ?_
   refine⟨?_,rfl⟩
   simp[gB,h',h4']
def z33.kk:=p2 (p9 kB kG kS Tryz.ntmps33 iH oG dM kQ kT) (p9 jg fK yB mG ny xK iq jB Tryz.results33)
open z33 in
theorem Jf (d:aW) (v:Rev) (hd:d.revs.length≤1000000):AC Tryz.prog 33 [lT d,BL v] [] (fun r st=>r=BO (first d v)∧st=[]):=by
 refine df Tryz.func33 Tryz.ntmps33 fun x hx=>?_
 try refine nv ?_
 refine au (ι:=Rev) (I:=fun u=>⟨28,[(2, .c (.ptr 2 0)),(3, .c (.ptr 3 0)),(4, .c (.ptr 4 0))],[(2, .box ((iY d).map C.d)),(3, .box ((aA u).map C.d)),(4, .box ((iR uI).map C.d))]⟩)
  (Inv:=fun u=>first d u=first d v) (μ:=fun u=>cnt d u.chg) v rfl ?_ ?_
 ·(refine bi (fun i=>i) rfl ?_ ⟨?_,?_,?_,bW hx (by simp[ae,Ab.get])⟩<;>first|(simp only[kE,ay, ↓reduceIte,Nat.reduceEqDiff,reduceCtorEq,uI];done)|simp[aH,ax,ah,Ab.get,aJ,cZ,aB,bF,aS,aO,aQ,aT,aP,ae,List.flatten,uI])
 ·intro u hu
  refine aZ ?_
  refine gg ?_
  refine oU [] (by simp) (by simp only[jv,kk,Nat.reduceAdd,Nat.reduceLT,Nat.reduceEqDiff, ↓reduceIte,reduceCtorEq];first|done|rfl) ⟨by simp,by simp,by simp[aJ,cZ,aB,aV,bT]⟩ (XY d u hd) ?_
  rintro r st' ⟨rfl,rfl⟩
  refine⟨by simp[lH],?_⟩
  simp only[kP,Nat.reduceEqDiff, ↓reduceIte,reduceCtorEq]
  cases hp:gB d u with
  |none=>
   refine Gl (wr:=false) (by simp only[kk,Nat.reduceAdd,Nat.reduceLT,Nat.reduceEqDiff, ↓reduceIte,reduceCtorEq,Option.isSome];first|done|rfl) ?_
   try refine nv ?_
   refine aj ?_ ?_
   ·intro _
    try refine nv ?_
    refine rA [] ?_
    refine⟨?_,rfl⟩
    rw[←hu,fM hp];simp[fileOf]
   ·intro h;simp at h
  |some u'=>
   refine Gl (wr:=false) (by simp only[kk,Nat.reduceAdd,Nat.reduceLT,Nat.reduceEqDiff, ↓reduceIte,reduceCtorEq,Option.isSome];first|done|rfl) ?_
   try refine nv ?_
   refine aj ?_ ?_
   ·intro h
    have hc:u.chg≤u'.chg:=by simpa using h
    try refine nv ?_
    refine rA [] ?_
    refine⟨?_,rfl⟩
    rw[←hu,Zo hp hc];simp[fileOf]
   ·intro h
    have hc:u'.chg<u.chg:=by simpa using h
    try refine nv ?_
    refine⟨u',?_,cnt_lt (Bc hp) hc,?_⟩
    ·rw[←hu,qj hp hc]
    ·(refine bi (fun i=>i) rfl ?_ ⟨?_,?_,?_,bW hx (by simp[ae,Ab.get])⟩<;>first|(simp only[kE,ay, ↓reduceIte,Nat.reduceEqDiff,reduceCtorEq,uI];done)|simp[aH,ax,ah,Ab.get,aJ,cZ,aB,bF,aS,aO,aQ,aT,aP,ae,List.flatten,uI])
end Go.Proofs.YtcpgicfphakdaaaGreatDoor
