/- A part of the proof. -/
import Derived.Test.YtcpgicfphakdaaaGreatDoorRL3a
set_option maxRecDepth 100000
set_option maxHeartbeats 4000000
set_option linter.all false
namespace Go.Proofs.YtcpgicfphakdaaaGreatDoor
open Go.Ab Tys
variable [Dr]
theorem Nz {s:ByteArray}:hasPrefix s qi=true↔1≤s.size∧byteAt s 0=42:=by
 have e1:qi.size=1:=rfl
 simp only[hasPrefix,Bool.and_eq_true,decide_eq_true_eq,e1]
 constructor
 ·rintro⟨h1,h2⟩
  refine⟨h1,?_⟩
  rw[←Bl (n:=1) (by omega) h1,h2]
  rfl
 ·rintro⟨h1,h2⟩
  refine⟨h1,?_⟩
  apply ByteArray.ext
  simp only[qi,ByteArray.data_extract]
  have hsz:0<s.data.size:=h1
  apply Array.ext
  ·simp;omega
  ·intro i h3 h4
   have:i=0:=by simp at h4;omega
   subst this
   simp only[byteAt,Array.getD_eq_getD_getElem?,Array.getElem?_eq_getElem hsz] at h2
   have h2':s.data[0].toNat=42:=by
    have h1:((s.data[0].toNat:Nat):Int)=42:=by simpa using h2
    omega
   simp only[Array.getElem_extract,Nat.zero_add,List.getElem_toArray,List.getElem_cons_zero]
   exact UInt8.toNat_inj.1 h2'
theorem Eh {s:ByteArray}:aP s=(hasPrefix s qi&&(List.range s.size).all fun k=>decide (k=0)||okB (byteAt s k)):=by
 unfold aP
 congr 1
 rw[Bool.eq_iff_iff,Nz]
 simp only[Bool.not_eq_true',Bool.or_eq_false_iff,decide_eq_false_iff_not,Bool.not_eq_false',decide_eq_true_eq]
 constructor
 ·rintro⟨h1,h2⟩;exact⟨nG h1,h2⟩
 ·rintro⟨h1,h2⟩
  refine⟨?_,h2⟩
  rintro rfl
  simp[ByteArray.size] at h1
theorem qj {s:ByteArray} (h:dE s=true):hasPrefix s qi=aP s:=by
 rcases qc h with h|⟨h,hc⟩
 ·rw[h]
  rw[Eh,Bool.and_eq_true] at h
  exact h.1
 ·rw[h]
  cases e:hasPrefix s qi with
  |false=>rfl
  |true=>
   obtain⟨h1,h2⟩:=Nz.1 e
   have:=rM hc 0 (by omega)
   rw[h2] at this
   have e4:okB 42=false:=by kernel_rfl
   rw[e4] at this;cases this
def xG (s:ByteArray):Int:=if comp s then 1 else if aP s then 2 else 0
def adW.kk:=p3 kB Tryz.ntmps144 Tryz.results144
open adW in
theorem nR (s:ByteArray):AC Tryz.prog 144 [Str s] [] (fun r st=>r=B (hasPrefix s qi)∧st=[]):=by
 refine bV Tryz.func144 Tryz.ntmps144 fun x hx=>?_
 (repeat (first|refine nv ?_|refine cf (qK s qi) ?_))
 refine rA [] ?_
 refine⟨?_,rfl⟩
 rfl
def aeZ.kk:=p5 kB Tryz.ntmps199 Tryz.underlying9 jy Tryz.results199
open aeZ in
theorem Jz (s:ByteArray) (hs:s.size≤1000000):AC Tryz.prog 199 [Str s] [] (fun r st=>r=I .i64 (xG s)∧st=[]):=by
 have hc:=oL s hs
 have hp:=qK s qi
 refine bV Tryz.func199 Tryz.ntmps199 fun x hx=>?_
 (repeat (first|refine nv ?_|refine cf (hc) ?_))
 refine af ?_ ?_
 ·intro h
  try refine nv ?_
  refine rA [] ?_
  refine⟨?_,rfl⟩
  rw[xG,if_pos h]
 intro h
 have hn:¬comp s=true:=by rw[h];simp
 (repeat (first|refine nv ?_|refine cf (hp) ?_))
 refine af ?_ ?_
 ·intro h2
  have h3:aP s=false:=by rw[Eh];simp at h2;rw[h2];rfl
  try refine nv ?_
  refine rA [] ?_
  refine⟨?_,rfl⟩
  rw[xG,if_neg hn,if_neg (by rw[h3];simp)]
 intro h2
 have h2':hasPrefix s qi=true:=by simpa using h2
 have h1:=(Nz.1 h2').1
 try refine nv ?_
 refine ag (ι:=Nat) (I:=fun k=>⟨22,[(0,Str s),(3,I .i64 k)],[]⟩) (Inv:=fun k=>1≤k∧k≤s.size∧∀j,1≤j→j<k→okB (byteAt s j)=true) (μ:=fun k=>s.size-k) 1 ⟨by omega,by omega,by omega⟩ ?_ ?_
 ·exact aW
 rintro k ⟨hk1,hk,hall⟩
 try refine nv ?_
 refine af ?_ ?_
 ·intro hlt
  have hlt':k<s.size:=by simpa using hlt
  have hb0:=lD hlt'
  (repeat (first|refine nv ?_|refine cf (JC (byteAt s k) (by simp[byteAt]) (by simp only[byteAt];have:=(s.data.getD k 0).toNat_lt;omega)) ?_))
  refine af ?_ ?_
  ·intro hb
   have hb':okB (byteAt s k)=false:=by simpa using hb
   have h3:=ER hk1 hlt' hb'
   try refine nv ?_
   refine rA [] ?_
   refine⟨?_,rfl⟩
   rw[xG,if_neg hn,if_neg (by rw[h3];simp)]
  ·intro hb
   try refine nv ?_
   refine⟨k+1,⟨by omega,by omega,?_⟩,by omega,?_⟩
   ·intro j j1 hj
    rcases Nat.lt_succ_iff_lt_or_eq.1 hj with hj|rfl
    ·exact hall j j1 hj
    ·simpa using hb
   ·exact aW
 intro hge
 have hk':k=s.size:=by have:¬k<s.size:=by simpa using hge
                       omega
 have h3:aP s=true:=by
  rw[Eh,h2',Bool.true_and,List.all_eq_true]
  intro j hj
  have hj:=List.mem_range.1 hj
  by_cases e:j=0
  ·simp[e]
  ·simp[hall j (by omega) (by omega)]
 try refine nv ?_
 refine rA [] ?_
 refine⟨?_,rfl⟩
 rw[xG,if_neg hn,if_pos h3]
def gdP (ps:List ByteArray) (j:Nat):Bool:=if j=0 then comp (ps.getD 0 noS) else dE (ps.getD j noS)
theorem YG {ps:List ByteArray} {j:Nat}:gdP ps j=(!decide (xG (ps.getD j noS)=0)&&!(decide (xG (ps.getD j noS)=2)&&decide (j=0))):=by
 unfold gdP xG dE
 by_cases e:j=0
 ·subst e
  cases h:comp (ps.getD 0 noS) with
  |true=>simp
  |false=>cases h2:aP (ps.getD 0 noS)<;>simp
 ·rw[if_neg e]
  cases h:comp (ps.getD j noS) with
  |true=>simp[e]
  |false=>cases h2:aP (ps.getD j noS)<;>simp[e]
theorem Iu {ps:List ByteArray} {rs:Bool} {j:Nat} (hj:j<ps.length) (h:gdP ps j=false):aS ⟨ps,rs⟩=30:=by
 unfold aS
 split
 ·rfl
 rename_i hc
 simp only[not_or] at hc
 unfold gdP at h
 by_cases e:j=0
 ·rw[if_pos e] at h;exact absurd h hc.2.2
 ·rw[if_neg e] at h
  rw[if_neg]
  intro ha
  rw[List.all_eq_true] at ha
  have hm:ps.getD j noS∈ps.drop 1:=by
   rw[List.getD_eq_getElem?_getD,List.getElem?_eq_getElem hj,Option.getD_some,List.mem_iff_getElem]
   exact⟨j-1,by simp;omega,by simp[show j-1+1=j by omega]⟩
  rw[ha _ hm] at h;cases h
theorem PU {ps:List ByteArray} {rs:Bool} (h0:¬(ps.length=0∨(ps.length=1∧rs=false))) (h:∀j,j<ps.length→gdP ps j=true):aS ⟨ps,rs⟩=if 12<ps.length then 31 else 0:=by
 simp only[not_or] at h0
 have hz:comp (ps.getD 0 noS)=true:=by have:=h 0 (by omega);simpa[gdP] using this
 unfold aS
 rw[if_neg,if_pos]
 ·rw[List.all_eq_true]
  intro x hx
  obtain⟨i,hi,rfl⟩:=List.mem_iff_getElem.1 hx
  simp only[List.length_drop] at hi
  have:=h (i+1) (by omega)
  simp only[gdP,show ¬i+1=0 by omega,if_false] at this
  rw[List.getD_eq_getElem?_getD,List.getElem?_eq_getElem (by omega)] at this
  simpa[List.getElem_drop,Nat.add_comm] using this
 ·simp only[not_or]
  exact⟨h0.1,h0.2,by rw[hz];simp⟩
def aeO.kk:=p13 kB kG Tryz.ntmps142 Tryz.underlying74 df eH dW gV yR jO fM jy Tryz.results142
open aeO in
theorem lK (p:aX) (hp:PB 1000000 p):AC Tryz.prog 142 [aPat p] [] (fun r st=>r=I .i64 (aS p)∧st=[]):=by
 obtain⟨ps,rs⟩:=p
 have h1:=hp.1
 simp only at h1
 refine bV Tryz.func142 Tryz.ntmps142 fun x hx=>?_
 try refine nv ?_
 refine af ?_ ?_
 ·intro h
  have h':ps.length=0∨(ps.length=1∧rs=false):=by
   by_cases e:ps.length=0
   ·exact .inl e
   have e':decide ((ps.length:Int)=0)=false:=decide_eq_false (by omega)
   simp only[e',cond_false] at h
   by_cases e1:ps.length=1
   ·cases rs
    ·exact .inr ⟨e1,rfl⟩
    ·simp at h
   ·have e2:decide ((ps.length:Int)=1)=false:=decide_eq_false (by omega)
    simp only[e2,cond_false] at h;cases h
  try refine nv ?_
  refine rA [] ?_
  refine⟨?_,rfl⟩
  unfold aS
  rw[if_pos (by rcases h' with h|h;exact .inl h;exact .inr (.inl h))]
 intro h
 have h':¬(ps.length=0∨(ps.length=1∧rs=false)):=by
  by_cases e:ps.length=0
  ·have e':decide ((ps.length:Int)=0)=true:=decide_eq_true (by omega)
   simp only[e',cond_true] at h;cases h
  rintro(h9|⟨h9,rfl⟩)
  ·exact e h9
  have e':decide ((ps.length:Int)=0)=false:=decide_eq_false (by omega)
  have e2:decide ((ps.length:Int)=1)=true:=decide_eq_true (by omega)
  simp only[e',e2,cond_false,cond_true,Bool.not_false] at h;cases h
 try refine nv ?_
 refine ag (ι:=Nat) (I:=fun k=>⟨41,[(1, .c (.ptr 1 0)),(21,dJ ps),(22,I .i64 ps.length),(23,I .i64 k)],[(1, .box ((au ⟨ps,rs⟩).map C.d))]⟩)
  (Inv:=fun k=>k≤ps.length∧∀j,j<k→gdP ps j=true) (μ:=fun k=>ps.length-k) 0 ⟨by omega,by omega⟩ ?_ ?_
 ·exact aW
 rintro k ⟨hk,hall⟩
 try refine nv ?_
 refine af ?_ ?_
 ·intro hlt
  have hlt':k<ps.length:=by simpa using hlt
  obtain⟨v,hv,he,htk⟩:=round encS ps k noS hlt'
  have hvs:v.size≤1000000:=hp.2 v (List.mem_of_getElem? hv)
  have hgv:ps.getD k noS=v:=by rw[List.getD_eq_getElem?_getD,hv];rfl
  have hgd:=YG (ps:=ps) (j:=k)
  rw[hgv] at hgd
  have hfo:=Jz v hvs
  generalize xG v=f at hgd hfo
  (repeat (first|refine nx @he ?_|refine cf (hfo) ?_))
  refine af ?_ ?_
  ·intro h0
   have h0':f=0:=by simpa using h0
   try refine nv ?_
   refine rA [] ?_
   refine⟨?_,rfl⟩
   rw[Iu hlt' (by rw[hgd,h0'];rfl)]
  intro h0
  have h0':¬f=0:=by simpa using h0
  try refine nv ?_
  refine af ?_ ?_
  ·intro h2
   have h2':f=2:=by simpa using h2
   try refine nv ?_
   refine af ?_ ?_
   ·intro hz
    have hz':k=0:=by have:(k:Int)=0:=by simpa using hz
                     omega
    try refine nv ?_
    refine rA [] ?_
    refine⟨?_,rfl⟩
    rw[Iu hlt' (by rw[hgd,h2',hz'];rfl)]
   intro hz
   have hz':¬k=0:=by have:¬(k:Int)=0:=by simpa using hz
                     omega
   try refine nv ?_
   refine⟨k+1,⟨by omega,?_⟩,by omega,?_⟩
   ·intro j hj
    rcases Nat.lt_succ_iff_lt_or_eq.1 hj with hj|rfl
    ·exact hall j hj
    ·rw[hgd];simp[h0',hz']
   ·exact aW
  intro h2
  have h2':¬f=2:=by simpa using h2
  try refine nv ?_
  refine⟨k+1,⟨by omega,?_⟩,by omega,?_⟩
  ·intro j hj
   rcases Nat.lt_succ_iff_lt_or_eq.1 hj with hj|rfl
   ·exact hall j hj
   ·rw[hgd];simp[h0',h2']
  ·exact aW
 intro hge
 have hk':k=ps.length:=by have:¬k<ps.length:=by simpa using hge
                          omega
 subst hk'
 have hcg:=PU h' hall
 try refine nv ?_
 refine af ?_ ?_
 ·intro hm
  have hm':12<ps.length:=by have:=of_decide_eq_true hm
                            omega
  try refine nv ?_
  refine rA [] ?_
  refine⟨?_,rfl⟩
  rw[hcg,if_pos hm']
 ·intro hm
  have hm':¬12<ps.length:=by have:=of_decide_eq_false hm
                             omega
  try refine nv ?_
  refine rA [] ?_
  refine⟨?_,rfl⟩
  rw[hcg,if_neg hm']
def aek.kk:=p12 kB Tryz.ntmps176 Tryz.underlying74 df eH dW gV yR jO fM jy Tryz.results176
open aek in
theorem zo (p:aX) (hp:PB 1000000 p):AC Tryz.prog 176 [aPat p] [] (fun r st=>r= .tup [pI (if fG p then aj p.parts else 0),pB (fG p&&p.rest),pI (aS p)]∧st=[]):=by
 have hck:=lK p hp
 have hok:fG p=decide (aS p=0):=rfl
 have hpo:=dO (p:=p)
 generalize aS p=ck at hck hok
 obtain⟨ps,rs⟩:=p
 have h1:=hp.1
 simp only at h1
 refine bV Tryz.func176 Tryz.ntmps176 fun x hx=>?_
 (repeat (first|refine nv ?_|refine cf (hck) ?_))
 refine af ?_ ?_
 ·intro h
  have h':¬ck=0:=by simpa using h
  try refine nv ?_
  refine rA [] ?_
  refine⟨?_,rfl⟩
  rw[hok];simp[h']
 intro h
 have h':ck=0:=by simpa using h
 have hok1:fG ⟨ps,rs⟩=true:=by rw[hok,h'];rfl
 have hpo:=hpo hok1
 try refine nv ?_
 refine ag (ι:=Nat) (I:=fun k=>⟨28,[(1, .c (.ptr 1 0)),(2,I .i64 (aj (ps.take k))),(14,dJ ps),(15,I .i64 ps.length),(16,I .i64 k)],[(1, .box ((au ⟨ps,rs⟩).map C.d))]⟩)
  (Inv:=fun k=>k≤ps.length) (μ:=fun k=>ps.length-k) 0 (by omega) ?_ ?_
 ·exact tK @nJ
 intro k hk
 try refine nv ?_
 refine af ?_ ?_
 ·intro hlt
  have hlt':k<ps.length:=by simpa using hlt
  obtain⟨v,hv,he,htk⟩:=round encS ps k noS hlt'
  have hgv:ps.getD k noS=v:=by rw[List.getD_eq_getElem?_getD,hv];rfl
  have hpv:dE v=true:=by rw[←hgv];exact hpo k hlt'
  have hst:aj (ps.take k)≤1000000:=Nat.le_trans (lg _ ps k) h1
  have his:=nR v
  rw[qj hpv] at his
  (repeat (first|refine nx @he ?_|refine cf (his) ?_))
  refine af ?_ ?_
  ·intro hb
   try refine nv ?_
   refine⟨k+1,by omega,by omega,?_⟩
   have e:aj (ps.take (k+1))=aj (ps.take k)+1:=by rw[htk];simp[aj,hb]
   rw[e]
   exact aW
  ·intro hb
   try refine nv ?_
   refine⟨k+1,by omega,by omega,?_⟩
   have e:aj (ps.take (k+1))=aj (ps.take k):=by rw[htk];simp[aj,hb]
   rw[e]
   exact aW
 intro hge
 have hk':k=ps.length:=by have:¬k<ps.length:=by simpa using hge
                          omega
 rw[hk',List.take_length]
 refine aJ ?_
 refine dr ([]) ?_ ?_
 ·exact rC
 try refine nv ?_
 refine rA [] ?_
 refine⟨?_,rfl⟩
 rw[hok1,h'];rfl
def FK (s t:ByteArray):ByteArray×Bool:=if dV s t then(s.extract 0 (s.size-t.size),true) else(s,false)
def ad5.kk:=p6 kB kS Tryz.ntmps243 Tryz.underlying9 jy Tryz.results243
open ad5 in
theorem PX (s t:ByteArray) (hs:s.size≤1000000) (ht:t.size≤1000000):AC Tryz.prog 243 [Str s,Str t] [] (fun r st=>r= .tup [pS (FK s t).1,pB (FK s t).2]∧st=[]):=by
 refine bV Tryz.func243 Tryz.ntmps243 fun x hx=>?_
 (repeat (first|refine nv ?_|refine cf (yB s t hs ht) ?_))
 refine af ?_ ?_
 ·intro h
  have h':dV s t=false:=by simpa using h
  try refine nv ?_
  refine rA [] ?_
  refine⟨?_,rfl⟩
  simp only[FK,h',if_false,Bool.false_eq_true]
 intro h
 have h':dV s t=true:=by simpa using h
 have hl:=uQ h'
 have e:((s.size:Int)-t.size).toNat=s.size-t.size:=by omega
 try refine nx @e ?_
 refine rA [] ?_
 refine⟨?_,rfl⟩
 simp only[FK,h',if_true]
def adZ.kk:=p3 kB Tryz.ntmps200 Tryz.results200
open adZ in
theorem V9 (s t:ByteArray) (hs:s.size≤1000000) (ht:t.size≤1000000):AC Tryz.prog 200 [Str s,Str t] [] (fun r st=>r= .tup [pS (FK s t).1,pB (FK s t).2]∧st=[]):=by
 refine bV Tryz.func200 Tryz.ntmps200 fun x hx=>?_
 (repeat (first|refine nv ?_|refine cf (PX s t hs ht) ?_))
 refine rA [] ?_
 refine⟨?_,rfl⟩
 rfl
def mpP (a c:ByteArray):ByteArray×Bool:=if aP a then((FK c (jq a)).1,(FK c (jq a)).2&&!decide ((FK c (jq a)).1=noS)) else(noS,decide (a=c))
theorem QD {a c:ByteArray} (hc:comp c=true):(mpP a c).2=(lY a c).2∧((lY a c).2=true→(mpP a c).1=(lY a c).1):=by
 unfold mpP
 cases ha:aP a with
 |false=>simp[lY,ha]
 |true=>
  rw[if_pos rfl]
  have hcc:=zO ha hc
  cases h:dV c (jq a) with
  |false=>simp[FK,h,hcc]
  |true=>
   have hl:=qf h
   have e:(lY a c).1=c.extract 0 (c.size-(jq a).size):=by simp only[lY,ha,h,if_true]
   simp only[FK,h,if_true,Bool.true_and,e,implies_true,and_true]
   rw[hcc,h,Bool.true_and]
   have hz:(c.extract 0 (c.size-(jq a).size)).size=c.size-(jq a).size:=by rw[ByteArray.size_extract];omega
   by_cases e2:(jq a).size<c.size
   ·rw[decide_eq_true e2]
    have:¬c.extract 0 (c.size-(jq a).size)=noS:=by
     intro e3
     rw[e3] at hz
     have:noS.size=0:=rfl
     omega
    simp[this]
   ·rw[decide_eq_false e2]
    have e3:c.size-(jq a).size=0:=by omega
    rw[e3]
    have e4:c.extract 0 0=noS:=by
     have:c.extract 0 0=ByteArray.empty:=by simp
     rw[this];rfl
    rw[e4]
    simp only[decide_true,Bool.not_true]
theorem vM {a:ByteArray} (h:aP a=true):a.extract (Int.toNat 1) a.size=jq a:=by rw[jq,if_pos h];rfl
def z143.kk:=p7 kB kG kS Tryz.ntmps143 Tryz.underlying9 jy Tryz.results143
open z143 in
theorem Dl (a c:ByteArray) (hs:a.size≤1000000) (hc:c.size≤1000000) (ha:dE a=true):AC Tryz.prog 143 [Str a,Str c] [] (fun r st=>r= .tup [pS (mpP a c).1,pB (mpP a c).2]∧st=[]):=by
 have his:=nR a
 rw[qj ha] at his
 have hl:=oJ a
 refine bV Tryz.func143 Tryz.ntmps143 fun x hx=>?_
 (repeat (first|refine nv ?_|refine cf (his) ?_))
 refine af ?_ ?_
 ·intro h
  have h':aP a=false:=by simpa using h
  try refine nv ?_
  refine rA [] ?_
  refine⟨?_,rfl⟩
  simp only[mpP,h',if_false,Bool.false_eq_true]
 intro h
 have h':aP a=true:=by simpa using h
 have h1:=(gY h').1
 have hcu:=V9 c (jq a) hc (by omega)
 (repeat (first|refine nx (vM h') ?_|refine cf (hcu) ?_))
 refine rA [] ?_
 refine⟨?_,rfl⟩
 simp only[mpP,h',if_true]
 cases(FK c (jq a)).2<;>rfl
def aeN.kk:=p6 kB kS Tryz.ntmps231 Tryz.underlying9 jy Tryz.results231
open aeN in
theorem pR (a b:ByteArray) (hs:a.size≤1000000) (hbs:b.size≤1000000) (ha:dE a=true) (hb:dE b=true):AC Tryz.prog 231 [Str a,Str b] [] (fun r st=>r=B (aF a b)∧st=[]):=by
 have hia:=nR a
 rw[qj ha] at hia
 have hib:=nR b
 rw[qj hb] at hib
 have hla:=oJ a
 have hlb:=oJ b
 refine bV Tryz.func231 Tryz.ntmps231 fun x hx=>?_
 try refine nv ?_
 refine af ?_ ?_
 ·intro h
  have h':a=b:=by simpa using h
  subst h'
  try refine nv ?_
  refine rA [] ?_
  refine⟨?_,rfl⟩
  rw[yL ha]
 intro h
 have h':¬a=b:=by simpa using h
 (repeat (first|refine nv ?_|refine cf (hib) ?_))
 refine af ?_ ?_
 ·intro h2
  have h3:aP b=false:=by simpa using h2
  try refine nv ?_
  refine rA [] ?_
  refine⟨?_,rfl⟩
  simp[aF,h3,h']
 intro h2
 have h3:aP b=true:=by simpa using h2
 have hb1:=(gY h3).1
 (repeat (first|refine nv ?_|refine cf (hia) ?_))
 refine af ?_ ?_
 ·intro h4
  have ha1:=(gY h4).1
  have hsu:=Ed (jq a) (jq b) (by omega) (by omega)
  refine aJ ?_
  refine dx ([(19,B (dV (jq a) (jq b)))]) (p2 (vM h4) (vM h3)) ?_ ?_
  ·exact gI @hsu
  try refine nv ?_
  refine rA [] ?_
  refine⟨?_,rfl⟩
  simp only[aF,h3,h4,if_true]
 intro h4
 have hca:comp a=true:=by rcases qc ha with h|⟨_,h⟩;rw[h] at h4;cases h4;exact h
 have hmp:=Dl b a hbs hs hb
 rw[(QD hca).1] at hmp
 (repeat (first|refine nv ?_|refine cf (hmp) ?_))
 refine rA [] ?_
 refine⟨?_,rfl⟩
 simp only[aF,h3,h4,if_true,Bool.false_eq_true,if_false]
def EU (n:Nat) (r:Bool) (m:Nat) (o:Bool):Bool:=if r&&o then true else if r then decide (n<m) else if o then decide (m<n) else decide (n=m)
def aec.kk:=p4 kB kG Tryz.ntmps178 Tryz.results178
open aec in
theorem Jk (n m:Nat) (r o:Bool):AC Tryz.prog 178 [I .i64 n,B r,I .i64 m,B o] [] (fun x st=>x=B (EU n r m o)∧st=[]):=by
 refine bV Tryz.func178 Tryz.ntmps178 fun x hx=>?_
 try refine nv ?_
 refine af ?_ ?_
 ·intro h
  try refine nv ?_
  refine rA [] ?_
  refine⟨?_,rfl⟩
  have:(r&&o)=true:=by cases r<;>cases o<;>first|rfl|(exact absurd h (by decide))
  simp[EU,this]
 intro h
 have h0:(r&&o)=false:=by cases r<;>cases o<;>first|rfl|(exact absurd h (by decide))
 try refine nv ?_
 refine af ?_ ?_
 ·intro h1
  try refine nv ?_
  refine rA [] ?_
  refine⟨?_,rfl⟩
  have h1':r=true:=by simpa using h1
  subst h1'
  have:o=false:=by simpa using h0
  subst this
  simp[EU]
 intro h1
 have h1':r=false:=by simpa using h1
 try refine nv ?_
 refine af ?_ ?_
 ·intro h2
  have h2':o=true:=by simpa using h2
  try refine nv ?_
  refine rA [] ?_
  refine⟨?_,rfl⟩
  simp[EU,h1',h2']
 intro h2
 have h2':o=false:=by simpa using h2
 try refine nv ?_
 refine rA [] ?_
 refine⟨?_,rfl⟩
 simp only[EU,h1',h2',Bool.and_false,Bool.false_eq_true,if_false]
 rw[show decide ((n:Int)=m)=decide (n=m) from decide_eq_decide.2 (by omega)]
def Ae (a b:ByteArray):Option ByteArray:=if aF a b then some a else if aF b a then some b else none
def aeq.kk:=p3 kB Tryz.ntmps180 Tryz.results180
open aeq in
theorem Qs (a b:ByteArray) (hs:a.size≤1000000) (hbs:b.size≤1000000) (ha:dE a=true) (hb:dE b=true):AC Tryz.prog 180 [Str a,Str b] [] (fun r st=>r= .tup [pS ((Ae a b).getD noS),pB (Ae a b).isSome]∧st=[]):=by
 have h1:=pR a b hs hbs ha hb
 have h2:=pR b a hbs hs hb ha
 refine bV Tryz.func180 Tryz.ntmps180 fun x hx=>?_
 (repeat (first|refine nv ?_|refine cf (h1) ?_))
 refine af ?_ ?_
 ·intro h
  try refine nv ?_
  refine rA [] ?_
  refine⟨?_,rfl⟩
  simp[Ae,h]
 intro h
 (repeat (first|refine nv ?_|refine cf (h2) ?_))
 refine af ?_ ?_
 ·intro h3
  try refine nv ?_
  refine rA [] ?_
  refine⟨?_,rfl⟩
  simp[Ae,h,h3]
 intro h3
 try refine nv ?_
 refine rA [] ?_
 refine⟨?_,rfl⟩
 simp[Ae,h,h3]
end Go.Proofs.YtcpgicfphakdaaaGreatDoor
