/- A part of the proof. -/
import Derived.Test.YtcpgicfphakdaaaGreatDoorRT1
import Derived.Test.YtcpgicfphakdaaaGreatDoorRU9
set_option maxRecDepth 100000
set_option maxHeartbeats 8000000
set_option linter.all false
namespace Go.Proofs.YtcpgicfphakdaaaGreatDoor
open Go.Ab Tys
variable [Dr]
open z53 in
theorem WJ (ls:List (List dZ)) (hl:ls.length≤1000) (hn:∀l∈ls,l.length≤1000):AC Tryz.prog 53 [.c (.ms 37 1 0 ls.length)] [(37,ay 1 (ls.map GU))] (fun r st=>r= .c (.ms 46 6 0 ls.flatten.length)∧st=[(37, .dead),(46,ay 6 (ls.flatten.map af))]):=by
 have hfl:∀k,(ls.take k).flatten.length≤k*1000:=by
  intro k
  induction k with
  |zero=>simp
  |succ k ih=>
   by_cases h:k<ls.length
   ·rw[List.take_succ_eq_append_getElem h,akG,afI]
    have:=hn _ (ajI h)
    simp only[List.flatten_cons,List.flatten_nil,ajt]
    omega
   ·rw[ahH (by omega)];rw[ahH (by omega)] at ih;omega
 have hsn:∀k v,ls[k]? =some v→(ls.take (k+1)).flatten=(ls.take k).flatten++v:=by
  intro k v h
  rw[List.take_succ,h];simp
 refine df Tryz.func53 Tryz.ntmps53 fun x hx=>?_
 refine mQ (aY (i:=0) (id:=37) (ys:=ls.map GU) rfl rfl (by rw[ae1])) ?_
 refine fE ?_
 try refine nv ?_
 refine au (ι:=Nat) (I:=fun k=>⟨36,[(0, .c (.d (.ps 1 (ls.map GU)))),(3,I .i64 (ls.take k).flatten.length),(9, .c (.d (.ps 1 (ls.map GU)))),(10,I .i64 ls.length),(11,I .i64 k)],[(37, .dead)]⟩)
  (Inv:=fun k=>k≤ls.length) (μ:=fun k=>ls.length-k) 0 (by omega) ?_ ?_
 ·exact bQ
 intro k hk
 have hk0:=hfl k
 try refine nv ?_
 refine aj ?_ ?_
 ·intro hlt
  have hlt':k<ls.length:=by simpa using hlt
  obtain⟨v,hv,he,_⟩:=round GU ls k [] hlt'
  have hvn:=hn v (aem hv)
  have hs1:=hsn k v hv
  have hadd:(((ls.take k).flatten.length:Nat):Int)+((v.length:Nat):Int)=(((ls.take (k+1)).flatten.length:Nat):Int):=by rw[hs1,afI];omega
  try refine nx (p2 @he @hadd) ?_
  refine aj ?_ ?_
  ·intro h;simp at h;omega
  intro _
  try refine nv ?_
  refine⟨k+1,by omega,by omega,?_⟩
  exact bQ
 intro hge
 have hk':k=ls.length:=by have:¬k<ls.length:=by simpa using hge
                          omega
 rw[hk',afu] at hk0⊢
 try refine nv ?_
 refine nJ [] (ab1 46 ls.flatten.length (by omega)) ?_
 rintro r st' ⟨rfl,rfl⟩<;>refine nP ?_
 try refine nv ?_
 refine au (ι:=Nat) (I:=fun k=>⟨36,[(6, .c (.ms 46 6 0 (ls.take k).flatten.length)),(25, .c (.d (.ps 1 (ls.map GU)))),(26,I .i64 ls.length),(27,I .i64 k)],[(37, .dead),(46,ay 6 ((ls.take k).flatten.map af))]⟩)
  (Inv:=fun k=>k≤ls.length) (μ:=fun k=>ls.length-k) 0 (by omega) ?_ ?_
 ·exact bQ
 intro k hk
 have hk1:=hfl k
 try refine nv ?_
 refine aj ?_ ?_
 ·intro hlt
  have hlt':k<ls.length:=by simpa using hlt
  obtain⟨v,hv,he,_⟩:=round GU ls k [] hlt'
  have hvn:=hn v (aem hv)
  have hs1:=hsn k v hv
  have o1:∀l∈List.map (fun l=>List.map C.d l) (List.map af v),l.length=6:=by
   intro l hl
   obtain⟨y,hy,rfl⟩:=agh.1 hl
   obtain⟨z,_,rfl⟩:=agh.1 hy
   rfl
  generalize hA:(ls.take k).flatten=A at hs1 hk1
  refine aZ ?_
  refine gx @he ?_
  refine aZ ?_
  refine gq ?_ ?_
  ·exact eQ @o1
  try refine nv ?_
  refine⟨k+1,by omega,by omega,?_⟩
  rw[hs1]
  exact uZ (fun i=>if i=46 then 33 else i)
 intro hge2
 have hk2:k=ls.length:=by have:¬k<ls.length:=by simpa using hge2
                          omega
 rw[hk2,afu]
 generalize ls.flatten=A
 try refine nv ?_
 refine rA ([(37, .dead),(46,ay 6 (A.map af))]) ?_
 exact⟨rfl,rfl⟩
theorem P9 {s:akK}:hasPrefix s rG=true↔1≤s.size∧byteAt s 0=42:=by
 have e1:rG.size=1:=rfl
 simp only[hasPrefix,afA,aeB,e1]
 constructor
 ·rintro⟨h1,h2⟩
  refine⟨h1,?_⟩
  rw[←Dt (n:=1) (by omega) h1,h2]
  rfl
 ·rintro⟨h1,h2⟩
  refine⟨h1,?_⟩
  apply ByteArray.ext
  simp only[rG,aj7]
  have hsz:0<s.data.size:=h1
  apply Array.ext
  ·simp;omega
  ·intro i h3 h4
   have:i=0:=by simp at h4;omega
   subst this
   simp only[byteAt,ahP,aj1 hsz] at h2
   have h2':s.data[0].toNat=42:=by
    have h1:((s.data[0].toNat:Nat):Int)=42:=by simpa using h2
    omega
   simp only[Array.getElem_extract,ajR,List.getElem_toArray,List.getElem_cons_zero]
   exact UInt8.toNat_inj.1 h2'
theorem Gf {s:akK}:bG s=(hasPrefix s rG&&(List.range s.size).all fun k=>decide (k=0)||okB (byteAt s k)):=by
 unfold bG
 congr 1
 rw[ajx,P9]
 simp only[afU,ajQ,agZ,Bool.not_eq_false',aeB]
 constructor
 ·rintro⟨h1,h2⟩;exact⟨tN h1,h2⟩
 ·rintro⟨h1,h2⟩
  refine⟨?_,h2⟩
  rintro rfl
  simp[ByteArray.size] at h1
theorem qK {s:akK} (h:fP s=true):hasPrefix s rG=bG s:=by
 rcases qJ h with h|⟨h,hc⟩
 ·rw[h]
  rw[Gf,afA] at h
  exact h.1
 ·rw[h]
  cases e:hasPrefix s rG with
  |false=>rfl
  |true=>
   obtain⟨h1,h2⟩:=P9.1 e
   have:=qg hc 0 (by omega)
   rw[h2] at this
   have e4:okB 42=false:=by kernel_rfl
   rw[e4] at this;cases this
def yY (s:akK):Int:=if comp s then 1 else if bG s then 2 else 0
def aie.kk:=p3 kB Tryz.ntmps144 Tryz.results144
open aie in
theorem oL (s:akK):AC Tryz.prog 144 [Str s] [] (fun r st=>r=B (hasPrefix s rG)∧st=[]):=by
 refine df Tryz.func144 Tryz.ntmps144 fun x hx=>?_
 (repeat (first|refine nv ?_|refine cf (rU s rG) ?_))
 refine rA [] ?_
 refine⟨?_,rfl⟩
 rfl
def aim.kk:=p5 kB Tryz.ntmps199 Tryz.underlying9 jB Tryz.results199
open aim in
theorem aay (s:akK) (hs:s.size≤4000000):AC Tryz.prog 199 [Str s] [] (fun r st=>r=I .i64 (yY s)∧st=[]):=by
 have hc:=aat s hs
 have hp:=rU s rG
 refine df Tryz.func199 Tryz.ntmps199 fun x hx=>?_
 (repeat (first|refine nv ?_|refine cf (hc) ?_))
 refine aj ?_ ?_
 ·intro h
  try refine nv ?_
  refine rA [] ?_
  refine⟨?_,rfl⟩
  rw[yY,if_pos h]
 intro h
 have hn:¬comp s=true:=by rw[h];simp
 (repeat (first|refine nv ?_|refine cf (hp) ?_))
 refine aj ?_ ?_
 ·intro h2
  have h3:bG s=false:=by rw[Gf];simp at h2;rw[h2];rfl
  try refine nv ?_
  refine rA [] ?_
  refine⟨?_,rfl⟩
  rw[yY,if_neg hn,if_neg (by rw[h3];simp)]
 intro h2
 have h2':hasPrefix s rG=true:=by simpa using h2
 have h1:=(P9.1 h2').1
 try refine nv ?_
 refine au (ι:=Nat) (I:=fun k=>⟨22,[(0,Str s),(3,I .i64 k)],[]⟩) (Inv:=fun k=>1≤k∧k≤s.size∧∀j,1≤j→j<k→okB (byteAt s j)=true) (μ:=fun k=>s.size-k) 1 ⟨by omega,by omega,by omega⟩ ?_ ?_
 ·exact bQ
 rintro k ⟨hk1,hk,hall⟩
 try refine nv ?_
 refine aj ?_ ?_
 ·intro hlt
  have hlt':k<s.size:=by simpa using hlt
  have hb0:=lL hlt'
  (repeat (first|refine nv ?_|refine cf (Pg (byteAt s k) (by simp[byteAt]) (by simp only[byteAt];have:=(s.data.getD k 0).toNat_lt;omega)) ?_))
  refine aj ?_ ?_
  ·intro hb
   have hb':okB (byteAt s k)=false:=by simpa using hb
   have h3:=Ru hk1 hlt' hb'
   try refine nv ?_
   refine rA [] ?_
   refine⟨?_,rfl⟩
   rw[yY,if_neg hn,if_neg (by rw[h3];simp)]
  ·intro hb
   try refine nv ?_
   refine⟨k+1,⟨by omega,by omega,?_⟩,by omega,?_⟩
   ·intro j j1 hj
    rcases ajB.1 hj with hj|rfl
    ·exact hall j j1 hj
    ·simpa using hb
   ·exact bQ
 intro hge
 have hk':k=s.size:=by have:¬k<s.size:=by simpa using hge
                       omega
 have h3:bG s=true:=by
  rw[Gf,h2',ajq,agr]
  intro j hj
  have hj:=aht.1 hj
  by_cases e:j=0
  ·simp[e]
  ·simp[hall j (by omega) (by omega)]
 try refine nv ?_
 refine rA [] ?_
 refine⟨?_,rfl⟩
 rw[yY,if_neg hn,if_pos h3]
theorem OC (s:akK) (hs:s.size≤1000000):AC Tryz.prog 199 [Str s] [] (fun r st=>r=I .i64 (yY s)∧st=[]):=aay s (by omega)
def gdP (ps:List akK) (j:Nat):Bool:=if j=0 then comp (ps.getD 0 noS) else fP (ps.getD j noS)
theorem ac0 {ps:List akK} {j:Nat}:gdP ps j=(!decide (yY (ps.getD j noS)=0)&&!(decide (yY (ps.getD j noS)=2)&&decide (j=0))):=by
 unfold gdP yY fP
 by_cases e:j=0
 ·subst e
  cases h:comp (ps.getD 0 noS) with
  |true=>simp
  |false=>cases h2:bG (ps.getD 0 noS)<;>simp
 ·rw[if_neg e]
  cases h:comp (ps.getD j noS) with
  |true=>simp[e]
  |false=>cases h2:bG (ps.getD j noS)<;>simp[e]
theorem Jz {ps:List akK} {rs:Bool} {j:Nat} (hj:j<ps.length) (h:gdP ps j=false):dm ⟨ps,rs⟩=30:=by
 unfold dm
 split
 ·rfl
 rename_i hc
 simp only[not_or] at hc
 unfold gdP at h
 by_cases e:j=0
 ·rw[if_pos e] at h;exact absurd h hc.2.2
 ·rw[if_neg e] at h
  rw[if_neg]
  intro ha
  rw[agr] at ha
  have hm:ps.getD j noS∈ps.drop 1:=by
   rw[adI,adH hj,Option.getD_some,ahN]
   exact⟨j-1,by simp;omega,by simp[show j-1+1=j by omega]⟩
  rw[ha _ hm] at h;cases h
theorem Rl {ps:List akK} {rs:Bool} (h0:¬(ps.length=0∨(ps.length=1∧rs=false))) (h:∀j,j<ps.length→gdP ps j=true):dm ⟨ps,rs⟩=if 12<ps.length then 31 else 0:=by
 simp only[not_or] at h0
 have hz:comp (ps.getD 0 noS)=true:=by have:=h 0 (by omega);simpa[gdP] using this
 unfold dm
 rw[if_neg,if_pos]
 ·rw[agr]
  intro x hx
  obtain⟨i,hi,rfl⟩:=ahN.1 hx
  simp only[ajz] at hi
  have:=h (i+1) (by omega)
  simp only[gdP,show ¬i+1=0 by omega,if_false] at this
  rw[adI,adH (by omega)] at this
  simpa[List.getElem_drop,Nat.add_comm] using this
 ·simp only[not_or]
  exact⟨h0.1,h0.2,by rw[hz];simp⟩
def aiR.kk:=p13 kB kG Tryz.ntmps142 Tryz.underlying74 iW jy lU sG IP rZ nU jB Tryz.results142
open aiR in
theorem acw (p:bV) (hp:PB 4000000 p):AC Tryz.prog 142 [aPat p] [] (fun r st=>r=I .i64 (dm p)∧st=[]):=by
 obtain⟨ps,rs⟩:=p
 have h1:=hp.1
 simp only at h1
 refine df Tryz.func142 Tryz.ntmps142 fun x hx=>?_
 try refine nv ?_
 refine aj ?_ ?_
 ·intro h
  have h':ps.length=0∨(ps.length=1∧rs=false):=by
   by_cases e:ps.length=0
   ·exact .inl e
   have e':decide ((ps.length:Int)=0)=false:=ahK (by omega)
   simp only[e',cond_false] at h
   by_cases e1:ps.length=1
   ·cases rs
    ·exact .inr ⟨e1,rfl⟩
    ·simp at h
   ·have e2:decide ((ps.length:Int)=1)=false:=ahK (by omega)
    simp only[e2,cond_false] at h;cases h
  try refine nv ?_
  refine rA [] ?_
  refine⟨?_,rfl⟩
  unfold dm
  rw[if_pos (by rcases h' with h|h;exact .inl h;exact .inr (.inl h))]
 intro h
 have h':¬(ps.length=0∨(ps.length=1∧rs=false)):=by
  by_cases e:ps.length=0
  ·have e':decide ((ps.length:Int)=0)=true:=ajk (by omega)
   simp only[e',cond_true] at h;cases h
  rintro(h9|⟨h9,rfl⟩)
  ·exact e h9
  have e':decide ((ps.length:Int)=0)=false:=ahK (by omega)
  have e2:decide ((ps.length:Int)=1)=true:=ajk (by omega)
  simp only[e',e2,cond_false,cond_true,aj6] at h;cases h
 try refine nv ?_
 refine au (ι:=Nat) (I:=fun k=>⟨41,[(1, .c (.ptr 1 0)),(21,jr ps),(22,I .i64 ps.length),(23,I .i64 k)],[(1, .box ((bU ⟨ps,rs⟩).map C.d))]⟩)
  (Inv:=fun k=>k≤ps.length∧∀j,j<k→gdP ps j=true) (μ:=fun k=>ps.length-k) 0 ⟨by omega,by omega⟩ ?_ ?_
 ·exact bQ
 rintro k ⟨hk,hall⟩
 try refine nv ?_
 refine aj ?_ ?_
 ·intro hlt
  have hlt':k<ps.length:=by simpa using hlt
  obtain⟨v,hv,he,htk⟩:=round encS ps k noS hlt'
  have hvs:v.size≤4000000:=hp.2 v (aem hv)
  have hgv:ps.getD k noS=v:=by rw[adI,hv];rfl
  have hgd:=ac0 (ps:=ps) (j:=k)
  rw[hgv] at hgd
  have hfo:=aay v hvs
  generalize yY v=f at hgd hfo
  (repeat (first|refine nx @he ?_|refine cf (hfo) ?_))
  refine aj ?_ ?_
  ·intro h0
   have h0':f=0:=by simpa using h0
   try refine nv ?_
   refine rA [] ?_
   refine⟨?_,rfl⟩
   rw[Jz hlt' (by rw[hgd,h0'];rfl)]
  intro h0
  have h0':¬f=0:=by simpa using h0
  try refine nv ?_
  refine aj ?_ ?_
  ·intro h2
   have h2':f=2:=by simpa using h2
   try refine nv ?_
   refine aj ?_ ?_
   ·intro hz
    have hz':k=0:=by have:(k:Int)=0:=by simpa using hz
                     omega
    try refine nv ?_
    refine rA [] ?_
    refine⟨?_,rfl⟩
    rw[Jz hlt' (by rw[hgd,h2',hz'];rfl)]
   intro hz
   have hz':¬k=0:=by have:¬(k:Int)=0:=by simpa using hz
                     omega
   try refine nv ?_
   refine⟨k+1,⟨by omega,?_⟩,by omega,?_⟩
   ·intro j hj
    rcases ajB.1 hj with hj|rfl
    ·exact hall j hj
    ·rw[hgd];simp[h0',hz']
   ·exact bQ
  intro h2
  have h2':¬f=2:=by simpa using h2
  try refine nv ?_
  refine⟨k+1,⟨by omega,?_⟩,by omega,?_⟩
  ·intro j hj
   rcases ajB.1 hj with hj|rfl
   ·exact hall j hj
   ·rw[hgd];simp[h0',h2']
  ·exact bQ
 intro hge
 have hk':k=ps.length:=by have:¬k<ps.length:=by simpa using hge
                          omega
 subst hk'
 have hcg:=Rl h' hall
 try refine nv ?_
 refine aj ?_ ?_
 ·intro hm
  have hm':12<ps.length:=by have:=agw hm
                            omega
  try refine nv ?_
  refine rA [] ?_
  refine⟨?_,rfl⟩
  rw[hcg,if_pos hm']
 ·intro hm
  have hm':¬12<ps.length:=by have:=ajJ hm
                             omega
  try refine nv ?_
  refine rA [] ?_
  refine⟨?_,rfl⟩
  rw[hcg,if_neg hm']
theorem lX (p:bV) (hp:PB 1000000 p):AC Tryz.prog 142 [aPat p] [] (fun r st=>r=I .i64 (dm p)∧st=[]):=acw p (hp.mono (by omega))
def aij.kk:=p12 kB Tryz.ntmps176 Tryz.underlying74 iW jy lU sG IP rZ nU jB Tryz.results176
open aij in
theorem A8 (p:bV) (hp:PB 1000000 p):AC Tryz.prog 176 [aPat p] [] (fun r st=>r= .tup [pI (if iU p then aK p.parts else 0),pB (iU p&&p.rest),pI (dm p)]∧st=[]):=by
 have hck:=lX p hp
 have hok:iU p=decide (dm p=0):=rfl
 have hpo:=dO (p:=p)
 generalize dm p=ck at hck hok
 obtain⟨ps,rs⟩:=p
 have h1:=hp.1
 simp only at h1
 refine df Tryz.func176 Tryz.ntmps176 fun x hx=>?_
 (repeat (first|refine nv ?_|refine cf (hck) ?_))
 refine aj ?_ ?_
 ·intro h
  have h':¬ck=0:=by simpa using h
  try refine nv ?_
  refine rA [] ?_
  refine⟨?_,rfl⟩
  rw[hok];simp[h']
 intro h
 have h':ck=0:=by simpa using h
 have hok1:iU ⟨ps,rs⟩=true:=by rw[hok,h'];rfl
 have hpo:=hpo hok1
 try refine nv ?_
 refine au (ι:=Nat) (I:=fun k=>⟨28,[(1, .c (.ptr 1 0)),(2,I .i64 (aK (ps.take k))),(14,jr ps),(15,I .i64 ps.length),(16,I .i64 k)],[(1, .box ((bU ⟨ps,rs⟩).map C.d))]⟩)
  (Inv:=fun k=>k≤ps.length) (μ:=fun k=>ps.length-k) 0 (by omega) ?_ ?_
 ·exact Dc @xy
 intro k hk
 try refine nv ?_
 refine aj ?_ ?_
 ·intro hlt
  have hlt':k<ps.length:=by simpa using hlt
  obtain⟨v,hv,he,htk⟩:=round encS ps k noS hlt'
  have hgv:ps.getD k noS=v:=by rw[adI,hv];rfl
  have hpv:fP v=true:=by rw[←hgv];exact hpo k hlt'
  have hst:aK (ps.take k)≤1000000:=ajo (tq _ ps k) h1
  have his:=oL v
  rw[qK hpv] at his
  (repeat (first|refine nx @he ?_|refine cf (his) ?_))
  refine aj ?_ ?_
  ·intro hb
   try refine nv ?_
   refine⟨k+1,by omega,by omega,?_⟩
   have e:aK (ps.take (k+1))=aK (ps.take k)+1:=by rw[htk];simp[aK,hb]
   rw[e]
   exact bQ
  ·intro hb
   try refine nv ?_
   refine⟨k+1,by omega,by omega,?_⟩
   have e:aK (ps.take (k+1))=aK (ps.take k):=by rw[htk];simp[aK,hb]
   rw[e]
   exact bQ
 intro hge
 have hk':k=ps.length:=by have:¬k<ps.length:=by simpa using hge
                          omega
 rw[hk',afu]
 refine aZ ?_
 refine dr ([]) ?_ ?_
 ·exact qP
 try refine nv ?_
 refine rA [] ?_
 refine⟨?_,rfl⟩
 rw[hok1,h'];rfl
def Ip (s t:akK):akK×Bool:=if dX s t then(s.extract 0 (s.size-t.size),true) else(s,false)
def aji.kk:=p6 kB kS Tryz.ntmps243 Tryz.underlying9 jB Tryz.results243
open aji in
theorem RV (s t:akK) (hs:s.size≤1000000) (ht:t.size≤1000000):AC Tryz.prog 243 [Str s,Str t] [] (fun r st=>r= .tup [pS (Ip s t).1,pB (Ip s t).2]∧st=[]):=by
 refine df Tryz.func243 Tryz.ntmps243 fun x hx=>?_
 (repeat (first|refine nv ?_|refine cf (Aj s t hs ht) ?_))
 refine aj ?_ ?_
 ·intro h
  have h':dX s t=false:=by simpa using h
  try refine nv ?_
  refine rA [] ?_
  refine⟨?_,rfl⟩
  simp only[Ip,h',if_false,agF]
 intro h
 have h':dX s t=true:=by simpa using h
 have hl:=OL h'
 have e:((s.size:Int)-t.size).toNat=s.size-t.size:=by omega
 try refine nx @e ?_
 refine rA [] ?_
 refine⟨?_,rfl⟩
 simp only[Ip,h',if_true]
def aia.kk:=p3 kB Tryz.ntmps200 Tryz.results200
open aia in
theorem aae (s t:akK) (hs:s.size≤1000000) (ht:t.size≤1000000):AC Tryz.prog 200 [Str s,Str t] [] (fun r st=>r= .tup [pS (Ip s t).1,pB (Ip s t).2]∧st=[]):=by
 refine df Tryz.func200 Tryz.ntmps200 fun x hx=>?_
 (repeat (first|refine nv ?_|refine cf (RV s t hs ht) ?_))
 refine rA [] ?_
 refine⟨?_,rfl⟩
 rfl
def mpP (a c:akK):akK×Bool:=if bG a then((Ip c (l9 a)).1,(Ip c (l9 a)).2&&!decide ((Ip c (l9 a)).1=noS)) else(noS,decide (a=c))
theorem U3 {a c:akK} (hc:comp c=true):(mpP a c).2=(uA a c).2∧((uA a c).2=true→(mpP a c).1=(uA a c).1):=by
 unfold mpP
 cases ha:bG a with
 |false=>simp[uA,ha]
 |true=>
  rw[if_pos rfl]
  have hcc:=BD ha hc
  cases h:dX c (l9 a) with
  |false=>simp[Ip,h,hcc]
  |true=>
   have hl:=qN h
   have e:(uA a c).1=c.extract 0 (c.size-(l9 a).size):=by simp only[uA,ha,h,if_true]
   simp only[Ip,h,if_true,ajq,e,implies_true,ahu]
   rw[hcc,h,ajq]
   have hz:(c.extract 0 (c.size-(l9 a).size)).size=c.size-(l9 a).size:=by rw[aj3];omega
   by_cases e2:(l9 a).size<c.size
   ·rw[ajk e2]
    have:¬c.extract 0 (c.size-(l9 a).size)=noS:=by
     intro e3
     rw[e3] at hz
     have:noS.size=0:=rfl
     omega
    simp[this]
   ·rw[ahK e2]
    have e3:c.size-(l9 a).size=0:=by omega
    rw[e3]
    have e4:c.extract 0 0=noS:=by
     have:c.extract 0 0=ByteArray.empty:=by simp
     rw[this];rfl
    rw[e4]
    simp only[akJ,Bool.not_true]
theorem xA {a:akK} (h:bG a=true):a.extract (Int.toNat 1) a.size=l9 a:=by rw[l9,if_pos h];rfl
def z143.kk:=p7 kB kG kS Tryz.ntmps143 Tryz.underlying9 jB Tryz.results143
open z143 in
theorem EC (a c:akK) (hs:a.size≤1000000) (hc:c.size≤1000000) (ha:fP a=true):AC Tryz.prog 143 [Str a,Str c] [] (fun r st=>r= .tup [pS (mpP a c).1,pB (mpP a c).2]∧st=[]):=by
 have his:=oL a
 rw[qK ha] at his
 have hl:=zI a
 refine df Tryz.func143 Tryz.ntmps143 fun x hx=>?_
 (repeat (first|refine nv ?_|refine cf (his) ?_))
 refine aj ?_ ?_
 ·intro h
  have h':bG a=false:=by simpa using h
  try refine nv ?_
  refine rA [] ?_
  refine⟨?_,rfl⟩
  simp only[mpP,h',if_false,agF]
 intro h
 have h':bG a=true:=by simpa using h
 have h1:=(gV h').1
 have hcu:=aae c (l9 a) hc (by omega)
 (repeat (first|refine nx (xA h') ?_|refine cf (hcu) ?_))
 refine rA [] ?_
 refine⟨?_,rfl⟩
 simp only[mpP,h',if_true]
 cases(Ip c (l9 a)).2<;>rfl
def aje.kk:=p6 kB kS Tryz.ntmps231 Tryz.underlying9 jB Tryz.results231
open aje in
theorem qC (a b:akK) (hs:a.size≤1000000) (hbs:b.size≤1000000) (ha:fP a=true) (hb:fP b=true):AC Tryz.prog 231 [Str a,Str b] [] (fun r st=>r=B (bI a b)∧st=[]):=by
 have hia:=oL a
 rw[qK ha] at hia
 have hib:=oL b
 rw[qK hb] at hib
 have hla:=zI a
 have hlb:=zI b
 refine df Tryz.func231 Tryz.ntmps231 fun x hx=>?_
 try refine nv ?_
 refine aj ?_ ?_
 ·intro h
  have h':a=b:=by simpa using h
  subst h'
  try refine nv ?_
  refine rA [] ?_
  refine⟨?_,rfl⟩
  rw[zu ha]
 intro h
 have h':¬a=b:=by simpa using h
 (repeat (first|refine nv ?_|refine cf (hib) ?_))
 refine aj ?_ ?_
 ·intro h2
  have h3:bG b=false:=by simpa using h2
  try refine nv ?_
  refine rA [] ?_
  refine⟨?_,rfl⟩
  simp[bI,h3,h']
 intro h2
 have h3:bG b=true:=by simpa using h2
 have hb1:=(gV h3).1
 (repeat (first|refine nv ?_|refine cf (hia) ?_))
 refine aj ?_ ?_
 ·intro h4
  have ha1:=(gV h4).1
  have hsu:=ZY (l9 a) (l9 b) (by omega) (by omega)
  refine aZ ?_
  refine dx ([(19,B (dX (l9 a) (l9 b)))]) (p2 (xA h4) (xA h3)) ?_ ?_
  ·exact eQ @hsu
  try refine nv ?_
  refine rA [] ?_
  refine⟨?_,rfl⟩
  simp only[bI,h3,h4,if_true]
 intro h4
 have hca:comp a=true:=by rcases qJ ha with h|⟨_,h⟩;rw[h] at h4;cases h4;exact h
 have hmp:=EC b a hbs hs hb
 rw[(U3 hca).1] at hmp
 (repeat (first|refine nv ?_|refine cf (hmp) ?_))
 refine rA [] ?_
 refine⟨?_,rfl⟩
 simp only[bI,h3,h4,if_true,agF,if_false]
def GZ (n:Nat) (r:Bool) (m:Nat) (o:Bool):Bool:=if r&&o then true else if r then decide (n<m) else if o then decide (m<n) else decide (n=m)
def aib.kk:=p4 kB kG Tryz.ntmps178 Tryz.results178
open aib in
theorem MW (n m:Nat) (r o:Bool):AC Tryz.prog 178 [I .i64 n,B r,I .i64 m,B o] [] (fun x st=>x=B (GZ n r m o)∧st=[]):=by
 refine df Tryz.func178 Tryz.ntmps178 fun x hx=>?_
 try refine nv ?_
 refine aj ?_ ?_
 ·intro h
  try refine nv ?_
  refine rA [] ?_
  refine⟨?_,rfl⟩
  have:(r&&o)=true:=by cases r<;>cases o<;>first|rfl|(exact absurd h (by decide))
  simp[GZ,this]
 intro h
 have h0:(r&&o)=false:=by cases r<;>cases o<;>first|rfl|(exact absurd h (by decide))
 try refine nv ?_
 refine aj ?_ ?_
 ·intro h1
  try refine nv ?_
  refine rA [] ?_
  refine⟨?_,rfl⟩
  have h1':r=true:=by simpa using h1
  subst h1'
  have:o=false:=by simpa using h0
  subst this
  simp[GZ]
 intro h1
 have h1':r=false:=by simpa using h1
 try refine nv ?_
 refine aj ?_ ?_
 ·intro h2
  have h2':o=true:=by simpa using h2
  try refine nv ?_
  refine rA [] ?_
  refine⟨?_,rfl⟩
  simp[GZ,h1',h2']
 intro h2
 have h2':o=false:=by simpa using h2
 try refine nv ?_
 refine rA [] ?_
 refine⟨?_,rfl⟩
 simp only[GZ,h1',h2',Bool.and_false,agF,if_false]
 rw[show decide ((n:Int)=m)=decide (n=m) from ajs.2 (by omega)]
def CB (a b:akK):Option akK:=if bI a b then some a else if bI b a then some b else none
def aio.kk:=p3 kB Tryz.ntmps180 Tryz.results180
open aio in
theorem SG (a b:akK) (hs:a.size≤1000000) (hbs:b.size≤1000000) (ha:fP a=true) (hb:fP b=true):AC Tryz.prog 180 [Str a,Str b] [] (fun r st=>r= .tup [pS ((CB a b).getD noS),pB (CB a b).isSome]∧st=[]):=by
 have h1:=qC a b hs hbs ha hb
 have h2:=qC b a hbs hs hb ha
 refine df Tryz.func180 Tryz.ntmps180 fun x hx=>?_
 (repeat (first|refine nv ?_|refine cf (h1) ?_))
 refine aj ?_ ?_
 ·intro h
  try refine nv ?_
  refine rA [] ?_
  refine⟨?_,rfl⟩
  simp[CB,h]
 intro h
 (repeat (first|refine nv ?_|refine cf (h2) ?_))
 refine aj ?_ ?_
 ·intro h3
  try refine nv ?_
  refine rA [] ?_
  refine⟨?_,rfl⟩
  simp[CB,h,h3]
 intro h3
 try refine nv ?_
 refine rA [] ?_
 refine⟨?_,rfl⟩
 simp[CB,h,h3]
def z47.kk:=p2 (p11 kB kG Tryz.ntmps47 wM qM wY Ea sH xO Qo Xt) (p10 Xw Ya mG FB IP Au Gh QG jB Tryz.results47)
open z47 in
theorem PI (t:jo) (ch:Int) (w:y9):AC Tryz.prog 47 [Z8 t,I .i64 ch,PT w] [] (fun r st=>r=B (lC t ch w)∧st=[]):=by
 have hft:=Tv w.base w.kw w.ex w.xe
 refine df Tryz.func47 Tryz.ntmps47 fun x hx=>?_
 try refine nv ?_
 refine aj ?_ ?_
 ·intro h
  try refine nv ?_
  refine rA [] ?_
  refine⟨?_,rfl⟩
  have h':(w.mv&&(decide (t.move=noS)||decide (ch=1)||decide (t.kind=3)))=true:=by rw[←h];cases w.mv<;>cases decide (t.move=noS)<;>cases decide (ch=1)<;>rfl
  simp[lC,h']
 intro h
 have h':(w.mv&&(decide (t.move=noS)||decide (ch=1)||decide (t.kind=3)))=false:=by rw[←h];cases w.mv<;>cases decide (t.move=noS)<;>cases decide (ch=1)<;>rfl
 try refine nv ?_
 refine aj ?_ ?_
 ·intro h2
  have h2':ch=3∨ch=4:=by
   by_cases e:ch=3
   ·exact .inl e
   ·right;simpa[e] using h2
  (repeat (first|refine nv ?_|refine cf (hft) ?_))
  refine rA [] ?_
  refine⟨?_,rfl⟩
  simp only[lC,h',if_pos h2',aj6,ajq]
  cases gQ w.base w.kw w.xe<;>simp
 intro h2
 have h2':¬(ch=3∨ch=4):=by
  rintro(e|e)<;>simp[e] at h2
 try refine nv ?_
 refine rA [] ?_
 refine⟨?_,rfl⟩
 simp only[lC,h',if_neg h2',aj6,ajq]
def aiI.kk:=p16 kB Tryz.ntmps102 zB qM wY dM Ea SY nH xP GH Au Gh iq QG Tryz.results102
open aiI in
theorem Ho (d:aW) (t:jo) (s h:Rev) (w:y9):AC Tryz.prog 102 [.agg ((Dn d t s h).map C.d),PT w] [] (fun r st=>r= .tup [(true,[.d (.v (.int .i64 s.base)), .d (.v (.bool s.kw)), .d (.v (.bool s.ex)), .d (.v (.bool s.xe))]),(true,[.d (.v (.int .u64 s.sum)), .d (.v (.int .i64 s.size))])]∧st=[]):=by
 refine df Tryz.func102 Tryz.ntmps102 fun x hx=>?_
 try refine nv ?_
 refine dr ([]) ?_ ?_
 ·exact qP
 refine aZ ?_
 refine rA [] ?_
 refine⟨?_,rfl⟩
 rfl
def aiH.kk:=p16 kB Tryz.ntmps103 zB qM wY dM Ea EM nH xP GH Au Gh iq QG Tryz.results103
open aiH in
theorem Hm (d:aW) (t:jo) (s h:Rev) (w:y9):AC Tryz.prog 103 [.agg ((Dn d t s h).map C.d),PT w] [] (fun r st=>r= .tup [(true,[.d (.v (.int .i64 h.base)), .d (.v (.bool h.kw)), .d (.v (.bool h.ex)), .d (.v (.bool h.xe))]),(true,[.d (.v (.int .u64 h.sum)), .d (.v (.int .i64 h.size))])]∧st=[]):=by
 refine df Tryz.func103 Tryz.ntmps103 fun x hx=>?_
 try refine nv ?_
 refine dr ([]) ?_ ?_
 ·exact qP
 refine aZ ?_
 refine rA [] ?_
 refine⟨?_,rfl⟩
 rfl
def ahQ.kk:=p16 kB kS Tryz.ntmps104 zB qM wY dM Ea EM nH GH Au Gh iq QG Tryz.results104
open ahQ in
theorem Py (d:aW) (t:jo) (s h:Rev) (w:y9):AC Tryz.prog 104 [.agg ((Dn d t s h).map C.d),PT w] [] (fun r st=>r= .tup [(true,[.d (.v (.int .i64 h.base)), .d (.v (.bool h.kw)), .d (.v (.bool h.ex)), .d (.v (.bool h.xe))]),(true,[.d (.v (.int .u64 0)), .d (.v (.int .i64 0))])]∧st=[]):=by
 refine df Tryz.func104 Tryz.ntmps104 fun x hx=>?_
 try refine nv ?_
 refine rA [] ?_
 refine⟨?_,rfl⟩
 rfl
def z105.kk:=p13 kB Tryz.ntmps105 zB qM wY Ea Xt Xw GH Au Gh QG Tryz.results105
open z105 in
theorem Ko (d:aW) (t:jo) (s h:Rev) (w:y9):AC Tryz.prog 105 [.agg ((Dn d t s h).map C.d),PT w] [] (fun r st=>r= .tup [(true,[.d (.v (.int .i64 w.base)), .d (.v (.bool w.kw)), .d (.v (.bool w.ex)), .d (.v (.bool w.xe))]),(true,[.d (.v (.int .u64 w.sum)), .d (.v (.int .i64 w.size))])]∧st=[]):=by
 refine df Tryz.func105 Tryz.ntmps105 fun x hx=>?_
 try refine nv ?_
 refine dr ([]) ?_ ?_
 ·exact qP
 refine aZ ?_
 refine rA [] ?_
 refine⟨?_,rfl⟩
 rfl
end Go.Proofs.YtcpgicfphakdaaaGreatDoor
