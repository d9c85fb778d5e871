/- A part of the proof. -/
import Derived.Test.YtcpgicfphakdaaaGreatDoorRK20
import Derived.Test.YtcpgicfphakdaaaGreatDoorRT7
set_option maxRecDepth 100000
set_option maxHeartbeats 16000000
set_option linter.all false
namespace Go.Proofs.YtcpgicfphakdaaaGreatDoor
open Go.Ab Tys
variable [Dr]
theorem Ld {s:ByteArray}:hasPrefix s pF=true↔1≤s.size∧byteAt s 0=42:=by
 have e1:pF.size=1:=rfl
 simp only[hasPrefix,Bool.and_eq_true,decide_eq_true_eq,e1]
 constructor
 ·rintro⟨h1,h2⟩
  refine⟨h1,?_⟩
  rw[←zN (n:=1) (by omega) h1,h2]
  rfl
 ·rintro⟨h1,h2⟩
  refine⟨h1,?_⟩
  apply ByteArray.ext
  simp only[pF,ByteArray.data_extract]
  have hsz:0<s.data.size:=h1
  apply Array.ext
  ·simp;omega
  ·intro i h3 h4
   have:i=0:=by simp at h4;omega
   subst this
   simp only[byteAt,Array.getD_eq_getD_getElem?,Array.getElem?_eq_getElem hsz] at h2
   have h2':s.data[0].toNat=42:=by
    have h1:((s.data[0].toNat:Nat):Int)=42:=by simpa using h2
    omega
   simp only[Array.getElem_extract,Nat.zero_add,List.getElem_toArray,List.getElem_cons_zero]
   exact UInt8.toNat_inj.1 h2'
theorem Cf {s:ByteArray}:aX s=(hasPrefix s pF&&(List.range s.size).all fun k=>decide (k=0)||okB (byteAt s k)):=by
 unfold aX
 congr 1
 rw[Bool.eq_iff_iff,Ld]
 simp only[Bool.not_eq_true',Bool.or_eq_false_iff,decide_eq_false_iff_not,Bool.not_eq_false',decide_eq_true_eq]
 constructor
 ·rintro⟨h1,h2⟩;exact⟨qL h1,h2⟩
 ·rintro⟨h1,h2⟩
  refine⟨?_,h2⟩
  rintro rfl
  simp[ByteArray.size] at h1
theorem oK {s:ByteArray} (h:eH s=true):hasPrefix s pF=aX s:=by
 rcases oO h with h|⟨h,hc⟩
 ·rw[h]
  rw[Cf,Bool.and_eq_true] at h
  exact h.1
 ·rw[h]
  cases e:hasPrefix s pF with
  |false=>rfl
  |true=>
   obtain⟨h1,h2⟩:=Ld.1 e
   have:=nV hc 0 (by omega)
   rw[h2] at this
   have e4:okB 42=false:=by kernel_rfl
   rw[e4] at this;cases this
def vY (s:ByteArray):Int:=if comp s then 1 else if aX s then 2 else 0
def adM.kk:=p3 kB Tryz.ntmps144 Tryz.results144
open adM in
theorem lN (s:ByteArray):AC Tryz.prog 144 [Str s] [] (fun r st=>r=B (hasPrefix s pF)∧st=[]):=by
 refine dA Tryz.func144 Tryz.ntmps144 fun x hx=>?_
 (repeat (first|refine nv ?_|refine cf (qc s pF) ?_))
 refine rA [] ?_
 refine⟨?_,rfl⟩
 rfl
def adx.kk:=p5 kB Tryz.ntmps199 Tryz.underlying9 kC Tryz.results199
open adx in
theorem JW (s:ByteArray) (hs:s.size≤1000000):AC Tryz.prog 199 [Str s] [] (fun r st=>r=I .i64 (vY s)∧st=[]):=by
 have hc:=nC s hs
 have hp:=qc s pF
 refine dA Tryz.func199 Tryz.ntmps199 fun x hx=>?_
 (repeat (first|refine nv ?_|refine cf (hc) ?_))
 refine aj ?_ ?_
 ·intro h
  try refine nv ?_
  refine rA [] ?_
  refine⟨?_,rfl⟩
  rw[vY,if_pos h]
 intro h
 have hn:¬comp s=true:=by rw[h];simp
 (repeat (first|refine nv ?_|refine cf (hp) ?_))
 refine aj ?_ ?_
 ·intro h2
  have h3:aX s=false:=by rw[Cf];simp at h2;rw[h2];rfl
  try refine nv ?_
  refine rA [] ?_
  refine⟨?_,rfl⟩
  rw[vY,if_neg hn,if_neg (by rw[h3];simp)]
 intro h2
 have h2':hasPrefix s pF=true:=by simpa using h2
 have h1:=(Ld.1 h2').1
 try refine nv ?_
 refine ax (ι:=Nat) (I:=fun k=>⟨22,[(0,Str s),(3,I .i64 k)],[]⟩) (Inv:=fun k=>1≤k∧k≤s.size∧∀j,1≤j→j<k→okB (byteAt s j)=true) (μ:=fun k=>s.size-k) 1 ⟨by omega,by omega,by omega⟩ ?_ ?_
 ·exact cO
 rintro k ⟨hk1,hk,hall⟩
 try refine nv ?_
 refine aj ?_ ?_
 ·intro hlt
  have hlt':k<s.size:=by simpa using hlt
  have hb0:=jI hlt'
  (repeat (first|refine nv ?_|refine cf (Kz (byteAt s k) (by simp[byteAt]) (by simp only[byteAt];have:=(s.data.getD k 0).toNat_lt;omega)) ?_))
  refine aj ?_ ?_
  ·intro hb
   have hb':okB (byteAt s k)=false:=by simpa using hb
   have h3:=Oc hk1 hlt' hb'
   try refine nv ?_
   refine rA [] ?_
   refine⟨?_,rfl⟩
   rw[vY,if_neg hn,if_neg (by rw[h3];simp)]
  ·intro hb
   try refine nv ?_
   refine⟨k+1,⟨by omega,by omega,?_⟩,by omega,?_⟩
   ·intro j j1 hj
    rcases Nat.lt_succ_iff_lt_or_eq.1 hj with hj|rfl
    ·exact hall j j1 hj
    ·simpa using hb
   ·exact cO
 intro hge
 have hk':k=s.size:=by have:¬k<s.size:=by simpa using hge
                       omega
 have h3:aX s=true:=by
  rw[Cf,h2',Bool.true_and,List.all_eq_true]
  intro j hj
  have hj:=List.mem_range.1 hj
  by_cases e:j=0
  ·simp[e]
  ·simp[hall j (by omega) (by omega)]
 try refine nv ?_
 refine rA [] ?_
 refine⟨?_,rfl⟩
 rw[vY,if_neg hn,if_pos h3]
def gdP (ps:List ByteArray) (j:Nat):Bool:=if j=0 then comp (ps.getD 0 noS) else eH (ps.getD j noS)
theorem Y0 {ps:List ByteArray} {j:Nat}:gdP ps j=(!decide (vY (ps.getD j noS)=0)&&!(decide (vY (ps.getD j noS)=2)&&decide (j=0))):=by
 unfold gdP vY eH
 by_cases e:j=0
 ·subst e
  cases h:comp (ps.getD 0 noS) with
  |true=>simp
  |false=>cases h2:aX (ps.getD 0 noS)<;>simp
 ·rw[if_neg e]
  cases h:comp (ps.getD j noS) with
  |true=>simp[e]
  |false=>cases h2:aX (ps.getD j noS)<;>simp[e]
theorem F7 {ps:List ByteArray} {rs:Bool} {j:Nat} (hj:j<ps.length) (h:gdP ps j=false):bV ⟨ps,rs⟩=30:=by
 unfold bV
 split
 ·rfl
 rename_i hc
 simp only[not_or] at hc
 unfold gdP at h
 by_cases e:j=0
 ·rw[if_pos e] at h;exact absurd h hc.2.2
 ·rw[if_neg e] at h
  rw[if_neg]
  intro ha
  rw[List.all_eq_true] at ha
  have hm:ps.getD j noS∈ps.drop 1:=by
   rw[List.getD_eq_getElem?_getD,List.getElem?_eq_getElem hj,Option.getD_some,List.mem_iff_getElem]
   exact⟨j-1,by simp;omega,by simp[show j-1+1=j by omega]⟩
  rw[ha _ hm] at h;cases h
theorem NW {ps:List ByteArray} {rs:Bool} (h0:¬(ps.length=0∨(ps.length=1∧rs=false))) (h:∀j,j<ps.length→gdP ps j=true):bV ⟨ps,rs⟩=if 12<ps.length then 31 else 0:=by
 simp only[not_or] at h0
 have hz:comp (ps.getD 0 noS)=true:=by have:=h 0 (by omega);simpa[gdP] using this
 unfold bV
 rw[if_neg,if_pos]
 ·rw[List.all_eq_true]
  intro x hx
  obtain⟨i,hi,rfl⟩:=List.mem_iff_getElem.1 hx
  simp only[List.length_drop] at hi
  have:=h (i+1) (by omega)
  simp only[gdP,show ¬i+1=0 by omega,if_false] at this
  rw[List.getD_eq_getElem?_getD,List.getElem?_eq_getElem (by omega)] at this
  simpa[List.getElem_drop,Nat.add_comm] using this
 ·simp only[not_or]
  exact⟨h0.1,h0.2,by rw[hz];simp⟩
def aeq.kk:=p13 kB kG Tryz.ntmps142 Tryz.underlying74 gG iC jR pV MH pX lI kC Tryz.results142
open aeq in
theorem jP (p:bH) (hp:PB 1000000 p):AC Tryz.prog 142 [aPat p] [] (fun r st=>r=I .i64 (bV p)∧st=[]):=by
 obtain⟨ps,rs⟩:=p
 have h1:=hp.1
 simp only at h1
 refine dA Tryz.func142 Tryz.ntmps142 fun x hx=>?_
 try refine nv ?_
 refine aj ?_ ?_
 ·intro h
  have h':ps.length=0∨(ps.length=1∧rs=false):=by
   by_cases e:ps.length=0
   ·exact .inl e
   have e':decide ((ps.length:Int)=0)=false:=decide_eq_false (by omega)
   simp only[e',cond_false] at h
   by_cases e1:ps.length=1
   ·cases rs
    ·exact .inr ⟨e1,rfl⟩
    ·simp at h
   ·have e2:decide ((ps.length:Int)=1)=false:=decide_eq_false (by omega)
    simp only[e2,cond_false] at h;cases h
  try refine nv ?_
  refine rA [] ?_
  refine⟨?_,rfl⟩
  unfold bV
  rw[if_pos (by rcases h' with h|h;exact .inl h;exact .inr (.inl h))]
 intro h
 have h':¬(ps.length=0∨(ps.length=1∧rs=false)):=by
  by_cases e:ps.length=0
  ·have e':decide ((ps.length:Int)=0)=true:=decide_eq_true (by omega)
   simp only[e',cond_true] at h;cases h
  rintro(h9|⟨h9,rfl⟩)
  ·exact e h9
  have e':decide ((ps.length:Int)=0)=false:=decide_eq_false (by omega)
  have e2:decide ((ps.length:Int)=1)=true:=decide_eq_true (by omega)
  simp only[e',e2,cond_false,cond_true,Bool.not_false] at h;cases h
 try refine nv ?_
 refine ax (ι:=Nat) (I:=fun k=>⟨41,[(1, .c (.ptr 1 0)),(21,iy ps),(22,I .i64 ps.length),(23,I .i64 k)],[(1, .box ((bF ⟨ps,rs⟩).map C.d))]⟩)
  (Inv:=fun k=>k≤ps.length∧∀j,j<k→gdP ps j=true) (μ:=fun k=>ps.length-k) 0 ⟨by omega,by omega⟩ ?_ ?_
 ·exact cO
 rintro k ⟨hk,hall⟩
 try refine nv ?_
 refine aj ?_ ?_
 ·intro hlt
  have hlt':k<ps.length:=by simpa using hlt
  obtain⟨v,hv,he,htk⟩:=round encS ps k noS hlt'
  have hvs:v.size≤1000000:=hp.2 v (List.mem_of_getElem? hv)
  have hgv:ps.getD k noS=v:=by rw[List.getD_eq_getElem?_getD,hv];rfl
  have hgd:=Y0 (ps:=ps) (j:=k)
  rw[hgv] at hgd
  have hfo:=JW v hvs
  generalize vY v=f at hgd hfo
  (repeat (first|refine nx @he ?_|refine cf (hfo) ?_))
  refine aj ?_ ?_
  ·intro h0
   have h0':f=0:=by simpa using h0
   try refine nv ?_
   refine rA [] ?_
   refine⟨?_,rfl⟩
   rw[F7 hlt' (by rw[hgd,h0'];rfl)]
  intro h0
  have h0':¬f=0:=by simpa using h0
  try refine nv ?_
  refine aj ?_ ?_
  ·intro h2
   have h2':f=2:=by simpa using h2
   try refine nv ?_
   refine aj ?_ ?_
   ·intro hz
    have hz':k=0:=by have:(k:Int)=0:=by simpa using hz
                     omega
    try refine nv ?_
    refine rA [] ?_
    refine⟨?_,rfl⟩
    rw[F7 hlt' (by rw[hgd,h2',hz'];rfl)]
   intro hz
   have hz':¬k=0:=by have:¬(k:Int)=0:=by simpa using hz
                     omega
   try refine nv ?_
   refine⟨k+1,⟨by omega,?_⟩,by omega,?_⟩
   ·intro j hj
    rcases Nat.lt_succ_iff_lt_or_eq.1 hj with hj|rfl
    ·exact hall j hj
    ·rw[hgd];simp[h0',hz']
   ·exact cO
  intro h2
  have h2':¬f=2:=by simpa using h2
  try refine nv ?_
  refine⟨k+1,⟨by omega,?_⟩,by omega,?_⟩
  ·intro j hj
   rcases Nat.lt_succ_iff_lt_or_eq.1 hj with hj|rfl
   ·exact hall j hj
   ·rw[hgd];simp[h0',h2']
  ·exact cO
 intro hge
 have hk':k=ps.length:=by have:¬k<ps.length:=by simpa using hge
                          omega
 subst hk'
 have hcg:=NW h' hall
 try refine nv ?_
 refine aj ?_ ?_
 ·intro hm
  have hm':12<ps.length:=by have:=of_decide_eq_true hm
                            omega
  try refine nv ?_
  refine rA [] ?_
  refine⟨?_,rfl⟩
  rw[hcg,if_pos hm']
 ·intro hm
  have hm':¬12<ps.length:=by have:=of_decide_eq_false hm
                             omega
  try refine nv ?_
  refine rA [] ?_
  refine⟨?_,rfl⟩
  rw[hcg,if_neg hm']
def adE.kk:=p12 kB Tryz.ntmps176 Tryz.underlying74 gG iC jR pV MH pX lI kC Tryz.results176
open adE in
theorem yA (p:bH) (hp:PB 1000000 p):AC Tryz.prog 176 [aPat p] [] (fun r st=>r= .tup [pI (if gz p then aC p.parts else 0),pB (gz p&&p.rest),pI (bV p)]∧st=[]):=by
 have hck:=jP p hp
 have hok:gz p=decide (bV p=0):=rfl
 have hpo:=dE (p:=p)
 generalize bV p=ck at hck hok
 obtain⟨ps,rs⟩:=p
 have h1:=hp.1
 simp only at h1
 refine dA Tryz.func176 Tryz.ntmps176 fun x hx=>?_
 (repeat (first|refine nv ?_|refine cf (hck) ?_))
 refine aj ?_ ?_
 ·intro h
  have h':¬ck=0:=by simpa using h
  try refine nv ?_
  refine rA [] ?_
  refine⟨?_,rfl⟩
  rw[hok];simp[h']
 intro h
 have h':ck=0:=by simpa using h
 have hok1:gz ⟨ps,rs⟩=true:=by rw[hok,h'];rfl
 have hpo:=hpo hok1
 try refine nv ?_
 refine ax (ι:=Nat) (I:=fun k=>⟨28,[(1, .c (.ptr 1 0)),(2,I .i64 (aC (ps.take k))),(14,iy ps),(15,I .i64 ps.length),(16,I .i64 k)],[(1, .box ((bF ⟨ps,rs⟩).map C.d))]⟩)
  (Inv:=fun k=>k≤ps.length) (μ:=fun k=>ps.length-k) 0 (by omega) ?_ ?_
 ·exact EH @tY
 intro k hk
 try refine nv ?_
 refine aj ?_ ?_
 ·intro hlt
  have hlt':k<ps.length:=by simpa using hlt
  obtain⟨v,hv,he,htk⟩:=round encS ps k noS hlt'
  have hgv:ps.getD k noS=v:=by rw[List.getD_eq_getElem?_getD,hv];rfl
  have hpv:eH v=true:=by rw[←hgv];exact hpo k hlt'
  have hst:aC (ps.take k)≤1000000:=Nat.le_trans (qE _ ps k) h1
  have his:=lN v
  rw[oK hpv] at his
  (repeat (first|refine nx @he ?_|refine cf (his) ?_))
  refine aj ?_ ?_
  ·intro hb
   try refine nv ?_
   refine⟨k+1,by omega,by omega,?_⟩
   have e:aC (ps.take (k+1))=aC (ps.take k)+1:=by rw[htk];simp[aC,hb]
   rw[e]
   exact cO
  ·intro hb
   try refine nv ?_
   refine⟨k+1,by omega,by omega,?_⟩
   have e:aC (ps.take (k+1))=aC (ps.take k):=by rw[htk];simp[aC,hb]
   rw[e]
   exact cO
 intro hge
 have hk':k=ps.length:=by have:¬k<ps.length:=by simpa using hge
                          omega
 rw[hk',List.take_length]
 refine bC ?_
 refine dr ([]) ?_ ?_
 ·exact vO
 try refine nv ?_
 refine rA [] ?_
 refine⟨?_,rfl⟩
 rw[hok1,h'];rfl
@[reducible] def Yu (l:List bf):Bool×List C:=(false,[.d (.ps 2 (l.map dW))])
noncomputable def ZG (d:bJ) (s t:bf):AV:= .tup [Yu ((lm d s t).getD []),pI (if(lm d s t).isSome then 0 else 150)]
theorem Js {d:bJ} {s t:bf} (h:lm d s t=none): .tup [Yu [],pI 150]=ZG d s t:=by simp[ZG,h]
theorem CP {d:bJ} {s t:bf} {l:List bf} (h:lm d s t=some l): .tup [Yu l,pI 0]=ZG d s t:=by simp[ZG,h]
theorem Oh {d:bJ} (hg:Good d.revs) {L:iE} {me:List (Int×List Int)} (hI:lq d d.revs.length L me) {s:bf} (hs:qH L s=none):jQ d s.path s.num=none:=by
 cases h:jQ d s.path s.num with
 |none=>rfl
 |some w=>
  obtain⟨j,h1,h2,h3⟩:=(gW hg).1 h
  have:=(FM hI).2 ⟨j,w,rfl,(List.getElem?_eq_some_iff.1 h1).1,h1,h2,h3⟩
  rw[hs] at this;cases this
def yT (L:iE) (j:Int) (U:List Int):List bf:=(U.filter (gZ L j)).map fun x=>fileOf (L.revs.getD x.toNat af)
theorem Y4 (L:iE) (j:Int) (U:List Int):(yT L j U).length≤U.length:=by simp only[yT,List.length_map];exact List.length_filter_le ..
theorem Pm:∀(l:List Int) (s:Int),(upto l s).length≤l.length
 |[],s=>by simp[upto]
 |a::l,s=>by
  have:=Pm l s
  simp only[upto];split<;>simp;omega
theorem Gg:∀{l:List Int} {s x:Int},x∈upto l s→x∈l
 |[],s,x,h=>by simp[upto] at h
 |a::l,s,x,h=>by
  simp only[upto] at h
  split at h
  ·simp at h;simp[h]
  ·rcases List.mem_cons.1 h with rfl|h
   ·simp
   ·exact List.mem_cons_of_mem _ (Gg h)
def z14.kk:=p2 (p13 kB kS Tryz.ntmps14 Tryz.underlying43 Tryz.underlying55 ny pM iK qW Lm nI Ua zt) (p12 qU TB x8 uz uB vT MH Vy nT IR AX Tryz.results14)
open z14 in
theorem BF (d:bJ) (hg:Good d.revs) (hn:d.revs.length≤512) (hm:d.recs.length≤512) (s t:bf):
 AC Tryz.prog 14 [uY d,D9 s,D9 t] [] (fun r st=>r=ZG d s t∧st=[]):=by
 refine dA Tryz.func14 Tryz.ntmps14 fun x hx=>?_
 try refine nv ?_
 refine tX [] (BI d hg hn hm) ?_
 rintro r st' ⟨⟨L,la,me,hrun,_,rfl⟩,rfl⟩<;>refine uo ?_
 have hI:=hrun.inv hg
 have hL:xK L:=⟨by rw[hI.revs];exact hn,by rw[hI.lp,hI.revs],by rw[hI.lf,hI.revs],by rw[hI.lc,hI.revs],by rw[hI.lo,hI.revs],by rw[hI.lr,hI.revs],fun p i h=>by
  obtain⟨j,v,rfl,h1,h2,h3⟩:=(hI.ix p i).1 h
  rw[hI.revs];omega⟩
 try refine nv ?_
 refine aj ?_ ?_
 ·intro h;cases h
 intro _
 try refine nv ?_
 refine tX [] (J5 L hL la me s) ?_
 rintro r st' ⟨⟨i,rfl,hi⟩,rfl⟩<;>refine uo ?_
 cases hs:qH L s with
 |none=>
  have hs2:=Oh hg hI hs
  try refine nv ?_
  refine aj ?_ ?_
  rotate_left
  ·intro h;cases h
  intro _
  refine bC ?_
  refine gg ?_
  refine bz (ik (i:=6) 2 rfl) ?_
  refine dZ ?_
  try refine nv ?_
  refine rA [] ?_
  refine⟨?_,rfl⟩
  exact Js (by simp[lm,hs2])
 |some i'=>
  have e:=hi i' hs
  subst e
  obtain⟨iN,v,rfl,i1,i2,i3,i4⟩:=(FM hI).1 hs
  have hs2:=(gW hg).2 ⟨iN,i2,i3,i4⟩
  try refine nv ?_
  refine aj ?_ ?_
  ·intro h;cases h
  intro _
  try refine nv ?_
  refine tX [] (J5 L hL la me t) ?_
  rintro r st' ⟨⟨j,rfl,hj⟩,rfl⟩<;>refine uo ?_
  cases ht:qH L t with
  |none=>
   have ht2:=Oh hg hI ht
   try refine nv ?_
   refine aj ?_ ?_
   rotate_left
   ·intro h;cases h
   intro _
   refine bC ?_
   refine gg ?_
   refine bz (ik (i:=6) 2 rfl) ?_
   refine dZ ?_
   try refine nv ?_
   refine rA [] ?_
   refine⟨?_,rfl⟩
   exact Js (by simp[lm,hs2,ht2])
  |some j'=>
   have e:=hj j' ht
   subst e
   obtain⟨jN,w,rfl,j1,j2,j3,j4⟩:=(FM hI).1 ht
   have ht2:=(gW hg).2 ⟨jN,j2,j3,j4⟩
   obtain⟨ms,hms,hml⟩:=hI.Zu i1 (hI.fm iN v i1 i2 i4).1
   have hmem:∀x∈ms,0≤x∧x<(L.revs.length:Int)∧∃l,L.con.getD x.toNat none=some l:=by
    have h1:=hI.mem (L.fst.getD iN 0) (hI.fm iN v i1 i2 i4).1
    rw[hms] at h1
    simp only[Option.getD] at h1
    intro x hx
    rw[h1] at hx
    obtain⟨y,hy,rfl⟩:=List.mem_map.1 hx
    obtain⟨hy1,hy2⟩:=List.mem_filter.1 hy
    have hy1:y<d.revs.length:=by simpa using hy1
    have hyv:=List.getElem?_eq_getElem hy1
    have hf:L.fst.getD y 0=L.fst.getD iN 0:=of_decide_eq_true hy2
    have y5:¬(d.revs[y]).act=5:=by
     intro h5
     have:=(hI.f5 y _ hy1 hyv h5).1
     have:=(hI.fm iN v i1 i2 i4).1
     omega
    obtain⟨c,m,cr,_,hc,_⟩:=hI.sets y _ hy1 hyv y5
    exact⟨by omega,by rw[hI.revs];omega,m,by rw[Int.toNat_natCast];exact hc⟩
   obtain⟨c,m,cr,_,_,hcr⟩:=hI.sets jN w j1 j2 j4
   have hrem:=YC hg hn hrun i2 j2 i4 j4
   rw[LJ,Int.toNat_natCast,hms] at hrem
   simp only[Option.getD] at hrem
   have hrl:L.revs.length=d.revs.length:=by rw[hI.revs]
   have hac:=zh L hL la me iN jN (by omega) (by omega) ms (by rw[Int.toNat_natCast];exact hms) hmem ⟨cr,by rw[Int.toNat_natCast];exact hcr⟩ (by omega)
   have hU1:=Pm ms iN
   have hU2:∀x∈upto ms iN,0≤x∧x<(L.revs.length:Int):=fun x hx=>⟨(hmem x (Gg hx)).1,(hmem x (Gg hx)).2.1⟩
   generalize upto ms iN=U at hrem hac hU1 hU2
   change yT L jN U=FY d v (fileOf w) at hrem
   rw[j3] at hrem
   try refine nv ?_
   refine aj ?_ ?_
   ·intro h;cases h
   intro _
   (repeat (first|refine nv ?_|refine cf (hac) ?_))
   refine nH (jM (i:=12) (id:=100) (sz:=2) rfl rfl (by omega)) ?_
   refine dZ ?_
   refine ax (ι:=Nat) (I:=fun k=>⟨71,[(8, .c (.pp (qK L la me))),(12, .c (.ms 100 2 0 (yT L jN (U.take k)).length)),(14, .c (.d (.ps 1 ((U.map (gZ L jN)).map eB)))),(47, .c (.d (.ps 1 (U.map eI)))),(48,I .i64 U.length),(49,I .i64 k)],[(100,aK 2 ((yT L jN (U.take k)).map dW))]⟩)
    (Inv:=fun k=>k≤U.length) (μ:=fun k=>U.length-k) 0 (by simp) ?_ ?_
   ·(refine bI (fun i=>i) rfl ?_ ⟨?_,?_,?_,di hx (by simp[ae,Ab.get])⟩<;>first|(simp only[kE,aK, ↓reduceIte,Nat.reduceEqDiff,reduceCtorEq,yT];done)|simp[aW,aA,ag,Ab.get,aH,cu,aB,bD,aS,aQ,aU,aP,aT,ae,List.flatten,yT])
   intro k hk
   have hF:=Y4 L jN (U.take k)
   have hF2:(U.take k).length≤512:=by simp;omega
   try refine nv ?_
   refine aj ?_ ?_
   ·intro hlt
    have hlt':k<U.length:=by simpa using hlt
    obtain⟨y,hy,he,htk⟩:=round eI U k 0 hlt'
    obtain⟨y1,y2⟩:=hU2 y (List.mem_of_getElem? hy)
    have hl2:k<(U.map (gZ L jN)).length:=by simpa using hlt'
    have hob:((U.map (gZ L jN)).map eB).getD k []=eB (gZ L jN y):=by
     rw[bg eB _ k false hl2]
     simp[List.getD,hy]
    have er:=bg aI L.revs y.toNat af (by omega)
    try refine nx (p2 @he @hob) ?_
    refine aj ?_ ?_
    ·intro ho
     (repeat (first|refine nx @er ?_|refine cf (uu (L.revs.getD y.toNat af)) ?_))
     refine⟨k+1,by omega,by omega,?_⟩
     have e:yT L jN (U.take (k+1))=yT L jN (U.take k)++[fileOf (L.revs.getD y.toNat af)]:=by rw[htk,yT,List.filter_append,List.map_append];simp[yT,ho]
     rw[e]
     exact Af (fun i=>if i=100 then 68 else i)
    ·intro ho
     try refine nv ?_
     refine⟨k+1,by omega,by omega,?_⟩
     have e:yT L jN (U.take (k+1))=yT L jN (U.take k):=by rw[htk,yT,List.filter_append,List.map_append];simp[yT,ho]
     rw[e]
     exact cO
   ·intro hge
    have hge':k=U.length:=by have:¬k<U.length:=by simpa using hge
                             omega
    refine bC ?_
    refine bz (aZ (i:=12) (id:=100) (ys:=(yT L jN (U.take k)).map dW) rfl rfl (by simp)) ?_
    refine dZ ?_
    try refine nv ?_
    refine rA [] ?_
    refine⟨?_,rfl⟩
    rw[hge',List.take_length,hrem]
    exact CP (by simp[lm,hs2,ht2])
end Go.Proofs.YtcpgicfphakdaaaGreatDoor
