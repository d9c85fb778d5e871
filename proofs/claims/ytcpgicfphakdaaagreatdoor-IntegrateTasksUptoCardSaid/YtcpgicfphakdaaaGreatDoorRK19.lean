/- A part of the proof. -/
import Derived.Test.YtcpgicfphakdaaaGreatDoorRK15
import Derived.Test.YtcpgicfphakdaaaGreatDoorRX15
import Derived.Test.YtcpgicfphakdaaaGreatDoorRK18
set_option maxRecDepth 100000
set_option maxHeartbeats 32000000
set_option linter.all false
namespace Go.Proofs.YtcpgicfphakdaaaGreatDoor
open Go.Ab Tys
variable [zG]
def z72.kk:=p6 kB Tryz.ntmps72 df fM jy Tryz.results72
open z72 in
theorem X4 (h:aX) (s:ByteArray) (hh:PB 1000000 h) (hs:s.size≤1000000):AC Tryz.prog 72 [aPat h, .c (.pp [.v (.string s)])] [] (fun x st=>x=B (dC h s).isSome∧st=[]):=by
 have hm:=JQ h hh s hs
 obtain⟨c,hc⟩:=Nj (dC h s)
 rw[hc] at hm
 generalize (dC h s).isSome=b at hm
 obtain⟨ps,rp⟩:=h
 refine bV Tryz.func72 Tryz.ntmps72 fun x hx=>?_
 (repeat (first|refine nv ?_|refine cf (hm) ?_))
 refine rA [] ?_
 refine⟨?_,rfl⟩
 rfl
open adw in
theorem aaK (l:List aX) (s:ByteArray) (hl:l.length≤1000000) (hh:∀h∈l,PB 1000000 h) (hs:s.size≤1000000):
 AC Tryz.prog 140 [eU l, .c (.fn 72 [.pp [.v (.string s)]])] [] (fun x st=>(∃i:Int,x=I .i64 i∧decide (0≤i)=l.any fun h=>(dC h s).isSome)∧st=[]):=by
 have hcl:=fun h (hm:h∈l)=>X4 h s (hh h hm) hs
 generalize hF:(l.any fun h=>(dC h s).isSome)=f
 refine bV Tryz.func140 Tryz.ntmps140 fun x hx=>?_
 try refine nv ?_
 refine ag (ι:=Nat) (I:=fun k=>⟨19,[(0,eU l),(1, .c (.fn 72 [.pp [.v (.string s)]])),(7,I .i64 l.length),(8,I .i64 k)],[]⟩)
  (Inv:=fun k=>k≤l.length∧(l.take k).any (fun h=>(dC h s).isSome)=false) (μ:=fun k=>l.length-k) 0 ⟨by omega,by simp⟩ ?_ ?_
 ·exact aW
 rintro k ⟨hk,hno⟩
 try refine nv ?_
 refine af ?_ ?_
 ·intro hlt
  have hlt':k<l.length:=by simpa using hlt
  obtain⟨v,hv,he,htk⟩:=round au l k bz hlt'
  have hcv:=hcl v (List.mem_of_getElem? hv)
  generalize hcb:(dC v s).isSome=cb at hcv
  try refine nx @he ?_
  refine OT [] (by simp) (by simp only[kV, ↓reduceIte,Nat.reduceEqDiff,reduceCtorEq];first|done|rfl) (by simp only[kFn,List.map];first|done|rfl) (by simp only[kV, ↓reduceIte,Nat.reduceEqDiff,reduceCtorEq];first|done|rfl) ⟨by simp,by simp,by simp[aZ,dH,aN,aO,bF]⟩ (hcv) ?_
  rintro r st' ⟨rfl,rfl⟩<;>(refine⟨by simp[lC],?_⟩;simp only[kP,Nat.reduceEqDiff, ↓reduceIte,reduceCtorEq])
  try refine nv ?_
  refine af ?_ ?_
  ·intro h
   have hf:f=true:=by
    rw[←hF,List.any_eq_true]
    exact⟨v,List.mem_of_getElem? hv,by rw[hcb];simpa using h⟩
   try refine nv ?_
   refine rA [] ?_
   exact⟨⟨k,rfl,by rw[hf];simp⟩,rfl⟩
  ·intro h
   try refine nv ?_
   refine⟨k+1,⟨by omega,by rw[htk,List.any_append,hno];simp only[List.any_cons,List.any_nil,hcb,Bool.or_false,Bool.false_or];simpa using h⟩,by omega,?_⟩
   exact aW
 intro hge
 have hk':k=l.length:=by have:¬k<l.length:=by simpa using hge
                         omega
 rw[hk',List.take_length] at hno
 try refine nv ?_
 refine rA [] ?_
 exact⟨⟨-1,rfl,by rw[←hF,hno];decide⟩,rfl⟩
open z71 in
theorem Zt (l:List aX) (s:ByteArray) (hl:l.length≤1000000) (hh:∀h∈l,PB 1000000 h) (hs:s.size≤1000000):
 AC Tryz.prog 71 [eU l, .c (.fn 72 [.pp [.v (.string s)]])] [] (fun x st=>x=B (l.any fun h=>(dC h s).isSome)∧st=[]):=by
 refine bV Tryz.func71 Tryz.ntmps71 fun x hx=>?_
 try refine nv ?_
 refine qQ [] (aaK l s hl hh hs) ?_
 rintro r st' ⟨⟨i,rfl,hi⟩,rfl⟩<;>refine qU ?_
 try refine nv ?_
 refine rA [] ?_
 refine⟨?_,rfl⟩
 rw[←hi]
@[reducible] def abx (L:jv) (la:List (ByteArray×Int)) (me:List (Int×List Int)) (m:List dU):AV:= .agg [.pp (sG L la me), .d (.ps 5 (m.map dK))]
def z26.kk:=p2 (p13 kB kG kS kFn Tryz.ntmps26 Tryz.underlying23 qo df xH Qx PV mG jY) (p12 wz xx xg UG xy VC fM xI Fg Yq jy Tryz.results26)
open z26 in
theorem Hl (L:jv) (la:List (ByteArray×Int)) (me:List (Int×List Int)) (m:List dU) (hm:m.length≤1000000) (hb:∀e∈m,EB 10000 e) (hc:∀e∈m,dN e.line=0) (s:ByteArray) (hs:s.size≤300000):
 AC Tryz.prog 26 [abx L la me m,Str s] [] (fun x st=>x= .tup [pS (nP m s).1,pB (nP m s).2]∧st=[]):=by
 have hR:=aaT hc s
 generalize nP m s=R at hR
 refine bV Tryz.func26 Tryz.ntmps26 fun x hx=>?_
 refine aJ ?_
 refine gg ?_
 refine aJ ?_
 refine aG (yH (i:=3) (id:=3) (cs:=[.v (.string s)]) rfl rfl) ?_
 refine dM ?_
 try refine nv ?_
 refine ag (ι:=Nat) (I:=fun k=>⟨37,[(3, .c (.pp [.v (.string s)])),(11,dZ m),(12,I .i64 m.length),(13,I .i64 k)],[]⟩)
  (Inv:=fun k=>k≤m.length∧(m.take k).find? (fun x=>Eo x s)=none) (μ:=fun k=>m.length-k) 0 ⟨by omega,rfl⟩ ?_ ?_
 ·exact aW
 rintro k ⟨hk,hall⟩
 try refine nv ?_
 refine af ?_ ?_
 ·intro hlt
  have hlt':k<m.length:=by simpa using hlt
  obtain⟨v,hv,he,htk⟩:=round dK m k D7 hlt'
  obtain⟨b1,b2,b3,b4⟩:=hb v (List.mem_of_getElem? hv)
  have hf:=aa5 v.line (b1.mono (by omega)) (b2.mono (by omega)) s hs
  have hh:=Zt v.holes s (by omega) (fun h hh=>(b4 h hh).mono (by omega)) (by omega)
  have hfd:Eo v s=true→m.find? (fun x=>Eo x s)=some v:=by
   intro h
   have e:m=m.take k++v::m.drop (k+1):=by
    have h1:=List.take_append_drop k m
    rw[List.drop_eq_getElem?_toList_append,hv] at h1
    exact h1.symm
   rw[e,List.find?_append,hall,List.find?_cons,h]
   rfl
  have hnx:Eo v s=false→(m.take (k+1)).find? (fun x=>Eo x s)=none:=by
   intro h
   rw[htk,List.find?_append,hall,List.find?_cons,h]
   rfl
  have hhb:Eo v s=((O7 v.line s).2&&!v.holes.any fun h=>(dC h s).isSome):=rfl
  generalize Eo v s=hb at hfd hnx hhb
  generalize (v.holes.any fun h=>(dC h s).isSome)=ib at hh hhb
  generalize hF:O7 v.line s=F at hf hhb
  obtain⟨t,fb⟩:=F
  simp only at hf hhb
  (repeat (first|refine nx @he ?_|refine cf (hf) ?_))
  refine so ([(32,B ib)]) ?_ ?_
  ·exact gI @hh
  try refine nv ?_
  refine af ?_ ?_
  ·intro h
   have h':hb=true:=by rw[hhb];cases fb<;>cases ib<;>simp_all
   rw[hfd h'] at hR
   simp only[hF] at hR
   try refine nv ?_
   refine rA [] ?_
   refine⟨?_,rfl⟩
   rw[hR]
  ·intro h
   have h':hb=false:=by rw[hhb];cases fb<;>cases ib<;>simp_all
   try refine nv ?_
   refine⟨k+1,⟨by omega,hnx h'⟩,by omega,?_⟩
   exact aW
 intro hge
 have hk':k=m.length:=by have:¬k<m.length:=by simpa using hge
                         omega
 rw[hk',List.take_length] at hall
 rw[hall] at hR
 try refine nv ?_
 refine rA [] ?_
 refine⟨?_,rfl⟩
 rw[hR]
end Go.Proofs.YtcpgicfphakdaaaGreatDoor
namespace Go.Proofs.YtcpgicfphakdaaaGreatDoor
open Go.Ab Tys
variable [zG]
structure LX (d:bK) (L:jv) (la:List (ByteArray×Int)) (me:List (Int×List Int)):Prop where
 good:Good d.revs
 len:d.revs.length≤512
 run:kY d d.revs.length L me
 la:wW d d.revs.length la
 pth:Qy d
 frm:ET d
structure MX (m:List dU):Prop where
 len:m.length≤1000000
 eb:∀e∈m,EB 10000 e
 ck:∀e∈m,dN e.line=0
theorem abS (l:List Int) (i:Nat) (h:i<l.length):(l.map eI).getD i []=eI (l.getD i 0):=bi eI l i 0 h
def zZ (is:List Nat):Nat→Int
 |0=> -1
 |k+1=>(is.getD k 0:Nat)
theorem QF.pv {d:bK} {L:jv} {me:List (Int×List Int)} {f:bP} {key:Int} {is:List Nat} (h:QF d L me f key is) {j:Nat} (hj:j<is.length):L.prev.getD (is.getD j 0) 0=zZ is j:=by
 have e:is[j]? =some (is.getD j 0):=getD_at hj
 cases j with
 |zero=>exact h.abS _ e
 |succ j=>exact h.prevS j _ _ (getD_at (by omega)) e
theorem D9 (l:List Int) (i:Nat):((l.map eI).getD i []).getD 0 (D.v (.int .i64 0))=D.v (.int .i64 (l.getD i 0)):=by
 simp only[List.getD_eq_getElem?_getD,List.getElem?_map]
 cases l[i]?<;>rfl
theorem YI {is:List Nat} {n:Nat} (h:∀j,j<is.length→is.getD j 0<n) {j:Nat} (hj:j≤is.length) (hn:0<n):zZ is j<(n:Int):=by
 cases j with
 |zero=>simp only[zZ];omega
 |succ j=>have:=h j (by omega);simp only[zZ];omega
def aev (d:bK) (m:List dU) (tg:Option (Rev×ByteArray)) (wi:Int) (q pl:ByteArray):Prop:=
 match tg with
 |none=>wi=0∧q=noS∧pl=noS
 |some (w,p)=>q=p∧pl=(nP m p).1∧¬w.act=5∧eQ d w.path=some w∧∃j:Nat,wi=(j:Int)∧d.revs[j]? =some w
@[reducible] def KN (wi:Int) (q pl:ByteArray):List C:=[.d (.v (.int .i64 wi)), .d (.v (.string q)), .d (.v (.string pl))]
def z74.kk:=p3 (p16 kB kG kS kM Tryz.ntmps74 Tryz.underlying55 TA lL iI Qx sV mf Aj Hq O8 Oz) (p16 nZ oI jD jf jA FX tC zn zM zA uq Gn Ph xA Ru KJ) (p16 JV Vs XR uO uK sK ny Ji abo Yq VI Wu jy aas CJ Tryz.results74)
open z74 in
theorem TG (d:bK) (L:jv) (la:List (ByteArray×Int)) (me:List (Int×List Int)) (hX:LX d L la me) (m:List dU) (hm:MX m) (i0:Nat) (v0:Rev) (hv0:d.revs[i0]? =some v0) (v05:¬v0.act=5)
 (is:List Nat) (hx:QF d L me (first d v0) (L.fst.getD i0 0) is) (hl:is[is.length-1]? =some i0) (hp0:0<is.length):
 AC Tryz.prog 74 [abx L la me m,I .i64 i0] [] (fun r st=>(∃wi q pl,aev d m (sN d m (line d (first d v0))) wi q pl∧r= .tup [(true,KN wi q pl),pB (sN d m (line d (first d v0))).isSome])∧st=[]):=by
 have hg:=hX.good
 have hN:=hX.len
 have hI:=hX.run.inv hg
 have hla:=hX.la
 have hrl:L.revs=d.revs:=hI.revs
 have hrl2:L.revs.length=d.revs.length:=by rw[hrl]
 have hi0:=(List.getElem?_eq_some_iff.1 hv0).1
 have hln:=hx.ln
 have hself:fileOf ((line d (first d v0)).getD 0 ai)=first d v0:=by
  have h1:(Jh d (first d v0))[0]? =some ((line d (first d v0)).getD 0 ai):=by
   rw[←IK hg hN];exact getD_at (by rw[hln,List.length_map];exact hp0)
  exact WM hg hN h1
 have hskip:=fun k=> @Xt d m (line d (first d v0)) k
 have hnone:=fun k=> @Xo d m (line d (first d v0)) k
 have hfound:=fun k w=> @Q9 d m (line d (first d v0)) k w
 rw[hself] at hnone hfound
 have hF:sN d m (line d (first d v0))=sJ d m (line d (first d v0)) is.length:=by rw[←acy,hln,List.length_map]
 have hlg:∀j,j<is.length→(line d (first d v0)).getD j ai=atR d (is.getD j 0):=fun j hj=>by
  rw[hln,List.getD_eq_getElem?_getD,List.getElem?_map,getD_at hj];rfl
 have hia:∀j,j<is.length→is.getD j 0<d.revs.length:=fun j hj=>hx.lt _ (List.mem_of_getElem? (getD_at hj))
 have hpv:=fun {j:Nat} (hj:j<is.length)=>hx.pv hj
 have hsl:0<L.revs.length:=by rw[hrl];omega
 generalize sN d m (line d (first d v0))=R at hF
 generalize line d (first d v0)=ln at hskip hnone hfound hF hlg hself hln
 refine bV Tryz.func74 Tryz.ntmps74 fun x hx=>?_
 try refine nv ?_
 refine ag (ι:=Nat) (I:=fun k=>⟨182,[(1,I .i64 i0),(2, .c (.ptr 2 0)),(4, .c (.ptr 4 0)),(6,I .i64 (zZ is k))],[(2, .box [.pp (sG L la me), .d (.ps 5 (m.map dK))]),(4, .box (KN 0 noS noS))]⟩)
  (Inv:=fun k=>k≤is.length∧R=sJ d m ln k) (μ:=fun k=>k) is.length ⟨Nat.le_refl _,hF⟩ ?_ ?_
 ·have e:zZ is is.length=(i0:Int):=by
   obtain⟨n,hn⟩:∃n,is.length=n+1:=⟨is.length-1,by omega⟩
   rw[hn,zZ]
   have:is.getD n 0=i0:=gK (by rw[←hl,hn];rfl)
   rw[this]
  rw[e]
  exact tK @emS
 rintro k ⟨hk,hK⟩
 try refine nv ?_
 refine af ?_ ?_
 rotate_left
 ·intro hlt
  have hk0:k=0:=by
   cases k with
   |zero=>rfl
   |succ j=>simp[zZ] at hlt<;>omega
  subst hk0
  try refine nv ?_
  refine rA [] ?_
  rw[hK]
  exact⟨⟨0,noS,noS,⟨rfl,rfl,rfl⟩,rfl⟩,rfl⟩
 intro hge
 obtain⟨j,rfl⟩:∃j,k=j+1:=by
  cases k with
  |zero=>simp[zZ] at hge
  |succ j=>exact⟨j,rfl⟩
 have hj:j<is.length:=by omega
 have hxl:=hia j hj
 have hxv:=jU hxl
 have ep:=hpv hj
 have hgv:=hlg j hj
 have hpb:=YI (j:=j) hia (by omega) (by omega)
 have hsk:(bif decide (0≤zZ is j) then decide ((L.revs.getD (zZ is j).toNat ai).path=(ln.getD j ai).path) else false)=decide (0<j∧(ln.getD (j-1) ai).path=(ln.getD j ai).path):=by
  cases j with
  |zero=>simp[zZ]
  |succ j'=>
   have h2:=hlg j' (by omega)
   have:(0:Int)≤zZ is (j'+1):=by simp only[zZ];omega
   rw[decide_eq_true this,cond_true,Nat.add_sub_cancel,h2,hrl]
   simp only[zZ,Int.toNat_natCast]
   exact decide_eq_decide.2 ⟨fun h=>⟨by omega,h⟩,fun h=>h.2⟩
 have hskip:=hskip j
 have hnone:=hnone j
 have hfound:=hfound j
 have e9:zZ is (j+1)=((is.getD j 0:Nat):Int):=rfl
 rw[e9]
 have hrx:L.revs.getD (is.getD j 0) ai=ln.getD j ai:=by rw[hgv,hrl];rfl
 have erx:=bi ax L.revs (is.getD j 0) ai (by rw[hrl];exact hxl)
 rw[hrx] at erx
 have epx:=D9 L.prev (is.getD j 0)
 rw[ep] at epx
 have hpl:L.prev.length=L.revs.length:=by rw[hI.lp,hrl]
 have hfl:L.fst.length=L.revs.length:=by rw[hI.lf,hrl]
 have hvm:ln.getD j ai∈d.revs:=by rw[hgv];exact List.mem_of_getElem? hxv
 have hvp:=hX.pth _ hvm
 generalize ln.getD j ai=v at hsk hskip hnone hfound erx hvp
 have hxl2:((is.getD j 0:Nat):Int)<(L.revs.length:Int):=by rw[hrl];omega
 have hpb2:zZ is j<(L.revs.length:Int):=by rw[hrl];exact hpb
 generalize is.getD j 0=xj at erx epx hxl2
 generalize hpvd:zZ is j=pv at epx hpb2 hsk
 have hq0:decide (0≤pv)=true→0<((L.revs.map ax).getD pv.toNat []).length:=fun h=>by
  have h0:=of_decide_eq_true h
  rw[bi ax L.revs pv.toNat ai (by omega)];simp
 try refine nx (p2 @erx @epx) ?_
 refine gy (JG L.revs) ?_ ?_
 ·exact gI @hq0
 try refine nv ?_
 refine af ?_ ?_
 ·intro hc
  rw[hsk] at hc
  have hc:=of_decide_eq_true hc
  try refine nx @epx ?_
  refine⟨j,⟨by omega,by rw[hK,hskip hc.1 hc.2]⟩,by omega,?_⟩
  simp only[hpvd]
  exact aW
 intro hc
 rw[hsk] at hc
 have hc:=of_decide_eq_false hc
 have hnone:=hnone hc
 have hfound:=fun w=>hfound w hc
 have hfw:=Hl L la me m hm.len hm.eb hm.ck v.path (by omega)
 have htd:yA d m (first d v0) v.path=if(nP m v.path).2=true then(match Om d (nP m v.path).1 with
  |none=>none
  |some u=>if ¬first d u=first d v0∧(eQ d (iZ d u).path).getD ai=iZ d u then some (iZ d u) else none) else none:=rfl
 have htr:(nP m v.path).1=(nP m v.path).1:=rfl
 generalize hbt:(nP m v.path).1=t at hfw htd
 generalize (nP m v.path).2=b at hfw htd
 (repeat (first|refine nv ?_|refine cf (hfw) ?_))
 refine af ?_ ?_
 ·intro hb0
  have hb':b=false:=by simpa using hb0
  rw[hb'] at htd
  try refine nx @epx ?_
  refine⟨j,⟨by omega,by rw[hK,hnone htd]⟩,by omega,?_⟩
  simp only[hpvd]
  exact aW
 intro hb0
 have hb':b=true:=by simpa using hb0
 rw[hb',if_pos rfl] at htd
 rcases aep hg hN hI hla t with⟨a1,a2⟩|⟨jn,u0,a1,a2,a3,a4⟩
 ·rw[a2] at htd
  refine aJ ?_
  refine dR (wr:=false) 400 (by simp only[kk,Nat.reduceAdd,Nat.reduceLT,Nat.reduceEqDiff, ↓reduceIte,reduceCtorEq,mM,a1,Option.map_none,Option.isSome];first|done|rfl) ?_ ?_
  ·exact gI @qH
  try refine nv ?_
  refine af ?_ ?_
  rotate_left
  ·intro h;cases h
  intro _
  try refine nx @epx ?_
  refine⟨j,⟨by omega,by rw[hK,hnone htd]⟩,by omega,?_⟩
  simp only[hpvd]
  exact aW
 have hjn:=(List.getElem?_eq_some_iff.1 a2).1
 have erj:=bi ax L.revs jn ai (by rw[hrl];exact hjn)
 rw[hrl,gK a2,←hrl] at erj
 have hjn2:(jn:Int)<(L.revs.length:Int):=by rw[hrl];omega
 have hub:=hg.num jn u0 a2
 refine aJ ?_
 refine dR (wr:=false) 400 (by simp only[kk,Nat.reduceAdd,Nat.reduceLT,Nat.reduceEqDiff, ↓reduceIte,reduceCtorEq,mM,a1,Option.map_some,Option.isSome];first|done|rfl) ?_ ?_
 ·exact gI @qH
 try refine nv ?_
 refine af ?_ ?_
 ·intro h;cases h
 intro _
 try refine nx @erj ?_
 refine mJ (ι:=Option Nat) (fun o=>⟨182,[(1,I .i64 i0),(2, .c (.ptr 2 0)),(4, .c (.ptr 4 0)),(6,I .i64 xj),(7,Str v.path),(9,Str t),(10,B o.isSome),(11,I .i64 ((o.getD 0:Nat):Int))],[(2, .box [.pp (sG L la me), .d (.ps 5 (m.map dK))]),(4, .box (KN 0 noS noS))]⟩)
  (fun o=>(o=none∧Om d t=none)∨∃i u,o=some i∧d.revs[i]? =some u∧¬u.act=5∧Om d t=some u) ?_ ?_
 ·refine af ?_ ?_
  ·intro h5
   have h5':u0.act=5:=by simpa using h5
   rcases a4 with⟨b1,_⟩|⟨_,⟨b1,b2⟩|⟨i,u,b1,b2,b3,b4⟩⟩
   ·exact absurd h5' b1
   ·refine aJ ?_
    refine DD (wr:=false) ([]:List (Nat×AV)) (by simp only[kD,kk,Nat.reduceAdd,Nat.reduceLT,Nat.reduceEqDiff, ↓reduceIte,reduceCtorEq,erj,mV,b1,Option.map_none,Option.isSome];first|done|rfl) ?_ ?_
    ·exact gI @xU
    refine aJ ?_
    refine⟨rfl,none, .inl ⟨rfl,b2⟩,?_⟩
    exact aW
   ·refine aJ ?_
    refine DD (wr:=false) ([]:List (Nat×AV)) (by simp only[kD,kk,Nat.reduceAdd,Nat.reduceLT,Nat.reduceEqDiff, ↓reduceIte,reduceCtorEq,erj,mV,b1,Option.map_some,Option.isSome];first|done|rfl) ?_ ?_
    ·exact gI @xU
    refine aJ ?_
    refine⟨rfl,some i, .inr ⟨i,u,rfl,b2,b3,b4⟩,?_⟩
    exact aW
  ·intro h5
   have h5':¬u0.act=5:=by simpa using h5
   rcases a4 with⟨b1,b2⟩|⟨b1,_⟩
   ·refine aJ ?_
    refine⟨rfl,some jn, .inr ⟨jn,u0,rfl,a2,b1,b2⟩,?_⟩
    exact aW
   ·exact absurd b1 h5'
 clear a1 a2 a3 a4 erj hub hjn hjn2
 rintro o ho
 rcases ho with⟨rfl,b2⟩|⟨i,u,rfl,b1,b5,b2⟩
 ·rw[b2] at htd
  simp only[Option.isSome_none,Option.getD_none]
  have hf2:(0:Int)<(L.fst.length:Int):=by omega
  refine aJ ?_
  refine dx ([]) (p2 (D9 L.fst) @i00) ?_ ?_
  ·exact rC
  refine aJ ?_
  refine af ?_ ?_
  rotate_left
  ·intro h;cases h
  intro _
  try refine nx @epx ?_
  refine⟨j,⟨by omega,by rw[hK,hnone htd]⟩,by omega,?_⟩
  simp only[hpvd]
  exact aW
 rw[b2] at htd
 simp only at htd
 simp only[Option.isSome_some,Option.getD_some]
 have hil:=(List.getElem?_eq_some_iff.1 b1).1
 have hfm:=(hI.fm i u hil b1 b5).1
 have hfe:=ww hg hN hI b1 hv0 b5 v05
 obtain⟨is',hx',hp',wn,jw,w1,w2,w3,w4,w5,w6⟩:=ad7 hg hN hI hla b1 b5
 have hil2:(i:Int)<(L.fst.length:Int):=by omega
 have hi02:(i0:Int)<(L.fst.length:Int):=by omega
 have hcv:(bif decide (L.fst.getD i 0<0) then true else decide (L.fst.getD i 0=L.fst.getD i0 0))=decide (first d u=first d v0):=by
  rw[decide_eq_false (by omega),cond_false];exact decide_eq_decide.2 hfe
 refine aJ ?_
 refine dx ([]) (D9 L.fst) ?_ ?_
 ·exact rC
 refine aJ ?_
 refine af ?_ ?_
 ·intro hc
  have hc':first d u=first d v0:=by
   have h9:(bif decide (L.fst.getD i 0<0) then true else decide (L.fst.getD i 0=L.fst.getD i0 0))=true:=hc
   rw[hcv] at h9;exact of_decide_eq_true h9
  rw[if_neg (fun h=>h.1 hc')] at htd
  try refine nx @epx ?_
  refine⟨j,⟨by omega,by rw[hK,hnone htd]⟩,by omega,?_⟩
  simp only[hpvd]
  exact aW
 intro hc
 have hc':¬first d u=first d v0:=by
  have h9:(bif decide (L.fst.getD i 0<0) then true else decide (L.fst.getD i 0=L.fst.getD i0 0))=false:=hc
  rw[hcv] at h9;exact of_decide_eq_false h9
 have hme:=hx'.me
 have hwg:=bi eI (is'.map fun j:Nat=>(j:Int)) (is'.length-1) 0 (by rw[List.length_map];omega)
 have hwv:(is'.map fun j:Nat=>(j:Int)).getD (is'.length-1) 0=(wn:Int):=by
  rw[List.getD_eq_getElem?_getD,List.getElem?_map,w1];rfl
 rw[hwv] at hwg
 have hil3:=hx'.len
 have hwi:(((is'.length:Nat):Int)-1).toNat=is'.length-1:=by omega
 have erw_:=bi ax L.revs wn ai (by rw[hrl];exact w3)
 have hwr:L.revs.getD wn ai=iZ d u:=by rw[hrl];exact w2
 rw[hwr] at erw_
 have w32:(wn:Int)<(L.revs.length:Int):=by rw[hrl];omega
 have hwd:=jU w3
 rw[w2] at hwd
 have hw5:=(VN (NS hg b2).1 b5).2.1
 have hll:∃z,eQ d (iZ d u).path=some z:=MI (List.mem_of_getElem? hwd)
 have hfli:0<((L.fst.map eI).getD i []).length:=by rw[bi eI L.fst i 0 (by omega)];simp
 generalize iZ d u=W at*
 refine aJ ?_
 refine dx ([]) (p4 (D9 L.fst) @Z7 @hme @Option.map_some.{0,0}) ?_ ?_
 ·exact ob2 @ac9 @hfli
 try refine nx (p2 @hwi @hwg) ?_
 refine aJ ?_
 refine dx ([]) (p4 @erw_ @mM @w4 @Option.map_some.{0,0}) ?_ ?_
 ·exact gI @qH
 refine aJ ?_
 refine af ?_ ?_
 ·intro hq
  have hq':jw=wn:=by have:=of_decide_eq_true hq;omega
  have hz:=w6.1 hq'
  rw[if_pos ⟨hc',hz⟩] at htd
  try refine nv ?_
  refine rA [] ?_
  rw[hK,hfound W htd]
  obtain⟨z,hz2⟩:=hll
  have hzW:z=W:=by rw[hz2] at hz;exact hz
  subst hzW
  exact⟨⟨wn,v.path,t,⟨rfl,hbt.symm,hw5,hz2,wn,rfl,hwd⟩,rfl⟩,rfl⟩
 ·intro hq
  have hq':¬jw=wn:=by have:=of_decide_eq_false hq;omega
  rw[if_neg (fun h=>hq' (w6.2 h.2))] at htd
  try refine nx @epx ?_
  refine⟨j,⟨by omega,by rw[hK,hnone htd]⟩,by omega,?_⟩
  simp only[hpvd]
  exact aW
end Go.Proofs.YtcpgicfphakdaaaGreatDoor
