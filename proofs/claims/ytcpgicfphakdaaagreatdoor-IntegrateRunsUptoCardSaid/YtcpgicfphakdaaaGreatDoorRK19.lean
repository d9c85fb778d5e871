/- A part of the proof. -/
import Derived.Test.YtcpgicfphakdaaaGreatDoorRK16
import Derived.Test.YtcpgicfphakdaaaGreatDoorRK18
set_option linter.all false
namespace Go.Proofs.YtcpgicfphakdaaaGreatDoor
open Go.Ab Tys
variable [yF]
structure LX (d:bJ) (L:iE) (la:List (ByteArray×Int)) (me:List (Int×List Int)):Prop where
 good:Good d.revs
 len:d.revs.length≤512
 run:jJ d d.revs.length L me
 la:vS d d.revs.length la
 pth:Jn d
 frm:tV d
structure MX (m:List eQ):Prop where
 len:m.length≤1000000
 eb:∀e∈m,EB 10000 e
 ck:∀e∈m,gm e.line=0
theorem abz (l:List Int) (i:Nat) (h:i<l.length):(l.map eI).getD i []=eI (l.getD i 0):=bg eI l i 0 h
def yR (is:List Nat):Nat→Int
 |0=> -1
 |k+1=>(is.getD k 0:Nat)
theorem Qe.pv {d:bJ} {L:iE} {me:List (Int×List Int)} {f:bf} {key:Int} {is:List Nat} (h:Qe d L me f key is) {j:Nat} (hj:j<is.length):L.prev.getD (is.getD j 0) 0=yR is j:=by
 have e:is[j]? =some (is.getD j 0):=getD_at hj
 cases j with
 |zero=>exact h.abz _ e
 |succ j=>exact h.prevS j _ _ (getD_at (by omega)) e
theorem Cs (l:List Int) (i:Nat):((l.map eI).getD i []).getD 0 (D.v (.int .i64 0))=D.v (.int .i64 (l.getD i 0)):=by
 simp only[List.getD_eq_getElem?_getD,List.getElem?_map]
 cases l[i]?<;>rfl
theorem Xy {is:List Nat} {n:Nat} (h:∀j,j<is.length→is.getD j 0<n) {j:Nat} (hj:j≤is.length) (hn:0<n):yR is j<(n:Int):=by
 cases j with
 |zero=>simp only[yR];omega
 |succ j=>have:=h j (by omega);simp only[yR];omega
def adv (d:bJ) (m:List eQ) (tg:Option (Rev×ByteArray)) (wi:Int) (q pl:ByteArray):Prop:=
 match tg with
 |none=>wi=0∧q=noS∧pl=noS
 |some (w,p)=>q=p∧pl=(oW m p).1∧¬w.act=5∧dD d w.path=some w∧∃j:Nat,wi=(j:Int)∧d.revs[j]? =some w
@[reducible] def KI (wi:Int) (q pl:ByteArray):List C:=[.d (.v (.int .i64 wi)), .d (.v (.string q)), .d (.v (.string pl))]
def z74.kk:=p3 (p16 kB kG kS kM Tryz.ntmps74 Tryz.underlying55 Rf pM iK Qh qW nI zt Gi NV Qa) (p16 oC oI jq gU kW Ez qU yI yN yE qR EQ PN DT UQ Jp) (p16 J4 Un YA x8 uz vT nT IR aap Za WP VF kC aa0 AX Tryz.results74)
set_option maxRecDepth 100000 in
set_option maxHeartbeats 32000000 in
open z74 in
theorem QF (d:bJ) (L:iE) (la:List (ByteArray×Int)) (me:List (Int×List Int)) (hX:LX d L la me) (m:List eQ) (hm:MX m) (i0:Nat) (v0:Rev) (hv0:d.revs[i0]? =some v0) (v05:¬v0.act=5)
 (is:List Nat) (hx:Qe d L me (first d v0) (L.fst.getD i0 0) is) (hl:is[is.length-1]? =some i0) (hp0:0<is.length):
 AC Tryz.prog 74 [Z4 L la me m,I .i64 i0] [] (fun r st=>(∃wi q pl,adv d m (xw d m (line d (first d v0))) wi q pl∧r= .tup [(true,KI wi q pl),pB (xw d m (line d (first d v0))).isSome])∧st=[]):=by
 have hg:=hX.good
 have hN:=hX.len
 have hI:=hX.run.inv hg
 have hla:=hX.la
 have hrl:L.revs=d.revs:=hI.revs
 have hrl2:L.revs.length=d.revs.length:=by rw[hrl]
 have hi0:=(List.getElem?_eq_some_iff.1 hv0).1
 have hln:=hx.ln
 have hself:fileOf ((line d (first d v0)).getD 0 af)=first d v0:=by
  have h1:(jD d (first d v0))[0]? =some ((line d (first d v0)).getD 0 af):=by
   rw[←oM hg hN];exact getD_at (by rw[hln,List.length_map];exact hp0)
  exact Kq hg hN h1
 have hskip:=fun k=> @Va d m (line d (first d v0)) k
 have hnone:=fun k=> @UV d m (line d (first d v0)) k
 have hfound:=fun k w=> @Q4 d m (line d (first d v0)) k w
 rw[hself] at hnone hfound
 have hF:xw d m (line d (first d v0))=qP d m (line d (first d v0)) is.length:=by rw[←abZ,hln,List.length_map]
 have hlg:∀j,j<is.length→(line d (first d v0)).getD j af=atR d (is.getD j 0):=fun j hj=>by
  rw[hln,List.getD_eq_getElem?_getD,List.getElem?_map,getD_at hj];rfl
 have hia:∀j,j<is.length→is.getD j 0<d.revs.length:=fun j hj=>hx.lt _ (List.mem_of_getElem? (getD_at hj))
 have hpv:=fun {j:Nat} (hj:j<is.length)=>hx.pv hj
 have hsl:0<L.revs.length:=by rw[hrl];omega
 generalize xw d m (line d (first d v0))=R at hF
 generalize line d (first d v0)=ln at hskip hnone hfound hF hlg hself hln
 refine dA Tryz.func74 Tryz.ntmps74 fun x hx=>?_
 try refine nv ?_
 refine ax (ι:=Nat) (I:=fun k=>⟨182,[(1,I .i64 i0),(2, .c (.ptr 2 0)),(4, .c (.ptr 4 0)),(6,I .i64 (yR is k))],[(2, .box [.pp (qK L la me), .d (.ps 5 (m.map eY))]),(4, .box (KI 0 noS noS))]⟩)
  (Inv:=fun k=>k≤is.length∧R=qP d m ln k) (μ:=fun k=>k) is.length ⟨Nat.le_refl _,hF⟩ ?_ ?_
 ·have e:yR is is.length=(i0:Int):=by
   obtain⟨n,hn⟩:∃n,is.length=n+1:=⟨is.length-1,by omega⟩
   rw[hn,yR]
   have:is.getD n 0=i0:=kZ (by rw[←hl,hn];rfl)
   rw[this]
  rw[e]
  exact EH @emS
 rintro k ⟨hk,hK⟩
 try refine nv ?_
 refine aj ?_ ?_
 rotate_left
 ·intro hlt
  have hk0:k=0:=by
   cases k with
   |zero=>rfl
   |succ j=>simp[yR] at hlt<;>omega
  subst hk0
  try refine nv ?_
  refine rA [] ?_
  rw[hK]
  exact⟨⟨0,noS,noS,⟨rfl,rfl,rfl⟩,rfl⟩,rfl⟩
 intro hge
 obtain⟨j,rfl⟩:∃j,k=j+1:=by
  cases k with
  |zero=>simp[yR] at hge
  |succ j=>exact⟨j,rfl⟩
 have hj:j<is.length:=by omega
 have hxl:=hia j hj
 have hxv:=je hxl
 have ep:=hpv hj
 have hgv:=hlg j hj
 have hpb:=Xy (j:=j) hia (by omega) (by omega)
 have hsk:(bif decide (0≤yR is j) then decide ((L.revs.getD (yR is j).toNat af).path=(ln.getD j af).path) else false)=decide (0<j∧(ln.getD (j-1) af).path=(ln.getD j af).path):=by
  cases j with
  |zero=>simp[yR]
  |succ j'=>
   have h2:=hlg j' (by omega)
   have:(0:Int)≤yR is (j'+1):=by simp only[yR];omega
   rw[decide_eq_true this,cond_true,Nat.add_sub_cancel,h2,hrl]
   simp only[yR,Int.toNat_natCast]
   exact decide_eq_decide.2 ⟨fun h=>⟨by omega,h⟩,fun h=>h.2⟩
 have hskip:=hskip j
 have hnone:=hnone j
 have hfound:=hfound j
 have e9:yR is (j+1)=((is.getD j 0:Nat):Int):=rfl
 rw[e9]
 have hrx:L.revs.getD (is.getD j 0) af=ln.getD j af:=by rw[hgv,hrl];rfl
 have erx:=bg aI L.revs (is.getD j 0) af (by rw[hrl];exact hxl)
 rw[hrx] at erx
 have epx:=Cs L.prev (is.getD j 0)
 rw[ep] at epx
 have hpl:L.prev.length=L.revs.length:=by rw[hI.lp,hrl]
 have hfl:L.fst.length=L.revs.length:=by rw[hI.lf,hrl]
 have hvm:ln.getD j af∈d.revs:=by rw[hgv];exact List.mem_of_getElem? hxv
 have hvp:=hX.pth _ hvm
 generalize ln.getD j af=v at hsk hskip hnone hfound erx hvp
 have hxl2:((is.getD j 0:Nat):Int)<(L.revs.length:Int):=by rw[hrl];omega
 have hpb2:yR is j<(L.revs.length:Int):=by rw[hrl];exact hpb
 generalize is.getD j 0=xj at erx epx hxl2
 generalize hpvd:yR is j=pv at epx hpb2 hsk
 have hq0:decide (0≤pv)=true→0<((L.revs.map aI).getD pv.toNat []).length:=fun h=>by
  have h0:=of_decide_eq_true h
  rw[bg aI L.revs pv.toNat af (by omega)];simp
 try refine nx (p2 @erx @epx) ?_
 refine gy (XZ L.revs) ?_ ?_
 ·exact iw @hq0
 try refine nv ?_
 refine aj ?_ ?_
 ·intro hc
  rw[hsk] at hc
  have hc:=of_decide_eq_true hc
  try refine nx @epx ?_
  refine⟨j,⟨by omega,by rw[hK,hskip hc.1 hc.2]⟩,by omega,?_⟩
  simp only[hpvd]
  exact cO
 intro hc
 rw[hsk] at hc
 have hc:=of_decide_eq_false hc
 have hnone:=hnone hc
 have hfound:=fun w=>hfound w hc
 have hfw:=FZ L la me m hm.len hm.eb hm.ck v.path (by omega)
 have htd:zg d m (first d v0) v.path=if(oW m v.path).2=true then(match Qr d (oW m v.path).1 with
  |none=>none
  |some u=>if ¬first d u=first d v0∧(dD d (jr d u).path).getD af=jr d u then some (jr d u) else none) else none:=rfl
 have htr:(oW m v.path).1=(oW m v.path).1:=rfl
 generalize hbt:(oW m v.path).1=t at hfw htd
 generalize (oW m v.path).2=b at hfw htd
 (repeat (first|refine nv ?_|refine cf (hfw) ?_))
 refine aj ?_ ?_
 ·intro hb0
  have hb':b=false:=by simpa using hb0
  rw[hb'] at htd
  try refine nx @epx ?_
  refine⟨j,⟨by omega,by rw[hK,hnone htd]⟩,by omega,?_⟩
  simp only[hpvd]
  exact cO
 intro hb0
 have hb':b=true:=by simpa using hb0
 rw[hb',if_pos rfl] at htd
 rcases ads hg hN hI hla t with⟨a1,a2⟩|⟨jn,u0,a1,a2,a3,a4⟩
 ·rw[a2] at htd
  refine bC ?_
  refine dw (wr:=false) 400 (by simp only[kk,Nat.reduceAdd,Nat.reduceLT,Nat.reduceEqDiff, ↓reduceIte,reduceCtorEq,kY,a1,Option.map_none,Option.isSome];first|done|rfl) ?_ ?_
  ·exact iw @pK
  try refine nv ?_
  refine aj ?_ ?_
  rotate_left
  ·intro h;cases h
  intro _
  try refine nx @epx ?_
  refine⟨j,⟨by omega,by rw[hK,hnone htd]⟩,by omega,?_⟩
  simp only[hpvd]
  exact cO
 have hjn:=(List.getElem?_eq_some_iff.1 a2).1
 have erj:=bg aI L.revs jn af (by rw[hrl];exact hjn)
 rw[hrl,kZ a2,←hrl] at erj
 have hjn2:(jn:Int)<(L.revs.length:Int):=by rw[hrl];omega
 have hub:=hg.num jn u0 a2
 refine bC ?_
 refine dw (wr:=false) 400 (by simp only[kk,Nat.reduceAdd,Nat.reduceLT,Nat.reduceEqDiff, ↓reduceIte,reduceCtorEq,kY,a1,Option.map_some,Option.isSome];first|done|rfl) ?_ ?_
 ·exact iw @pK
 try refine nv ?_
 refine aj ?_ ?_
 ·intro h;cases h
 intro _
 try refine nx @erj ?_
 refine vM (ι:=Option Nat) (fun o=>⟨182,[(1,I .i64 i0),(2, .c (.ptr 2 0)),(4, .c (.ptr 4 0)),(6,I .i64 xj),(7,Str v.path),(9,Str t),(10,B o.isSome),(11,I .i64 ((o.getD 0:Nat):Int))],[(2, .box [.pp (qK L la me), .d (.ps 5 (m.map eY))]),(4, .box (KI 0 noS noS))]⟩)
  (fun o=>(o=none∧Qr d t=none)∨∃i u,o=some i∧d.revs[i]? =some u∧¬u.act=5∧Qr d t=some u) ?_ ?_
 ·refine aj ?_ ?_
  ·intro h5
   have h5':u0.act=5:=by simpa using h5
   rcases a4 with⟨b1,_⟩|⟨_,⟨b1,b2⟩|⟨i,u,b1,b2,b3,b4⟩⟩
   ·exact absurd h5' b1
   ·refine bC ?_
    refine BO (wr:=false) ([]:List (Nat×AV)) (by simp only[kD,kk,Nat.reduceAdd,Nat.reduceLT,Nat.reduceEqDiff, ↓reduceIte,reduceCtorEq,erj,lH,b1,Option.map_none,Option.isSome];first|done|rfl) ?_ ?_
    ·exact iw @xU
    refine bC ?_
    refine⟨rfl,none, .inl ⟨rfl,b2⟩,?_⟩
    exact cO
   ·refine bC ?_
    refine BO (wr:=false) ([]:List (Nat×AV)) (by simp only[kD,kk,Nat.reduceAdd,Nat.reduceLT,Nat.reduceEqDiff, ↓reduceIte,reduceCtorEq,erj,lH,b1,Option.map_some,Option.isSome];first|done|rfl) ?_ ?_
    ·exact iw @xU
    refine bC ?_
    refine⟨rfl,some i, .inr ⟨i,u,rfl,b2,b3,b4⟩,?_⟩
    exact cO
  ·intro h5
   have h5':¬u0.act=5:=by simpa using h5
   rcases a4 with⟨b1,b2⟩|⟨b1,_⟩
   ·refine bC ?_
    refine⟨rfl,some jn, .inr ⟨jn,u0,rfl,a2,b1,b2⟩,?_⟩
    exact cO
   ·exact absurd b1 h5'
 clear a1 a2 a3 a4 erj hub hjn hjn2
 rintro o ho
 rcases ho with⟨rfl,b2⟩|⟨i,u,rfl,b1,b5,b2⟩
 ·rw[b2] at htd
  simp only[Option.isSome_none,Option.getD_none]
  have hf2:(0:Int)<(L.fst.length:Int):=by omega
  refine bC ?_
  refine dx ([]) (p2 (Cs L.fst) @i00) ?_ ?_
  ·exact vO
  refine bC ?_
  refine aj ?_ ?_
  rotate_left
  ·intro h;cases h
  intro _
  try refine nx @epx ?_
  refine⟨j,⟨by omega,by rw[hK,hnone htd]⟩,by omega,?_⟩
  simp only[hpvd]
  exact cO
 rw[b2] at htd
 simp only at htd
 simp only[Option.isSome_some,Option.getD_some]
 have hil:=(List.getElem?_eq_some_iff.1 b1).1
 have hfm:=(hI.fm i u hil b1 b5).1
 have hfe:=uZ hg hN hI b1 hv0 b5 v05
 obtain⟨is',hx',hp',wn,jw,w1,w2,w3,w4,w5,w6⟩:=aep hg hN hI hla b1 b5
 have hil2:(i:Int)<(L.fst.length:Int):=by omega
 have hi02:(i0:Int)<(L.fst.length:Int):=by omega
 have hcv:(bif decide (L.fst.getD i 0<0) then true else decide (L.fst.getD i 0=L.fst.getD i0 0))=decide (first d u=first d v0):=by
  rw[decide_eq_false (by omega),cond_false];exact decide_eq_decide.2 hfe
 refine bC ?_
 refine dx ([]) (Cs L.fst) ?_ ?_
 ·exact vO
 refine bC ?_
 refine aj ?_ ?_
 ·intro hc
  have hc':first d u=first d v0:=by
   have h9:(bif decide (L.fst.getD i 0<0) then true else decide (L.fst.getD i 0=L.fst.getD i0 0))=true:=hc
   rw[hcv] at h9;exact of_decide_eq_true h9
  rw[if_neg (fun h=>h.1 hc')] at htd
  try refine nx @epx ?_
  refine⟨j,⟨by omega,by rw[hK,hnone htd]⟩,by omega,?_⟩
  simp only[hpvd]
  exact cO
 intro hc
 have hc':¬first d u=first d v0:=by
  have h9:(bif decide (L.fst.getD i 0<0) then true else decide (L.fst.getD i 0=L.fst.getD i0 0))=false:=hc
  rw[hcv] at h9;exact of_decide_eq_false h9
 have hme:=hx'.me
 have hwg:=bg eI (is'.map fun j:Nat=>(j:Int)) (is'.length-1) 0 (by rw[List.length_map];omega)
 have hwv:(is'.map fun j:Nat=>(j:Int)).getD (is'.length-1) 0=(wn:Int):=by
  rw[List.getD_eq_getElem?_getD,List.getElem?_map,w1];rfl
 rw[hwv] at hwg
 have hil3:=hx'.len
 have hwi:(((is'.length:Nat):Int)-1).toNat=is'.length-1:=by omega
 have erw_:=bg aI L.revs wn af (by rw[hrl];exact w3)
 have hwr:L.revs.getD wn af=jr d u:=by rw[hrl];exact w2
 rw[hwr] at erw_
 have w32:(wn:Int)<(L.revs.length:Int):=by rw[hrl];omega
 have hwd:=je w3
 rw[w2] at hwd
 have hw5:=(Kw (LH hg b2).1 b5).2.1
 have hll:∃z,dD d (jr d u).path=some z:=A7 (List.mem_of_getElem? hwd)
 have hfli:0<((L.fst.map eI).getD i []).length:=by rw[bg eI L.fst i 0 (by omega)];simp
 generalize jr d u=W at*
 refine bC ?_
 refine dx ([]) (p4 (Cs L.fst) @XB @hme @Option.map_some.{0,0}) ?_ ?_
 ·exact ob2 @acD @hfli
 try refine nx (p2 @hwi @hwg) ?_
 refine bC ?_
 refine dx ([]) (p4 @erw_ @kY @w4 @Option.map_some.{0,0}) ?_ ?_
 ·exact iw @pK
 refine bC ?_
 refine aj ?_ ?_
 ·intro hq
  have hq':jw=wn:=by have:=of_decide_eq_true hq;omega
  have hz:=w6.1 hq'
  rw[if_pos ⟨hc',hz⟩] at htd
  try refine nv ?_
  refine rA [] ?_
  rw[hK,hfound W htd]
  obtain⟨z,hz2⟩:=hll
  have hzW:z=W:=by rw[hz2] at hz;exact hz
  subst hzW
  exact⟨⟨wn,v.path,t,⟨rfl,hbt.symm,hw5,hz2,wn,rfl,hwd⟩,rfl⟩,rfl⟩
 ·intro hq
  have hq':¬jw=wn:=by have:=of_decide_eq_false hq;omega
  rw[if_neg (fun h=>hq' (w6.2 h.2))] at htd
  try refine nx @epx ?_
  refine⟨j,⟨by omega,by rw[hK,hnone htd]⟩,by omega,?_⟩
  simp only[hpvd]
  exact cO
end Go.Proofs.YtcpgicfphakdaaaGreatDoor
