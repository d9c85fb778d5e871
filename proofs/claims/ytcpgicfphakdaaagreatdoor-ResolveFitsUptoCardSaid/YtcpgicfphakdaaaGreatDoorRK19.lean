/- A part of the proof. -/
import Derived.Test.YtcpgicfphakdaaaGreatDoorRK16
import Derived.Test.YtcpgicfphakdaaaGreatDoorRV2
set_option linter.all false
namespace Go.Proofs.YtcpgicfphakdaaaGreatDoor
open Go.Ab Tys
variable [zg]
structure LX (d:aW) (L:jA) (la:List (akK×Int)) (me:List (Int×List Int)):Prop where
 good:Good d.revs
 len:d.revs.length≤512
 run:lG d d.revs.length L me
 la:yD d d.revs.length la
 pth:Jw d
 frm:zq d
structure MX (m:List fA):Prop where
 len:m.length≤1000000
 eb:∀e∈m,EB 10000 e
 ck:∀e∈m,iQ e.line=0
theorem afN (l:List Int) (i:Nat) (h:i<l.length):(l.map eI).getD i []=eI (l.getD i 0):=bH eI l i 0 h
def BM (is:List Nat):Nat→Int
 |0=> -1
 |k+1=>(is.getD k 0:Nat)
theorem UG.pv {d:aW} {L:jA} {me:List (Int×List Int)} {f:bJ} {key:Int} {is:List Nat} (h:UG d L me f key is) {j:Nat} (hj:j<is.length):L.prev.getD (is.getD j 0) 0=BM is j:=by
 have e:is[j]? =some (is.getD j 0):=getD_at hj
 cases j with
 |zero=>exact h.afN _ e
 |succ j=>exact h.prevS j _ _ (getD_at (by omega)) e
theorem FP (l:List Int) (i:Nat):((l.map eI).getD i []).getD 0 (D.v (.int .i64 0))=D.v (.int .i64 (l.getD i 0)):=by
 simp only[adI,ag5]
 cases l[i]?<;>rfl
theorem adA {is:List Nat} {n:Nat} (h:∀j,j<is.length→is.getD j 0<n) {j:Nat} (hj:j≤is.length) (hn:0<n):BM is j<(n:Int):=by
 cases j with
 |zero=>simp only[BM];omega
 |succ j=>have:=h j (by omega);simp only[BM];omega
def ajd (d:aW) (m:List fA) (tg:Option (Rev×akK)) (wi:Int) (q pl:akK):Prop:=
 match tg with
 |none=>wi=0∧q=noS∧pl=noS
 |some (w,p)=>q=p∧pl=(nG m p).1∧¬w.act=5∧aU d w.path=some w∧∃j:Nat,wi=(j:Int)∧d.revs[j]? =some w
@[reducible] def Ol (wi:Int) (q pl:akK):List C:=[.d (.v (.int .i64 wi)), .d (.v (.string q)), .d (.v (.string pl))]
def z74.kk:=p3 (p16 kB kG kS kM Tryz.ntmps74 Tryz.underlying55 VY oG dM Tu vG jQ uf LC Rk SH) (p16 kQ kT jg fK iF IG vS BJ Bz Bd vP I8 J7 yV EY Om) (p16 KW YF abz qU mG xK iq DU aeI abG Y3 Va jB afg Em Tryz.results74)
set_option maxRecDepth 100000 in
set_option maxHeartbeats 32000000 in
open z74 in
theorem Vz (d:aW) (L:jA) (la:List (akK×Int)) (me:List (Int×List Int)) (hX:LX d L la me) (m:List fA) (hm:MX m) (i0:Nat) (v0:Rev) (hv0:d.revs[i0]? =some v0) (v05:¬v0.act=5)
 (is:List Nat) (hx:UG d L me (first d v0) (L.fst.getD i0 0) is) (hl:is[is.length-1]? =some i0) (hp0:0<is.length):
 AC Tryz.prog 74 [adY L la me m,I .i64 i0] [] (fun r st=>(∃wi q pl,ajd d m (oV d m (line d (first d v0))) wi q pl∧r= .tup [(true,Ol wi q pl),pB (oV d m (line d (first d v0))).isSome])∧st=[]):=by
 have hg:=hX.good
 have hN:=hX.len
 have hI:=hX.run.inv hg
 have hla:=hX.la
 have hrl:L.revs=d.revs:=hI.revs
 have hrl2:L.revs.length=d.revs.length:=by rw[hrl]
 have hi0:=(adK.1 hv0).1
 have hln:=hx.ln
 have hself:fileOf ((line d (first d v0)).getD 0 ag)=first d v0:=by
  have h1:(lZ d (first d v0))[0]? =some ((line d (first d v0)).getD 0 ag):=by
   rw[←mY hg hN];exact getD_at (by rw[hln,ae1];exact hp0)
  exact xG hg hN h1
 have hskip:=fun k=> @aaf d m (line d (first d v0)) k
 have hnone:=fun k=> @aal d m (line d (first d v0)) k
 have hfound:=fun k w=> @VG d m (line d (first d v0)) k w
 rw[hself] at hnone hfound
 have hF:oV d m (line d (first d v0))=uJ d m (line d (first d v0)) is.length:=by rw[←agj,hln,ae1]
 have hlg:∀j,j<is.length→(line d (first d v0)).getD j ag=atR d (is.getD j 0):=fun j hj=>by
  rw[hln,adI,ag5,getD_at hj];rfl
 have hia:∀j,j<is.length→is.getD j 0<d.revs.length:=fun j hj=>hx.lt _ (aem (getD_at hj))
 have hpv:=fun {j:Nat} (hj:j<is.length)=>hx.pv hj
 have hsl:0<L.revs.length:=by rw[hrl];omega
 generalize oV d m (line d (first d v0))=R at hF
 generalize line d (first d v0)=ln at hskip hnone hfound hF hlg hself hln
 refine df Tryz.func74 Tryz.ntmps74 fun x hx=>?_
 try refine nv ?_
 refine au (ι:=Nat) (I:=fun k=>⟨182,[(1,I .i64 i0),(2, .c (.ptr 2 0)),(4, .c (.ptr 4 0)),(6,I .i64 (BM is k))],[(2, .box [.pp (uw L la me), .d (.ps 5 (m.map fV))]),(4, .box (Ol 0 noS noS))]⟩)
  (Inv:=fun k=>k≤is.length∧R=uJ d m ln k) (μ:=fun k=>k) is.length ⟨afJ _,hF⟩ ?_ ?_
 ·have e:BM is is.length=(i0:Int):=by
   obtain⟨n,hn⟩:∃n,is.length=n+1:=⟨is.length-1,by omega⟩
   rw[hn,BM]
   have:is.getD n 0=i0:=nK (by rw[←hl,hn];rfl)
   rw[this]
  rw[e]
  exact Dc @emS
 rintro k ⟨hk,hK⟩
 try refine nv ?_
 refine aj ?_ ?_
 rotate_left
 ·intro hlt
  have hk0:k=0:=by
   cases k with
   |zero=>rfl
   |succ j=>simp[BM] at hlt<;>omega
  subst hk0
  try refine nv ?_
  refine rA [] ?_
  rw[hK]
  exact⟨⟨0,noS,noS,⟨rfl,rfl,rfl⟩,rfl⟩,rfl⟩
 intro hge
 obtain⟨j,rfl⟩:∃j,k=j+1:=by
  cases k with
  |zero=>simp[BM] at hge
  |succ j=>exact⟨j,rfl⟩
 have hj:j<is.length:=by omega
 have hxl:=hia j hj
 have hxv:=jU hxl
 have ep:=hpv hj
 have hgv:=hlg j hj
 have hpb:=adA (j:=j) hia (by omega) (by omega)
 have hsk:(bif decide (0≤BM is j) then decide ((L.revs.getD (BM is j).toNat ag).path=(ln.getD j ag).path) else false)=decide (0<j∧(ln.getD (j-1) ag).path=(ln.getD j ag).path):=by
  cases j with
  |zero=>simp[BM]
  |succ j'=>
   have h2:=hlg j' (by omega)
   have:(0:Int)≤BM is (j'+1):=by simp only[BM];omega
   rw[ajk this,cond_true,akb,h2,hrl]
   simp only[BM,Int.toNat_natCast]
   exact ajs.2 ⟨fun h=>⟨by omega,h⟩,fun h=>h.2⟩
 have hskip:=hskip j
 have hnone:=hnone j
 have hfound:=hfound j
 have e9:BM is (j+1)=((is.getD j 0:Nat):Int):=rfl
 rw[e9]
 have hrx:L.revs.getD (is.getD j 0) ag=ln.getD j ag:=by rw[hgv,hrl];rfl
 have erx:=bH aA L.revs (is.getD j 0) ag (by rw[hrl];exact hxl)
 rw[hrx] at erx
 have epx:=FP L.prev (is.getD j 0)
 rw[ep] at epx
 have hpl:L.prev.length=L.revs.length:=by rw[hI.lp,hrl]
 have hfl:L.fst.length=L.revs.length:=by rw[hI.lf,hrl]
 have hvm:ln.getD j ag∈d.revs:=by rw[hgv];exact aem hxv
 have hvp:=hX.pth _ hvm
 generalize ln.getD j ag=v at hsk hskip hnone hfound erx hvp
 have hxl2:((is.getD j 0:Nat):Int)<(L.revs.length:Int):=by rw[hrl];omega
 have hpb2:BM is j<(L.revs.length:Int):=by rw[hrl];exact hpb
 generalize is.getD j 0=xj at erx epx hxl2
 generalize hpvd:BM is j=pv at epx hpb2 hsk
 have hq0:decide (0≤pv)=true→0<((L.revs.map aA).getD pv.toNat []).length:=fun h=>by
  have h0:=agw h
  rw[bH aA L.revs pv.toNat ag (by omega)];simp
 try refine nx (p2 @erx @epx) ?_
 refine gy (abu L.revs) ?_ ?_
 ·exact eQ @hq0
 try refine nv ?_
 refine aj ?_ ?_
 ·intro hc
  rw[hsk] at hc
  have hc:=agw hc
  try refine nx @epx ?_
  refine⟨j,⟨by omega,by rw[hK,hskip hc.1 hc.2]⟩,by omega,?_⟩
  simp only[hpvd]
  exact bQ
 intro hc
 rw[hsk] at hc
 have hc:=ajJ hc
 have hnone:=hnone hc
 have hfound:=fun w=>hfound w hc
 have hfw:=Lr L la me m hm.len hm.eb hm.ck v.path (by omega)
 have htd:rH d m (first d v0) v.path=if(nG m v.path).2=true then(match Hf d (nG m v.path).1 with
  |none=>none
  |some u=>if ¬first d u=first d v0∧(aU d (iG d u).path).getD ag=iG d u then some (iG d u) else none) else none:=rfl
 have htr:(nG m v.path).1=(nG m v.path).1:=rfl
 generalize hbt:(nG m v.path).1=t at hfw htd
 generalize (nG m v.path).2=b at hfw htd
 (repeat (first|refine nv ?_|refine cf (hfw) ?_))
 refine aj ?_ ?_
 ·intro hb0
  have hb':b=false:=by simpa using hb0
  rw[hb'] at htd
  try refine nx @epx ?_
  refine⟨j,⟨by omega,by rw[hK,hnone htd]⟩,by omega,?_⟩
  simp only[hpvd]
  exact bQ
 intro hb0
 have hb':b=true:=by simpa using hb0
 rw[hb',if_pos rfl] at htd
 rcases ahS hg hN hI hla t with⟨a1,a2⟩|⟨jn,u0,a1,a2,a3,a4⟩
 ·rw[a2] at htd
  refine aZ ?_
  refine dD (wr:=false) 400 (by simp only[kk,Nat.reduceAdd,Nat.reduceLT,Nat.reduceEqDiff, ↓reduceIte,reduceCtorEq,nO,a1,Option.map_none,Option.isSome];first|done|rfl) ?_ ?_
  ·exact eQ @rJ
  try refine nv ?_
  refine aj ?_ ?_
  rotate_left
  ·intro h;cases h
  intro _
  try refine nx @epx ?_
  refine⟨j,⟨by omega,by rw[hK,hnone htd]⟩,by omega,?_⟩
  simp only[hpvd]
  exact bQ
 have hjn:=(adK.1 a2).1
 have erj:=bH aA L.revs jn ag (by rw[hrl];exact hjn)
 rw[hrl,nK a2,←hrl] at erj
 have hjn2:(jn:Int)<(L.revs.length:Int):=by rw[hrl];omega
 have hub:=hg.num jn u0 a2
 refine aZ ?_
 refine dD (wr:=false) 400 (by simp only[kk,Nat.reduceAdd,Nat.reduceLT,Nat.reduceEqDiff, ↓reduceIte,reduceCtorEq,nO,a1,Option.map_some,Option.isSome];first|done|rfl) ?_ ?_
 ·exact eQ @rJ
 try refine nv ?_
 refine aj ?_ ?_
 ·intro h;cases h
 intro _
 try refine nx @erj ?_
 refine kL (ι:=Option Nat) (fun o=>⟨182,[(1,I .i64 i0),(2, .c (.ptr 2 0)),(4, .c (.ptr 4 0)),(6,I .i64 xj),(7,Str v.path),(9,Str t),(10,B o.isSome),(11,I .i64 ((o.getD 0:Nat):Int))],[(2, .box [.pp (uw L la me), .d (.ps 5 (m.map fV))]),(4, .box (Ol 0 noS noS))]⟩)
  (fun o=>(o=none∧Hf d t=none)∨∃i u,o=some i∧d.revs[i]? =some u∧¬u.act=5∧Hf d t=some u) ?_ ?_
 ·refine aj ?_ ?_
  ·intro h5
   have h5':u0.act=5:=by simpa using h5
   rcases a4 with⟨b1,_⟩|⟨_,⟨b1,b2⟩|⟨i,u,b1,b2,b3,b4⟩⟩
   ·exact absurd h5' b1
   ·refine aZ ?_
    refine Bg (wr:=false) ([]:List (Nat×AV)) (by simp only[kD,kk,Nat.reduceAdd,Nat.reduceLT,Nat.reduceEqDiff, ↓reduceIte,reduceCtorEq,erj,nY,b1,Option.map_none,Option.isSome];first|done|rfl) ?_ ?_
    ·exact eQ @zU
    refine aZ ?_
    refine⟨rfl,none, .inl ⟨rfl,b2⟩,?_⟩
    exact bQ
   ·refine aZ ?_
    refine Bg (wr:=false) ([]:List (Nat×AV)) (by simp only[kD,kk,Nat.reduceAdd,Nat.reduceLT,Nat.reduceEqDiff, ↓reduceIte,reduceCtorEq,erj,nY,b1,Option.map_some,Option.isSome];first|done|rfl) ?_ ?_
    ·exact eQ @zU
    refine aZ ?_
    refine⟨rfl,some i, .inr ⟨i,u,rfl,b2,b3,b4⟩,?_⟩
    exact bQ
  ·intro h5
   have h5':¬u0.act=5:=by simpa using h5
   rcases a4 with⟨b1,b2⟩|⟨b1,_⟩
   ·refine aZ ?_
    refine⟨rfl,some jn, .inr ⟨jn,u0,rfl,a2,b1,b2⟩,?_⟩
    exact bQ
   ·exact absurd b1 h5'
 clear a1 a2 a3 a4 erj hub hjn hjn2
 rintro o ho
 rcases ho with⟨rfl,b2⟩|⟨i,u,rfl,b1,b5,b2⟩
 ·rw[b2] at htd
  simp only[Option.isSome_none,Option.getD_none]
  have hf2:(0:Int)<(L.fst.length:Int):=by omega
  refine aZ ?_
  refine dx ([]) (p2 (FP L.fst) @i00) ?_ ?_
  ·exact qP
  refine aZ ?_
  refine aj ?_ ?_
  rotate_left
  ·intro h;cases h
  intro _
  try refine nx @epx ?_
  refine⟨j,⟨by omega,by rw[hK,hnone htd]⟩,by omega,?_⟩
  simp only[hpvd]
  exact bQ
 rw[b2] at htd
 simp only at htd
 simp only[Option.isSome_some,Option.getD_some]
 have hil:=(adK.1 b1).1
 have hfm:=(hI.fm i u hil b1 b5).1
 have hfe:=yJ hg hN hI b1 hv0 b5 v05
 obtain⟨is',hx',hp',wn,jw,w1,w2,w3,w4,w5,w6⟩:=ajc hg hN hI hla b1 b5
 have hil2:(i:Int)<(L.fst.length:Int):=by omega
 have hi02:(i0:Int)<(L.fst.length:Int):=by omega
 have hcv:(bif decide (L.fst.getD i 0<0) then true else decide (L.fst.getD i 0=L.fst.getD i0 0))=decide (first d u=first d v0):=by
  rw[ahK (by omega),cond_false];exact ajs.2 hfe
 refine aZ ?_
 refine dx ([]) (FP L.fst) ?_ ?_
 ·exact qP
 refine aZ ?_
 refine aj ?_ ?_
 ·intro hc
  have hc':first d u=first d v0:=by
   have h9:(bif decide (L.fst.getD i 0<0) then true else decide (L.fst.getD i 0=L.fst.getD i0 0))=true:=hc
   rw[hcv] at h9;exact agw h9
  rw[if_neg (fun h=>h.1 hc')] at htd
  try refine nx @epx ?_
  refine⟨j,⟨by omega,by rw[hK,hnone htd]⟩,by omega,?_⟩
  simp only[hpvd]
  exact bQ
 intro hc
 have hc':¬first d u=first d v0:=by
  have h9:(bif decide (L.fst.getD i 0<0) then true else decide (L.fst.getD i 0=L.fst.getD i0 0))=false:=hc
  rw[hcv] at h9;exact ajJ h9
 have hme:=hx'.me
 have hwg:=bH eI (is'.map fun j:Nat=>(j:Int)) (is'.length-1) 0 (by rw[ae1];omega)
 have hwv:(is'.map fun j:Nat=>(j:Int)).getD (is'.length-1) 0=(wn:Int):=by
  rw[adI,ag5,w1];rfl
 rw[hwv] at hwg
 have hil3:=hx'.len
 have hwi:(((is'.length:Nat):Int)-1).toNat=is'.length-1:=by omega
 have erw_:=bH aA L.revs wn ag (by rw[hrl];exact w3)
 have hwr:L.revs.getD wn ag=iG d u:=by rw[hrl];exact w2
 rw[hwr] at erw_
 have w32:(wn:Int)<(L.revs.length:Int):=by rw[hrl];omega
 have hwd:=jU w3
 rw[w2] at hwd
 have hw5:=(FK (IY hg b2).1 b5).2.1
 have hll:∃z,aU d (iG d u).path=some z:=DJ (aem hwd)
 have hfli:0<((L.fst.map eI).getD i []).length:=by rw[bH eI L.fst i 0 (by omega)];simp
 generalize iG d u=W at*
 refine aZ ?_
 refine dx ([]) (p4 (FP L.fst) @acP @hme @Option.map_some.{0,0}) ?_ ?_
 ·exact ob2 @ag1 @hfli
 try refine nx (p2 @hwi @hwg) ?_
 refine aZ ?_
 refine dx ([]) (p4 @erw_ @nO @w4 @Option.map_some.{0,0}) ?_ ?_
 ·exact eQ @rJ
 refine aZ ?_
 refine aj ?_ ?_
 ·intro hq
  have hq':jw=wn:=by have:=agw hq;omega
  have hz:=w6.1 hq'
  rw[if_pos ⟨hc',hz⟩] at htd
  try refine nv ?_
  refine rA [] ?_
  rw[hK,hfound W htd]
  obtain⟨z,hz2⟩:=hll
  have hzW:z=W:=by rw[hz2] at hz;exact hz
  subst hzW
  exact⟨⟨wn,v.path,t,⟨rfl,hbt.symm,hw5,hz2,wn,rfl,hwd⟩,rfl⟩,rfl⟩
 ·intro hq
  have hq':¬jw=wn:=by have:=ajJ hq;omega
  rw[if_neg (fun h=>hq' (w6.2 h.2))] at htd
  try refine nx @epx ?_
  refine⟨j,⟨by omega,by rw[hK,hnone htd]⟩,by omega,?_⟩
  simp only[hpvd]
  exact bQ
end Go.Proofs.YtcpgicfphakdaaaGreatDoor
