/- A part of the proof. -/
import Derived.Test.YtcpgicfphakdaaaGreatDoorRK24
import Derived.Test.YtcpgicfphakdaaaGreatDoorRK27a
set_option linter.all false
namespace Go.Proofs.YtcpgicfphakdaaaGreatDoor
open Go.Ab Tys
variable [yF]
section
variable {d:bJ} {L:iE} {la:List (ByteArray×Int)} {me:List (Int×List Int)} (hX:LX d L la me) {i0:Nat} {v0:Rev} {is:List Nat} (hx:ZM d L me i0 v0 is)
include hX hx
theorem ZM.abS {j:Nat} (hj:j<is.length):(line d (first d v0)).getD j af=atR d (is.getD j 0):=by
 rw[hx.ix.ln,List.getD_eq_getElem?_getD,List.getElem?_map,getD_at hj];rfl
theorem ZM.stay {j:Nat} (hj:j<is.length) (p:ByteArray):(bif decide (0≤yR is j) then decide ((L.revs.getD (yR is j).toNat af).path=p) else false)=decide (0<j∧((line d (first d v0)).getD (j-1) af).path=p):=by
 have hI:=hX.run.inv hX.good
 cases j with
 |zero=>simp[yR]
 |succ j'=>
  have h2:=hx.abS hX (j:=j') (by omega)
  have:(0:Int)≤yR is (j'+1):=by simp only[yR];omega
  rw[decide_eq_true this,cond_true,Nat.add_sub_cancel,h2,hI.revs]
  simp only[yR,Int.toNat_natCast]
  exact decide_eq_decide.2 ⟨fun h=>⟨by omega,h⟩,fun h=>h.2⟩
theorem ZM.VV (p:ByteArray) (hp:v0.path=p):Go.Proofs.YtcpgicfphakdaaaGreatDoor.VV p (line d (first d v0)) (line d (first d v0)).length v0.num=((line d (first d v0)).getD (ZO (line d (first d v0)) p (is.length-1)) af).num:=by
 have hp0:=hx.pos
 have hll:(line d (first d v0)).length=is.length:=by rw[hx.ix.ln,List.length_map]
 have e:(line d (first d v0)).getD (is.length-1) af=v0:=by
  rw[hx.abS hX (by omega),kZ hx.last,Iy hx.get]
 have h1:=Xe (p:=p) (ln:=line d (first d v0)) (k:=is.length-1) (by omega) (by rw[e];exact hp)
 rw[e] at h1
 have h2:=XA hX.good hX.len hX.frm (f:=first d v0) (p:=p) (is.length-1) (by omega) (by rw[e];exact hp)
 rw[e] at h2
 rw[h1,h2]
end
def z27.kk:=p3 (RJ kB kG kS Tryz.ntmps27 Rf pM Us iK Qh qW nI TW zt Gi) (RJ L9 LD Mc MC Lt MS Nb jq gU kW Ez qU yE qR) (p13 YA x8 uz acb vT aaw nT IR aap Za kC AX Tryz.results27)
set_option maxRecDepth 100000 in
set_option maxHeartbeats 32000000 in
open z27 in
theorem VB (d:bJ) (L:iE) (la:List (ByteArray×Int)) (me:List (Int×List Int)) (hX:LX d L la me) (m:List eQ) (hm:MX m) (i0:Nat) (v0:Rev) (is:List Nat) (hx:ZM d L me i0 v0 is) (hlp:dD d v0.path=some v0) (t:ByteArray) (hby:oW m v0.path=(t,true)):
 AC Tryz.prog 27 [Z4 L la me m,I .i64 i0,Str t] [] (fun r st=>r=UG (l7 d m v0.path)∧st=[]):=by
 have hg:=hX.good
 have hI:=hX.run.inv hg
 have hrl:L.revs=d.revs:=hI.revs
 have hi0:=(List.getElem?_eq_some_iff.1 hx.get).1
 have hon:¬((oW m v0.path).2=false∨v0.act=5):=by rw[hby];rintro(h|h);cases h;exact hx.n5 h
 have hbr:=fun h=>aaz hlp hon h
 have hmg:=fun w q h1 h2=>YS (w:=w) (q:=q) hlp hon h1 h2
 have hbrT:brT d v0.path (oW m v0.path).1 v0=brX (first d v0) v0.path (VV v0.path (line d (first d v0)) (line d (first d v0)).length v0.num) v0.num (oW m v0.path).1 (dh d (oW m v0.path).1):=rfl
 rw[hx.VV hX _ rfl] at hbrT
 rw[hbrT] at hbr
 have hmvd:∀w q,NT d m v0.path (oW m v0.path).1 w q=if ¬q=v0.path∧(oW m q).1=w.path∧¬(oW m v0.path).1=w.path∧live d (oW m v0.path).1=false then(oW m v0.path).1 else noS:=fun w q=>rfl
 rw[hby] at hbr hmg hmvd
 simp only at hbr hmg hmvd
 have htg:=QF d L la me hX m hm i0 v0 hx.get hx.n5 is hx.ix hx.last hx.pos
 have hrn:=fun jw w h1 h2 h3 q=>ZH d L la me hX m i0 v0 is hx jw w h1 h2 h3 t q (oW m q).1 (NT d m v0.path t w q) (hmvd w q)
 have hlv:=PO d (by omega) L hrl la me hX.la t
 have hhd:=PS d (by omega) L hrl la me hX.la t
 obtain⟨r0,wr,f1,f2,f3,f4,f5⟩:=hx.fst hX
 have hfo:=uu wr
 rw[f3] at hfo
 have ei0:=bg aI L.revs i0 af (by rw[hrl];exact hi0)
 rw[hrl,kZ hx.get,←hrl] at ei0
 have hi02:(i0:Int)<(L.revs.length:Int):=by rw[hrl];omega
 have hfl:L.fst.length=L.revs.length:=by rw[hI.lf,hrl]
 have hpl:L.prev.length=L.revs.length:=by rw[hI.lp,hrl]
 have hi03:(i0:Int)<(L.fst.length:Int):=by rw[hfl];exact hi02
 have hi04:(i0:Int)<(L.prev.length:Int):=by rw[hpl];exact hi02
 have h0l:(0:Int)<(L.revs.length:Int):=by rw[hrl];omega
 have hrem:=fun {j:Nat} {w:Rev} h1 h2=>hx.rem hX (j:=j) (w:=w) h1 h2
 have hnil:=fun {j:Nat} {w:Rev} h1 h2=>YJ hg hX.len hX.run hx.get hx.n5 h1 h2 hx.ix hx.last (j:=j) (w:=w)
 have hres:∀w q,uq d (fileOf v0) (some (w,q))=(lm d (fileOf v0) (fileOf w)).getD []:=fun _ _=>rfl
 have hres0:uq d (fileOf v0) none=[]:=rfl
 have hlen:=hx.ix.len
 have hp0:=hx.pos
 have hlAt:=fun {j:Nat} h=>hx.abS hX (j:=j) h
 have hstay:=fun {j:Nat} h p=>hx.stay hX (j:=j) h p
 have hpv:=fun {j:Nat} h=>hx.ix.pv (j:=j) h
 have hia:∀j,j<is.length→is.getD j 0<d.revs.length:=fun j hj=>hx.ix.lt _ (List.mem_of_getElem? (getD_at hj))
 have hpvl:=fun {j:Nat} h=>Xy (is:=is) (n:=d.revs.length) hia (j:=j) h (by omega)
 have hlast:is.getD (is.length-1) 0=i0:=kZ hx.last
 have hv0e:(line d (first d v0)).getD (is.length-1) af=v0:=by rw[hlAt (by omega),hlast,Iy hx.get]
 generalize l7 d m v0.path=R at hbr hmg
 generalize xw d m (line d (first d v0))=tg at htg hbr hmg
 clear hmvd
 generalize live d t=lv at hlv hbr
 generalize dh d t=hd at hhd hbr
 generalize hfn:((line d (first d v0)).getD (ZO (line d (first d v0)) v0.path (is.length-1)) af).num=fn at hbr
 refine dA Tryz.func27 Tryz.ntmps27 fun x hx=>?_
 try refine nv ?_
 refine tX [] (htg) ?_
 rintro r st' ⟨⟨wi,q,pl,hT,rfl⟩,rfl⟩<;>refine uo ?_
 have hq0:∀pv:Int,pv<(L.revs.length:Int)→decide (0≤pv)=true→0<((L.revs.map aI).getD pv.toNat []).length:=fun pv h1 h=>by
  have h0:=of_decide_eq_true h
  rw[bg aI L.revs pv.toNat af (by omega)];simp
 have hrl2:L.revs.length=d.revs.length:=by rw[hrl]
 have e8:yR is is.length=(i0:Int):=by
  obtain⟨n,hn⟩:∃n,is.length=n+1:=⟨is.length-1,by omega⟩
  rw[hn,yR]
  have:is.getD n 0=i0:=by rw[←hlast,hn];rfl
  rw[this]
 have hzb:0<((L.revs.map aI).getD 0 []).length:=by rw[bg aI L.revs 0 af (by omega)];simp
 have hlnl:is.length-1<is.length:=by omega
 by_cases hbb:tg.isSome=false∨(tgW tg).act=3
 rotate_left
 ·obtain⟨w,p,rfl,w3⟩:∃w p,tg=some (w,p)∧¬w.act=3:=by
   cases tg with
   |none=>exact absurd (.inl rfl) hbb
   |some x=>exact⟨x.1,x.2,rfl,fun h=>hbb (.inr h)⟩
  obtain⟨rfl,rfl,w5,hlw,jw,rfl,hjw⟩:=hT
  have hmg:=hmg w q rfl w3
  have hru:=hrn jw w hjw w5 hlw q
  have hjl:=(List.getElem?_eq_some_iff.1 hjw).1
  have erw_:=bg aI L.revs jw af (by omega)
  rw[hrl,kZ hjw,←hrl] at erw_
  have hjw2:(jw:Int)<(L.revs.length:Int):=by omega
  simp only[Option.isSome_some]
  try refine nv ?_
  refine dx ([]) @erw_ ?_ ?_
  ·exact vO
  refine bC ?_
  refine aj ?_ ?_
  rotate_left
  ·intro h;simp[w3] at h
  intro _
  (repeat (first|refine nv ?_|refine cf (hru) ?_))
  refine rA [] ?_
  refine⟨?_,rfl⟩
  rw[hmg];rfl
 have hbr:=hbr hbb
 try refine nv ?_
 refine uT ⟨158,[(1,I .i64 i0),(2,Str t),(3, .c (.ptr 3 0)),(7, .c (.ptr 7 0)),(8,B tg.isSome),(32,B false)],[(3, .box [.pp (qK L la me), .d (.ps 5 (m.map eY))]),(7, .box (KI wi q pl))]⟩ ?_ ?_
 ·cases tg with
  |none=>
   obtain⟨rfl,rfl,rfl⟩:=hT
   simp only[Option.isSome_none]
   refine bC ?_
   refine dx ([]) (p2 (adI L.revs) @i00) ?_ ?_
   ·exact iw @hzb
   refine bC ?_
   refine⟨rfl,?_⟩
   exact cO
  |some x=>
   obtain⟨w,p⟩:=x
   obtain⟨rfl,rfl,w5,hlw,jw,rfl,hjw⟩:=hT
   have w3:w.act=3:=by simpa[tgW] using hbb
   have hjl:=(List.getElem?_eq_some_iff.1 hjw).1
   have erw_:=bg aI L.revs jw af (by omega)
   rw[hrl,kZ hjw,←hrl] at erw_
   have hjw2:(jw:Int)<(L.revs.length:Int):=by omega
   have hb3:decide (w.act=3)=true:=decide_eq_true w3
   simp only[Option.isSome_some]
   refine bC ?_
   refine dx ([]) (p2 @erw_ @hb3) ?_ ?_
   ·exact vO
   refine bC ?_
   refine⟨rfl,?_⟩
   exact cO
 refine bC ?_
 refine aj ?_ ?_
 ·intro h;cases h
 intro _
 try refine nx @ei0 ?_
 refine so ([(52,B lv)]) ?_ ?_
 ·exact iw @hlv
 try refine nv ?_
 refine aj ?_ ?_
 ·intro hc
  have hoff:v0.act=3∨lv=true∨(tg.isSome=true∧uq d (fileOf v0) tg=[]):=by
   by_cases a:v0.act=3
   ·exact .inl a
   ·cases lv with
    |true=>exact .inr (.inl rfl)
    |false=>simp[a] at hc
  rw[if_pos hoff] at hbr
  refine bC ?_
  refine gg ?_
  refine bz (ik (i:=6) 11 rfl) ?_
  refine dZ ?_
  try refine nv ?_
  refine rA [] ?_
  refine⟨?_,rfl⟩
  rw[hbr];rfl
 intro hc
 have hv3:¬v0.act=3∧lv=false:=by
  by_cases a:v0.act=3
  ·simp[a] at hc
  ·cases lv with
   |true=>simp[a] at hc
   |false=>exact⟨a,rfl⟩
 by_cases hem:tg.isSome=true∧uq d (fileOf v0) tg=[]
 ·have hR0:R=[]:=by rw[hbr];exact if_pos (.inr (.inr hem))
  obtain⟨x,rfl⟩:=Option.isSome_iff_exists.1 hem.1
  obtain⟨w,p⟩:=x
  obtain⟨rfl,rfl,w5,hlw,jw,rfl,hjw⟩:=hT
  have hre:=hrem hjw w5
  have hni:=(hnil hjw w5).1 (by rw[←hres w q];exact hem.2)
  have hOl:(is.map fun e:Nat=>gZ L (jw:Int) (e:Int)).length≤1000000:=by rw[List.length_map];omega
  generalize (is.map fun e:Nat=>gZ L (jw:Int) (e:Int))=O at hre hni hOl
  have hcb:=Oj O hOl
  rw[decide_eq_false hni] at hcb
  simp only[Option.isSome_some]
  try refine nv ?_
  refine aj ?_ ?_
  rotate_left
  ·intro h;cases h
  intro _
  (repeat (first|refine nv ?_|refine cf (hre) ?_|refine cf (hcb) ?_))
  refine aj ?_ ?_
  rotate_left
  ·intro h;cases h
  intro _
  refine bC ?_
  refine gg ?_
  refine bz (ik (i:=6) 11 rfl) ?_
  refine dZ ?_
  try refine nv ?_
  refine rA [] ?_
  refine⟨?_,rfl⟩
  rw[hR0];rfl
 rw[if_neg (by rintro(a|a|a);exact hv3.1 a;rw[hv3.2] at a;cases a;exact hem a)] at hbr
 try refine nv ?_
 refine uT ⟨158,[(1,I .i64 i0),(2,Str t),(3, .c (.ptr 3 0))],[(3, .box [.pp (qK L la me), .d (.ps 5 (m.map eY))])]⟩ ?_ ?_
 ·cases tg with
  |none=>
   simp only[Option.isSome_none]
   refine aj ?_ ?_
   ·intro h;cases h
   intro _
   refine bC ?_
   refine⟨rfl,?_⟩
   exact cO
  |some x=>
   obtain⟨w,p⟩:=x
   obtain⟨rfl,rfl,w5,hlw,jw,rfl,hjw⟩:=hT
   have hre:=hrem hjw w5
   have hni:true∈is.map fun e:Nat=>gZ L (jw:Int) (e:Int):=Classical.byContradiction fun h=>hem ⟨rfl,by rw[hres w q];exact(hnil hjw w5).2 h⟩
   have hOl:(is.map fun e:Nat=>gZ L (jw:Int) (e:Int)).length≤1000000:=by rw[List.length_map];omega
   generalize (is.map fun e:Nat=>gZ L (jw:Int) (e:Int))=O at hre hni hOl
   have hcb:=Oj O hOl
   rw[decide_eq_true hni] at hcb
   simp only[Option.isSome_some]
   refine aj ?_ ?_
   rotate_left
   ·intro h;cases h
   intro _
   (repeat (first|refine nv ?_|refine cf (hre) ?_|refine cf (hcb) ?_))
   refine aj ?_ ?_
   ·intro h;cases h
   intro _
   refine bC ?_
   refine⟨rfl,?_⟩
   exact cO
 clear hbb hT hem hmg hrn hrem hnil hres hres0
 have epx:=Cs L.prev i0
 have hpl0:=hpv hlnl
 rw[hlast] at hpl0
 rw[hpl0] at epx
 have efx:=Cs L.fst i0
 rw[f1] at efx
 have hlpe:is.getD (is.length-1) 0=i0:=hlast
 try refine nx @epx ?_
 refine ax (ι:=Nat) (I:=fun j=>⟨158,[(1,I .i64 i0),(2,Str t),(3, .c (.ptr 3 0)),(11,I .i64 ((is.getD j 0:Nat):Int)),(12,I .i64 (yR is j))],[(3, .box [.pp (qK L la me), .d (.ps 5 (m.map eY))])]⟩)
  (Inv:=fun j=>j<is.length∧ZO (line d (first d v0)) v0.path j=ZO (line d (first d v0)) v0.path (is.length-1)) (μ:=fun j=>j) (is.length-1) ⟨hlnl,rfl⟩ ?_ ?_
 ·rw[hlpe]
  exact cO
 rintro j ⟨hj,hst⟩
 have hsy:=hstay hj v0.path
 have hpb:=hpvl (j:=j) (by omega)
 have hpb2:yR is j<(L.revs.length:Int):=by omega
 have hqj:=hq0 (yR is j) hpb2
 have hxl:=hia j hj
 have erj:=bg aI L.revs (is.getD j 0) af (by omega)
 have hrj:L.revs.getD (is.getD j 0) af=(line d (first d v0)).getD j af:=by rw[hlAt hj,hrl];rfl
 rw[hrj] at erj
 have hxl2:((is.getD j 0:Nat):Int)<(L.revs.length:Int):=by omega
 refine bC ?_
 refine dx ([]) (p2 (XZ L.revs) @ei0) ?_ ?_
 ·exact iw @hqj
 refine bC ?_
 refine aj ?_ ?_
 ·intro hq
  rw[hsy] at hq
  obtain⟨q1,q2⟩:=of_decide_eq_true hq
  obtain⟨j',rfl⟩:∃j',j=j'+1:=⟨j-1,by omega⟩
  rw[Nat.add_sub_cancel] at q2
  have epj:=Cs L.prev (is.getD j' 0)
  rw[hpv (by omega:j'<is.length)] at epj
  have hxl4:=hia j' (by omega)
  have hxl5:((is.getD j' 0:Nat):Int)<(L.prev.length:Int):=by omega
  rw[show yR is (j'+1)=((is.getD j' 0:Nat):Int) from rfl]
  try refine nx @epj ?_
  refine⟨j',⟨by omega,by rw[←hst,ZO,if_pos q2]⟩,by omega,?_⟩
  exact cO
 intro hq
 rw[hsy] at hq
 have hq:=of_decide_eq_false hq
 have hsj:ZO (line d (first d v0)) v0.path j=j:=by
  cases j with
  |zero=>rfl
  |succ j'=>rw[ZO,if_neg (fun h=>hq ⟨by omega,by rw[Nat.add_sub_cancel];exact h⟩)]
 rw[←hst,hsj] at hfn
 generalize (line d (first d v0)).getD j af=u at erj hfn
 refine bC ?_
 refine dx ([(123,D9 (first d v0)),(155,I .i64 hd)]) (p4 @efx @f4 @ei0 @erj) ?_ ?_
 ·exact ob2 @hfo @hhd
 refine wI ?_
 refine nH (aZ (i:=6) (id:=157) (sz:=11) (ys:=[lM (brX (first d v0) v0.path u.num v0.num t hd)]) rfl (by simp[aF,Ab.put,Ab.get,emS]) (by simp)) ?_
 refine dZ ?_
 try refine nv ?_
 refine rA [] ?_
 refine⟨?_,rfl⟩
 rw[hbr,hfn];rfl
end Go.Proofs.YtcpgicfphakdaaaGreatDoor
namespace Go.Proofs.YtcpgicfphakdaaaGreatDoor
open Go.Ab Tys
variable [yF]
def z11.kk:=p2 (p16 kB kG kS kM Tryz.ntmps11 Tryz.underlying32 Tryz.underlying74 ny Us Qh qW TW zt iC Ez TE) (p16 yN qR UQ J4 abd uz uB aaw IR pX aap Za VF kC AX Tryz.results11)
set_option maxRecDepth 100000 in
set_option maxHeartbeats 32000000 in
open z11 in
theorem WJ (d:bJ) (hg:Good d.revs) (hN:d.revs.length≤512) (hrn:d.recs.length≤512) (hpt:Jn d) (hf:tV d) (m:List eQ) (hm:m.length≤10000) (hb:∀e∈m,EB1 e):
 AC Tryz.prog 11 [uY d,jW m] [] (fun r st=>((FV m∧r= .tup [Tf (zu d m),pI 0])∨(¬FV m∧r= .tup [Tf [],pI 151]))∧st=[]):=by
 have hPm:∀p∈jL d,p.size≤100000∧∃v,dD d p=some v:=by
  intro p hp
  obtain⟨v,h1,h2⟩:=zS hp
  rw[←h2]
  exact⟨(hpt v h1).2,A7 h1⟩
 have hPl:=H5 d
 have hF:zu d m=(jL d).flatMap (l7 d m):=rfl
 have hck:=Sz m hm hb
 have hfl:=fun l=>FO hN m l
 have hsn:=fun l p=> @Vs d m l p
 have hP:=fun L la me hla=>UW d hN hpt L la me hla
 generalize jL d=P at hP hPm hPl hF
 generalize zu d m=R at hF
 refine dA Tryz.func11 Tryz.ntmps11 fun x hx=>?_
 try refine nv ?_
 refine tX [] (hck) ?_
 rintro r st' ⟨⟨ci,ce,rfl,hM⟩,rfl⟩<;>refine uo ?_
 try refine nv ?_
 refine aj ?_ ?_
 ·intro hc
  have hc':¬FV m:=by rw[←hM];simpa using hc
  refine bC ?_
  refine gg ?_
  refine bz (ik (i:=4) 11 rfl) ?_
  refine dZ ?_
  try refine nv ?_
  refine rA [] ?_
  refine⟨?_,rfl⟩
  exact .inr ⟨hc',rfl⟩
 intro hc
 have hMO:FV m:=by rw[←hM];simpa using hc
 have hMX:MX m:=⟨by omega,fun e he=>(hb e he).eb (hMO.ent e he).2,fun e he=>(hMO.ent e he).1⟩
 try refine nv ?_
 refine tX [] (BI d hg hN hrn) ?_
 rintro r st' ⟨⟨L,la,me,hrun,hla,rfl⟩,rfl⟩<;>refine uo ?_
 have hX:LX d L la me:=⟨hg,hN,hrun,hla,hpt,hf⟩
 have hI:=hrun.inv hg
 have hrl:L.revs=d.revs:=hI.revs
 have hfl2:L.fst.length=L.revs.length:=by rw[hI.lf,hrl]
 try refine nv ?_
 refine aj ?_ ?_
 ·intro h;cases h
 intro _
 (repeat (first|refine nv ?_|refine cf (hP L la me hla) ?_))
 refine nH (jM (i:=11) (id:=100) (sz:=11) rfl rfl (by omega)) ?_
 refine dZ ?_
 refine ax (ι:=Nat) (I:=fun k=>⟨72,[(8, .c (.pp (qK L la me))),(10, .c (.ptr 10 0)),(11, .c (.ms 100 11 0 ((P.take k).flatMap (l7 d m)).length)),(35,iy P),(36,I .i64 P.length),(37,I .i64 k)],
  [(10, .box [.pp (qK L la me), .d (.ps 5 (m.map eY))]),(100,aK 11 (((P.take k).flatMap (l7 d m)).map lM))]⟩)
  (Inv:=fun k=>k≤P.length) (μ:=fun k=>P.length-k) 0 (by omega) ?_ ?_
 ·exact cO
 intro k hk
 have hfk:=hfl (P.take k)
 have hfk2:(P.take k).length≤512:=by simp;omega
 try refine nv ?_
 refine aj ?_ ?_
 rotate_left
 ·intro hge
  have hk':k=P.length:=by have:¬k<P.length:=by simpa using hge
                          omega
  rw[hk',List.take_length,←hF]
  rw[hk',List.take_length,←hF] at hfk
  refine bC ?_
  refine gg ?_
  refine bz (aZ (i:=4) (id:=100) (ys:=R.map lM) rfl rfl (by simp)) ?_
  refine dZ ?_
  try refine nv ?_
  refine rA [] ?_
  refine⟨?_,rfl⟩
  exact .inl ⟨hMO,rfl⟩
 intro hlt
 have hlt':k<P.length:=by simpa using hlt
 obtain⟨p,hp,he,htk⟩:=round encS P k noS hlt'
 obtain⟨hps,v,hv⟩:=hPm p (List.mem_of_getElem? hp)
 have hsn:=hsn (P.take k) p
 rw[←htk] at hsn
 generalize hO1:(P.take (k+1)).flatMap (l7 d m)=O1 at hsn
 generalize (P.take k).flatMap (l7 d m)=O at hsn hfk
 rcases hla.last p with⟨_,a2⟩|⟨i0,v9,a1,a2,a3⟩
 ·rw[hv] at a2;cases a2
 rw[hv] at a3;cases a3
 have hvp:=(qA hv).2
 subst hvp
 have hi0:=(List.getElem?_eq_some_iff.1 a2).1
 have hfw:=FZ L la me m hMX.len hMX.eb hMX.ck v.path (by omega)
 have hi02:(i0:Int)<(L.fst.length:Int):=by rw[hfl2,hrl];omega
 try refine nx @he ?_
 refine bC ?_
 refine gy (p3 @kY @a1 @Option.map_some.{0,0}) ?_ ?_
 ·exact iw @pK
 have hoff:=Xd (m:=m) hv
 generalize hbv:oW m v.path=bv at hfw hoff
 obtain⟨t,b⟩:=bv
 simp only at hfw hoff
 (repeat (first|refine nx (Cs L.fst) ?_|refine cf (hfw) ?_))
 have hf5:(0≤L.fst.getD i0 0)↔¬v.act=5:=by
  constructor
  ·intro h h5;have:=(hI.f5 i0 v hi0 a2 h5).1;omega
  ·intro h;exact(hI.fm i0 v hi0 a2 h).1
 refine aj ?_ ?_
 rotate_left
 ·intro hc
  have hc':b=false∨v.act=5:=by
   cases b with
   |false=>exact .inl rfl
   |true=>
    by_cases h5:v.act=5
    ·exact .inr h5
    ·have h9:=hf5.2 h5
     simp at hc
     rw[List.getD_eq_getElem?_getD] at h9
     omega
  rw[hoff hc',List.append_nil] at hsn
  try refine nv ?_
  refine⟨k+1,by omega,by omega,?_⟩
  rw[hO1,hsn]
  exact cO
 intro hc
 have hc':b=true∧0≤L.fst.getD i0 0:=by
  cases b with
  |false=>simp at hc
  |true=>exact⟨rfl,by simpa using hc⟩
 obtain⟨rfl,hf0⟩:=hc'
 have v5:=hf5.1 hf0
 obtain⟨is,hx,hin⟩:=ZE hg hN hI a2 v5
 obtain⟨hp0,hlast⟩:=TG hg hN hI a2 v5 hv hx hin
 have htl:=Qn hN m v.path
 have hts:=VB d L la me hX m hMX i0 v is ⟨a2,v5,hx,hlast,hp0⟩ hv t hbv
 generalize l7 d m v.path=TP at hsn hts htl
 have o2:∀l∈List.map (fun l=>List.map C.d l) (List.map lM TP),l.length=11:=by
  intro l hl
  obtain⟨y,hy,rfl⟩:=List.mem_map.1 hl
  obtain⟨z,_,rfl⟩:=List.mem_map.1 hy
  rfl
 (repeat (first|refine nv ?_|refine cf (hts) ?_))
 refine⟨k+1,by omega,by omega,?_⟩
 rw[hO1,hsn]
 exact Af (fun i=>if i=100 then 69 else i)
end Go.Proofs.YtcpgicfphakdaaaGreatDoor
