/- A part of the proof. -/
import Derived.Test.YtcpgicfphakdaaaGreatDoorRH4
import Derived.Test.YtcpgicfphakdaaaGreatDoorRU9
import Derived.Test.YtcpgicfphakdaaaGreatDoorRX3
set_option maxRecDepth 100000
set_option maxHeartbeats 16000000
set_option linter.all false
namespace Go.Proofs.YtcpgicfphakdaaaGreatDoor
section
open Go.Ab Tys
variable [Dr]
def z57.kk:=p2 (U6 kB kG Tryz.ntmps57 Tryz.underlying27 Tryz.underlying28 Tryz.underlying60 iH dM pY lq mJ jQ pW vT kW) (U6 DW yB A7 lQ qx qU wu mG ny iq BP y7 sD wo Tryz.results57)
open z57 in
theorem abC (d:aW) (c:iZ) (hd:d.revs.length≤1000000) (hd2:d.recs.length≤1000000) (hc:∀e∈c.edits,eOK e) (hr:∀r∈c.recs,IM r) (hl:c.edits.length≤1000000) (hl2:c.recs.length≤1000000):
 AC Tryz.prog 57 [lT d,Px c] [] (fun r st=>(∃e:Int,r=I .i64 e∧(e=0→pG d c))∧st=[]):=by
 refine df Tryz.func57 Tryz.ntmps57 fun x hx=>?_
 try refine nv ?_
 refine aj ?_ ?_
 ·intro _
  try refine nv ?_
  refine rA [] ?_
  refine⟨?_,rfl⟩
  exact⟨_,rfl,fun h=>absurd h (by decide)⟩
 intro hA
 have hA':1≤c.edits.length∧c.edits.length≤64∧c.recs.length≤64:=by simp at hA;have:=hA.1.1;rcases Nat.eq_zero_or_pos c.edits.length with h|h<;>simp_all<;>omega
 obtain⟨a1,a2,a3⟩:=hA'
 try refine nv ?_
 refine aj ?_ ?_
 ·intro _
  try refine nv ?_
  refine rA [] ?_
  refine⟨?_,rfl⟩
  exact⟨_,rfl,fun h=>absurd h (by decide)⟩
 intro hB
 have hB':1≤c.num∧c.num≤1073741824:=by simp at hB;omega
 try refine nv ?_
 refine au (ι:=Nat) (I:=fun k=>⟨105,[(2, .c (.ptr 2 0)),(3, .c (.ptr 3 0)),(37,qI d.revs),(38,I .i64 d.revs.length),(39,I .i64 k)],[(2, .box ((iY d).map C.d)),(3, .box ((gm c).map C.d))]⟩)
  (Inv:=fun k=>k≤d.revs.length∧∀v∈d.revs.take k,v.chg<c.num) (μ:=fun k=>d.revs.length-k) 0 ⟨by omega,by simp⟩ ?_ ?_
 ·exact bQ
 rintro k ⟨hk,hall⟩
 try refine nv ?_
 refine aj ?_ ?_
 ·intro hlt
  have hlt':k<d.revs.length:=by simpa using hlt
  obtain⟨v,hv,he,htk⟩:=round aA d.revs k ag hlt'
  try refine nx @he ?_
  refine aj ?_ ?_
  ·intro _
   try refine nv ?_
   refine rA [] ?_
   refine⟨?_,rfl⟩
   exact⟨_,rfl,fun h=>absurd h (by decide)⟩
  intro hb
  have hb':v.chg<c.num:=by simpa using hb
  try refine nv ?_
  refine⟨k+1,⟨by omega,?_⟩,by omega,?_⟩
  ·intro u hu
   rw[htk,afs] at hu
   rcases hu with hu|hu
   ·exact hall u hu
   ·simp at hu;rw[hu];exact hb'
  ·exact bQ
 intro hge
 have hge':k=d.revs.length:=by have:¬k<d.revs.length:=by simpa using hge
                               omega
 rw[hge',afu] at hall
 try refine nv ?_
 refine au (ι:=Nat) (I:=fun k=>⟨105,[(2, .c (.ptr 2 0)),(3, .c (.ptr 3 0)),(51,I .i64 c.edits.length),(52,I .i64 k)],[(2, .box ((iY d).map C.d)),(3, .box ((gm c).map C.d))]⟩)
  (Inv:=fun k=>k≤c.edits.length∧∀i,i<k→wK d c i (c.edits.getD i bZ)) (μ:=fun k=>c.edits.length-k) 0 ⟨by omega,by omega⟩ ?_ ?_
 ·exact bQ
 rintro k2 ⟨hk2,hed⟩
 try refine nv ?_
 refine aj ?_ ?_
 ·intro hlt
  have hlt':k2<c.edits.length:=by simpa using hlt
  try refine nv ?_
  refine nJ [] (ad1 d c k2 hlt' hd hc hl) ?_
  rintro r st' ⟨⟨e,rfl,he⟩,rfl⟩<;>refine nP ?_
  try refine nv ?_
  refine aj ?_ ?_
  ·intro hne
   have hne':¬e=0:=by simpa using hne
   try refine nv ?_
   refine rA [] ?_
   refine⟨?_,rfl⟩
   exact⟨_,rfl,fun h=>absurd h hne'⟩
  intro heq
  have heq':e=0:=by simpa using heq
  try refine nv ?_
  refine⟨k2+1,⟨by omega,?_⟩,by omega,?_⟩
  ·intro i hi
   rcases ajB.1 hi with h|rfl
   ·exact hed i h
   ·exact he heq'
  ·exact bQ
 intro hge2
 have hge2':k2=c.edits.length:=by have:¬k2<c.edits.length:=by simpa using hge2
                                  omega
 try refine nv ?_
 refine au (ι:=Nat) (I:=fun k=>⟨105,[(2, .c (.ptr 2 0)),(3, .c (.ptr 3 0)),(64, .c (.d (.ps 12 (c.edits.map bK)))),(65,I .i64 c.edits.length),(66,I .i64 k)],[(2, .box ((iY d).map C.d)),(3, .box ((gm c).map C.d))]⟩)
  (Inv:=fun k=>k≤c.edits.length∧∀e∈c.edits.take k,wH c e=true) (μ:=fun k=>c.edits.length-k) 0 ⟨by omega,by simp⟩ ?_ ?_
 ·exact bQ
 rintro k3 ⟨hk3,hmv⟩
 try refine nv ?_
 refine aj ?_ ?_
 ·intro hlt
  have hlt':k3<c.edits.length:=by simpa using hlt
  obtain⟨y,hy,he,htk⟩:=round bK c.edits k3 bZ hlt'
  (repeat (first|refine nx @he ?_|refine cf (aaW c y hl) ?_))
  refine aj ?_ ?_
  ·intro _
   try refine nv ?_
   refine rA [] ?_
   refine⟨?_,rfl⟩
   exact⟨_,rfl,fun h=>absurd h (by decide)⟩
  intro hb
  have hb':wH c y=true:=by simpa using hb
  try refine nv ?_
  refine⟨k3+1,⟨by omega,?_⟩,by omega,?_⟩
  ·intro u hu
   rw[htk,afs] at hu
   rcases hu with hu|hu
   ·exact hmv u hu
   ·simp at hu;rw[hu];exact hb'
  ·exact bQ
 intro hge3
 have hge3':k3=c.edits.length:=by have:¬k3<c.edits.length:=by simpa using hge3
                                  omega
 rw[hge3',afu] at hmv
 try refine nv ?_
 refine au (ι:=Nat) (I:=fun k=>⟨105,[(2, .c (.ptr 2 0)),(3, .c (.ptr 3 0)),(77,I .i64 c.recs.length),(78,I .i64 k)],[(2, .box ((iY d).map C.d)),(3, .box ((gm c).map C.d))]⟩)
  (Inv:=fun k=>k≤c.recs.length∧∀i,i<k→Hq d c (c.recs.getD i dS)) (μ:=fun k=>c.recs.length-k) 0 ⟨by omega,by omega⟩ ?_ ?_
 ·exact bQ
 rintro k4 ⟨hk4,hrc⟩
 try refine nv ?_
 refine aj ?_ ?_
 ·intro hlt
  have hlt':k4<c.recs.length:=by simpa using hlt
  try refine nv ?_
  refine nJ [] (Zn d c k4 hlt' hd hr hl hl2) ?_
  rintro r st' ⟨⟨b,rfl,he⟩,rfl⟩<;>refine nP ?_
  try refine nv ?_
  refine aj ?_ ?_
  ·intro _
   try refine nv ?_
   refine rA [] ?_
   refine⟨?_,rfl⟩
   exact⟨_,rfl,fun h=>absurd h (by decide)⟩
  intro heq
  have heq':b=true:=by simpa using heq
  try refine nv ?_
  refine⟨k4+1,⟨by omega,?_⟩,by omega,?_⟩
  ·intro i hi
   rcases ajB.1 hi with h|rfl
   ·exact hrc i h
   ·exact he heq'
  ·exact bQ
 intro hge4
 have hge4':k4=c.recs.length:=by have:¬k4<c.recs.length:=by simpa using hge4
                                 omega
 try refine nv ?_
 refine aj ?_ ?_
 ·intro _
  try refine nv ?_
  refine rA [] ?_
  refine⟨?_,rfl⟩
  exact⟨_,rfl,fun h=>absurd h (by decide)⟩
 intro hT
 have hT':d.revs.length+c.edits.length≤512∧d.recs.length+c.recs.length≤512:=by simp at hT;omega
 try refine nv ?_
 refine rA [] ?_
 refine⟨?_,rfl⟩
 exact⟨_,rfl,fun _=>⟨a1,a2,a3,hB',hall,fun i hi=>hed i (by omega),hmv,fun i hi=>hrc i (by omega),hT'.1,hT'.2⟩⟩
def z22.kk:=p2 (MP kB kS Tryz.ntmps22 Tryz.underlying27 Tryz.underlying28 Tryz.underlying60 iH dM pY lq mJ jQ pW vT) (p13 kW DW lQ qx qU wu ny iq BP y7 sD wo Tryz.results22)
open z22 in
theorem aaj (d:aW) (c:iZ) (hd:d.revs.length≤100000) (hd2:d.recs.length≤100000) (hdr:∀r∈d.recs,IM r) (hc:∀e∈c.edits,eOK e) (hr:∀r∈c.recs,IM r) (hl:c.edits.length≤100000) (hl2:c.recs.length≤100000):
 AC Tryz.prog 22 [lT d,Px c] [] (fun r st=>((r= .tup [(true,(iY (eG d c)).map C.d),pI 0]∧pG d c)∨∃e:Int,¬e=0∧r= .tup [(true,[Fb,Fb]),pI e])∧st=[]):=by
 refine df Tryz.func22 Tryz.ntmps22 fun x hx=>?_
 try refine nv ?_
 refine nJ [] (abC d c (by omega) (by omega) hc hr (by omega) (by omega)) ?_
 rintro r st' ⟨⟨e,rfl,he⟩,rfl⟩<;>refine nP ?_
 try refine nv ?_
 refine aj ?_ ?_
 ·intro hne
  have hne':¬e=0:=by simpa using hne
  try refine nv ?_
  refine rA [] ?_
  refine⟨?_,rfl⟩
  exact .inr ⟨e,hne',rfl⟩
 intro heq
 have heq':e=0:=by simpa using heq
 have hok:=he heq'
 try refine nv ?_
 refine au (ι:=Nat) (I:=fun k=>⟨50,[(2, .c (.ptr 2 0)),(3, .c (.ptr 3 0)),(4, .c (.ptr 4 0)),(7, .c (.ptr 7 0)),(24, .c (.d (.ps 12 (c.edits.map bK)))),(25,I .i64 c.edits.length),(26,I .i64 k)],
  [(2, .box ((iY d).map C.d)),(3, .box ((gm c).map C.d)),(4, .box [Fb,Fb]),(7, .box [.ms 100 12 0 (d.revs.length+(c.edits.take k).length),Fb]),(100,ay 12 ((d.revs++(c.edits.take k).map (made c)).map aA))]⟩)
  (Inv:=fun k=>k≤c.edits.length) (μ:=fun k=>c.edits.length-k) 0 (by omega) ?_ ?_
 ·exact uZ (fun i=>if i=100 then 21 else i)
 intro k hk
 have hkl:(c.edits.take k).length=k:=by simp;omega
 try refine nv ?_
 refine aj ?_ ?_
 ·intro hlt
  have hlt':k<c.edits.length:=by simpa using hlt
  obtain⟨y,hy,he,htk⟩:=round bK c.edits k bZ hlt'
  try refine nx @he ?_
  refine dr ([(34,BL (made c y))]) ?_ ?_
  ·exact eQ (Iw c y)
  try refine nv ?_
  refine⟨k+1,by omega,by omega,?_⟩
  have harr:(d.revs++(c.edits.take (k+1)).map (made c)).map aA=(d.revs++(c.edits.take k).map (made c)).map aA++[aA (made c y)]:=by simp[htk]
  have hlen:(c.edits.take (k+1)).length=(c.edits.take k).length+1:=by simp[htk]
  rw[harr,hlen]
  exact enS @Nat.add_assoc (fun i=>if i=100 then 36 else i)
 intro hge
 have hge':k=c.edits.length:=by have:¬k<c.edits.length:=by simpa using hge
                                omega
 have hs:=ZV (d.recs++c.recs) (by simp;omega) (fun r h=>by rcases afs.1 h with h|h;exact hdr r h;exact hr r h)
 simp only[ay,ajA,afI] at hs
 refine aZ ?_
 refine dr ([(47, .c (.d (.ps 6 ((NI (d.recs++c.recs)).map af))))]) ?_ ?_
 ·simp only[All,List.cons_append,List.nil_append,dB,afr,agW,ajr,forall_eq_or_imp,forall_eq,aJ,aB,cZ,aV,bT,ahu,ajG,implies_true,ae1,List.length_cons,List.length_nil,ay,jT,cu]
  repeat' (first|exact trivial|exact hs|exact afZ _ _ _|exact up6 _|refine And.intro ?_ ?_|intro _|assumption|rfl|omega|(rw[afU];assumption)|(simp;done)|(simp only[aeB] at*;omega)|(simp_all;done))
 refine aZ ?_
 refine bC (gW (bid:=7) (id:=100) (sz:=12) (j:=0) (ys:=(d.revs++(c.edits.take k).map (made c)).map aA) (by decide) rfl rfl rfl (by simp<;>omega)) ?_
 refine fE ?_
 try refine nv ?_
 refine rA [] ?_
 refine⟨?_,rfl⟩
 refine .inl ⟨?_,hok⟩
 rw[hge',afu];rfl
def z10.kk:=p10 kB Tryz.ntmps10 Tryz.underlying22 iH pY afD ahb ny y7 Tryz.results10
open z10 in
theorem Q7 (l:List iZ) (hl:l.length≤100000) (hok:∀c∈l,cOK c):
 AC Tryz.prog 10 [.c (.d (.ps 5 (l.map gm)))] [] (fun r st=>(∃d,r=lT d∧gY l d)∧st=[]):=by
 refine df Tryz.func10 Tryz.ntmps10 fun x hx=>?_
 try refine nv ?_
 refine mQ (Az (bid:=3) (j:=0) 12 rfl rfl) ?_
 refine fE ?_
 refine mQ (Az (bid:=3) (j:=1) 6 rfl rfl) ?_
 refine fE ?_
 refine au (ι:=Nat×aW) (I:=fun k=>⟨25,[(2, .c (.ptr 2 0)),(3, .c (.ptr 3 0)),(8, .c (.d (.ps 5 (l.map gm)))),(9,I .i64 l.length),(10,I .i64 k.1)],[(2, .box [Fb,Fb]),(3, .box ((iY k.2).map C.d))]⟩)
  (Inv:=fun k=>k.1≤l.length∧gY (l.take k.1) k.2) (μ:=fun k=>l.length-k.1) (0,Ee) ⟨by simp,by simpa using gY.nil⟩ ?_ ?_
 ·(refine bi (fun i=>i) rfl ?_ ⟨?_,?_,?_,bW hx (by simp[ae,Ab.get])⟩<;>first|(simp only[kE,ay, ↓reduceIte,Nat.reduceEqDiff,reduceCtorEq,Ee];done)|simp[aH,ax,ah,Ab.get,aJ,cZ,aB,bF,aS,aO,aQ,aT,aP,ae,List.flatten,Ee])
 rintro⟨k,d⟩ ⟨hk,hb⟩
 simp only at hk hb⊢
 obtain⟨b1,b2,b3⟩:=hb.ok
 try refine nv ?_
 refine aj ?_ ?_
 ·intro hlt
  have hlt':k<l.length:=by simpa using hlt
  obtain⟨c,hc,he,htk⟩:=round gm l k ag4 hlt'
  obtain⟨c1,c2,c3,c4⟩:=hok c (aem hc)
  try refine nx @he ?_
  refine nJ [] (aaj d c (by omega) (by omega) b3 c1 c2 c3 c4) ?_
  rintro r st' ⟨⟨rfl,hk2⟩|⟨e,hne,rfl⟩,rfl⟩<;>refine nP ?_
  ·try refine nv ?_
   refine aj ?_ ?_
   ·intro _
    try refine nv ?_
    refine⟨(k+1,eG d c),⟨by simp;omega,?_⟩,by simp;omega,?_⟩
    ·simp only[htk];exact .app hb ⟨c1,c2,c3,c4⟩ hk2
    ·exact bQ
   ·intro h;simp at h
  ·try refine nv ?_
   refine aj ?_ ?_
   ·intro h;exact absurd (by simpa using h) hne
   ·intro _
    try refine nv ?_
    refine⟨(k+1,d),⟨by simp;omega,?_⟩,by simp;omega,?_⟩
    ·simp only[htk];exact .skip c hb
    ·exact bQ
 intro hge
 have hge':k=l.length:=by have:¬k<l.length:=by simpa using hge
                          omega
 rw[hge',afu] at hb
 try refine nv ?_
 refine rA [] ?_
 refine⟨?_,rfl⟩
 exact⟨d,rfl,hb⟩
@[reducible] def Lt:C:= .d (.v (.slice none 0 0))
@[reducible] def aaS:Option bV→Bool×List C
 |none=>(true,[Lt, .d (.v (.bool false))])
 |some p=>ahj p
theorem oQ (p q:bV):∀k,(jM p q k).length=k
 |0=>rfl
 |k+1=>by simp[jM,oQ p q k]
end
section
open Go.Ab Tys
variable [zg]
theorem CV (ps cs:List akK):∀k,(jX ps cs k).length=k
 |0=>rfl
 |k+1=>by simp[jX,CV ps cs k]
theorem Oh {n:Nat} {l:List akK} (h:∀s∈l,s.size≤n) (k:Nat):(l.getD k noS).size≤n:=by
 rw[adI]
 cases e:l[k]? with
 |none=>exact aj8 _
 |some s=>exact h s (aem e)
theorem Jl {ps cs:List akK} (h1:∀s∈ps,s.size≤100000) (h2:∀s∈cs,s.size≤400000):∀k,∀s∈jX ps cs k,s.size≤500000
 |0,s,h=>by simp[jX] at h
 |k+1,s,h=>by
  simp only[jX,afs,aft] at h
  rcases h with h|rfl
  ·exact Jl h1 h2 k s h
  ·have a:=Oh h1 k
   have b:=Oh h2 (aK (ps.take k))
   have c:=zI (ps.getD k noS)
   split
   ·rw[ajH];omega
   ·omega
theorem Jp {ps:List akK} {k:Nat} {v:akK} (h:ps[k]? =some v):aK (ps.take (k+1))=aK (ps.take k)+(if bG v then 1 else 0):=by
 rw[ajC,h]
 simp only[aK,Option.toList,ahk,afI,ajj,List.filter_nil]
 split<;>simp
theorem aaP (ps:List akK) (k:Nat):aK (ps.take k)≤aK ps:=by
 have:=agu k ps
 conv=>rhs;rw[←this]
 simp only[aK,ahk,afI];omega
theorem G6 (ps cs:List akK) (k:Nat):qQ ps cs (k+1)=(qQ ps cs k&&(!bG (ps.getD k noS)||comp (cs.getD (aK (ps.take k)) noS))):=by
 simp[qQ,List.range_succ,ajY]
theorem ZU {ps cs:List akK} {k n:Nat} (hk:k<n) (h:(!bG (ps.getD k noS)||comp (cs.getD (aK (ps.take k)) noS))=false):qQ ps cs n=false:=by
 cases e:qQ ps cs n
 ·rfl
 ·have:=kC n k _ hk e
  rw[h] at this;cases this
end
end Go.Proofs.YtcpgicfphakdaaaGreatDoor
