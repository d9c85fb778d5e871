/- A part of the proof. -/
import Derived.Test.YtcpgicfphakdaaaGreatDoorRH3
import Derived.Test.YtcpgicfphakdaaaGreatDoorRH4
import Derived.Test.YtcpgicfphakdaaaGreatDoorRX2
set_option maxRecDepth 100000
set_option maxHeartbeats 16000000
set_option linter.all false
namespace Go.Proofs.YtcpgicfphakdaaaGreatDoor
open Go.Ab Tys
variable [Dr]
def z57.kk:=p2 (p15 kB kG Tryz.ntmps57 Tryz.underlying27 Tryz.underlying28 Tryz.underlying60 ny iK Du zk FC nI DD Kv uM) (p15 Eu ED SY yJ EP x8 IW uz uB nT We PE IY Qz Tryz.results57)
open z57 in
theorem Zt (d:bJ) (c:oD) (hd:d.revs.length≤1000000) (hd2:d.recs.length≤1000000) (hc:∀e∈c.edits,eOK e) (hr:∀r∈c.recs,Ub r) (hl:c.edits.length≤1000000) (hl2:c.recs.length≤1000000):
 AC Tryz.prog 57 [uY d,Vb c] [] (fun r st=>(∃e:Int,r=I .i64 e∧(e=0→yV d c))∧st=[]):=by
 refine dA Tryz.func57 Tryz.ntmps57 fun x hx=>?_
 try refine nv ?_
 refine aj ?_ ?_
 ·intro _
  try refine nv ?_
  refine rA [] ?_
  refine⟨?_,rfl⟩
  exact⟨_,rfl,fun h=>absurd h (by decide)⟩
 intro hA
 have hA':1≤c.edits.length∧c.edits.length≤64∧c.recs.length≤64:=by simp at hA;have:=hA.1.1;rcases Nat.eq_zero_or_pos c.edits.length with h|h<;>simp_all<;>omega
 obtain⟨a1,a2,a3⟩:=hA'
 try refine nv ?_
 refine aj ?_ ?_
 ·intro _
  try refine nv ?_
  refine rA [] ?_
  refine⟨?_,rfl⟩
  exact⟨_,rfl,fun h=>absurd h (by decide)⟩
 intro hB
 have hB':1≤c.num∧c.num≤1073741824:=by simp at hB;omega
 try refine nv ?_
 refine ax (ι:=Nat) (I:=fun k=>⟨105,[(2, .c (.ptr 2 0)),(3, .c (.ptr 3 0)),(37,wW d.revs),(38,I .i64 d.revs.length),(39,I .i64 k)],[(2, .box ((lL d).map C.d)),(3, .box ((fJ c).map C.d))]⟩)
  (Inv:=fun k=>k≤d.revs.length∧∀v∈d.revs.take k,v.chg<c.num) (μ:=fun k=>d.revs.length-k) 0 ⟨by omega,by simp⟩ ?_ ?_
 ·exact cO
 rintro k ⟨hk,hall⟩
 try refine nv ?_
 refine aj ?_ ?_
 ·intro hlt
  have hlt':k<d.revs.length:=by simpa using hlt
  obtain⟨v,hv,he,htk⟩:=round aI d.revs k af hlt'
  try refine nx @he ?_
  refine aj ?_ ?_
  ·intro _
   try refine nv ?_
   refine rA [] ?_
   refine⟨?_,rfl⟩
   exact⟨_,rfl,fun h=>absurd h (by decide)⟩
  intro hb
  have hb':v.chg<c.num:=by simpa using hb
  try refine nv ?_
  refine⟨k+1,⟨by omega,?_⟩,by omega,?_⟩
  ·intro u hu
   rw[htk,List.mem_append] at hu
   rcases hu with hu|hu
   ·exact hall u hu
   ·simp at hu;rw[hu];exact hb'
  ·exact cO
 intro hge
 have hge':k=d.revs.length:=by have:¬k<d.revs.length:=by simpa using hge
                               omega
 rw[hge',List.take_length] at hall
 try refine nv ?_
 refine ax (ι:=Nat) (I:=fun k=>⟨105,[(2, .c (.ptr 2 0)),(3, .c (.ptr 3 0)),(51,I .i64 c.edits.length),(52,I .i64 k)],[(2, .box ((lL d).map C.d)),(3, .box ((fJ c).map C.d))]⟩)
  (Inv:=fun k=>k≤c.edits.length∧∀i,i<k→Ae d c i (c.edits.getD i dU)) (μ:=fun k=>c.edits.length-k) 0 ⟨by omega,by omega⟩ ?_ ?_
 ·exact cO
 rintro k2 ⟨hk2,hed⟩
 try refine nv ?_
 refine aj ?_ ?_
 ·intro hlt
  have hlt':k2<c.edits.length:=by simpa using hlt
  try refine nv ?_
  refine tX [] (ZU d c k2 hlt' hd hc hl) ?_
  rintro r st' ⟨⟨e,rfl,he⟩,rfl⟩<;>refine uo ?_
  try refine nv ?_
  refine aj ?_ ?_
  ·intro hne
   have hne':¬e=0:=by simpa using hne
   try refine nv ?_
   refine rA [] ?_
   refine⟨?_,rfl⟩
   exact⟨_,rfl,fun h=>absurd h hne'⟩
  intro heq
  have heq':e=0:=by simpa using heq
  try refine nv ?_
  refine⟨k2+1,⟨by omega,?_⟩,by omega,?_⟩
  ·intro i hi
   rcases Nat.lt_succ_iff_lt_or_eq.1 hi with h|rfl
   ·exact hed i h
   ·exact he heq'
  ·exact cO
 intro hge2
 have hge2':k2=c.edits.length:=by have:¬k2<c.edits.length:=by simpa using hge2
                                  omega
 try refine nv ?_
 refine ax (ι:=Nat) (I:=fun k=>⟨105,[(2, .c (.ptr 2 0)),(3, .c (.ptr 3 0)),(64, .c (.d (.ps 12 (c.edits.map fM)))),(65,I .i64 c.edits.length),(66,I .i64 k)],[(2, .box ((lL d).map C.d)),(3, .box ((fJ c).map C.d))]⟩)
  (Inv:=fun k=>k≤c.edits.length∧∀e∈c.edits.take k,zB c e=true) (μ:=fun k=>c.edits.length-k) 0 ⟨by omega,by simp⟩ ?_ ?_
 ·exact cO
 rintro k3 ⟨hk3,hmv⟩
 try refine nv ?_
 refine aj ?_ ?_
 ·intro hlt
  have hlt':k3<c.edits.length:=by simpa using hlt
  obtain⟨y,hy,he,htk⟩:=round fM c.edits k3 dU hlt'
  (repeat (first|refine nx @he ?_|refine cf (XP c y hl) ?_))
  refine aj ?_ ?_
  ·intro _
   try refine nv ?_
   refine rA [] ?_
   refine⟨?_,rfl⟩
   exact⟨_,rfl,fun h=>absurd h (by decide)⟩
  intro hb
  have hb':zB c y=true:=by simpa using hb
  try refine nv ?_
  refine⟨k3+1,⟨by omega,?_⟩,by omega,?_⟩
  ·intro u hu
   rw[htk,List.mem_append] at hu
   rcases hu with hu|hu
   ·exact hmv u hu
   ·simp at hu;rw[hu];exact hb'
  ·exact cO
 intro hge3
 have hge3':k3=c.edits.length:=by have:¬k3<c.edits.length:=by simpa using hge3
                                  omega
 rw[hge3',List.take_length] at hmv
 try refine nv ?_
 refine ax (ι:=Nat) (I:=fun k=>⟨105,[(2, .c (.ptr 2 0)),(3, .c (.ptr 3 0)),(77,I .i64 c.recs.length),(78,I .i64 k)],[(2, .box ((lL d).map C.d)),(3, .box ((fJ c).map C.d))]⟩)
  (Inv:=fun k=>k≤c.recs.length∧∀i,i<k→Oa d c (c.recs.getD i lZ)) (μ:=fun k=>c.recs.length-k) 0 ⟨by omega,by omega⟩ ?_ ?_
 ·exact cO
 rintro k4 ⟨hk4,hrc⟩
 try refine nv ?_
 refine aj ?_ ?_
 ·intro hlt
  have hlt':k4<c.recs.length:=by simpa using hlt
  try refine nv ?_
  refine tX [] (WE d c k4 hlt' hd hr hl hl2) ?_
  rintro r st' ⟨⟨b,rfl,he⟩,rfl⟩<;>refine uo ?_
  try refine nv ?_
  refine aj ?_ ?_
  ·intro _
   try refine nv ?_
   refine rA [] ?_
   refine⟨?_,rfl⟩
   exact⟨_,rfl,fun h=>absurd h (by decide)⟩
  intro heq
  have heq':b=true:=by simpa using heq
  try refine nv ?_
  refine⟨k4+1,⟨by omega,?_⟩,by omega,?_⟩
  ·intro i hi
   rcases Nat.lt_succ_iff_lt_or_eq.1 hi with h|rfl
   ·exact hrc i h
   ·exact he heq'
  ·exact cO
 intro hge4
 have hge4':k4=c.recs.length:=by have:¬k4<c.recs.length:=by simpa using hge4
                                 omega
 try refine nv ?_
 refine aj ?_ ?_
 ·intro _
  try refine nv ?_
  refine rA [] ?_
  refine⟨?_,rfl⟩
  exact⟨_,rfl,fun h=>absurd h (by decide)⟩
 intro hT
 have hT':d.revs.length+c.edits.length≤512∧d.recs.length+c.recs.length≤512:=by simp at hT;omega
 try refine nv ?_
 refine rA [] ?_
 refine⟨?_,rfl⟩
 exact⟨_,rfl,fun _=>⟨a1,a2,a3,hB',hall,fun i hi=>hed i (by omega),hmv,fun i hi=>hrc i (by omega),hT'.1,hT'.2⟩⟩
def z22.kk:=p2 (RJ kB kS Tryz.ntmps22 Tryz.underlying27 Tryz.underlying28 Tryz.underlying60 ny iK Du zk FC nI DD Kv) (p13 uM Eu yJ EP x8 IW uB nT We PE IY Qz Tryz.results22)
open z22 in
theorem WB (d:bJ) (c:oD) (hd:d.revs.length≤100000) (hd2:d.recs.length≤100000) (hdr:∀r∈d.recs,Ub r) (hc:∀e∈c.edits,eOK e) (hr:∀r∈c.recs,Ub r) (hl:c.edits.length≤100000) (hl2:c.recs.length≤100000):
 AC Tryz.prog 22 [uY d,Vb c] [] (fun r st=>((r= .tup [(true,(lL (ku d c)).map C.d),pI 0]∧yV d c)∨∃e:Int,¬e=0∧r= .tup [(true,[QI,QI]),pI e])∧st=[]):=by
 refine dA Tryz.func22 Tryz.ntmps22 fun x hx=>?_
 try refine nv ?_
 refine tX [] (Zt d c (by omega) (by omega) hc hr (by omega) (by omega)) ?_
 rintro r st' ⟨⟨e,rfl,he⟩,rfl⟩<;>refine uo ?_
 try refine nv ?_
 refine aj ?_ ?_
 ·intro hne
  have hne':¬e=0:=by simpa using hne
  try refine nv ?_
  refine rA [] ?_
  refine⟨?_,rfl⟩
  exact .inr ⟨e,hne',rfl⟩
 intro heq
 have heq':e=0:=by simpa using heq
 have hok:=he heq'
 try refine nv ?_
 refine ax (ι:=Nat) (I:=fun k=>⟨50,[(2, .c (.ptr 2 0)),(3, .c (.ptr 3 0)),(4, .c (.ptr 4 0)),(7, .c (.ptr 7 0)),(24, .c (.d (.ps 12 (c.edits.map fM)))),(25,I .i64 c.edits.length),(26,I .i64 k)],
  [(2, .box ((lL d).map C.d)),(3, .box ((fJ c).map C.d)),(4, .box [QI,QI]),(7, .box [.ms 100 12 0 (d.revs.length+(c.edits.take k).length),QI]),(100,aK 12 ((d.revs++(c.edits.take k).map (made c)).map aI))]⟩)
  (Inv:=fun k=>k≤c.edits.length) (μ:=fun k=>c.edits.length-k) 0 (by omega) ?_ ?_
 ·exact Af (fun i=>if i=100 then 21 else i)
 intro k hk
 have hkl:(c.edits.take k).length=k:=by simp;omega
 try refine nv ?_
 refine aj ?_ ?_
 ·intro hlt
  have hlt':k<c.edits.length:=by simpa using hlt
  obtain⟨y,hy,he,htk⟩:=round fM c.edits k dU hlt'
  try refine nx @he ?_
  refine dr ([(34,LG (made c y))]) ?_ ?_
  ·exact iw (Es c y)
  try refine nv ?_
  refine⟨k+1,by omega,by omega,?_⟩
  have harr:(d.revs++(c.edits.take (k+1)).map (made c)).map aI=(d.revs++(c.edits.take k).map (made c)).map aI++[aI (made c y)]:=by simp[htk]
  have hlen:(c.edits.take (k+1)).length=(c.edits.take k).length+1:=by simp[htk]
  rw[harr,hlen]
  exact enS @Nat.add_assoc (fun i=>if i=100 then 36 else i)
 intro hge
 have hge':k=c.edits.length:=by have:¬k<c.edits.length:=by simpa using hge
                                omega
 have hs:=VM (d.recs++c.recs) (by simp;omega) (fun r h=>by rcases List.mem_append.1 h with h|h;exact hdr r h;exact hr r h)
 simp only[aK,List.map_append,List.length_append] at hs
 refine bC ?_
 refine dr ([(47, .c (.d (.ps 6 ((JX (d.recs++c.recs)).map bi))))]) ?_ ?_
 ·simp only[All,List.cons_append,List.nil_append,dG,List.mem_cons,List.not_mem_nil,or_false,forall_eq_or_imp,forall_eq,aH,aB,cu,aG,bG,and_true,true_and,implies_true,List.length_map,List.length_cons,List.length_nil,aK,iZ,cZ]
  repeat' (first|exact trivial|exact hs|exact ab6 _ _ _|exact up6 _|refine And.intro ?_ ?_|intro _|assumption|rfl|omega|(rw[Bool.not_eq_true'];assumption)|(simp;done)|(simp only[decide_eq_true_eq] at*;omega)|(simp_all;done))
 refine bC ?_
 refine bz (gY (bid:=7) (id:=100) (sz:=12) (j:=0) (ys:=(d.revs++(c.edits.take k).map (made c)).map aI) (by decide) rfl rfl rfl (by simp<;>omega)) ?_
 refine dZ ?_
 try refine nv ?_
 refine rA [] ?_
 refine⟨?_,rfl⟩
 refine .inl ⟨?_,hok⟩
 rw[hge',List.take_length];rfl
def z10.kk:=p10 kB Tryz.ntmps10 Tryz.underlying22 ny Du abp acM uB PE Tryz.results10
open z10 in
theorem Xb (l:List oD) (hl:l.length≤100000) (hok:∀c∈l,cOK c):
 AC Tryz.prog 10 [.c (.d (.ps 5 (l.map fJ)))] [] (fun r st=>(∃d,r=uY d∧jX l d)∧st=[]):=by
 refine dA Tryz.func10 Tryz.ntmps10 fun x hx=>?_
 try refine nv ?_
 refine nH (DI (bid:=3) (j:=0) 12 rfl rfl) ?_
 refine dZ ?_
 refine nH (DI (bid:=3) (j:=1) 6 rfl rfl) ?_
 refine dZ ?_
 refine ax (ι:=Nat×bJ) (I:=fun k=>⟨25,[(2, .c (.ptr 2 0)),(3, .c (.ptr 3 0)),(8, .c (.d (.ps 5 (l.map fJ)))),(9,I .i64 l.length),(10,I .i64 k.1)],[(2, .box [QI,QI]),(3, .box ((lL k.2).map C.d))]⟩)
  (Inv:=fun k=>k.1≤l.length∧jX (l.take k.1) k.2) (μ:=fun k=>l.length-k.1) (0,IP) ⟨by simp,by simpa using jX.nil⟩ ?_ ?_
 ·(refine bI (fun i=>i) rfl ?_ ⟨?_,?_,?_,di hx (by simp[ae,Ab.get])⟩<;>first|(simp only[kE,aK, ↓reduceIte,Nat.reduceEqDiff,reduceCtorEq,IP];done)|simp[aW,aA,ag,Ab.get,aH,cu,aB,bD,aS,aQ,aU,aP,aT,ae,List.flatten,IP])
 rintro⟨k,d⟩ ⟨hk,hb⟩
 simp only at hk hb⊢
 obtain⟨b1,b2,b3⟩:=hb.ok
 try refine nv ?_
 refine aj ?_ ?_
 ·intro hlt
  have hlt':k<l.length:=by simpa using hlt
  obtain⟨c,hc,he,htk⟩:=round fJ l k acS hlt'
  obtain⟨c1,c2,c3,c4⟩:=hok c (List.mem_of_getElem? hc)
  try refine nx @he ?_
  refine tX [] (WB d c (by omega) (by omega) b3 c1 c2 c3 c4) ?_
  rintro r st' ⟨⟨rfl,hk2⟩|⟨e,hne,rfl⟩,rfl⟩<;>refine uo ?_
  ·try refine nv ?_
   refine aj ?_ ?_
   ·intro _
    try refine nv ?_
    refine⟨(k+1,ku d c),⟨by simp;omega,?_⟩,by simp;omega,?_⟩
    ·simp only[htk];exact .app hb ⟨c1,c2,c3,c4⟩ hk2
    ·exact cO
   ·intro h;simp at h
  ·try refine nv ?_
   refine aj ?_ ?_
   ·intro h;exact absurd (by simpa using h) hne
   ·intro _
    try refine nv ?_
    refine⟨(k+1,d),⟨by simp;omega,?_⟩,by simp;omega,?_⟩
    ·simp only[htk];exact .skip c hb
    ·exact cO
 intro hge
 have hge':k=l.length:=by have:¬k<l.length:=by simpa using hge
                          omega
 rw[hge',List.take_length] at hb
 try refine nv ?_
 refine rA [] ?_
 refine⟨?_,rfl⟩
 exact⟨d,rfl,hb⟩
@[reducible] def G9:C:= .d (.v (.slice none 0 0))
@[reducible] def Yd:Option bH→Bool×List C
 |none=>(true,[G9, .d (.v (.bool false))])
 |some p=>acY p
theorem lQ (p q:bH):∀k,(iL p q k).length=k
 |0=>rfl
 |k+1=>by simp[iL,lQ p q k]
end Go.Proofs.YtcpgicfphakdaaaGreatDoor
