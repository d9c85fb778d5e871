/- A part of the proof. -/
import Derived.Test.YtcpgicfphakdaaaGreatDoorRP50
set_option maxRecDepth 100000
set_option maxHeartbeats 16000000
set_option linter.all false
namespace Go.Proofs.YtcpgicfphakdaaaGreatDoor
open Go.Ab Tys
variable [Dr]
open aiB in
theorem NG (d:aW) (c:iZ) (L:List (akK×Rev)) (E:List (akK×ou)) (N:List (bJ×bJ)) (hL:∀p,ai L p=aU d p) (p:akK):
 AC Tryz.prog 225 [.c (.ptr 2000 0),Str p] (ku d c L E N) (fun r st=>r= .tup [CY ((aU d p).getD ag),pB (live d p)]∧st=ku d c L E N):=by
 have hty:=Yh L
 have hlk:=IJ L p
 rw[hL] at hlk
 cases hl:aU d p with
 |none=>
  have hv:live d p=false:=by simp[live,hl]
  rw[hl] at hlk
  rw[hv]
  refine df Tryz.func225 Tryz.ntmps225 fun x hx=>?_
  try refine nv ?_
  refine dD (wr:=false) 400 (by simp only[kk,Nat.reduceAdd,Nat.reduceLT,Nat.reduceEqDiff, ↓reduceIte,reduceCtorEq,hlk,Option.map_none,Option.getD,Option.isSome];first|done|rfl) ?_ ?_
  ·exact eQ @hty
  refine aZ ?_
  refine dr ([(22,B false)]) ?_ ?_
  ·exact qP
  refine aZ ?_
  refine jl (by simp only[kR,Tryz.results225, ↓reduceIte,Nat.reduceEqDiff,reduceCtorEq,qE,cellsOf,List.map,List.length_cons,List.length_nil,akk,List.getD_cons_succ,List.getD_nil,List.drop,List.take,splice,iq];first|done|rfl) (by first|exact trivial|(simp only[kO];omega)|(simp[All,dB];first|done|omega)|(simp+contextual [All,dB];first|done|grind)) (ku d c L E N) ⟨by simp[Ab.get,ax,hlk],by simp,by simp[bF,aS,aO,aQ,aT,aP,ah,aB,cZ,ae,Ab.get,hlk],bW hx (by simp[ae,Ab.get,hlk])⟩ (by simp[aJ,bM,aB,cZ,ae,Ab.get,hlk]) ⟨?_,rfl⟩
  rfl
 |some v=>
  have hv:live d p=(!decide (v.act=3)&&!decide (v.act=5)):=by simp[live,hl,gone]
  rw[hl] at hlk
  rw[hv]
  have hpl:=LU v.act
  refine df Tryz.func225 Tryz.ntmps225 fun x hx=>?_
  try refine nv ?_
  refine dD (wr:=false) 400 (by simp only[kk,Nat.reduceAdd,Nat.reduceLT,Nat.reduceEqDiff, ↓reduceIte,reduceCtorEq,hlk,Option.map_some,Option.getD,Option.isSome];first|done|rfl) ?_ ?_
  ·exact eQ @hty
  refine aZ ?_
  refine dr ([(22,B (!decide (v.act=3)&&!decide (v.act=5)))]) ?_ ?_
  ·exact eQ @hpl
  refine aZ ?_
  refine rA ((ku d c L E N)) ?_
  refine⟨?_,rfl⟩
  rfl
section
variable (d:aW) (c:iZ) (L:List (akK×Rev)) (E:List (akK×ou)) (N:List (bJ×bJ))
def ajg.kk:=p2 (MP kB kG kS Tryz.ntmps169 qM wY dM mJ UJ TR Qo fK nH nR) (p13 nM sN vC yE uP EU mG Au Gh iq wo jB Tryz.results169)
open ajg in
theorem PR (hL:∀p,ai L p=aU d p) (z:ou) (hz:aar d z):AC Tryz.prog 169 [.c (.ptr 2000 0),Z7 z] (ku d c L E N) (fun r st=>r=I .i64 0∧st=ku d c L E N):=by
 have hty:=Tv z.base z.kw z.ex z.xe
 rw[hz.typ.1] at hty
 simp only[agF,if_false] at hty
 have hsz:=hz.typ.2
 have hpl:=LU z.act
 have hlv:=NG d c L E N hL z.path
 have hpv:z.prev=((aU d z.path).getD ag).num:=hz.prev
 have hll:=hz.lv
 have hlo:=hz.lo
 have hhi:=hz.hi
 have hgn:=hz.gone
 generalize (aU d z.path).getD ag=u at hlv hpv hgn
 generalize live d z.path=lv at hlv hll
 refine df Tryz.func169 Tryz.ntmps169 fun x hx=>?_
 try refine nv ?_
 refine nJ ((ku d c L E N)) (hlv) ?_
 rintro rv9 st' ⟨rfl,rfl⟩<;>refine nP ?_
 try refine nv ?_
 have hb18:decide (z.act=1∨z.act=4)=!lv:=by
  cases lv with
  |true=>simpa using hll
  |false=>simpa using hll.2 rfl
 refine nZ ⟨94,[(0, .c (.ptr 2000 0)),(3, .c (.ptr 3 0)),(5, .c (.ptr 5 0)),(6,B lv),(17,I .i64 z.act),(18,B (!lv))],ku d c L E N++[(3, .box ((bK z).map C.d)),(5, .box ((aA u).map C.d))]⟩ ?_ ?_
 ·refine aj ?_ ?_
  ·intro h
   have z1:z.act=1:=by simpa using h
   have e1:lv=false:=hll.1 (.inl z1)
   refine aZ ?_
   refine⟨rfl,?_⟩
   (refine bi (fun i=>i) rfl ?_ ⟨?_,?_,?_,bW hx (by simp[ae,Ab.get])⟩<;>first|(simp only[kE,ay, ↓reduceIte,Nat.reduceEqDiff,reduceCtorEq,bM,z1,e1];done)|simp[aH,ax,ah,Ab.get,aJ,cZ,aB,bF,aS,aO,aQ,aT,aP,ae,List.flatten,bM,z1,e1])
  intro h
  have z1:¬z.act=1:=by simpa using h
  have e4:decide (z.act=4)=!lv:=by rw[←hb18];simp[z1]
  try refine nv ?_
  refine⟨rfl,?_⟩
  (refine bi (fun i=>i) rfl ?_ ⟨?_,?_,?_,bW hx (by simp[ae,Ab.get])⟩<;>first|(simp only[kE,ay, ↓reduceIte,Nat.reduceEqDiff,reduceCtorEq,bM,e4];done)|simp[aH,ax,ah,Ab.get,aJ,cZ,aB,bF,aS,aO,aQ,aT,aP,ae,List.flatten,bM,e4])
 try refine nv ?_
 refine nZ ⟨94,[(0, .c (.ptr 2000 0)),(3, .c (.ptr 3 0)),(5, .c (.ptr 5 0))],ku d c L E N++[(3, .box ((bK z).map C.d)),(5, .box ((aA u).map C.d))]⟩ ?_ ?_
 ·refine aj ?_ ?_
  ·intro h
   have hlv:lv=false:=by simpa using h
   try refine nv ?_
   refine aj ?_ ?_
   ·intro h;rw[hlv] at h;cases h
   intro _
   try refine nv ?_
   refine⟨rfl,?_⟩
   exact bQ
  intro h
  have hlv:lv=true:=by simpa using h
  have h18:¬(z.act=1∨z.act=4):=by rw[hlv] at hb18;simpa using hb18
  try refine nv ?_
  refine nZ ⟨94,[(0, .c (.ptr 2000 0)),(3, .c (.ptr 3 0)),(5, .c (.ptr 5 0)),(6,B lv),(22,B true)],ku d c L E N++[(3, .box ((bK z).map C.d)),(5, .box ((aA u).map C.d))]⟩ ?_ ?_
  ·refine aj ?_ ?_
   ·intro e2
    refine aZ ?_
    refine⟨rfl,?_⟩
    (refine bi (fun i=>i) rfl ?_ ⟨?_,?_,?_,bW hx (by simp[ae,Ab.get])⟩<;>first|(simp only[kE,ay, ↓reduceIte,Nat.reduceEqDiff,reduceCtorEq,bM,e2];done)|simp[aH,ax,ah,Ab.get,aJ,cZ,aB,bF,aS,aO,aQ,aT,aP,ae,List.flatten,bM,e2])
   intro h2
   try refine nv ?_
   refine aj ?_ ?_
   ·intro e3
    refine aZ ?_
    refine⟨rfl,?_⟩
    (refine bi (fun i=>i) rfl ?_ ⟨?_,?_,?_,bW hx (by simp[ae,Ab.get])⟩<;>first|(simp only[kE,ay, ↓reduceIte,Nat.reduceEqDiff,reduceCtorEq,bM,e3];done)|simp[aH,ax,ah,Ab.get,aJ,cZ,aB,bF,aS,aO,aQ,aT,aP,ae,List.flatten,bM,e3])
   intro h3
   have e5:decide (z.act=5)=true:=by
    simp at h2 h3;simp;omega
   try refine nv ?_
   refine⟨rfl,?_⟩
   (refine bi (fun i=>i) rfl ?_ ⟨?_,?_,?_,bW hx (by simp[ae,Ab.get])⟩<;>first|(simp only[kE,ay, ↓reduceIte,Nat.reduceEqDiff,reduceCtorEq,bM,e5];done)|simp[aH,ax,ah,Ab.get,aJ,cZ,aB,bF,aS,aO,aQ,aT,aP,ae,List.flatten,bM,e5])
  try refine nv ?_
  refine aj ?_ ?_
  rotate_left
  ·intro h;cases h
  intro _
  try refine nv ?_
  refine aj ?_ ?_
  ·intro h;rw[hlv] at h;cases h
  intro _
  try refine nv ?_
  refine⟨rfl,?_⟩
  exact bQ
 try refine nv ?_
 refine aj ?_ ?_
 ·intro h;exfalso;simp[hpv] at h
 intro _
 try refine nv ?_
 refine nZ ⟨94,[(0, .c (.ptr 2000 0)),(3, .c (.ptr 3 0)),(5, .c (.ptr 5 0))],ku d c L E N++[(3, .box ((bK z).map C.d)),(5, .box ((aA u).map C.d))]⟩ ?_ ?_
 ·try refine nv ?_
  refine aj ?_ ?_
  ·intro h4
   have h4':z.act=4:=by simpa using h4
   obtain⟨f1,f2,f3⟩:=hz.frm4 h4'
   have hl2:=NG d c L E N hL z.frm
   rw[f1] at hl2
   try refine nv ?_
   refine nJ ((ku d c L E N)) (hl2) ?_
   rintro rv9 st' ⟨rfl,rfl⟩<;>refine nP ?_
   try refine nv ?_
   refine aj ?_ ?_
   ·intro h;exfalso;simp[f2,f3,bf] at h
   intro _
   try refine nv ?_
   refine⟨rfl,?_⟩
   exact bQ
  intro h4
  have h4':¬z.act=4:=by simpa using h4
  obtain⟨f1,f2⟩:=hz.frm0 h4'
  try refine nv ?_
  refine aj ?_ ?_
  ·intro h;exfalso;simp[f1,f2] at h
  intro _
  try refine nv ?_
  refine⟨rfl,?_⟩
  exact bQ
 (repeat (first|refine nv ?_|refine cf (hty) ?_))
 refine aj ?_ ?_
 ·intro h;exfalso;simp at h;omega
 intro _
 (repeat (first|refine nv ?_|refine cf (hpl) ?_))
 refine aj ?_ ?_
 ·intro h;exfalso
  by_cases hgo:z.act=3∨z.act=5
  ·obtain⟨g1,g2,g3,g4,g5,g6⟩:=hgn hgo
   simp[g1,g2,g3,g4,g5,g6] at h
  ·rw[not_or] at hgo
   simp[hgo.1,hgo.2] at h
 intro _
 try refine nv ?_
 refine rA ((ku d c L E N)) ?_
 refine⟨?_,rfl⟩
 rfl
def Ih (l:List ou):Nat→akK
 |0=>noS
 |k+1=>(l.getD k bZ).path
def aic.kk:=p2 (p12 kB kG kM Tryz.ntmps112 Tryz.underlying60 Tryz.underlying9 rE pY mJ vT uB Ac) (p11 lQ nR EY L6 Q4 yR BP y7 wo jB Tryz.results112)
open aic in
theorem V7 (hL:∀p,ai L p=aU d p) (hE:∀e∈c.edits,aar d e) (ho:∀i,i+1<c.edits.length→ord (c.edits.getD i bZ).path (c.edits.getD (i+1) bZ).path<0) (hlen:c.edits.length≤1000000):
 AC Tryz.prog 112 [.c (.ptr 2000 0)] (ku d c L [] N) (fun r st=>r=I .i64 0∧st=ku d c L (MK c.edits) N):=by
 refine df Tryz.func112 Tryz.ntmps112 fun x hx=>?_
 try refine nv ?_
 refine au (ι:=Nat) (I:=fun k=>⟨52,[(0, .c (.ptr 2000 0)),(3,Str (Ih c.edits k)),(11, .c (.d (.ps 12 (c.edits.map bK)))),(12,I .i64 c.edits.length),(13,I .i64 k)],ku d c L (MK (c.edits.take k)) N⟩)
  (Inv:=fun k=>k≤c.edits.length) (μ:=fun k=>c.edits.length-k) 0 (by omega) ?_ ?_
 ·(refine bi (fun i=>i) rfl ?_ ⟨?_,?_,?_,bW hx (by simp[ae,Ab.get])⟩<;>first|(simp only[kE,ay, ↓reduceIte,Nat.reduceEqDiff,reduceCtorEq,MK,Ih];done)|simp[aH,ax,ah,Ab.get,aJ,cZ,aB,bF,aS,aO,aQ,aT,aP,ae,List.flatten,MK,Ih])
 intro k hk
 try refine nv ?_
 refine aj ?_ ?_
 rotate_left
 ·intro hge
  have hk':k=c.edits.length:=by have:¬k<c.edits.length:=by simpa using hge
                                omega
  rw[hk',afu]
  try refine nv ?_
  refine rA ((ku d c L (MK c.edits) N)) ?_
  refine⟨?_,rfl⟩
  rfl
 intro hlt
 have hlt':k<c.edits.length:=by simpa using hlt
 obtain⟨z,hz,he,htk⟩:=round bK c.edits k bZ hlt'
 have hP:=hE z (aem hz)
 have hva:=Eb z.path (by have:=hP.size;omega)
 rw[hP.path] at hva
 have hs1:MK (c.edits.take (k+1))=eH (MK (c.edits.take k)) z.path z:=by rw[htk,acX]
 have hzd:c.edits.getD k bZ=z:=by rw[adI,hz];rfl
 have hb1:Ih c.edits (k+1)=z.path:=by rw[Ih,hzd]
 have hcmp:(bif decide (Ih c.edits k=noS) then 0 else(if oP (Ih c.edits k) z.path<0 then(0:Int) else 1))=0:=by
  cases k with
  |zero=>rfl
  |succ j=>
   have h1:=ho j (by omega)
   rw[hzd] at h1
   have hj:c.edits.getD j bZ∈c.edits:=by rw[adI,adH (by omega)];exact ajI _
   have h2:=(hE _ hj).path
   simp only[Ih,oP,h2,hP.path,Bool.and_self,if_true,h1]
   by_cases hq:(c.edits.getD j bZ).path=noS<;>simp[hq]
 have hbs:(Ih c.edits k).size≤100000:=by
  cases k with
  |zero=>exact aj8 _
  |succ j=>
   have hj:c.edits.getD j bZ∈c.edits:=by rw[adI,adH (by omega)];exact ajI _
   have:=(hE _ hj).size
   simp only[Ih];omega
 have hcp:=zG (Ih c.edits k) z.path hbs (by have:=hP.size;omega)
 generalize Ih c.edits k=b at hcmp hcp
 have hoe:=PR d c L (MK (c.edits.take k)) N hL z hP
 generalize MK (c.edits.take k)=E1 at hs1 hoe⊢
 have hins:dF (false,[C.d (.v (.string z.path))]) (true,(bK z).map C.d) ((bz pV Xe E1).map dJ)=(bz pV Xe (eH E1 z.path z)).map dJ:=ut (ve:=Xe) Ce E1 z.path z
 simp only[bK,agV,aj0] at hins
 have hty:=YE E1
 have hps:=hP.size
 (repeat (first|refine nx @he ?_|refine cf (hva) ?_))
 refine aj ?_ ?_
 ·intro h;exfalso;simp at h;omega
 intro _
 try refine nv ?_
 refine so ([(33,I .i64 (oP b z.path))]) ?_ ?_
 ·exact eQ @hcp
 try refine nv ?_
 refine aj ?_ ?_
 ·intro h;exfalso
  by_cases hb:b=noS
  ·simp[hb] at h
  ·simp[hb] at h hcmp
   omega
 intro _
 try refine nv ?_
 refine nJ ((ku d c L E1 N)) (hoe) ?_
 rintro rv9 st' ⟨rfl,rfl⟩<;>refine nP ?_
 try refine nv ?_
 refine aj ?_ ?_
 ·intro h;cases h
 intro _
 refine aZ ?_
 refine dx ([]) @hins ?_ ?_
 ·exact eQ @hty
 try refine nv ?_
 refine⟨k+1,by omega,by omega,?_⟩
 rw[hb1,hs1]
 exact bQ
end
end Go.Proofs.YtcpgicfphakdaaaGreatDoor
