/- A part of the proof. -/
import Derived.Test.YtcpgicfphakdaaaGreatDoorRR1
import Derived.Test.YtcpgicfphakdaaaGreatDoorRX10
set_option maxRecDepth 100000
set_option maxHeartbeats 8000000
set_option linter.all false
namespace Go.Proofs.YtcpgicfphakdaaaGreatDoor
open Go.Ab Tys
variable [Dr]
def adF.kk:=p6 kB kS Tryz.ntmps270 Tryz.underlying9 kC Tryz.results270
open adF in
theorem Vw (s t:ByteArray) (hs:s.size≤1000000) (ht:t.size≤1000000):AC Tryz.prog 270 [Str s,Str t] [] (fun r st=>r=Str (trimS s t)∧st=[]):=by
 refine dA Tryz.func270 Tryz.ntmps270 fun x hx=>?_
 (repeat (first|refine nv ?_|refine cf (xE s t hs ht) ?_))
 refine aj ?_ ?_
 ·intro h
  have h':dP s t=true:=by simpa using h
  have hl:=JJ h'
  have e:((s.size:Int)-t.size).toNat=s.size-t.size:=by omega
  try refine nx @e ?_
  refine rA [] ?_
  refine⟨?_,rfl⟩
  simp only[trimS,h',if_true]
 ·intro h
  have h':dP s t=false:=by simpa using h
  try refine nv ?_
  refine rA [] ?_
  refine⟨?_,rfl⟩
  simp only[trimS,h',if_false,Bool.false_eq_true]
def adU.kk:=p3 kB Tryz.ntmps254 Tryz.results254
open adU in
theorem aar (s t:ByteArray) (hs:s.size≤1000000) (ht:t.size≤1000000):AC Tryz.prog 254 [Str s,Str t] [] (fun r st=>r=Str (trimS s t)∧st=[]):=by
 refine dA Tryz.func254 Tryz.ntmps254 fun x hx=>?_
 (repeat (first|refine nv ?_|refine cf (Vw s t hs ht) ?_))
 refine rA [] ?_
 refine⟨?_,rfl⟩
 rfl
theorem Z8 (s:ByteArray):decide (vY s=0)=!eH s:=by
 unfold vY eH
 cases comp s<;>cases aX s<;>rfl
def adl.kk:=p13 kB kG Tryz.ntmps255 Tryz.underlying74 Rl iC H7 H8 X3 MH pX kC Tryz.results255
open adl in
theorem Lj (b:bH) (rest:Bool) (hb:PB 1000000 b):AC Tryz.prog 255 [aPat b,B rest] [] (fun r st=>r=B (BQ b rest)∧st=[]):=by
 have hR:BQ b rest=(!((!rest&&(!decide (b.parts.length=1)||b.rest))||(decide (b.parts.length=0)&&!b.rest))&&b.parts.all eH):=rfl
 generalize BQ b rest=R at hR
 have hb1:=hb.1
 have hb2:=hb.2
 obtain⟨ps,rp⟩:=b
 simp only at hR hb1 hb2
 refine dA Tryz.func255 Tryz.ntmps255 fun x hx=>?_
 try refine nv ?_
 refine aj ?_ ?_
 ·intro h
  have h':((!rest&&(!decide (ps.length=1)||rp))||(decide (ps.length=0)&&!rp))=true:=by
   have e1:decide ((ps.length:Int)=1)=decide (ps.length=1):=decide_eq_decide.2 (by omega)
   have e2:decide ((ps.length:Int)=0)=decide (ps.length=0):=decide_eq_decide.2 (by omega)
   rw[e1,e2] at h
   revert h
   cases rest<;>cases rp<;>cases decide (ps.length=1)<;>cases decide (ps.length=0)<;>simp
  rw[h'] at hR
  try refine nv ?_
  refine rA [] ?_
  refine⟨?_,rfl⟩
  rw[hR];rfl
 intro h
 have h':((!rest&&(!decide (ps.length=1)||rp))||(decide (ps.length=0)&&!rp))=false:=by
  have e1:decide ((ps.length:Int)=1)=decide (ps.length=1):=decide_eq_decide.2 (by omega)
  have e2:decide ((ps.length:Int)=0)=decide (ps.length=0):=decide_eq_decide.2 (by omega)
  rw[e1,e2] at h
  revert h
  cases rest<;>cases rp<;>cases decide (ps.length=1)<;>cases decide (ps.length=0)<;>simp
 rw[h',Bool.not_false,Bool.true_and] at hR
 try refine nv ?_
 refine ax (ι:=Nat) (I:=fun k=>⟨41,[(31,iy ps),(32,I .i64 ps.length),(33,I .i64 k)],[]⟩)
  (Inv:=fun k=>k≤ps.length∧(ps.take k).all eH=true) (μ:=fun k=>ps.length-k) 0 ⟨by omega,rfl⟩ ?_ ?_
 ·exact cO
 rintro k ⟨hk,hall⟩
 try refine nv ?_
 refine aj ?_ ?_
 ·intro hlt
  have hlt':k<ps.length:=by simpa using hlt
  obtain⟨u,hu,he,htk⟩:=round encS ps k noS hlt'
  have hum:=List.mem_of_getElem? hu
  have hf:=JW u (hb2 u hum)
  have h0:=Z8 u
  generalize vY u=fm at hf h0
  (repeat (first|refine nx @he ?_|refine cf (hf) ?_))
  refine aj ?_ ?_
  ·intro hc
   rw[hc] at h0
   have hR2:R=false:=by
    rw[hR,Bool.eq_false_iff]
    intro e
    rw[List.all_eq_true.1 e u hum] at h0;cases h0
   try refine nv ?_
   refine rA [] ?_
   refine⟨?_,rfl⟩
   rw[hR2]
  ·intro hc
   rw[hc] at h0
   try refine nv ?_
   refine⟨k+1,⟨by omega,?_⟩,by omega,?_⟩
   ·rw[htk,List.all_append,hall]
    simp only[List.all_cons,List.all_nil,Bool.and_true,Bool.true_and]
    cases hp:eH u
    ·rw[hp] at h0;cases h0
    ·rfl
   ·exact cO
 intro hge
 have hk':k=ps.length:=by have:¬k<ps.length:=by simpa using hge
                          omega
 rw[hk',List.take_length] at hall
 try refine nv ?_
 refine rA [] ?_
 refine⟨?_,rfl⟩
 rw[hR,hall]
end Go.Proofs.YtcpgicfphakdaaaGreatDoor
namespace Go.Proofs.YtcpgicfphakdaaaGreatDoor
open Go.Ab Tys
theorem kZ {α:Type} {l:List α} {k:Nat} {v z:α} (h:l[k]? =some v):l.getD k z=v:=by rw[List.getD_eq_getElem?_getD,h];rfl
theorem XZ (l:List Rev) (i:Nat):((l.map aI).getD i []).getD 0 (D.v (.string ByteArray.empty))=D.v (.string (l.getD i af).path):=by
 simp only[List.getD_eq_getElem?_getD,List.getElem?_map]
 cases l[i]?<;>rfl
variable [yF]
end Go.Proofs.YtcpgicfphakdaaaGreatDoor
namespace Go.Proofs.YtcpgicfphakdaaaGreatDoor
open Go.Ab Tys
variable [Dr]
theorem adI (l:List Rev) (i:Nat):(List.drop 3 ((l.map aI).getD i [])).getD 0 (D.v (.int .i64 0))=D.v (.int .i64 (l.getD i af).act):=by
 simp only[List.getD_eq_getElem?_getD,List.getElem?_map]
 cases l[i]?<;>rfl
theorem emS:ByteArray.empty=noS:=rfl
theorem i00:Int.toNat 0=0:=rfl
def z76.kk:=p2 (p10 kB kG kM Tryz.ntmps76 iK qW nI kW qU yN) (p9 UQ J4 x8 uz nT VF kC AX Tryz.results76)
open z76 in
theorem PO (d:bJ) (h0:0<d.revs.length) (L:iE) (hL:L.revs=d.revs) (la:List (ByteArray×Int)) (me:List (Int×List Int)) (hla:vS d d.revs.length la) (p:ByteArray):
 AC Tryz.prog 76 [.c (.pp (qK L la me)),Str p] [] (fun r st=>r=B (live d p)∧st=[]):=by
 have hl0:0<L.revs.length:=by rw[hL];exact h0
 rcases hla.last p with⟨a1,a2⟩|⟨j,v,a1,a2,a3⟩
 ·have hR:live d p=false:=by unfold live;rw[a2]
  rw[hR]
  have er:=bg aI L.revs 0 af hl0
  refine dA Tryz.func76 Tryz.ntmps76 fun x hx=>?_
  refine bC ?_
  refine gg ?_
  refine bC ?_
  refine dw (wr:=false) 400 (by simp only[kk,Nat.reduceAdd,Nat.reduceLT,Nat.reduceEqDiff, ↓reduceIte,reduceCtorEq,kY,a1,Option.map_none,Option.isSome,er,i00];first|done|rfl) ?_ ?_
  ·exact iw @pK
  refine bC ?_
  refine gy (p2 @er @i00) ?_ ?_
  ·exact vO
  try refine nv ?_
  refine rA [] ?_
  refine⟨?_,rfl⟩
  rfl
 ·have hR:live d p=!gone v:=by unfold live;rw[a3]
  rw[hR]
  have hj:=(List.getElem?_eq_some_iff.1 a2).1
  have er:=bg aI L.revs j af (by rw[hL];exact hj)
  have ev:L.revs.getD j af=v:=by rw[hL];exact kZ a2
  rw[ev] at er
  have hj2:(j:Int)<(L.revs.length:Int):=by rw[hL];omega
  refine dA Tryz.func76 Tryz.ntmps76 fun x hx=>?_
  refine bC ?_
  refine gg ?_
  refine bC ?_
  refine dw (wr:=false) 400 (by simp only[kk,Nat.reduceAdd,Nat.reduceLT,Nat.reduceEqDiff, ↓reduceIte,reduceCtorEq,kY,a1,Option.map_some,Option.isSome,er];first|done|rfl) ?_ ?_
  ·exact iw @pK
  refine bC ?_
  refine gy @er ?_ ?_
  ·exact vO
  try refine nv ?_
  refine rA [] ?_
  refine⟨?_,rfl⟩
  congr 1
  by_cases c1:v.act=3<;>by_cases c2:v.act=5<;>simp[gone,c1,c2]
def z78.kk:=p2 (p9 kB kM Tryz.ntmps78 iK qW nI gU qU yN) (p9 UQ J4 x8 uz nT VF kC AX Tryz.results78)
open z78 in
theorem PS (d:bJ) (h0:0<d.revs.length) (L:iE) (hL:L.revs=d.revs) (la:List (ByteArray×Int)) (me:List (Int×List Int)) (hla:vS d d.revs.length la) (p:ByteArray):
 AC Tryz.prog 78 [.c (.pp (qK L la me)),Str p] [] (fun r st=>r=I .i64 (dh d p)∧st=[]):=by
 rcases hla.last p with⟨a1,a2⟩|⟨j,v,a1,a2,a3⟩
 ·have hR:dh d p=0:=by unfold dh;rw[a2];rfl
  rw[hR]
  refine dA Tryz.func78 Tryz.ntmps78 fun x hx=>?_
  refine bC ?_
  refine gg ?_
  refine bC ?_
  refine dw (wr:=false) 400 (by simp only[kk,Nat.reduceAdd,Nat.reduceLT,Nat.reduceEqDiff, ↓reduceIte,reduceCtorEq,kY,a1,Option.map_none,Option.isSome];first|done|rfl) ?_ ?_
  ·exact iw @pK
  try refine nv ?_
  refine aj ?_ ?_
  ·intro h;cases h
  intro _
  try refine nv ?_
  refine rA [] ?_
  refine⟨?_,rfl⟩
  rfl
 ·have hR:dh d p=v.num:=by unfold dh;rw[a3];rfl
  rw[hR]
  have hj:=(List.getElem?_eq_some_iff.1 a2).1
  have er:=bg aI L.revs j af (by rw[hL];exact hj)
  have ev:L.revs.getD j af=v:=by rw[hL];exact kZ a2
  rw[ev] at er
  have hj2:(j:Int)<(L.revs.length:Int):=by rw[hL];omega
  refine dA Tryz.func78 Tryz.ntmps78 fun x hx=>?_
  refine bC ?_
  refine gg ?_
  refine bC ?_
  refine dw (wr:=false) 400 (by simp only[kk,Nat.reduceAdd,Nat.reduceLT,Nat.reduceEqDiff, ↓reduceIte,reduceCtorEq,kY,a1,Option.map_some,Option.isSome];first|done|rfl) ?_ ?_
  ·exact iw @pK
  try refine nv ?_
  refine aj ?_ ?_
  rotate_left
  ·intro h;cases h
  intro _
  try refine nx @er ?_
  refine rA [] ?_
  refine⟨?_,rfl⟩
  rfl
def z146.kk:=p8 kB Tryz.ntmps146 Tryz.underlying114 Tryz.underlying4 Lm TB MH Tryz.results146
open z146 in
theorem aaf (l:List Bool) (hl:l.length≤1000000):
 AC Tryz.prog 146 [.c (.d (.ps 1 (l.map eB))),B true] [] (fun x st=>(∃i:Int,x=I .i64 i∧decide (0≤i)=decide (true∈l))∧st=[]):=by
 refine dA Tryz.func146 Tryz.ntmps146 fun x hx=>?_
 try refine nv ?_
 refine ax (ι:=Nat) (I:=fun k=>⟨19,[(0, .c (.d (.ps 1 (l.map eB)))),(1,B true),(7,I .i64 l.length),(8,I .i64 k)],[]⟩)
  (Inv:=fun k=>k≤l.length∧¬true∈l.take k) (μ:=fun k=>l.length-k) 0 ⟨by omega,by simp⟩ ?_ ?_
 ·exact cO
 rintro k ⟨hk,hno⟩
 try refine nv ?_
 refine aj ?_ ?_
 ·intro hlt
  have hlt':k<l.length:=by simpa using hlt
  obtain⟨v,hv,he,htk⟩:=round eB l k false hlt'
  try refine nx @he ?_
  refine aj ?_ ?_
  ·intro h
   have h':v=true:=by cases v;simp at h;rfl
   have hm:true∈l:=by rw[←h'];exact List.mem_of_getElem? hv
   try refine nv ?_
   refine rA [] ?_
   exact⟨⟨k,rfl,by rw[decide_eq_true hm];simp⟩,rfl⟩
  ·intro h
   have h':v=false:=by cases v;rfl;simp at h
   try refine nv ?_
   refine⟨k+1,⟨by omega,by rw[htk,List.mem_append];rintro(h1|h1);exact hno h1;rw[h'] at h1;simp at h1⟩,by omega,?_⟩
   exact cO
 intro hge
 have hk':k=l.length:=by have:¬k<l.length:=by simpa using hge
                         omega
 rw[hk',List.take_length] at hno
 try refine nv ?_
 refine rA [] ?_
 exact⟨⟨-1,rfl,by rw[decide_eq_false hno];decide⟩,rfl⟩
def z77.kk:=p3 kB Tryz.ntmps77 Tryz.results77
open z77 in
theorem Oj (l:List Bool) (hl:l.length≤1000000):
 AC Tryz.prog 77 [.c (.d (.ps 1 (l.map eB))),B true] [] (fun x st=>x=B (decide (true∈l))∧st=[]):=by
 refine dA Tryz.func77 Tryz.ntmps77 fun x hx=>?_
 try refine nv ?_
 refine tX [] (aaf l hl) ?_
 rintro r st' ⟨⟨i,rfl,hi⟩,rfl⟩<;>refine uo ?_
 try refine nv ?_
 refine rA [] ?_
 refine⟨?_,rfl⟩
 rw[←hi]
end Go.Proofs.YtcpgicfphakdaaaGreatDoor
