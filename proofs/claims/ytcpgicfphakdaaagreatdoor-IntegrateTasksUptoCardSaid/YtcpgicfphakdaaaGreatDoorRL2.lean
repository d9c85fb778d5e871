/- A part of the proof. -/
import Derived.Test.YtcpgicfphakdaaaGreatDoorRX10
import Derived.Test.YtcpgicfphakdaaaGreatDoorRR1
import Derived.Test.YtcpgicfphakdaaaGreatDoorRK9
import Derived.Ground.Names8Prog
import Derived.Shelf.Lay
set_option maxRecDepth 100000
set_option maxHeartbeats 8000000
set_option linter.all false
namespace Go.Proofs.YtcpgicfphakdaaaGreatDoor
open Go.Ab Tys
variable [Dr]
def ad1.kk:=p11 kB kG Tryz.ntmps125 Tryz.underlying4 qo df mG jY xy fM Tryz.results125
open ad1 in
theorem AY (r:Gs) (hl:PB 1000000 r.left) (hr:PB 1000000 r.right):AC Tryz.prog 125 [zY r] [] (fun x st=>x=I .i64 (dN r)∧st=[]):=by
 have h3:=zo r.left hl
 have h4:=zo r.right hr
 have hR:dN r=if fG r.left then(if fG r.right then(if aj r.left.parts=aj r.right.parts∧r.left.rest=r.right.rest then 0 else 42) else 41) else 40:=rfl
 have o1:fG r.left=decide (aS r.left=0):=rfl
 have o2:fG r.right=decide (aS r.right=0):=rfl
 obtain⟨ex,lf,rg⟩:=r
 simp only at h3 h4 o1 o2 hR
 generalize dN ⟨ex,lf,rg⟩=R at hR
 rw[o1] at h3 hR
 rw[o2] at h4 hR
 generalize aS lf=el at h3 hR
 generalize aS rg=er at h4 hR
 obtain⟨ps,rp⟩:=lf
 obtain⟨qs,rq⟩:=rg
 simp only at h3 h4 hR
 by_cases e:el=0
 rotate_left
 ·rw[decide_eq_false e,if_neg (by simp)] at hR
  simp only[decide_eq_false e,Bool.false_and,Bool.false_eq_true,if_false] at h3
  refine bV Tryz.func125 Tryz.ntmps125 fun x hx=>?_
  (repeat (first|refine nv ?_|refine cf (h3) ?_))
  refine af ?_ ?_
  rotate_left
  ·intro h;exact absurd (by simpa using h) e
  intro _
  try refine nv ?_
  refine rA [] ?_
  refine⟨?_,rfl⟩
  rw[hR]
 rw[decide_eq_true e,if_pos rfl] at hR
 simp only[e,decide_true,Bool.true_and,if_true] at h3
 by_cases e2:er=0
 rotate_left
 ·rw[decide_eq_false e2,if_neg (by simp)] at hR
  simp only[decide_eq_false e2,Bool.false_and,Bool.false_eq_true,if_false] at h4
  refine bV Tryz.func125 Tryz.ntmps125 fun x hx=>?_
  (repeat (first|refine nv ?_|refine cf (h3) ?_))
  refine af ?_ ?_
  ·intro h;simp at h
  intro _
  (repeat (first|refine nv ?_|refine cf (h4) ?_))
  refine af ?_ ?_
  rotate_left
  ·intro h;exact absurd (by simpa using h) e2
  intro _
  try refine nv ?_
  refine rA [] ?_
  refine⟨?_,rfl⟩
  rw[hR]
 rw[decide_eq_true e2,if_pos rfl] at hR
 simp only[e2,decide_true,Bool.true_and,if_true] at h4
 refine bV Tryz.func125 Tryz.ntmps125 fun x hx=>?_
 (repeat (first|refine nv ?_|refine cf (h3) ?_))
 refine af ?_ ?_
 ·intro h;simp at h
 intro _
 (repeat (first|refine nv ?_|refine cf (h4) ?_))
 refine af ?_ ?_
 ·intro h;simp at h
 intro _
 try refine nv ?_
 have hc:(bif !decide ((aj ps:Int)=aj qs) then true else !(rp==rq))=!decide (aj ps=aj qs∧rp=rq):=by
  rw[show decide ((aj ps:Int)=aj qs)=decide (aj ps=aj qs) from decide_eq_decide.2 (by omega)]
  by_cases a:aj ps=aj qs<;>cases rp<;>cases rq<;>simp[a]
 refine af ?_ ?_
 ·intro h
  rw[hc] at h
  rw[if_neg (by intro e;rw[decide_eq_true e] at h;cases h)] at hR
  try refine nv ?_
  refine rA [] ?_
  refine⟨?_,rfl⟩
  rw[hR]
 ·intro h
  rw[hc] at h
  have h9:decide (aj ps=aj qs∧rp=rq)=true:=by simpa only[Bool.not_eq_false'] using h
  rw[if_pos (of_decide_eq_true h9)] at hR
  try refine nv ?_
  refine rA [] ?_
  refine⟨?_,rfl⟩
  rw[hR]
def z127.kk:=p12 kB Tryz.ntmps127 Tryz.underlying77 mQ df vU kz jX rY fM xI Tryz.results127
open z127 in
theorem TM (g:DC) (hb:PB 1000000 g.base) (hh:g.holes.length≤1000000) (hs:∀h∈g.holes,PB 1000000 h):AC Tryz.prog 127 [xJ g] [] (fun x st=>x=I .i64 (iK g)∧st=[]):=by
 have h1:=lK g.base hb
 have hR:iK g=if fG g.base then(if g.holes.all fG then(if 64<g.holes.length then 52 else 0) else 51) else 50:=rfl
 have o1:fG g.base=decide (aS g.base=0):=rfl
 obtain⟨b,hs'⟩:=g
 simp only at h1 o1 hR hh hs
 generalize iK ⟨b,hs'⟩=R at hR
 generalize aS b=el at h1 o1
 obtain⟨ps,rp⟩:=b
 refine bV Tryz.func127 Tryz.ntmps127 fun x hx=>?_
 (repeat (first|refine nv ?_|refine cf (h1) ?_))
 refine af ?_ ?_
 ·intro h
  have e:¬el=0:=by simpa using h
  rw[o1,decide_eq_false e,if_neg (by simp)] at hR
  try refine nv ?_
  refine rA [] ?_
  refine⟨?_,rfl⟩
  rw[hR]
 intro h
 have e:el=0:=by simpa using h
 rw[o1,decide_eq_true e,if_pos rfl] at hR
 try refine nv ?_
 refine ag (ι:=Nat) (I:=fun k=>⟨24,[(1, .c (.ptr 1 0)),(10,eU hs'),(11,I .i64 hs'.length),(12,I .i64 k)],[(1, .box ((rP ⟨⟨ps,rp⟩,hs'⟩).map C.d))]⟩)
  (Inv:=fun k=>k≤hs'.length∧(hs'.take k).all fG=true) (μ:=fun k=>hs'.length-k) 0 ⟨by omega,rfl⟩ ?_ ?_
 ·exact aW
 rintro k ⟨hk,hall⟩
 try refine nv ?_
 refine af ?_ ?_
 ·intro hlt
  have hlt':k<hs'.length:=by simpa using hlt
  obtain⟨v,hv,he,htk⟩:=round au hs' k bz hlt'
  have hck:=lK v (hs v (List.mem_of_getElem? hv))
  have o3:fG v=decide (aS v=0):=rfl
  generalize aS v=ev at hck o3
  (repeat (first|refine nx @he ?_|refine cf (hck) ?_))
  refine af ?_ ?_
  ·intro hb
   have e:¬ev=0:=by simpa using hb
   have hn:¬hs'.all fG=true:=by
    intro e2
    rw[List.all_eq_true] at e2
    have:=e2 v (List.mem_of_getElem? hv)
    rw[o3,decide_eq_false e] at this;cases this
   rw[if_neg hn] at hR
   try refine nv ?_
   refine rA [] ?_
   refine⟨?_,rfl⟩
   rw[hR]
  ·intro hb
   have e:ev=0:=by simpa using hb
   try refine nv ?_
   refine⟨k+1,⟨by omega,by rw[htk,List.all_append,hall];simp[o3,e]⟩,by omega,?_⟩
   exact aW
 intro hge
 have hk':k=hs'.length:=by have:¬k<hs'.length:=by simpa using hge
                           omega
 rw[hk',List.take_length] at hall
 rw[if_pos hall] at hR
 try refine nv ?_
 have hLI:decide ((64:Int)<(hs'.length:Nat))=decide (64<hs'.length):=decide_eq_decide.2 (by omega)
 refine af ?_ ?_
 ·intro h
  rw[hLI] at h
  rw[if_pos (of_decide_eq_true h)] at hR
  try refine nv ?_
  refine rA [] ?_
  refine⟨?_,rfl⟩
  rw[hR]
 ·intro h
  rw[hLI] at h
  rw[if_neg (of_decide_eq_false h)] at hR
  try refine nv ?_
  refine rA [] ?_
  refine⟨?_,rfl⟩
  rw[hR]
def adS.kk:=LK kB kS Tryz.ntmps126 qo df xH mG jY wz xx xy fM Fg Tryz.results126
open adS in
theorem Pn (e:dU):AC Tryz.prog 126 [TR e] [] (fun r st=>r=zY e.line∧st=[]):=by
 refine bV Tryz.func126 Tryz.ntmps126 fun x hx=>?_
 try refine nv ?_
 refine rA [] ?_
 refine⟨?_,rfl⟩
 rfl
def z63.kk:=XD kB kS Tryz.ntmps63 mQ df xH kz jX wz xg rY fM xI Fg Tryz.results63
open z63 in
theorem II (e:dU):AC Tryz.prog 63 [TR e] [] (fun r st=>r=xJ e.qR∧st=[]):=by
 refine bV Tryz.func63 Tryz.ntmps63 fun x hx=>?_
 try refine nv ?_
 refine rA [] ?_
 refine⟨?_,rfl⟩
 rfl
def z60.kk:=p6 kB kG Tryz.ntmps60 xH Fg Tryz.results60
open z60 in
theorem Ri (e0:dU) (hl:PB 1000000 e0.left) (hr:PB 1000000 e0.right) (hh:e0.holes.length≤1000000) (hs:∀h∈e0.holes,PB 1000000 h):AC Tryz.prog 60 [TR e0] [] (fun r st=>r=B (EW e0)∧st=[]):=by
 have h1:=AY e0.line hl hr
 have h2:=TM e0.qR hl hh hs
 have h3:=Pn e0
 have h4:=II e0
 have hE:EW e0=(decide (dN e0.line=0)&&decide (iK e0.qR=0)):=rfl
 generalize EW e0=E at hE
 generalize dN e0.line=c1 at h1 hE
 generalize iK e0.qR=c2 at h2 hE
 refine bV Tryz.func60 Tryz.ntmps60 fun x hx=>?_
 (repeat (first|refine nv ?_|refine cf (h3) ?_|refine cf (h1) ?_))
 refine so ([(9,xJ e0.qR)]) ?_ ?_
 ·exact gI @h4
 try refine nv ?_
 refine so ([(10,I .i64 c2)]) ?_ ?_
 ·exact gI @h2
 try refine nv ?_
 refine rA [] ?_
 refine⟨?_,rfl⟩
 rw[hE]
 cases decide (c1=0)<;>rfl
end Go.Proofs.YtcpgicfphakdaaaGreatDoor
namespace Go.Proofs
open Go.Shelf
shelf_lay_g Lays8.n4 Nm8 4 at Tryz 182 as Tryz.growP
end Go.Proofs
namespace Go.Proofs.YtcpgicfphakdaaaGreatDoor
open Go.Ab Tys
variable [zG]
theorem Yp (id n:Nat) (hn:n≤1000000):AC Tryz.prog 182 [.c (.d (.v (.slice none 0 0))),I .i64 n] [] (fun r st=>r= .c (.ms id 2 0 0)∧st=[(id, .arr 2 [])]):=by
 obtain⟨i,u,z,h1,h2,h3,h4,h5,h6,h7,h8,h9,h10,h11⟩:=jW (P:=Tryz.prog) (T:=76) fM
 have ht:Tryz.growP_ren.t 25=76:=by kernel_rfl
 have h4':i.size=2:=h4
 have h:=XH (P:=Tryz.prog) (f:=182) ⟨_,Tryz.func182,by kernel_rfl,by kernel_rfl⟩ (by kernel_rfl) Tryz.growP i z (by rw[ht];exact h1) h3 (by omega) (by rw[←Array.length_toList,h6,h7];exact h4.symm) id n (by rw[h5];simp only;omega) (by omega)
 rw[h4'] at h
 exact h
@[reducible] def E8 (l:List aX):List D:=[.ps 2 (l.map au)]
def z131.kk:=p12 kB kS Tryz.ntmps131 Tryz.underlying264 Tryz.underlying77 df YR vU abN fM xI Tryz.results131
open z131 in
theorem SB (ls:List (List aX)) (hl:ls.length≤1000) (hn:∀l∈ls,l.length≤1000):AC Tryz.prog 131 [.c (.ms 22 1 0 ls.length)] [(22,aQ 1 (ls.map E8))] (fun r st=>r=eU ls.flatten∧st=[(22, .dead)]):=by
 have hfl:∀k,(ls.take k).flatten.length≤k*1000:=by
  intro k
  induction k with
  |zero=>simp
  |succ k ih=>
   by_cases h:k<ls.length
   ·rw[List.take_succ_eq_append_getElem h,List.flatten_append,List.length_append]
    have:=hn _ (List.getElem_mem h)
    simp only[List.flatten_cons,List.flatten_nil,List.append_nil]
    omega
   ·rw[List.take_of_length_le (by omega)];rw[List.take_of_length_le (by omega)] at ih;omega
 have hsn:∀k v,ls[k]? =some v→(ls.take (k+1)).flatten=(ls.take k).flatten++v:=by
  intro k v h
  rw[List.take_succ,h];simp
 refine bV Tryz.func131 Tryz.ntmps131 fun x hx=>?_
 refine mg (aI (i:=0) (id:=22) (ys:=ls.map E8) rfl rfl (by rw[List.length_map])) ?_
 refine dM ?_
 try refine nv ?_
 refine ag (ι:=Nat) (I:=fun k=>⟨36,[(0, .c (.d (.ps 1 (ls.map E8)))),(3,I .i64 (ls.take k).flatten.length),(9, .c (.d (.ps 1 (ls.map E8)))),(10,I .i64 ls.length),(11,I .i64 k)],[(22, .dead)]⟩)
  (Inv:=fun k=>k≤ls.length) (μ:=fun k=>ls.length-k) 0 (by omega) ?_ ?_
 ·exact aW
 intro k hk
 have hk0:=hfl k
 try refine nv ?_
 refine af ?_ ?_
 ·intro hlt
  have hlt':k<ls.length:=by simpa using hlt
  obtain⟨v,hv,he,_⟩:=round E8 ls k [] hlt'
  have hvn:=hn v (List.mem_of_getElem? hv)
  have hs1:=hsn k v hv
  have hadd:(((ls.take k).flatten.length:Nat):Int)+((v.length:Nat):Int)=(((ls.take (k+1)).flatten.length:Nat):Int):=by rw[hs1,List.length_append];omega
  try refine nx (p2 @he @hadd) ?_
  refine af ?_ ?_
  ·intro h;simp at h;omega
  intro _
  try refine nv ?_
  refine⟨k+1,by omega,by omega,?_⟩
  exact aW
 intro hge
 have hk':k=ls.length:=by have:¬k<ls.length:=by simpa using hge
                          omega
 rw[hk',List.take_length] at hk0⊢
 try refine nv ?_
 refine qQ [] (Yp 46 ls.flatten.length (by omega)) ?_
 rintro r st' ⟨rfl,rfl⟩<;>refine qU ?_
 try refine nv ?_
 refine ag (ι:=Nat) (I:=fun k=>⟨36,[(6, .c (.ms 46 2 0 (ls.take k).flatten.length)),(25, .c (.d (.ps 1 (ls.map E8)))),(26,I .i64 ls.length),(27,I .i64 k)],[(22, .dead),(46,aQ 2 ((ls.take k).flatten.map au))]⟩)
  (Inv:=fun k=>k≤ls.length) (μ:=fun k=>ls.length-k) 0 (by omega) ?_ ?_
 ·exact aW
 intro k hk
 have hk1:=hfl k
 try refine nv ?_
 refine af ?_ ?_
 ·intro hlt
  have hlt':k<ls.length:=by simpa using hlt
  obtain⟨v,hv,he,_⟩:=round E8 ls k [] hlt'
  have hvn:=hn v (List.mem_of_getElem? hv)
  have hs1:=hsn k v hv
  have o1:∀l∈List.map (fun l=>List.map C.d l) (List.map au v),l.length=2:=by
   intro l hl
   obtain⟨y,hy,rfl⟩:=List.mem_map.1 hl
   obtain⟨z,_,rfl⟩:=List.mem_map.1 hy
   rfl
  generalize hA:(ls.take k).flatten=A at hs1 hk1
  refine aJ ?_
  refine gx @he ?_
  refine aJ ?_
  refine gq ?_ ?_
  ·exact gI @o1
  try refine nv ?_
  refine⟨k+1,by omega,by omega,?_⟩
  rw[hs1]
  exact uY (fun i=>if i=46 then 33 else i)
 intro hge2
 have hk2:k=ls.length:=by have:¬k<ls.length:=by simpa using hge2
                          omega
 rw[hk2,List.take_length]
 generalize ls.flatten=A
 refine aJ ?_
 refine aG (aI (i:=6) (id:=46) (ys:=A.map au) rfl rfl (by rw[List.length_map])) ?_
 refine dM ?_
 try refine nv ?_
 refine rA ([(22, .dead)]) ?_
 refine⟨?_,rfl⟩
 rfl
def z62.kk:=LK kB kG kS Tryz.ntmps62 mQ df YR kz jX rY abN fM xI Tryz.results62
open z62 in
theorem GU (a b:DC) (ha:PB 100000 a.base) (hb:PB 100000 b.base) (hal:a.holes.length≤1000) (hbl:b.holes.length≤1000) (hah:∀h∈a.holes,PB 100000 h∧fG h=true) (hbh:∀h∈b.holes,PB 100000 h∧fG h=true):
 AC Tryz.prog 62 [xJ a,xJ b] [] (fun r st=>r=B (iD a b)∧st=[]):=by
 have hC:iD a b=match gz a.base b.base with|none=>false|some m=>decide (0<yK ⟨m,a.holes++b.holes⟩):=rfl
 have hme:=Pv a.base b.base (ha.mono (by omega)) (hb.mono (by omega))
 have hmp:=fun m=>yh (m:=m) ha hb
 have hmo:=fun m=>H9 (m:=m) (p:=a.base) (q:=b.base)
 generalize iD a b=R at hC
 generalize gz a.base b.base=M at hC hme hmp hmo
 have hcc:AC Tryz.prog 131 [.c (.ms 22 1 0 2)] [(22, .arr 1 [[.d (.ps 2 (a.holes.map au))],[.d (.ps 2 (b.holes.map au))]])] (fun r st=>r=eU (a.holes++b.holes)∧st=[(22, .dead)]):=by
  have hls:∀l∈[a.holes,b.holes],l.length≤1000:=by
   intro l hl
   simp only[List.mem_cons,List.not_mem_nil,or_false] at hl
   rcases hl with rfl|rfl
   ·omega
   ·omega
  have:=SB [a.holes,b.holes] (by simp) hls
  simpa[aQ,E8] using this
 cases M with
 |none=>
  simp only at hC
  refine bV Tryz.func62 Tryz.ntmps62 fun x hx=>?_
  (repeat (first|refine nv ?_|refine cf (hme) ?_))
  refine aJ ?_
  refine Uh (wr:=false) [(23, .c (.d (.v (.int .i64 0)))),(24,B false)] [(22,([],none))] (by kernel_rfl) (by simp only[Qo.eq_1,Qo.eq_2,EI.eq_def,Xv.eq_def,Dy.eq_def,Option.getD,kD,kk,Nat.reduceAdd,Nat.reduceLT,Nat.reduceEqDiff, ↓reduceIte,reduceCtorEq];first|done|rfl) ?_ (by kernel_rfl) ?_
  ·(simp only[All,List.cons_append,List.nil_append,dI,List.mem_cons,List.not_mem_nil,or_false,forall_eq_or_imp,forall_eq,and_true,true_and,implies_true,List.length_map,List.length_cons,List.length_nil];repeat' (first|exact trivial|exact hcc|refine And.intro ?_ ?_|(intro h;cases h;done)|(rintro _ ⟨⟩;done)|assumption|rfl|omega|intro _|(simp[dD,bY,bG,bH,bD,bI,bC,aA,aN,dH,aZ,cu,ae,Ab.get];done)))
  try refine nv ?_
  refine rA [] ?_
  refine⟨?_,rfl⟩
  rw[hC];rfl
 |some m=>
  simp only at hC
  have hv:=abA m (a.holes++b.holes) (hmp m rfl) (by simp;omega) (fun h hh=>by rcases List.mem_append.1 hh with hh|hh;exact(hah h hh).1;exact(hbh h hh).1) (hmo m rfl).1 (fun h hh=>by rcases List.mem_append.1 hh with hh|hh;exact dO (hah h hh).2;exact dO (hbh h hh).2)
  generalize yK ⟨m,a.holes++b.holes⟩=n at hv hC
  refine bV Tryz.func62 Tryz.ntmps62 fun x hx=>?_
  (repeat (first|refine nv ?_|refine cf (hme) ?_))
  refine aJ ?_
  refine Uh (wr:=false) [(23,eU (a.holes++b.holes)),(24,B (decide (n=0)))] [(23,([(22, .arr 1 [[.d (.ps 2 (a.holes.map au))],[.d (.ps 2 (b.holes.map au))]])],some [(22, .dead)]))] (by kernel_rfl) (by simp only[Qo.eq_1,Qo.eq_2,EI.eq_def,Xv.eq_def,Dy.eq_def,Option.getD,kD,kk,Nat.reduceAdd,Nat.reduceLT,Nat.reduceEqDiff, ↓reduceIte,reduceCtorEq];first|done|rfl) ?_ (by kernel_rfl) ?_
  ·(simp only[All,List.cons_append,List.nil_append,dI,List.mem_cons,List.not_mem_nil,or_false,forall_eq_or_imp,forall_eq,and_true,true_and,implies_true,List.length_map,List.length_cons,List.length_nil];repeat' (first|exact trivial|exact hcc|exact hv|refine And.intro ?_ ?_|(intro h;cases h;done)|(rintro _ ⟨⟩;done)|assumption|rfl|omega|intro _|(simp[dD,bY,bG,bH,bD,bI,bC,aA,aN,dH,aZ,cu,ae,Ab.get];done)))
  try refine nv ?_
  refine rA [] ?_
  refine⟨?_,rfl⟩
  rw[hC]
  cases n<;>rfl
end Go.Proofs.YtcpgicfphakdaaaGreatDoor
namespace Go.Ab
variable [Dr] {P:Program} {x:X}
theorem OE {Q:Exit→S→Prop} {s:S} {ops l:List Oper} {d:Tmp} {T e:TypeId} {t:TI} {y z:Operand} {ty:TypeId} {pos:String} {after:Array Edge} {k k':IntKind} {m:Int} (hel:Jb P T=some e) (ht:ti P e=some t) (hd:d<s.n)
 (hy:ev s y=some (.c (.d (.v (.int k 0))))) (hz:ev s z=some (.c (.d (.v (.int k' m))))) (hid:get s.st d=none) (h0:0≤m) (hb:(t.bytes:Int)*m≤140737488355328) (h63:m≤9223372036854775807)
 (hk:TO P x ops l ⟨s.n,put s.env d (.c (.ms d t.size 0 0)),put s.st d (.arr t.size [])⟩ Q):TO P x ops (⟨some d, .makeSlice T y z,ty,pos,after,none⟩::l) s Q:=by
 rintro a w ⟨bl,cap,hs,henv,hdf,hsz⟩
 have h1:a.eval y= .int k 0:=nK (fV henv hy)
 have h2:a.eval z= .int k' m:=nK (fV henv hz)
 have hu:=vF hel
 obtain⟨i,u,zz,hi,hu',hz',g1,g2,g3,g4,g5,g6,g7⟩:=jW ht
 have hpos:0<t.size:=by omega
 have hrun:=run_make (P:=P) w T e i zz hu hi hz' k k' 0 m (Int.le_refl _) h0 (by rw[g2];omega) h63
 have hrun2:(execOp a.eval ⟨some d, .makeSlice T y z,ty,pos,after,none⟩).run P w= .ok (.value (.slice (some ⟨w.heap.size,0,none⟩) 0 m.toNat)) (w.alloc (.cells (madeCells zz.cells (m.toNat*i.size)) e)):=by
  simp only[execOp,h1,h2]
  exact oV hrun
 obtain⟨bl',cap',a1,a2,a3⟩:=vC (x:=x) (id:=d) (n:=m.toNat) (T:=e) (xs:=[]) (cells:=madeCells zz.cells (m.toNat*i.size)) (w':=w.alloc (.cells (madeCells zz.cells (m.toNat*i.size)) e))
  hs hid (jG w _) (Array.getElem?_push_size) (by show _<(w.heap.push _).size;rw[Array.size_push];omega) hpos (by simp) (by simp) (by rw[size_madeCells,g1]) (by simp;exact .nil)
 refine wpList_plain rfl fun K hK=>?_
 unfold Oper.wp
 rw[hrun2]
 exact hK _ _ (hk _ _ ⟨bl',cap',a1,(henv.le a2).put (by rw[hsz];exact hd) a3,by rw[Act.put_defers];exact hdf.le a2,by rw[Act.iL];exact hsz⟩)
end Go.Ab
namespace Go.Proofs.YtcpgicfphakdaaaGreatDoor
open Go.Ab Tys
variable [zG]
theorem Sl {p:aX} {l:List ByteArray} (hok:fG p=true):(bif decide ((l.length:Int)<p.parts.length) then true else !(decide ((p.parts.length:Int)<l.length)==p.rest))=!pX p l:=by
 unfold pX
 rw[hok,show decide ((l.length:Int)<p.parts.length)=decide (l.length<p.parts.length) from decide_eq_decide.2 (by omega),show decide ((p.parts.length:Int)<l.length)=decide (p.parts.length<l.length) from decide_eq_decide.2 (by omega)]
 by_cases h1:l.length<p.parts.length
 ·simp[h1]
 ·by_cases h2:p.parts.length<l.length
  ·have h3:¬l.length=p.parts.length:=by omega
   cases p.rest<;>simp[h1,h2,h3]
  ·have h3:l.length=p.parts.length:=by omega
   cases p.rest<;>simp[h3]
theorem WE {s:ByteArray} {l:List ByteArray} (h:aV s=some l):l.all comp=true:=by
 unfold aV at h
 split at h
 ·rename_i l' hp
  split at h
  ·cases h
  ·cases h
   unfold jK at hp
   split at hp
   ·split at hp
    ·rename_i h2;cases hp;exact h2
    ·cases hp
   ·cases hp
 ·cases h
def z73.kk:=XD kB kG kS Tryz.ntmps73 Tryz.underlying4 Tryz.underlying74 df eH dW gV yR jO fM jy Tryz.results73
open z73 in
theorem JQ (p:aX) (hp:PB 1000000 p) (s:ByteArray) (hs:s.size≤1000000):AC Tryz.prog 73 [aPat p,Str s] [] (fun r st=>r= .tup [gZ (dC p s),pB (dC p s).isSome]∧st=[]):=by
 have hv:=RU s hs
 have hck:=lK p hp
 have hmp:dC p s=match aV s with|none=>none|some l=>if pX p l&&qy p.parts l p.parts.length then some (fU p.parts l p.parts.length++(if p.rest then [fE (l.drop p.parts.length) slash] else [])) else none:=rfl
 have hfo:∀l,fG p=false→pX p l=false:=fun l h=>by simp[pX,h]
 have hfc:=fun l=>Sl (p:=p) (l:=l)
 have hpo:=dO (p:=p)
 have hpl:=U3 (p:=p)
 have hle:∀l,pX p l=true→p.parts.length≤l.length:=fun l h=>by
  simp only[pX,Bool.and_eq_true,Bool.not_eq_true',Bool.or_eq_false_iff,decide_eq_false_iff_not] at h
  omega
 have hok:fG p=decide (aS p=0):=rfl
 generalize dC p s=M at hmp
 generalize aS p=ck at hck hok
 obtain⟨ps,rs⟩:=p
 have h1:=hp.1
 simp only at h1 hmp hfc hpl hle
 cases hl:aV s with
 |none=>
  rw[hl] at hv hmp
  simp only[gZ,pB,Option.isSome] at hv
  simp only at hmp
  subst hmp
  refine bV Tryz.func73 Tryz.ntmps73 fun x hx=>?_
  (repeat (first|refine nv ?_|refine cf (hv) ?_))
  refine so ([(23,I .i64 ck)]) ?_ ?_
  ·exact gI @hck
  try refine nv ?_
  refine af ?_ ?_
  rotate_left
  ·intro h;simp at h
  intro _
  try refine nv ?_
  refine rA [] ?_
  refine⟨?_,rfl⟩
  rfl
 |some l=>
  rw[hl] at hv hmp
  simp only[gZ,pB,Option.isSome] at hv
  simp only at hmp
  have hls:=Uw hl
  have hcm:=WE hl
  have hpl2:=QX hl
  have hfo:=hfo l
  have hfc:=hfc l
  have hle:=hle l
  generalize pX ⟨ps,rs⟩ l=ft at hmp hfo hfc hle
  refine bV Tryz.func73 Tryz.ntmps73 fun x hx=>?_
  (repeat (first|refine nv ?_|refine cf (hv) ?_))
  refine so ([(23,I .i64 ck)]) ?_ ?_
  ·exact gI @hck
  try refine nv ?_
  refine af ?_ ?_
  ·intro h
   have h':¬ck=0:=by simpa using h
   rw[hfo (by rw[hok];simp[h']),Bool.false_and] at hmp
   try refine nv ?_
   refine rA [] ?_
   refine⟨?_,rfl⟩
   rw[hmp];rfl
  intro h
  have h':ck=0:=by simpa using h
  have hok1:fG ⟨ps,rs⟩=true:=by rw[hok,h'];rfl
  have hfc:=hfc hok1
  have hpo:=hpo hok1
  have hpl:=hpl hok1
  simp only[dL] at hpo
  try refine nv ?_
  refine af ?_ ?_
  ·intro hc
   rw[hfc] at hc
   have hf:ft=false:=by simpa using hc
   rw[hf,Bool.false_and] at hmp
   try refine nv ?_
   refine rA [] ?_
   refine⟨?_,rfl⟩
   rw[hmp];rfl
  intro hc
  rw[hfc] at hc
  have hf:ft=true:=by simpa using hc
  rw[hf,Bool.true_and] at hmp
  have hlen:=hle hf
  refine aJ ?_
  refine gg ?_
  refine aJ ?_
  refine aG (eG (i:=9) (id:=100) (sz:=1) rfl rfl (by omega)) ?_
  refine dM ?_
  try refine nv ?_
  refine ag (ι:=Nat) (I:=fun k=>⟨78,[(2, .c (.ptr 2 0)),(6,dJ l),(8,I .i64 ps.length),(9, .c (.ms 100 1 0 (fU ps l k).length)),(43,dJ ps),(44,I .i64 ps.length),(45,I .i64 k)],
   [(2, .box ((au ⟨ps,rs⟩).map C.d)),(100,aQ 1 ((fU ps l k).map encS))]⟩)
   (Inv:=fun k=>k≤ps.length∧qy ps l k=true) (μ:=fun k=>ps.length-k) 0 ⟨by omega,rfl⟩ ?_ ?_
  ·(refine fZ (fun i=>i) rfl ?_ ⟨?_,?_,?_,gu hx (by simp[ae,Ab.get])⟩<;>first|(simp only[kE,aQ, ↓reduceIte,Nat.reduceEqDiff,reduceCtorEq,fU];done)|simp[di,bf,aA,Ab.get,aZ,dH,aN,bY,bG,bH,bD,bI,bC,ae,List.flatten,fU])
  rintro k ⟨hk,hall⟩
  have hcl:=zU ps l k
  try refine nv ?_
  refine af ?_ ?_
  ·intro hlt
   have hlt':k<ps.length:=by simpa using hlt
   obtain⟨v,hv,he,_⟩:=round encS ps k noS hlt'
   obtain⟨u,hu,he2,_⟩:=round encS l k noS (by omega)
   have ev:=getD_some (z:=noS) hv
   have eu:=getD_some (z:=noS) hu
   have hvs:v.size≤1000000:=hp.2 v (List.mem_of_getElem? hv)
   have hus:u.size≤1000000:=by rw[←eu];exact Nat.le_trans (hls k) hs
   have huc:comp u=true:=List.all_eq_true.1 hcm u (List.mem_of_getElem? hu)
   have hvp:dE v=true:=by rw[←ev];exact hpo k hlt'
   have hma:=Dl v u hvs hus hvp
   have hmc:=QD (a:=v) huc
   have his:=nR v
   rw[qj hvp] at his
   generalize mpP v u=mm at hma hmc
   obtain⟨m1,m2⟩:=mm
   simp only at hma hmc
   (repeat (first|refine nx (p2 @he @he2) ?_|refine cf (hma) ?_))
   refine af ?_ ?_
   ·intro hb
    have hb':(lY v u).2=false:=by rw[←hmc.1];simpa using hb
    rw[JY hlt' (by rw[ev,eu];exact hb')] at hmp
    try refine nv ?_
    refine rA [] ?_
    refine⟨?_,rfl⟩
    rw[hmp];rfl
   intro hb
   have hb':(lY v u).2=true:=by rw[←hmc.1];simpa using hb
   have hm1:=hmc.2 hb'
   subst hm1
   (repeat (first|refine nv ?_|refine cf (his) ?_))
   refine af ?_ ?_
   ·intro hst
    try refine nv ?_
    refine⟨k+1,⟨by omega,by rw[uf,hall,ev,eu,hb'];rfl⟩,by omega,?_⟩
    have e:fU ps l (k+1)=fU ps l k++[(lY v u).1]:=by simp only[fU,ev,eu,hst,if_true]
    rw[e]
    exact uY (fun i=>if i=100 then 66 else i)
   ·intro hst
    try refine nv ?_
    refine⟨k+1,⟨by omega,by rw[uf,hall,ev,eu,hb'];rfl⟩,by omega,?_⟩
    have e:fU ps l (k+1)=fU ps l k:=by simp only[fU,ev,hst,if_false,Bool.false_eq_true,List.append_nil]
    rw[e]
    exact aW
  intro hge
  have hk':k=ps.length:=by have:¬k<ps.length:=by simpa using hge
                           omega
  subst hk'
  rw[if_pos hall] at hmp
  try refine nv ?_
  refine af ?_ ?_
  ·intro hr
   subst hr
   have hdl:(l.drop ps.length).length≤1000000:=by
    rw[List.length_drop]
    omega
   have hds:∀v∈l.drop ps.length,v.size≤1000000:=by
    intro v hv
    obtain⟨i,hi⟩:=List.getElem?_of_mem (List.mem_of_mem_drop hv)
    have:=hls i
    rw[getD_some hi] at this;omega
   have hj:AC Tryz.prog 145 [.c (.d (.ps 1 ((l.map encS).drop ps.length))),Str slash] [] (fun r st=>r=Str (fE (l.drop ps.length) slash)∧st=[]):=by
    rw[←List.map_drop]
    exact uV (l.drop ps.length) slash hdl (ry _ hdl hds)
   refine aJ ?_
   refine gg ?_
   refine qQ [] (hj) ?_
   rintro r st' ⟨rfl,rfl⟩<;>refine qU ?_
   refine gg ?_
   refine aJ ?_
   refine aG (aI (i:=9) (id:=76) (ys:=(fU ps l ps.length++[fE (l.drop ps.length) slash]).map encS) rfl (by simp[Ab.get]) (by simp)) ?_
   refine dM ?_
   try refine nv ?_
   refine rA [] ?_
   refine⟨?_,rfl⟩
   rw[hmp];simp[gZ,pB]
  ·intro hr
   subst hr
   refine aJ ?_
   refine aG (aI (i:=9) (id:=100) (ys:=(fU ps l ps.length).map encS) rfl rfl (by simp)) ?_
   refine dM ?_
   try refine nv ?_
   refine rA [] ?_
   refine⟨?_,rfl⟩
   rw[hmp];simp[gZ,pB]
end Go.Proofs.YtcpgicfphakdaaaGreatDoor
namespace Go.Proofs.YtcpgicfphakdaaaGreatDoor
open Go.Ab
theorem yN (L:List ByteArray):(fE L slash).data.toList=Lib.join (L.map (·.data.toList)) [47]:=by simp[fE,slash]
theorem Ce (X:List (List UInt8)):∀(A:List (List UInt8)),X≠[]→Lib.join (A++X) [47]=Lib.join (A++[Lib.join X [47]]) [47]
 |[],h=>by rw[List.nil_append,List.nil_append,Lib.join_one]
 |a::A,h=>by
  have ih:=Ce X A h
  obtain⟨b,B,e⟩:=List.exists_cons_of_ne_nil (show A++X≠[] by simp[h])
  obtain⟨c,C,e2⟩:=List.exists_cons_of_ne_nil (show A++[Lib.join X [47]]≠[] by simp)
  have step:∀(m:List UInt8) (r:List (List UInt8)),Lib.join (a::m::r) [47]=a++47::Lib.join (m::r) [47]:=by
   intro m r
   rw[Lib.join_cons,Lib.join_cons]
   simp[Lib.joinTail]
  rw[List.cons_append,List.cons_append]
  rw[e,e2] at ih⊢
  rw[step,step,ih]
theorem PE (A:List ByteArray) (s:ByteArray):fE (A++split s) slash=fE (A++[s]) slash:=by
 have h:∀L M:List ByteArray,Lib.join (L.map (·.data.toList)) [47]=Lib.join (M.map (·.data.toList)) [47]→fE L slash=fE M slash:=by
  intro L M e
  rw[←yN,←yN] at e
  have:=congrArg EF e
  rwa [Z4,Z4] at this
 apply h
 rw[List.map_append,List.map_append,zC]
 have e:((cO s.data.toList).map EF).map (·.data.toList)=cO s.data.toList:=by
  rw[List.map_map]
  conv=>rhs;rw[←List.map_id (cO s.data.toList)]
  exact List.map_congr_left fun _ _=>rfl
 obtain⟨a,t,e2⟩:=jR s.data.toList
 rw[e,Ce _ _ (by rw[e2];simp),yJ]
 rfl
theorem Tc {L:List ByteArray} (h0:L≠[]) (hc:L.all comp=true):split (fE L slash)=L:=by
 rw[zC,yN,Fa _ (by intro h;rw[List.map_eq_nil_iff] at h;exact h0 h) ?_,UM]
 intro l hl x hx
 obtain⟨s,hs,rfl⟩:=List.mem_map.1 hl
 exact abB (rM (List.all_eq_true.1 hc s hs)) x hx
theorem VD {ps:List ByteArray} {k:Nat} (h:k<ps.length):aj (ps.take (k+1))=aj (ps.take k)+(if aP (ps.getD k noS) then 1 else 0):=by
 rw[List.take_add_one,List.getElem?_eq_getElem h,aj,aj,List.filter_append,List.length_append,List.getD_eq_getElem?_getD,List.getElem?_eq_getElem h]
 simp only[Option.toList_some,Option.getD_some,List.filter_cons,List.filter_nil]
 split<;>rfl
theorem AU (ps ls:List ByteArray):∀k,k≤ps.length→(fU ps ls k).length=aj (ps.take k)
 |0,_=>rfl
 |k+1,h=>by
  simp only[fU,List.length_append,AU ps ls k (by omega),VD (show k<ps.length by omega)]
  split<;>rfl
theorem KI (ps ls:List ByteArray):∀k i,k≤ps.length→i<k→aP (ps.getD i noS)=true→(fU ps ls k)[aj (ps.take i)]? =some (lY (ps.getD i noS) (ls.getD i noS)).1
 |k+1,i,hk,hi,hs=>by
  have hl:=AU ps ls k (by omega)
  simp only[fU]
  by_cases e:i=k
  ·subst e
   rw[if_pos hs,List.getElem?_append_right (by omega),hl,Nat.sub_self];rfl
  ·have hlt:aj (ps.take i)<aj (ps.take k):=by
    have:=zu (ps.take k) i (by rw[List.length_take];omega) (by rw[List.getD_eq_getElem?_getD,List.getElem?_take,if_pos (by omega),←List.getD_eq_getElem?_getD];exact hs)
    rwa [List.take_take,Nat.min_eq_left (by omega)] at this
   rw[List.getElem?_append_left (by omega),KI ps ls k i (by omega) (by omega) hs]
theorem Xm {r:Gs} (hr:okR r=true) {s:ByteArray} {l:List ByteArray} (hm:dC r.left s=some l):(lQ r.right l).2=0:=by
 simp only[okR,decide_eq_true_eq] at hr
 unfold dN at hr
 have h1:fG r.left=true:=by
  cases h:fG r.left with
  |true=>rfl
  |false=>rw[h] at hr;simp at hr
 rw[if_pos h1] at hr
 have h2:fG r.right=true:=by
  cases h:fG r.right with
  |true=>rfl
  |false=>rw[h] at hr;simp at hr
 rw[if_pos h2] at hr
 have h3:aj r.left.parts=aj r.right.parts∧r.left.rest=r.right.rest:=Classical.byContradiction fun h=>by rw[if_neg h] at hr;cases hr
 obtain⟨h3,h4⟩:=h3
 unfold dC at hm
 cases hp:aV s with
 |none=>rw[hp] at hm;cases hm
 |some ls=>
  rw[hp] at hm
  simp only at hm
  have hf:(pX r.left ls&&qy r.left.parts ls r.left.parts.length)=true:=Classical.byContradiction fun h=>by rw[if_neg h] at hm;cases hm
  rw[if_pos hf] at hm
  rw[Bool.and_eq_true] at hf
  obtain⟨hf,hcap⟩:=hf
  cases hm
  have hlc:ls.all comp=true:=by
   unfold aV jK at hp
   repeat' split at hp
   all_goals first
    |cases hp;done
    |(rename_i hx;repeat' split at hx)
    |skip
   all_goals simp_all
  have hlen:=AU r.left.parts ls r.left.parts.length (Nat.le_refl _)
  rw[List.take_length] at hlen
  have hw:(fU r.left.parts ls r.left.parts.length++if r.left.rest=true then [fE (ls.drop r.left.parts.length) slash] else []).length=jS r.right:=by
   rw[List.length_append,hlen,jS,←h3,←h4];split<;>rfl
  have hfo:rO r.right.parts (fU r.left.parts ls r.left.parts.length++if r.left.rest=true then [fE (ls.drop r.left.parts.length) slash] else []) r.right.parts.length=true:=by
   simp only[rO,List.all_eq_true,List.mem_range,Bool.or_eq_true,Bool.not_eq_true']
   intro i hi
   cases hs:aP (r.right.parts.getD i noS) with
   |false=>exact .inl rfl
   |true=>
    refine .inr ?_
    have hlt:=zu _ i hi hs
    rw[←h3] at hlt
    obtain⟨j,j1,j2,j3⟩:=FW _ _ hlt
    have hg:=KI r.left.parts ls _ j (Nat.le_refl _) j1 j2
    rw[j3] at hg
    rw[List.getD_eq_getElem?_getD,List.getElem?_append_left (by omega),hg,Option.getD_some]
    simp only[qy,List.all_eq_true,List.mem_range] at hcap
    have:=hcap j j1
    unfold lY at this⊢
    rw[if_pos j2] at this⊢
    split at this
    ·rename_i hh;rw[if_pos hh];exact this
    ·cases this
  unfold lQ
  rw[if_pos h2,if_pos hw,if_pos hfo]
  split
  ·rename_i hre
   have hre':r.left.rest=true:=by rw[h4];exact hre
   rw[if_pos hre']
   have e:(fU r.left.parts ls r.left.parts.length++[fE (ls.drop r.left.parts.length) slash]).getD (aj r.right.parts) noS=fE (ls.drop r.left.parts.length) slash:=by
    rw[List.getD_eq_getElem?_getD,List.getElem?_append_right (by omega),hlen,h3,Nat.sub_self];rfl
   rw[e]
   have hd:ls.drop r.left.parts.length≠[]:=by
    intro h
    have hl:=List.drop_eq_nil_iff.1 h
    unfold pX at hf
    rw[hre'] at hf
    simp only[Bool.not_true,Bool.false_and,Bool.or_false,Bool.true_and,Bool.and_eq_true,Bool.not_eq_true',Bool.or_eq_false_iff,decide_eq_false_iff_not] at hf
    omega
   have hda:(ls.drop r.left.parts.length).all comp=true:=List.all_eq_true.2 fun x hx=>List.all_eq_true.1 hlc x (List.mem_of_mem_drop hx)
   rw[Tc hd hda,if_pos hda]
  ·rfl
theorem Wi {r:Gs} (hr:okR r=true) (s:ByteArray):(O7 r s).2=(dC r.left s).isSome:=by
 unfold O7
 rw[if_pos hr]
 cases hm:dC r.left s with
 |none=>rfl
 |some l=>simp only[Xm hr hm];rfl
def Eo (x:dU) (s:ByteArray):Bool:=(O7 x.line s).2&&!x.holes.any fun h=>(dC h s).isSome
theorem aaT {m:List dU} (hm:∀e∈m,dN e.line=0) (s:ByteArray):nP m s=match m.find? (fun x=>Eo x s) with|none=>(noS,false)|some x=>((O7 x.line s).1,true):=by
 have e:m.find? (fun x=>D5 x.qR s)=m.find? (fun x=>Eo x s):=by
  induction m with
  |nil=>rfl
  |cons a m ih=>
   have h1:D5 a.qR s=Eo a s:=by
    unfold D5 Eo
    rw[Wi (by rw[okR,hm a (by simp)];rfl)]
    rfl
   simp only[List.find?_cons,h1,ih fun e he=>hm e (List.mem_cons_of_mem _ he)]
 unfold nP
 rw[e]
 cases h:m.find? (fun x=>Eo x s) with
 |none=>rfl
 |some x=>
  have:=List.find?_some h
  simp only[Eo,Bool.and_eq_true] at this
  simp only
  rw[←this.1]
theorem Zf {p:aX} {cs:List ByteArray}:lQ p cs=
 if fG p then(if cs.length=jS p then(if rO p.parts cs p.parts.length then
  (if p.rest then(if(split (cs.getD (aj p.parts) noS)).all comp then(iJ++fE (fQ p.parts cs p.parts.length++[cs.getD (aj p.parts) noS]) slash,0) else(noS,32))
    else(iJ++fE (fQ p.parts cs p.parts.length) slash,0)) else(noS,32)) else(noS,32)) else(noS,aS p):=by
 rw[←PE];rfl
end Go.Proofs.YtcpgicfphakdaaaGreatDoor
namespace Go.Proofs.YtcpgicfphakdaaaGreatDoor
open Go.Ab Tys
variable [Dr]
@[reducible] def mB:ByteArray:={data:= #[47,47,109,47,102]}
@[reducible] def dB:ByteArray:={data:= #[47,47,100,47,102]}
@[reducible] def XC:Rev:=⟨mB,1,1,1,1,false,false,false,0,0,ByteArray.empty,0⟩
@[reducible] def XF:Rev:=⟨dB,1,2,1,1,false,false,false,0,0,ByteArray.empty,0⟩
@[reducible] def Jr:Rev:=⟨mB,2,3,2,1,false,false,false,0,0,ByteArray.empty,0⟩
@[reducible] def awr:jk:=⟨mB,1,1,dB,1,1⟩
@[reducible] def d0:bK:=⟨[XC,XF,Jr],[awr]⟩
theorem lZ {i:Nat} {v:Rev} (h:d0.revs[i]? =some v):(i=0∧v=XC)∨(i=1∧v=XF)∨(i=2∧v=Jr):=by
 rcases i with _|_|_|i
 ·simp at h;exact .inl ⟨rfl,h.symm⟩
 ·simp at h;exact .inr (.inl ⟨rfl,h.symm⟩)
 ·simp at h;exact .inr (.inr ⟨rfl,h.symm⟩)
 ·simp at h
theorem aat:Good d0.revs:=by
 constructor
 ·intro i v h;rcases lZ h with⟨rfl,rfl⟩|⟨rfl,rfl⟩|⟨rfl,rfl⟩<;>simp
 ·intro i v h;rcases lZ h with⟨rfl,rfl⟩|⟨rfl,rfl⟩|⟨rfl,rfl⟩<;>simp
 ·intro i j u v hij hu hv
  rcases lZ hu with⟨rfl,rfl⟩|⟨rfl,rfl⟩|⟨rfl,rfl⟩<;>rcases lZ hv with⟨rfl,rfl⟩|⟨rfl,rfl⟩|⟨rfl,rfl⟩<;>first|omega|simp
 ·intro i j u v hij hu hv hp
  rcases lZ hu with⟨rfl,rfl⟩|⟨rfl,rfl⟩|⟨rfl,rfl⟩<;>rcases lZ hv with⟨rfl,rfl⟩|⟨rfl,rfl⟩|⟨rfl,rfl⟩<;>first|omega|(exact absurd hp (by decide))|simp
 ·intro i v h h1 h4
  rcases lZ h with⟨rfl,rfl⟩|⟨rfl,rfl⟩|⟨rfl,rfl⟩
  ·exact absurd rfl h1
  ·exact absurd rfl h1
  ·exact⟨0,XC,by omega,rfl,rfl,rfl,by decide,by decide,by decide⟩
 ·intro i v h h4
  rcases lZ h with⟨rfl,rfl⟩|⟨rfl,rfl⟩|⟨rfl,rfl⟩<;>exact absurd h4 (by decide)
 ·intro i v h h4
  rcases lZ h with⟨rfl,rfl⟩|⟨rfl,rfl⟩|⟨rfl,rfl⟩<;>exact absurd h4 (by decide)
 ·intro i j u v hij hu hv u4
  rcases lZ hu with⟨rfl,rfl⟩|⟨rfl,rfl⟩|⟨rfl,rfl⟩<;>exact absurd u4 (by decide)
@[reducible] def sv1:SV:=⟨true,[⟨mB,1⟩],[⟨mB,1⟩],[⟨mB,1⟩]⟩
@[reducible] def sv2:SV:=⟨false,[⟨mB,1⟩],[⟨mB,1⟩],[⟨mB,1⟩]⟩
@[reducible] def sv3:SV:=⟨true,[⟨mB,1⟩,⟨mB,2⟩],[⟨mB,2⟩],[⟨mB,1⟩,⟨mB,2⟩]⟩
theorem ok1:IC [(⟨mB,1⟩,sv1)] (dw d0 1):=by
 have h0:IC [] (dw d0 0):=by constructor<;>simp[dw,SS0,aB]
 have hi:jE d0 (fileOf XC)=[]:=by decide
 refine h0.step (v:=XC) rfl (by decide) sv1 ?_ ?_ ?_<;>intro g<;>(try rw[hi])<;>simp[BL,dw,SS0,fileOf]
theorem ok2:IC [(⟨mB,1⟩,sv1),(⟨dB,1⟩,sv2)] (dw d0 2):=by
 have hi:jE d0 (fileOf XF)=[awr]:=by decide
 have hb:bW XF=Em:=by decide
 have hz:aB [((⟨mB,1⟩:bP),sv1)] Em=none:=by decide
 have:=ok1.step (v:=XF) rfl (by decide) sv2 (by
  intro g;rw[hi,hb,BL];simp only[ok1.car,ok1.con,hz];simp[aB]) (by
  intro g;simp only[hb,ok1.car,hz];simp) (by
  intro g;rw[hi,hb];simp only[ok1.car,ok1.con,ok1.cre,hz];simp)
 exact this
theorem ok3:IC [(⟨mB,1⟩,sv1),(⟨dB,1⟩,sv2),(⟨mB,2⟩,sv3)] (SA d0):=by
 have hi:jE d0 (fileOf Jr)=[]:=by decide
 have hb:bW Jr=⟨mB,1⟩:=by decide
 have:=ok2.step (v:=Jr) rfl (by decide) sv3 (by
  intro g;rw[hi,hb,BL];simp only[ok2.car,ok2.con];simp[aB,fileOf]) (by
  intro g;simp only[hb,ok2.car];simp[aB];constructor
  ·intro h;rw[h];exact⟨.inr rfl,by decide⟩
  ·rintro⟨h|h,h2⟩
   ·exact absurd h h2
   ·exact h) (by
  intro g;rw[hi,hb];simp only[ok2.car,ok2.con,ok2.cre];simp[aB])
 exact this
theorem VW:l7 d0 ⟨mB,2⟩ ⟨dB,1⟩=some [⟨mB,2⟩]:=by
 have m1:iE d0 mB 2=some Jr:=by decide
 have m2:iE d0 dB 1=some XF:=by decide
 have f1:first d0 XC=first d0 Jr:=by decide
 have f2:¬first d0 XF=first d0 Jr:=by decide
 have o1:¬Open d0 ⟨dB,1⟩ XC:=by
  simp only[Open,ok3.con,ok3.cre,fileOf]
  intro h
  exact h fun g hg=>hg
 have o3:Open d0 ⟨dB,1⟩ Jr:=by
  simp only[Open,ok3.con,ok3.cre,fileOf]
  intro h
  have:=h ⟨mB,2⟩ (by decide)
  exact absurd this (by decide)
 have p1:¬(¬XC.act=5∧first d0 XC=first d0 Jr∧XC.chg≤Jr.chg∧Open d0 ⟨dB,1⟩ XC):=fun h=>o1 h.2.2.2
 have p2:¬(¬XF.act=5∧first d0 XF=first d0 Jr∧XF.chg≤Jr.chg∧Open d0 ⟨dB,1⟩ XF):=fun h=>f2 h.2.1
 have p3:¬Jr.act=5∧first d0 Jr=first d0 Jr∧Jr.chg≤Jr.chg∧Open d0 ⟨dB,1⟩ Jr:=⟨by decide,rfl,by decide,o3⟩
 have e:Jl d0 Jr ⟨dB,1⟩=[⟨mB,2⟩]:=by
  rw[Jl,show d0.revs=[XC,XF,Jr] from rfl,List.filter_cons,List.filter_cons,List.filter_cons,List.filter_nil,if_neg (by simpa using p1),if_neg (by simpa using p2),if_pos (by simpa using p3)];rfl
 simp only[l7,m1,m2,e]
def z9.kk:=p3 (LK kB kG kS Tryz.ntmps9 Tryz.underlying43 kZ lL Qz iI yU mf Dq QK sU) (LK Dh nZ oI Ur jD jf BD jA Gp xh BZ BX zx Du) (p12 FO uO Ib uK rJ sK abH YD ny Il jy Tryz.results9)
open z9 in
theorem Ze:AC Tryz.prog 9 [] [] (fun r st=>r=B true∧st=[]):=by
 have hR:=ND d0 aat (by decide) (by decide) ⟨mB,2⟩ ⟨dB,1⟩
 rw[←Ea VW] at hR
 refine bV Tryz.func9 Tryz.ntmps9 fun x hx=>?_
 refine aJ ?_
 refine gg ?_
 refine aJ ?_
 refine gg ?_
 refine aJ ?_
 refine dR (wr:=false) 6 (by simp only[kk,Nat.reduceAdd,Nat.reduceLT,Nat.reduceEqDiff, ↓reduceIte,reduceCtorEq];first|done|rfl) ?_ ?_
 ·exact rC
 refine aG (aI (i:=12) (id:=12) (ys:=d0.revs.map ax) rfl rfl rfl) ?_
 refine dM ?_
 refine dR (wr:=false) 1 (by simp only[kk,Nat.reduceAdd,Nat.reduceLT,Nat.reduceEqDiff, ↓reduceIte,reduceCtorEq];first|done|rfl) ?_ ?_
 ·exact rC
 refine aG (aI (i:=14) (id:=14) (ys:=d0.recs.map bg) rfl rfl rfl) ?_
 refine dM ?_
 (repeat (first|refine nv ?_|refine cf (hR) ?_))
 refine wX (wr:=false) (by simp only[kk,Nat.reduceAdd,Nat.reduceLT,Nat.reduceEqDiff, ↓reduceIte,reduceCtorEq,Int.toNat_zero,fJ,cond_true,show((1:Nat):Int)=1 from rfl];first|done|rfl) ?_
 try refine nv ?_
 refine rA [] ?_
 refine⟨?_,rfl⟩
 rfl
end Go.Proofs.YtcpgicfphakdaaaGreatDoor
