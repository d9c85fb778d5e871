/- A part of the proof. -/
import Derived.Test.YtcpgicfphakdaaaGreatDoorRX12
import Derived.Test.YtcpgicfphakdaaaGreatDoorRX8
import Derived.Test.YtcpgicfphakdaaaGreatDoorRK2
import Derived.Test.YtcpgicfphakdaaaGreatDoorRT3
set_option maxRecDepth 100000
set_option maxHeartbeats 16000000
set_option linter.all false
namespace Go.Proofs.YtcpgicfphakdaaaGreatDoor
open Go.Ab Tys
variable [zG]
theorem Uw {s:ByteArray} {l:List ByteArray} (h:aV s=some l):∀k,(l.getD k noS).size≤s.size:=by
 intro k
 unfold aV at h
 split at h
 ·rename_i l' hpp
  split at h
  ·cases h
  ·cases h
   unfold jK at hpp
   split at hpp
   ·split at hpp
    ·cases hpp
     rw[List.getD_eq_getElem?_getD]
     cases e:(split (s.extract 2 s.size))[k]? with
     |none=>exact Nat.zero_le _
     |some v=>
      have h1:=lG _ _ v (List.mem_of_getElem? e)
      rw[ByteArray.size_extract] at h1
      simp only[Option.getD_some];omega
    ·cases hpp
   ·cases hpp
 ·cases h
theorem WI (a c:ByteArray):(lY a c).1.size≤c.size:=by
 unfold lY
 split
 ·split
  ·simp only[ByteArray.size_extract];omega
  ·exact Nat.zero_le _
 ·exact Nat.zero_le _
theorem Gt {ps ls:List ByteArray} {n:Nat} (h:∀k,(ls.getD k noS).size≤n):∀k,∀s∈fU ps ls k,s.size≤n
 |0,s,hs=>by simp[fU] at hs
 |k+1,s,hs=>by
  simp only[fU,List.mem_append] at hs
  rcases hs with hs|hs
  ·exact Gt h k s hs
  ·split at hs
   ·simp only[List.mem_singleton] at hs
    subst hs
    exact Nat.le_trans (WI _ _) (h k)
   ·cases hs
theorem Su {s:ByteArray} {l:List ByteArray} (h:aV s=some l):l=split (s.extract 2 s.size)∧2≤s.size:=by
 unfold aV at h
 split at h
 ·rename_i l' hpp
  split at h
  ·cases h
  ·cases h
   unfold jK at hpp
   split at hpp
   ·rename_i hd
    split at hpp
    ·cases hpp
     exact⟨rfl,of_decide_eq_true (Bool.and_eq_true_iff.1 hd).1⟩
    ·cases hpp
   ·cases hpp
 ·cases h
theorem IB:∀t:List UInt8,((cO t).map fun x=>x.length+1).sum=t.length+1
 |[]=>rfl
 |a::l=>by
  have ih:=IB l
  simp only[cO]
  split
  ·simp only[List.map_cons,List.sum_cons,List.length_nil,List.length_cons,ih];omega
  ·obtain⟨h,t,e⟩:=jR l
   rw[e] at ih⊢
   simp only[List.map_cons,List.sum_cons,List.length_cons] at ih⊢
   omega
theorem XX (L:List Nat) (n:Nat):(L.drop n).sum≤L.sum:=by
 have:=congrArg List.sum (List.take_append_drop n L)
 rw[List.sum_append] at this
 omega
theorem Po:∀L:List (List UInt8),(Lib.join L [47]).length≤(L.map fun x=>x.length+1).sum
 |[]=>by simp[Lib.join_nil]
 |[a]=>by simp[Lib.join_one]
 |a::b::L=>by
  have ih:=Po (b::L)
  have e:Lib.join (a::b::L) [47]=a++47::Lib.join (b::L) [47]:=by
   rw[Lib.join_cons,Lib.join_cons]
   simp[Lib.joinTail]
  rw[e,List.map_cons,List.sum_cons,List.length_append,List.length_cons]
  omega
theorem Xk {s:ByteArray} {l:List ByteArray} (h:aV s=some l) (n:Nat):(fE (l.drop n) slash).size≤s.size:=by
 obtain⟨rfl,h2⟩:=Su h
 have e:(fE ((split (s.extract 2 s.size)).drop n) slash).size=(Lib.join (((split (s.extract 2 s.size)).drop n).map (·.data.toList)) [47]).length:=rfl
 have hL:((split (s.extract 2 s.size)).drop n).map (fun b:ByteArray=>b.data.toList)=(cO (s.extract 2 s.size).data.toList).drop n:=by
  rw[zC,←List.map_drop,List.map_map]
  conv=>rhs;rw[←List.map_id ((cO (s.extract 2 s.size).data.toList).drop n)]
  exact List.map_congr_left fun _ _=>rfl
 rw[e,hL]
 have h3:=Po ((cO (s.extract 2 s.size).data.toList).drop n)
 have h4:=XX ((cO (s.extract 2 s.size).data.toList).map fun x=>x.length+1) n
 rw[IB,←List.map_drop] at h4
 have h5:(s.extract 2 s.size).data.toList.length=s.size-2:=by
  have:(s.extract 2 s.size).size=s.size-2:=by rw[ByteArray.size_extract];omega
  rw[←this];rfl
 omega
theorem Iy (p:aX) (s:ByteArray):∀l,dC p s=some l→p.parts.length≤100000→s.size≤300000→l.length≤400000∧∀c∈l,c.size≤400000:=by
 intro l h hp hs
 unfold dC at h
 cases hm:aV s with
 |none=>rw[hm] at h;cases h
 |some m=>
  rw[hm] at h
  simp only at h
  split at h
  ·cases h
   have h1:=zU p.parts m p.parts.length
   constructor
   ·rw[List.length_append];split<;>simp<;>omega
   ·intro c hc
    rcases List.mem_append.1 hc with hc|hc
    ·exact Nat.le_trans (Gt (Uw hm) _ c hc) (by omega)
    ·split at hc
     ·simp only[List.mem_singleton] at hc
      subst hc
      exact Nat.le_trans (Xk hm _) (by omega)
     ·cases hc
  ·cases h
def z79.kk:=p11 kB kG Tryz.ntmps79 Tryz.underlying4 qo df mG jY xy fM Tryz.results79
open z79 in
theorem DJ (r:Gs) (hl:PB 1000000 r.left) (hr:PB 1000000 r.right):AC Tryz.prog 79 [zY r] [] (fun x st=>x=I .i64 (dN r)∧st=[]):=by
 have h1:=iQ r.left hl
 have h2:=iQ r.right hr
 have h3:=G5 r.left hl
 have h4:=G5 r.right hr
 have hR:dN r=if fG r.left then(if fG r.right then(if aj r.left.parts=aj r.right.parts∧r.left.rest=r.right.rest then 0 else 42) else 41) else 40:=rfl
 have o1:fG r.left=decide (aS r.left=0):=rfl
 have o2:fG r.right=decide (aS r.right=0):=rfl
 obtain⟨ex,lf,rg⟩:=r
 simp only at h1 h2 h3 h4 o1 o2 hR
 generalize dN ⟨ex,lf,rg⟩=R at hR
 generalize aS lf=el at h1 o1
 generalize aS rg=er at h2 o2
 obtain⟨ps,rp⟩:=lf
 obtain⟨qs,rq⟩:=rg
 simp only at h3 h4 hR
 refine bV Tryz.func79 Tryz.ntmps79 fun x hx=>?_
 (repeat (first|refine nv ?_|refine cf (h1) ?_))
 refine af ?_ ?_
 ·intro h
  have e:¬el=0:=by simpa using h
  rw[o1,decide_eq_false e,if_neg (by simp)] at hR
  try refine nv ?_
  refine rA [] ?_
  refine⟨?_,rfl⟩
  rw[hR]
 intro h
 have e:el=0:=by simpa using h
 rw[o1,decide_eq_true e,if_pos rfl] at hR
 (repeat (first|refine nv ?_|refine cf (h2) ?_))
 refine af ?_ ?_
 ·intro h
  have e:¬er=0:=by simpa using h
  rw[o2,decide_eq_false e,if_neg (by simp)] at hR
  try refine nv ?_
  refine rA [] ?_
  refine⟨?_,rfl⟩
  rw[hR]
 intro h
 have e:er=0:=by simpa using h
 rw[o2,decide_eq_true e,if_pos rfl] at hR
 (repeat (first|refine nv ?_|refine cf (h3) ?_|refine cf (h4) ?_))
 have hc:(bif !decide ((aj ps:Int)=aj qs) then true else !(rp==rq))=!decide (aj ps=aj qs∧rp=rq):=by
  rw[show decide ((aj ps:Int)=aj qs)=decide (aj ps=aj qs) from decide_eq_decide.2 (by omega)]
  by_cases a:aj ps=aj qs<;>cases rp<;>cases rq<;>simp[a]
 refine af ?_ ?_
 ·intro h
  rw[hc] at h
  rw[if_neg (by intro e;rw[decide_eq_true e] at h;cases h)] at hR
  try refine nv ?_
  refine rA [] ?_
  refine⟨?_,rfl⟩
  rw[hR]
 ·intro h
  rw[hc] at h
  have h9:decide (aj ps=aj qs∧rp=rq)=true:=by simpa only[Bool.not_eq_false'] using h
  rw[if_pos (of_decide_eq_true h9)] at hR
  try refine nv ?_
  refine rA [] ?_
  refine⟨?_,rfl⟩
  rw[hR]
def z81.kk:=p12 kB Tryz.ntmps81 Tryz.underlying77 mQ df vU kz jX rY fM xI Tryz.results81
open z81 in
theorem Vx (g:DC) (hb:PB 1000000 g.base) (hh:g.holes.length≤1000000) (hs:∀h∈g.holes,PB 1000000 h):AC Tryz.prog 81 [xJ g] [] (fun x st=>x=I .i64 (iK g)∧st=[]):=by
 have h1:=iQ g.base hb
 have hR:iK g=if fG g.base then(if g.holes.all fG then(if 64<g.holes.length then 52 else 0) else 51) else 50:=rfl
 have o1:fG g.base=decide (aS g.base=0):=rfl
 obtain⟨b,hs'⟩:=g
 simp only at h1 o1 hR hh hs
 generalize iK ⟨b,hs'⟩=R at hR
 generalize aS b=el at h1 o1
 obtain⟨ps,rp⟩:=b
 refine bV Tryz.func81 Tryz.ntmps81 fun x hx=>?_
 (repeat (first|refine nv ?_|refine cf (h1) ?_))
 refine af ?_ ?_
 ·intro h
  have e:¬el=0:=by simpa using h
  rw[o1,decide_eq_false e,if_neg (by simp)] at hR
  try refine nv ?_
  refine rA [] ?_
  refine⟨?_,rfl⟩
  rw[hR]
 intro h
 have e:el=0:=by simpa using h
 rw[o1,decide_eq_true e,if_pos rfl] at hR
 try refine nv ?_
 refine ag (ι:=Nat) (I:=fun k=>⟨24,[(1, .c (.ptr 1 0)),(10,eU hs'),(11,I .i64 hs'.length),(12,I .i64 k)],[(1, .box ((rP ⟨⟨ps,rp⟩,hs'⟩).map C.d))]⟩)
  (Inv:=fun k=>k≤hs'.length∧(hs'.take k).all fG=true) (μ:=fun k=>hs'.length-k) 0 ⟨by omega,rfl⟩ ?_ ?_
 ·exact aW
 rintro k ⟨hk,hall⟩
 try refine nv ?_
 refine af ?_ ?_
 ·intro hlt
  have hlt':k<hs'.length:=by simpa using hlt
  obtain⟨v,hv,he,htk⟩:=round au hs' k bz hlt'
  have hck:=iQ v (hs v (List.mem_of_getElem? hv))
  have o3:fG v=decide (aS v=0):=rfl
  generalize aS v=ev at hck o3
  (repeat (first|refine nx @he ?_|refine cf (hck) ?_))
  refine af ?_ ?_
  ·intro hb
   have e:¬ev=0:=by simpa using hb
   have hn:¬hs'.all fG=true:=by
    intro e2
    rw[List.all_eq_true] at e2
    have:=e2 v (List.mem_of_getElem? hv)
    rw[o3,decide_eq_false e] at this;cases this
   rw[if_neg hn] at hR
   try refine nv ?_
   refine rA [] ?_
   refine⟨?_,rfl⟩
   rw[hR]
  ·intro hb
   have e:ev=0:=by simpa using hb
   try refine nv ?_
   refine⟨k+1,⟨by omega,by rw[htk,List.all_append,hall];simp[o3,e]⟩,by omega,?_⟩
   exact aW
 intro hge
 have hk':k=hs'.length:=by have:¬k<hs'.length:=by simpa using hge
                           omega
 rw[hk',List.take_length] at hall
 rw[if_pos hall] at hR
 try refine nv ?_
 have hLI:decide ((64:Int)<(hs'.length:Nat))=decide (64<hs'.length):=decide_eq_decide.2 (by omega)
 refine af ?_ ?_
 ·intro h
  rw[hLI] at h
  rw[if_pos (of_decide_eq_true h)] at hR
  try refine nv ?_
  refine rA [] ?_
  refine⟨?_,rfl⟩
  rw[hR]
 ·intro h
  rw[hLI] at h
  rw[if_neg (of_decide_eq_false h)] at hR
  try refine nv ?_
  refine rA [] ?_
  refine⟨?_,rfl⟩
  rw[hR]
theorem Nj (M:Option (List ByteArray)):∃c:D,gZ M=(false,[.d c]):=by cases M<;>exact⟨_,rfl⟩
def z89.kk:=p12 kB Tryz.ntmps89 Tryz.underlying77 mQ df vU kz jX rY fM xI Tryz.results89
open z89 in
theorem acz (g:DC) (hb:PB 1000000 g.base) (hh:g.holes.length≤1000000) (hs:∀h∈g.holes,PB 1000000 h) (s:ByteArray) (hsz:s.size≤1000000):AC Tryz.prog 89 [xJ g,Str s] [] (fun x st=>x=B (D5 g s)∧st=[]):=by
 have h1:=Iz g.base hb s hsz
 have hR:D5 g s=((dC g.base s).isSome&&!g.holes.any fun h=>(dC h s).isSome):=rfl
 obtain⟨b,hs'⟩:=g
 simp only at h1 hR hh hs
 generalize D5 ⟨b,hs'⟩ s=R at hR
 generalize dC b s=M at h1 hR
 generalize M.isSome=mb at h1 hR
 obtain⟨pm,hpm⟩:=Nj M
 rw[hpm] at h1
 clear hpm
 obtain⟨ps,rp⟩:=b
 refine bV Tryz.func89 Tryz.ntmps89 fun x hx=>?_
 (repeat (first|refine nv ?_|refine cf (h1) ?_))
 refine af ?_ ?_
 ·intro h
  have e:mb=false:=by simpa using h
  rw[e,Bool.false_and] at hR
  try refine nv ?_
  refine rA [] ?_
  refine⟨?_,rfl⟩
  rw[hR]
 intro h
 have e:mb=true:=by simpa using h
 rw[e,Bool.true_and] at hR
 try refine nv ?_
 refine ag (ι:=Nat) (I:=fun k=>⟨35,[(1,Str s),(21,eU hs'),(22,I .i64 hs'.length),(23,I .i64 k)],[]⟩)
  (Inv:=fun k=>k≤hs'.length∧((hs'.take k).any fun h=>(dC h s).isSome)=false) (μ:=fun k=>hs'.length-k) 0 ⟨by omega,rfl⟩ ?_ ?_
 ·exact aW
 rintro k ⟨hk,hall⟩
 try refine nv ?_
 refine af ?_ ?_
 ·intro hlt
  have hlt':k<hs'.length:=by simpa using hlt
  obtain⟨v,hv,he,htk⟩:=round au hs' k bz hlt'
  have hm:=Iz v (hs v (List.mem_of_getElem? hv)) s hsz
  generalize hvb:(dC v s).isSome=vb at hm
  obtain⟨pv,hpv⟩:=Nj (dC v s)
  rw[hpv] at hm
  (repeat (first|refine nx @he ?_|refine cf (hm) ?_))
  refine af ?_ ?_
  ·intro hb
   have hn:(hs'.any fun h=>(dC h s).isSome)=true:=List.any_eq_true.2 ⟨v,List.mem_of_getElem? hv,by rw[hvb];exact hb⟩
   rw[hn] at hR
   try refine nv ?_
   refine rA [] ?_
   refine⟨?_,rfl⟩
   rw[hR];rfl
  ·intro hb
   try refine nv ?_
   refine⟨k+1,⟨by omega,by rw[htk,List.any_append,hall];simp[hvb,hb]⟩,by omega,?_⟩
   exact aW
 intro hge
 have hk':k=hs'.length:=by have:¬k<hs'.length:=by simpa using hge
                           omega
 rw[hk',List.take_length] at hall
 rw[hall] at hR
 try refine nv ?_
 refine rA [] ?_
 refine⟨?_,rfl⟩
 rw[hR];rfl
def z90.kk:=p9 kB Tryz.ntmps90 qo df mG jY xy fM Tryz.results90
open z90 in
theorem acw (r:Gs) (hl:PB 100000 r.left) (hr:PB 100000 r.right) (s:ByteArray) (hs:s.size≤300000):AC Tryz.prog 90 [zY r,Str s] [] (fun x st=>x= .tup [pS (O7 r s).1,pB (O7 r s).2]∧st=[]):=by
 have h1:=DJ r (hl.mono (by omega)) (hr.mono (by omega))
 have h2:=Iz r.left (hl.mono (by omega)) s (by omega)
 have h3:=aaD r.right hr
 have hcb:=Iy r.left s
 have hR:O7 r s=if okR r then(match dC r.left s with|none=>(noS,false)|some l=>((lQ r.right l).1,decide ((lQ r.right l).2=0))) else(noS,false):=rfl
 have o1:okR r=decide (dN r=0):=rfl
 generalize O7 r s=R at hR
 generalize dN r=er at h1 o1
 obtain⟨ex,lf,rg⟩:=r
 simp only at h1 h2 h3 hcb hR
 obtain⟨ps,rp⟩:=lf
 obtain⟨qs,rq⟩:=rg
 simp only at h2 h3 hcb hR
 refine bV Tryz.func90 Tryz.ntmps90 fun x hx=>?_
 (repeat (first|refine nv ?_|refine cf (h1) ?_))
 refine af ?_ ?_
 ·intro h
  have e:¬er=0:=by simpa using h
  rw[o1,decide_eq_false e,if_neg (by simp)] at hR
  try refine nv ?_
  refine rA [] ?_
  refine⟨?_,rfl⟩
  rw[hR]
 intro h
 have e:er=0:=by simpa using h
 rw[o1,decide_eq_true e,if_pos rfl] at hR
 cases hm:dC ⟨ps,rp⟩ s with
 |none=>
  rw[hm] at hR h2
  simp only[gZ,pB,Option.isSome] at h2
  simp only at hR
  (repeat (first|refine nv ?_|refine cf (h2) ?_))
  refine af ?_ ?_
  ·intro _
   try refine nv ?_
   refine rA [] ?_
   refine⟨?_,rfl⟩
   rw[hR]
  ·intro h;cases h
 |some l=>
  rw[hm] at hR h2
  simp only[gZ,pB,Option.isSome] at h2
  simp only at hR
  obtain⟨c1,c2⟩:=hcb l hm hl.1 hs
  have h4:=h3 l c1 c2
  generalize lQ ⟨qs,rq⟩ l=F at h4 hR
  (repeat (first|refine nv ?_|refine cf (h2) ?_))
  refine af ?_ ?_
  ·intro h;cases h
  intro _
  (repeat (first|refine nv ?_|refine cf (h4) ?_))
  refine rA [] ?_
  refine⟨?_,rfl⟩
  rw[hR]
end Go.Proofs.YtcpgicfphakdaaaGreatDoor
namespace Go.Proofs.YtcpgicfphakdaaaGreatDoor
open Go.Ab Tys
variable [Dr]
theorem abe {p q:aX}:xC p q↔((q.rest=true∨(p.rest=false∧p.parts.length=q.parts.length))∧q.parts.length≤p.parts.length∧(q.rest=true→p.parts.length=q.parts.length→p.rest=true))∧∀i,i<q.parts.length→aF (p.parts.getD i noS) (q.parts.getD i noS)=true:=by
 constructor
 ·rintro⟨h1,h2,h3,h4⟩
  refine⟨⟨?_,h1,h3⟩,h4⟩
  cases hr:q.rest with
  |true=>exact .inl rfl
  |false=>exact .inr (h2 hr)
 ·rintro⟨⟨h1,h2,h3⟩,h4⟩
  refine⟨h2,fun hr=>?_,h3,h4⟩
  rcases h1 with h1|h1
  ·rw[hr] at h1;cases h1
  ·exact h1
def adV.kk:=p13 kB kG Tryz.ntmps269 Tryz.underlying74 df eH dW gV yR jO fM jy Tryz.results269
open adV in
theorem Td (p q:aX) (hp:PB 1000000 p) (hq:PB 1000000 q) (ho:dL p) (hoq:dL q) (W:Bool) (hW:W=true↔xC p q):AC Tryz.prog 269 [aPat p,aPat q] [] (fun r st=>r=B W∧st=[]):=by
 have hpg:=hp.get
 have hqg:=hq.get
 have hp1:=hp.1
 have hq1:=hq.1
 have hWd:=abe (p:=p) (q:=q)
 obtain⟨ps,rp⟩:=p
 obtain⟨qs,rq⟩:=q
 simp only[dL] at ho hoq
 simp only at hp1 hq1 hpg hqg hWd
 have g1:decide ((ps.length:Int)<qs.length)=decide (ps.length<qs.length):=decide_eq_decide.2 (by omega)
 have g2:decide ((ps.length:Int)=qs.length)=decide (ps.length=qs.length):=decide_eq_decide.2 (by omega)
 refine bV Tryz.func269 Tryz.ntmps269 fun x hx=>?_
 try refine nv ?_
 refine dr ([]) ?_ ?_
 ·exact rC
 try refine nv ?_
 have hno:¬xC ⟨ps,rp⟩ ⟨qs,rq⟩→W=false:=fun h=>by
  cases W with
  |false=>rfl
  |true=>exact absurd (hW.1 rfl) h
 refine mJ (ι:=Bool) (fun b=>⟨64,[(2, .c (.ptr 2 0)),(3, .c (.ptr 3 0)),(15,B b)],[(2, .box ((au ⟨ps,rp⟩).map C.d)),(3, .box ((au ⟨qs,rq⟩).map C.d))]⟩)
  (fun b=>(b=true→¬xC ⟨ps,rp⟩ ⟨qs,rq⟩)∧(b=false→(rq=true∨(rp=false∧ps.length=qs.length))∧qs.length≤ps.length∧(rq=true→ps.length=qs.length→rp=true))) ?_ ?_
 ·refine af ?_ ?_
  ·intro h
   try refine nv ?_
   refine⟨rfl,true,⟨fun _=>?_,fun h'=>by cases h'⟩,?_⟩
   rotate_left
   ·rw[h]
    exact aW
   rw[g2] at h
   rw[hWd]
   rintro⟨⟨h1,h2,h3⟩,_⟩
   rcases h1 with h1|⟨h1,h4⟩
   ·rw[h1] at h;cases h
   ·cases rq<;>simp[h1,h4] at h
  intro h
  try refine nv ?_
  refine af ?_ ?_
  ·intro h1
   try refine nv ?_
   refine⟨rfl,true,⟨fun _=>?_,fun h'=>by cases h'⟩,?_⟩
   rotate_left
   ·rw[h1]
    exact aW
   rw[g1] at h1
   rw[hWd]
   rintro⟨⟨_,h2,h3⟩,_⟩
   have:¬ps.length<qs.length:=by omega
   rw[decide_eq_false this] at h1
   cases rq<;>simp at h1
  intro h1
  try refine nv ?_
  refine⟨rfl,(bif bif rq then !rp else false then decide ((ps.length:Int)=qs.length) else false),⟨fun h2=>?_,fun h2=>?_⟩,?_⟩
  rotate_left
  rotate_left
  ·exact aW
  ·rw[g2] at h2
   rw[hWd]
   rintro⟨⟨_,h4,h3⟩,_⟩
   cases rq with
   |false=>simp at h2
   |true=>
    by_cases e:ps.length=qs.length
    ·have:=h3 rfl e
     subst this
     simp at h2
    ·rw[decide_eq_false e] at h2
     cases rp<;>simp at h2
  ·rw[g2] at h h2
   rw[g1] at h1
   cases rq with
   |false=>
    cases rp with
    |true=>simp at h
    |false=>
     have e:ps.length=qs.length:=by simpa using h
     exact⟨.inr ⟨rfl,e⟩,by omega,fun h=>by cases h⟩
   |true=>
    have e:¬ps.length<qs.length:=by
     intro e;rw[decide_eq_true e] at h1;simp at h1
    refine⟨.inl rfl,by omega,fun _ e2=>?_⟩
    rw[decide_eq_true e2] at h2
    cases rp with
    |true=>rfl
    |false=>simp at h2
 rintro b ⟨hb1,hb2⟩
 try refine nv ?_
 refine af ?_ ?_
 ·intro h
  try refine nv ?_
  refine rA [] ?_
  refine⟨?_,rfl⟩
  rw[hno (hb1 h)]
 intro h
 have hC:=hb2 h
 try refine nv ?_
 refine ag (ι:=Nat) (I:=fun k=>⟨64,[(2, .c (.ptr 2 0)),(48,dJ qs),(49,I .i64 qs.length),(50,I .i64 k)],[(2, .box ((au ⟨ps,rp⟩).map C.d))]⟩)
  (Inv:=fun k=>k≤qs.length∧∀i,i<k→aF (ps.getD i noS) (qs.getD i noS)=true) (μ:=fun k=>qs.length-k) 0 ⟨by omega,by omega⟩ ?_ ?_
 ·exact aW
 rintro k ⟨hk,hall⟩
 try refine nv ?_
 refine af ?_ ?_
 ·intro hlt
  have hlt':k<qs.length:=by simpa using hlt
  obtain⟨v,hv,he,_⟩:=round encS qs k noS hlt'
  have hlt2:k<ps.length:=by omega
  obtain⟨u,hu,he2,_⟩:=round encS ps k noS hlt2
  have eu:=fH (z:=noS) hu
  have ev:=fH (z:=noS) hv
  have hpw:=pR u v (by rw[←eu];exact hpg k) (by rw[←ev];exact hqg k) (by rw[←eu];exact ho k hlt2) (by rw[←ev];exact hoq k hlt')
  (repeat (first|refine nx (p2 @he @he2) ?_|refine cf (hpw) ?_))
  refine af ?_ ?_
  ·intro hb
   have hn:¬xC ⟨ps,rp⟩ ⟨qs,rq⟩:=by
    rintro⟨_,_,_,h5⟩
    have:=h5 k hlt'
    simp only[eu,ev] at this
    rw[this] at hb;cases hb
   try refine nv ?_
   refine rA [] ?_
   refine⟨?_,rfl⟩
   rw[hno hn]
  ·intro hb
   try refine nv ?_
   refine⟨k+1,⟨by omega,?_⟩,by omega,?_⟩
   ·intro i hi
    rcases Nat.lt_succ_iff_lt_or_eq.1 hi with hi|rfl
    ·exact hall i hi
    ·rw[eu,ev];simpa using hb
   ·exact aW
 intro hge
 have hk':k=qs.length:=by have:¬k<qs.length:=by simpa using hge
                          omega
 subst hk'
 try refine nv ?_
 refine rA [] ?_
 refine⟨?_,rfl⟩
 rw[hW.2 (hWd.2 ⟨hC,hall⟩)]
theorem Qh (p q:aX) (hp:PB 1000000 p) (hq:PB 1000000 q) (ho:fG p=true) (hoq:fG q=true):AC Tryz.prog 269 [aPat p,aPat q] [] (fun r st=>r=B (dG p q)∧st=[]):=by
 exact Td p q hp hq (dO ho) (dO hoq) (dG p q) (within_iff ho hoq)
def aeG.kk:=p6 kB kG Tryz.ntmps253 df fM Tryz.results253
open aeG in
theorem TF (p q:aX) (hp:PB 1000000 p) (hq:PB 1000000 q):AC Tryz.prog 253 [aPat p,aPat q] [] (fun r st=>r=B (dG p q)∧st=[]):=by
 have hcp:=lK p hp
 have hcq:=lK q hq
 have hin:(bif decide (aS p=0) then decide (aS q=0) else false)=true→AC Tryz.prog 269 [aPat p,aPat q] [] (fun r st=>r=B (dG p q)∧st=[]):=fun h=>by
  rw[cond_eq_ite] at h
  split at h
  ·rename_i h1;exact Qh p q hp hq h1 h
  ·cases h
 have hW:dG p q=(decide (aS p=0)&&decide (aS q=0)&&dG p q):=by
  rw[show decide (aS p=0)=fG p from rfl,show decide (aS q=0)=fG q from rfl]
  simp only[dG]
  cases fG p<;>cases fG q<;>simp
 generalize dG p q=W at hin hW
 generalize aS p=c1 at hcp hin hW
 generalize aS q=c2 at hcq hin hW
 refine bV Tryz.func253 Tryz.ntmps253 fun x hx=>?_
 (repeat (first|refine nv ?_|refine cf (hcp) ?_))
 refine so ([(10,I .i64 c2)]) ?_ ?_
 ·exact gI @hcq
 try refine nv ?_
 refine so ([(16,B W)]) ?_ ?_
 ·exact gI @hin
 try refine nv ?_
 refine rA [] ?_
 refine⟨?_,rfl⟩
 rw[hW]
 cases decide (c1=0)<;>cases decide (c2=0)<;>simp
def ae2.kk:=p8 kB kS Tryz.ntmps179 Tryz.underlying74 eH jO jy Tryz.results179
open ae2 in
theorem Eb (l:List ByteArray) (h0:l≠[]) (hl:l.length≤1000000):AC Tryz.prog 179 [dJ l] [] (fun r st=>r= .c (.ms 7 1 0 l.length)∧st=[(7,aQ 1 (l.map encS))]):=by
 have o1:∀y∈List.map (fun l=>List.map C.d l) (List.map encS l),y.length=1:=by
  intro l hl
  obtain⟨y,hy,rfl⟩:=List.mem_map.1 hl
  obtain⟨z,_,rfl⟩:=List.mem_map.1 hy
  rfl
 refine bV Tryz.func179 Tryz.ntmps179 fun x hx=>?_
 try refine nv ?_
 refine YZ (sz:=1) (xs:=l.map encS) (by simp) Tryz.underlying74 (by simp only[kV, ↓reduceIte,Nat.reduceEqDiff,reduceCtorEq];first|done|rfl) (by simpa using h0) ?_
 refine dM ?_
 try refine nv ?_
 refine af ?_ ?_
 ·intro h;cases h
 intro _
 refine aJ ?_
 refine gq ?_ ?_
 ·exact gI @o1
 try refine nv ?_
 refine rA ([(7,aQ 1 (l.map encS))]) ?_
 exact⟨rfl,rfl⟩
@[reducible] def Uf (l:List bP):Bool×List C:=(false,[.d (.ps 2 (l.map fJ))])
noncomputable def RZ (d:bK) (s t:bP):AV:= .tup [Uf ((l7 d s t).getD []),pI (if(l7 d s t).isSome then 0 else 150)]
theorem zW {d:bK} {s t:bP} (h:l7 d s t=none): .tup [Uf [],pI 150]=RZ d s t:=by simp[RZ,h]
theorem Ea {d:bK} {s t:bP} {l:List bP} (h:l7 d s t=some l): .tup [Uf l,pI 0]=RZ d s t:=by simp[RZ,h]
theorem OW {d:bK} (hg:Good d.revs) {L:jv} {me:List (Int×List Int)} (hI:mX d d.revs.length L me) {s:bP} (hs:rG L s=none):iE d s.path s.num=none:=by
 cases h:iE d s.path s.num with
 |none=>rfl
 |some w=>
  obtain⟨j,h1,h2,h3⟩:=(nS hg).1 h
  have:=(IE hI).2 ⟨j,w,rfl,(List.getElem?_eq_some_iff.1 h1).1,h1,h2,h3⟩
  rw[hs] at this;cases this
def Bq (L:jv) (j:Int) (U:List Int):List bP:=(U.filter (iU L j)).map fun x=>fileOf (L.revs.getD x.toNat ai)
theorem XZ (L:jv) (j:Int) (U:List Int):(Bq L j U).length≤U.length:=by simp only[Bq,List.length_map];exact List.length_filter_le ..
theorem PR:∀(l:List Int) (s:Int),(upto l s).length≤l.length
 |[],s=>by simp[upto]
 |a::l,s=>by
  have:=PR l s
  simp only[upto];split<;>simp;omega
theorem Ha:∀{l:List Int} {s x:Int},x∈upto l s→x∈l
 |[],s,x,h=>by simp[upto] at h
 |a::l,s,x,h=>by
  simp only[upto] at h
  split at h
  ·simp at h;simp[h]
  ·rcases List.mem_cons.1 h with rfl|h
   ·simp
   ·exact List.mem_cons_of_mem _ (Ha h)
def z14.kk:=p2 (p13 kB kS Tryz.ntmps14 Tryz.underlying43 Tryz.underlying55 kZ lL iI sV MV mf QK Aj) (p12 tC UN uO uK rJ sK yR abH ny Ji CJ Tryz.results14)
open z14 in
theorem ND (d:bK) (hg:Good d.revs) (hn:d.revs.length≤512) (hm:d.recs.length≤512) (s t:bP):
 AC Tryz.prog 14 [sH d,uI s,uI t] [] (fun r st=>r=RZ d s t∧st=[]):=by
 refine bV Tryz.func14 Tryz.ntmps14 fun x hx=>?_
 try refine nv ?_
 refine qQ [] (Dt d hg hn hm) ?_
 rintro r st' ⟨⟨L,la,me,hrun,_,rfl⟩,rfl⟩<;>refine qU ?_
 have hI:=hrun.inv hg
 have hL:yY L:=⟨by rw[hI.revs];exact hn,by rw[hI.lp,hI.revs],by rw[hI.lf,hI.revs],by rw[hI.lc,hI.revs],by rw[hI.lo,hI.revs],by rw[hI.lr,hI.revs],fun p i h=>by
  obtain⟨j,v,rfl,h1,h2,h3⟩:=(hI.ix p i).1 h
  rw[hI.revs];omega⟩
 try refine nv ?_
 refine af ?_ ?_
 ·intro h;cases h
 intro _
 try refine nv ?_
 refine qQ [] (Kr L hL la me s) ?_
 rintro r st' ⟨⟨i,rfl,hi⟩,rfl⟩<;>refine qU ?_
 cases hs:rG L s with
 |none=>
  have hs2:=OW hg hI hs
  try refine nv ?_
  refine af ?_ ?_
  rotate_left
  ·intro h;cases h
  intro _
  refine aJ ?_
  refine gg ?_
  refine aG (fO (i:=6) 2 rfl) ?_
  refine dM ?_
  try refine nv ?_
  refine rA [] ?_
  refine⟨?_,rfl⟩
  exact zW (by simp[l7,hs2])
 |some i'=>
  have e:=hi i' hs
  subst e
  obtain⟨iN,v,rfl,i1,i2,i3,i4⟩:=(IE hI).1 hs
  have hs2:=(nS hg).2 ⟨iN,i2,i3,i4⟩
  try refine nv ?_
  refine af ?_ ?_
  ·intro h;cases h
  intro _
  try refine nv ?_
  refine qQ [] (Kr L hL la me t) ?_
  rintro r st' ⟨⟨j,rfl,hj⟩,rfl⟩<;>refine qU ?_
  cases ht:rG L t with
  |none=>
   have ht2:=OW hg hI ht
   try refine nv ?_
   refine af ?_ ?_
   rotate_left
   ·intro h;cases h
   intro _
   refine aJ ?_
   refine gg ?_
   refine aG (fO (i:=6) 2 rfl) ?_
   refine dM ?_
   try refine nv ?_
   refine rA [] ?_
   refine⟨?_,rfl⟩
   exact zW (by simp[l7,hs2,ht2])
  |some j'=>
   have e:=hj j' ht
   subst e
   obtain⟨jN,w,rfl,j1,j2,j3,j4⟩:=(IE hI).1 ht
   have ht2:=(nS hg).2 ⟨jN,j2,j3,j4⟩
   obtain⟨ms,hms,hml⟩:=hI.ZN i1 (hI.fm iN v i1 i2 i4).1
   have hmem:∀x∈ms,0≤x∧x<(L.revs.length:Int)∧∃l,L.con.getD x.toNat none=some l:=by
    have h1:=hI.mem (L.fst.getD iN 0) (hI.fm iN v i1 i2 i4).1
    rw[hms] at h1
    simp only[Option.getD] at h1
    intro x hx
    rw[h1] at hx
    obtain⟨y,hy,rfl⟩:=List.mem_map.1 hx
    obtain⟨hy1,hy2⟩:=List.mem_filter.1 hy
    have hy1:y<d.revs.length:=by simpa using hy1
    have hyv:=List.getElem?_eq_getElem hy1
    have hf:L.fst.getD y 0=L.fst.getD iN 0:=of_decide_eq_true hy2
    have y5:¬(d.revs[y]).act=5:=by
     intro h5
     have:=(hI.f5 y _ hy1 hyv h5).1
     have:=(hI.fm iN v i1 i2 i4).1
     omega
    obtain⟨c,m,cr,_,hc,_⟩:=hI.sets y _ hy1 hyv y5
    exact⟨by omega,by rw[hI.revs];omega,m,by rw[Int.toNat_natCast];exact hc⟩
   obtain⟨c,m,cr,_,_,hcr⟩:=hI.sets jN w j1 j2 j4
   have hrem:=ZJ hg hn hrun i2 j2 i4 j4
   rw[Nu,Int.toNat_natCast,hms] at hrem
   simp only[Option.getD] at hrem
   have hrl:L.revs.length=d.revs.length:=by rw[hI.revs]
   have hac:=Au L hL la me iN jN (by omega) (by omega) ms (by rw[Int.toNat_natCast];exact hms) hmem ⟨cr,by rw[Int.toNat_natCast];exact hcr⟩ (by omega)
   have hU1:=PR ms iN
   have hU2:∀x∈upto ms iN,0≤x∧x<(L.revs.length:Int):=fun x hx=>⟨(hmem x (Ha hx)).1,(hmem x (Ha hx)).2.1⟩
   generalize upto ms iN=U at hrem hac hU1 hU2
   change Bq L jN U=Jl d v (fileOf w) at hrem
   rw[j3] at hrem
   try refine nv ?_
   refine af ?_ ?_
   ·intro h;cases h
   intro _
   (repeat (first|refine nv ?_|refine cf (hac) ?_))
   refine mg (eG (i:=12) (id:=100) (sz:=2) rfl rfl (by omega)) ?_
   refine dM ?_
   refine ag (ι:=Nat) (I:=fun k=>⟨71,[(8, .c (.pp (sG L la me))),(12, .c (.ms 100 2 0 (Bq L jN (U.take k)).length)),(14, .c (.d (.ps 1 ((U.map (iU L jN)).map eB)))),(47, .c (.d (.ps 1 (U.map eI)))),(48,I .i64 U.length),(49,I .i64 k)],[(100,aQ 2 ((Bq L jN (U.take k)).map fJ))]⟩)
    (Inv:=fun k=>k≤U.length) (μ:=fun k=>U.length-k) 0 (by simp) ?_ ?_
   ·((try simp only[Bq]);exact aW)
   intro k hk
   have hF:=XZ L jN (U.take k)
   have hF2:(U.take k).length≤512:=by simp;omega
   try refine nv ?_
   refine af ?_ ?_
   ·intro hlt
    have hlt':k<U.length:=by simpa using hlt
    obtain⟨y,hy,he,htk⟩:=round eI U k 0 hlt'
    obtain⟨y1,y2⟩:=hU2 y (List.mem_of_getElem? hy)
    have hl2:k<(U.map (iU L jN)).length:=by simpa using hlt'
    have hob:((U.map (iU L jN)).map eB).getD k []=eB (iU L jN y):=by
     rw[bi eB _ k false hl2]
     simp[List.getD,hy]
    have er:=bi ax L.revs y.toNat ai (by omega)
    try refine nx (p2 @he @hob) ?_
    refine af ?_ ?_
    ·intro ho
     (repeat (first|refine nx @er ?_|refine cf (uT (L.revs.getD y.toNat ai)) ?_))
     refine⟨k+1,by omega,by omega,?_⟩
     have e:Bq L jN (U.take (k+1))=Bq L jN (U.take k)++[fileOf (L.revs.getD y.toNat ai)]:=by rw[htk,Bq,List.filter_append,List.map_append];simp[Bq,ho]
     rw[e]
     exact uY (fun i=>if i=100 then 68 else i)
    ·intro ho
     try refine nv ?_
     refine⟨k+1,by omega,by omega,?_⟩
     have e:Bq L jN (U.take (k+1))=Bq L jN (U.take k):=by rw[htk,Bq,List.filter_append,List.map_append];simp[Bq,ho]
     rw[e]
     exact aW
   ·intro hge
    have hge':k=U.length:=by have:¬k<U.length:=by simpa using hge
                             omega
    refine aJ ?_
    refine aG (aI (i:=12) (id:=100) (ys:=(Bq L jN (U.take k)).map fJ) rfl rfl (by simp)) ?_
    refine dM ?_
    try refine nv ?_
    refine rA [] ?_
    refine⟨?_,rfl⟩
    rw[hge',List.take_length,hrem]
    exact Ea (by simp[l7,hs2,ht2])
end Go.Proofs.YtcpgicfphakdaaaGreatDoor
