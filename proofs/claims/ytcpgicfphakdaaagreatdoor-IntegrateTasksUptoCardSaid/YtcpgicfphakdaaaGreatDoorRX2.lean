/- A part of the proof. -/
import Derived.Test.YtcpgicfphakdaaaGreatDoorRP21
import Derived.Test.YtcpgicfphakdaaaGreatDoorRG3
set_option maxRecDepth 100000
set_option maxHeartbeats 4000000
set_option linter.all false
namespace Go.Proofs.YtcpgicfphakdaaaGreatDoor
open Go.Ab Tys
variable [Dr]
theorem ER {x:ByteArray} {k:Nat} (h1:1≤k) (hk:k<x.size) (h:okB (byteAt x k)=false):aP x=false:=by
 cases e:aP x
 ·rfl
 ·simp only[aP,Bool.and_eq_true] at e
  have:=gB _ k (fun k=>decide (k=0)||okB (byteAt x k)) hk e.2
  simp[show ¬k=0 by omega,h] at this
theorem Ry {x:ByteArray} (h2:(decide (x=noS)||!decide (byteAt x 0=42))=false) (h:∀j,1≤j→j<x.size→okB (byteAt x j)=true):aP x=true:=by
 simp only[aP,h2,Bool.not_false,Bool.true_and,List.all_eq_true]
 intro j hj
 have hj:=List.mem_range.1 hj
 by_cases e:j=0
 ·simp[e]
 ·simp[h j (by omega) hj]
def z206.kk:=p7 kB kG kS Tryz.ntmps206 Tryz.underlying9 jy Tryz.results206
open z206 in
theorem qP (a:ByteArray) (hs:a.size≤1000000):AC Tryz.prog 206 [Str a] [] (fun r st=>r= .tup [pS (jq a),pB (aP a)]∧st=[]):=by
 refine bV Tryz.func206 Tryz.ntmps206 fun x hx=>?_
 refine aJ ?_
 refine gg ?_
 refine aJ ?_
 refine gq ?_ ?_
 ·simp only[All,List.cons_append,List.nil_append,and_true,true_and,implies_true,forall_const,Bool.not_eq_true',decide_eq_false_iff_not,cond_eq_ite]
  repeat' (first|exact trivial|refine And.intro ?_ ?_|intro _|omega|(rename_i h;exact_mod_cast nG (by simpa using h))|(simp_all;done))
 refine aJ ?_
 refine af ?_ ?_
 ·intro h
  have h2:(decide (a=noS)||!decide (byteAt a 0=42))=true:=by rw[←h];cases decide (a=noS)<;>rfl
  have h3:aP a=false:=by simp only[aP,h2,Bool.not_true,Bool.false_and]
  try refine nv ?_
  refine rA [] ?_
  refine⟨?_,rfl⟩
  simp only[jq,h3,if_false,Bool.false_eq_true]
 ·intro h
  have h2:(decide (a=noS)||!decide (byteAt a 0=42))=false:=by rw[←h];cases decide (a=noS)<;>rfl
  have ha:1≤a.size:=nG (by intro e;simp[e] at h2)
  try refine nv ?_
  refine ag (ι:=Nat) (I:=fun k=>⟨25,[(0,Str a),(4,I .i64 k)],[]⟩) (Inv:=fun k=>1≤k∧k≤a.size∧∀j,1≤j→j<k→okB (byteAt a j)=true) (μ:=fun k=>a.size-k) 1 ⟨by omega,by omega,by omega⟩ ?_ ?_
  ·exact aW
  ·rintro k ⟨h1,hk,hall⟩
   try refine nv ?_
   refine af ?_ ?_
   ·intro hlt
    have hlt':k<a.size:=by simpa using hlt
    (repeat (first|refine nv ?_|refine cf (Cm _ _) ?_))
    refine af ?_ ?_
    ·intro hb
     have hb':okB (byteAt a k)=false:=by simpa[okB,byteAt] using hb
     have h3:=ER h1 hlt' hb'
     try refine nv ?_
     refine rA [] ?_
     refine⟨?_,rfl⟩
     simp only[jq,h3,if_false,Bool.false_eq_true]
    ·intro hb
     try refine nv ?_
     refine⟨k+1,⟨by omega,by omega,?_⟩,by omega,?_⟩
     ·intro j j1 hj
      rcases Nat.lt_succ_iff_lt_or_eq.1 hj with hj|rfl
      ·exact hall j j1 hj
      ·simpa[okB,byteAt] using hb
     ·exact aW
   ·intro hge
    have hk':k=a.size:=by have:¬k<a.size:=by simpa using hge
                          omega
    have h3:=Ry h2 (fun j u v=>hall j u (by omega))
    try refine nv ?_
    refine rA [] ?_
    refine⟨?_,rfl⟩
    simp only[jq,h3,if_true]
    rfl
def aee.kk:=p4 kB kG Tryz.ntmps205 Tryz.results205
open aee in
theorem NC (a:ByteArray) (hs:a.size≤1000000):AC Tryz.prog 205 [Str a] [] (fun r st=>r=B (dE a)∧st=[]):=by
 have hc:=zS a hs
 refine bV Tryz.func205 Tryz.ntmps205 fun x hx=>?_
 (repeat (first|refine nv ?_|refine cf (qP a hs) ?_))
 refine so ([(13,B (comp a))]) ?_ ?_
 ·exact gI @hc
 try refine nv ?_
 refine rA [] ?_
 refine⟨?_,rfl⟩
 simp only[dE];cases aP a<;>rfl
def ad2.kk:=p7 kB kG kS Tryz.ntmps260 Tryz.underlying9 jy Tryz.results260
open ad2 in
theorem yB (s t:ByteArray) (hs:s.size≤1000000) (ht:t.size≤1000000):AC Tryz.prog 260 [Str s,Str t] [] (fun r st=>r=B (dV s t)∧st=[]):=by
 refine bV Tryz.func260 Tryz.ntmps260 fun x hx=>?_
 refine aJ ?_
 refine gg ?_
 refine aJ ?_
 refine gq ?_ ?_
 ·simp only[All,List.cons_append,List.nil_append,and_true,true_and,implies_true,forall_const,decide_eq_true_eq,dI]
  repeat' (first|exact trivial|refine And.intro ?_ ?_|intro _|omega|(simp_all;done))
 refine aJ ?_
 refine rA [] ?_
 refine⟨?_,rfl⟩
 have e:((s.size:Int)-t.size).toNat=s.size-t.size:=by omega
 cases h:decide (t.size≤s.size)<;>simp_all[dV]
def ad9.kk:=p3 kB Tryz.ntmps247 Tryz.results247
open ad9 in
theorem Ed (s t:ByteArray) (hs:s.size≤1000000) (ht:t.size≤1000000):AC Tryz.prog 247 [Str s,Str t] [] (fun r st=>r=B (dV s t)∧st=[]):=by
 refine bV Tryz.func247 Tryz.ntmps247 fun x hx=>?_
 (repeat (first|refine nv ?_|refine cf (yB s t hs ht) ?_))
 refine rA [] ?_
 refine⟨?_,rfl⟩
 rfl
theorem oJ (a:ByteArray):(jq a).size≤a.size:=by
 unfold jq
 split
 ·rw[ByteArray.size_extract];omega
 ·show 0≤_;omega
theorem uQ {s t:ByteArray} (h:dV s t=true):t.size≤s.size:=by
 simp only[dV,Bool.and_eq_true,decide_eq_true_eq] at h;exact h.1
def aeS.kk:=p6 kB kS Tryz.ntmps216 Tryz.underlying9 jy Tryz.results216
open aeS in
theorem U4 (a c:ByteArray) (hs:a.size≤1000000) (hc:c.size≤1000000):AC Tryz.prog 216 [Str a,Str c] [] (fun r st=>r= .tup [pS (lY a c).1,pB (lY a c).2]∧st=[]):=by
 have hl:=oJ a
 refine bV Tryz.func216 Tryz.ntmps216 fun x hx=>?_
 (repeat (first|refine nv ?_|refine cf (qP a hs) ?_))
 refine af ?_ ?_
 ·intro h
  have h':aP a=false:=by simpa using h
  try refine nv ?_
  refine rA [] ?_
  refine⟨?_,rfl⟩
  simp only[lY,h',if_false,Bool.false_eq_true]
 intro h
 have h':aP a=true:=by simpa using h
 (repeat (first|refine nv ?_|refine cf (Ed c (jq a) hc (by omega)) ?_))
 refine af ?_ ?_
 ·intro h3
  have h4:dV c (jq a)=false:=by simpa using h3
  try refine nv ?_
  refine rA [] ?_
  refine⟨?_,rfl⟩
  simp only[lY,h',h4,if_true,if_false,Bool.false_eq_true]
 intro h3
 have h4:dV c (jq a)=true:=by simpa using h3
 have h5:=uQ h4
 have e:((c.size:Int)-(jq a).size).toNat=c.size-(jq a).size:=by omega
 (repeat (first|refine nx @e ?_|refine cf (zS (c.extract 0 (c.size-(jq a).size)) (by rw[ByteArray.size_extract];omega)) ?_))
 refine rA [] ?_
 refine⟨?_,rfl⟩
 simp only[lY,h',h4,if_true]
def z212.kk:=p3 kB Tryz.ntmps212 Tryz.results212
open z212 in
theorem zT (a b:ByteArray) (ha:a.size≤1000000) (hb0:b.size≤1000000):AC Tryz.prog 212 [Str a,Str b] [] (fun r st=>r=B (aF a b)∧st=[]):=by
 have hl:=oJ a
 have hl2:=oJ b
 refine bV Tryz.func212 Tryz.ntmps212 fun x hx=>?_
 (repeat (first|refine nv ?_|refine cf (qP a ha) ?_|refine cf (qP b hb0) ?_))
 refine af ?_ ?_
 ·intro h
  have h':aP b=false:=by simpa using h
  try refine nv ?_
  refine rA [] ?_
  refine⟨?_,rfl⟩
  simp only[aF,h',if_false,Bool.false_eq_true]
 intro h
 have h':aP b=true:=by simpa using h
 try refine nv ?_
 refine af ?_ ?_
 ·intro h2
  (repeat (first|refine nv ?_|refine cf (Ed (jq a) (jq b) (by omega) (by omega)) ?_))
  refine rA [] ?_
  refine⟨?_,rfl⟩
  simp only[aF,h',h2,if_true]
 intro h2
 have h2':aP a=false:=by simpa using h2
 (repeat (first|refine nv ?_|refine cf (U4 b a hb0 ha) ?_))
 refine rA [] ?_
 refine⟨?_,rfl⟩
 simp only[aF,h',h2',if_true,if_false,Bool.false_eq_true]
def PB (n:Nat) (p:aX):Prop:=p.parts.length≤n∧∀s∈p.parts,s.size≤n
theorem PB.get {n:Nat} {p:aX} (h:PB n p) (i:Nat):(p.parts.getD i noS).size≤n:=by
 rw[List.getD_eq_getElem?_getD]
 cases e:p.parts[i]? with
 |none=>exact Nat.zero_le _
 |some s=>exact h.2 s (List.mem_of_getElem? e)
theorem PB.mono {n m:Nat} {p:aX} (h:PB n p) (hm:n≤m):PB m p:=⟨Nat.le_trans h.1 hm,fun s hs=>Nat.le_trans (h.2 s hs) hm⟩
def ae9.kk:=LK kB kG kS Tryz.ntmps147 Tryz.underlying74 df eH dW gV yR jO fM jy Tryz.results147
open ae9 in
theorem iQ (p:aX) (hp:PB 1000000 p):AC Tryz.prog 147 [aPat p] [] (fun r st=>r=I .i64 (aS p)∧st=[]):=by
 obtain⟨ps,rs⟩:=p
 have h1:=hp.1
 have hb0:=hp.get 0
 simp only at h1 hb0
 have e0:((ps.map encS).getD (Int.toNat 0) []).getD 0 (D.v (.string .empty))=D.v (.string (ps.getD 0 noS)):=by cases ps<;>rfl
 have hc:AC Tryz.prog 204 [.c (.d (((ps.map encS).getD (Int.toNat 0) []).getD 0 (D.v (.string .empty))))] [] (fun r st=>r=B (comp (ps.getD 0 noS))∧st=[]):=by rw[e0];exact zS _ hb0
 refine bV Tryz.func147 Tryz.ntmps147 fun x hx=>?_
 try refine nv ?_
 refine so ([(25,B (comp (ps.getD 0 noS)))]) ?_ ?_
 ·exact gI @hc
 try refine nv ?_
 generalize hq:comp (ps.getD 0 noS)=q
 refine af ?_ ?_
 ·intro h
  have h':ps.length=0∨(ps.length=1∧rs=false)∨q=false:=by
   by_cases e:ps.length=0
   ·exact .inl e
   have e':decide ((ps.length:Int)=0)=false:=decide_eq_false (by omega)
   simp only[e',cond_false] at h
   by_cases e1:ps.length=1
   ·cases rs
    ·exact .inr (.inl ⟨e1,rfl⟩)
    ·simp only[Bool.not_true,cond_false,Bool.cond_false_right,Bool.and_false] at h
     exact .inr (.inr (by simpa using h))
   ·have e2:decide ((ps.length:Int)=1)=false:=decide_eq_false (by omega)
    simp only[e2,cond_false] at h
    exact .inr (.inr (by simpa using h))
  try refine nv ?_
  refine rA [] ?_
  refine⟨?_,rfl⟩
  simp only[aS,hq]
  rw[if_pos h']
 intro h
 have h':¬(ps.length=0∨(ps.length=1∧rs=false)∨q=false):=by
  by_cases e:ps.length=0
  ·have e':decide ((ps.length:Int)=0)=true:=decide_eq_true (by omega)
   simp only[e',cond_true] at h;cases h
  have e':decide ((ps.length:Int)=0)=false:=decide_eq_false (by omega)
  simp only[e',cond_false] at h
  by_cases e1:ps.length=1
  ·have e2:decide ((ps.length:Int)=1)=true:=decide_eq_true (by omega)
   simp only[e2,cond_true] at h
   rintro(h9|⟨_,h9⟩|h9)
   ·exact e h9
   ·rw[h9] at h;cases h
   ·rw[h9] at h;cases rs<;>cases h
  ·have e2:decide ((ps.length:Int)=1)=false:=decide_eq_false (by omega)
   simp only[e2,cond_false] at h
   rintro(h9|⟨h9,_⟩|h9)
   ·exact e h9
   ·exact e1 h9
   ·rw[h9] at h;cases h
 have hpos:1≤ps.length:=by rcases Nat.eq_zero_or_pos ps.length with e|e;·exact absurd (.inl e) h'
                           exact e
 try refine nv ?_
 have hl:(ps.drop 1).length=ps.length-1:=by simp
 refine ag (ι:=Nat) (I:=fun k=>⟨44,[(1, .c (.ptr 1 0)),(30, .c (.d (.ps 1 ((ps.drop 1).map encS)))),(31,I .i64 (ps.drop 1).length),(32,I .i64 k)],[(1, .box ((au ⟨ps,rs⟩).map C.d))]⟩)
  (Inv:=fun k=>k≤(ps.drop 1).length∧((ps.drop 1).take k).all dE=true) (μ:=fun k=>(ps.drop 1).length-k) 0 ⟨by omega,by simp⟩ ?_ ?_
 ·exact aW
 rintro k ⟨hk,hall⟩
 try refine nv ?_
 refine af ?_ ?_
 ·intro hlt
  have hlt':k<(ps.drop 1).length:=by simpa using hlt
  obtain⟨v,hv,he,htk⟩:=round encS (ps.drop 1) k noS hlt'
  have hvs:v.size≤1000000:=hp.2 v (List.mem_of_mem_drop (List.mem_of_getElem? hv))
  (repeat (first|refine nx @he ?_|refine cf (NC v hvs) ?_))
  refine af ?_ ?_
  ·intro hb
   have hb':dE v=false:=by simpa using hb
   have hn:¬(ps.drop 1).all dE=true:=by
    intro e
    rw[List.all_eq_true] at e;rw[e v (List.mem_of_getElem? hv)] at hb';cases hb'
   try refine nv ?_
   refine rA [] ?_
   refine⟨?_,rfl⟩
   simp only[aS,hq]
   rw[if_neg h',if_neg hn]
  ·intro hb
   have hb':dE v=true:=by simpa using hb
   try refine nv ?_
   refine⟨k+1,⟨by omega,?_⟩,by omega,?_⟩
   ·rw[htk,List.all_append,hall];simp[hb']
   ·exact aW
 intro hge
 have hk':k=(ps.drop 1).length:=by have:¬k<(ps.drop 1).length:=by simpa using hge
                                   omega
 rw[hk',List.take_length] at hall
 try refine nv ?_
 refine af ?_ ?_
 ·intro hm
  have hm':12<ps.length:=by have:=of_decide_eq_true hm
                            omega
  try refine nv ?_
  refine rA [] ?_
  refine⟨?_,rfl⟩
  simp only[aS,hq]
  rw[if_neg h',if_pos hall,if_pos hm']
 ·intro hm
  have hm':¬12<ps.length:=by have:=of_decide_eq_false hm
                             omega
  try refine nv ?_
  refine rA [] ?_
  refine⟨?_,rfl⟩
  simp only[aS,hq]
  rw[if_neg h',if_pos hall,if_neg hm']
theorem nJ:aj []=0:=rfl
def z148.kk:=p12 kB Tryz.ntmps148 Tryz.underlying74 df eH dW gV yR jO fM jy Tryz.results148
open z148 in
theorem G5 (p:aX) (hp:PB 1000000 p):AC Tryz.prog 148 [aPat p] [] (fun r st=>r= .tup [pI (aj p.parts),pB p.rest]∧st=[]):=by
 obtain⟨ps,rs⟩:=p
 have h1:=hp.1
 simp only at h1
 refine bV Tryz.func148 Tryz.ntmps148 fun x hx=>?_
 try refine nv ?_
 refine ag (ι:=Nat) (I:=fun k=>⟨28,[(1, .c (.ptr 1 0)),(4,I .i64 (aj (ps.take k))),(10,dJ ps),(11,I .i64 ps.length),(12,I .i64 k)],[(1, .box ((au ⟨ps,rs⟩).map C.d))]⟩)
  (Inv:=fun k=>k≤ps.length) (μ:=fun k=>ps.length-k) 0 (by omega) ?_ ?_
 ·exact tK @nJ
 intro k hk
 try refine nv ?_
 refine af ?_ ?_
 ·intro hlt
  have hlt':k<ps.length:=by simpa using hlt
  obtain⟨v,hv,he,htk⟩:=round encS ps k noS hlt'
  have hvs:v.size≤1000000:=hp.2 v (List.mem_of_getElem? hv)
  have hst:aj (ps.take k)≤1000000:=Nat.le_trans (lg _ ps k) h1
  (repeat (first|refine nx @he ?_|refine cf (qP v hvs) ?_))
  refine af ?_ ?_
  ·intro hb
   try refine nv ?_
   refine⟨k+1,by omega,by omega,?_⟩
   have e:aj (ps.take (k+1))=aj (ps.take k)+1:=by rw[htk];simp[aj,hb]
   rw[e]
   exact aW
  ·intro hb
   try refine nv ?_
   refine⟨k+1,by omega,by omega,?_⟩
   have e:aj (ps.take (k+1))=aj (ps.take k):=by rw[htk];simp[aj,hb]
   rw[e]
   exact aW
 intro hge
 have hk':k=ps.length:=by have:¬k<ps.length:=by simpa using hge
                          omega
 rw[hk',List.take_length]
 refine aJ ?_
 refine dr ([]) ?_ ?_
 ·exact rC
 try refine nv ?_
 refine rA [] ?_
 refine⟨?_,rfl⟩
 rfl
def ae1.kk:=p5 kB Tryz.ntmps217 df fM Tryz.results217
open ae1 in
theorem P5 (p:aX) (hp:PB 1000000 p):AC Tryz.prog 217 [aPat p] [] (fun r st=>r=I .i64 (jS p)∧st=[]):=by
 have hst:aj p.parts≤1000000:=Nat.le_trans (List.length_filter_le ..) hp.1
 refine bV Tryz.func217 Tryz.ntmps217 fun x hx=>?_
 (repeat (first|refine nv ?_|refine cf (G5 p hp) ?_))
 refine af ?_ ?_
 ·intro h
  try refine nv ?_
  refine rA [] ?_
  refine⟨?_,rfl⟩
  simp[jS,h]
 ·intro h
  try refine nv ?_
  refine rA [] ?_
  refine⟨?_,rfl⟩
  simp[jS,h]
end Go.Proofs.YtcpgicfphakdaaaGreatDoor
