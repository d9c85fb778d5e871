/- A part of the proof. -/
import Derived.Test.YtpoodoknkbojgaaGreatDoorRP16
import Derived.Test.YtpoodoknkbojgaaGreatDoorRG3
set_option maxRecDepth 100000
set_option maxHeartbeats 4000000
set_option linter.all false
namespace Go.Proofs.YtpoodoknkbojgaaGreatDoor
open Go.Ab Tys
variable [Dr]
theorem yR {x:abW} {k:Nat} (h1:1≤k) (hk:k<x.size) (h:okB (byteAt x k)=false):dJ x=false:=by
 cases e:dJ x
 ·rfl
 ·simp only[dJ,aaj] at e
  have:=nP _ k (fun k=>decide (k=0)||okB (byteAt x k)) hk e.2
  simp[show ¬k=0 by omega,h] at this
theorem Kq {x:abW} (h2:(decide (x=noS)||!decide (byteAt x 0=42))=false) (h:∀j,1≤j→j<x.size→okB (byteAt x j)=true):dJ x=true:=by
 simp only[dJ,h2,abC,abg,aaC]
 intro j hj
 have hj:=aa3.1 hj
 by_cases e:j=0
 ·simp[e]
 ·simp[h j (by omega) hj]
def z130.kk:=p7 kB kG kS Tryz.ntmps130 Tryz.underlying9 sQ Tryz.results130
open z130 in
theorem Qd (a:abW) (hs:a.size≤4000000):AC Tryz.prog 130 [Str a] [] (fun r st=>r= .tup [pS (JI a),pB (dJ a)]∧st=[]):=by
 refine dI Tryz.func130 Tryz.ntmps130 fun x hx=>?_
 refine jk ?_
 refine gg ?_
 refine jk ?_
 refine gq ?_ ?_
 ·simp only[All,List.cons_append,List.nil_append,aao,aaS,implies_true,forall_const,aar,aaN,cond_eq_ite]
  repeat' (first|exact trivial|refine And.intro ?_ ?_|intro _|omega|(rename_i h;exact_mod_cast iR (by simpa using h))|(simp_all;done))
 refine jk ?_
 refine aU ?_ ?_
 ·intro h
  have h2:(decide (a=noS)||!decide (byteAt a 0=42))=true:=by rw[←h];cases decide (a=noS)<;>rfl
  have h3:dJ a=false:=by simp only[dJ,h2,Bool.not_true,abR]
  try refine nv ?_
  refine rA [] ?_
  refine⟨?_,rfl⟩
  simp only[JI,h3,if_false,aak]
 ·intro h
  have h2:(decide (a=noS)||!decide (byteAt a 0=42))=false:=by rw[←h];cases decide (a=noS)<;>rfl
  have ha:1≤a.size:=iR (by intro e;simp[e] at h2)
  try refine nv ?_
  refine aW (ι:=Nat) (I:=fun k=>⟨25,[(0,Str a),(4,I .i64 k)],[]⟩) (Inv:=fun k=>1≤k∧k≤a.size∧∀j,1≤j→j<k→okB (byteAt a j)=true) (μ:=fun k=>a.size-k) 1 ⟨by omega,by omega,by omega⟩ ?_ ?_
  ·exact fM
  ·rintro k ⟨h1,hk,hall⟩
   try refine nv ?_
   refine aU ?_ ?_
   ·intro hlt
    have hlt':k<a.size:=by simpa using hlt
    (repeat (first|refine nv ?_|refine cf (vP _ _) ?_))
    refine aU ?_ ?_
    ·intro hb
     have hb':okB (byteAt a k)=false:=by simpa[okB,byteAt] using hb
     have h3:=yR h1 hlt' hb'
     try refine nv ?_
     refine rA [] ?_
     refine⟨?_,rfl⟩
     simp only[JI,h3,if_false,aak]
    ·intro hb
     try refine nv ?_
     refine⟨k+1,⟨by omega,by omega,?_⟩,by omega,?_⟩
     ·intro j j1 hj
      rcases aba.1 hj with hj|rfl
      ·exact hall j j1 hj
      ·simpa[okB,byteAt] using hb
     ·exact fM
   ·intro hge
    have hk':k=a.size:=by have:¬k<a.size:=by simpa using hge
                          omega
    have h3:=Kq h2 (fun j u v=>hall j u (by omega))
    try refine nv ?_
    refine rA [] ?_
    refine⟨?_,rfl⟩
    simp only[JI,h3,if_true]
    rfl
def z69.kk:=p4 kB kG Tryz.ntmps69 Tryz.results69
open z69 in
theorem Rz (a:abW) (hs:a.size≤4000000):AC Tryz.prog 69 [Str a] [] (fun r st=>r=B (iY a)∧st=[]):=by
 have hc:=Hu a hs
 refine dI Tryz.func69 Tryz.ntmps69 fun x hx=>?_
 (repeat (first|refine nv ?_|refine cf (Qd a hs) ?_))
 refine so ([(13,B (comp a))]) ?_ ?_
 ·exact Fa @hc
 try refine nv ?_
 refine rA [] ?_
 refine⟨?_,rfl⟩
 simp only[iY];cases dJ a<;>rfl
def Zr.kk:=p7 kB kG kS Tryz.ntmps321 Tryz.underlying9 sQ Tryz.results321
open Zr in
theorem IM (s t:abW) (hs:s.size≤1000000) (ht:t.size≤1000000):AC Tryz.prog 321 [Str s,Str t] [] (fun r st=>r=B (dF s t)∧st=[]):=by
 refine dI Tryz.func321 Tryz.ntmps321 fun x hx=>?_
 refine jk ?_
 refine gg ?_
 refine jk ?_
 refine gq ?_ ?_
 ·simp only[All,List.cons_append,List.nil_append,aao,aaS,implies_true,forall_const,aae,aV]
  repeat' (first|exact trivial|refine And.intro ?_ ?_|intro _|omega|(simp_all;done))
 refine jk ?_
 refine rA [] ?_
 refine⟨?_,rfl⟩
 have e:((s.size:Int)-t.size).toNat=s.size-t.size:=by omega
 cases h:decide (t.size≤s.size)<;>simp_all[dF]
theorem Ov {s t:abW} (h:dF s t=true):t.size≤s.size:=by
 simp only[dF,aaj,aae] at h;exact h.1
end Go.Proofs.YtpoodoknkbojgaaGreatDoor
