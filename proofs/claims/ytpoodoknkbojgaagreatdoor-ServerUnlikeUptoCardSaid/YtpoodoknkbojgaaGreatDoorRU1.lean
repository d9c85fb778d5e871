/- A part of the proof. -/
import Derived.Test.YtpoodoknkbojgaaGreatDoorRP12
set_option linter.all false
namespace Go.Proofs.YtpoodoknkbojgaaGreatDoor
open Go.Ab Tys
variable [Dr]
def RF (b:Int):Bool:=(decide (65≤b)&&decide (b≤90))||(decide (97≤b)&&decide (b≤122))||(decide (48≤b)&&decide (b≤57))||decide (b=95)||decide (b=46)||decide (b=43)||decide (b=45)
theorem MQ:((List.range 256).all fun n=>okB n==RF n)=true:=by kernel_rfl
theorem Qh {b:Int} (h0:0≤b) (h1:b<256):okB b=RF b:=by
 have:=UG.1 MQ b.toNat (UZ.2 (by omega))
 rw[show((b.toNat:Nat):Int)=b by omega] at this
 simpa using this
def SG.kk:=p4 kB kG Tryz.ntmps241 Tryz.results241
set_option maxRecDepth 100000 in
set_option maxHeartbeats 4000000 in
open SG in
theorem Ak (b:Int) (h0:0≤b) (h1:b<256):AC Tryz.prog 241 [I .u8 b] [] (fun r st=>r=B (okB b)∧st=[]):=by
 rw[Qh h0 h1]
 refine jH Tryz.func241 Tryz.ntmps241 fun x hx=>?_
 try refine nv ?_
 refine Qd ⟨36,[(0,I .u8 b),(2,B false),(3,B ((decide (65≤b)&&decide (b≤90))||(decide (97≤b)&&decide (b≤122))||(decide (48≤b)&&decide (b≤57))))],[]⟩ ?_ ?_
 ·refine bV ?_ ?_
  ·intro h
   have h':(decide (65≤b)&&decide (b≤90))=true:=by rw[←h];cases decide (65≤b)<;>rfl
   refine mW ?_
   refine⟨rfl,?_⟩
   exact RH (p2 @h' @h)
  ·intro h
   have h':(decide (65≤b)&&decide (b≤90))=false:=by rw[←h];cases decide (65≤b)<;>rfl
   try refine nv ?_
   refine bV ?_ ?_
   ·intro h2
    have h2':(decide (97≤b)&&decide (b≤122))=true:=by rw[←h2];cases decide (97≤b)<;>rfl
    refine mW ?_
    refine⟨rfl,?_⟩
    exact RH (p4 @h' @h @h2' @h2)
   ·intro h2
    have h2':(decide (97≤b)&&decide (b≤122))=false:=by rw[←h2];cases decide (97≤b)<;>rfl
    try refine nv ?_
    refine⟨rfl,?_⟩
    have h3:(bif decide (48≤b) then decide (b≤57) else false)=(decide (48≤b)&&decide (b≤57)):=by cases decide (48≤b)<;>rfl
    exact RH (p5 @h' @h @h2' @h2 @h3)
 refine mW ?_
 refine bV ?_ ?_
 ·intro h
  try refine nv ?_
  refine rA [] ?_
  refine⟨?_,rfl⟩
  simp only[RF,h,Bool.true_or]
 ·intro h
  try refine nv ?_
  refine rA [] ?_
  refine⟨?_,rfl⟩
  simp only[RF,h,Bool.false_or]
  cases decide (b=95)<;>cases decide (b=46)<;>cases decide (b=43)<;>rfl
def Tm.kk:=p6 kB kG Tryz.ntmps195 Tryz.underlying9 Ej Tryz.results195
set_option maxRecDepth 100000 in
set_option maxHeartbeats 4000000 in
open Tm in
theorem yF (s:VJ) (hs:s.size≤4000000):AC Tryz.prog 195 [Str s] [] (fun r st=>r=B (comp s)∧st=[]):=by
 refine jH Tryz.func195 Tryz.ntmps195 fun x hx=>?_
 refine mW ?_
 refine gg ?_
 refine mW ?_
 refine gq ?_ ?_
 ·simp only[All,List.cons_append,List.nil_append,Ug,UH,implies_true,forall_const,Uh,UN,cond_eq_ite]
  repeat' (first|exact trivial|refine And.intro ?_ ?_|intro _|omega|(rename_i h;exact_mod_cast lM (by simpa using h))|(simp_all;done))
 refine mW ?_
 refine bV ?_ ?_
 ·intro h
  try refine nv ?_
  refine rA [] ?_
  refine⟨?_,rfl⟩
  have h2:(decide (s={data:= #[]})||decide (byteAt s 0=46))=true:=by rw[←h];cases decide (s={data:= #[]})<;>rfl
  simp[comp,h2]
 ·intro h
  have h2:(decide (s={data:= #[]})||decide (byteAt s 0=46))=false:=by rw[←h];cases decide (s={data:= #[]})<;>rfl
  try refine nv ?_
  refine bP (ι:=Nat) (I:=fun k=>⟨22,[(0,Str s),(12,I .i64 s.size),(13,I .i64 k)],[]⟩) (Inv:=fun k=>k≤s.size∧∀j,j<k→okB (byteAt s j)=true) (μ:=fun k=>s.size-k) 0 ⟨by omega,by omega⟩ ?_ ?_
  ·exact jG
  ·rintro k ⟨hk,hall⟩
   try refine nv ?_
   refine bV ?_ ?_
   ·intro hlt
    have hlt':k<s.size:=by simpa using hlt
    have hb0:=pO hlt'
    (repeat (first|refine nv ?_|refine cf (Ak (byteAt s k) (by simp[byteAt]) (by simp only[byteAt];have:=(s.data.getD k 0).toNat_lt;omega)) ?_))
    refine bV ?_ ?_
    ·intro hb
     try refine nv ?_
     refine rA [] ?_
     refine⟨?_,rfl⟩
     have hb':okB (byteAt s k)=false:=by simpa using hb
     have:((List.range s.size).all fun k=>okB (byteAt s k))=false:=by
      cases e:(List.range s.size).all fun k=>okB (byteAt s k)
      ·rfl
      ·have:=oP _ k _ hlt' e
       rw[hb'] at this;cases this
     simp only[comp,this,Bool.and_false]
    ·intro hb
     try refine nv ?_
     refine⟨k+1,⟨by omega,?_⟩,by omega,?_⟩
     ·intro j hj
      rcases Vh.1 hj with hj|rfl
      ·exact hall j hj
      ·simpa using hb
     ·exact jG
   ·intro hge
    try refine nv ?_
    refine rA [] ?_
    refine⟨?_,rfl⟩
    have hk':k=s.size:=by have:¬k<s.size:=by simpa using hge
                          omega
    have:((List.range s.size).all fun k=>okB (byteAt s k))=true:=by
     rw[UG];intro j hj;exact hall j (by rw[hk'];exact UZ.1 hj)
    simp only[comp,this,h2];rfl
end Go.Proofs.YtpoodoknkbojgaaGreatDoor
