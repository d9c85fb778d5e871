/- A part of the proof. -/
import Derived.Test.YtcpgicfphakdaaaGreatDoorRAbRm
import Derived.Test.YtcpgicfphakdaaaGreatDoorRF2
set_option maxRecDepth 100000
set_option maxHeartbeats 4000000
set_option linter.all false
namespace Go.Proofs.YtcpgicfphakdaaaGreatDoor
open Go.Ab Tys
variable [Dr]
def isB (b:Int):Bool:=(decide (65≤b)&&decide (b≤90))||(decide (97≤b)&&decide (b≤122))||(decide (48≤b)&&decide (b≤57))||decide (b=95)||decide (b=46)||decide (b=43)||decide (b=45)
theorem afc:((List.range 256).all fun n=>okB n==isB n)=true:=by kernel_rfl
theorem agI {b:Int} (h0:0≤b) (h1:b<256):okB b=isB b:=by
 have:=agr.1 afc b.toNat (aht.2 (by omega))
 rw[show((b.toNat:Nat):Int)=b by omega] at this
 simpa using this
def aiM.kk:=p4 kB kG Tryz.ntmps241 Tryz.results241
open aiM in
theorem Pg (b:Int) (h0:0≤b) (h1:b<256):AC Tryz.prog 241 [I .u8 b] [] (fun r st=>r=B (okB b)∧st=[]):=by
 rw[agI h0 h1]
 refine df Tryz.func241 Tryz.ntmps241 fun x hx=>?_
 try refine nv ?_
 refine nZ ⟨36,[(0,I .u8 b),(2,B false),(3,B ((decide (65≤b)&&decide (b≤90))||(decide (97≤b)&&decide (b≤122))||(decide (48≤b)&&decide (b≤57))))],[]⟩ ?_ ?_
 ·refine aj ?_ ?_
  ·intro h
   have h':(decide (65≤b)&&decide (b≤90))=true:=by rw[←h];cases decide (65≤b)<;>rfl
   refine aZ ?_
   refine⟨rfl,?_⟩
   exact Dc (p2 @h' @h)
  ·intro h
   have h':(decide (65≤b)&&decide (b≤90))=false:=by rw[←h];cases decide (65≤b)<;>rfl
   try refine nv ?_
   refine aj ?_ ?_
   ·intro h2
    have h2':(decide (97≤b)&&decide (b≤122))=true:=by rw[←h2];cases decide (97≤b)<;>rfl
    refine aZ ?_
    refine⟨rfl,?_⟩
    exact Dc (p4 @h' @h @h2' @h2)
   ·intro h2
    have h2':(decide (97≤b)&&decide (b≤122))=false:=by rw[←h2];cases decide (97≤b)<;>rfl
    try refine nv ?_
    refine⟨rfl,?_⟩
    have h3:(bif decide (48≤b) then decide (b≤57) else false)=(decide (48≤b)&&decide (b≤57)):=by cases decide (48≤b)<;>rfl
    exact Dc (p5 @h' @h @h2' @h2 @h3)
 refine aZ ?_
 refine aj ?_ ?_
 ·intro h
  try refine nv ?_
  refine rA [] ?_
  refine⟨?_,rfl⟩
  simp only[isB,h,Bool.true_or]
 ·intro h
  try refine nv ?_
  refine rA [] ?_
  refine⟨?_,rfl⟩
  simp only[isB,h,aks]
  cases decide (b=95)<;>cases decide (b=46)<;>cases decide (b=43)<;>rfl
def aiv.kk:=p6 kB kG Tryz.ntmps195 Tryz.underlying9 jB Tryz.results195
open aiv in
theorem aat (s:akK) (hs:s.size≤4000000):AC Tryz.prog 195 [Str s] [] (fun r st=>r=B (comp s)∧st=[]):=by
 refine df Tryz.func195 Tryz.ntmps195 fun x hx=>?_
 refine aZ ?_
 refine gg ?_
 refine aZ ?_
 refine gq ?_ ?_
 ·simp only[All,List.cons_append,List.nil_append,ahu,ajG,implies_true,forall_const,afU,agZ,cond_eq_ite]
  repeat' (first|exact trivial|refine And.intro ?_ ?_|intro _|omega|(rename_i h;exact_mod_cast tN (by simpa using h))|(simp_all;done))
 refine aZ ?_
 refine aj ?_ ?_
 ·intro h
  try refine nv ?_
  refine rA [] ?_
  refine⟨?_,rfl⟩
  have h2:(decide (s={data:= #[]})||decide (byteAt s 0=46))=true:=by rw[←h];cases decide (s={data:= #[]})<;>rfl
  simp[comp,h2]
 ·intro h
  have h2:(decide (s={data:= #[]})||decide (byteAt s 0=46))=false:=by rw[←h];cases decide (s={data:= #[]})<;>rfl
  try refine nv ?_
  refine au (ι:=Nat) (I:=fun k=>⟨22,[(0,Str s),(12,I .i64 s.size),(13,I .i64 k)],[]⟩) (Inv:=fun k=>k≤s.size∧∀j,j<k→okB (byteAt s j)=true) (μ:=fun k=>s.size-k) 0 ⟨by omega,by omega⟩ ?_ ?_
  ·exact bQ
  ·rintro k ⟨hk,hall⟩
   try refine nv ?_
   refine aj ?_ ?_
   ·intro hlt
    have hlt':k<s.size:=by simpa using hlt
    have hb0:=lL hlt'
    (repeat (first|refine nv ?_|refine cf (Pg (byteAt s k) (by simp[byteAt]) (by simp only[byteAt];have:=(s.data.getD k 0).toNat_lt;omega)) ?_))
    refine aj ?_ ?_
    ·intro hb
     try refine nv ?_
     refine rA [] ?_
     refine⟨?_,rfl⟩
     have hb':okB (byteAt s k)=false:=by simpa using hb
     have:((List.range s.size).all fun k=>okB (byteAt s k))=false:=by
      cases e:(List.range s.size).all fun k=>okB (byteAt s k)
      ·rfl
      ·have:=kC _ k _ hlt' e
       rw[hb'] at this;cases this
     simp only[comp,this,Bool.and_false]
    ·intro hb
     try refine nv ?_
     refine⟨k+1,⟨by omega,?_⟩,by omega,?_⟩
     ·intro j hj
      rcases ajB.1 hj with hj|rfl
      ·exact hall j hj
      ·simpa using hb
     ·exact bQ
   ·intro hge
    try refine nv ?_
    refine rA [] ?_
    refine⟨?_,rfl⟩
    have hk':k=s.size:=by have:¬k<s.size:=by simpa using hge
                          omega
    have:((List.range s.size).all fun k=>okB (byteAt s k))=true:=by
     rw[agr];intro j hj;exact hall j (by rw[hk'];exact aht.1 hj)
    simp only[comp,this,h2];rfl
theorem pq (s:akK) (hs:s.size≤1000000):AC Tryz.prog 195 [Str s] [] (fun r st=>r=B (comp s)∧st=[]):=aat s (by omega)
def aih.kk:=p7 kB kG kS Tryz.ntmps137 Tryz.underlying9 jB Tryz.results137
open aih in
theorem Eb (p:akK) (hs:p.size≤100000):AC Tryz.prog 137 [Str p] [] (fun r st=>r=B (aG p).isSome∧st=[]):=by
 refine df Tryz.func137 Tryz.ntmps137 fun x hx=>?_
 (repeat (first|refine nv ?_|refine cf (rU _ _) ?_))
 refine aj ?_ ?_
 ·intro h
  try refine nv ?_
  refine rA [] ?_
  refine⟨?_,rfl⟩
  rw[BX (by simpa using h)]
 ·intro h
  have hpre:hasPrefix p fD=true:=by simpa using h
  have h2:2≤p.size:=agw (Bool.and_eq_true_iff.1 hpre).1
  rw[acU hpre]
  try refine nv ?_
  refine au (ι:=Nat×Nat×Nat) (I:=fun k=>⟨38,[(0,Str p),(3,I .i64 k.1),(4,I .i64 k.2.1),(5,I .i64 k.2.2)],[]⟩)
   (Inv:=fun k=>k.1≤k.2.1∧k.2.1≤k.2.2∧k.2.2≤p.size+1∧(∀j,k.2.1≤j→j<k.2.2→byteAt p j≠47)∧vB p 0 2=vB p k.1 k.2.1∧(k.2.2≤p.size∨k.2.1=k.2.2)) (μ:=fun k=>p.size+1-k.2.2) (0,2,2) ⟨by simp,by simp,by simp;omega,by intro j hj hj2;simp at hj hj2;omega,rfl,by simp⟩ ?_ ?_
  ·exact bQ
  ·rintro⟨c,b,i⟩ ⟨h1,h3,h4,h5,h6,h7⟩
   simp only at h1 h3 h4 h5 h6 h7⊢
   rw[h6]
   try refine nv ?_
   refine aj ?_ ?_
   ·intro hle
    have hi:i≤p.size:=by simpa using hle
    try refine nv ?_
    refine aj ?_ ?_
    ·intro hc
     have hlt:i<p.size:=by
      by_cases h:(i:Int)<p.size
      ·omega
      ·simp[h] at hc
     have hb:byteAt p i≠47:=by
      have:(i:Int)<p.size:=by omega
      simp only[this,akJ,cond_true] at hc
      simpa[byteAt] using hc
     try refine nv ?_
     refine⟨(c,b,i+1),⟨h1,by simp;omega,by simp;omega,?_,rfl,by simp;omega⟩,by simp;omega,?_⟩
     ·intro j hj hj2
      simp only at hj hj2
      rcases ajB.1 hj2 with hj2|rfl
      ·exact h5 j hj hj2
      ·exact hb
     ·exact bQ
    ·intro hc
     have hst:i=p.size∨(i<p.size∧byteAt p i=47):=by
      by_cases h:(i:Int)<p.size
      ·simp only[h,akJ,cond_true] at hc
       exact .inr ⟨by omega,by simpa[byteAt] using hc⟩
      ·exact .inl (by omega)
     have hnext:=adT (c:=c) h3 hi h5 hst
     (repeat (first|refine nv ?_|refine cf (pq (p.extract b i) (by simp;omega)) ?_))
     refine aj ?_ ?_
     ·intro hf
      try refine nv ?_
      refine rA [] ?_
      refine⟨?_,rfl⟩
      rw[hnext,show comp (p.extract b i)=false by simpa using hf,aka]
     ·intro hf
      have hf':comp (p.extract b i)=true:=by simpa using hf
      try refine nv ?_
      refine⟨(c+1,i+1,i+1),⟨by simp;omega,by simp,by simp;omega,by intro j hj hj2;simp at hj hj2;omega,by simp only[hnext,hf',ajq],by simp⟩,by simp;omega,?_⟩
      exact bQ
   ·intro hgt
    have hgt':¬i≤p.size:=by simpa using hgt
    try refine nv ?_
    refine rA [] ?_
    refine⟨?_,rfl⟩
    rw[vB,if_neg (by omega)]
    congr 1
    rw[ajx];simp;omega
def z196.kk:=p3 kB Tryz.ntmps196 Tryz.results196
open z196 in
theorem Cs (a:Int):AC Tryz.prog 196 [I .u8 a] [] (fun r st=>r=B false∧st=[]):=by
 refine df Tryz.func196 Tryz.ntmps196 fun x hx=>?_
 try refine nv ?_
 refine rA [] ?_
 refine⟨?_,rfl⟩
 simp
def z138.kk:=p3 kB Tryz.ntmps138 Tryz.results138
open z138 in
theorem Vj (a b:Int):AC Tryz.prog 138 [I .u8 a,I .u8 b] [] (fun r st=>r=I .i64 (vY a b)∧st=[]):=by
 refine df Tryz.func138 Tryz.ntmps138 fun x hx=>?_
 (repeat (first|refine nv ?_|refine cf (Cs a) ?_|refine cf (Cs b) ?_))
 refine aj ?_ ?_
 ·intro h;cases h
 intro _
 try refine nv ?_
 refine aj ?_ ?_
 ·intro h;cases h
 intro _
 try refine nv ?_
 refine aj ?_ ?_
 ·intro h
  try refine nv ?_
  refine rA [] ?_
  refine⟨?_,rfl⟩
  simp only[aeB] at h
  simp[vY,h]
 intro h
 simp only[agZ] at h
 try refine nv ?_
 refine aj ?_ ?_
 ·intro h2
  try refine nv ?_
  refine rA [] ?_
  refine⟨?_,rfl⟩
  simp only[aeB] at h2
  simp[vY,h,h2]
 intro h2
 try refine nv ?_
 refine rA [] ?_
 refine⟨?_,rfl⟩
 simp only[agZ] at h2
 simp[vY,h,h2]
def aig.kk:=p3 kB Tryz.ntmps174 Tryz.results174
open aig in
theorem EE (a:Int):AC Tryz.prog 174 [I .i64 a] [] (fun r st=>r=B false∧st=[]):=by
 refine df Tryz.func174 Tryz.ntmps174 fun x hx=>?_
 try refine nv ?_
 refine rA [] ?_
 refine⟨?_,rfl⟩
 simp
def aiS.kk:=p3 kB Tryz.ntmps120 Tryz.results120
open aiS in
theorem FT (a b:Int):AC Tryz.prog 120 [I .i64 a,I .i64 b] [] (fun r st=>r=I .i64 (vY a b)∧st=[]):=by
 refine df Tryz.func120 Tryz.ntmps120 fun x hx=>?_
 (repeat (first|refine nv ?_|refine cf (EE a) ?_|refine cf (EE b) ?_))
 refine aj ?_ ?_
 ·intro h;cases h
 intro _
 try refine nv ?_
 refine aj ?_ ?_
 ·intro h;cases h
 intro _
 try refine nv ?_
 refine aj ?_ ?_
 ·intro h
  try refine nv ?_
  refine rA [] ?_
  refine⟨?_,rfl⟩
  simp only[aeB] at h
  simp[vY,h]
 intro h
 simp only[agZ] at h
 try refine nv ?_
 refine aj ?_ ?_
 ·intro h2
  try refine nv ?_
  refine rA [] ?_
  refine⟨?_,rfl⟩
  simp only[aeB] at h2
  simp[vY,h,h2]
 intro h2
 try refine nv ?_
 refine rA [] ?_
 refine⟨?_,rfl⟩
 simp only[agZ] at h2
 simp[vY,h,h2]
end Go.Proofs.YtcpgicfphakdaaaGreatDoor
