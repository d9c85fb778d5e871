/- A part of the proof. -/
import Derived.Test.YtpoodoknkbojgaaGreatDoorRX1
set_option linter.all false
namespace Go.Proofs.YtpoodoknkbojgaaGreatDoor
open Go.Ab Tys
variable [Dr]
def PB (n:Nat) (p:fZ):Prop:=p.parts.length≤n∧∀s∈p.parts,s.size≤n
theorem PB.get {n:Nat} {p:fZ} (h:PB n p) (i:Nat):(p.parts.getD i noS).size≤n:=by
 rw[aam]
 cases e:p.parts[i]? with
 |none=>exact aaA _
 |some s=>exact h.2 s (aah e)
theorem PB.mono {n m:Nat} {p:fZ} (h:PB n p) (hm:n≤m):PB m p:=⟨aav h.1 hm,fun s hs=>aav (h.2 s hs) hm⟩
def z26.kk:=X6 kB kG kS Tryz.ntmps26 Tryz.underlying53 iF uA jF oJ vO CO lS sQ Tryz.results26
set_option maxRecDepth 100000 in
set_option maxHeartbeats 4000000 in
open z26 in
theorem J3 (p:fZ) (hp:PB 4000000 p):AC Tryz.prog 26 [aPat p] [] (fun r st=>r=I .i64 (dR p)∧st=[]):=by
 obtain⟨ps,rs⟩:=p
 have h1:=hp.1
 have hb0:=hp.get 0
 simp only at h1 hb0
 have e0:((ps.map encS).getD (Int.toNat 0) []).getD 0 (D.v (.string .empty))=D.v (.string (ps.getD 0 noS)):=by cases ps<;>rfl
 have hc:AC Tryz.prog 68 [.c (.d (((ps.map encS).getD (Int.toNat 0) []).getD 0 (D.v (.string .empty))))] [] (fun r st=>r=B (comp (ps.getD 0 noS))∧st=[]):=by rw[e0];exact Hu _ hb0
 refine dI Tryz.func26 Tryz.ntmps26 fun x hx=>?_
 try refine nv ?_
 refine so ([(25,B (comp (ps.getD 0 noS)))]) ?_ ?_
 ·exact Fa @hc
 try refine nv ?_
 generalize hq:comp (ps.getD 0 noS)=q
 refine aU ?_ ?_
 ·intro h
  have h':ps.length=0∨(ps.length=1∧rs=false)∨q=false:=by
   by_cases e:ps.length=0
   ·exact .inl e
   have e':decide ((ps.length:Int)=0)=false:=aaE (by omega)
   simp only[e',cond_false] at h
   by_cases e1:ps.length=1
   ·cases rs
    ·exact .inr (.inl ⟨e1,rfl⟩)
    ·simp only[Bool.not_true,cond_false,Bool.cond_false_right,Bool.and_false] at h
     exact .inr (.inr (by simpa using h))
   ·have e2:decide ((ps.length:Int)=1)=false:=aaE (by omega)
    simp only[e2,cond_false] at h
    exact .inr (.inr (by simpa using h))
  try refine nv ?_
  refine rA [] ?_
  refine⟨?_,rfl⟩
  simp only[dR,hq]
  rw[if_pos h']
 intro h
 have h':¬(ps.length=0∨(ps.length=1∧rs=false)∨q=false):=by
  by_cases e:ps.length=0
  ·have e':decide ((ps.length:Int)=0)=true:=aaV (by omega)
   simp only[e',cond_true] at h;cases h
  have e':decide ((ps.length:Int)=0)=false:=aaE (by omega)
  simp only[e',cond_false] at h
  by_cases e1:ps.length=1
  ·have e2:decide ((ps.length:Int)=1)=true:=aaV (by omega)
   simp only[e2,cond_true] at h
   rintro(h9|⟨_,h9⟩|h9)
   ·exact e h9
   ·rw[h9] at h;cases h
   ·rw[h9] at h;cases rs<;>cases h
  ·have e2:decide ((ps.length:Int)=1)=false:=aaE (by omega)
   simp only[e2,cond_false] at h
   rintro(h9|⟨h9,_⟩|h9)
   ·exact e h9
   ·exact e1 h9
   ·rw[h9] at h;cases h
 have hpos:1≤ps.length:=by rcases Nat.eq_zero_or_pos ps.length with e|e;·exact absurd (.inl e) h'
                           exact e
 try refine nv ?_
 have hl:(ps.drop 1).length=ps.length-1:=by simp
 refine aW (ι:=Nat) (I:=fun k=>⟨44,[(1, .c (.ptr 1 0)),(30, .c (.d (.ps 1 ((ps.drop 1).map encS)))),(31,I .i64 (ps.drop 1).length),(32,I .i64 k)],[(1, .box ((iG ⟨ps,rs⟩).map C.d))]⟩)
  (Inv:=fun k=>k≤(ps.drop 1).length∧((ps.drop 1).take k).all iY=true) (μ:=fun k=>(ps.drop 1).length-k) 0 ⟨by omega,by simp⟩ ?_ ?_
 ·exact fM
 rintro k ⟨hk,hall⟩
 try refine nv ?_
 refine aU ?_ ?_
 ·intro hlt
  have hlt':k<(ps.drop 1).length:=by simpa using hlt
  obtain⟨v,hv,he,htk⟩:=round encS (ps.drop 1) k noS hlt'
  have hvs:v.size≤4000000:=hp.2 v (abD (aah hv))
  (repeat (first|refine nx @he ?_|refine cf (Rz v hvs) ?_))
  refine aU ?_ ?_
  ·intro hb
   have hb':iY v=false:=by simpa using hb
   have hn:¬(ps.drop 1).all iY=true:=by
    intro e
    rw[aaC] at e;rw[e v (aah hv)] at hb';cases hb'
   try refine nv ?_
   refine rA [] ?_
   refine⟨?_,rfl⟩
   simp only[dR,hq]
   rw[if_neg h',if_neg hn]
  ·intro hb
   have hb':iY v=true:=by simpa using hb
   try refine nv ?_
   refine⟨k+1,⟨by omega,?_⟩,by omega,?_⟩
   ·rw[htk,abV,hall];simp[hb']
   ·exact fM
 intro hge
 have hk':k=(ps.drop 1).length:=by have:¬k<(ps.drop 1).length:=by simpa using hge
                                   omega
 rw[hk',aaJ] at hall
 try refine nv ?_
 refine aU ?_ ?_
 ·intro hm
  have hm':12<ps.length:=by have:=aaG hm
                            omega
  try refine nv ?_
  refine rA [] ?_
  refine⟨?_,rfl⟩
  simp only[dR,hq]
  rw[if_neg h',if_pos hall,if_pos hm']
 ·intro hm
  have hm':¬12<ps.length:=by have:=abJ hm
                             omega
  try refine nv ?_
  refine rA [] ?_
  refine⟨?_,rfl⟩
  simp only[dR,hq]
  rw[if_neg h',if_pos hall,if_neg hm']
end Go.Proofs.YtpoodoknkbojgaaGreatDoor
