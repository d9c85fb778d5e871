/- A part of the proof. -/
import Derived.Test.YtpoodoknkbojgaaGreatDoorRP26
set_option maxRecDepth 100000
set_option maxHeartbeats 4000000
set_option linter.all false
namespace Go.Proofs.YtpoodoknkbojgaaGreatDoor
open Go.Ab Tys
variable [Dr]
theorem BA (v:Nat):1≤(iH v).length∧(iH v).length≤10:=by
 have:∀k v,1≤(eY k v).length∧(eY k v).length≤k+1:=by
  intro k
  induction k with
  |zero=>intro v;simp[eY]
  |succ k ih=>
   intro v
   simp only[eY]
   split
   ·simp
   ·have:=ih (v/128);simp only[List.length_cons];omega
 exact this 9 v
theorem WC (v:Nat):((v:Int)/2^7)=((v/128:Nat):Int):=by
 rw[show(2:Int)^7=128 by decide];omega
theorem XQ {k v:Nat} (hk:k≤9) (h:v<2^(70-7*k)):v/128<2^(70-7*(k+1)):=by
 have e:70-7*k=7+(70-7*(k+1)):=by omega
 rw[e,Nat.pow_add] at h
 omega
def YW.kk:=p3 kB Tryz.ntmps170 Tryz.results170
open YW in
theorem yx (v:Nat) (hv:v<2^64):AC Tryz.prog 170 [I .u64 v] [] (fun r st=>(∃n:Nat,1≤n∧n≤10∧r=I .i64 n)∧st=[]):=by
 refine dI Tryz.func170 Tryz.ntmps170 fun x hx=>?_
 try refine nv ?_
 refine CG (n:=7) (by simp) rfl rfl rfl (by decide) ?_
 refine dQ ?_
 rw[WC]
 try refine nv ?_
 refine aW (ι:=Nat×Nat) (I:=fun i=>⟨13,[(0,I .u64 i.2),(3,I .i64 i.1)],[]⟩) (Inv:=fun i=>1≤i.1∧i.1≤10∧i.2<2^(70-7*i.1)) (μ:=fun i=>i.2) (1,v/128) ⟨by omega,by omega,by simp only;omega⟩ ?_ ?_
 ·exact fM
 rintro⟨k,u⟩ ⟨h1,h2,h3⟩
 simp only at h1 h2 h3⊢
 try refine nv ?_
 refine aU ?_ ?_
 ·intro hlt
  have hlt':0<u:=by simpa using hlt
  have hk:k≤9:=by
   rcases aaT 9 k with h|h
   ·obtain rfl:k=10:=by omega
    simp at h3;omega
   ·exact h
  have h4:=XQ hk h3
  try refine nv ?_
  refine CG (n:=7) (by simp) rfl rfl rfl (by decide) ?_
  refine dQ ?_
  rw[WC]
  try refine nv ?_
  refine⟨(k+1,u/128),⟨by simp,by simp;omega,h4⟩,by simp only;omega,?_⟩
  exact WF @Int.natCast_add
 ·intro _
  try refine nv ?_
  refine rA [] ?_
  refine⟨?_,rfl⟩
  exact⟨k,h1,h2,rfl⟩
def Zv.kk:=p8 kB kS Tryz.ntmps169 Tryz.underlying33 jJ oh Jp Tryz.results169
open Zv in
theorem mr (n:Nat) (hn:n≤1000000):AC Tryz.prog 169 [.c (.d (.v (.slice none 0 0))),I .i64 n] [] (fun r st=>r= .c (.ms 12 1 0 0)∧st=[(12,aC 1 [])]):=by
 refine dI Tryz.func169 Tryz.ntmps169 fun x hx=>?_
 refine jk ?_
 refine gg ?_
 refine jk ?_
 refine bu (wr:=false) 5 (by simp only[kk,Nat.reduceAdd,Nat.reduceLT,Nat.reduceEqDiff, ↓reduceIte,reduceCtorEq];first|done|rfl) (by first|exact trivial|(simp[All,aV];done)|(simp[All,aV];omega)) ?_
 refine S9 jJ Jp (by simp) rfl rfl (by simp[Ab.get]) (by omega) (by show(1:Int)*_≤_;omega) (by omega) ?_
 refine dQ ?_
 try refine nv ?_
 refine Qj (by simp) rfl rfl rfl jJ Jp ?_
 refine dQ ?_
 try refine nv ?_
 refine rA ([(12,aC 1 [])]) ?_
 refine⟨?_,rfl⟩
 rfl
omit [Dr] in
theorem KD {k v:Nat} (h:128≤v) (hv:v<2*128^k):∃j,k=j+1∧v/128<2*128^j∧eY k v=UInt8.ofNat (v%128+128)::eY j (v/128):=by
 cases k with
 |zero=>simp at hv;omega
 |succ j=>
  refine⟨j,rfl,by rw[Nat.pow_succ] at hv;omega,?_⟩
  simp only[eY]
  rw[if_neg (by omega)]
omit [Dr] in
theorem PD {k v:Nat} (h:v<128):eY k v=[UInt8.ofNat v]:=by
 cases k with
 |zero=>rfl
 |succ j=>simp only[eY];rw[if_pos h]
omit [Dr] in
theorem xh (n:Int) (h0:0≤n) (h1:n<2^64):IntKind.u64.wrap n=n:=by rw[IntKind.wrap_u64];omega
omit [Dr] in
theorem Wh {v:Nat} (hv:v<2^64):bits .and .u64 (v:Int) 127=((v%128:Nat):Int):=by
 have:=bits_mask .u64 64 (by decide) xh 7 (by decide) (v:Int) (by omega) (by omega)
 rw[show(2:Int)^7-1=127 by decide,show(2:Int)^7=128 by decide] at this
 rw[this];omega
omit [Dr] in
theorem X8 {a:Nat} (h:a<128):bits .or .u64 (a:Int) 128=((a+128:Nat):Int):=by
 have:=(bits_nat .u64 64 (by decide) xh a 128 (by omega) (by decide)).2
 rw[show((128:Nat):Int)=128 by rfl] at this
 rw[this]
 have h2:=Nat.two_pow_add_eq_or_of_lt (i:=7) (by omega:a<2^7) 1
 rw[Nat.or_comm,show(128:Nat)=2^7*1 by decide,←h2]
 omega
omit [Dr] in
theorem grp {v:Nat} (hv:v<2^64):bits .or .u64 (bits .and .u64 (v:Int) 127) 128=((UInt8.ofNat (v%128+128)).toNat:Int):=by
 rw[Wh hv,X8 (by omega),UInt8.toNat_ofNat']
 omega
omit [Dr] in
theorem YH {v:Nat} (hv:v<128):(v:Int)=((UInt8.ofNat v).toNat:Int):=by
 rw[UInt8.toNat_ofNat']
 omega
def z168.kk:=p11 kB kS Tryz.ntmps168 Tryz.underlying33 Tryz.underlying45 Tryz.underlying5 jJ oh RS Jp Tryz.results168
open z168 in
theorem sS (bs:List UInt8) (v:Nat) (hv:v<2^64) (hb:bs.length≤10000000):AC Tryz.prog 168 [.c (.ms 12 1 0 bs.length),I .u64 v] [(12,aC 1 (bs.map bU))]
 (fun r st=>r= .c (.ms 20 1 0 (bs++iH v).length)∧st=[(12, .dead),(20,aC 1 ((bs++iH v).map bU))]):=by
 have h9:v<2*128^9:=by have:(2:Nat)*128^9=2^64:=by decide
                       omega
 have hlen:=BA v
 refine dI Tryz.func168 Tryz.ntmps168 fun x hx=>?_
 try refine nv ?_
 refine aW (ι:=Nat×Nat×List UInt8) (I:=fun i=>⟨21,[(0, .c (.ms 2001 1 0 i.2.2.length)),(1,I .u64 i.2.1)],[(12, .dead),(2001,aC 1 (i.2.2.map bU))]⟩)
  (Inv:=fun i=>i.2.1<2*128^i.1∧i.2.1<2^64∧i.2.2++eY i.1 i.2.1=bs++iH v) (μ:=fun i=>i.1) (9,v,bs) ⟨h9,hv,rfl⟩ ?_ ?_
 ·refine(JQ (i:=0) (id:=12) (id':=2001) rfl rfl rfl rfl).trans ?_
  refine dQ ?_
  exact fM
 rintro⟨k,u,cs⟩ ⟨h1,h2,h3⟩
 simp only at h1 h2 h3⊢
 have hcl:cs.length≤bs.length+10:=by
  have:=congrArg List.length h3
  simp only[aan] at this
  omega
 try refine nv ?_
 refine aU ?_ ?_
 ·intro hge
  have hge':128≤u:=by have:(128:Int)≤u:=(by simpa using hge);omega
  obtain⟨j,rfl,h4,h5⟩:=KD hge' h1
  rw[h5] at h3
  try refine nv ?_
  refine mg (.inl rfl) (by simp) rfl rfl ?_
  refine dQ ?_
  refine mg (.inr (.inl rfl)) (by simp) rfl rfl ?_
  refine dQ ?_
  rw[grp h2]
  have hb8:=UInt8.toNat_lt (UInt8.ofNat (u%128+128))
  generalize UInt8.ofNat (u%128+128)=b at h3 hb8⊢
  try refine nv ?_
  refine CG (n:=7) (by simp) rfl rfl rfl (by decide) ?_
  refine dQ ?_
  rw[WC]
  try refine nv ?_
  refine⟨(j,u/128,cs++[b]),⟨h4,by simp only;omega,by simp only[aas,List.cons_append,List.nil_append];exact h3⟩,by simp only;omega,?_⟩
  exact Ro (fun i=>if i=2001 then 15 else i)
 ·intro hlt
  have hlt':u<128:=by have:(u:Int)<128:=(by simpa using hlt);omega
  rw[PD hlt'] at h3
  rw[YH hlt']
  have hb8:=UInt8.toNat_lt (UInt8.ofNat u)
  generalize UInt8.ofNat u=b at h3 hb8⊢
  try refine nv ?_
  refine rA ([(12, .dead),(20,aC 1 ((cs++[b]).map bU))]) ?_
  rw[←h3]
  refine⟨?_,rfl⟩
  simp
end Go.Proofs.YtpoodoknkbojgaaGreatDoor
