/- A part of the proof. -/
import Derived.Test.YtpoodoknkbojgaaGreatDoorRAbEw
set_option maxRecDepth 100000
set_option maxHeartbeats 4000000
set_option linter.all false
namespace Go.Proofs.YtpoodoknkbojgaaGreatDoor
open Go.Ab Tys
variable [Dr]
theorem CZ (v:Nat):1≤(iZ v).length∧(iZ v).length≤10:=by
 have:∀k v,1≤(gW k v).length∧(gW k v).length≤k+1:=by
  intro k
  induction k with
  |zero=>intro v;simp[gW]
  |succ k ih=>
   intro v
   simp only[gW]
   split
   ·simp
   ·have:=ih (v/128);simp only[List.length_cons];omega
 exact this 9 v
theorem Qu (v:Nat):((v:Int)/2^7)=((v/128:Nat):Int):=by
 rw[show(2:Int)^7=128 by decide];omega
theorem QL {k v:Nat} (hk:k≤9) (h:v<2^(70-7*k)):v/128<2^(70-7*(k+1)):=by
 have e:70-7*k=7+(70-7*(k+1)):=by omega
 rw[e,Nat.pow_add] at h
 omega
def Tf.kk:=p3 kB Tryz.ntmps170 Tryz.results170
open Tf in
theorem tC (v:Nat) (hv:v<2^64):AC Tryz.prog 170 [I .u64 v] [] (fun r st=>(∃n:Nat,1≤n∧n≤10∧r=I .i64 n)∧st=[]):=by
 refine jH Tryz.func170 Tryz.ntmps170 fun x hx=>?_
 try refine nv ?_
 refine Az (n:=7) (by simp) rfl rfl rfl (by decide) ?_
 refine jF ?_
 rw[Qu]
 try refine nv ?_
 refine bP (ι:=Nat×Nat) (I:=fun i=>⟨13,[(0,I .u64 i.2),(3,I .i64 i.1)],[]⟩) (Inv:=fun i=>1≤i.1∧i.1≤10∧i.2<2^(70-7*i.1)) (μ:=fun i=>i.2) (1,v/128) ⟨by omega,by omega,by simp only;omega⟩ ?_ ?_
 ·exact jG
 rintro⟨k,u⟩ ⟨h1,h2,h3⟩
 simp only at h1 h2 h3⊢
 try refine nv ?_
 refine bV ?_ ?_
 ·intro hlt
  have hlt':0<u:=by simpa using hlt
  have hk:k≤9:=by
   rcases UI 9 k with h|h
   ·obtain rfl:k=10:=by omega
    simp at h3;omega
   ·exact h
  have h4:=QL hk h3
  try refine nv ?_
  refine Az (n:=7) (by simp) rfl rfl rfl (by decide) ?_
  refine jF ?_
  rw[Qu]
  try refine nv ?_
  refine⟨(k+1,u/128),⟨by simp,by simp;omega,h4⟩,by simp only;omega,?_⟩
  exact RH @Int.natCast_add
 ·intro _
  try refine nv ?_
  refine rA [] ?_
  refine⟨?_,rfl⟩
  exact⟨k,h1,h2,rfl⟩
def Tc.kk:=p8 kB kS Tryz.ntmps169 Tryz.underlying33 nD AQ KQ Tryz.results169
open Tc in
theorem jU (n:Nat) (hn:n≤1000000):AC Tryz.prog 169 [.c (.d (.v (.slice none 0 0))),I .i64 n] [] (fun r st=>r= .c (.ms 12 1 0 0)∧st=[(12,aC 1 [])]):=by
 refine jH Tryz.func169 Tryz.ntmps169 fun x hx=>?_
 refine mW ?_
 refine gg ?_
 refine mW ?_
 refine bI (wr:=false) 5 (by simp only[kk,Nat.reduceAdd,Nat.reduceLT,Nat.reduceEqDiff, ↓reduceIte,reduceCtorEq];first|done|rfl) (by first|exact trivial|(simp[All,aZ];done)|(simp[All,aZ];omega)) ?_
 refine Kz nD KQ (by simp) rfl rfl (by simp[Ab.get]) (by omega) (by show(1:Int)*_≤_;omega) (by omega) ?_
 refine jF ?_
 try refine nv ?_
 refine Kv (by simp) rfl rfl rfl nD KQ ?_
 refine jF ?_
 try refine nv ?_
 refine rA ([(12,aC 1 [])]) ?_
 refine⟨?_,rfl⟩
 rfl
omit [Dr] in
theorem FY {k v:Nat} (h:128≤v) (hv:v<2*128^k):∃j,k=j+1∧v/128<2*128^j∧gW k v=UInt8.ofNat (v%128+128)::gW j (v/128):=by
 cases k with
 |zero=>simp at hv;omega
 |succ j=>
  refine⟨j,rfl,by rw[Nat.pow_succ] at hv;omega,?_⟩
  simp only[gW]
  rw[if_neg (by omega)]
omit [Dr] in
theorem I7 {k v:Nat} (h:v<128):gW k v=[UInt8.ofNat v]:=by
 cases k with
 |zero=>rfl
 |succ j=>simp only[gW];rw[if_pos h]
omit [Dr] in
theorem Kw (n:Int) (h0:0≤n) (h1:n<2^64):IntKind.u64.wrap n=n:=by rw[IntKind.wrap_u64];omega
omit [Dr] in
theorem Qg {v:Nat} (hv:v<2^64):bits .and .u64 (v:Int) 127=((v%128:Nat):Int):=by
 have:=bits_mask .u64 64 (by decide) Kw 7 (by decide) (v:Int) (by omega) (by omega)
 rw[show(2:Int)^7-1=127 by decide,show(2:Int)^7=128 by decide] at this
 rw[this];omega
omit [Dr] in
theorem Rk {a:Nat} (h:a<128):bits .or .u64 (a:Int) 128=((a+128:Nat):Int):=by
 have:=(bits_nat .u64 64 (by decide) Kw a 128 (by omega) (by decide)).2
 rw[show((128:Nat):Int)=128 by rfl] at this
 rw[this]
 have h2:=Nat.two_pow_add_eq_or_of_lt (i:=7) (by omega:a<2^7) 1
 rw[Nat.or_comm,show(128:Nat)=2^7*1 by decide,←h2]
 omega
omit [Dr] in
theorem grp {v:Nat} (hv:v<2^64):bits .or .u64 (bits .and .u64 (v:Int) 127) 128=((UInt8.ofNat (v%128+128)).toNat:Int):=by
 rw[Qg hv,Rk (by omega),UInt8.toNat_ofNat']
 omega
omit [Dr] in
theorem Tq {v:Nat} (hv:v<128):(v:Int)=((UInt8.ofNat v).toNat:Int):=by
 rw[UInt8.toNat_ofNat']
 omega
def z168.kk:=p11 kB kS Tryz.ntmps168 Tryz.underlying33 Tryz.underlying45 Tryz.underlying5 nD AQ QW KQ Tryz.results168
open z168 in
theorem oZ (bs:List UInt8) (v:Nat) (hv:v<2^64) (hb:bs.length≤10000000):AC Tryz.prog 168 [.c (.ms 12 1 0 bs.length),I .u64 v] [(12,aC 1 (bs.map dR))]
 (fun r st=>r= .c (.ms 20 1 0 (bs++iZ v).length)∧st=[(12, .dead),(20,aC 1 ((bs++iZ v).map dR))]):=by
 have h9:v<2*128^9:=by have:(2:Nat)*128^9=2^64:=by decide
                       omega
 have hlen:=CZ v
 refine jH Tryz.func168 Tryz.ntmps168 fun x hx=>?_
 try refine nv ?_
 refine bP (ι:=Nat×Nat×List UInt8) (I:=fun i=>⟨21,[(0, .c (.ms 2001 1 0 i.2.2.length)),(1,I .u64 i.2.1)],[(12, .dead),(2001,aC 1 (i.2.2.map dR))]⟩)
  (Inv:=fun i=>i.2.1<2*128^i.1∧i.2.1<2^64∧i.2.2++gW i.1 i.2.1=bs++iZ v) (μ:=fun i=>i.1) (9,v,bs) ⟨h9,hv,rfl⟩ ?_ ?_
 ·refine(EL (i:=0) (id:=12) (id':=2001) rfl rfl rfl rfl).trans ?_
  refine jF ?_
  exact jG
 rintro⟨k,u,cs⟩ ⟨h1,h2,h3⟩
 simp only at h1 h2 h3⊢
 have hcl:cs.length≤bs.length+10:=by
  have:=congrArg List.length h3
  simp only[Uo] at this
  omega
 try refine nv ?_
 refine bV ?_ ?_
 ·intro hge
  have hge':128≤u:=by have:(128:Int)≤u:=(by simpa using hge);omega
  obtain⟨j,rfl,h4,h5⟩:=FY hge' h1
  rw[h5] at h3
  try refine nv ?_
  refine AX (.inl rfl) (by simp) rfl rfl ?_
  refine jF ?_
  refine AX (.inr (.inl rfl)) (by simp) rfl rfl ?_
  refine jF ?_
  rw[grp h2]
  have hb8:=UInt8.toNat_lt (UInt8.ofNat (u%128+128))
  generalize UInt8.ofNat (u%128+128)=b at h3 hb8⊢
  try refine nv ?_
  refine Az (n:=7) (by simp) rfl rfl rfl (by decide) ?_
  refine jF ?_
  rw[Qu]
  try refine nv ?_
  refine⟨(j,u/128,cs++[b]),⟨h4,by simp only;omega,by simp only[Uu,List.cons_append,List.nil_append];exact h3⟩,by simp only;omega,?_⟩
  exact OU (fun i=>if i=2001 then 15 else i)
 ·intro hlt
  have hlt':u<128:=by have:(u:Int)<128:=(by simpa using hlt);omega
  rw[I7 hlt'] at h3
  rw[Tq hlt']
  have hb8:=UInt8.toNat_lt (UInt8.ofNat u)
  generalize UInt8.ofNat u=b at h3 hb8⊢
  try refine nv ?_
  refine rA ([(12, .dead),(20,aC 1 ((cs++[b]).map dR))]) ?_
  rw[←h3]
  refine⟨?_,rfl⟩
  simp
def SC.kk:=p3 kB Tryz.ntmps111 Tryz.results111
open SC in
theorem xU (v:Nat) (hv:v<2^64):AC Tryz.prog 111 [.c (.d (.v (.slice none 0 0))),I .u64 v] [] (fun r st=>r= .c (.ms 20 1 0 (iZ v).length)∧st=[(20,aC 1 ((iZ v).map dR))]):=by
 refine jH Tryz.func111 Tryz.ntmps111 fun x hx=>?_
 try refine nv ?_
 refine gQ ([]) (tC v hv) ?_
 rintro rv9 st' ⟨⟨n,h1,h2,rfl⟩,rfl⟩<;>refine gU ?_
 try refine nv ?_
 refine gQ ([]) (jU n (by omega)) ?_
 rintro rv9 st' ⟨rfl,rfl⟩<;>refine gU ?_
 try refine nv ?_
 refine gQ ([(12,aC 1 (([]:List UInt8).map dR))]) (oZ [] v hv (by simp)) ?_
 rintro rv9 st' ⟨rfl,rfl⟩<;>refine gU ?_
 try refine nv ?_
 refine rA ([(20,aC 1 ((iZ v).map dR))]) ?_
 refine⟨?_,rfl⟩
 rfl
omit [Dr] in
theorem Np {a:Nat} (h:a<18446744073709551616):a ^^^ 18446744073709551615=18446744073709551615-a:=by
 have e:=congrArg BitVec.toNat (BitVec.xor_allOnes (x:=BitVec.ofNat 64 a))
 rw[BitVec.toNat_xor,BitVec.toNat_not,BitVec.toNat_ofNat,BitVec.toNat_allOnes,Nat.mod_eq_of_lt (by omega)] at e
 exact e
omit [Dr] in
theorem Sv (v:Int) (h:aZ .i64 v):bits .xor .u64 (IntKind.u64.wrap (IntKind.u64.wrap v*2^1)) (IntKind.u64.wrap (v/2^63))=((zz v:Nat):Int):=by
 simp only[aZ] at h
 rw[show(2:Int)^1=2 by decide,show(2:Int)^63=9223372036854775808 by decide]
 unfold zz
 by_cases hv:0≤v
 ·rw[if_pos hv]
  have e1:IntKind.u64.wrap (IntKind.u64.wrap v*2)=(((2*v).toNat:Nat):Int):=by rw[IntKind.wrap_u64,IntKind.wrap_u64];omega
  have e2:IntKind.u64.wrap (v/9223372036854775808)=((0:Nat):Int):=by rw[IntKind.wrap_u64];omega
  rw[e1,e2,bits_xor_u64_nat _ _ (by omega) (by omega),Nat.xor_zero]
 ·rw[if_neg hv]
  have e1:IntKind.u64.wrap (IntKind.u64.wrap v*2)=(((2*v+18446744073709551616).toNat:Nat):Int):=by rw[IntKind.wrap_u64,IntKind.wrap_u64];omega
  have e2:IntKind.u64.wrap (v/9223372036854775808)=((18446744073709551615:Nat):Int):=by rw[IntKind.wrap_u64];omega
  rw[e1,e2,bits_xor_u64_nat _ _ (by omega) (by omega),Np (by omega)]
  omega
def z48.kk:=p6 kB Tryz.ntmps48 Tryz.underlying3 Tryz.underlying45 ED Tryz.results48
open z48 in
theorem I9 (v:Int) (hv:aZ .i64 v):AC Tryz.prog 48 [.c (.d (.v (.slice none 0 0))),I .i64 v] [] (fun r st=>r= .c (.ms 20 1 0 (encI v).length)∧st=[(20,aC 1 ((encI v).map dR))]):=by
 refine jH Tryz.func48 Tryz.ntmps48 fun x hx=>?_
 refine mW ?_
 refine gg ?_
 refine mW ?_
 refine bI (wr:=false) 1 (by simp only[kk,Nat.reduceAdd,Nat.reduceLT,Nat.reduceEqDiff, ↓reduceIte,reduceCtorEq];first|done|rfl) (by first|exact trivial|(simp[All,aZ];done)|(simp[All,aZ];omega)) ?_
 refine Hy (by simp) rfl Tryz.underlying3 Tryz.underlying45 ?_
 refine jF ?_
 refine PW (n:=1) (by simp) rfl rfl rfl (by decide) ?_
 refine jF ?_
 refine bI (wr:=false) 0 (by simp only[kk,Nat.reduceAdd,Nat.reduceLT,Nat.reduceEqDiff, ↓reduceIte,reduceCtorEq];first|done|rfl) (by first|exact trivial|(simp[All,aZ];done)|(simp[All,aZ];omega)) ?_
 refine Az (n:=63) (by simp) rfl rfl rfl (by decide) ?_
 refine jF ?_
 refine Hy (by simp) rfl Tryz.underlying3 Tryz.underlying45 ?_
 refine jF ?_
 refine AX (.inr (.inr rfl)) (by simp) rfl rfl ?_
 refine jF ?_
 rw[Sv v hv]
 try refine nv ?_
 refine gQ ([]) (xU (zz v) (Pq hv)) ?_
 rintro rv9 st' ⟨rfl,rfl⟩<;>refine gU ?_
 try refine nv ?_
 refine rA ([(20,aC 1 ((iZ (zz v)).map dR))]) ?_
 refine⟨?_,rfl⟩
 rfl
def Sj.kk:=p11 kB kS Tryz.ntmps112 Tryz.underlying3 Tryz.underlying33 Tryz.underlying45 Tryz.underlying9 nD ED KQ Tryz.results112
open Sj in
theorem Fq (s:VJ) (hs:s.size≤100000):AC Tryz.prog 112 [.c (.d (.v (.slice none 0 0))),Str s] [] (fun r st=>r= .c (.ms 19 1 0 (fO s).length)∧st=[(19,aC 1 ((fO s).map dR))]):=by
 have hl:=CZ s.size
 refine jH Tryz.func112 Tryz.ntmps112 fun x hx=>?_
 try refine nv ?_
 refine gQ ([]) (tC s.size (by omega)) ?_
 rintro rv9 st' ⟨⟨n,h1,h2,rfl⟩,rfl⟩<;>refine gU ?_
 try refine nv ?_
 refine gQ ([]) (jU (n+s.size) (by omega)) ?_
 rintro rv9 st' ⟨rfl,rfl⟩<;>refine gU ?_
 try refine nv ?_
 refine gQ ([(12,aC 1 (([]:List UInt8).map dR))]) (oZ [] s.size (by omega) (by simp)) ?_
 rintro rv9 st' ⟨rfl,rfl⟩<;>refine gU ?_
 refine bI (wr:=false) 0 (by simp only[kk,Nat.reduceAdd,Nat.reduceLT,Nat.reduceEqDiff, ↓reduceIte,reduceCtorEq];first|done|rfl) (by first|exact trivial|(simp[All,aZ];done)|(simp[All,aZ];omega)) ?_
 refine Ip (id0:=20) (xs:=iQ (iZ s.size)) (by simp) rfl rfl (by simp[iQ]) (by simp[Ab.get,iQ]) (by decide) rfl nD KQ rfl rfl Tryz.underlying9 (by omega) ?_
 refine jF ?_
 rw[show iQ (iZ s.size)++iQ s.data.toList=((fO s).map dR).map (fun l=>l.map C.d) by simp[iQ,fO,dR,Function.comp_def]]
 try refine nv ?_
 refine rA ([(19,aC 1 ((fO s).map dR))]) ?_
 exact⟨by simp[fO],rfl⟩
def RY.kk:=p8 kB kS Tryz.ntmps172 Tryz.underlying33 nD AQ KQ Tryz.results172
open RY in
theorem Fh (b:Bool):AC Tryz.prog 172 [.c (.d (.v (.slice none 0 0))),B b] [] (fun r st=>r= .c (.ms 20 1 0 (jO b).length)∧st=[(20,aC 1 ((jO b).map dR))]):=by
 refine jH Tryz.func172 Tryz.ntmps172 fun x hx=>?_
 refine dH ?_
 try refine nv ?_
 refine bV ?_ ?_
 ·intro hb
  subst hb
  try refine nv ?_
  refine gQ ([]) (jU 1 (by omega)) ?_
  rintro rv9 st' ⟨rfl,rfl⟩<;>refine gU ?_
  try refine nv ?_
  refine⟨⟨12,[(4, .c (.ms 20 1 0 1))],[(20,aC 1 (([1]:List UInt8).map dR))]⟩,?_,?_⟩
  ·exact OU (fun i=>if i=20 then 11 else i)
  refine rA ([(20,aC 1 (([1]:List UInt8).map dR))]) ?_
  refine⟨?_,rfl⟩
  rfl
 ·intro hb
  subst hb
  try refine nv ?_
  refine gQ ([]) (jU 1 (by omega)) ?_
  rintro rv9 st' ⟨rfl,rfl⟩<;>refine gU ?_
  try refine nv ?_
  refine⟨⟨12,[(4, .c (.ms 20 1 0 1))],[(20,aC 1 (([0]:List UInt8).map dR))]⟩,?_,?_⟩
  ·exact OU (fun i=>if i=20 then 11 else i)
  refine rA ([(20,aC 1 (([0]:List UInt8).map dR))]) ?_
  refine⟨?_,rfl⟩
  rfl
end Go.Proofs.YtpoodoknkbojgaaGreatDoor
