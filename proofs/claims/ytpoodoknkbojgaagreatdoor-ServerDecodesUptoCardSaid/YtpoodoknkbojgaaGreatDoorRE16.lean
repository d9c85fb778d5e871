/- A part of the proof. -/
import Derived.Test.YtpoodoknkbojgaaGreatDoorRE1
import Derived.Test.YtpoodoknkbojgaaGreatDoorRP37
set_option linter.all false
namespace Go.Proofs.YtpoodoknkbojgaaGreatDoor
open Go.Ab Tys
variable [Dr]
@[reducible] def pU (n:Nat):Bool×List C:=(false,[.d (.v (.int .u64 (n:Int)))])
def uE:List UInt8→Nat→Int
 |[],_=>11
 |c::l,i=>if i=9∧c.toNat≠1 then 12 else if 128≤c.toNat then uE l (i+1) else 12
def Pv (l:List UInt8) (n:Nat):List (Bool×List C):=
 match uL (l.drop n) 0 0 with
 |some q=>[pU q.1,pI ((l.length-q.2.length:Nat):Int),pI 0]
 |none=>[pU 0,pI 0,pI (uE (l.drop n) 0)]
omit [Dr] in
theorem WE (n:Int) (h0:0≤n) (h1:n<2^8):IntKind.u8.wrap n=n:=by rw[IntKind.wrap_u8];omega
omit [Dr] in
theorem Zf (c:UInt8):bits .and .u8 (c.toNat:Int) 127=((c.toNat%128:Nat):Int):=by
 have hb:=UInt8.toNat_lt c
 have:=bits_mask .u8 8 (by decide) WE 7 (by decide) (c.toNat:Int) (by omega) (by omega)
 rw[show(2:Int)^7-1=127 by decide,show(2:Int)^7=128 by decide] at this
 rw[this];omega
omit [Dr] in
theorem YJ {a k:Nat} (h:a*2^(7*k)<2^64):IntKind.u64.wrap ((a:Int)*2^(7*k))=((a*2^(7*k):Nat):Int):=by
 have e:((a:Int)*2^(7*k))=((a*2^(7*k):Nat):Int):=by push_cast;rfl
 rw[e]
 exact xh _ (by omega) (by exact_mod_cast h)
omit [Dr] in
theorem ZY {v a k:Nat} (hv:v<2^(7*k)) (h:a*2^(7*k)<2^64) (h2:v<2^64):bits .or .u64 (v:Int) ((a*2^(7*k):Nat):Int)=((v+a*2^(7*k):Nat):Int):=by
 have:=(bits_nat .u64 64 (by decide) xh v (a*2^(7*k)) h2 h).2
 rw[this]
 have h3:=Nat.two_pow_add_eq_or_of_lt hv a
 rw[Nat.or_comm,Nat.mul_comm a,←h3,Nat.add_comm]
omit [Dr] in
theorem YC {v a k:Nat} (hk:k≤9) (ha:a<128) (h9:k=9→a≤1) (hv:v<2^(7*k)):a*2^(7*k)<2^64∧v<2^64∧v+a*2^(7*k)<2^(7*(k+1)):=by
 have e:2^(7*(k+1))=128*2^(7*k):=by rw[show 7*(k+1)=7+7*k by omega,Nat.pow_add]
 have h1:a*2^(7*k)≤127*2^(7*k):=aau _ (by omega)
 rcases aaT k 9 with h|h
 ·have h2:2^(7*k)≤2^56:=Nat.pow_le_pow_right (by omega) (by omega)
  omega
 ·obtain rfl:k=9:=by omega
  have h9:=h9 rfl
  have h2:a*2^(7*9)≤1*2^(7*9):=aau _ h9
  omega
def YB.kk:=p11 kB kG kS Tryz.ntmps120 Tryz.underlying33 Tryz.underlying45 Tryz.underlying5 jJ oh Jp Tryz.results120
set_option maxRecDepth 100000 in
set_option maxHeartbeats 8000000 in
open YB in
theorem FH (l:List UInt8) (n:Nat) (hn:n≤l.length) (hl:l.length≤1000000000):AC Tryz.prog 120 [.c (.d (.ps 1 (l.map bU))),I .i64 n] [] (fun r st=>r= .tup (Pv l n)∧st=[]):=by
 unfold Pv
 have hml:(l.drop n).length=l.length-n:=aaQ
 refine dI Tryz.func120 Tryz.ntmps120 fun x hx=>?_
 try refine nv ?_
 refine aU ?_ ?_
 ·intro h
  exfalso
  revert h
  have h1:¬((n:Int)<0):=by omega
  have h2:¬((l.length:Int)<n):=by omega
  simp[h1,h2]
 intro _
 try refine nv ?_
 rw[←List.map_drop]
 generalize l.drop n=m at hml⊢
 refine aW (ι:=Nat×Nat) (I:=fun i=>⟨54,[(1,I .i64 n),(4,I .u64 i.2),(5,I .i64 0),(6,I .i64 0),(19, .c (.d (.ps 1 (m.map bU)))),(20,I .i64 m.length),(21,I .i64 i.1)],[]⟩)
  (Inv:=fun i=>i.1≤m.length∧i.1≤9∧i.2<2^(7*i.1)∧uL m 0 0=uL (m.drop i.1) i.1 i.2∧uE m 0=uE (m.drop i.1) i.1) (μ:=fun i=>m.length-i.1) (0,0) ⟨by simp,by simp,by simp,rfl,rfl⟩ ?_ ?_
 ·exact fM
 rintro⟨k,v⟩ ⟨h1,h2,h3,h4,h5⟩
 simp only at h1 h2 h3 h4 h5⊢
 try refine nv ?_
 refine aU ?_ ?_
 rotate_left
 ·intro h
  have hk:k=m.length:=by have:¬k<m.length:=(by simpa using h);omega
  rw[hk,abU] at h4 h5
  simp only[uL] at h4
  simp only[uE] at h5
  rw[h4,h5]
  try refine nv ?_
  refine rA [] ?_
  refine⟨?_,rfl⟩
  rfl
 intro hlt
 have hlt':k<m.length:=by simpa using hlt
 obtain⟨c,hc,he,_⟩:=round bU m k 0 hlt'
 have hcb:=UInt8.toNat_lt c
 have hdr:m.drop k=c::m.drop (k+1):=by
  obtain⟨h6,h7⟩:=aal.1 hc
  rw[List.drop_eq_getElem_cons h6,h7]
 rw[hdr] at h4 h5
 simp only[uL] at h4
 simp only[uE] at h5
 try refine nx @he ?_
 refine aU ?_ ?_
 ·intro h
  have h6:k=9∧c.toNat≠1:=by
   by_cases a:(k:Int)=9
   ·by_cases b:(c.toNat:Int)=1
    ·simp[a,b] at h
    ·exact⟨by omega,by omega⟩
   ·simp[a] at h
  rw[if_pos h6] at h4 h5
  rw[h4,h5]
  try refine nv ?_
  refine rA [] ?_
  refine⟨?_,rfl⟩
  rfl
 intro h
 have h6:¬(k=9∧c.toNat≠1):=by
  rintro⟨a,b⟩
  have a':(k:Int)=9:=by omega
  have b':¬(c.toNat:Int)=1:=by omega
  simp[a',b'] at h
 clear h
 rw[if_neg h6] at h4 h5
 have hacc:=YC (v:=v) (a:=c.toNat%128) h2 (by omega) (fun h=>by omega) h3
 try refine nv ?_
 refine mg (.inl rfl) (by simp) rfl rfl ?_
 refine dQ ?_
 rw[Zf]
 refine uH (by simp) rfl Tryz.underlying5 Tryz.underlying45 ?_
 refine dQ ?_
 rw[xh _ (by omega) (by omega)]
 try refine nv ?_
 refine Qh (n:=7*k) (by simp) rfl rfl (by push_cast;rfl) (by show 7*k≤64;omega) ?_
 refine dQ ?_
 rw[YJ hacc.1]
 refine mg (.inr (.inl rfl)) (by simp) rfl rfl ?_
 refine dQ ?_
 rw[ZY h3 hacc.1 hacc.2.1]
 generalize v+c.toNat%128*2^(7*k)=u at h4 hacc⊢
 try refine nv ?_
 refine aU ?_ ?_
 ·intro h
  have hc8:128≤c.toNat:=by have:(128:Int)≤c.toNat:=(by simpa using h);omega
  rw[if_pos hc8] at h4 h5
  try refine nv ?_
  refine⟨(k+1,u),⟨by simp only;omega,by simp only;omega,hacc.2.2,h4,h5⟩,by simp only;omega,?_⟩
  exact WF @Int.natCast_add
 intro h
 have hc8:¬128≤c.toNat:=by have:¬(128:Int)≤c.toNat:=(by simpa using h);omega
 rw[if_neg hc8] at h4 h5
 clear h
 try refine nv ?_
 refine aU ?_ ?_
 ·intro h
  have h7:c.toNat=0∧0<k:=by
   by_cases a:(c.toNat:Int)=0
   ·by_cases b:(0:Int)<k
    ·exact⟨by omega,by omega⟩
    ·rw[aaV a,aaE b] at h;cases h
   ·rw[aaE a] at h;cases h
  rw[if_pos h7] at h4
  rw[h4,h5]
  try refine nv ?_
  refine rA [] ?_
  refine⟨?_,rfl⟩
  rfl
 intro h
 have h7:¬(c.toNat=0∧0<k):=by
  rintro⟨a,b⟩
  have a':(c.toNat:Int)=0:=by omega
  have b':(0:Int)<k:=by omega
  rw[aaV a',aaV b'] at h;cases h
 rw[if_neg h7] at h4
 rw[h4]
 have hend:((l.length-(m.drop (k+1)).length:Nat):Int)=(n:Int)+k+1:=by rw[aaQ];omega
 try refine nv ?_
 refine rA [] ?_
 refine⟨?_,rfl⟩
 simp only[hend]
end Go.Proofs.YtpoodoknkbojgaaGreatDoor
