/- A part of the proof. -/
import Derived.Ground.NamesProg
import Derived.Shelf.Lay
import Derived.Test.YtcpgicfphakdaaaGreatDoorRX2
set_option linter.all false
namespace Go.Proofs
open Go.Shelf
shelf_lay Lays.n156 Nm 156 at Tryz as Tryz.lays156
theorem Tryz.abR:Builder.Extra Tryz.prog Tryz.lays156_ren where
 sizeBuilder:=by kernel_rfl
 liesBuilder:=by kernel_rfl
 t5:=Tryz.underlying5
 a5:=Tryz.isAgg5
 z5:=Tryz.sizeOf5
 v5:=Tryz.zeroValue5
 infoByte:=by kernel_rfl
 cellsByte:=by kernel_rfl
 sizeByte:=by kernel_rfl
 neB5:=by decide
end Go.Proofs
namespace Go.Proofs.YtcpgicfphakdaaaGreatDoor
open Go.Ab Tys
variable [yF]
theorem FP (l:List ByteArray) (sep:ByteArray) (hl:l.length≤1000000) (hs:(dL l sep).size≤140737488355328):
 AC Tryz.prog 145 [iy l,Str sep] [] (fun r st=>r=Str (dL l sep)∧st=[]):=
 ZQ (P:=Tryz.prog) ⟨_,Tryz.func145,by kernel_rfl,by kernel_rfl⟩ (by kernel_rfl) Tryz.lays156 Tryz.abR l sep hl hs
end Go.Proofs.YtcpgicfphakdaaaGreatDoor
namespace Go.Proofs.YtcpgicfphakdaaaGreatDoor
open Go.Ab Tys
variable [yF]
theorem TF {n:Nat}:∀l:List ByteArray,(∀s∈l,s.size≤n)→Lib.lens (l.map (·.data.toList))≤l.length*n
 |[],_=>by simp[Lib.lens]
 |a::l,h=>by
  have ih:=TF l fun s hs=>h s (by simp[hs])
  have ha:a.data.size≤n:=h a (by simp)
  simp only[Lib.lens,List.map_cons,List.sum_cons,List.length_cons,Nat.add_mul,Nat.one_mul,Array.length_toList] at ih⊢
  omega
theorem Ip {n:Nat} (l:List ByteArray) (h:∀s∈l,s.size≤n):(dL l slash).size≤l.length*(n+1):=by
 have e:(dL l slash).size=(Lib.join (l.map (·.data.toList)) [47]).length:=by simp[dL,ByteArray.size,slash]
 rw[e]
 cases l with
 |nil=>simp[Lib.join_nil]
 |cons a l=>
  have:=TF (a::l) h
  rw[List.map_cons,Lib.join_length,←List.map_cons (f:=fun s:ByteArray=>s.data.toList)]
  simp only[List.length_cons,List.length_nil,List.length_map,Nat.mul_add,Nat.mul_one] at this⊢
  omega
theorem Dn (l:List ByteArray) (hl:l.length≤1000000) (h:∀s∈l,s.size≤1000000):(dL l slash).size≤140737488355328:=by
 have h1:=Ip l h
 have h2:l.length*(1000000+1)≤1000000*(1000000+1):=Nat.mul_le_mul_right _ hl
 omega
theorem aaC {p:bH} (h:gz p=true):1≤p.parts.length:=by
 unfold gz bV at h
 rw[decide_eq_true_eq] at h
 split at h
 ·omega
 ·rename_i h1
  simp only[not_or] at h1
  omega
theorem Dc (ps ls:List ByteArray):∀k,(iR ps ls k).length≤k
 |0=>Nat.le_refl _
 |k+1=>by
  have:=Dc ps ls k
  simp only[iR,List.length_append]
  split<;>simp<;>omega
theorem Dw (ps ls:List ByteArray) (k:Nat):sG ps ls (k+1)=(sG ps ls k&&(qw (ps.getD k noS) (ls.getD k noS)).2):=by
 simp[sG,List.range_succ,List.all_append]
theorem Wi {ps ls:List ByteArray} {k n:Nat} (hk:k<n) (h:(qw (ps.getD k noS) (ls.getD k noS)).2=false):sG ps ls n=false:=by
 cases e:sG ps ls n
 ·rfl
 ·have:=jm n k _ hk e
  rw[h] at this;cases this
theorem XU {s:ByteArray} {l:List ByteArray} (h:aJ s=some l):l.length≤s.size+1:=by
 unfold aJ at h
 split at h
 ·rename_i l' hpp
  split at h
  ·cases h
  ·cases h
   unfold iT at hpp
   split at hpp
   ·split at hpp
    ·cases hpp
     have h1:=sJ (s.extract 2 s.size)
     rw[ByteArray.size_extract] at h1
     omega
    ·cases hpp
   ·cases hpp
 ·cases h
theorem getD_some {α:Type} {l:List α} {k:Nat} {v z:α} (h:l[k]? =some v):l.getD k z=v:=by simp[List.getD_eq_getElem?_getD,h]
end Go.Proofs.YtcpgicfphakdaaaGreatDoor
