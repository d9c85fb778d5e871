/- A part of the proof. -/
import Derived.Test.YtcpgicfphakdaaaGreatDoorRU7
import Derived.Ground.NamesProg
import Derived.Shelf.Lay
set_option linter.all false
namespace Go.Proofs
open Go.Shelf
shelf_lay Lays.n156 Nm 156 at Tryz as Tryz.lays156
theorem Tryz.agd:Builder.Extra Tryz.prog Tryz.lays156_ren where
 sizeBuilder:=by kernel_rfl
 liesBuilder:=by kernel_rfl
 t5:=Tryz.underlying5
 a5:=Tryz.isAgg5
 z5:=Tryz.sizeOf5
 v5:=Tryz.zeroValue5
 infoByte:=by kernel_rfl
 cellsByte:=by kernel_rfl
 sizeByte:=by kernel_rfl
 neB5:=by decide
end Go.Proofs
namespace Go.Proofs.YtcpgicfphakdaaaGreatDoor
section
open Go.Ab Tys
variable [zg]
theorem Lj (l:List akK) (sep:akK) (hl:l.length≤1000000) (hs:(dR l sep).size≤140737488355328):
 AC Tryz.prog 145 [jr l,Str sep] [] (fun r st=>r=Str (dR l sep)∧st=[]):=
 aea (P:=Tryz.prog) ⟨_,Tryz.func145,by kernel_rfl,by kernel_rfl⟩ (by kernel_rfl) Tryz.lays156 Tryz.agd l sep hl hs
end
section
open Go.Ab Tys
variable [zg]
theorem Xl {n:Nat}:∀l:List akK,(∀s∈l,s.size≤n)→Lib.lens (l.map (·.data.toList))≤l.length*n
 |[],_=>by simp[Lib.lens]
 |a::l,h=>by
  have ih:=Xl l fun s hs=>h s (by simp[hs])
  have ha:a.data.size≤n:=h a (by simp)
  simp only[Lib.lens,agV,List.sum_cons,List.length_cons,akg,Nat.one_mul,Array.length_toList] at ih⊢
  omega
theorem La {n:Nat} (l:List akK) (h:∀s∈l,s.size≤n):(dR l slash).size≤l.length*(n+1):=by
 have e:(dR l slash).size=(Lib.join (l.map (·.data.toList)) [47]).length:=by simp[dR,ByteArray.size,slash]
 rw[e]
 cases l with
 |nil=>simp[Lib.join_nil]
 |cons a l=>
  have:=Xl (a::l) h
  rw[agV,Lib.join_length,←agV (f:=fun s:akK=>s.data.toList)]
  simp only[List.length_cons,List.length_nil,ae1,Nat.mul_add,Nat.mul_one] at this⊢
  omega
theorem F9 (l:List akK) (hl:l.length≤1000000) (h:∀s∈l,s.size≤1000000):(dR l slash).size≤140737488355328:=by
 have h1:=La l h
 have h2:l.length*(1000000+1)≤1000000*(1000000+1):=ajp _ hl
 omega
theorem aeP {p:bV} (h:iU p=true):1≤p.parts.length:=by
 unfold iU dm at h
 rw[aeB] at h
 split at h
 ·omega
 ·rename_i h1
  simp only[not_or] at h1
  omega
theorem Fz (ps ls:List akK):∀k,(jG ps ls k).length≤k
 |0=>afJ _
 |k+1=>by
  have:=Fz ps ls k
  simp only[jG,afI]
  split<;>simp<;>omega
theorem He (ps ls:List akK) (k:Nat):wF ps ls (k+1)=(wF ps ls k&&(uA (ps.getD k noS) (ls.getD k noS)).2):=by
 simp[wF,List.range_succ,ajY]
theorem Zd {ps ls:List akK} {k n:Nat} (hk:k<n) (h:(uA (ps.getD k noS) (ls.getD k noS)).2=false):wF ps ls n=false:=by
 cases e:wF ps ls n
 ·rfl
 ·have:=kC n k _ hk e
  rw[h] at this;cases this
theorem aaY {s:akK} {l:List akK} (h:aG s=some l):l.length≤s.size+1:=by
 unfold aG at h
 split at h
 ·rename_i l' hpp
  split at h
  ·cases h
  ·cases h
   unfold jm at hpp
   split at hpp
   ·split at hpp
    ·cases hpp
     have h1:=xx (s.extract 2 s.size)
     rw[aj3] at h1
     omega
    ·cases hpp
   ·cases hpp
 ·cases h
theorem getD_some {α:Type} {l:List α} {k:Nat} {v z:α} (h:l[k]? =some v):l.getD k z=v:=by simp[adI,h]
end
end Go.Proofs.YtcpgicfphakdaaaGreatDoor
