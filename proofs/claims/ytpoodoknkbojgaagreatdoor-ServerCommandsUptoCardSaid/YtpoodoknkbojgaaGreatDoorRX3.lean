/- A part of the proof. -/
import Derived.Ground.NamesProg
import Derived.Shelf.Lay
import Derived.Test.YtpoodoknkbojgaaGreatDoorRX2
set_option linter.all false
namespace Go.Proofs
open Go.Shelf
shelf_lay Lays.n156 Nm 156 at Tryz as Tryz.lays156
theorem Tryz.Xd:Builder.Extra Tryz.prog Tryz.lays156_ren where
 sizeBuilder:=by kernel_rfl
 liesBuilder:=by kernel_rfl
 t5:=Tryz.underlying5
 a5:=Tryz.isAgg5
 z5:=Tryz.sizeOf5
 v5:=Tryz.zeroValue5
 infoByte:=by kernel_rfl
 cellsByte:=by kernel_rfl
 sizeByte:=by kernel_rfl
 neB5:=by decide
end Go.Proofs
namespace Go.Proofs.YtpoodoknkbojgaaGreatDoor
section
open Go.Ab Tys
variable [wJ]
theorem Sv (l:List abW) (sep:abW) (hl:l.length≤1000000) (hs:(eX l sep).size≤140737488355328):
 AC Tryz.prog 259 [yw l,Str sep] [] (fun r st=>r=Str (eX l sep)∧st=[]):=
 UH (P:=Tryz.prog) ⟨_,Tryz.func259,by kernel_rfl,by kernel_rfl⟩ (by kernel_rfl) Tryz.lays156 Tryz.Xd l sep hl hs
end
section
open Go.Ab Tys
variable [wJ]
def z119.kk:=X6 kB kG Tryz.ntmps119 Tryz.underlying4 Tryz.underlying53 iF uA jF oJ vO CO lS sQ Tryz.results119
set_option maxRecDepth 100000 in
set_option maxHeartbeats 4000000 in
open z119 in
theorem Rt (p q:fZ) (hp:p.parts.length≤1000000) (hq:q.parts.length≤1000000):AC Tryz.prog 119 [aPat p,aPat q] [] (fun r st=>r=B (decide (p=q))∧st=[]):=by
 obtain⟨ps,rp⟩:=p
 obtain⟨qs,rq⟩:=q
 simp only at hp hq
 refine dI Tryz.func119 Tryz.ntmps119 fun x hx=>?_
 try refine nv ?_
 refine aU ?_ ?_
 ·intro h
  have hne:¬((⟨ps,rp⟩:fZ)=⟨qs,rq⟩):=by
   intro e
   simp only[fZ.mk.injEq] at e
   obtain⟨rfl,rfl⟩:=e
   simp at h
  try refine nv ?_
  refine rA [] ?_
  refine⟨?_,rfl⟩
  simp[hne]
 intro h
 have h1:rp=rq∧ps.length=qs.length:=by
  by_cases e:rp=rq
  ·refine⟨e,?_⟩
   subst e
   have h:(ps.length:Int)=qs.length:=by simpa using h
   omega
  ·simp[e] at h
 obtain⟨rfl,hlen⟩:=h1
 try refine nv ?_
 refine aW (ι:=Nat) (I:=fun k=>⟨37,[(3, .c (.ptr 3 0)),(22,yw ps),(23,I .i64 ps.length),(24,I .i64 k)],[(3, .box ((iG ⟨qs,rp⟩).map C.d))]⟩)
  (Inv:=fun k=>k≤ps.length∧ps.take k=qs.take k) (μ:=fun k=>ps.length-k) 0 ⟨by omega,by simp⟩ ?_ ?_
 ·exact fM
 rintro k ⟨hk,hall⟩
 try refine nv ?_
 refine aU ?_ ?_
 ·intro hlt
  have hlt':k<ps.length:=by simpa using hlt
  obtain⟨v,hv,he,htk⟩:=round encS ps k noS hlt'
  obtain⟨u,hu,he2,htk2⟩:=round encS qs k noS (by omega)
  try refine nx (p2 @he @he2) ?_
  refine aU ?_ ?_
  ·intro hb
   have hb':¬v=u:=by simpa using hb
   have hne:¬((⟨ps,rp⟩:fZ)=⟨qs,rp⟩):=by
    intro e
    simp only[fZ.mk.injEq,aao] at e
    subst e
    rw[hv] at hu;cases hu;exact hb' rfl
   try refine nv ?_
   refine rA [] ?_
   refine⟨?_,rfl⟩
   simp[hne]
  ·intro hb
   have hb':v=u:=by simpa using hb
   try refine nv ?_
   refine⟨k+1,⟨by omega,?_⟩,by omega,?_⟩
   ·rw[htk,htk2,hall,hb']
   ·exact fM
 intro hge
 have hk':k=ps.length:=by have:¬k<ps.length:=by simpa using hge
                          omega
 subst hk'
 rw[aaJ,hlen,aaJ] at hall
 subst hall
 try refine nv ?_
 refine rA [] ?_
 refine⟨?_,rfl⟩
 simp
theorem getD_some {α:Type} {l:List α} {k:Nat} {v z:α} (h:l[k]? =some v):l.getD k z=v:=by simp[aam,h]
end
end Go.Proofs.YtpoodoknkbojgaaGreatDoor
