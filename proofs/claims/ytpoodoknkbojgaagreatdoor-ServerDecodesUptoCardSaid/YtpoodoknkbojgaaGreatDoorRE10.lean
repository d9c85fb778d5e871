/- A part of the proof. -/
import Derived.Test.YtpoodoknkbojgaaGreatDoorRP26
set_option linter.all false
namespace Go.Proofs.YtpoodoknkbojgaaGreatDoor
open Go.Ab Tys
variable [Dr]
variable [Dr]
def Yp:ku:=fun f args st nx=>
 match args,st with
 |[.c (.d (.v (.slice none 0 0))), .c (.fn g [.ptr b 0])],[(m, .map []),(b', .box [.mp m'])]=>
  if f=182∧g=137∧b=b'∧m=m'∧¬b=m∧¬b=2000∧¬m=2000 then some (.c (.d (.v (.slice none 0 0))),[(m, .dead),(b', .box [.mp m'])],nx) else none
 |_,_=>none
theorem Wx:oU Tryz.prog Yp:=by
 intro f args st nx r st' nx' h
 unfold Yp at h
 split at h
 ·rename_i g b m b' m'
  split at h
  ·rename_i hc
   obtain⟨rfl,rfl,rfl,rfl,h1,h2,h3⟩:=hc
   cases h
   obtain⟨σ,τ,g1,g2,e0,ea,eb⟩:=VH h2 h3 h1
   have ta:τ b=2001:=by rw[←ea,g2]
   have tb:τ m=2002:=by rw[←eb,g2]
   refine P8 g1 g2 wM ?_ (by simp) ?_ ?_ ?_ ?_ ?_
   ·intro p hp
    simp only[Z9,aad,aaw] at hp
    rcases hp with rfl|rfl
    ·simp[Ab.get,aX,bP,ea,eb,Ne.symm h1]
    ·simp[Ab.get,aX,eb]
   ·intro p hp
    simp only[Z9,aad,aaw] at hp
    rcases hp with rfl|rfl
    ·simp[aN,ax,bi,ae,Ab.get]
    ·simp[aN,bC]
   ·intro id hid
    simp only[ae,Ab.get] at hid
    by_cases c0:m=id
    ·subst c0;rw[tb];rfl
    ·by_cases c1:b=id
     ·subst c1;rw[ta];rfl
     ·simp[c0,c1] at hid
   ·simp[bF,bP,FW,ea]
   ·intro v hv
    simp only[Z9,aad,aaw] at hv
    rcases hv with rfl|rfl
    ·trivial
    ·simp[aA,bi,ak,aK,ae,Ab.get]
   ·rintro r0 st0 ⟨rfl,rfl⟩
    refine⟨_,_,⟨rfl,rfl⟩,?_,?_,?_,rfl,trivial,fun id h=>?_⟩
    ·intro p hp
     simp only[Z9,aad,aaw] at hp
     rcases hp with rfl|rfl
     ·simp[Ab.get,aX,tb]
     ·simp[Ab.get,aX,bP,ta,tb]
    ·simp[Ne.symm h1]
    ·intro p hp
     simp only[Z9,aad,aaw] at hp
     rcases hp with rfl|rfl
     ·trivial
     ·simp[aN,ax,bi,ae,Ab.get]
    ·simp only[ae,Ab.get] at h⊢
     by_cases c0:m=id
     ·simp[c0]
     ·simp only[c0,if_false] at h⊢;exact h
  ·cases h
 ·cases h
theorem YZ (f:Nat) (fn:Func) (h:Tryz.prog.funcs[f]? =some fn):(fn.name=="runtime.NumGoroutine")=false:=by
 have hall:(Tryz.prog.funcs.toList.all fun fn=>!(fn.name=="runtime.NumGoroutine"))=true:=by kernel_rfl
 have:=aaC.1 hall fn (by simpa using Array.mem_of_getElem? h)
 simpa using this
set_option maxRecDepth 100000 in
theorem JE:AC Tryz.prog 7 [] [] (fun r st=>r=B true∧st=[]):=by
 have h:(P6 Tryz.prog false Yp 2000 60 7 [] [] 1000000).map (fun r=>(r.1,r.2.1))=some (B true,[]):=by kernel_rfl
 cases e:P6 Tryz.prog false Yp 2000 60 7 [] [] 1000000 with
 |none=>rw[e] at h;cases h
 |some r=>
  rw[e] at h
  simp only[Option.map_some,abB,aa1] at h
  obtain⟨r1,r2,r3⟩:=r
  exact(Ui (by kernel_rfl) YZ Wx 2000 60 _ _ _ _ _ _ _ e).mono fun r' st' ⟨a,b⟩=>⟨a.trans h.1,b.trans h.2⟩
end Go.Proofs.YtpoodoknkbojgaaGreatDoor
