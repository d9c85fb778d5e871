/- A part of the proof. -/
import Derived.Test.YtpoodoknkbojgaaGreatDoorRAbR
set_option linter.all false
namespace Go.Ab
variable [Dr] {P:Program} {x:X}
theorem D6 {s:S} {bid id sz j:Nat} {cs:List C} (hb:get s.st bid=some (.box cs)) (hj:cs[j]? =some (.d (.v (.slice none 0 0)))) (hid:get s.st id=none) (hsz0:0<sz):
 mZ x s ⟨s.n,s.env,put (put s.st id (.arr sz [])) bid (.box (cs.set j (.ms id sz 0 0)))⟩:=by
 rintro a w ⟨bl,cap,hs,henv,hd,hsz⟩
 obtain⟨bl',cap',a1,a2,a3⟩:=nG (sz:=sz) none hs hid hsz0
 have hne:¬id=bid:=by rintro rfl;rw[hid] at hb;cases hb
 have hb':get (put s.st id (.arr sz [])) bid=some (.box cs):=by rw[aZ hne];exact hb
 obtain⟨b,T,vs,h1,h2,h3⟩:=a1.objs bid _ hb'
 have hon:jC (bl' bid) w w:=⟨rfl,fun _ _=>rfl,rfl,rfl,rfl,aat _⟩
 have hle2:=lw (x:=x) (cap:=cap') (o':= .box (cs.set j (.ms id sz 0 0))) hb' rfl hon
 refine⟨bl',cap',a1.upd hb' rfl hon ⟨b,T,vs,h1,h2,?_⟩,(henv.le a2).le hle2,(hd.le a2).le hle2,hsz⟩
 obtain⟨v,hv,hr⟩:=h3.get hj
 have hv':v= .slice none 0 0:=dL hr
 have hd':ai (mkK x bl' cap' (put s.st id (.arr sz [])) w) (.ms id sz 0 0) v:=by rw[hv'];exact a3
 have:=h3.set (i:=j) hd'
 rw[show vs.set j v=vs from by
  apply aa6;intro i
  rw[abA]
  split
  ·rename_i e;subst e;rw[hv];simp[(aal.1 hv).1]
  ·rfl] at this
 exact this.mono fun _ _=>ai.le hle2
end Go.Ab
