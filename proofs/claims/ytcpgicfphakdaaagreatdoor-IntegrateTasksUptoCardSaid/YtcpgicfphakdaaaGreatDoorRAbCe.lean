/- A part of the proof. -/
import Derived.Test.YtcpgicfphakdaaaGreatDoorRAbR
set_option linter.all false
namespace Go.Ab
variable [Dr] {P:Program} {x:X}
theorem pW {s:S} {bid id sz j:Nat} {cs:List C} (hb:get s.st bid=some (.box cs)) (hj:cs[j]? =some (.d (.v (.slice none 0 0)))) (hid:get s.st id=none) (hsz0:0<sz):
 zK x s ⟨s.n,s.env,put (put s.st id (.arr sz [])) bid (.box (cs.set j (.ms id sz 0 0)))⟩:=by
 rintro a w ⟨bl,cap,hs,henv,hd,hsz⟩
 obtain⟨bl',cap',a1,a2,a3⟩:=vw (sz:=sz) none hs hid hsz0
 have hne:¬id=bid:=by rintro rfl;rw[hid] at hb;cases hb
 have hb':get (put s.st id (.arr sz [])) bid=some (.box cs):=by rw[bZ hne];exact hb
 obtain⟨b,T,vs,h1,h2,h3⟩:=a1.objs bid _ hb'
 have hon:lF (bl' bid) w w:=⟨rfl,fun _ _=>rfl,rfl,rfl,rfl,Nat.le_refl _⟩
 have hle2:=mY (x:=x) (cap:=cap') (o':= .box (cs.set j (.ms id sz 0 0))) hb' rfl hon
 refine⟨bl',cap',a1.upd hb' rfl hon ⟨b,T,vs,h1,h2,?_⟩,(henv.le a2).le hle2,(hd.le a2).le hle2,hsz⟩
 obtain⟨v,hv,hr⟩:=h3.get hj
 have hv':v= .slice none 0 0:=iO hr
 have hd':aH (mkK x bl' cap' (put s.st id (.arr sz [])) w) (.ms id sz 0 0) v:=by rw[hv'];exact a3
 have:=h3.set (i:=j) hd'
 rw[show vs.set j v=vs from by
  apply List.ext_getElem?;intro i
  rw[List.getElem?_set]
  split
  ·rename_i e;subst e;rw[hv];simp[(List.getElem?_eq_some_iff.1 hv).1]
  ·rfl] at this
 exact this.mono fun _ _=>aH.le hle2
theorem GI {s:S} {bid id sz sz2 n j:Nat} {cs:List C} {ys:List (List D)} (hne:bid≠id) (hb:get s.st bid=some (.arr sz [cs])) (hj:cs[j]? =some (.ms id sz2 0 n)) (hid:get s.st id=some (.arr sz2 (ys.map fun l=>l.map C.d)))
 (hn:n=ys.length):zK x s ⟨s.n,s.env,put (put s.st id .dead) bid (.arr sz [cs.set j (.d (.ps sz2 ys))])⟩:=by
 subst hn
 rintro a w ⟨bl,cap,hs,henv,hd,hsz⟩
 have hle:=jc (x:=x) (bl:=bl) (cap:=cap) (w:=w) hid
 have hk:=hs.kill hid
 have hb':get (put s.st id .dead) bid=some (.arr sz [cs]):=by rw[bZ (Ne.symm hne)];exact hb
 obtain⟨g1,g2,g3,g4⟩:=hs.objs bid _ hb
 have hon:lF (bl bid) w w:=⟨rfl,fun _ _=>rfl,rfl,rfl,rfl,Nat.le_refl _⟩
 have hle2:=mY (x:=x) (cap:=cap) (o':= .arr sz [cs.set j (.d (.ps sz2 ys))]) hb' rfl hon
 refine⟨bl,cap,hk.upd hb' rfl hon ⟨by simpa[mkK] using g1,by intro y hy;simp at hy;subst hy;rw[List.length_set];exact g2 _ (by simp),g3,?_⟩,(henv.le hle).le hle2,(hd.le hle).le hle2,hsz⟩
 rcases g4 with⟨c0,_⟩|⟨b,T,vs,h1,h2,h3,h4⟩
 ·exfalso;simp only[mkK,List.length_cons,List.length_nil] at g1 c0;omega
 ·refine .inr ⟨b,T,vs,h1,h2,h3,?_⟩
  have e:∀c:List C,[c].flatten=c:=fun c=>by simp
  rw[e] at h4⊢
  simp only[List.length_cons,List.length_nil] at h4⊢
  obtain⟨v,hv,hr⟩:=h4.get hj
  have hf:aH (mkK x bl cap (put s.st id AO.dead) w) (.d (.ps sz2 ys)) v:=wJ hs hid hr
  have:=(h4.mono fun _ _=>aH.le hle).set (i:=j) hf
  rw[show(vs.take ((0+1)*sz)).set j v=vs.take ((0+1)*sz) from by
   apply List.ext_getElem?;intro i
   rw[List.getElem?_set]
   split
   ·rename_i e;subst e;rw[hv,if_pos (List.getElem?_eq_some_iff.1 hv).1]
   ·rfl] at this
  exact this.mono fun _ _=>aH.le hle2
end Go.Ab
