/- A part of the proof. -/
import Derived.Test.YtpoodoknkbojgaaGreatDoorRE15
import Derived.Test.YtpoodoknkbojgaaGreatDoorRE26
import Derived.Test.YtpoodoknkbojgaaGreatDoorRE27
set_option linter.all false
namespace Go.Proofs.YtpoodoknkbojgaaGreatDoor
open Go.Ab Tys
variable [wJ]
theorem Ji {c:cO} {l:List UInt8} (h:zl c=some l):l.length≤1000000:=by
 obtain⟨fs,hk,ho,rfl⟩:=mW.1 h
 have h1:=LM c fs (wI c.kind (false,[]))
 have h2:=kF c.kind (false,[])
 have h4:fs.length≤4:=by
  have hm:=mD hk
  have:∀e∈BP,e.2.length≤4:=by decide
  exact this _ hm
 rw[(JY fs).good c _ ho] at h1
 have h5:fs.length*160000≤4*160000:=aau _ h4
 simp only[wI,List.nil_append,List.length_nil] at h1 h2
 omega
def z5.kk:=p12 kB kG kS Tryz.ntmps5 Tryz.underlying33 qI Nl jJ BI TU Jp Tryz.results5
set_option maxRecDepth 100000 in
set_option maxHeartbeats 16000000 in
open z5 in
theorem vM (c:cO) (hc:tJ c) (ic:DX c):AC Tryz.prog 5 [wK c] [] (fun r st=>r=B true∧st=[]):=by
 have haw:=JE
 have hsm:=Ag [c] (by simp) (by intro x hx;rw[aag] at hx;subst hx;exact hc)
 have hxc:=fun m:Sm c=>xA c (hc.s ic m)
 have huc:=GX c
 have hen:=J8 c hc
 rw[QJ ic.kind] at hen
 have hsame:=fun m:Sm c=>uq (dG c) (dG c) (hc.s ic m).used (hc.s ic m).used
 have hde:=fun l (e:zl c=some l)=>Em l (aav (Ji e) (by omega))
 have hdd:=fun l (e:zl c=some l)=>SV ic e
 generalize dG c=uc at huc hsame hdd
 refine dI Tryz.func5 Tryz.ntmps5 fun x hx=>?_
 try refine nv ?_
 refine dm (ay (i:=8) (id:=8) (ys:=[dZ c]) rfl rfl rfl) ?_
 refine dQ ?_
 refine dh [] (hsm) ?_
 rintro r st' ⟨⟨b,rfl,hb⟩,rfl⟩<;>refine di ?_
 try refine nv ?_
 refine aU ?_ ?_
 ·intro _
  (repeat (first|refine nv ?_|refine cf (haw) ?_))
  refine rA [] ?_
  refine⟨?_,rfl⟩
  rfl
 intro h
 have hb:=hb (by simpa using h)
 have mc:=hb c (by simp)
 have hxc:=hxc mc
 have hsame:=hsame mc
 rw[show decide (uc=uc)=true from aaV rfl] at hsame
 clear h hb hsm
 cases ec:zl c with
 |none=>
  simp only[ec] at hxc
  rw[ec] at hen
  (repeat (first|refine nv ?_|refine cf (hxc) ?_|refine cf (hen) ?_))
  refine aU ?_ ?_
  rotate_left
  ·intro h;cases h
  intro _
  try refine nv ?_
  refine so ([(28,B true)]) ?_ ?_
  ·exact Fa @haw
  try refine nv ?_
  refine rA [] ?_
  refine⟨?_,rfl⟩
  rfl
 |some l=>
  simp only[ec] at hxc
  rw[ec] at hen
  have hde:=hde l ec
  rw[hdd l ec] at hde
  simp only at hde
  (repeat (first|refine nv ?_|refine cf (hxc) ?_|refine cf (hen) ?_))
  refine aU ?_ ?_
  ·intro h;cases h
  intro _
  (repeat (first|refine nv ?_|refine cf (hde) ?_))
  refine jk ?_
  refine dr ([(44,wK uc),(45,B true),(48,B true)]) ?_ ?_
  ·exact ZN @huc @hsame @haw
  try refine nv ?_
  refine rA [] ?_
  refine⟨?_,rfl⟩
  simp
end Go.Proofs.YtpoodoknkbojgaaGreatDoor
