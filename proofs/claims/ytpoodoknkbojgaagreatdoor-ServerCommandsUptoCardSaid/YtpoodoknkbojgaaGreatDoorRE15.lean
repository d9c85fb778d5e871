/- A part of the proof. -/
import Derived.Test.YtpoodoknkbojgaaGreatDoorRE8
import Derived.Test.YtpoodoknkbojgaaGreatDoorRE10
import Derived.Test.YtpoodoknkbojgaaGreatDoorRE11
import Derived.Test.YtpoodoknkbojgaaGreatDoorRE14
set_option linter.all false
namespace Go.Proofs.YtpoodoknkbojgaaGreatDoor
open Go.Ab Tys
variable [wJ]
theorem KZ:aV .i64 0:=by simp[aV,IntKind.bits]
theorem XF {p:Prop} [Decidable p] {a b:cO} (ha:xW a) (hb:xW b):xW (if p then a else b):=by
 by_cases h:p
 ·rw[if_pos h];exact ha
 ·rw[if_neg h];exact hb
theorem xW.used {c:cO} (h:xW c):xW (dG c):=by
 unfold dG
 repeat' refine XF ?_ ?_
 all_goals exact⟨⟨h.i.kind,by first|exact h.i.number|exact KZ,by first|exact h.i.fence|exact KZ,by first|exact h.i.ticks|exact KZ,
  by first|exact h.i.paths|simp[df,mG],by first|exact h.i.edits|simp[df],by first|exact h.i.recs|simp[df]⟩,
  by first|exact h.s0|exact aaA _,by first|exact h.s1|exact aaA _,by first|exact h.s2|exact aaA _,by first|exact h.s3|exact aaA _,by first|exact h.s4|exact aaA _,by first|exact h.s5|exact aaA _,
  by first|exact h.paths|simp[df,mG],by first|exact h.rules|simp[df],by first|exact h.edits|simp[df],by first|exact h.recs|simp[df],
  by first|exact h.n1|simp[df,mG],by first|exact h.n2|simp[df],by first|exact h.n3|simp[df],by first|exact h.n4|simp[df]⟩
theorem tJ.s {c:cO} (h:tJ c) (i:DX c) (m:Sm c):xW c:=
 ⟨i,h.s0,h.s1,h.s2,h.s3,h.s4,h.s5,fun x hx=>⟨⟨aav (m.2 x hx).1 (by omega),(h.paths x hx).1.2⟩,⟨aav (m.2 x hx).2 (by omega),(h.paths x hx).2.2⟩⟩,
   fun x hx=>⟨⟨aav (m.1 x hx).1 (by omega),(h.rules x hx).1.2⟩,⟨aav (m.1 x hx).2 (by omega),(h.rules x hx).2.2⟩⟩,h.edits,h.recs,
   aav h.n1 (by omega),aav h.n2 (by omega),aav h.n3 (by omega),aav h.n4 (by omega)⟩
def z3.kk:=p13 kB kG kS Tryz.ntmps3 Tryz.underlying33 Tryz.underlying4 Tryz.underlying9 qI Nl BI TU oh Tryz.results3
end Go.Proofs.YtpoodoknkbojgaaGreatDoor
