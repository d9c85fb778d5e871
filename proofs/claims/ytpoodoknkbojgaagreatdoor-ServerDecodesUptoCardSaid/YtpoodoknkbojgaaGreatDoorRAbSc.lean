/- A part of the proof. -/
import Derived.Test.YtpoodoknkbojgaaGreatDoorRAbCk
import Derived.Lib.Bytealg
set_option linter.all false
namespace Go.Ab
variable [Dr]
section
variable {P:Program} {x:X}
end
end Go.Ab
namespace Go.Ab
variable [Dr] {P:Program} {x:X}
theorem EX {Q:Exit→S→Prop} {s:S} {ops l:List Oper} {d:Tmp} {T T':TypeId} {y z:Operand} {ty:TypeId} {pos:String} {after:Array Edge} {p q:abW} (hd:d<s.n)
 (hy:ev s y=some (Str p)) (hz:ev s z=some (Str q)) (hl:p.size+q.size≤140737488355328)
 (hk:TO P x ops l ⟨s.n,put s.env d (Str (p++q)),s.st⟩ Q):TO P x ops (⟨some d, .binOp .add T y z T',ty,pos,after,none⟩::l) s Q:=by
 rintro a w ⟨bl,cap,hs,henv,hdf,hsz⟩
 have h1:a.eval y= .string p:=gG (bJ henv hy)
 have h2:a.eval z= .string q:=gG (bJ henv hz)
 refine wpList_plain rfl fun K hK=>?_
 unfold Oper.wp
 have hrun:(execOp a.eval ⟨some d, .binOp .add T y z T',ty,pos,after,none⟩).run P w= .ok (.value (.string (p++q))) w:=by
  have:¬140737488355328<p.size+q.size:=by omega
  simp[execOp,h1,h2,eqGuard,binOp,Op.stringOp,this]
  omega
 rw[hrun]
 exact hK _ _ (hk _ _ ⟨bl,cap,hs,henv.put (by rw[hsz];exact hd) (.v _ rfl),by rw[Act.put_defers];exact hdf,by rw[Act.bK];exact hsz⟩)
end Go.Ab
