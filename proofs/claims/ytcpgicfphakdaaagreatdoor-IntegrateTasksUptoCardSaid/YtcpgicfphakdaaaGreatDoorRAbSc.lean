/- A part of the proof. -/
import Derived.Test.YtcpgicfphakdaaaGreatDoorRAbCk
import Derived.Lib.Bytealg
set_option linter.all false
namespace Go.Ab
variable [Dr]
omit [Dr] in
theorem cbT:∀l m:List UInt8,(Op.bytesLess l m=true↔Lib.compareBytes l m<0)∧((Op.bytesLess l m||l==m)=false↔0<Lib.compareBytes l m)
 |[],[]=>by simp[Op.bytesLess,Lib.compareBytes]
 |[],_::_=>by simp[Op.bytesLess,Lib.compareBytes]
 |_::_,[]=>by simp[Op.bytesLess,Lib.compareBytes]
 |a::l,b::m=>by
  obtain⟨i1,i2⟩:=cbT l m
  simp only[Op.bytesLess,Lib.compareBytes]
  by_cases h1:a<b
  ·simp[h1]
  ·by_cases h2:b<a
   ·have:¬a=b:=by rintro rfl;exact absurd h2 h1
    simp[h1,h2,this]
   ·have:a=b:=by
     have h3:=UInt8.not_lt.1 h1
     have h4:=UInt8.not_lt.1 h2
     exact UInt8.le_antisymm h4 h3
    subst this
    simp only[h1,if_false,decide_false,Bool.false_or,beq_self_eq_true,Bool.true_and]
    refine⟨i1,?_⟩
    rw[←i2];simp
section
variable {P:Program} {x:X}
end
end Go.Ab
namespace Go.Ab
variable [Dr] {P:Program} {x:X}
theorem o7 {Q:Exit→S→Prop} {s:S} {ops l:List Oper} {d:Tmp} {T T':TypeId} {y z:Operand} {ty:TypeId} {pos:String} {after:Array Edge} {p q:ByteArray} (hd:d<s.n)
 (hy:ev s y=some (Str p)) (hz:ev s z=some (Str q)) (hl:p.size+q.size≤140737488355328)
 (hk:TO P x ops l ⟨s.n,put s.env d (Str (p++q)),s.st⟩ Q):TO P x ops (⟨some d, .binOp .add T y z T',ty,pos,after,none⟩::l) s Q:=by
 rintro a w ⟨bl,cap,hs,henv,hdf,hsz⟩
 have h1:a.eval y= .string p:=nK (fV henv hy)
 have h2:a.eval z= .string q:=nK (fV henv hz)
 refine wpList_plain rfl fun K hK=>?_
 unfold Oper.wp
 have hrun:(execOp a.eval ⟨some d, .binOp .add T y z T',ty,pos,after,none⟩).run P w= .ok (.value (.string (p++q))) w:=by
  have:¬140737488355328<p.size+q.size:=by omega
  simp[execOp,h1,h2,eqGuard,binOp,Op.stringOp,this]
  omega
 rw[hrun]
 exact hK _ _ (hk _ _ ⟨bl,cap,hs,henv.put (by rw[hsz];exact hd) (.v _ rfl),by rw[Act.put_defers];exact hdf,by rw[Act.iL];exact hsz⟩)
theorem Wh {Q:Exit→S→Prop} {s:S} {ops l:List Oper} {d:Tmp} {op:BinOp} {T T':TypeId} {y z:Operand} {ty:TypeId} {pos:String} {after:Array Edge} {p q:ByteArray} {r b:Bool} {j:Nat} {want:Bool} {bs:List Bool}
 (hd:d<s.n) (hgv:Cj ops s j=some (bs,b)) (hy:evs s y=some (Str p)) (hz:evs s z=some (Str q)) (ho:dD bs (if want then b else !b)=true→All (qB s [y,z]))
 (hb:(op= .lss∧r=decide (Lib.compareBytes p.data.toList q.data.toList<0))∨(op= .gtr∧r=decide (0<Lib.compareBytes p.data.toList q.data.toList)))
 (hk:TO P x ops l ⟨s.n,put s.env d (.cond (dD bs (if want then b else !b)) (B r)),s.st⟩ Q):TO P x ops (⟨some d, .binOp op T y z T',ty,pos,after,some (j,want)⟩::l) s Q:=by
 rintro a w ⟨bl,cap,hs,he,hdf,hn⟩
 have hy0:(dD bs true=true→yielded ops.toArray a.tmps j=some b)∧(dD bs true=false→yielded ops.toArray a.tmps j=none):=by
  unfold Cj at hgv
  split at hgv
  ·rename_i d hj
   split at hgv
   ·rename_i v hv
    split at hgv
    ·rename_i b' bs' hst
     cases hgv
     obtain⟨u,hu,hr⟩:=he d v hv
     have:=gG hr
     rw[hst] at this
     have e:((ops.toArray[j]?).bind (·.dst)).bind (a.tmps[·]?)=some u:=by rw[List.getElem?_toArray,hj];exact hu
     constructor
     ·intro h1
      have h2:=this.1 h1
      have:u= .bool b:=nK h2
      simp only[yielded,e,this]
     ·intro h1
      have h2:=this.2 h1
      simp only[yielded,e,h2,undef]
    ·cases hgv
   ·cases hgv
  ·cases hgv
 have hwant:Region.wanted ⟨some d, .binOp op T y z T',ty,pos,after,some (j,want)⟩ (yielded ops.toArray a.tmps)=dD bs (if want then b else !b):=by
  simp only[Region.wanted]
  cases hc:dD bs true with
  |false=>
   rw[hy0.2 hc]
   have:dD bs (if want then b else !b)=false:=by
    cases hh:dD bs (if want then b else !b) with
    |false=>rfl
    |true=>rw[(nI.1 hh).1] at hc;cases hc
   rw[this];rfl
  |true=>
   rw[hy0.1 hc]
   have:dD bs (if want then b else !b)=(if want then b else !b):=by
    rw[Bool.eq_iff_iff,nI];simp[hc]
   rw[this]
   cases want<;>cases b<;>rfl
 have put1:∀u:Value,aC (mkK x bl cap s.st w) (.cond (dD bs (if want then b else !b)) (B r)) u→Sat x ⟨s.n,put s.env d (.cond (dD bs (if want then b else !b)) (B r)),s.st⟩ (a.put (some d) u) w:=fun u hu=>
  ⟨bl,cap,hs,he.put (by rw[hn];exact hd) hu,by rw[Act.put_defers];exact hdf,by rw[Act.iL];exact hn⟩
 unfold wpList
 split
 ·rename_i hw
  rw[hwant] at hw
  left
  have ev1:∀{c:Operand} {pp:ByteArray},evs s c=some (Str pp)→(∀v,ev s c=some v→dD (strip v).2 true=true)→a.eval c= .string pp:=by
   intro c pp hc hoc
   simp only[evs,Option.map_eq_some_iff] at hc
   obtain⟨vc,hvc,hsc⟩:=hc
   have r1:=(gG (fV he hvc)).1 (hoc vc hvc)
   rw[hsc] at r1
   exact nK r1
  have ho:=ho hw
  have h1:a.eval y= .string p:=ev1 hy (fun v hv=>qh ho y (by simp) v hv)
  have h2:a.eval z= .string q:=ev1 hz (fun v hv=>qh ho z (by simp) v hv)
  unfold Oper.wp
  have hrun:(execOp a.eval ⟨some d, .binOp op T y z T',ty,pos,after,some (j,want)⟩).run P w= .ok (.value (.bool r)) w:=by
   obtain⟨i1,i2⟩:=cbT p.data.toList q.data.toList
   rcases hb with⟨rfl,rfl⟩|⟨rfl,rfl⟩
   ·have:Op.bytesLess p.data.toList q.data.toList=decide (Lib.compareBytes p.data.toList q.data.toList<0):=by rw[Bool.eq_iff_iff,i1,decide_eq_true_iff]
    simp[execOp,h1,h2,eqGuard,binOp,Op.stringOp,ByteArray.toList_eq,this]
   ·have:(Op.bytesLess p.data.toList q.data.toList||p.data.toList==q.data.toList)=!decide (0<Lib.compareBytes p.data.toList q.data.toList):=by
     by_cases h:0<Lib.compareBytes p.data.toList q.data.toList
     ·rw[i2.2 h];simp[h]
     ·cases h':(Op.bytesLess p.data.toList q.data.toList||p.data.toList==q.data.toList) with
      |true=>simp[h]
      |false=>exact absurd (i2.1 h') h
    have e:(execOp a.eval ⟨some d, .binOp .gtr T y z T',ty,pos,after,some (j,want)⟩).run P w= .ok (.value (.bool !(Op.bytesLess p.toList q.toList||p.toList==q.toList))) w:=by
     simp[execOp,h1,h2,eqGuard,binOp,Op.stringOp]
    rw[e,ByteArray.toList_eq,ByteArray.toList_eq,this,Bool.not_not]
  rw[hrun]
  exact hk _ _ (put1 _ ⟨fun _=> .v _ rfl,fun h=>by rw[hw] at h;cases h⟩)
 ·rename_i hw
  rw[hwant] at hw
  exact hk _ _ (put1 _ ⟨fun h=>absurd h hw,fun _=>rfl⟩)
end Go.Ab
