/- A part of the proof. -/
import Derived.Test.YtcpgicfphakdaaaGreatDoorRAbCk
import Derived.RangeFuncCalls
import Derived.RangeFuncLeaves
import Derived.RangeFuncIn
import Derived.TacticsIn
import Derived.Below
set_option linter.all false
namespace Go.Ab
variable [Dr]
section
variable {P:Program} {x:X}
structure Open (P:Program) (F:Fence):Prop where
 all:∀m,Machine.fenced P F m
 fn:∀f,F.fn f
 depth:F.depth=none
variable {Q:Exit→S→Prop} {s s':S} {F:Fence}
def wfC:C→Bool
 | .d (.v _)| .ptr _ _| .ep _ _ _ _| .ms _ _ _ _| .mp _=>true
 |_=>false
def wfO:AO→Bool
 | .box cs=>cs.all wfC
 | .dead=>true
 |_=>false
omit [Dr] in
theorem afh {k k':K} (hb:k'.bl=k.bl) (hc:k'.cap=k.cap) (hd:k'.dom=k.dom) {c:C} {v:Value} (h:wfC c=true) (hr:aF k c v):aF k' c v:=by
 cases c with
 |d y=>
  cases y with
  |v z=>have:v=z:=iM hr;subst this;exact .v _ hr.one
  |_=>simp[wfC] at h
 |ptr id off=>simp only[aF,hb,hd] at hr⊢;exact hr
 |ep id sz i off=>simp only[aF,hb,hd] at hr⊢;exact hr
 |ms id sz off len=>simp only[aF,hb,hd,hc] at hr⊢;exact hr
 |mp id=>simp only[aF,hb,hd] at hr⊢;exact hr
 |pp cs=>simp[wfC] at h
 |fn f caps=>simp[wfC] at h
 |fb f caps=>simp[wfC] at h
 |mv id sz off len=>simp[wfC] at h
omit [Dr] in
theorem acT {k k':K} (hb:k'.bl=k.bl) (hc:k'.cap=k.cap) (hd:k'.dom=k.dom) {cs:List C} {vs:List Value} (h:cs.all wfC=true) (hr:aX (aF k) cs vs):aX (aF k') cs vs:=by
 induction hr with
 |nil=>exact .nil
 |cons h1 _ ih=>
  simp only[List.all_cons,afA] at h
  exact .cons (afh hb hc hd h.1 h1) (ih h.2)
theorem bY.shut {bl:Nat→List Nat} {cap:Nat→Nat} {st:List (Nat×AO)} {w:World} {D:Nat} (hs:bY x bl cap st w) (hf:∀id o,get st id=some o→wfO o=true) (hM:¬(mkK x bl cap st w).M D) (hD:x.w0.heap.size≤D) (o:Obj):bY x bl cap st (w.putObj D o):=by
 refine⟨?_,hs.disj,hs.nodup,hs.new,fun b hb=>by simp only[World.putObj];simp;exact hs.lt b hb,?_,hs.keep,hs.xok⟩
 ·intro id ob ho
  have h0:=hs.objs id ob ho
  have hw:=hf id ob ho
  cases ob with
  |box cs=>
   obtain⟨b,T,vs,h1,h2,h3⟩:=h0
   simp only[mkK] at h1
   refine⟨b,T,vs,h1,?_,acT (k:=mkK x bl cap st w) (k':=mkK x bl cap st (w.putObj D o)) rfl rfl rfl hw h3⟩
   exact(World.putObj_heap_other (fun e=>hM (.inl ⟨id,_,ho,rfl,by rw[h1,e];simp⟩))).trans h2
  |dead=>trivial
  |_=>simp[wfO] at hw
 ·refine⟨by simp only[World.putObj];simp;exact hs.fr.size,fun b hb hm=>?_,hs.fr.os,hs.fr.output,hs.fr.tape,hs.fr.drawn⟩
  rw[World.putObj_heap_other (by omega)]
  exact hs.fr.heap b hb hm
end
omit [Dr] in
theorem wP {P:Program} {rs:List ResultVar} {x:X} {R:AV→List (Nat×AO)→Prop} {s:S} {r:AV} {obl:List Prop} {e:Exit} (he:e= .ret∨e= .normal) (h:Pq P rs s=some (r,obl)) (ho:All obl)
 (st':List (Nat×AO)) (hsub:Sub x (fun i=>i) s.st st') (hcl:aJ (ae st') r) (hR:R r st'):Tj P rs x R e s:=⟨he,r,obl,h,ho,st',hsub,hcl,hR⟩
end Go.Ab
namespace Go.Ab
variable [Dr]
section
variable {P:Program} {x:X}
end
end Go.Ab
