/- A part of the proof. -/
import Derived.Test.YtpoodoknkbojgaaGreatDoorRAbV
import Derived.Below
import Derived.Shelf.Strings.OnBuilder
set_option linter.all false
namespace Go.Ab
open Go.Shelf Go.Proofs Go.RowKit
section
variable {x:X} {bl:Nat→List Nat} {cap:Nat→Nat} {st:List (Nat×AO)} {w:World}
variable [wJ]
theorem K.SE {w':World} (hw:Below w.heap.size w w'):(mkK x bl cap st w).le (mkK x bl cap st w'):=
 ⟨fun _ h=>h,fun _ _=>rfl,fun _ _=>rfl,fun b _ hb=>hw.block b hb,fun _ h=> .inl h⟩
theorem aP.below (h:aP x bl cap st w) {w':World} (hw:Below w.heap.size w w'):aP x bl cap st w' where
 objs i p hp:=by
  cases hp':p.bf with
  |false=>cases p<;>simp[AO.bf] at hp';trivial
  |true=>exact(h.objs i p hp).le (K.SE hw) (by simp[mkK,hp]) fun b hb=>hw.block b (h.lt b ⟨i,p,hp,hp',hb⟩)
 disj:=h.disj
 nodup:=h.nodup
 new:=h.new
 lt b hb:=Nat.lt_of_lt_of_le (h.lt b hb) hw.size
 fr:=⟨aav h.fr.size hw.size,fun b hb hm=>by rw[hw.block b (Nat.lt_of_lt_of_le hb h.fr.size)];exact h.fr.heap b hb hm,by rw[hw.os];exact h.fr.os,by rw[hw.output];exact h.fr.output,by rw[hw.tape];exact h.fr.tape,fun e=>by rw[wJ.no] at e;cases e⟩
 keep:=h.keep
 xok:=h.xok
end
def eX (xs:List abW) (sep:abW):abW:=⟨(Lib.join (xs.map (·.data.toList)) sep.data.toList).toArray⟩
theorem UH [wJ] {P:Program} {f:FuncId} (hc:JB P f) {ρ:Ren} (hf:ρ.f 156=f) (L:Lays.n156 P ρ) (E:Builder.Extra P ρ) (xs:List abW) (sep:abW) (hN:xs.length≤1000000)
 (hlen:(eX xs sep).size≤140737488355328):
 AC P f [.c (.d (.ps 1 (xs.map fun s=>[.v (.string s)]))), .c (.d (.v (.string sep)))] [] (fun r st=>r= .c (.d (.v (.string (eX xs sep))))∧st=[]):=by
 refine⟨hc,?_⟩
 intro bl cap F w us hs hargs
 cases hargs with
 |cons hv ht=>
 cases ht with
 |cons hv2 ht=>
 cases ht
 have hv2':aS _ _ _ _:=hv2
 cases hv2'
 have hv':aS _ _ _ _:=hv
 have fin:∀(e:Ending) (w':World),e= .returned (.string (eX xs sep))∧Below w.heap.size w w'→∃r st' bl' cap' v,e= .returned v∧(r=AV.c (.d (.v (.string (eX xs sep))))∧st'=[])∧(st'.map (·.1)).Nodup∧aP (X.start bl cap F [] w) bl' cap' st' w'∧af (mkK (X.start bl cap F [] w) bl' cap' st' w') r v:=by
  rintro e w' ⟨rfl,hb⟩
  exact⟨_,[],bl,cap,_,rfl,⟨rfl,rfl⟩,by simp,hs.below hb, .v _ rfl⟩
 generalize hys:xs.map (fun s=>[D.v (.string s)])=ys at hv'
 subst hf
 cases hv' with
 |nil _ a c=>
  have:xs=[]:=by simpa using hys
  subst this
  exact(Any.strings_Join_none L E _ _ sep w).mono fun e w' ⟨he,hw⟩=>fin e w' ⟨by rw[he];rfl,hw▸Below.refl _ _⟩
 |ps _ _ b o c g hM hl hcc hr hcap hb=>
  subst hys
  rw[aai] at hcap⊢
  refine(Any.strings_Join L E b o c xs sep w ?_ hb (by omega) hcap ?_).mono fun e w' h=>fin e w' h
  ·intro j s hj
   obtain⟨hlt,rfl⟩:=aal.1 hj
   have h1:=hcc j 0 (by simpa using hlt) (by omega)
   have h2:=hr j 0 (by simpa using hlt) (by omega)
   simp only[aam,aaH,aab hlt,Option.map_some,Option.getD_some,List.getElem?_cons_zero] at h2
   rw[Nat.mul_one,Nat.add_zero] at h1
   have h1':w.cell? ⟨b,o+j,none⟩=some (g j 0):=h1
   rw[h1']
   generalize g j 0=u at h2
   cases h2;rfl
  ·simpa[eX,ByteArray.size] using hlen
end Go.Ab
