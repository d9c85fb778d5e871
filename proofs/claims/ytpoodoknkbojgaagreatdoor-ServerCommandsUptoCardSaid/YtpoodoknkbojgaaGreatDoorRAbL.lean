/- A part of the proof. -/
import Derived.Test.YtpoodoknkbojgaaGreatDoorRAbF
import Derived.Laws.AppendOwn
import Derived.Laws.MakeOwn
import Derived.Laws.Slices
import Derived.MapKept
set_option linter.all false
namespace Go.Ab
def kC (P:Program) (T:TypeId):Bool:=
 match P.underlying T with
 |some (.struct fs)=>fs.toList.all fun f=>(P.info? f.type).isSome
 |_=>false
def yU (P:Program) (T:TypeId):List C→List (Nat×AV)→Option (List C×List Prop)
 |cs,[]=>some (cs,[])
 |cs,(f,v)::rest=>
  match ji P T f,cellsOf v with
  |some (fo,ft),some cs'=>
   match ti P ft with
   |some t=>
    match yU P T (splice cs fo cs') rest with
    |some (r,ps)=>some (r,(cs'.length=t.size)::(fo+t.size≤cs.length)::ps)
    |none=>none
   |none=>none
  |_,_=>none
def nM (P:Program) (T:TypeId) (parts:List (Nat×AV)):Option Out:=
 match ti P T,kC P T with
 |some t,true=>
  match yU P T (t.zero.map fun z=> .d (.v z)) parts with
  |some (cs,ps)=>some ⟨.agg cs,[],ps⟩
  |none=>none
 |_,_=>none
def ql (sz:Nat):List (List C)→List (Nat×AV)→Option (List (List C)×List Prop)
 |xs,[]=>some (xs,[])
 |xs,(i,v)::rest=>
  match cellsOf v with
  |some cs=>
   match ql sz (xs.set i cs) rest with
   |some (r,ps)=>some (r,(cs.length=sz)::(i<xs.length)::ps)
   |none=>none
  |none=>none
def dY (P:Program) (T n id:Nat) (parts:List (Nat×AV)) (ob:Nat→Option AO):Option Out:=
 match xg P T,ob id with
 |some e,none=>
  match ti P e with
  |some t=>
   match ql t.size (List.replicate n (t.zero.map fun z=> .d (.v z))) parts with
   |some (xs,ps)=>some ⟨.c (.ms id t.size 0 n),[(id, .arr t.size xs)],(n*t.size≤16777216)::ps⟩
   |none=>none
  |none=>none
 |_,_=>none
def fO (P:Program) (T id:Nat) (x y:AV) (ob:Nat→Option AO):Option Out:=
 match xg P T,ob id,x,y with
 |some e,none, .c (.d (.v (.int _ n))), .c (.d (.v (.int _ m)))=>
  match ti P e with
  |some t=>some ⟨.c (.ms id t.size 0 n.toNat),[(id, .arr t.size (List.replicate n.toNat (t.zero.map fun z=> .d (.v z))))],[n=m,0≤n,(t.bytes:Int)*n≤140737488355328,n≤9223372036854775807]⟩
  |none=>none
 |_,_,_,_=>none
def elemsOf (y:AV) (ob:Nat→Option AO):Option (List (List C)×List Nat×List Prop):=
 match y with
 | .c (.d (.ps sz ys))=>some (ys.map fun l=>l.map .d,[],[])
 | .c (.d (.v (.slice none 0 0)))=>some ([],[],[])
 | .c (.ms id sz off len)=>
   match ob id with
   |some (.arr sz' xs)=>some ((xs.drop off).take len,[id],[off+len≤xs.length,sz=sz'])
   |_=>none
 |_=>none
def dS (P:Program) (T T' id:Nat) (x y:AV) (ob:Nat→Option AO):Option Out:=
 match xg P T,xg P T',ob id with
 |some e,some e',none=>
  match ti P e with
  |some t=>
   match elemsOf y ob with
   |some (ys,ids,ps)=>
    match x with
    | .c (.d (.v (.slice none 0 0)))=>some ⟨.c (.ms id t.size 0 ys.length),[(id, .arr t.size ys)],(e=e')::(t.bytes≠0)::(ys.length*t.bytes≤140737488355328)::(∀l∈ys,l.length=t.size)::ps⟩
    | .c (.ms id0 sz off len)=>
      match ob id0 with
      |some (.arr sz' xs)=>some ⟨.c (.ms id t.size 0 (len+ys.length)),[(id0, .dead),(id, .arr t.size (xs++ys))],
       (e=e')::(t.bytes≠0)::(sz=t.size)::(sz'=t.size)::(off=0)::(len=xs.length)::(id0≠id)::(id0∉ids)::((len+ys.length)*t.bytes≤140737488355328)::(∀l∈ys,l.length=t.size)::ps⟩
      |_=>none
    |_=>none
   |none=>none
  |none=>none
 |_,_,_=>none
def jK (P:Program) (T:TypeId) (x:AV) (lo hi:Option AV):Option Out:=
 match P.underlying T,x with
 |some .string, .c (.d (.v (.string s)))=>
  match lo,hi with
  |some (.c (.d (.v (.int _ l)))),some (.c (.d (.v (.int _ h))))=>some ⟨Str (s.extract l.toNat h.toNat),[],[0≤l,l≤h,h≤s.size]⟩
  |some (.c (.d (.v (.int _ l)))),none=>some ⟨Str (s.extract l.toNat s.size),[],[0≤l,l≤s.size]⟩
  |none,some (.c (.d (.v (.int _ h))))=>some ⟨Str (s.extract 0 h.toNat),[],[0≤h,h≤s.size]⟩
  |_,_=>none
 |some (.slice e), .c (.d (.ps sz xs))=>
  match ti P e with
  |some t=>
   match lo,hi with
   |some (.c (.d (.v (.int _ l)))),some (.c (.d (.v (.int _ h))))=>some ⟨.c (.d (.ps sz ((xs.take h.toNat).drop l.toNat))),[],[sz=t.size,0≤l,l≤h,h≤xs.length]⟩
   |some (.c (.d (.v (.int _ l)))),none=>some ⟨.c (.d (.ps sz (xs.drop l.toNat))),[],[sz=t.size,0≤l,l≤xs.length]⟩
   |none,some (.c (.d (.v (.int _ h))))=>some ⟨.c (.d (.ps sz (xs.take h.toNat))),[],[sz=t.size,0≤h,h≤xs.length]⟩
   |_,_=>none
  |none=>none
 |_,_=>none
def rC (P:Program) (T:TypeId) (x lo hi mx:AV):Option Out:=
 match P.underlying T,x,lo,hi,mx with
 |some (.slice e), .c (.ms id sz off len), .c (.d (.v (.int _ l))), .c (.d (.v (.int _ h))), .c (.d (.v (.int _ m)))=>
  match ti P e with
  |some t=>some ⟨.c (.mv id sz (off+l.toNat) (h-l).toNat),[],[sz=t.size,0≤l,l≤h,h≤m,m≤len]⟩
  |none=>none
 |_,_,_,_,_=>none
section
variable {P:Program} {x:X} {bl:Nat→List Nat} {cap:Nat→Nat} {st:List (Nat×AO)} {w:World}
variable [Dr]
omit [Dr] in
theorem qw (off:Nat):∀(vs:List Value) (k:Nat) (cur:Array Value),off+k+vs.length≤cur.size→
 ((vs.zipIdx k).foldl (fun cs (c,j)=>cs.setIfInBounds (off+j) c) cur).toList=cur.toList.take (off+k)++vs++cur.toList.drop (off+k+vs.length)
 |[],k,cur,_=>by simp
 |v::vs,k,cur,h=>by
  simp only[List.zipIdx_cons,List.foldl_cons]
  rw[qw off vs (k+1) (cur.setIfInBounds (off+k) v) (by simp at h⊢;omega)]
  simp at h
  apply aa6
  intro j
  simp only[Array.toList_setIfInBounds,List.getElem?_append,aaz,aaR,aan,aaK,aaQ,List.length_set,Array.length_toList,List.length_cons,abA,List.getElem?_cons]
  have m1:min (off+(k+1)) cur.size=off+k+1:=by omega
  have m2:min (off+k) cur.size=off+k:=by omega
  rw[m1,m2]
  by_cases c1:j<off+k
  ·rw[if_pos (by omega),if_pos (by omega),if_pos (by omega),if_neg (by omega),if_pos (by omega),if_pos (by omega),if_pos (by omega)]
  ·by_cases c2:j=off+k
   ·subst c2
    rw[if_pos (by omega),if_pos (by omega),if_pos (by omega),if_pos rfl,if_pos (by omega),if_pos (by omega),if_neg (by omega),if_pos (by omega)]
   ·by_cases c3:j<off+k+1+vs.length
    ·rw[if_pos (by omega),if_neg (by omega),if_pos (by omega),if_neg (by omega),if_neg (by omega)]
     (congr 1<;>omega)
    ·rw[if_neg (by omega),if_neg (by omega),if_neg (by omega)]
     first|done|(congr 1<;>omega)
omit [Dr] in
theorem Nz {k:K} {place:Nat→Option (Nat×Nat)} {T:TypeId} (hplace:∀f fo ft t,ji P T f=some (fo,ft)→ti P ft=some t→place f=some (fo,t.size)):
 ∀{parts:List (Nat×AV)} {us:List (Nat×Value)} {cs:List C} {cur:Array Value} {r:List C} {ps:List Prop},yU P T cs parts=some (r,ps)→All ps→
  aj (fun(p:Nat×AV) (q:Nat×Value)=>p.1=q.1∧af k p.2 q.2) parts us→aj (ai k) cs cur.toList→
  ∃cells,Instr.fill place cur us=some cells∧aj (ai k) r cells.toList
 |[],_,cs,cur,r,ps,h,_,hu,hc=>by cases hu;cases h;exact⟨cur,rfl,hc⟩
 |(f,v)::parts,_,cs,cur,r,ps,h,ho,hu,hc=>by
  cases hu with
  | @cons _ q _ us' hq ht=>
  obtain⟨f',u⟩:=q
  obtain⟨rfl,hr⟩:=hq
  simp only[yU] at h
  split at h
  ·rename_i fo ft cs' hf hcs
   split at h
   ·rename_i t hti
    split at h
    ·rename_i r' ps' hrec
     cases h
     simp only[All] at ho
     obtain⟨ho1,ho2,ho3⟩:=ho
     have hcv:=qY hcs hr
     have hlv:=hcv.length
     have hlc:=hc.length
     simp only[Array.length_toList] at hlv hlc
     have e:=qw fo u.cells.toList 0 cur (by simp;omega)
     have hz:u.cells.zipIdx.foldl (fun cs (c,j)=>cs.setIfInBounds (fo+j) c) cur=((u.cells.toList.zipIdx 0).foldl (fun cs (c,j)=>cs.setIfInBounds (fo+j) c) cur):=by
      rw[←Array.foldl_toList];simp
     obtain⟨cells,h1,h2⟩:=Nz hplace (cur:=u.cells.zipIdx.foldl (fun cs (c,j)=>cs.setIfInBounds (fo+j) c) cur) hrec ho3 ht (by
      rw[hz,e];simpa using tK hc hcv fo)
     refine⟨cells,?_,h2⟩
     simp only[Instr.fill,hplace _ _ _ _ hf hti]
     rw[if_neg (by simp;omega)]
     exact h1
    ·cases h
   ·cases h
  ·cases h
omit [Dr] in
theorem Jy {T:TypeId} {parts:List (Nat×AV)} {us:Array (Nat×Value)} {out:Out} (he:nM P T parts=some out) (ho:All out.obl)
 (hr:aj (fun(p:Nat×AV) (q:Nat×Value)=>p.1=q.1∧af (mkK x bl cap st w) p.2 q.2) parts us.toList):
 ∃v,(Instr.build T us).run P w= .ok v w∧af (mkK x bl cap st w) out.v v∧out.upd=[]:=by
 unfold nM at he
 split at he
 ·rename_i t ht hb
  split at he
  ·rename_i cs ps hf
   cases he
   obtain⟨z,hz,hzc⟩:=pX w ht
   obtain⟨i,u,z',hi,hu,hz',g1,g2,g3,g4,g5,g6,g7⟩:=eG ht
   unfold kC at hb
   split at hb
   ·rename_i fs hs
    have hplaces:(fs.mapM fun f=>do pure (f.offset,←sizeOf f.type):Sem (Array (Nat×Nat))).run P w= .ok (fs.map fun f=>(f.offset,P.cellsOf f.type)) w:=by
     rw[←Array.toArray_toList (xs:=fs)]
     generalize fs.toList=l at*
     simp only[List.mapM_toArray,Sem.run_map]
     have:(l.mapM fun f=>do pure (f.offset,←sizeOf f.type):Sem (List (Nat×Nat))).run P w= .ok (l.map fun f=>(f.offset,P.cellsOf f.type)) w:=by
      clear hs
      induction l with
      |nil=>simp
      |cons f l ih=>
       simp only[List.all_cons,aaj] at hb
       obtain⟨j,hj⟩:=aaq.1 hb.1
       have hso:(sizeOf f.type).run P w= .ok (P.cellsOf f.type) w:=by simp[sizeOf,typeInfo,hj,Program.cellsOf]
       simp only[List.mapM_cons,Sem.run_bind,hso,Result.andThen_ok,Sem.run_pure,ih hb.2,aax]
     rw[this];simp
    have hpl:∀f fo ft t,ji P T f=some (fo,ft)→ti P ft=some t→(fs.map fun f=>(f.offset,P.cellsOf f.type))[f]? =some (fo,t.size):=by
     intro f fo ft t' hf' ht'
     obtain⟨fs',F,hu',hF,h1,h2⟩:=Ah hf'
     rw[hs] at hu';cases hu'
     obtain⟨j,_,_,hj,_,_,a1,_⟩:=eG ht'
     rw[Array.getElem?_map,hF]
     simp[h1,h2,Program.cellsOf,hj,a1]
    obtain⟨cells,h1,h2⟩:=Nz (P:=P) (place:=((fs.map fun f=>(f.offset,P.cellsOf f.type))[·]?)) hpl hf ho hr (cur:=z.cells) (by rw[hzc];exact vK g6)
    refine⟨.agg cells,?_,⟨cells.toList,by simp,h2⟩,rfl⟩
    simp only[Instr.build,Sem.run_bind,hz,Result.andThen_ok,run_underlying hs,hplaces,h1,Sem.run_pure]
   ·cases hb
  ·cases he
 ·cases he
end
end Go.Ab
namespace Go.Ab
section
variable {P:Program} {x:X} {bl:Nat→List Nat} {cap:Nat→Nat} {st:List (Nat×AO)} {w:World}
variable [Dr]
omit [Dr] in
theorem qm (zs:List Value) (n:Nat) (hz:zs≠[]):((Array.range (n*zs.length)).map (zs.toArray[· %zs.toArray.size]!)).toList=(List.replicate n zs).flatten:=by
 induction n with
 |zero=>simp
 |succ n ih=>
  have hpos:0<zs.length:=abH.2 hz
  rw[List.replicate_succ',List.flatten_concat,←ih]
  apply aa6
  intro j
  simp only[Array.toList_map,aaH,Array.toList_range,List.getElem?_append,aai,List.length_range]
  by_cases h1:j<n*zs.length
  ·rw[if_pos h1,abv (by rw[aaI];omega),abv h1]
  ·rw[if_neg h1]
   by_cases h2:j<(n+1)*zs.length
   ·rw[abv h2]
    have e:j%zs.length=j-n*zs.length:=by
     rw[aaI] at h2
     rw[←Nat.mod_eq_of_lt (a:=j-n*zs.length) (b:=zs.length) (by omega)]
     conv=>lhs;rw[show j=j-n*zs.length+n*zs.length by omega]
     rw[Nat.add_mul_mod_self_right]
    have hlt:j-n*zs.length<zs.length:=by rw[aaI] at h2;omega
    simp[e,hlt]
   ·rw[aaB (by simp;omega),aaB (by rw[aaI] at h2;omega)]
    rfl
omit [Dr] in
theorem Iw {k:K} {zs:List Value} (h:∀v∈zs,v.oneCell'=true) (n:Nat):aj (ai k) (List.replicate n (zs.map fun z=>C.d (.v z))).flatten (List.replicate n zs).flatten:=by
 induction n with
 |zero=>exact .nil
 |succ n ih=>rw[List.replicate_succ,List.replicate_succ,List.flatten_cons,List.flatten_cons];exact(vK h).append ih
omit [Dr] in
theorem Ja {k:K} {sz:Nat} (hsz:0<sz):∀{parts:List (Nat×AV)} {us:List (Nat×Value)} {xs:List (List C)} {cur:Array Value} {r:List (List C)} {ps:List Prop},
 ql sz xs parts=some (r,ps)→All ps→aj (fun(p:Nat×AV) (q:Nat×Value)=>p.1=q.1∧af k p.2 q.2) parts us→(∀l∈xs,l.length=sz)→aj (ai k) xs.flatten cur.toList→
 r.length=xs.length∧(∀l∈r,l.length=sz)∧∃cells,Instr.fill (fun i=>some (i*sz,sz)) cur us=some cells∧aj (ai k) r.flatten cells.toList
 |[],_,xs,cur,r,ps,h,_,hu,hl,hc=>by cases hu;cases h;exact⟨rfl,hl,cur,rfl,hc⟩
 |(i,v)::parts,_,xs,cur,r,ps,h,ho,hu,hl,hc=>by
  cases hu with
  | @cons _ q _ us' hq ht=>
  obtain⟨i',u⟩:=q
  obtain⟨rfl,hr⟩:=hq
  simp only[ql] at h
  split at h
  ·rename_i cs hcs
   split at h
   ·rename_i r' ps' hrec
    cases h
    simp only[All] at ho
    obtain⟨ho1,ho2,ho3⟩:=ho
    have hcv:=qY hcs hr
    have hlv:=hcv.length
    have hlc:=hc.length
    rw[flat_length hl] at hlc
    simp only[Array.length_toList] at hlv hlc
    have hmul:i*sz+sz≤xs.length*sz:=by have:=aau sz ho2;rwa [aaI] at this
    have e:=qw (i*sz) u.cells.toList 0 cur (by simp;omega)
    have hz:u.cells.zipIdx.foldl (fun cs (c,j)=>cs.setIfInBounds (i*sz+j) c) cur=((u.cells.toList.zipIdx 0).foldl (fun cs (c,j)=>cs.setIfInBounds (i*sz+j) c) cur):=by
     rw[←Array.foldl_toList];simp
    have hl':∀l∈xs.set i cs,l.length=sz:=fun l hl'=>by
     rcases abr hl' with h|h
     ·exact hl l h
     ·rw[h];exact ho1
    obtain⟨h0,h00,cells,h1,h2⟩:=Ja hsz (cur:=u.cells.zipIdx.foldl (fun cs (c,j)=>cs.setIfInBounds (i*sz+j) c) cur) hrec ho3 ht hl' (by
     rw[hz,e,AP hl ho2 cs ho1]
     have:=((hc.take (i*sz)).append hcv).append (hc.drop (i*sz+sz))
     have e2:i*sz+0+u.cells.toList.length=i*sz+sz:=by simp;omega
     rw[e2];simpa using this)
    refine⟨by rw[h0];simp,h00,cells,?_,h2⟩
    simp only[Instr.fill]
    rw[if_neg (by simp;omega)]
    exact h1
   ·cases h
  ·cases h
omit [Dr] in
theorem OX {w:World} (o:Obj) (d:Nat) (hd:w.drawn≤d):Grew w {w with heap:=w.heap.push o,drawn:=d}:=
 ⟨by simp,fun b hb=>by simp[Array.getElem?_push,Nat.ne_of_lt hb],rfl,rfl,rfl,hd⟩
theorem qX {id sz n T:Nat} {xs:List (List C)} {cells:Array Value} {w':World} (hs:aP x bl cap st w) (hid:get st id=none) (hw:Grew w w') (hh:w'.heap[w.heap.size]? =some (.cells cells T (0,0)))
 (hlt:w.heap.size<w'.heap.size) (hsz:0<sz) (hl:∀l∈xs,l.length=sz) (hn:xs.length≤n) (hcs:cells.size=n*sz)
 (hc:aj (ai (mkK x bl cap st w)) xs.flatten (cells.toList.take (xs.length*sz))):
 ∃bl' cap',aP x bl' cap' (put st id (.arr sz xs)) w'∧(mkK x bl cap st w).le (mkK x bl' cap' (put st id (.arr sz xs)) w')∧
  ai (mkK x bl' cap' (put st id (.arr sz xs)) w') (.ms id sz 0 xs.length) (.slice (some ⟨w.heap.size,0,none⟩) xs.length n):=by
 by_cases h0:n=0
 ·subst h0
  have hx:xs=[]:=by simpa using hn
  subst hx
  have hle:=oH (x:=x) (bl:=bl) (cap:=cap) (o:= .arr sz []) (c:=0) hid hw.heap (bs:=[]) (by simp)
  refine⟨_,_,hs.alloc hid hw (bs:=[]) (c:=0) (by simp) (by simp) ⟨by simp,by simp,hsz, .inl ⟨by simp[mkK],by simp[mkK]⟩⟩,hle,?_⟩
  exact⟨by simp[mkK,get_put],by simp, .inl ⟨by simp[mkK],some ⟨w.heap.size,0,none⟩,rfl⟩⟩
 ·have hle:=oH (x:=x) (bl:=bl) (cap:=cap) (o:= .arr sz xs) (c:=n) hid hw.heap (bs:=[w.heap.size]) (by simp)
  refine⟨_,_,hs.alloc hid hw (bs:=[w.heap.size]) (c:=n) (by simpa using hlt) (by simp) ⟨by simpa[mkK] using hn,hl,hsz, .inr ⟨w.heap.size,T,cells.toList,by simp[mkK],?_,by simpa[mkK] using hcs,hc.mono fun _ _=>ai.le hle⟩⟩,hle,?_⟩
  ·simpa[mkK] using hh
  ·exact⟨by simp[mkK,get_put],by simpa[mkK] using hn, .inr ⟨by simpa[mkK] using h0,w.heap.size,by simp[mkK],by simp[mkK]⟩⟩
theorem xK {T n id:Nat} {parts:List (Nat×AV)} {us:Array (Nat×Value)} {out:Out} (hs:aP x bl cap st w) (he:dY P T n id parts (get st)=some out) (ho:All out.obl)
 (hr:aj (fun(p:Nat×AV) (q:Nat×Value)=>p.1=q.1∧af (mkK x bl cap st w) p.2 q.2) parts us.toList):
 ∃bl' cap' w' u,(Instr.buildSlice T n us).run P w= .ok u w'∧aP x bl' cap' (ah st out.upd) w'∧(mkK x bl cap st w).le (mkK x bl' cap' (ah st out.upd) w')∧
  af (mkK x bl' cap' (ah st out.upd) w') out.v u:=by
 unfold dY at he
 split at he
 ·rename_i e hel hid
  have hu:=iJ hel
  split at he
  ·rename_i t ht
   split at he
   ·rename_i xs ps hxs
    cases he
    simp only[All] at ho
    obtain⟨z,hz,hzc⟩:=pX w ht
    obtain⟨i,u,z',hi,hu',hz',g1,g2,g3,g4,g5,g6,g7⟩:=eG ht
    have hpos:0<t.size:=by omega
    have hzz:z.cells=t.zero.toArray:=by rw[←hzc]
    have hne:t.zero≠[]:=by intro h;rw[h] at g4;simp at g4;omega
    have hcur:((Array.range (n*t.size)).map (z.cells[· %z.cells.size]!)).toList=(List.replicate n t.zero).flatten:=by
     rw[hzz,←g4];exact qm _ _ hne
    obtain⟨h0,h00,cells,h1,h2⟩:=Ja hpos hxs ho.2 hr (cur:=(Array.range (n*t.size)).map (z.cells[· %z.cells.size]!)) (by
     intro l hl;rw[abK hl];simp[g4]) (by rw[hcur];exact Iw g6 n)
    rw[List.length_replicate] at h0
    have hcl:=h2.length
    rw[flat_length h00,h0] at hcl
    simp only[Array.length_toList] at hcl
    obtain⟨bl',cap',a1,a2,a3⟩:=qX (n:=n) (T:=e) (cells:=cells) (w':={w with heap:=w.heap.push (.cells cells e)}) hs hid (eQ w _) (aaY) (by simp) hpos h00 (by omega) (by omega)
     (by rw[h0,aaP (by simp;omega)];exact h2)
    refine⟨bl',cap',_,_,?_,a1,a2,by rw[h0] at a3;exact a3⟩
    simp only[Instr.buildSlice,Sem.run_bind,run_underlying hu,Result.andThen_ok,aQ w ht]
    rw[if_neg (by omega)]
    by_cases hn:n*t.size=0
    ·have hr0:Array.range 0= #[]:=rfl
     rw[hn,hr0,Array.map_empty] at h1
     simp only[hn,if_true,Sem.run_bind,Sem.run_pure,Result.andThen_ok,hr0,Array.map_empty,h1,newRow,run_newObj]
    ·simp only[hn,if_false,Sem.run_bind,hz,Sem.run_pure,Result.andThen_ok,h1,newRow,run_newObj]
   ·cases he
  ·cases he
 ·cases he
theorem zk {T id:Nat} {a b:AV} {ua ub:Value} {out:Out} (hs:aP x bl cap st w) (he:fO P T id a b (get st)=some out) (ho:All out.obl)
 (ha:af (mkK x bl cap st w) a ua) (hb:af (mkK x bl cap st w) b ub):
 ∃bl' cap' w' u,(Instr.makeSlice T ua ub).run P w= .ok u w'∧aP x bl' cap' (ah st out.upd) w'∧(mkK x bl cap st w).le (mkK x bl' cap' (ah st out.upd) w')∧
  af (mkK x bl' cap' (ah st out.upd) w') out.v u:=by
 unfold fO at he
 split at he
 ·rename_i e k n k' m hel hid
  have hu:=iJ hel
  split at he
  ·rename_i t ht
   cases he
   simp only[All] at ho
   obtain⟨rfl,h0,hby,h63, -⟩:=ho
   cases ha;cases hb
   obtain⟨i,u,z,hi,hu',hz',g1,g2,g3,g4,g5,g6,g7⟩:=eG ht
   have hpos:0<t.size:=by omega
   have hne:t.zero≠[]:=by intro h;rw[h] at g4;simp at g4;omega
   have hrun:=run_make (P:=P) w T e i z hu hi hz' k k' n n h0 (Int.le_refl _) (by rw[g2];omega) h63
   have hcur:(madeCells z.cells (n.toNat*i.size)).toList=(List.replicate n.toNat t.zero).flatten:=by
    have hzz:z.cells=t.zero.toArray:=by rw[←g3]
    rw[hzz,g1,←g4];exact qm _ _ hne
   have hl:∀l∈List.replicate n.toNat (t.zero.map fun z=>C.d (.v z)),l.length=t.size:=fun l hl=>by rw[abK hl];simp[g4]
   obtain⟨bl',cap',a1,a2,a3⟩:=qX (n:=n.toNat) (T:=e) (xs:=List.replicate n.toNat (t.zero.map fun z=>C.d (.v z))) (cells:=madeCells z.cells (n.toNat*i.size))
    (w':=w.alloc (.cells (madeCells z.cells (n.toNat*i.size)) e)) hs hid (eQ w _) (aaY) (by show _<(w.heap.push _).size;rw[Array.size_push];omega) hpos hl (by simp) (by rw[size_madeCells,g1])
    (by rw[hcur,aaP];exact Iw g6 _;rw[flat_length (sz:=t.size) (fun l hl=>by rw[abK hl];exact g4)];simp)
   rw[List.length_replicate] at a3
   exact⟨bl',cap',_,_,hrun,a1,a2,a3⟩
  ·cases he
 ·cases he
end
end Go.Ab
namespace Go.Ab
theorem N7 {α:Type} (l:List (Nat×α)) (i:Nat) (a b:α):put (put l i a) i b=put l i b:=by
 induction l with
 |nil=>simp[put]
 |cons p l ih=>
  obtain⟨j,y⟩:=p
  simp only[put]
  by_cases h:j=i
  ·subst h;simp[put]
  ·simp[h,put,ih]
section
variable {P:Program} {x:X} {bl:Nat→List Nat} {cap:Nat→Nat} {st:List (Nat×AO)} {w:World}
variable [Dr]
omit [Dr] in
theorem Ot {α:Type} {sz:Nat} {xs:List (List α)} (hl:∀x∈xs,x.length=sz) {i r:Nat} (hi:i<xs.length) (hr:r<sz):xs.flatten[i*sz+r]? =(xs.getD i [])[r]?:=by
 rw[←flat_get hl hi,aaz,if_pos hr,aaR]
omit [Dr] in
theorem Eb {α:Type} {sz:Nat}:∀{xs:List (List α)},(∀x∈xs,x.length=sz)→∀{n:Nat},(xs.drop n).flatten=xs.flatten.drop (n*sz)
 |[],_,n=>by simp
 |y::xs,_,0=>by simp
 |y::xs,hl,n+1=>by
  have h0:=hl y (by simp)
  rw[List.drop_succ_cons,Eb (fun z hz=>hl z (by simp[hz])),List.flatten_cons,List.drop_append,abo (as:=y) (by rw[aaI];omega),List.nil_append]
  congr 1;rw[aaI];omega
omit [Dr] in
theorem EN {α:Type} {sz:Nat}:∀{xs:List (List α)},(∀x∈xs,x.length=sz)→∀{n:Nat},(xs.take n).flatten=xs.flatten.take (n*sz)
 |[],_,n=>by simp
 |y::xs,_,0=>by simp
 |y::xs,hl,n+1=>by
  have h0:=hl y (by simp)
  rw[List.take_succ_cons,List.flatten_cons,EN (fun z hz=>hl z (by simp[hz])),List.flatten_cons,List.take_append,aaP (l:=y) (by rw[aaI];omega)]
  congr 2;rw[aaI];omega
omit [Dr] in
theorem bV {size:Nat} {a:Option Addr} {cp:Nat} (w:World):(Builtin.firstCells size 0 (.slice a 0 cp)).run P w= .ok #[] w:=by
 cases a<;>simp[Builtin.firstCells,loadCells,loadCellsFrom]
theorem src_ok {n0:Nat} (h0:0<n0) {y:AV} {u:Value} {ys:List (List C)} {ids:List Nat} {ps:List Prop} (hs:aP x bl cap st w) (he:elemsOf y (get st)=some (ys,ids,ps)) (ho:All ps)
 (hl:∀l∈ys,l.length=n0) (hr:af (mkK x bl cap st w) y u):
 ∃news:List Value,(∀w2:World,(Builtin.lenOf u).run P w2= .ok ys.length w2)∧aj (ai (mkK x bl cap st w)) ys.flatten news∧
  ∀w2:World,w2.heap=w.heap→(Builtin.firstCells n0 ys.length u).run P w2= .ok news.toArray w2:=by
 unfold elemsOf at he
 split at he
 ·rename_i sz ds
  cases he
  cases hr with
  |nil _ a cp=>exact⟨[],fun w2=>by simp[Builtin.lenOf], .nil,fun w2 _=>by simpa using bV w2⟩
  |ps _ _ b o cp f hM hl2 hc hrr hcap hb=>
   by_cases hz:ds=[]
   ·subst hz;exact⟨[],fun w2=>by simp[Builtin.lenOf], .nil,fun w2 _=>by simpa using bV w2⟩
   ·have hsz:sz=n0:=by
     obtain⟨d,hd⟩:=List.exists_mem_of_ne_nil ds hz
     have:=hl (d.map C.d) (aaZ hd)
     rw[aai,hl2 d hd] at this
     exact this
    subst hsz
    have hfl:(ds.map fun l=>l.map C.d).flatten.length=ds.length*sz:=by rw[flat_length hl,aai]
    refine⟨(List.range (ds.length*sz)).map fun j=>f (j/sz) (j%sz),fun w2=>by simp[Builtin.lenOf],?_,?_⟩
    ·refine aj.LJ (by rw[hfl];simp) ?_
     intro j c v hj hv
     have hjl:j<ds.length*sz:=by
      rw[←hfl]
      rcases aaT j (ds.map fun l=>l.map C.d).flatten.length with h|h
      ·exact h
      ·rw[aaB h] at hj;cases hj
     have hi:j/sz<ds.length:=Nat.div_lt_of_lt_mul (by rw[Nat.mul_comm];exact hjl)
     have hm:j%sz<sz:=Nat.mod_lt _ h0
     have e1:j/sz*sz+j%sz=j:=by rw[Nat.mul_comm];exact Nat.div_add_mod j sz
     rw[aaH,abv hjl] at hv
     simp at hv;subst hv
     have:=Ot hl (i:=j/sz) (r:=j%sz) (by simpa using hi) hm
     rw[e1,hj] at this
     have hg:(ds.map fun l=>l.map C.d).getD (j/sz) []=(ds.getD (j/sz) []).map C.d:=by simp[List.getD,hi]
     rw[hg,aaH] at this
     have hlen:=hl2 (ds.getD (j/sz) []) (by rw[aam,aab hi];simp)
     rw[kW (by omega)] at this
     simp at this;subst this
     exact hrr _ _ hi hm
    ·intro w2 hw2
     have hcell:∀j v,((List.range (ds.length*sz)).map fun j=>f (j/sz) (j%sz))[j]? =some v→w2.cell? ((⟨b,o,none⟩:Addr).add j)=some v:=by
      intro j v hv
      have hjl:j<ds.length*sz:=by
       rcases aaT j (ds.length*sz) with h|h
       ·exact h
       ·rw[aaB (by simpa using h)] at hv;cases hv
      have hi:j/sz<ds.length:=Nat.div_lt_of_lt_mul (by rw[Nat.mul_comm];exact hjl)
      have hm:j%sz<sz:=Nat.mod_lt _ h0
      have e1:j/sz*sz+j%sz=j:=by rw[Nat.mul_comm];exact Nat.div_add_mod j sz
      rw[aaH,abv hjl] at hv
      simp at hv;subst hv
      rw[gp,cell_of_heap (w:=w) (by rw[hw2])]
      have:=hc _ _ hi hm
      rw[Nat.add_assoc,e1] at this
      exact this
     rw[aai]
     exact run_firstCells_some w2 sz ds.length ⟨b,o,none⟩ ds.length cp _ (by simp) hcell
 ·cases he
  cases hr
  exact⟨[],fun w2=>by simp[Builtin.lenOf], .nil,fun w2 _=>by simpa using bV w2⟩
 ·rename_i id sz off len
  split at he
  ·rename_i sz' xs hb
   cases he
   simp only[All] at ho
   obtain⟨hle,rfl, -⟩:=ho
   obtain⟨hd,hcap,hh⟩:=hr
   have hlen:((xs.drop off).take len).length=len:=by simp;omega
   by_cases hz:len=0
   ·subst hz
    have hu:∃a cp,u= .slice a 0 cp:=by
     rcases hh with⟨_,a,rfl⟩|⟨_,b,_,rfl⟩
     ·exact⟨a,0,rfl⟩
     ·exact⟨_,_,rfl⟩
    obtain⟨a,cp,rfl⟩:=hu
    exact⟨[],fun w2=>by simp[Builtin.lenOf],by simp;exact .nil,fun w2 _=>by simpa using bV w2⟩
   ·rcases hh with⟨h,_⟩|⟨hne,b,hbb,rfl⟩
    ·omega
    ·obtain⟨b',T',vs,hbl,hhp,hvl,hcp,hl1,hall,_⟩:=uV hs hb (i:=off) (by omega)
     simp only[mkK] at hbb
     rw[hbl] at hbb;simp at hbb;subst hbb
     have hsz:sz=n0:=by
      have hm:xs.getD off []∈(xs.drop off).take len:=by
       refine List.mem_iff_getElem?.2 ⟨0,?_⟩
       rw[aaz,if_pos (by omega),aaR,Nat.add_zero,kW (by omega)]
       rfl
      have:=hl _ hm
      rw[hl1 _ (by rw[aam,aab (by omega)];simp)] at this
      exact this
     subst hsz
     have hmul:off*sz+len*sz≤xs.length*sz:=by rw[←abf];exact aau _ hle
     have hmul2:xs.length*sz≤cap id*sz:=aau _ hcp
     refine⟨(vs.drop (off*sz)).take (len*sz),fun w2=>by simp only[Builtin.lenOf,hlen,Sem.run_pure],?_,?_⟩
     ·have:=(hall.drop (off*sz)).take (len*sz)
      rw[List.drop_take,List.take_take,Nat.min_eq_left (by omega)] at this
      rw[EN (fun l hl=>hl1 l (abD hl)),Eb hl1]
      exact this
     ·intro w2 hw2
      rw[hlen]
      refine run_firstCells_some w2 sz len ⟨b',off*sz,none⟩ len _ _ (by simp;omega) ?_
      intro j v hv
      rw[gp,cell_of_heap (w:=w) (by rw[hw2]),oL hhp,←hv,aaz]
      split
      ·rw[aaR]
      ·rename_i h;rw[aaz,if_neg h] at hv;cases hv
  ·cases he
 ·cases he
def JC (P:Program) (T:TypeId):Prop:=(∃e,P.underlying T=some (.slice e))∨P.underlying T=some .string
section
variable {e e' T T' ty:TypeId} {t:TI} (w:World)
omit [Dr] in
theorem oO (ht:P.underlying T=some (.slice e)) (ht':JC P T') (hti:ti P e=some t) {base:Option Addr} {sLen sCap n:Nat} {u:Value} {news:Array Value}
 (hlen:(Builtin.lenOf u).run P w= .ok n w) (hf:(Builtin.firstCells t.size n u).run P w= .ok news w) (hroom:sLen+n≤sCap):
 (Builtin.append_ #[T,T'] ty #[.slice base sLen sCap,u]).run P w=
   (((match base with|some a=>storeCells (a.add (sLen*t.size)) news.toList|none=>pure ()):Sem Unit).run P w).andThen fun _ w'=> .ok (.slice base (sLen+n) sCap) w':=by
 rcases ht' with⟨_,ht'⟩|ht'<;>cases base<;>simp[Builtin.append_,run_underlying ht,run_underlying ht',aQ w hti,hlen,hf,hroom]
omit [Dr] in
theorem GL (ht:P.underlying T=some (.slice e)) (ht':JC P T') (hti:ti P e=some t) {base:Option Addr} {sLen sCap n:Nat} {u:Value} {olds news:Array Value}
 (hlen:(Builtin.lenOf u).run P w= .ok n w) (hf:∀w2:World,w2.heap=w.heap→(Builtin.firstCells t.size n u).run P w2= .ok news w2)
 (hfo:∀w2:World,w2.heap=w.heap→(Builtin.firstCells t.size sLen (.slice base sLen sCap)).run P w2= .ok olds w2) (hgrow:¬sLen+n≤sCap)
 (hby:(sLen+n)*t.bytes≤140737488355328) (hb0:t.bytes≠0):
 ∃(newCap:Nat) (z:Array Value) (d:Nat),sLen+n≤newCap∧z.toList=t.zero∧w.drawn≤d∧
  (Builtin.append_ #[T,T'] ty #[.slice base sLen sCap,u]).run P w=
    .ok (.slice (some ⟨w.heap.size,0,none⟩) (sLen+n) newCap) {w with heap:=w.heap.push (.cells (olds++news++Builtin.zeroCells z (newCap-(sLen+n))) e),drawn:=d}:=by
 obtain⟨i,ud,z',hi,hu',hz',g1,g2,g3,g4,g5,g6,g7⟩:=eG hti
 have hfit:=growslice_fits (need:=sLen+n) (old:=sCap) (bytes:=t.bytes) (by omega) hby
 refine⟨(Question.appendCap (sLen+n) sCap e).cut (w.tape w.drawn (.appendCap (sLen+n) sCap e)),z'.cells,w.drawn+1,by simp[Question.cut],g3,Nat.le_succ _,?_⟩
 have hso:∀w2:World,(sizeOf e).run P w2= .ok t.size w2:=fun w2=>aQ w2 hti
 have hinfo:∀w2:World,(typeInfo e).run P w2= .ok i w2:=fun w2=>by simp[typeInfo,hi]
 have hzero:∀w2:World,(zeroValue e).run P w2= .ok z' w2:=fun w2=>by simp[zeroValue,typeInfo,hi,hz']
 have n1:¬(281474976710656<Builtin.nextslicecap (sLen+n) sCap*i.bytes):=by rw[g2];omega
 have n2:¬(i.bytes=0):=by rw[g2];exact hb0
 have f1:=hf {w with drawn:=w.drawn+1} rfl
 have f2:=hfo {w with drawn:=w.drawn+1} rfl
 have f1':(Builtin.firstCells t.size n u).run P w.drew= .ok news w.drew:=f1
 have f2':(Builtin.firstCells t.size sLen (.slice base sLen sCap)).run P w.drew= .ok olds w.drew:=f2
 rcases ht' with⟨_,ht'⟩|ht'<;>simp[Builtin.append_,run_underlying ht,run_underlying ht',hso,hlen,hgrow,hinfo,n1,n2,Question.forced,f1',f2',hzero,newRow]<;>rfl
end
omit [Dr] in
theorem Grew.refl (w:World):Grew w w:=⟨aat _,fun _ _=>rfl,rfl,rfl,rfl,aat _⟩
theorem nG {id sz:Nat} (a:Option Addr) (hs:aP x bl cap st w) (hid:get st id=none) (hsz:0<sz):
 ∃bl' cap',aP x bl' cap' (put st id (.arr sz [])) w∧(mkK x bl cap st w).le (mkK x bl' cap' (put st id (.arr sz [])) w)∧
  ai (mkK x bl' cap' (put st id (.arr sz [])) w) (.ms id sz 0 0) (.slice a 0 0):=by
 have hle:=oH (x:=x) (bl:=bl) (cap:=cap) (o:= .arr sz []) (c:=0) hid (Grew.refl w).heap (bs:=[]) (by simp)
 refine⟨_,_,hs.alloc hid (Grew.refl w) (bs:=[]) (c:=0) (by simp) (by simp) ⟨by simp,by simp,hsz, .inl ⟨by simp[mkK],by simp[mkK]⟩⟩,hle,?_⟩
 exact⟨by simp[mkK,get_put],by simp, .inl ⟨by simp[mkK],a,rfl⟩⟩
theorem Fv {id:Nat} {e T T' ty:TypeId} {t:TI} {xs ys:List (List C)} {base:Option Addr} {sCap:Nat} {u:Value} {olds news:List Value} (hs:aP x bl cap st w) (hid:get st id=none)
 (ht:P.underlying T=some (.slice e)) (ht':JC P T') (hti:ti P e=some t)
 (hlen:(Builtin.lenOf u).run P w= .ok ys.length w) (hf:∀w2:World,w2.heap=w.heap→(Builtin.firstCells t.size ys.length u).run P w2= .ok news.toArray w2)
 (hfo:∀w2:World,w2.heap=w.heap→(Builtin.firstCells t.size xs.length (.slice base xs.length sCap)).run P w2= .ok olds.toArray w2)
 (hgrow:¬xs.length+ys.length≤sCap) (hby:(xs.length+ys.length)*t.bytes≤140737488355328) (hb0:t.bytes≠0)
 (ho:aj (ai (mkK x bl cap st w)) xs.flatten olds) (hn:aj (ai (mkK x bl cap st w)) ys.flatten news) (hlx:∀l∈xs,l.length=t.size) (hly:∀l∈ys,l.length=t.size):
 ∃bl' cap' w' v,(Builtin.append_ #[T,T'] ty #[.slice base xs.length sCap,u]).run P w= .ok v w'∧aP x bl' cap' (put st id (.arr t.size (xs++ys))) w'∧
  (mkK x bl cap st w).le (mkK x bl' cap' (put st id (.arr t.size (xs++ys))) w')∧ai (mkK x bl' cap' (put st id (.arr t.size (xs++ys))) w') (.ms id t.size 0 (xs.length+ys.length)) v:=by
 obtain⟨i,ud,z',hi,hu',hz',g1,g2,g3,g4,g5,g6,g7⟩:=eG hti
 obtain⟨newCap,z,d,h1,hz,hdr,hrun⟩:=GL (ty:=ty) w ht ht' hti hlen hf hfo hgrow hby hb0
 have hlo:=ho.length
 have hln:=hn.length
 rw[flat_length hlx] at hlo
 rw[flat_length hly] at hln
 have hzs:z.size=t.size:=by rw[←Array.length_toList,hz,g4]
 have hsz:(olds.toArray++news.toArray++Builtin.zeroCells z (newCap-(xs.length+ys.length))).size=newCap*t.size:=by
  simp only[Array.size_append,abN,size_zeroCells,hzs,←hlo,←hln]
  rw[←abf,←abf];congr 1;omega
 obtain⟨bl',cap',a1,a2,a3⟩:=qX (n:=newCap) (T:=e) (xs:=xs++ys) (w':={w with heap:=w.heap.push (.cells (olds.toArray++news.toArray++Builtin.zeroCells z (newCap-(xs.length+ys.length))) e),drawn:=d})
  hs hid (OX _ _ hdr) aaY (by show _<(w.heap.push _).size;rw[Array.size_push];omega) (by omega) (fun l hl=>by rcases aay.1 hl with h|h;exact hlx l h;exact hly l h)
  (by simpa using h1) hsz (by
    rw[List.flatten_append]
    have e1:(olds.toArray++news.toArray++Builtin.zeroCells z (newCap-(xs.length+ys.length))).toList.take ((xs++ys).length*t.size)=olds++news:=by
     rw[Array.toList_append,Array.toList_append,List.take_left']
     simp[←hlo,←hln,abf]
    rw[e1];exact ho.append hn)
 exact⟨bl',cap',_,_,hrun,a1,a2,by simpa using a3⟩
theorem Ij {T T' id id0 ty e:Nat} {t:TI} {xs ys:List (List C)} {news:List Value} {ua ub:Value} (hs:aP x bl cap st w) (hid:get st id=none) (hu:P.underlying T=some (.slice e)) (hu':JC P T') (ht:ti P e=some t)
 (hid0:get st id0=some (.arr t.size xs)) (hne:id0≠id) (hb0:t.bytes≠0) (hby:(xs.length+ys.length)*t.bytes≤140737488355328) (hly:∀l∈ys,l.length=t.size)
 (s1:∀w2:World,(Builtin.lenOf ub).run P w2= .ok ys.length w2) (s2:aj (ai (mkK x bl cap st w)) ys.flatten news) (s3:∀w2:World,w2.heap=w.heap→(Builtin.firstCells t.size ys.length ub).run P w2= .ok news.toArray w2)
 (ha:af (mkK x bl cap st w) (.c (.ms id0 t.size 0 xs.length)) ua):
 ∃bl' cap' w' u,(Builtin.append_ #[T,T'] ty #[ua,ub]).run P w= .ok u w'∧aP x bl' cap' (put (put st id0 .dead) id (.arr t.size (xs++ys))) w'∧(mkK x bl cap st w).le (mkK x bl' cap' (put (put st id0 .dead) id (.arr t.size (xs++ys))) w')∧
  af (mkK x bl' cap' (put (put st id0 .dead) id (.arr t.size (xs++ys))) w') (.c (.ms id t.size 0 (xs.length+ys.length))) u:=by
 obtain⟨i,ud,z',hi,hud,hz',g1,g2,g3,g4,g5,g6,g7⟩:=eG ht
 have hpos:0<t.size:=by omega
 obtain⟨hd,hcap,hh⟩:=ha
 have hobj:=hs.objs id0 _ hid0
 obtain⟨hc0,hlx,_,hcase⟩:=hobj
 simp only[mkK] at hc0 hcase hcap
 have hk:=hs.kill hid0
 have lk:=lZ (x:=x) (bl:=bl) (cap:=cap) (w:=w) hid0
 have hid':get (put st id0 .dead) id=none:=by rw[aZ hne];exact hid
 rcases hh with⟨hz,a,rfl⟩|⟨hz,b',hb',hua⟩
 ·-- no room at all
  simp only[mkK] at hz
  have hx0:xs=[]:=by simpa using(by omega:xs.length=0)
  subst hx0
  by_cases hy0:ys=[]
  ·subst hy0
   have hr:=oO (P:=P) (ty:=ty) w hu hu' ht (base:=a) (sLen:=0) (sCap:=0) (s1 w) (s3 w rfl) (by simp)
   have hnews:news=[]:=by have:=s2.jH;exact this
   subst hnews
   obtain⟨bl',cap',a1,a2,a3⟩:=nG a hk hid' hpos
   refine⟨bl',cap',w, .slice a 0 0,?_,a1,lk.trans a2 (aat _),a3⟩
   rw[show(Value.slice a 0 0)=Value.slice a 0 0 from rfl] at hr⊢
   simp only[List.length_nil,Nat.add_zero] at hr
   rw[hr];cases a<;>simp[storeCells]
  ·have hpos':0<ys.length:=abH.2 hy0
   obtain⟨bl',cap',w',v,r1,r2,r3,r4⟩:=Fv (ty:=ty) (xs:=[]) (olds:=[]) hk hid' hu hu' ht (s1 w) s3 (fun w2 _=>by simpa using bV (cp:=0) (a:=a) w2) (sCap:=0) (by simp;omega) (by simpa using hby) hb0 .nil (s2.mono fun _ _=>ai.le lk) (by simp) hly
   rw[List.nil_append] at r2 r3 r4
   exact⟨bl',cap',w',v,r1,r2,lk.trans r3 (aat _),r4⟩
 ·simp only[mkK] at hz hb'
  have hua':ua= .slice (some ⟨b',0,none⟩) xs.length (cap id0):=by rw[hua];simp[mkK]
  clear hua
  subst hua'
  rcases hcase with⟨hc,_⟩|⟨b,T0,vs,hbl,hhp,hvl,hall⟩
  ·omega
  rw[hbl] at hb';simp at hb';subst hb'
  have hlen2:=hall.length
  have hln:=s2.length
  rw[flat_length hly] at hln
  have hmul:xs.length*t.size≤cap id0*t.size:=aau _ hc0
  by_cases hroom:xs.length+ys.length≤cap id0
  ·-- in place
   have hmul2:(xs.length+ys.length)*t.size≤cap id0*t.size:=aau _ hroom
   rw[abf] at hmul2
   have hr:=oO (P:=P) (ty:=ty) w hu hu' ht (base:=some ⟨b,0,none⟩) (sLen:=xs.length) (sCap:=cap id0) (s1 w) (s3 w rfl) hroom
   have hst:=run_storeCells_at (P:=P) b (0+xs.length*t.size) T0 news 0 vs.toArray w hhp (by simp;omega) (VD.one s2)
   simp only[Nat.zero_mul,gp] at hr
   simp only[abt,Nat.add_zero] at hst hr
   rw[hst] at hr
   have hon:jC (bl id0) w (w.setRow b (vs.take (xs.length*t.size)++news++vs.drop (xs.length*t.size+news.length)).toArray):=by rw[hbl];exact qC w b _
   have hWh:=setRow_heap w b _ (vs.take (xs.length*t.size)++news++vs.drop (xs.length*t.size+news.length)).toArray _ _ hhp
   simp only[List.toList_toArray,Result.andThen_ok] at hr
   generalize w.setRow b (vs.take (xs.length*t.size)++news++vs.drop (xs.length*t.size+news.length)).toArray=W at hr hon hWh
   clear hst
   have hle:=lw (x:=x) (cap:=cap) (o':= .arr t.size (xs++ys)) hid0 rfl hon
   have hs2:aP x bl cap (put st id0 (.arr t.size (xs++ys))) W:=by
    refine hs.upd hid0 rfl hon ⟨by simpa[mkK] using hroom,?_,hpos, .inr ⟨b,T0,_,hbl,hWh,?_,?_⟩⟩
    ·intro l hl;rcases aay.1 hl with h|h
     ·exact hlx l h
     ·exact hly l h
    ·simp only[mkK,aan,aaK,aaQ,hvl];omega
    ·rw[List.flatten_append]
     have e1:(vs.take (xs.length*t.size)++news++vs.drop (xs.length*t.size+news.length)).take ((xs++ys).length*t.size)=vs.take (xs.length*t.size)++news:=by
      rw[List.take_left']
      simp only[aan,aaK,abf];omega
     rw[e1]
     exact(hall.append s2).mono fun _ _=>ai.le hle
   have hg2:get (put st id0 (.arr t.size (xs++ys))) id0=some (.arr t.size (xs++ys)):=jb _ _ _
   have hg3:get (put st id0 (.arr t.size (xs++ys))) id=none:=by rw[aZ hne];exact hid
   have hs3:=hs2.move hg2 rfl hg3
   have hle2:=zB (x:=x) (bl:=bl) (cap:=cap) (w:=W) hg2 rfl hg3
   rw[N7] at hs3 hle2
   refine⟨_,_,W,_,hr,hs3,hle.trans hle2 (by simp only[mkK];rw[hon.size];exact aat _),?_⟩
   exact⟨by simp[mkK,ah,get_put],by simpa[mkK] using hroom, .inr ⟨by simp only[mkK,rG];omega,b,by simp[mkK,hbl],by simp[mkK]⟩⟩
  ·-- new memory
   have hfo:∀w2:World,w2.heap=w.heap→(Builtin.firstCells t.size xs.length (.slice (some ⟨b,0,none⟩) xs.length (cap id0))).run P w2= .ok (vs.take (xs.length*t.size)).toArray w2:=by
    intro w2 hw2
    refine run_firstCells_some w2 t.size xs.length ⟨b,0,none⟩ xs.length _ _ (by simp;omega) ?_
    intro j v hv
    rw[gp,cell_of_heap (w:=w) (by rw[hw2]),oL hhp,abt,←hv,aaz]
    split
    ·rfl
    ·rename_i h;rw[aaz,if_neg h] at hv;cases hv
   obtain⟨bl',cap',w',v,r1,r2,r3,r4⟩:=Fv (ty:=ty) hk hid' hu hu' ht (s1 w) s3 hfo hroom hby hb0 (hall.mono fun _ _=>ai.le lk) (s2.mono fun _ _=>ai.le lk) hlx hly
   exact⟨bl',cap',w',v,r1,r2,lk.trans r3 (aat _),r4⟩
theorem vY {T T' id ty:Nat} {a b:AV} {ua ub:Value} {out:Out} (hs:aP x bl cap st w) (he:dS P T T' id a b (get st)=some out) (ho:All out.obl)
 (ha:af (mkK x bl cap st w) a ua) (hb:af (mkK x bl cap st w) b ub):
 ∃bl' cap' w' u,(Builtin.append_ #[T,T'] ty #[ua,ub]).run P w= .ok u w'∧aP x bl' cap' (ah st out.upd) w'∧(mkK x bl cap st w).le (mkK x bl' cap' (ah st out.upd) w')∧
  af (mkK x bl' cap' (ah st out.upd) w') out.v u:=by
 unfold dS at he
 split at he
 rotate_left
 ·cases he
 rename_i e e' hel hel' hid
 have hu:=iJ hel
 have hu':JC P T':= .inl ⟨_,iJ hel'⟩
 split at he
 rotate_left
 ·cases he
 rename_i t ht
 obtain⟨i,ud,z',hi,hud,hz',g1,g2,g3,g4,g5,g6,g7⟩:=eG ht
 have hpos:0<t.size:=by omega
 split at he
 rotate_left
 ·cases he
 rename_i ys ids ps hys
 split at he
 ·-- from nothing
  cases he
  simp only[All] at ho
  obtain⟨rfl,hb0,hby,hly,hps⟩:=ho
  obtain⟨news,s1,s2,s3⟩:=src_ok (P:=P) hpos hs hys hps hly hb
  cases ha
  by_cases hz:ys=[]
  ·subst hz
   have hr:=oO (P:=P) (ty:=ty) w hu hu' ht (base:=none) (sLen:=0) (sCap:=0) (s1 w) (s3 w rfl) (by simp)
   obtain⟨bl',cap',a1,a2,a3⟩:=nG none hs hid hpos
   exact⟨bl',cap',w,_,by simpa using hr,a1,a2,a3⟩
  ·have hpos':0<ys.length:=abH.2 hz
   obtain⟨bl',cap',w',v,r1,r2,r3,r4⟩:=Fv (ty:=ty) (xs:=[]) (olds:=[]) hs hid hu hu' ht (s1 w) s3 (fun w2 _=>by simpa using bV (cp:=0) (a:=none) w2) (sCap:=0) (by simp;omega) (by simpa using hby) hb0 .nil s2 (by simp) hly
   rw[List.nil_append] at r2 r3 r4
   rw[List.length_nil,abt] at r4
   exact⟨bl',cap',w',v,r1,r2,r3,r4⟩
 ·-- from a slice
  rename_i id0 sz off len
  split at he
  rotate_left
  ·cases he
  rename_i sz' xs hid0
  cases he
  simp only[All] at ho
  obtain⟨rfl,hb0,rfl,rfl,rfl,rfl,hne,hni,hby,hly,hps⟩:=ho
  obtain⟨news,s1,s2,s3⟩:=src_ok (P:=P) hpos hs hys hps hly hb
  exact Ij hs hid hu hu' ht hid0 hne hb0 hby hly s1 s2 s3 ha
 ·cases he
end
end Go.Ab
namespace Go.Ab
inductive Kd where
 |int (k:IntKind)
 |str
 |bool
 deriving DecidableEq
def okV:Kd→Value→Prop
 | .int k,v=>∃n,v= .int k n
 | .str,v=>∃s,v= .string s
 | .bool,v=>∃b,v= .bool b
def Gm:Value→Value→Bool
 | .int _ a, .int _ b=>decide (a=b)
 | .string a, .string b=>decide (a=b)
 | .bool a, .bool b=>decide (a=b)
 |_,_=>false
def oN:List Value→List Value→Bool
 |[],[]=>true
 |a::as,b::bs=>Gm a b&&oN as bs
 |_,_=>false
def wO (rec:TypeId→Option (List Kd)) (P:Program):List Field→Nat→Option (List Kd)
 |[],_=>some []
 |f::fs,off=>
  if f.name=="_"||f.offset !=off then none else
  match rec f.type with
  |some ks=>
   if P.cellsOf f.type=ks.length∧(P.info? f.type).isSome=true then
    match wO rec P fs (off+ks.length) with
    |some r=>some (ks++r)
    |none=>none
   else none
  |none=>none
def kinds (P:Program):Nat→TypeId→Option (List Kd)
 |0,_=>none
 |d+1,T=>
  match P.underlying T with
  |some (.int k)=>some [.int k]
  |some .string=>some [.str]
  |some .bool=>some [.bool]
  |some (.struct fs)=>if P.stoodInHeld T then none else wO (kinds P d) P fs.toList 0
  |some (.array n e)=>
   match kinds P d e with
   |some ks=>if n=2∧P.cellsOf e=ks.length∧(P.info? e).isSome=true then some (ks++ks) else none
   |none=>none
  |_=>none
theorem tu:∀{as as' bs bs':List Value},as.length=bs.length→oN (as++as') (bs++bs')=(oN as bs&&oN as' bs')
 |[],_,[],_,_=>by simp[oN]
 |a::as,_,b::bs,_,h=>by simp[oN,tu (as:=as) (bs:=bs) (by simpa using h),Bool.and_assoc]
 |[],_,_::_,_,h=>by simp at h
 |_::_,_,[],_,h=>by simp at h
def valOf (P:Program) (T:TypeId) (vs:List Value):Value:=
 match P.underlying T with
 |some (.struct _)=> .agg vs.toArray
 |some (.array _ _)=> .agg vs.toArray
 |_=>vs.headD undef
section
variable {P:Program}
theorem qE {T:TypeId} {d:Nat} {ks:List Kd} (hk:kinds P d T=some ks) (hi:(P.info? T).isSome=true) (hc:P.cellsOf T=ks.length) {xs:List Value} {off:Nat} {ys:List Value}
 (hy:aj okV ks ys) (hx:(xs.drop off).take ks.length=ys) (hlen:off+ks.length≤xs.length) (w:World):(part T xs.toArray off).run P w= .ok (valOf P T ys) w:=by
 obtain⟨i,hi⟩:=aaq.1 hi
 have hso:(sizeOf T).run P w= .ok (P.cellsOf T) w:=by simp[sizeOf,typeInfo,hi,Program.cellsOf]
 cases d with
 |zero=>cases hk
 |succ d=>
  simp only[kinds] at hk
  have one:∀{k:Kd},ks=[k]→(∀fs,P.underlying T≠some (.struct fs))→(∃u,P.underlying T=some u∧(isAgg T).run P w= .ok false w)→(part T xs.toArray off).run P w= .ok (valOf P T ys) w:=by
   intro k hks hns ⟨u,hu,ha⟩
   subst hks
   have hx0:∃v,xs[off]? =some v:=⟨xs[off]'(by simp at hlen;omega),by simp at hlen;simp[aab (by omega:off<xs.length)]⟩
   obtain⟨v,hv⟩:=hx0
   have hys:ys=[v]:=by
    rw[←hx]
    apply aa6
    intro j
    cases j with
    |zero=>simp[aaz,aaR,hv]
    |succ j=>simp[aaz]
   subst hys
   have hval:valOf P T [v]=v:=by
    unfold valOf
    split
    ·rename_i fs h;exact absurd h (hns fs)
    ·rename_i n e h
     have:(isAgg T).run P w= .ok true w:=by simp[isAgg,run_underlying h]
     rw[ha] at this;cases this
    ·rfl
   simp[part,ha,hv,hval]
  split at hk
  ·rename_i k hu;cases hk
   exact one rfl (by rw[hu];simp) ⟨_,hu,by simp[isAgg,run_underlying hu]⟩
  ·rename_i hu;cases hk
   exact one rfl (by rw[hu];simp) ⟨_,hu,by simp[isAgg,run_underlying hu]⟩
  ·rename_i hu;cases hk
   exact one rfl (by rw[hu];simp) ⟨_,hu,by simp[isAgg,run_underlying hu]⟩
  ·rename_i fs hu
   have ha:(isAgg T).run P w= .ok true w:=by simp[isAgg,run_underlying hu]
   simp only[part,Sem.run_bind,ha,Result.andThen_ok,if_true,hso,Sem.run_pure,valOf,hu]
   congr 2
   rw[List.extract_toArray,List.extract_eq_take_drop,abd,hc,hx]
  ·rename_i n e hu
   have ha:(isAgg T).run P w= .ok true w:=by simp[isAgg,run_underlying hu]
   simp only[part,Sem.run_bind,ha,Result.andThen_ok,if_true,hso,Sem.run_pure,valOf,hu]
   congr 2
   rw[List.extract_toArray,List.extract_eq_take_drop,abd,hc,hx]
  ·cases hk
theorem EQ {T e:TypeId} {n d:Nat} {ks:List Kd} (hu:P.underlying T=some (.array n e)) (h:kinds P (d+1) T=some ks):n=2∧∃k1,kinds P d e=some k1∧P.cellsOf e=k1.length∧(P.info? e).isSome=true∧ks=k1++k1:=by
 simp only[kinds,hu] at h
 split at h
 ·rename_i k1 hk
  split at h
  ·rename_i hc
   cases h
   exact⟨hc.1,k1,hk,hc.2.1,hc.2.2,rfl⟩
  ·cases h
 ·cases h
theorem halves {k1:List Kd} {xs:List Value} (hx:aj okV (k1++k1) xs):aj okV k1 (xs.take k1.length)∧aj okV k1 (xs.drop k1.length)∧xs.length=k1.length+k1.length:=by
 have h1:=hx.take k1.length
 have h2:=hx.drop k1.length
 simp only[List.take_left',List.drop_left'] at h1 h2
 have:=hx.length
 simp at this
 exact⟨h1,h2,by omega⟩
theorem Dj {e:TypeId} {d:Nat} {k1:List Kd} (hk:kinds P d e=some k1) (hi:(P.info? e).isSome=true) (hc:P.cellsOf e=k1.length) {xs:List Value} (hx:aj okV (k1++k1) xs) (w:World):
 (part e xs.toArray (0*P.cellsOf e)).run P w= .ok (valOf P e (xs.take k1.length)) w∧(part e xs.toArray (1*P.cellsOf e)).run P w= .ok (valOf P e (xs.drop k1.length)) w:=by
 obtain⟨h1,h2,h3⟩:=halves hx
 refine⟨qE hk hi hc h1 (by simp) (by omega) w,qE hk hi hc h2 ?_ (by omega) w⟩
 rw[Nat.one_mul,hc,aaP (by simp;omega)]
theorem EJ {rec:TypeId→Option (List Kd)} {dd d:Nat} (hrec:∀T,rec T=kinds P d T)
 (IH:∀T ks,kinds P d T=some ks→∀xs ys,aj okV ks xs→aj okV ks ys→∀w,(Op.equalIn dd T (valOf P T xs) (valOf P T ys)).run P w= .ok (oN xs ys) w):
 ∀{fs:List Field} {off:Nat} {ks:List Kd},wO rec P fs off=some ks→∀{as bs xs ys:List Value},as.length=off→bs.length=off→aj okV ks xs→aj okV ks ys→
  ∀w,(Op.eqFields dd (as++xs).toArray (bs++ys).toArray fs).run P w= .ok (oN xs ys) w
 |[],off,ks,h,as,bs,xs,ys,_,_,hx,hy,w=>by
  cases h;cases hx;cases hy;simp[Op.eqFields,oN]
 |f::fs,off,ks,h,as,bs,xs,ys,ha,hb,hx,hy,w=>by
  simp only[wO] at h
  split at h
  ·cases h
  rename_i hnm
  simp only[abe,beq_iff_eq,bne_iff_ne,not_or,Decidable.not_not] at hnm
  split at h
  ·rename_i k1 hk1
   split at h
   ·rename_i hcell
    split at h
    ·rename_i r hr
     cases h
     rw[hrec] at hk1
     have hlx:=hx.length
     have hly:=hy.length
     simp at hlx hly
     have hx1:=hx.take k1.length
     have hx2:=hx.drop k1.length
     have hy1:=hy.take k1.length
     have hy2:=hy.drop k1.length
     simp only[List.take_left',List.drop_left'] at hx1 hx2 hy1 hy2
     have p1:=qE hk1 hcell.2 hcell.1 (xs:=as++xs) (off:=f.offset) hx1 (by rw[hnm.2,←ha,List.drop_left'];rfl) (by rw[hnm.2];simp;omega) w
     have p2:=qE hk1 hcell.2 hcell.1 (xs:=bs++ys) (off:=f.offset) hy1 (by rw[hnm.2,←hb,List.drop_left'];rfl) (by rw[hnm.2];simp;omega) w
     have e1:=IH f.type k1 hk1 _ _ hx1 hy1 w
     have hrest:=EJ hrec IH hr (as:=as++xs.take k1.length) (bs:=bs++ys.take k1.length) (xs:=xs.drop k1.length) (ys:=ys.drop k1.length) (by simp;omega) (by simp;omega) hx2 hy2 w
     rw[aas,aaO,aas,aaO] at hrest
     have hsplit:oN xs ys=(oN (xs.take k1.length) (ys.take k1.length)&&oN (xs.drop k1.length) (ys.drop k1.length)):=by
      rw[←tu (by simp;omega),aaO,aaO]
     simp only[Op.eqFields,ne_eq,hnm.1,not_false_eq_true,if_true,Sem.run_bind,p1,Result.andThen_ok,p2,e1]
     rw[hsplit]
     cases he:oN (xs.take k1.length) (ys.take k1.length) with
     |false=>simp
     |true=>simp[hrest]
    ·cases h
   ·cases h
  ·cases h
theorem iL:∀(d dd:Nat) (T:TypeId) (ks:List Kd),d≤dd→kinds P d T=some ks→∀(xs ys:List Value),aj okV ks xs→aj okV ks ys→∀w,
 (Op.equalIn dd T (valOf P T xs) (valOf P T ys)).run P w= .ok (oN xs ys) w
 |0,_,_,_,_,h,_,_,_,_,_=>by cases h
 |d+1,0,_,_,hd,_,_,_,_,_,_=>by omega
 |d+1,dd+1,T,ks,hd,h,xs,ys,hx,hy,w=>by
  have h0:=h
  simp only[kinds] at h
  split at h
  ·rename_i k hu;cases h
   obtain⟨x,_,rfl,⟨a,rfl⟩,hx'⟩:=hx.dw;have:=hx'.jH;subst this
   obtain⟨y,_,rfl,⟨b,rfl⟩,hy'⟩:=hy.dw;have:=hy'.jH;subst this
   simp[valOf,hu,Op.equalIn,run_underlying hu,oN,Gm,FV]
  ·rename_i hu;cases h
   obtain⟨x,_,rfl,⟨a,rfl⟩,hx'⟩:=hx.dw;have:=hx'.jH;subst this
   obtain⟨y,_,rfl,⟨b,rfl⟩,hy'⟩:=hy.dw;have:=hy'.jH;subst this
   simp[valOf,hu,Op.equalIn,run_underlying hu,oN,Gm,beq_toListBytes,zW]
  ·rename_i hu;cases h
   obtain⟨x,_,rfl,⟨a,rfl⟩,hx'⟩:=hx.dw;have:=hx'.jH;subst this
   obtain⟨y,_,rfl,⟨b,rfl⟩,hy'⟩:=hy.dw;have:=hy'.jH;subst this
   simp[valOf,hu,Op.equalIn,run_underlying hu,oN,Gm]
   cases a<;>cases b<;>rfl
  ·rename_i fs hu
   split at h
   ·cases h
   rename_i hst
   have hf:P.fieldsOf T=fs:=by simp[Program.fieldsOf,hu]
   simp only[valOf,hu]
   rw[run_equalIn_struct w dd T _ _ (by rw[hf];exact hu) (by simpa using hst),hf]
   have:=EJ (fun _=>rfl) (fun T ks hk xs ys hx hy w=>iL d dd T ks (by omega) hk xs ys hx hy w) h (as:=[]) (bs:=[]) rfl rfl hx hy w
   simpa using this
  ·rename_i n e hu
   obtain⟨rfl,k1,hk,hc,hi,rfl⟩:=EQ hu h0
   obtain⟨x1,x2,xl⟩:=halves hx
   obtain⟨y1,y2,yl⟩:=halves hy
   obtain⟨px1,px2⟩:=Dj hk hi hc hx w
   obtain⟨py1,py2⟩:=Dj hk hi hc hy w
   have e1:=iL d dd e k1 (by omega) hk _ _ x1 y1 w
   have e2:=iL d dd e k1 (by omega) hk _ _ x2 y2 w
   have hso:(sizeOf e).run P w= .ok (P.cellsOf e) w:=by obtain⟨j,hj⟩:=aaq.1 hi;simp[sizeOf,typeInfo,hj,Program.cellsOf]
   have hsplit:oN xs ys=(oN (xs.take k1.length) (ys.take k1.length)&&oN (xs.drop k1.length) (ys.drop k1.length)):=by
    rw[←tu (by simp;omega),aaO,aaO]
   rw[hsplit]
   generalize valOf P e (xs.take k1.length)=a1 at px1 e1
   generalize valOf P e (xs.drop k1.length)=a2 at px2 e2
   generalize valOf P e (ys.take k1.length)=b1 at py1 e1
   generalize valOf P e (ys.drop k1.length)=b2 at py2 e2
   simp only[Nat.zero_mul,Nat.one_mul] at px1 px2 py1 py2
   cases he:oN (xs.take k1.length) (ys.take k1.length)<;>cases he2:oN (xs.drop k1.length) (ys.drop k1.length)<;>rw[he] at e1<;>rw[he2] at e2<;>
    simp[valOf,hu,Op.equalIn,run_underlying hu,hso,Std.Legacy.Range.forIn_eq_forIn_range',Std.Legacy.Range.size,List.range',px1,py1,e1,px2,py2,e2]
  ·cases h
end
def Fj:List C→List C→Option (List Kd×Bool)
 |[],[]=>some ([],true)
 | .d (.v (.int k a))::xs, .d (.v (.int k' b))::ys=>if k=k' then(Fj xs ys).map fun r=>(.int k::r.1,decide (a=b)&&r.2) else none
 | .d (.v (.string a))::xs, .d (.v (.string b))::ys=>(Fj xs ys).map fun r=>(.str::r.1,decide (a=b)&&r.2)
 | .d (.v (.bool a))::xs, .d (.v (.bool b))::ys=>(Fj xs ys).map fun r=>(.bool::r.1,decide (a=b)&&r.2)
 |_,_=>none
def Xr (P:Program) (T:TypeId):Option (List Kd):=
 match P.underlying T with
 |some (.struct _)=>if P.eqGuardType P.depth T then none else kinds P 20 T
 |_=>none
theorem SN {P:Program} {T:TypeId} {ks:List Kd} (h:Xr P T=some ks):(∃fs,P.underlying T=some (.struct fs))∧P.eqGuardType P.depth T=false∧kinds P 20 T=some ks:=by
 unfold Xr at h
 split at h
 ·rename_i fs hu
  split at h
  ·cases h
  ·rename_i hg;exact⟨⟨fs,hu⟩,by simpa using hg,h⟩
 ·cases h
def Fe (P:Program) (op:BinOp) (T:TypeId) (x y:AV):Option Out:=
 match Xr P T,x,y with
 |some ks, .agg xs, .agg ys=>
  match Fj xs ys with
  |some (ks',b)=>
   match op with
   | .eql=>some ⟨B b,[],[ks=ks']⟩
   | .neq=>some ⟨B (!b),[],[ks=ks']⟩
   |_=>none
  |none=>none
 |_,_,_=>none
def jv (P:Program) (src dst:TypeId) (x:AV):Option Out:=
 match P.underlying src,P.underlying dst,x with
 |some (.int _),some (.int k), .c (.d (.v (.int _ n)))=>some ⟨I k n,[],[aV k n]⟩
 |some .string,some .string, .c (.d (.v (.string s)))=>some ⟨Str s,[],[]⟩
 |_,_,_=>none
section
variable {P:Program} {x:X} {bl:Nat→List Nat} {cap:Nat→Nat} {st:List (Nat×AO)} {w:World}
variable [Dr]
omit [Dr] in
theorem xn {k:K}:∀{xs ys:List C} {ks:List Kd} {b:Bool} {us vs:List Value},Fj xs ys=some (ks,b)→aj (ai k) xs us→aj (ai k) ys vs→aj okV ks us∧aj okV ks vs∧oN us vs=b
 |[],[],ks,b,us,vs,h,hu,hv=>by cases h;cases hu;cases hv;exact⟨.nil, .nil,rfl⟩
 |a::xs,c::ys,ks,b,us,vs,h,hu,hv=>by
  obtain⟨u,us,rfl,hu1,hu2⟩:=hu.dw
  obtain⟨v,vs,rfl,hv1,hv2⟩:=hv.dw
  unfold Fj at h
  split at h
  ·rename_i h1 h2;cases h1
  ·rename_i k1 a1 xs1 k2 b1 ys1 h1 h2
   cases h1;cases h2
   split at h
   ·rename_i e;subst e
    simp only[aap,aa1] at h
    obtain⟨⟨ks1,r1⟩,hrec,rfl,rfl⟩:=h
    obtain⟨i1,i2,i3⟩:=xn hrec hu2 hv2
    have e1:=dL hu1;have e2:=dL hv1;subst e1;subst e2
    exact⟨.cons ⟨_,rfl⟩ i1, .cons ⟨_,rfl⟩ i2,by simp[oN,Gm,i3]⟩
   ·cases h
  ·rename_i a1 xs1 b1 ys1 h1 h2
   cases h1;cases h2
   simp only[aap,aa1] at h
   obtain⟨⟨ks1,r1⟩,hrec,rfl,rfl⟩:=h
   obtain⟨i1,i2,i3⟩:=xn hrec hu2 hv2
   have e1:=dL hu1;have e2:=dL hv1;subst e1;subst e2
   exact⟨.cons ⟨_,rfl⟩ i1, .cons ⟨_,rfl⟩ i2,by simp[oN,Gm,i3]⟩
  ·rename_i a1 xs1 b1 ys1 h1 h2
   cases h1;cases h2
   simp only[aap,aa1] at h
   obtain⟨⟨ks1,r1⟩,hrec,rfl,rfl⟩:=h
   obtain⟨i1,i2,i3⟩:=xn hrec hu2 hv2
   have e1:=dL hu1;have e2:=dL hv1;subst e1;subst e2
   exact⟨.cons ⟨_,rfl⟩ i1, .cons ⟨_,rfl⟩ i2,by simp[oN,Gm,i3]⟩
  ·cases h
 |[],_::_,ks,b,us,vs,h,hu,hv=>by simp[Fj] at h
 |_::_,[],ks,b,us,vs,h,hu,hv=>by simp[Fj] at h
omit [Dr] in
theorem Qu {T:TypeId} {op:BinOp} {ox oy:Operand} {a b:AV} {u v:Value} {out:Out} (he:Fe P op T a b=some out) (ho:All out.obl) (hr:af (mkK x bl cap st w) a u)
 (hv:af (mkK x bl cap st w) b v):∃r,(do eqGuard op T ox oy u v;binOp op T u v:Sem Value).run P w= .ok r w∧af (mkK x bl cap st w) out.v r∧out.upd=[]:=by
 unfold Fe at he
 split at he
 ·rename_i ks xs ys hk
  obtain⟨⟨fs,hs⟩,hg,hk⟩:=SN hk
  split at he
  ·rename_i ks' b' hq
   obtain⟨us,rfl,hu⟩:=hr
   obtain⟨vs,rfl,hv⟩:=hv
   obtain⟨i1,i2,i3⟩:=xn hq hu hv
   have hguard:=run_eqGuard_agg (P:=P) w op T ox oy us.toArray vs.toArray hg
   have key:ks=ks'→(Op.equalIn 10000 T (.agg us.toArray) (.agg vs.toArray)).run P w= .ok b' w:=by
    intro e;subst e
    have:=iL (P:=P) 20 10000 T ks (by omega) hk us vs i1 i2 w
    simp only[valOf,hs] at this
    rw[this,i3]
   split at he
   ·cases he
    simp only[All] at ho
    refine⟨.bool b',?_, .v _ rfl,rfl⟩
    simp only[Sem.run_bind,hguard,Result.andThen_ok,run_eql_struct,key ho.1]
   ·cases he
    simp only[All] at ho
    refine⟨.bool (!b'),?_, .v _ rfl,rfl⟩
    simp only[Sem.run_bind,hguard,Result.andThen_ok,run_neq_struct,key ho.1]
   ·cases he
  ·cases he
 ·cases he
omit [Dr] in
theorem DU {src dst:TypeId} {a:AV} {u:Value} {out:Out} (he:jv P src dst a=some out) (ho:All out.obl) (hr:af (mkK x bl cap st w) a u):
 ∃r,(convert src dst u).run P w= .ok r w∧af (mkK x bl cap st w) out.v r∧out.upd=[]:=by
 unfold jv at he
 split at he
 ·rename_i k0 k k1 n h1 h2
  cases he
  simp only[All] at ho
  cases hr
  refine⟨.int k n,?_, .v _ rfl,rfl⟩
  simp[convert,run_underlying h1,run_underlying h2,Conv.intToInt,aV.wrap ho.1]
 ·rename_i s h1 h2
  cases he
  cases hr
  exact⟨.string s,by simp[convert,run_underlying h1,run_underlying h2], .v _ rfl,rfl⟩
 ·cases he
omit [Dr] in
theorem Wi {M:Nat→Prop} {w:World} {sz:Nat} {xs:List (List D)} {b o cp l h:Nat} {f:Nat→Nat→Value} (hM:¬M b) (hl:∀y∈xs,y.length=sz)
 (hc:∀i j,i<xs.length→j<sz→w.cell? ⟨b,o+i*sz+j,none⟩=some (f i j)) (hr:∀i j,i<xs.length→j<sz→aS M w ((xs.getD i []).getD j default) (f i j))
 (hb:b<w.heap.size) (hlh:l≤h) (hh:h≤xs.length) (hcp:h≤cp):aS M w (.ps sz ((xs.take h).drop l)) (.slice (some ⟨b,o+l*sz,none⟩) (h-l) (cp-l)):=by
 have hlen:((xs.take h).drop l).length=h-l:=by simp;omega
 have hg:∀i,i<h-l→((xs.take h).drop l).getD i []=xs.getD (l+i) []:=by
  intro i hi
  simp only[aam,aaR,aaz]
  rw[if_pos (by omega)]
 have:=aS.ps (M:=M) (w:=w) sz ((xs.take h).drop l) b (o+l*sz) (cp-l) (fun i j=>f (l+i) j) hM (fun y hy=>hl y (abE (abD hy)))
  (by intro i j hi hj;rw[hlen] at hi;have:=hc (l+i) j (by omega) hj;rw[abf] at this;rw[←this];congr 2;omega)
  (by intro i j hi hj;rw[hlen] at hi;rw[hg i hi];exact hr (l+i) j (by omega) hj) (by rw[hlen];omega) hb
 rw[hlen] at this
 exact this
omit [Dr] in
theorem GK {T:TypeId} {a lo hi mx:AV} {u ul uh um:Value} {out:Out} (he:rC P T a lo hi mx=some out) (ho:All out.obl) (hr:af (mkK x bl cap st w) a u)
 (hlo:af (mkK x bl cap st w) lo ul) (hhi:af (mkK x bl cap st w) hi uh) (hmx:af (mkK x bl cap st w) mx um):
 ∃r,(Instr.sliceAt T u (some ul) (some uh) (some um)).run P w= .ok r w∧af (mkK x bl cap st w) out.v r∧out.upd=[]:=by
 have num:∀{k:IntKind} {n:Int} {y:Value},af (mkK x bl cap st w) (.c (.d (.v (.int k n)))) y→y= .int k n:=fun h=>dL h
 unfold rC at he
 split at he
 ·rename_i e id sz off len k1 l k2 h k3 m hu
  have:=num hlo;subst this
  have:=num hhi;subst this
  have:=num hmx;subst this
  split at he
  rotate_left
  ·cases he
  rename_i t ht
  cases he
  simp only[All] at ho
  obtain⟨hsz,h0,h1,h2,h3, -⟩:=ho
  obtain⟨hd,hcap,hv⟩:=hr
  rcases hv with⟨hz,a,rfl⟩|⟨hnz,b,hb,rfl⟩
  ·have e1:m=0:=by omega
   have e2:h=0:=by omega
   have e3:l=0:=by omega
   subst e1 e2 e3
   refine⟨.slice a 0 0,?_,⟨hd,by simp;omega,0,by simp, .inl ⟨rfl,a,rfl⟩⟩,rfl⟩
   simp[Instr.sliceAt,run_underlying hu,Instr.slice,Instr.sliceBounds,Instr.sliceBound,asIntOf,aQ w ht]
  ·have c0:0≤m∧m≤((mkK x bl cap st w).cap id-off:Nat):=by omega
   have c1:0≤h∧h≤((m.toNat:Nat):Int):=by omega
   have c2:0≤l∧l≤((h.toNat:Nat):Int):=by omega
   refine⟨.slice (if m.toNat=l.toNat then some ⟨b,off*sz,none⟩ else some ⟨b,(off+l.toNat)*sz,none⟩) (h.toNat-l.toNat) (m.toNat-l.toNat),?_,⟨hd,by omega,m.toNat-l.toNat,by omega,?_⟩,rfl⟩
   ·have ea:(Addr.mk b (off*sz) none).add (l.toNat*t.size)=⟨b,(off+l.toNat)*sz,none⟩:=by rw[gp,hsz,abf]
    simp only[Instr.sliceAt,Sem.run_bind,run_underlying hu,Result.andThen_ok,Instr.slice,Instr.sliceBounds,Instr.sliceBound,asIntOf,Sem.run_pure,c0,c1,c2,and_self,if_true,aQ w ht,Option.map_some,ea]
   ·by_cases hml:m.toNat=l.toNat
    ·left
     rw[if_pos hml]
     refine⟨by omega,some ⟨b,off*sz,none⟩,?_⟩
     have:h.toNat-l.toNat=0:=by omega
     rw[this,show m.toNat-l.toNat=0 by omega]
    ·right
     rw[if_neg hml]
     refine⟨by omega,b,hb,?_⟩
     rw[show(h-l).toNat=h.toNat-l.toNat by omega]
 ·cases he
omit [Dr] in
theorem qf {T:TypeId} {a:AV} {lo hi:Option AV} {u:Value} {ul uh:Option Value} {out:Out} (he:jK P T a lo hi=some out) (ho:All out.obl) (hr:af (mkK x bl cap st w) a u)
 (hlo:∀v,lo=some v→∃y,ul=some y∧af (mkK x bl cap st w) v y) (hlo':lo=none→ul=none) (hhi:∀v,hi=some v→∃y,uh=some y∧af (mkK x bl cap st w) v y) (hhi':hi=none→uh=none):
 ∃r,(Instr.sliceAt T u ul uh none).run P w= .ok r w∧af (mkK x bl cap st w) out.v r∧out.upd=[]:=by
 have num:∀{k:IntKind} {n:Int} {y:Value},af (mkK x bl cap st w) (.c (.d (.v (.int k n)))) y→y= .int k n:=fun h=>dL h
 unfold jK at he
 split at he
 ·rename_i s hu
  have hus:u= .string s:=dL hr
  subst hus
  split at he
  ·rename_i k1 l k2 h
   cases he
   simp only[All] at ho
   obtain⟨h0,h1,h2, -⟩:=ho
   obtain⟨y1,rfl,r1⟩:=hlo _ rfl
   obtain⟨y2,rfl,r2⟩:=hhi _ rfl
   have:=num r1;subst this
   have:=num r2;subst this
   refine⟨.string (s.extract l.toNat h.toNat),?_, .v _ rfl,rfl⟩
   have c1:0≤h∧h≤(s.size:Int):=by omega
   have c2:0≤l∧l≤((h.toNat:Nat):Int):=by omega
   simp[Instr.sliceAt,run_underlying hu,Instr.slice,Instr.sliceBounds,Instr.sliceBound,asIntOf,c1,c2]
   intro hc;omega
  ·rename_i k1 l
   cases he
   simp only[All] at ho
   obtain⟨h0,h1, -⟩:=ho
   obtain⟨y1,rfl,r1⟩:=hlo _ rfl
   have:=hhi' rfl;subst this
   have:=num r1;subst this
   refine⟨.string (s.extract l.toNat s.size),?_, .v _ rfl,rfl⟩
   simp[Instr.sliceAt,run_underlying hu,Instr.slice,Instr.sliceBounds,Instr.sliceBound,asIntOf,h0,h1]
  ·rename_i k2 h
   cases he
   simp only[All] at ho
   obtain⟨h0,h1, -⟩:=ho
   obtain⟨y2,rfl,r2⟩:=hhi _ rfl
   have:=hlo' rfl;subst this
   have:=num r2;subst this
   refine⟨.string (s.extract 0 h.toNat),?_, .v _ rfl,rfl⟩
   simp[Instr.sliceAt,run_underlying hu,Instr.slice,Instr.sliceBounds,Instr.sliceBound,asIntOf,h0,h1]
  ·cases he
 ·rename_i e sz xs hu
  split at he
  rotate_left
  ·cases he
  rename_i t ht
  have form:∃a cp,u= .slice a xs.length cp∧xs.length≤cp∧(xs=[]∨∃(b o:Nat) (f:Nat→Nat→Value),a=some ⟨b,o,none⟩∧¬(mkK x bl cap st w).M b∧(∀y∈xs,y.length=sz)∧
   (∀i j,i<xs.length→j<sz→w.cell? ⟨b,o+i*sz+j,none⟩=some (f i j))∧(∀i j,i<xs.length→j<sz→aS (mkK x bl cap st w).M w ((xs.getD i []).getD j default) (f i j))∧b<w.heap.size):=by
   cases hr with
   |nil _ a cp=>exact⟨a,cp,rfl,by simp, .inl rfl⟩
   |ps _ _ b o cp f hM hl hc hrr hcap hb=>exact⟨_,cp,rfl,hcap, .inr ⟨b,o,f,rfl,hM,hl,hc,hrr,hb⟩⟩
  obtain⟨a,cp,rfl,hcp,hform⟩:=form
  have fin:∀(l h:Nat),l≤h→h≤xs.length→sz=t.size→aS (mkK x bl cap st w).M w (.ps sz ((xs.take h).drop l)) (.slice (if cp=l then a else a.map (·.add (l*t.size))) (h-l) (cp-l)):=by
   intro l h hlh hh hsz
   subst hsz
   rcases hform with rfl|⟨b,o,f,rfl,hM,hl,hc,hrr,hb⟩
   ·have:h=0:=by simpa using hh
    subst this
    have:l=0:=by omega
    subst this
    simp;exact .nil _ _ _
   ·split
    ·rename_i e;subst e
     have e1:h=cp:=by omega
     subst e1
     have:(xs.take h).drop h=[]:=by simp
     rw[this];simp;exact .nil _ _ _
    ·simp only[Option.map_some,gp]
     exact Wi hM hl hc hrr hb hlh hh (by omega)
  split at he
  ·rename_i k1 l k2 h
   cases he
   simp only[All] at ho
   obtain⟨hsz,h0,h1,h2, -⟩:=ho
   obtain⟨y1,rfl,r1⟩:=hlo _ rfl
   obtain⟨y2,rfl,r2⟩:=hhi _ rfl
   have:=num r1;subst this
   have:=num r2;subst this
   refine⟨_,?_,fin l.toNat h.toNat (by omega) (by omega) hsz,rfl⟩
   have c1:0≤h∧h≤(cp:Int):=by omega
   have c2:0≤l∧l≤((h.toNat:Nat):Int):=by omega
   simp[Instr.sliceAt,run_underlying hu,Instr.slice,Instr.sliceBounds,Instr.sliceBound,asIntOf,c1,c2,aQ w ht]
   intro hc;omega
  ·rename_i k1 l
   cases he
   simp only[All] at ho
   obtain⟨hsz,h0,h1, -⟩:=ho
   obtain⟨y1,rfl,r1⟩:=hlo _ rfl
   have:=hhi' rfl;subst this
   have:=num r1;subst this
   have hf:=fin l.toNat xs.length (by omega) (aat _) hsz
   rw[aaJ] at hf
   refine⟨_,?_,hf,rfl⟩
   simp[Instr.sliceAt,run_underlying hu,Instr.slice,Instr.sliceBounds,Instr.sliceBound,asIntOf,h0,h1,aQ w ht]
  ·rename_i k2 h
   cases he
   simp only[All] at ho
   obtain⟨hsz,h0,h1, -⟩:=ho
   obtain⟨y2,rfl,r2⟩:=hhi _ rfl
   have:=hlo' rfl;subst this
   have:=num r2;subst this
   have hf:=fin 0 h.toNat (by omega) (by omega) hsz
   rw[abS] at hf
   refine⟨_,?_,hf,rfl⟩
   have c1:0≤h∧h≤(cp:Int):=by omega
   simp[Instr.sliceAt,run_underlying hu,Instr.slice,Instr.sliceBounds,Instr.sliceBound,asIntOf,c1,aQ w ht]
  ·cases he
 ·cases he
end
end Go.Ab
namespace Go.Ab
def BF (P:Program) (T:TypeId):Option (TypeId×TypeId):=
 match P.underlying T with
 |some (.map k e)=>some (k,e)
 |_=>none
def Kd.desc:Kd→TypeDesc
 | .int k=> .int k
 | .str=> .string
 | .bool=> .bool
def wR (P:Program) (T:TypeId):Option (Bool×List Kd):=
 match P.underlying T with
 |some (.struct _)=>(kinds P 20 T).map fun ks=>(true,ks)
 |some (.array _ _)=>(kinds P 20 T).map fun ks=>(true,ks)
 |some (.int k)=>some (false,[.int k])
 |some .string=>some (false,[.str])
 |some .bool=>some (false,[.bool])
 |_=>none
def bI:List Kd→List C→Prop
 |[],[]=>True
 | .int k::ks, .d (.v (.int k' _))::cs=>k=k'∧bI ks cs
 | .str::ks, .d (.v (.string _))::cs=>bI ks cs
 | .bool::ks, .d (.v (.bool _))::cs=>bI ks cs
 |_,_=>False
def DK (a b:List C):Bool:=
 match Fj a b with
 |some (_,r)=>r
 |none=>false
abbrev rY:=(Bool×List C)×(Bool×List C)
abbrev pG:=(Bool×List D)×(Bool×List D)
def mF (key:List C):List rY→Option (Bool×List C)
 |[]=>none
 |e::es=>if DK key e.1.2 then some e.2 else mF key es
def GV (key val:Bool×List C):List rY→List rY
 |[]=>[(key,val)]
 |e::es=>if DK key.2 e.1.2 then(key,val)::es else e::GV key val es
def L9 (p:Bool×List D):Bool×List C:=(p.1,p.2.map .d)
def D7 (e:pG):rY:=(L9 e.1,L9 e.2)
def Yq:Bool×List C→Option AV
 |(true,cs)=>some (.agg cs)
 |(false,[c])=>some (.c c)
 |_=>none
def JX:AV→Option (Bool×List C)
 | .c c=>some (false,[c])
 | .agg cs=>some (true,cs)
 |_=>none
def qo (m:AV) (ob:Nat→Option AO):Option (List rY):=
 match m with
 | .c (.d (.pm es))=>some (es.map D7)
 | .c (.d (.v (.map none)))=>some []
 | .c (.mp id)=>match ob id with
   |some (.map es)=>some es
   |_=>none
 |_=>none
def iw (P:Program) (T:TypeId) (m k:AV) (ok:Bool) (ob:Nat→Option AO):Option Out:=
 match BF P T with
 |none=>none
 |some (K,E)=>
  match wR P K,ti P E,JX k,qo m ob with
  |some (f,ks),some t,some key,some es=>
   if ok then some ⟨.tup [(mF key.2 es).getD (t.agg,t.zero.map fun z=> .d (.v z)),(false,[.d (.v (.bool (mF key.2 es).isSome))])],[],[key.1=f,bI ks key.2,∀e∈es,e.1.1=f∧bI ks e.1.2]⟩
   else
    match Yq ((mF key.2 es).getD (t.agg,t.zero.map fun z=> .d (.v z))) with
    |some v=>some ⟨v,[],[key.1=f,bI ks key.2,∀e∈es,e.1.1=f∧bI ks e.1.2]⟩
    |none=>none
  |_,_,_,_=>none
def dA (P:Program) (T:TypeId) (m k v:AV) (ob:Nat→Option AO):Option Out:=
 match BF P T with
 |none=>none
 |some (K,_)=>
  match wR P K,JX k,JX v,m with
  |some (f,ks),some key,some val, .c (.mp id)=>
   match ob id with
   |some (.map es)=>some ⟨.un,[(id, .map (GV key val es))],[key.1=f,bI ks key.2,∀e∈es,e.1.1=f∧bI ks e.1.2]⟩
   |_=>none
  |_,_,_,_=>none
def fH (id:Nat) (ob:Nat→Option AO):Option Out:=
 match ob id with
 |none=>some ⟨.c (.mp id),[(id, .map [])],[]⟩
 |_=>none
def jR (P:Program) (T id:Nat) (m:AV) (ob:Nat→Option AO):Option Out:=
 match BF P T,ob id,m with
 |some _,none, .c (.d (.pm es))=>some ⟨.c (.ptr id 0),[(id, .iter none es)],[]⟩
 |some _,none, .c (.d (.v (.map none)))=>some ⟨.c (.ptr id 0),[(id, .iter none [])],[]⟩
 |_,_,_=>none
def jI (it:AV) (ob:Nat→Option AO):Option Out:=
 match it with
 | .c (.ptr id 0)=>
   match ob id with
   |some (.iter (some e) _)=>some ⟨.tup [L9 e.1,L9 e.2],[],[]⟩
   |_=>none
 |_=>none
section
variable {P:Program}
theorem uP {k:K}:∀{ks:List Kd} {cs:List C} {vs:List Value},bI ks cs→aj (ai k) cs vs→aj okV ks vs
 |[],[],vs,_,h=>by cases h;exact .nil
 |kd::ks,c::cs,vs,ht,h=>by
  obtain⟨v,vs,rfl,h1,h2⟩:=h.dw
  unfold bI at ht
  split at ht
  ·rename_i e _;cases e
  ·rename_i e1 e2;cases e1;cases e2
   have:=dL h1;subst this
   obtain⟨rfl,ht⟩:=ht
   exact .cons ⟨_,rfl⟩ (uP ht h2)
  ·rename_i e1 e2;cases e1;cases e2
   have:=dL h1;subst this
   exact .cons ⟨_,rfl⟩ (uP ht h2)
  ·rename_i e1 e2;cases e1;cases e2
   have:=dL h1;subst this
   exact .cons ⟨_,rfl⟩ (uP ht h2)
  ·exact ht.elim
 |[],_::_,_,h,_=>by simp[bI] at h
 |kd::_,[],_,h,_=>by cases kd<;>simp[bI] at h
theorem AY:∀{ks:List Kd} {a b:List C},bI ks a→bI ks b→∃r,Fj a b=some (ks,r)
 |[],[],[],_,_=>⟨true,rfl⟩
 |kd::ks,x::a,y::b,h1,h2=>by
  unfold bI at h1 h2
  split at h1
  ·rename_i e _;cases e
  ·rename_i e1 e2;cases e1;cases e2
   split at h2
   ·rename_i e _;cases e
   ·rename_i e1 e2;cases e1;cases e2
    obtain⟨rfl,h1⟩:=h1;obtain⟨rfl,h2⟩:=h2
    obtain⟨r,hr⟩:=AY h1 h2
    exact⟨_,by simp only[Fj,if_true,hr];rfl⟩
   ·rename_i e1 e2;cases e1
   ·rename_i e1 e2;cases e1
   ·exact h2.elim
  ·rename_i e1 e2;cases e1;cases e2
   split at h2
   ·rename_i e _;cases e
   ·rename_i e1 e2;cases e1
   ·rename_i e1 e2;cases e1;cases e2
    obtain⟨r,hr⟩:=AY h1 h2
    exact⟨_,by simp only[Fj,hr];rfl⟩
   ·rename_i e1 e2;cases e1
   ·exact h2.elim
  ·rename_i e1 e2;cases e1;cases e2
   split at h2
   ·rename_i e _;cases e
   ·rename_i e1 e2;cases e1
   ·rename_i e1 e2;cases e1
   ·rename_i e1 e2;cases e1;cases e2
    obtain⟨r,hr⟩:=AY h1 h2
    exact⟨_,by simp only[Fj,hr];rfl⟩
   ·exact h2.elim
  ·exact h1.elim
 |[],_::_,_,h,_=>by simp[bI] at h
 |[],[],_::_,_,h=>by simp[bI] at h
 |kd::_,[],_,h,_=>by cases kd<;>simp[bI] at h
 |kd::_,_::_,[],_,h=>by cases kd<;>simp[bI] at h
structure qx (P:Program) (T:TypeId) (f:Bool) (ks:List Kd) (v:Value) (kc:List Value):Prop where
 ok:aj okV ks kc
 val:v=valOf P T kc
 cells:v.cells.toList=kc
 agg:f=true→v= .agg kc.toArray
 one:f=false→kc=[v]
theorem qy {T:TypeId} {f:Bool} {ks:List Kd} (h:wR P T=some (f,ks)):kinds P 20 T=some ks∧(f=true→∃u,P.underlying T=some u∧((∃fs,u= .struct fs)∨∃n e,u= .array n e))∧
 (f=false→∃k,ks=[k]∧P.underlying T=some k.desc):=by
 unfold wR at h
 split at h
 ·rename_i fs hu
  simp only[aap,aa1] at h
  obtain⟨ks',h1,rfl,rfl⟩:=h
  exact⟨h1,fun _=>⟨_,hu, .inl ⟨fs,rfl⟩⟩,fun h=>by cases h⟩
 ·rename_i n e hu
  simp only[aap,aa1] at h
  obtain⟨ks',h1,rfl,rfl⟩:=h
  exact⟨h1,fun _=>⟨_,hu, .inr ⟨n,e,rfl⟩⟩,fun h=>by cases h⟩
 ·rename_i k hu;cases h;exact⟨by simp[kinds,hu],(fun h=>by cases h),fun _=>⟨.int k,rfl,hu⟩⟩
 ·rename_i hu;cases h;exact⟨by simp[kinds,hu],(fun h=>by cases h),fun _=>⟨.str,rfl,hu⟩⟩
 ·rename_i hu;cases h;exact⟨by simp[kinds,hu],(fun h=>by cases h),fun _=>⟨.bool,rfl,hu⟩⟩
 ·cases h
theorem qx.of {k:K} {T:TypeId} {f:Bool} {ks:List Kd} (hT:wR P T=some (f,ks)) {p:Bool×List C} {v:Value} (hp:dC (ai k) p v) (h1:p.1=f) (h2:bI ks p.2):
 ∃kc,qx P T f ks v kc∧aj (ai k) p.2 kc:=by
 obtain⟨g,cs⟩:=p
 simp only at h1 h2
 subst h1
 obtain⟨_,hs,ho⟩:=qy hT
 cases g with
 |true=>
  obtain⟨vs,rfl,hv⟩:=(show ∃vs:List Value,v= .agg vs.toArray∧aj (ai k) cs vs from hp)
  obtain⟨u,hu,hc⟩:=hs rfl
  exact⟨vs,⟨uP h2 hv,by rcases hc with⟨fs,rfl⟩|⟨n,e,rfl⟩<;>simp[valOf,hu],by simp[Value.cells],fun _=>rfl,fun h=>by cases h⟩,hv⟩
 |false=>
  obtain⟨⟨y,rfl,hv⟩,hna⟩:=(show(∃y,cs=[y]∧ai k y v)∧∀cs,v≠ .agg cs from hp)
  obtain⟨kd,rfl,hu⟩:=ho rfl
  have hall:aj (ai k) [y] [v]:= .cons hv .nil
  have hcells:v.cells= #[v]:=by cases v<;>first|rfl|(exact absurd rfl (hna _))
  refine⟨[v],⟨uP h2 hall,?_,by rw[hcells],(fun h=>by cases h),fun _=>rfl⟩,hall⟩
  unfold valOf
  split
  ·rename_i fs h;rw[hu] at h;cases kd<;>cases h
  ·rename_i n e h;rw[hu] at h;cases kd<;>cases h
  ·rfl
theorem yF {em:Bool} {n d:Nat} (IH:∀T ks,kinds P d T=some ks→∀xs,aj okV ks xs→∀w,(Instr.checkKey em n T (valOf P T xs)).run P w= .ok () w):
 ∀{fs:List Field} {off:Nat} {ks:List Kd},wO (kinds P d) P fs off=some ks→∀{as xs:List Value},as.length=off→aj okV ks xs→∀w,
  (forIn fs PUnit.unit (fun f _=>do
    if f.name≠"_" then
     let r ←part f.type (as++xs).toArray f.offset
     Instr.checkKey em n f.type r
     pure (ForInStep.yield PUnit.unit)
    else pure (ForInStep.yield PUnit.unit)):Sem PUnit).run P w= .ok PUnit.unit w
 |[],off,ks,h,as,xs,ha,hx,w=>by simp
 |f::fs,off,ks,h,as,xs,ha,hx,w=>by
  simp only[wO] at h
  split at h
  ·cases h
  rename_i hnm
  simp only[abe,beq_iff_eq,bne_iff_ne,not_or,Decidable.not_not] at hnm
  split at h
  ·rename_i k1 hk1
   split at h
   ·rename_i hcell
    split at h
    ·rename_i r hr
     cases h
     have hlx:=hx.length
     simp at hlx
     have hx1:=hx.take k1.length
     have hx2:=hx.drop k1.length
     simp only[List.take_left',List.drop_left'] at hx1 hx2
     have p1:=qE hk1 hcell.2 hcell.1 (xs:=as++xs) (off:=f.offset) hx1 (by rw[hnm.2,←ha,List.drop_left'];rfl) (by rw[hnm.2];simp;omega) w
     have e1:=IH f.type k1 hk1 _ hx1 w
     have hrest:=yF IH hr (as:=as++xs.take k1.length) (xs:=xs.drop k1.length) (by simp;omega) hx2 w
     rw[aas,aaO] at hrest
     simp only[List.forIn_cons,Sem.run_bind,ne_eq,hnm.1,not_false_eq_true,if_true,p1,Result.andThen_ok,e1,Sem.run_pure]
     exact hrest
    ·cases h
   ·cases h
  ·cases h
theorem ja {em:Bool}:∀(d n:Nat) (T:TypeId) (ks:List Kd),d≤n→kinds P d T=some ks→∀xs,aj okV ks xs→∀w,(Instr.checkKey em n T (valOf P T xs)).run P w= .ok () w
 |0,_,_,_,_,h,_,_,_=>by cases h
 |d+1,0,_,_,hd,_,_,_,_=>by omega
 |d+1,n+1,T,ks,hd,h,xs,hx,w=>by
  have h':=h
  simp only[kinds] at h
  split at h
  ·rename_i k hu;simp[Instr.checkKey,run_underlying hu]
  ·rename_i hu;simp[Instr.checkKey,run_underlying hu]
  ·rename_i hu;simp[Instr.checkKey,run_underlying hu]
  ·rename_i fs hu
   split at h
   ·cases h
   have:=yF (em:=em) (n:=n) (fun T ks hk xs hx w=>ja d n T ks (by omega) hk xs hx w) h (as:=[]) rfl hx w
   simp only[valOf,hu,Instr.checkKey,Sem.run_bind,run_underlying hu,Result.andThen_ok]
   rw[←Array.forIn_toList]
   simp only[List.nil_append] at this
   simp at this⊢
   rw[this];rfl
  ·rename_i len e hu
   obtain⟨rfl,k1,hk,hc,hi,rfl⟩:=EQ hu h'
   obtain⟨x1,x2,xl⟩:=halves hx
   obtain⟨px1,px2⟩:=Dj hk hi hc hx w
   have e1:=ja (em:=em) d n e k1 (by omega) hk _ x1 w
   have e2:=ja (em:=em) d n e k1 (by omega) hk _ x2 w
   have hso:(sizeOf e).run P w= .ok (P.cellsOf e) w:=by obtain⟨j,hj⟩:=aaq.1 hi;simp[sizeOf,typeInfo,hj,Program.cellsOf]
   generalize valOf P e (xs.take k1.length)=a1 at px1 e1
   generalize valOf P e (xs.drop k1.length)=a2 at px2 e2
   simp only[Nat.zero_mul,Nat.one_mul] at px1 px2
   simp[valOf,hu,Instr.checkKey,run_underlying hu,hso,Std.Legacy.Range.forIn_eq_forIn_range',Std.Legacy.Range.size,List.range',px1,e1,px2,e2]
  ·cases h
def dN (kc:List Value):List MapEntry→Nat→Option (Nat×Value)
 |[],_=>none
 |e::es,i=>if oN kc e.key.cells.toList then some (i,e.val) else dN kc es (i+1)
theorem QZ {kd:Kd} {a b:Value} (ha:okV kd a) (hb:okV kd b) (d:TypeDesc) (hd:d=kd.desc):Instr.sameNow d a b=some (Gm a b):=by
 cases kd with
 |int k=>obtain⟨x,rfl⟩:=ha;obtain⟨y,rfl⟩:=hb;subst hd;simp[Kd.desc,Instr.sameNow,Gm,FV]
 |str=>obtain⟨x,rfl⟩:=ha;obtain⟨y,rfl⟩:=hb;subst hd;simp[Kd.desc,Instr.sameNow,Gm,beq_toListBytes,zW]
 |bool=>obtain⟨x,rfl⟩:=ha;obtain⟨y,rfl⟩:=hb;subst hd;simp[Kd.desc,Instr.sameNow,Gm];cases x<;>cases y<;>rfl
theorem yz {kd:Kd} {v:Value} (hv:okV kd v) {d:TypeDesc} (hd:d=kd.desc):∀{ents:List MapEntry} {i:Nat},
 (∀e∈ents,okV kd e.key∧e.key.cells.toList=[e.key])→Instr.findNow d v ents i=some (dN [v] ents i)
 |[],i,_=>rfl
 |e::es,i,h=>by
  obtain⟨h1,h2⟩:=h e (by simp)
  simp only[Instr.findNow,QZ hv h1 d hd,dN,h2,oN,Bool.and_true]
  cases Gm v e.key with
  |true=>simp
  |false=>simp;exact yz hv hd fun e he=>h e (abb _ he)
theorem sW {T:TypeId} {ks:List Kd} (hk:kinds P 20 T=some ks) {kc:List Value} (hkc:aj okV ks kc):∀{ents:List MapEntry} {i:Nat},
 (∀e∈ents,∃ec,aj okV ks ec∧e.key=valOf P T ec∧e.key.cells.toList=ec)→∀w,(Instr.findAsking T (valOf P T kc) ents i).run P w= .ok (dN kc ents i) w
 |[],i,_,w=>by simp[Instr.findAsking,dN]
 |e::es,i,h,w=>by
  obtain⟨ec,h1,h2,h3⟩:=h e (by simp)
  have he:=iL (P:=P) 20 10000 T ks (by omega) hk kc ec hkc h1 w
  have ih:=sW hk hkc (ents:=es) (i:=i+1) (fun e he=>h e (by simp[he])) w
  simp only[Instr.findAsking,Op.equal,Op.maxDepth,Sem.run_bind,h2,he,Result.andThen_ok,dN]
  rw[←h2,h3]
  cases oN kc ec with
  |true=>simp
  |false=>simpa using ih
theorem ug {T:TypeId} {f:Bool} {ks:List Kd} (hT:wR P T=some (f,ks)) {v:Value} {kc:List Value} (hv:qx P T f ks v kc) {ents:List MapEntry}
 (he:∀e∈ents,∃ec,qx P T f ks e.key ec) (w:World):(Instr.findKey T v ents).run P w= .ok (dN kc ents 0) w:=by
 obtain⟨hk,hs,ho⟩:=qy hT
 cases f with
 |false=>
  obtain⟨kd,rfl,hu⟩:=ho rfl
  have hv1:=hv.one rfl
  have hvk:=hv.ok
  subst hv1
  obtain⟨_,_,e1,h1,_⟩:=hvk.dw
  cases e1
  have:=yz h1 rfl (ents:=ents) (i:=0) fun e hee=>by
   obtain⟨ec,hec⟩:=he e hee
   have h3:=hec.one rfl
   have h4:=hec.ok
   rw[h3] at h4
   obtain⟨_,_,e2,h2,_⟩:=h4.dw
   cases e2
   exact⟨h2,by rw[hec.cells,h3]⟩
  simp only[Instr.findKey,Sem.run_bind,run_underlying hu,Result.andThen_ok]
  rw[this];rfl
 |true=>
  obtain⟨u,hu,hc⟩:=hs rfl
  simp only[Instr.findKey,Sem.run_bind,run_underlying hu,Result.andThen_ok]
  cases ents with
  |nil=>simp[Instr.findNow,dN]
  |cons e es=>
   have hnow:Instr.findNow u v (e::es) 0=none:=by rcases hc with⟨fs,rfl⟩|⟨n,e,rfl⟩<;>simp[Instr.findNow,Instr.sameNow]
   rw[hnow,hv.val]
   exact sW hk hv.ok (fun e hee=>let⟨ec,hec⟩:=he e hee;⟨ec,hec.ok,hec.val,hec.cells⟩) w
theorem qG {T:TypeId} {f:Bool} {ks:List Kd} (hT:wR P T=some (f,ks)) {v:Value} {kc:List Value} (hv:qx P T f ks v kc) (em:Bool) (w:World):
 (Instr.checkKey em 10000 T v).run P w= .ok () w:=by
 obtain⟨hk,_,_⟩:=qy hT
 rw[hv.val]
 exact ja 20 10000 T ks (by omega) hk kc hv.ok w
theorem I7 {k:K} {T:TypeId} {f:Bool} {ks:List Kd} (hT:wR P T=some (f,ks)) {key:List C} {kc:List Value} (hty:bI ks key) (hkc:aj (ai k) key kc):
 ∀{es:List rY} {ents:List MapEntry} {i:Nat},aj (jD (ai k)) es ents→(∀e∈es,e.1.1=f∧bI ks e.1.2)→
  (mF key es=none∧dN kc ents i=none)∨∃p j v,mF key es=some p∧dN kc ents i=some (i+j,v)∧dC (ai k) p v∧j<ents.length
 |[],_,i,h,_=>by cases h;exact .inl ⟨rfl,rfl⟩
 |e::es,_,i,h,ht=>by
  cases h with
  | @cons _ m _ ms he hes=>
  obtain⟨h1,h2⟩:=ht e (by simp)
  obtain⟨ec,hec,hall⟩:=qx.of hT he.1 h1 h2
  obtain⟨r,hr⟩:=AY hty h2
  obtain⟨_,_,heq⟩:=xn hr hkc hall
  have hkb:DK key e.1.2=r:=by simp[DK,hr]
  have hcells:=hec.cells
  simp only[mF,dN,hkb,hcells,heq]
  cases r with
  |true=>exact .inr ⟨e.2,0,m.val,by simp,by simp,he.2,by simp⟩
  |false=>
   rcases I7 hT hty hkc (i:=i+1) hes (fun e he=>ht e (by simp[he])) with⟨a1,a2⟩|⟨p,j,v,a1,a2,a3,a4⟩
   ·exact .inl ⟨by simpa using a1,by simpa using a2⟩
   ·exact .inr ⟨p,j+1,v,by simpa using a1,by simp[a2];omega,a3,by simp;omega⟩
end
end Go.Ab
namespace Go.Ab
section
variable {P:Program} {x:X} {bl:Nat→List Nat} {cap:Nat→Nat} {st:List (Nat×AO)} {w:World}
variable [Dr]
omit [Dr] in
theorem MN {M:Nat→Prop} {w:World} {p:Bool×List D} {v:Value} (h1:p.1=OC v) (h2:p.2.length=v.cells.size)
 (h3:∀j,j<p.2.length→aS M w (p.2.getD j default) (v.cells.getD j undef)):dC (aS M w) p v:=by
 obtain⟨f,ds⟩:=p
 simp only at h1 h2 h3
 have hall:aj (aS M w) ds v.cells.toList:=by
  refine aj.LJ (by simpa using h2) ?_
  intro i a b ha hb
  have hi:i<ds.length:=by
   rcases aaT i ds.length with h|h
   ·exact h
   ·rw[aaB h] at ha;cases ha
  have:=h3 i hi
  rw[aam,ha,aaF] at this
  rw[Array.getElem?_toList] at hb
  rw[hb] at this
  exact this
 cases v with
 |agg cs=>subst h1;exact(show dC (aS M w) (true,ds) (.agg cs) from⟨cs.toList,by simp,hall⟩)
 |_=>
  subst h1
  have:∃y,ds=[y]:=by
   match ds,h2 with
   |[y],_=>exact⟨y,rfl⟩
  obtain⟨y,rfl⟩:=this
  obtain⟨_,_,e,hr,_⟩:=hall.dw
  cases e
  exact⟨⟨y,rfl,hr⟩,by simp⟩
omit [Dr] in
theorem zX {M:Nat→Prop} {w:World} {p:Bool×List D} {v:Value} (h:dC (aS M w) p v):
 p.1=OC v∧p.2.length=v.cells.size∧∀j,j<p.2.length→aS M w (p.2.getD j default) (v.cells.getD j undef):=by
 obtain⟨f,ds⟩:=p
 have fin:∀{vs:List Value},aj (aS M w) ds vs→∀j,j<ds.length→aS M w (ds.getD j default) (vs.toArray.getD j undef):=by
  intro vs hall j hj
  obtain⟨b,hb,hr⟩:=hall.get (kW hj)
  rw[aaF,abj,hb]
  exact hr
 cases f with
 |true=>
  obtain⟨vs,rfl,hall⟩:=(show ∃vs:List Value,v= .agg vs.toArray∧aj (aS M w) ds vs from h)
  exact⟨rfl,by simpa[Value.cells] using hall.length,fin hall⟩
 |false=>
  obtain⟨⟨y,rfl,hr⟩,hna⟩:=(show(∃y,ds=[y]∧aS M w y v)∧∀cs,v≠ .agg cs from h)
  have hcells:v.cells= #[v]:=by cases v<;>first|rfl|(exact absurd rfl (hna _))
  refine⟨?_,by simp[hcells],?_⟩
  ·cases v<;>first|rfl|(exact absurd rfl (hna _))
  ·rw[hcells];exact fin (.cons hr .nil)
omit [Dr] in
theorem SQ {M:Nat→Prop} {w:World} {es:List pG} {v:Value} (h:aS M w (.pm es) v):
 ∃b ents clock,v= .map (some b)∧¬M b∧w.heap[b]? =some (.map (List.toArray ents) clock)∧KX ents clock∧aj (jD (aS M w)) es ents:=by
 cases h with
 |pm _ b ents clock hM hb hs hn hlt hk hrk hrv=>
  refine⟨b,ents.toList,clock,rfl,hM,by simpa using hb,⟨hn,hlt⟩,?_⟩
  refine aj.LJ (by simpa using hs.symm) ?_
  intro i p e hp he
  have hi:i<es.length:=by
   rcases aaT i es.length with h|h
   ·exact h
   ·rw[aaB h] at hp;cases hp
  have e1:es.getD i default=p:=by rw[aam,hp];rfl
  have e2:ents.getD i default=e:=by rw[aaF,←Array.getElem?_toList,he];rfl
  have hk':=hk i hi
  rw[e1,e2] at hk'
  obtain⟨k1,k2,k3,k4⟩:=hk'
  exact⟨MN k1 k2 fun j hj=>by have:=hrk i j hi (by rw[e1];exact hj);rw[e1,e2] at this;exact this,
   MN k3 k4 fun j hj=>by have:=hrv i j hi (by rw[e1];exact hj);rw[e1,e2] at this;exact this⟩
omit [Dr] in
theorem Yn {M:Nat→Prop} {w:World} {es:List pG} {b clock:Nat} {ents:List MapEntry} (hM:¬M b) (hb:w.heap[b]? =some (.map (List.toArray ents) clock)) (he:KX ents clock)
 (h:aj (jD (aS M w)) es ents):aS M w (.pm es) (.map (some b)):=by
 have key:∀i,i<es.length→jD (aS M w) (es.getD i default) (ents.toArray.getD i default):=by
  intro i hi
  obtain⟨e,he,hr⟩:=h.get (i:=i) (a:=es.getD i default) (by rw[aam,aab hi];rfl)
  rw[aaF,abj,he]
  exact hr
 refine .pm es b ents.toArray clock hM hb (by simpa using h.length.symm) (by simpa using he.nodup) (by simpa using he.lt) ?_ ?_ ?_
 ·intro i hi
  obtain⟨a1,a2⟩:=key i hi
  obtain⟨k1,k2,_⟩:=zX a1
  obtain⟨k3,k4,_⟩:=zX a2
  exact⟨k1,k2,k3,k4⟩
 ·intro i j hi hj;exact(zX (key i hi).1).2.2 j hj
 ·intro i j hi hj;exact(zX (key i hi).2).2.2 j hj
omit [Dr] in
theorem rO {k:K} {p:Bool×List D} {v:Value} (h:dC (aS k.M k.w) p v):dC (ai k) (L9 p) v:=by
 obtain⟨f,ds⟩:=p
 cases f with
 |true=>
  obtain⟨vs,e,hall⟩:=(show ∃vs:List Value,v= .agg vs.toArray∧aj (aS k.M k.w) ds vs from h)
  exact(show dC (ai k) (true,ds.map .d) v from⟨vs,e,aj.jO.2 hall⟩)
 |false=>
  obtain⟨⟨y,rfl,hr⟩,hna⟩:=(show(∃y,ds=[y]∧aS k.M k.w y v)∧∀cs,v≠ .agg cs from h)
  exact(show dC (ai k) (false,[C.d y]) v from⟨⟨.d y,rfl,hr⟩,hna⟩)
theorem Qb {m:AV} {u:Value} {es:List rY} (hs:aP x bl cap st w) (h:qo m (get st)=some es) (hr:af (mkK x bl cap st w) m u):
 (u= .map none∧es=[])∨∃b ents clock,u= .map (some b)∧w.heap[b]? =some (.map (List.toArray ents) clock)∧KX ents clock∧aj (jD (ai (mkK x bl cap st w))) es ents:=by
 unfold qo at h
 split at h
 ·rename_i es'
  cases h
  obtain⟨b,ents,clock,rfl,hM,hb,he,hall⟩:=SQ hr
  exact .inr ⟨b,ents,clock,rfl,hb,he,aj.jO.2 (hall.mono fun _ _ h=>⟨rO h.1,rO h.2⟩)⟩
 ·cases h;exact .inl ⟨dL hr,rfl⟩
 ·rename_i id
  split at h
  ·rename_i es' hb
   cases h
   obtain⟨b,ents,clock,h1,h2,h3,h4⟩:=hs.objs id _ hb
   obtain⟨hd,b',bs,hb',rfl⟩:=hr
   simp only[mkK] at hb' h1 h2
   rw[h1] at hb';simp at hb'
   obtain⟨rfl,rfl⟩:=hb'
   exact .inr ⟨b,ents,clock,rfl,h2,h3,h4⟩
  ·cases h
 ·cases h
omit [Dr] in
theorem mY {T k e:TypeId} (h:BF P T=some (k,e)):P.underlying T=some (.map k e):=by
 unfold BF at h
 split at h
 ·cases h;assumption
 ·cases h
omit [Dr] in
theorem Ap {k:K} {a:AV} {u:Value} {p:Bool×List C} (h:JX a=some p) (hr:af k a u):dC (ai k) p u:=by
 cases a with
 |c y=>
  cases h
  have h1:=ai.one hr
  exact(show dC (ai k) (false,[y]) u from⟨⟨y,rfl,hr⟩,fun cs e=>by subst e;simp[Value.oneCell'] at h1⟩)
 |agg cs=>cases h;exact(show dC (ai k) (true,cs) u from hr)
 |_=>cases h
omit [Dr] in
theorem UK {k:K} {a:AV} {u:Value} {p:Bool×List C} (h:Yq p=some a) (hr:dC (ai k) p u):af k a u:=by
 unfold Yq at h
 split at h
 ·cases h;exact hr
 ·cases h
  obtain⟨⟨y,e,hr⟩,_⟩:=(show(∃y,_=[y]∧ai k y u)∧_ from hr)
  cases e;exact hr
 ·cases h
omit [Dr] in
theorem Po (k:K) {T:TypeId} {t:TI} (h:ti P T=some t):∃z,(∀w:World,(zeroValue T).run P w= .ok z w)∧dC (ai k) (t.agg,t.zero.map fun z=> .d (.v z)) z:=by
 obtain⟨i,u,z,hi,hu,hz',g1,g2,g3,g4,g5,g6,g7,g8⟩:=eG h
 refine⟨z,fun w=>by simp[zeroValue,typeInfo,hi,hz'],?_⟩
 have hall:aj (ai k) (t.zero.map fun z=>C.d (.v z)) z.cells.toList:=by rw[g3];exact vK g6
 rw[←g8]
 cases z with
 |agg cs=>exact(show dC (ai k) (true,_) _ from⟨cs.toList,by simp,hall⟩)
 |_=>
  rw[←g3] at hall⊢
  obtain⟨_,_,e,hr,_⟩:=hall.dw
  cases e
  exact(show dC (ai k) (false,[_]) _ from⟨⟨_,rfl,hr⟩,by simp⟩)
theorem FT {T:TypeId} {m key:AV} {ok:Bool} {um uk:Value} {out:Out} (hs:aP x bl cap st w) (he:iw P T m key ok (get st)=some out) (ho:All out.obl)
 (hm:af (mkK x bl cap st w) m um) (hk:af (mkK x bl cap st w) key uk):∃v,(Instr.lookup T um uk ok).run P w= .ok v w∧af (mkK x bl cap st w) out.v v∧out.upd=[]:=by
 unfold iw at he
 split at he
 ·cases he
 rename_i K E hT
 have hu:=mY hT
 split at he
 rotate_left
 ·cases he
 rename_i f ks t p es hK ht hp hes
 have hobl:p.1=f∧bI ks p.2∧∀e∈es,e.1.1=f∧bI ks e.1.2:=by
  split at he
  ·cases he;simp only[All] at ho;exact⟨ho.1,ho.2.1,ho.2.2.1⟩
  ·split at he
   ·cases he;simp only[All] at ho;exact⟨ho.1,ho.2.1,ho.2.2.1⟩
   ·cases he
 obtain⟨o1,o2,o3⟩:=hobl
 have hkp:=Ap hp hk
 obtain⟨kc,hkv,hall⟩:=qx.of hK hkp o1 o2
 obtain⟨z,hz,hzr⟩:=Po (mkK x bl cap st w) ht
 have key:∃v,dC (ai (mkK x bl cap st w)) ((mF p.2 es).getD (t.agg,t.zero.map fun z=> .d (.v z))) v∧
  (Instr.lookup T um uk ok).run P w= .ok (if ok then .tuple #[v, .bool (mF p.2 es).isSome] else v) w:=by
  rcases Qb hs hes hm with⟨rfl,rfl⟩|⟨b,ents,clock,rfl,hb,hent,hrep⟩
  ·refine⟨z,hzr,?_⟩
   have hc:=qG hK hkv true w
   have hf:=ug hK hkv (ents:=[]) (by simp) w
   simp[Instr.lookup,run_underlying hu,hc,hf,dN,hz,mF]
  ·have hc:=qG hK hkv ents.isEmpty w
   have hg:(getObj b).run P w= .ok (.map ents.toArray clock) w:=MapKept.run_getObj_map hb
   have hkeys:∀e∈ents,∃ec,qx P K f ks e.key ec:=by
    intro e hee
    obtain⟨i,hi,rfl⟩:=aaL.1 hee
    have hl:=hrep.length
    obtain⟨q,hq⟩:∃q,es[i]? =some q:=⟨es[i]'(by omega),by simp[aab (by omega:i<es.length)]⟩
    obtain⟨e',he',hre⟩:=hrep.get hq
    rw[aab hi] at he';cases he'
    obtain⟨q1,q2⟩:=o3 q (aah hq)
    obtain⟨ec,hec,_⟩:=qx.of hK hre.1 q1 q2
    exact⟨ec,hec⟩
   have hf:=ug hK hkv hkeys w
   rcases I7 hK o2 hall (i:=0) hrep o3 with⟨a1,a2⟩|⟨q,j,v,a1,a2,a3,a4⟩
   ·refine⟨z,by rw[a1];exact hzr,?_⟩
    rw[a2] at hf
    simp[Instr.lookup,run_underlying hu,hg,hc,hf,hz,a1]
   ·refine⟨v,by rw[a1];exact a3,?_⟩
    rw[a2] at hf
    simp[Instr.lookup,run_underlying hu,hg,hc,hf,a1]
 obtain⟨v,hv,hrun⟩:=key
 split at he
 ·rename_i hok
  cases he
  rw[hok] at hrun
  refine⟨_,by rw[hok];exact hrun,⟨[v, .bool (mF p.2 es).isSome],rfl, .cons hv (.cons ?_ .nil)⟩,rfl⟩
  exact(show dC (ai (mkK x bl cap st w)) (false,[_]) _ from⟨⟨_,rfl, .v _ rfl⟩,by simp⟩)
 ·rename_i hok
  split at he
  ·rename_i a ha
   cases he
   have hok':ok=false:=by simpa using hok
   subst hok'
   exact⟨v,hrun,UK ha hv,rfl⟩
  ·cases he
theorem sV {T id:Nat} {out:Out} (hs:aP x bl cap st w) (he:fH id (get st)=some out) {r:Option Value} (hr:r=none∨(∃k e,P.underlying T=some (.map k e))∧∃k n,r=some (.int k n)):
 ∃bl' cap' w' u,(Instr.makeMap T r).run P w= .ok u w'∧aP x bl' cap' (ah st out.upd) w'∧(mkK x bl cap st w).le (mkK x bl' cap' (ah st out.upd) w')∧
  af (mkK x bl' cap' (ah st out.upd) w') out.v u:=by
 unfold fH at he
 split at he
 ·rename_i hid
  cases he
  have hle:=oH (x:=x) (bl:=bl) (cap:=cap) (o:= .map []) (c:=0) hid (eQ w (.map #[] 0)).heap (bs:=[w.heap.size]) (by simp)
  refine⟨_,_,_, .map (some w.heap.size),?_,hs.alloc hid (eQ w (.map #[] 0)) (bs:=[w.heap.size]) (c:=0) (by simp) (by simp) ⟨w.heap.size,[],0,by simp[mkK],?_,⟨by simp,by simp⟩, .nil⟩,hle,?_⟩
  ·rcases hr with rfl|⟨⟨k,e,hu⟩,k',n,rfl⟩
   ·simp[Instr.makeMap]
   ·simp[Instr.makeMap,run_underlying hu,asInt,asIntOf]
  ·exact aaY
  ·exact⟨by simp[mkK,ah,get_put],w.heap.size,[],by simp[mkK],rfl⟩
 ·cases he
theorem yL {T id:Nat} {m:AV} {um:Value} {out:Out} (hs:aP x bl cap st w) (he:jR P T id m (get st)=some out) (hm:af (mkK x bl cap st w) m um):
 ∃bl' cap' w' u,(Instr.range T um).run P w= .ok u w'∧aP x bl' cap' (ah st out.upd) w'∧(mkK x bl cap st w).le (mkK x bl' cap' (ah st out.upd) w')∧
  af (mkK x bl' cap' (ah st out.upd) w') out.v u:=by
 unfold jR at he
 split at he
 ·rename_i kk es hT hid
  obtain⟨K,E⟩:=kk
  have hu:=mY hT
  cases he
  obtain⟨b,ents,clock,rfl,hM,hb,hent,hall⟩:=SQ hm
  have hle:=oH (x:=x) (bl:=bl) (cap:=cap) (o:= .iter none es) (c:=0) hid (eQ w (.mapIter (some b) clock #[] clock)).heap (bs:=[w.heap.size]) (by simp)
  have hlt:=lt_of_heap hb
  refine⟨_,_,_, .pointer (some ⟨w.heap.size,0,none⟩),?_,hs.alloc hid (eQ w (.mapIter (some b) clock #[] clock)) (bs:=[w.heap.size]) (c:=0) (by simp) (by simp) ⟨w.heap.size,by simp[mkK], .inr ⟨b,ents,clock, #[],?_,?_,?_,hent,?_,?_⟩⟩,hle,?_⟩
  ·have hg:(getObj b).run P w= .ok (.map ents.toArray clock) w:=MapKept.run_getObj_map hb
   simp[Instr.range,run_underlying hu,hg]
  ·exact aaY
  ·intro h;rcases hle.M b h with h|h
   ·exact hM h
   ·simp only[mkK] at h hlt;omega
  ·rw[show(mkK x (fu bl id [w.heap.size]) (fu cap id 0) (put st id (.iter none es)) {w with heap:=w.heap.push (.mapIter (some b) clock #[] clock)}).w.heap[b]? =w.heap[b]? from Ey hlt];exact hb
  ·have:(ents.filter fun e=>!(#[]:Array Nat).contains e.born)=ents:=by
    rw[abI];intro e _;simp
   rw[this]
   exact hall.mono fun _ _=>jD.mono fun _ _ h=>h.stable hle.heap hle.M
  ·intro c hc;cases hc
  ·exact⟨by simp[mkK,ah,get_put],w.heap.size,by simp[mkK],rfl⟩
 ·rename_i kk hT hid
  obtain⟨K,E⟩:=kk
  have hu:=mY hT
  cases he
  have:=dL hm;subst this
  have hle:=oH (x:=x) (bl:=bl) (cap:=cap) (o:= .iter none []) (c:=0) hid (eQ w (.mapIter none 0 #[] 0)).heap (bs:=[w.heap.size]) (by simp)
  refine⟨_,_,_, .pointer (some ⟨w.heap.size,0,none⟩),?_,hs.alloc hid (eQ w (.mapIter none 0 #[] 0)) (bs:=[w.heap.size]) (c:=0) (by simp) (by simp) ⟨w.heap.size,by simp[mkK], .inl ⟨rfl,rfl,0, #[],0,?_⟩⟩,hle,?_⟩
  ·simp[Instr.range,run_underlying hu]
  ·exact aaY
  ·exact⟨by simp[mkK,ah,get_put],w.heap.size,by simp[mkK],rfl⟩
 ·cases he
omit [Dr] in
theorem Tu (a b:Value):Gm a b=Gm b a:=by
 cases a<;>cases b<;>simp[Gm]<;>exact eq_comm
omit [Dr] in
theorem Hz:∀(as bs:List Value),oN as bs=oN bs as
 |[],[]=>rfl
 |[],_::_=>rfl
 |_::_,[]=>rfl
 |a::as,b::bs=>by simp[oN,Tu a b,Hz as bs]
omit [Dr] in
theorem sG {kd:Kd} {a b:Value} (ha:okV kd a) (hb:okV kd b) (h:Gm a b=true) (n:Nat):Instr.sameBits n a b=true:=by
 cases kd with
 |int k=>obtain⟨p,rfl⟩:=ha;obtain⟨q,rfl⟩:=hb;simp[Gm] at h;simp[Instr.sameBits,h]
 |str=>obtain⟨p,rfl⟩:=ha;obtain⟨q,rfl⟩:=hb;simp[Gm] at h;subst h;simp[Instr.sameBits,beq_toListBytes]
 |bool=>obtain⟨p,rfl⟩:=ha;obtain⟨q,rfl⟩:=hb;simp[Gm] at h;simp[Instr.sameBits,h]
omit [Dr] in
theorem sF {n:Nat}:∀{ks:List Kd} {as bs:List Value},aj okV ks as→aj okV ks bs→oN as bs=true→((as.zip bs).all fun(p,q)=>Instr.sameBits n p q)=true
 |[],_,_,ha,hb,_=>by cases ha;cases hb;rfl
 |k::ks,_,_,ha,hb,h=>by
  cases ha with
  |cons a1 a2=>
  cases hb with
  |cons b1 b2=>
   simp only[oN,aaj] at h
   simp only[List.zip_cons_cons,List.all_cons,sG a1 b1 h.1,abg]
   exact sF a2 b2 h.2
omit [Dr] in
theorem Rh {T:TypeId} {f:Bool} {ks:List Kd} {a b:Value} {ac bc:List Value} (ha:qx P T f ks a ac) (hb:qx P T f ks b bc) (h:oN ac bc=true) (w:World):
 (Instr.keyThatStays a b).run P w= .ok b w:=by
 have:Instr.sameBits 10000 a b=true:=by
  cases f with
  |false=>
   have h1:=ha.one rfl;have h2:=hb.one rfl
   have k1:=ha.ok;have k2:=hb.ok
   subst h1;subst h2
   cases k1 with
   |cons a1 a2=>
   cases k2 with
   |cons b1 b2=>
    simp[oN] at h
    exact sG a1 b1 h _
  |true=>
   have h1:=ha.agg rfl;have h2:=hb.agg rfl
   subst h1;subst h2
   have:=sF (n:=9999) ha.ok hb.ok h
   have hl:ac.length=bc.length:=by rw[←ha.ok.length,hb.ok.length]
   simp only[Instr.sameBits,abN,hl,BEq.rfl,abg]
   exact this
 simp[Instr.keyThatStays,this]
omit [Dr] in
theorem MG {k:K} {T:TypeId} {f:Bool} {ks:List Kd} (hT:wR P T=some (f,ks)) {key val:Bool×List C} {uk uv:Value} {kc:List Value} (hkv:qx P T f ks uk kc) (h1:key.1=f) (hty:bI ks key.2)
 (hkc:aj (ai k) key.2 kc) (hkp:dC (ai k) key uk) (hval:dC (ai k) val uv) (clock:Nat):
 ∀{es:List rY} {ents:List MapEntry} {i:Nat},aj (jD (ai k)) es ents→(∀e∈es,e.1.1=f∧bI ks e.1.2)→
  (dN kc ents i=none∧aj (jD (ai k)) (GV key val es) (ents++[{key:=uk,val:=uv,born:=clock}]))∨
  ∃j v e ec,dN kc ents i=some (i+j,v)∧ents[j]? =some e∧qx P T f ks e.key ec∧oN kc ec=true∧
   aj (jD (ai k)) (GV key val es) (ents.modify j fun e=>{e with key:=uk,val:=uv})
 |[],_,i,h,_=>by cases h;exact .inl ⟨rfl, .cons ⟨hkp,hval⟩ .nil⟩
 |e::es,_,i,h,ht=>by
  cases h with
  | @cons _ m _ ms he hes=>
  obtain⟨a1,a2⟩:=ht e (by simp)
  obtain⟨ec,hec,hall⟩:=qx.of hT he.1 a1 a2
  obtain⟨r,hr⟩:=AY hty a2
  obtain⟨_,_,heq⟩:=xn hr hkc hall
  have hkb:DK key.2 e.1.2=r:=by simp[DK,hr]
  have hcells:=hec.cells
  simp only[GV,dN,hkb,hcells,heq]
  cases r with
  |true=>exact .inr ⟨0,m.val,m,ec,by simp,by simp,hec,heq,by simp;exact .cons ⟨hkp,hval⟩ hes⟩
  |false=>
   rcases MG hT hkv h1 hty hkc hkp hval clock (i:=i+1) hes (fun e he=>ht e (by simp[he])) with⟨b1,b2⟩|⟨j,v,e',ec',b1,b2,b3,b4,b5⟩
   ·exact .inl ⟨by simpa using b1,by simpa using .cons he b2⟩
   ·exact .inr ⟨j+1,v,e',ec',by simp[b1];omega,by simpa using b2,b3,b4,by simpa using .cons he b5⟩
omit [Dr] in
theorem yN {uk uv:Value} (ents:List MapEntry) (j:Nat):(ents.modify j fun e=>{e with key:=uk,val:=uv}).map (·.born)=ents.map (·.born):=by
 induction ents generalizing j with
 |nil=>simp
 |cons e es ih=>cases j<;>simp[ih]
theorem o8 {T:TypeId} {m key v:AV} {um uk uv:Value} {out:Out} (hs:aP x bl cap st w) (he:dA P T m key v (get st)=some out) (ho:All out.obl)
 (hm:af (mkK x bl cap st w) m um) (hk:af (mkK x bl cap st w) key uk) (hv:af (mkK x bl cap st w) v uv):
 ∃w',(Instr.mapUpdate T um uk uv).run P w= .ok () w'∧aP x bl cap (ah st out.upd) w'∧(mkK x bl cap st w).le (mkK x bl cap (ah st out.upd) w')∧out.v= .un:=by
 unfold dA at he
 split at he
 ·cases he
 rename_i K E hT
 have hu:=mY hT
 split at he
 rotate_left
 ·cases he
 rename_i f ks p q id hK hp hq
 split at he
 rotate_left
 ·cases he
 rename_i es hid
 cases he
 simp only[All] at ho
 obtain⟨o1,o2,o3, -⟩:=ho
 have hkp:=Ap hp hk
 have hvp:=Ap hq hv
 obtain⟨kc,hkv,hall⟩:=qx.of hK hkp o1 o2
 obtain⟨b,ents,clock,h1,h2,h3,h4⟩:=hs.objs id _ hid
 obtain⟨hd,b',bs,hb',rfl⟩:=hm
 simp only[mkK] at hb' h1 h2
 rw[h1] at hb';simp at hb'
 obtain⟨rfl,rfl⟩:=hb'
 have hlt:=lt_of_heap h2
 have hc:=qG hK hkv false w
 have hg:(getObj b).run P w= .ok (.map ents.toArray clock) w:=MapKept.run_getObj_map h2
 have hkeys:∀e∈ents,∃ec,qx P K f ks e.key ec:=by
  intro e hee
  obtain⟨i,hi,rfl⟩:=aaL.1 hee
  have hl:=h4.length
  obtain⟨q,hq⟩:∃q,es[i]? =some q:=⟨es[i]'(by omega),by simp[aab (by omega:i<es.length)]⟩
  obtain⟨e',he',hre⟩:=h4.get hq
  rw[aab hi] at he';cases he'
  obtain⟨q1,q2⟩:=o3 q (aah hq)
  obtain⟨ec,hec,_⟩:=qx.of hK hre.1 q1 q2
  exact⟨ec,hec⟩
 have hf:=ug hK hkv hkeys w
 have fin:∀(ents':List MapEntry) (clock':Nat),KX ents' clock'→(∀k',(mkK x bl cap st w).le k'→aj (jD (ai k')) (GV p q es) ents')→
  aP x bl cap (put st id (.map (GV p q es))) {w with heap:=w.heap.setIfInBounds b (.map ents'.toArray clock')}∧
  (mkK x bl cap st w).le (mkK x bl cap (put st id (.map (GV p q es))) {w with heap:=w.heap.setIfInBounds b (.map ents'.toArray clock')}):=by
  intro ents' clock' hent' hrep'
  have hon:jC (bl id) w {w with heap:=w.heap.setIfInBounds b (.map ents'.toArray clock')}:=by
   refine⟨by simp,?_,rfl,rfl,rfl,aat _⟩
   intro i hi
   rw[h1] at hi
   simp only[aag] at hi
   show(w.heap.setIfInBounds b _)[i]? =_
   rw[abw (fun h=>hi h.symm)]
  have hle:=lw (x:=x) (cap:=cap) (o':= .map (GV p q es)) hid rfl hon
  refine⟨hs.upd hid rfl hon ⟨b,ents',clock',h1,?_,hent',hrep' _ hle⟩,hle⟩
  show(w.heap.setIfInBounds b _)[b]? =_
  rw[abG hlt]
 have hset:∀o,(setObj b o).run P w= .ok () {w with heap:=w.heap.setIfInBounds b o}:=fun o=>MapKept.run_setObj_map o h2
 rcases MG hK hkv o1 o2 hall hkp hvp clock (i:=0) h4 o3 with⟨b1,b2⟩|⟨j,v',e,ec,b1,b2,b3,b4,b5⟩
 ·obtain⟨s1,s2⟩:=fin (ents++[{key:=uk,val:=uv,born:=clock}]) (clock+1) ⟨by
   rw[aa2,List.nodup_append]
   refine⟨h3.nodup,by simp,?_⟩
   intro a ha c hc
   simp at ha hc;subst hc
   obtain⟨e,he,rfl⟩:=ha
   have:=h3.lt e he;omega,by
   intro e he
   rcases aay.1 he with he|he
   ·have:=h3.lt e he;omega
   ·simp at he;subst he;simp⟩ (fun k' hle=>b2.mono fun _ _=>jD.mono fun _ _=>ai.le hle)
  refine⟨_,?_,s1,s2,rfl⟩
  rw[b1] at hf
  simp only[Instr.mapUpdate,Sem.run_bind,run_underlying hu,Result.andThen_ok,hg,hc,hf,hset]
  simp
 ·obtain⟨s1,s2⟩:=fin (ents.modify j fun e=>{e with key:=uk,val:=uv}) clock ⟨by rw[yN];exact h3.nodup,by
   intro e' he'
   have:e'.born∈(ents.modify j fun e=>{e with key:=uk,val:=uv}).map (·.born):=aaZ he'
   rw[yN] at this
   obtain⟨e'',h'',e3⟩:=aaD.1 this
   rw[←e3];exact h3.lt e'' h''⟩ (fun k' hle=>b5.mono fun _ _=>jD.mono fun _ _=>ai.le hle)
  refine⟨_,?_,s1,s2,rfl⟩
  rw[b1] at hf
  simp only[abt] at hf
  have hst:(Instr.keyThatStays e.key uk).run P w= .ok uk w:=Rh b3 hkv (by
   have:oN ec kc=oN kc ec:=Hz _ _
   rw[this];exact b4) w
  have hkey:((ents.toArray[j]?).map (·.key)).getD uk=e.key:=by simp[b2]
  simp only[Instr.mapUpdate,Sem.run_bind,run_underlying hu,Result.andThen_ok,hg,hc,hf,hkey,hst,hset]
  simp
theorem Hf {it:AV} {u:Value} {out:Out} (hs:aP x bl cap st w) (he:jI it (get st)=some out) (hr:af (mkK x bl cap st w) it u):
 ∃v,(Instr.entry u).run P w= .ok v w∧af (mkK x bl cap st w) out.v v∧out.upd=[]:=by
 unfold jI at he
 split at he
 ·rename_i id
  split at he
  ·rename_i e left hid
   cases he
   obtain⟨hd,b,hb,rfl⟩:=hr
   obtain⟨b',h1,h2⟩:=hs.objs id _ hid
   simp only[mkK] at hb h1
   rw[h1] at hb;simp at hb;subst hb
   rcases h2 with⟨_,hc,_⟩|⟨mb,ents,clock,seen,h2,h3,h4,h5,h8,h9⟩
   ·cases hc
   ·obtain⟨m,a1,a2,a3⟩:=h9 e rfl
    simp only[mkK] at h2 h4
    have hg1:(getObj b').run P w= .ok (.mapIter (some mb) clock seen clock) w:=by simp only[getObj,Sem.run];rw[h2]
    have hg2:(getObj mb).run P w= .ok (.map ents.toArray clock) w:=MapKept.run_getObj_map h4
    have hfind:ents.toArray.find? (·.born==m.born)=some m:=by
     rw[List.find?_toArray]
     have hnd:=h5.nodup
     clear h8 h9 h4 hg2 a1 a3 h5
     induction ents with
     |nil=>cases a2
     |cons y ys ih=>
      simp only[aax,List.nodup_cons] at hnd
      rcases Z9.1 a2 with rfl|a2
      ·simp
      ·have:y.born≠m.born:=fun h=>hnd.1 (by rw[h];exact aaZ a2)
       rw[List.find?_cons_of_neg (by simpa using this)]
       exact ih a2 hnd.2
    refine⟨.tuple #[m.key,m.val],?_,⟨[m.key,m.val],rfl, .cons (rO a3.1) (.cons (rO a3.2) .nil)⟩,rfl⟩
    simp[Instr.entry,hg1,a1,hg2,hfind]
  ·cases he
 ·cases he
def gY (isMax:Bool) (x y:AV):Option Out:=
 match x,y with
 | .c (.d (.v (.int k a))), .c (.d (.v (.int _ b)))=>some ⟨I k (if isMax then max a b else min a b),[],[]⟩
 |_,_=>none
omit [Dr] in
theorem PE {a b:AV} {u v:Value} {out:Out} {ts:Array TypeId} {ty:TypeId} (he:gY true a b=some out) (hr:af (mkK x bl cap st w) a u) (hv:af (mkK x bl cap st w) b v):
 ∃r,(Builtin.max_ ts ty #[u,v]).run P w= .ok r w∧af (mkK x bl cap st w) out.v r∧out.upd=[]:=by
 unfold gY at he
 split at he
 ·rename_i k a k' b
  cases he;cases hr;cases hv
  refine⟨.int k (max a b),?_, .v _ rfl,rfl⟩
  simp[Builtin.max_,Builtin.max2]
  (try split)<;>omega
 ·cases he
omit [Dr] in
theorem OM {a b:AV} {u v:Value} {out:Out} {ts:Array TypeId} {ty:TypeId} (he:gY false a b=some out) (hr:af (mkK x bl cap st w) a u) (hv:af (mkK x bl cap st w) b v):
 ∃r,(Builtin.min_ ts ty #[u,v]).run P w= .ok r w∧af (mkK x bl cap st w) out.v r∧out.upd=[]:=by
 unfold gY at he
 split at he
 ·rename_i k a k' b
  cases he;cases hr;cases hv
  refine⟨.int k (min a b),?_, .v _ rfl,rfl⟩
  simp[Builtin.min_,Builtin.min2]
  (try split)<;>omega
 ·cases he
end
end Go.Ab
