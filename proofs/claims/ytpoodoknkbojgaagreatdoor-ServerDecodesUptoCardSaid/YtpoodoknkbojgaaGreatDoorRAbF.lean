/- A part of the proof. -/
import Derived.Tactics
import Derived.Laws.CopyRow
import Derived.Laws.StructEq
set_option linter.all false
namespace Go
def Z9 := @List.mem_cons.{0}
def aab := @List.getElem?_eq_getElem.{0}
def aac := @Option.bind_eq_some_iff.{0,0}
def aad := @List.not_mem_nil.{0}
def aae := @decide_eq_true_eq
def aaf := @List.cons.injEq.{0}
def aag := @List.mem_singleton.{0}
def aah := @List.mem_of_getElem?.{0}
def aai := @List.length_map.{0,0}
def aaj := @Bool.and_eq_true
def aak := @Bool.false_eq_true
def aal := @List.getElem?_eq_some_iff.{0}
def aam := @List.getD_eq_getElem?_getD.{0}
def aan := @List.length_append.{0}
def aao := @and_true
def aap := @Option.map_eq_some_iff.{0,0}
def aaq := @Option.isSome_iff_exists.{0}
def aar := @Bool.not_eq_true'
def aas := @List.append_assoc.{0}
def aat := @Nat.le_refl
def aau := @Nat.mul_le_mul_right
def aav := @Nat.le_trans
def aaw := @or_false
def aax := @List.map_cons.{0,0}
def aay := @List.mem_append.{0}
def aaz := @List.getElem?_take.{0}
def aaA := @Nat.zero_le
def aaB := @List.getElem?_eq_none.{0}
def aaC := @List.all_eq_true.{0}
def aaD := @List.mem_map.{0,0}
def aaE := @decide_eq_false
def aaF := @Array.getD_eq_getD_getElem?.{0}
def aaG := @of_decide_eq_true
def aaH := @List.getElem?_map.{0,0}
def aaI := @Nat.succ_mul
def aaJ := @List.take_length.{0}
def aaK := @List.length_take.{0}
def aaL := @List.mem_iff_getElem.{0}
def aaM := @List.append_nil.{0}
def aaN := @decide_eq_false_iff_not
def aaO := @List.take_append_drop.{0}
def aaP := @List.take_of_length_le.{0}
def aaQ := @List.length_drop.{0}
def aaR := @List.getElem?_drop.{0}
def aaS := @true_and
def aaT := @Nat.lt_or_ge
def aaU := @List.mem_filter.{0}
def aaV := @decide_eq_true
def aaW := @List.mem_flatMap.{0,0}
def aaX := @List.getElem?_of_mem.{0}
def aaY := @Array.getElem?_push_size.{0}
def aaZ := @List.mem_map_of_mem.{0,0}
def aa0 := @List.mem_append_right.{0}
def aa1 := @Prod.mk.injEq.{0,0}
def aa2 := @List.map_append.{0,0}
def aa3 := @List.mem_range
def aa4 := @List.mem_append_left.{0}
def aa5 := @List.map_nil.{0,0}
def aa6 := @List.ext_getElem?.{0}
def aa7 := @List.getElem?_append_left.{0}
def aa8 := @Array.getElem?_eq_getElem.{0}
def aa9 := @ByteArray.size_append
def aba := @Nat.lt_succ_iff_lt_or_eq
def abb := @List.mem_cons_of_mem.{0}
def abd := @Nat.add_sub_cancel_left
def abe := @Bool.or_eq_true
def abf := @Nat.add_mul
def abg := @Bool.true_and
def abh := @List.filter_cons.{0}
def abj := @List.getElem?_toArray.{0}
def abk := @Bool.eq_iff_iff
def abl := @List.map_map.{0,0,0}
def abm := @Bool.or_eq_false_iff
def abn := @List.map_congr_left.{0,0}
def abo := @List.drop_eq_nil_of_le.{0}
def abp := @List.getElem?_append_right.{0}
def abq := @Array.getElem?_eq_some_iff.{0}
def abr := @List.mem_or_eq_of_mem_set.{0}
def abt := @Nat.zero_add
def abu := @ByteArray.extract_append_extract
def abv := @List.getElem?_range
def abw := @Array.getElem?_setIfInBounds_ne.{0}
def abx := @List.filter_append.{0}
def aby := @ByteArray.size_extract
def abz := @ByteArray.data_extract
def abA := @List.getElem?_set.{0}
def abB := @Option.some.injEq.{0}
def abC := @Bool.not_false
def abD := @List.mem_of_mem_drop.{0}
def abE := @List.mem_of_mem_take.{0}
def abG := @Array.getElem?_setIfInBounds_self_of_lt.{0}
def abH := @List.length_pos_iff.{0}
def abI := @List.filter_eq_self.{0}
def abJ := @of_decide_eq_false
def abK := @List.eq_of_mem_replicate.{0}
def abL := @List.length_eq_zero_iff.{0}
def abM := @List.take_add_one.{0}
def abN := @List.size_toArray.{0}
def abO := @decide_eq_decide
def abP := @decide_false
def abQ := @List.getD_cons_zero.{0}
def abR := @Bool.false_and
def abS := @List.drop_zero.{0}
def abT := @List.foldl_append.{0,0}
def abU := @List.drop_length.{0}
def abV := @List.all_append.{0}
abbrev abW := ByteArray
end Go
namespace Go.Ab
inductive D where
 |v (x:Value)
 |ps (sz:Nat) (xs:List (List D))
 |pm (es:List ((Bool×List D)×(Bool×List D)))
instance:Inhabited D:=⟨.v undef⟩
inductive Cap where
 |ptr (id off:Nat)
 |pp (cs:List D)
 |d (x:D)
inductive C where
 |d (x:D)
 |ptr (id off:Nat)
 |ep (id sz i off:Nat)
 |ms (id sz off len:Nat)
 |mp (id:Nat)
 |pp (cs:List D)
 |fn (f:Nat) (caps:List Cap)
 |fb (f:Nat) (caps:List Cap)
 |mv (id sz off len:Nat)
instance:Inhabited C:=⟨.d default⟩
inductive AV where
 |c (x:C)
 |agg (cs:List C)
 |tup (vs:List (Bool×List C))
 |cond (b:Bool) (x:AV)
instance:Inhabited AV:=⟨.c default⟩
inductive AO where
 |box (cs:List C)
 |arr (sz:Nat) (xs:List (List C))
 |map (es:List ((Bool×List C)×(Bool×List C)))
 |mapx (es:List ((Bool×List C)×(Bool×List C))) (j:Nat) (β:Int)
 |pool (sz:Nat) (ps:List (Value×List (List D)))
 |iter (cur:Option ((Bool×List D)×(Bool×List D))) (left:List ((Bool×List D)×(Bool×List D)))
 |loop (l D:Nat) (env:List (Nat×AV)) (r:Loop)
 |dead
def get {α:Type}:List (Nat×α)→Nat→Option α
 |[],_=>none
 |(j,x)::l,i=>if j=i then some x else get l i
def AO.bf:AO→Bool
 | .dead=>false
 |_=>true
inductive aj {α β:Type} (R:α→β→Prop):List α→List β→Prop
 |nil:aj R [] []
 |cons {a:α} {b:β} {as:List α} {bs:List β} (h:R a b) (t:aj R as bs):aj R (a::as) (b::bs)
namespace aj
variable {α β:Type} {R R':α→β→Prop}
theorem length {as:List α} {bs:List β} (h:aj R as bs):as.length=bs.length:=by
 induction h with
 |nil=>rfl
 |cons _ _ ih=>simp[ih]
theorem mono (hr:∀a b,R a b→R' a b) {as:List α} {bs:List β} (h:aj R as bs):aj R' as bs:=by
 induction h with
 |nil=>exact .nil
 |cons h _ ih=>exact .cons (hr _ _ h) ih
theorem get {as:List α} {bs:List β} (h:aj R as bs):∀{i:Nat} {a:α},as[i]? =some a→∃b,bs[i]? =some b∧R a b:=by
 induction h with
 |nil=>intro i a h;simp at h
 |cons h _ ih=>
  intro i a h
  cases i with
  |zero=>simp at h;subst h;exact⟨_,rfl,by assumption⟩
  |succ i=>simpa using ih (by simpa using h)
theorem append {as as':List α} {bs bs':List β} (h:aj R as bs) (h':aj R as' bs'):aj R (as++as') (bs++bs'):=by
 induction h with
 |nil=>exact h'
 |cons h _ ih=>exact .cons h ih
theorem take {as:List α} {bs:List β} (h:aj R as bs) (n:Nat):aj R (as.take n) (bs.take n):=by
 induction h generalizing n with
 |nil=>simp;exact .nil
 |cons h _ ih=>
  cases n with
  |zero=>simp;exact .nil
  |succ n=>simpa using .cons h (ih n)
theorem drop {as:List α} {bs:List β} (h:aj R as bs) (n:Nat):aj R (as.drop n) (bs.drop n):=by
 induction h generalizing n with
 |nil=>simp;exact .nil
 |cons h t ih=>
  cases n with
  |zero=>simpa using .cons h t
  |succ n=>simpa using ih n
theorem set {as:List α} {bs:List β} (h:aj R as bs) {i:Nat} {a:α} {b:β} (hab:R a b):aj R (as.set i a) (bs.set i b):=by
 induction h generalizing i with
 |nil=>simp;exact .nil
 |cons h t ih=>
  cases i with
  |zero=>exact .cons hab t
  |succ i=>exact .cons h ih
theorem LJ {as:List α} {bs:List β} (hl:as.length=bs.length) (h:∀(i:Nat) (a:α) (b:β),as[i]? =some a→bs[i]? =some b→R a b):aj R as bs:=by
 induction as generalizing bs with
 |nil=>cases bs with
  |nil=>exact .nil
  |cons _ _=>simp at hl
 |cons a as ih=>
  cases bs with
  |nil=>simp at hl
  |cons b bs=>
   refine .cons (h 0 a b rfl rfl) (ih (by simpa using hl) fun i x y hx hy=>h (i+1) x y (by simpa using hx) (by simpa using hy))
theorem jH {bs:List β} (h:aj R [] bs):bs=[]:=by cases h;rfl
theorem dw {a:α} {as:List α} {bs:List β} (h:aj R (a::as) bs):∃b bs',bs=b::bs'∧R a b∧aj R as bs':=by
 cases h with
 |cons h t=>exact⟨_,_,rfl,h,t⟩
theorem jO {γ:Type} {f:γ→α} {as:List γ} {bs:List β}:aj R (as.map f) bs↔aj (fun c b=>R (f c) b) as bs:=by
 constructor
 ·intro h
  induction as generalizing bs with
  |nil=>cases h;exact .nil
  |cons a as ih=>cases h with|cons h t=>exact .cons h (ih t)
 ·intro h
  induction h with
  |nil=>exact .nil
  |cons h _ ih=>exact .cons h ih
end aj
def OC:Value→Bool
 | .agg _=>true
 |_=>false
inductive aS (M:Nat→Prop) (w:World):D→Value→Prop
 |v (x:Value) (h:x.oneCell'=true):aS M w (.v x) x
 |nil (sz:Nat) (a:Option Addr) (cap:Nat):aS M w (.ps sz []) (.slice a 0 cap)
 |ps (sz:Nat) (xs:List (List D)) (b o cap:Nat) (f:Nat→Nat→Value) (hM:¬M b) (hl:∀x∈xs,x.length=sz)
  (hc:∀i j,i<xs.length→j<sz→w.cell? ⟨b,o+i*sz+j,none⟩=some (f i j))
  (hr:∀i j,i<xs.length→j<sz→aS M w ((xs.getD i []).getD j default) (f i j)) (hcap:xs.length≤cap) (hb:b<w.heap.size):
  aS M w (.ps sz xs) (.slice (some ⟨b,o,none⟩) xs.length cap)
 |pm (es:List ((Bool×List D)×(Bool×List D))) (b:Nat) (ents:Array MapEntry) (clock:Nat) (hM:¬M b) (hb:w.heap[b]? =some (.map ents clock))
  (hs:ents.size=es.length) (hn:(ents.toList.map (·.born)).Nodup) (hlt:∀e∈ents.toList,e.born<clock)
  (hk:∀i,i<es.length→(es.getD i default).1.1=OC (ents.getD i default).key∧
    (es.getD i default).1.2.length=(ents.getD i default).key.cells.size∧(es.getD i default).2.1=OC (ents.getD i default).val∧
    (es.getD i default).2.2.length=(ents.getD i default).val.cells.size)
  (hrk:∀i j,i<es.length→j<(es.getD i default).1.2.length→aS M w ((es.getD i default).1.2.getD j default) ((ents.getD i default).key.cells.getD j undef))
  (hrv:∀i j,i<es.length→j<(es.getD i default).2.2.length→aS M w ((es.getD i default).2.2.getD j default) ((ents.getD i default).val.cells.getD j undef)):
  aS M w (.pm es) (.map (some b))
theorem cell_of_heap {w w':World} {a:Addr} (h:w'.heap[a.block]? =w.heap[a.block]?):w'.cell? a=w.cell? a:=by
 unfold World.cell?;rw[h]
theorem lt_of_heap {w:World} {b:Nat} {o:Obj} (h:w.heap[b]? =some o):b<w.heap.size:=by
 rcases aaT b w.heap.size with h'|h'
 ·exact h'
 ·simp[Array.getElem?_eq_none h'] at h
theorem aS.stable {M M':Nat→Prop} {w w':World} {x:D} {v:Value} (h:aS M w x v)
 (hw:∀b,¬M b→b<w.heap.size→w'.heap[b]? =w.heap[b]?) (hM:∀b,M' b→M b∨w.heap.size≤b):aS M' w' x v:=by
 induction h with
 |v x h=>exact .v x h
 |nil sz a cap=>exact .nil sz a cap
 |ps sz xs b o cap f hMb hl hc hr hcap hb ih=>
  have e:=hw b hMb hb
  refine .ps sz xs b o cap f ?_ hl ?_ ih hcap ?_
  ·intro h;rcases hM b h with h|h
   ·exact hMb h
   ·omega
  ·intro i j hi hj;rw[cell_of_heap (w:=w) (w':=w') (by exact e)];exact hc i j hi hj
  ·rw[aa8 hb] at e;exact lt_of_heap e
 |pm es b ents clock hMb hb hs hn hlt hk hrk hrv ihk ihv=>
  have hlt':=lt_of_heap hb
  refine .pm es b ents clock ?_ ?_ hs hn hlt hk ihk ihv
  ·intro h;rcases hM b h with h|h
   ·exact hMb h
   ·omega
  ·rw[hw b hMb hlt'];exact hb
def dC {κ:Type} (R:κ→Value→Prop) (p:Bool×List κ) (v:Value):Prop:=
 if p.1 then ∃vs:List Value,v= .agg vs.toArray∧aj R p.2 vs else(∃x,p.2=[x]∧R x v)∧∀cs,v≠ .agg cs
theorem dC.mono {κ:Type} {R R':κ→Value→Prop} (hr:∀a b,R a b→R' a b) {p:Bool×List κ} {v:Value} (h:dC R p v):dC R' p v:=by
 unfold dC at*
 split
 ·rename_i hp;rw[if_pos hp] at h;obtain⟨vs,e,h⟩:=h;exact⟨vs,e,h.mono hr⟩
 ·rename_i hp;rw[if_neg hp] at h;obtain⟨⟨x,e,h⟩,hn⟩:=h;exact⟨⟨x,e,hr _ _ h⟩,hn⟩
structure K where
 bl:Nat→List Nat
 cap:Nat→Nat
 dom:Nat→Prop
 M:Nat→Prop
 w:World
def mM (k:K):Cap→Value→Prop
 | .ptr id off,v=>k.dom id∧∃b,k.bl id=[b]∧v= .pointer (some ⟨b,off,none⟩)
 | .pp cs,v=>∃b o,v= .pointer (some ⟨b,o,none⟩)∧¬k.M b∧b<k.w.heap.size∧∀(j:Nat) (x:D),cs[j]? =some x→∃u,k.w.cell? ⟨b,o+j,none⟩=some u∧aS k.M k.w x u
 | .d x,v=>aS k.M k.w x v
def ai (k:K):C→Value→Prop
 | .d x,v=>aS k.M k.w x v
 | .ptr id off,v=>k.dom id∧∃b,k.bl id=[b]∧v= .pointer (some ⟨b,off,none⟩)
 | .ep id sz i off,v=>k.dom id∧∃b,k.bl id=[b]∧v= .pointer (some ⟨b,i*sz+off,none⟩)
 | .ms id sz off len,v=>k.dom id∧off+len≤k.cap id∧
  ((k.cap id-off=0∧∃a,v= .slice a 0 0)∨(k.cap id-off≠0∧∃b,k.bl id=[b]∧v= .slice (some ⟨b,off*sz,none⟩) len (k.cap id-off)))
 | .mp id,v=>k.dom id∧∃b bs,k.bl id=b::bs∧v= .map (some b)
 | .pp cs,v=>∃b o,v= .pointer (some ⟨b,o,none⟩)∧¬k.M b∧b<k.w.heap.size∧∀(j:Nat) (x:D),cs[j]? =some x→∃u,k.w.cell? ⟨b,o+j,none⟩=some u∧aS k.M k.w x u
 | .fn f caps,v=>∃vs:List Value,v= .func (.func f) ⟨[]⟩ ⟨vs⟩∧aj (mM k) caps vs
 | .fb f caps,v=>∃vs:List Value,v= .func (.func f) ⟨vs⟩ ⟨[]⟩∧aj (mM k) caps vs
 | .mv id sz off len,v=>k.dom id∧off+len≤k.cap id∧∃cp,len≤cp∧((cp=0∧∃a,v= .slice a 0 0)∨(cp≠0∧∃b,k.bl id=[b]∧v= .slice (some ⟨b,off*sz,none⟩) len cp))
def Cap.toC:Cap→C
 | .ptr id off=> .ptr id off
 | .pp cs=> .pp cs
 | .d x=> .d x
theorem Bf {k:K} {c:Cap} {v:Value}:mM k c v↔ai k c.toC v:=by cases c<;>exact Iff.rfl
structure K.le (k k':K):Prop where
 dom:∀id,k.dom id→k'.dom id
 bl:∀id,k.dom id→k'.bl id=k.bl id
 cap:∀id,k.dom id→k'.cap id=k.cap id
 heap:∀b,¬k.M b→b<k.w.heap.size→k'.w.heap[b]? =k.w.heap[b]?
 M:∀b,k'.M b→k.M b∨k.w.heap.size≤b
theorem mM.le {k k':K} (hk:k.le k') {c:Cap} {v:Value} (h:mM k c v):mM k' c v:=by
 cases c with
 |d x=>exact aS.stable h hk.heap hk.M
 |ptr id off=>obtain⟨hd,b,hb,e⟩:=h;exact⟨hk.dom _ hd,b,by rw[hk.bl _ hd,hb],e⟩
 |pp cs=>
  obtain⟨b,o,e,hM,hlt,h⟩:=h
  have eb:=hk.heap b hM hlt
  refine⟨b,o,e,?_,?_,?_⟩
  ·intro hm;rcases hk.M b hm with hm|hm
   ·exact hM hm
   ·omega
  ·rw[aa8 hlt] at eb;exact lt_of_heap eb
  ·intro j x hx
   obtain⟨u,hu,hr⟩:=h j x hx
   exact⟨u,by rw[cell_of_heap (w:=k.w) (w':=k'.w) (by exact eb)];exact hu,hr.stable hk.heap hk.M⟩
theorem ai.le {k k':K} (hk:k.le k') {c:C} {v:Value} (h:ai k c v):ai k' c v:=by
 cases c with
 |fn f caps=>obtain⟨vs,e,h⟩:=h;exact⟨vs,e,h.mono fun _ _=>mM.le hk⟩
 |fb f caps=>obtain⟨vs,e,h⟩:=h;exact⟨vs,e,h.mono fun _ _=>mM.le hk⟩
 |mv id sz off len=>obtain⟨hd,h⟩:=h;refine⟨hk.dom _ hd,?_⟩;rw[hk.cap _ hd,hk.bl _ hd];exact h
 |d x=>exact aS.stable h hk.heap hk.M
 |ptr id off=>obtain⟨hd,b,hb,e⟩:=h;exact⟨hk.dom _ hd,b,by rw[hk.bl _ hd,hb],e⟩
 |ep id sz i off=>obtain⟨hd,b,hb,e⟩:=h;exact⟨hk.dom _ hd,b,by rw[hk.bl _ hd,hb],e⟩
 |ms id sz off len=>obtain⟨hd,h⟩:=h;refine⟨hk.dom _ hd,?_⟩;rw[hk.cap _ hd,hk.bl _ hd];exact h
 |mp id=>obtain⟨hd,b,bs,hb,e⟩:=h;exact⟨hk.dom _ hd,b,bs,by rw[hk.bl _ hd,hb],e⟩
 |pp cs=>
  obtain⟨b,o,e,hM,hlt,h⟩:=h
  have eb:=hk.heap b hM hlt
  refine⟨b,o,e,?_,?_,?_⟩
  ·intro hm;rcases hk.M b hm with hm|hm
   ·exact hM hm
   ·omega
  ·rw[aa8 hlt] at eb;exact lt_of_heap eb
  ·intro j x hx
   obtain⟨u,hu,hr⟩:=h j x hx
   exact⟨u,by rw[cell_of_heap (w:=k.w) (w':=k'.w) (by exact eb)];exact hu,hr.stable hk.heap hk.M⟩
def af (k:K):AV→Value→Prop
 | .c x,v=>ai k x v
 | .agg cs,v=>∃vs:List Value,v= .agg vs.toArray∧aj (ai k) cs vs
 | .tup ps,v=>∃vs:List Value,v= .tuple vs.toArray∧aj (dC (ai k)) ps vs
 | .cond b x,v=>(b=true→af k x v)∧(b=false→v=undef)
theorem aS.one {M:Nat→Prop} {w:World} {x:D} {v:Value} (h:aS M w x v):v.oneCell'=true:=by
 cases h<;>first|assumption|rfl
theorem ai.one {k:K} {c:C} {v:Value} (h:ai k c v):v.oneCell'=true:=by
 cases c with
 |d x=>exact aS.one h
 |ptr id off=>obtain⟨_,b,_,rfl⟩:=h;rfl
 |ep id sz i off=>obtain⟨_,b,_,rfl⟩:=h;rfl
 |ms id sz off len=>obtain⟨_,_,⟨_,a,rfl⟩|⟨_,b,_,rfl⟩⟩:=h<;>rfl
 |mp id=>obtain⟨_,b,_,_,rfl⟩:=h;rfl
 |pp cs=>obtain⟨b,o,rfl,_⟩:=h;rfl
 |fn f caps=>obtain⟨vs,rfl,_⟩:=h;rfl
 |fb f caps=>obtain⟨vs,rfl,_⟩:=h;rfl
 |mv id sz off len=>obtain⟨_,_,_,_,⟨_,a,rfl⟩|⟨_,b,_,rfl⟩⟩:=h<;>rfl
theorem VD.one {k:K} {cs:List C} {vs:List Value} (h:aj (ai k) cs vs):∀v∈vs,v.oneCell'=true:=by
 induction h with
 |nil=>simp
 |cons h _ ih=>intro v hv;rcases Z9.1 hv with rfl|hv;exact h.one;exact ih v hv
theorem af.le {k k':K} (hk:k.le k') {c:AV} {v:Value} (h:af k c v):af k' c v:=by
 induction c with
 |c x=>exact ai.le hk h
 |agg cs=>obtain⟨vs,e,h⟩:=h;exact⟨vs,e,h.mono fun _ _=>ai.le hk⟩
 |tup ps=>obtain⟨vs,e,h⟩:=h;exact⟨vs,e,h.mono fun _ _=>dC.mono fun _ _=>ai.le hk⟩
 |cond b x ih=>exact⟨fun hb=>ih (h.1 hb),h.2⟩
def jD {κ:Type} (R:κ→Value→Prop) (p:(Bool×List κ)×(Bool×List κ)) (e:MapEntry):Prop:=dC R p.1 e.key∧dC R p.2 e.val
theorem jD.mono {κ:Type} {R R':κ→Value→Prop} (hr:∀a b,R a b→R' a b) {p:(Bool×List κ)×(Bool×List κ)} {e:MapEntry} (h:jD R p e):jD R' p e:=
 ⟨h.1.mono hr,h.2.mono hr⟩
structure KX (ents:List MapEntry) (clock:Nat):Prop where
 nodup:(ents.map (·.born)).Nodup
 lt:∀e∈ents,e.born<clock
def BG (k:K) (id:Nat):AO→Prop
 | .box cs=>∃b T vs,k.bl id=[b]∧k.w.heap[b]? =some (.cells (List.toArray vs) T (0,0))∧aj (ai k) cs vs
 | .arr sz xs=>xs.length≤k.cap id∧(∀x∈xs,x.length=sz)∧0<sz∧
  ((k.cap id=0∧k.bl id=[])∨
     ∃b T vs,k.bl id=[b]∧k.w.heap[b]? =some (.cells (List.toArray vs) T (0,0))∧vs.length=k.cap id*sz∧aj (ai k) xs.flatten (vs.take (xs.length*sz)))
 | .map es=>∃b ents clock,k.bl id=[b]∧k.w.heap[b]? =some (.map (List.toArray ents) clock)∧KX ents clock∧aj (jD (ai k)) es ents
 | .mapx es j β=>∃b ents clock,k.bl id=[b]∧k.w.heap[b]? =some (.map (List.toArray ents) clock)∧KX ents clock∧aj (jD (ai k)) es ents∧∃e,ents[j]? =some e∧(e.born:Int)=β
 | .pool sz ps=>0<sz∧(k.bl id).length=ps.length∧∀(i:Nat) (v:Value) (ys:List (List D)),ps[i]? =some (v,ys)→∃(b cap T:Nat) (vs:List Value),(k.bl id)[i]? =some b∧v= .slice (some ⟨b,0,none⟩) ys.length cap∧
  k.w.heap[b]? =some (.cells (List.toArray vs) T (0,0))∧vs.length=cap*sz∧ys.length≤cap∧ys≠[]∧(∀x∈ys,x.length=sz)∧aj (ai k) (ys.flatten.map .d) (vs.take (ys.length*sz))
 | .iter cur left=>∃b,k.bl id=[b]∧
  ((left=[]∧cur=none∧∃since seen last,k.w.heap[b]? =some (.mapIter none since seen last))∨
     ∃(mb:Nat) (ents:List MapEntry) (clock:Nat) (seen:Array Nat),k.w.heap[b]? =some (.mapIter (some mb) clock seen clock)∧¬k.M mb∧k.w.heap[mb]? =some (.map (List.toArray ents) clock)∧
      KX ents clock∧aj (jD (aS k.M k.w)) left (ents.filter fun e=>!seen.contains e.born)∧(∀c,cur=some c→∃e,seen.back? =some e.born∧e∈ents∧jD (aS k.M k.w) c e))
 | .loop l D env r=>k.bl id=[l,D]∧k.w.heap[l]? =some (.loop r)∧k.w.heap[D]? =some (.deferred (some []))∧∀i v,get env i=some v→∃u,r.tmps[i]? =some u∧af k v u
 | .dead=>True
theorem gy {k k':K} {b:Nat} {o:Obj} (h:k.w.heap[b]? =some o) (e:k'.w.heap[b]? =k.w.heap[b]?):k'.w.heap[b]? =some o:=by rw[e];exact h
theorem BG.le {k k':K} (hk:k.le k') {id:Nat} {o:AO} (hd:k.dom id) (hb:∀b∈k.bl id,k'.w.heap[b]? =k.w.heap[b]?) (h:BG k id o):BG k' id o:=by
 have eb:=hk.bl id hd
 have ec:=hk.cap id hd
 cases o with
 |box cs=>
  obtain⟨b,T,vs,h1,h2,h3⟩:=h
  exact⟨b,T,vs,by rw[eb,h1],gy h2 (hb b (by simp[h1])),h3.mono fun _ _=>ai.le hk⟩
 |arr sz xs=>
  obtain⟨h0,h1,hsz,h2⟩:=h
  refine⟨by rw[ec];exact h0,h1,hsz,?_⟩
  rcases h2 with⟨h2,h3⟩|⟨b,T,vs,h2,h3,h4,h5⟩
  ·exact .inl ⟨by rw[ec];exact h2,by rw[eb];exact h3⟩
  ·exact .inr ⟨b,T,vs,by rw[eb,h2],gy h3 (hb b (by simp[h2])),by rw[ec];exact h4,h5.mono fun _ _=>ai.le hk⟩
 |map es=>
  obtain⟨b,ents,clock,h1,h2,h3,h4⟩:=h
  exact⟨b,ents,clock,by rw[eb,h1],gy h2 (hb b (by simp[h1])),h3,h4.mono fun _ _=>jD.mono fun _ _=>ai.le hk⟩
 |mapx es j β=>
  obtain⟨b,ents,clock,h1,h2,h3,h4,h5⟩:=h
  exact⟨b,ents,clock,by rw[eb,h1],gy h2 (hb b (by simp[h1])),h3,h4.mono fun _ _=>jD.mono fun _ _=>ai.le hk,h5⟩
 |pool sz ps=>
  obtain⟨h0,h1,h2⟩:=h
  refine⟨h0,by rw[eb];exact h1,?_⟩
  intro i v ys hp
  obtain⟨b,cap,T,vs,a1,a2,a3,a4,a5,a6,a7,a8⟩:=h2 i v ys hp
  exact⟨b,cap,T,vs,by rw[eb];exact a1,a2,gy a3 (hb b (aah a1)),a4,a5,a6,a7,a8.mono fun _ _=>ai.le hk⟩
 |iter cur left=>
  obtain⟨b,h1,h2⟩:=h
  refine⟨b,by rw[eb,h1],?_⟩
  have e:=hb b (by simp[h1])
  rcases h2 with⟨h2,hc,since,seen,last,h3⟩|⟨mb,ents,clock,seen,h2,h3,h4,h5,h8,h9⟩
  ·exact .inl ⟨h2,hc,since,seen,last,gy h3 e⟩
  ·have hlt:=lt_of_heap h4
   refine .inr ⟨mb,ents,clock,seen,gy h2 e,?_,gy h4 (hk.heap mb h3 hlt),h5,h8.mono fun _ _=>jD.mono fun _ _ h=>h.stable hk.heap hk.M,
    fun c hc=>let⟨e,a1,a2,a3⟩:=h9 c hc;⟨e,a1,a2,a3.mono fun _ _ h=>h.stable hk.heap hk.M⟩⟩
   intro hm;rcases hk.M mb hm with hm|hm
   ·exact h3 hm
   ·omega
 |loop l D env r=>
  obtain⟨h1,h2,h3,h4⟩:=h
  exact⟨by rw[eb];exact h1,gy h2 (hb l (by simp[h1])),gy h3 (hb D (by simp[h1])),fun i v hv=>let⟨u,hu,hr⟩:=h4 i v hv;⟨u,hu,hr.le hk⟩⟩
 |dead=>trivial
class Dr where
 d:Bool
class wJ extends Dr where
 no:toDr.d=false
end Go.Ab
namespace Go.Ab
def put {α:Type}:List (Nat×α)→Nat→α→List (Nat×α)
 |[],i,x=>[(i,x)]
 |(j,y)::l,i,x=>if j=i then(i,x)::l else(j,y)::put l i x
theorem get_put {α:Type} (l:List (Nat×α)) (i j:Nat) (x:α):get (put l i x) j=if i=j then some x else get l j:=by
 induction l with
 |nil=>simp[put,get]
 |cons p l ih=>
  obtain⟨k,y⟩:=p
  simp only[put]
  by_cases h:k=i
  ·subst h;simp only[if_true,get];split<;>rfl
  ·simp only[h,if_false,get,ih]
   by_cases hk:k=j
   ·subst hk;simp;exact fun h'=>absurd h'.symm h
   ·simp[hk]
theorem jb {α:Type} (l:List (Nat×α)) (i:Nat) (x:α):get (put l i x) i=some x:=by simp[get_put]
theorem aZ {α:Type} {l:List (Nat×α)} {i j:Nat} {x:α} (h:i≠j):get (put l i x) j=get l j:=by simp[get_put,h]
structure S where
 n:Nat
 env:List (Nat×AV)
 st:List (Nat×AO)
structure X where
 M0:Nat→Prop
 w0:World
 d0:Nat→Prop
 DF:Nat→List Nat
 cap0:Nat→Nat
 F:Nat→Prop
 rf:Bool
structure ZU (x:X):Prop where
 lt:∀b,x.F b→b<x.w0.heap.size
 dis:∀b,x.F b→¬x.M0 b
variable [Dr]
structure Fr (x:X) (w:World):Prop where
 size:x.w0.heap.size≤w.heap.size
 heap:∀b,b<x.w0.heap.size→¬x.M0 b→w.heap[b]? =x.w0.heap[b]?
 os:w.os=x.w0.os
 output:w.output=x.w0.output
 tape:w.tape=x.w0.tape
 drawn:Dr.d=true→x.w0.drawn≤w.drawn
def MM (bl:Nat→List Nat) (st:List (Nat×AO)) (b:Nat):Prop:=∃id o,get st id=some o∧o.bf=true∧b∈bl id
def mkK (x:X) (bl:Nat→List Nat) (cap:Nat→Nat) (st:List (Nat×AO)) (w:World):K:=⟨bl,cap,fun id=>(get st id).isSome=true,fun b=>MM bl st b∨x.F b,w⟩
structure aP (x:X) (bl:Nat→List Nat) (cap:Nat→Nat) (st:List (Nat×AO)) (w:World):Prop where
 objs:∀id o,get st id=some o→BG (mkK x bl cap st w) id o
 disj:∀id id' o o' b,get st id=some o→get st id'=some o'→o.bf=true→o'.bf=true→b∈bl id→b∈bl id'→id=id'
 nodup:∀id o,get st id=some o→o.bf=true→(bl id).Nodup
 new:∀b,MM bl st b→x.M0 b∨x.w0.heap.size≤b
 lt:∀b,MM bl st b→b<w.heap.size
 fr:Fr x w
 keep:∀id,x.d0 id→(get st id).isSome=true∧bl id=x.DF id∧cap id=x.cap0 id
 xok:ZU x
def gB (k:K) (env:List (Nat×AV)) (tm:Array Value):Prop:=∀i v,get env i=some v→∃u,tm[i]? =some u∧af k v u
def jf (x:X) (k:K) (ds:List Deferred):Prop:=
 ∃Ds:List Nat,ds=Ds.map (fun D=>{target:= .collected D,args:= #[]})∧(x.rf=false→Ds=[])∧Ds.Nodup∧
  ∀D∈Ds,¬k.M D∧x.w0.heap.size≤D∧k.w.heap[D]? =some (.deferred (some []))
omit [Dr] in
theorem jf.le {x:X} {k k':K} (hk:k.le k') {ds:List Deferred} (h:jf x k ds):jf x k' ds:=by
 obtain⟨Ds,h0,h1,h2,h3⟩:=h
 refine⟨Ds,h0,h1,h2,fun D hD=>?_⟩
 obtain⟨a1,a2,a3⟩:=h3 D hD
 have hlt:=lt_of_heap a3
 refine⟨fun h=>?_,a2,by rw[hk.heap D a1 hlt];exact a3⟩
 rcases hk.M D h with h|h
 ·exact a1 h
 ·omega
omit [Dr] in
theorem jf.sub {x:X} {k k':K} (hM:∀b,k'.M b→k.M b) (hw:k'.w=k.w) {ds:List Deferred} (h:jf x k ds):jf x k' ds:=by
 obtain⟨Ds,h0,h1,h2,h3⟩:=h
 exact⟨Ds,h0,h1,h2,fun D hD=>let⟨a1,a2,a3⟩:=h3 D hD;⟨fun h=>a1 (hM D h),a2,by rw[hw];exact a3⟩⟩
omit [Dr] in
theorem jf.nil (x:X) (k:K):jf x k []:=⟨[],rfl,fun _=>rfl, .nil,fun _ h=>by cases h⟩
def Sat (x:X) (s:S) (a:Act) (w:World):Prop:=
 ∃bl cap,aP x bl cap s.st w∧gB (mkK x bl cap s.st w) s.env a.tmps∧jf x (mkK x bl cap s.st w) a.defers∧a.tmps.size=s.n
omit [Dr] in
theorem gB.le {k k':K} (hk:k.le k') {env:List (Nat×AV)} {tm:Array Value} (h:gB k env tm):gB k' env tm:=fun i v hv=>
 let⟨u,hu,hr⟩:=h i v hv
 ⟨u,hu,hr.le hk⟩
omit [Dr] in
theorem gB.put {k:K} {env:List (Nat×AV)} {a:Act} (h:gB k env a.tmps) {d:Nat} {v:AV} {u:Value} (hd:d<a.tmps.size) (hr:af k v u):
 gB k (put env d v) (a.put (some d) u).tmps:=by
 intro i v' hv
 rw[get_put] at hv
 simp only[Act.put]
 by_cases e:d=i
 ·subst e;simp at hv;subst hv
  exact⟨u,by simp[Array.getElem?_setIfInBounds,hd],hr⟩
 ·simp only[e,if_false] at hv
  obtain⟨u',hu',hr'⟩:=h i v' hv
  exact⟨u',by rw[Array.getElem?_setIfInBounds];simp[e,hu'],hr'⟩
omit [Dr] in
theorem Act.bK (a:Act) (d:Option Nat) (u:Value):(a.put d u).tmps.size=a.tmps.size:=by
 cases d<;>simp[Act.put]
omit [Dr] in
theorem Act.put_defers (a:Act) (d:Option Nat) (u:Value):(a.put d u).defers=a.defers:=by
 cases d<;>simp[Act.put]
def dB (env:List (Nat×AV)) (d:Option Nat) (v:AV):List (Nat×AV):=
 match d with
 |some i=>put env i v
 |none=>env
omit [Dr] in
theorem gB.dB {k:K} {env:List (Nat×AV)} {a:Act} (h:gB k env a.tmps) {d:Option Nat} {v:AV} {u:Value} (hd:∀i,d=some i→i<a.tmps.size)
 (hr:af k v u):gB k (dB env d v) (a.put d u).tmps:=by
 cases d with
 |none=>exact h
 |some i=>exact h.put (hd i rfl) hr
theorem Fr.mX {x:X} {w w':World} (h:Fr x w) (hh:w'.heap=w.heap) (ho:w'.os=w.os) (hp:w'.output=w.output) (ht:w'.tape=w.tape) (hd:w.drawn≤w'.drawn):Fr x w':=
 ⟨by rw[hh];exact h.size,fun b hb hm=>by rw[hh];exact h.heap b hb hm,by rw[ho];exact h.os,by rw[hp];exact h.output,by rw[ht];exact h.tape,fun e=>aav (h.drawn e) hd⟩
omit [Dr] in
theorem K.tN {x:X} {bl:Nat→List Nat} {cap:Nat→Nat} {st:List (Nat×AO)} {w w':World} (hh:w'.heap=w.heap):(mkK x bl cap st w).le (mkK x bl cap st w'):=
 ⟨fun _ h=>h,fun _ _=>rfl,fun _ _=>rfl,fun _ _ _=>by show w'.heap[_]? =w.heap[_]?;rw[hh],fun _ h=> .inl h⟩
theorem aP.mX {x:X} {bl:Nat→List Nat} {cap:Nat→Nat} {st:List (Nat×AO)} {w w':World} (h:aP x bl cap st w) (hh:w'.heap=w.heap) (ho:w'.os=w.os)
 (hp:w'.output=w.output) (ht:w'.tape=w.tape) (hd:w.drawn≤w'.drawn):aP x bl cap st w':=
 ⟨fun id o ho=>(h.objs id o ho).le (K.tN hh) (by simp[mkK,ho]) (fun b _=>by show w'.heap[b]? =w.heap[b]?;rw[hh]),h.disj,h.nodup,h.new,
   fun b hb=>by rw[hh];exact h.lt b hb,h.fr.mX hh ho hp ht hd,h.keep,h.xok⟩
theorem Sat.mX {x:X} {s:S} {a:Act} {w w':World} (h:Sat x s a w) (hh:w'.heap=w.heap) (ho:w'.os=w.os) (hp:w'.output=w.output) (ht:w'.tape=w.tape) (hw:w.drawn≤w'.drawn):
 Sat x s a w':=
 let⟨bl,cap,hs,he,hd,hn⟩:=h
 ⟨bl,cap,hs.mX hh ho hp ht hw,he.le (K.tN hh),hd.le (K.tN hh),hn⟩
theorem Sat.drew {x:X} {s:S} {a:Act} {w:World} (h:Sat x s a w) (n:Nat) (hn:w.drawn≤n):Sat x s a {w with drawn:=n}:=h.mX rfl rfl rfl rfl hn
section step
variable {x:X} {bl:Nat→List Nat} {cap:Nat→Nat} {st:List (Nat×AO)} {w:World}
omit [Dr] in
theorem KQ {id:Nat} {o o':AO} (hid:get st id=some o) (hl:o.bf=true) {b:Nat} (h:MM bl (put st id o') b):MM bl st b:=by
 obtain⟨i,p,h1,h2,h3⟩:=h
 rw[get_put] at h1
 by_cases e:id=i
 ·subst e;exact⟨id,o,hid,hl,h3⟩
 ·simp only[e,if_false] at h1;exact⟨i,p,h1,h2,h3⟩
structure jC (bs:List Nat) (w w':World):Prop where
 size:w'.heap.size=w.heap.size
 heap:∀b,b∉bs→w'.heap[b]? =w.heap[b]?
 os:w'.os=w.os
 output:w'.output=w.output
 tape:w'.tape=w.tape
 drawn:w.drawn≤w'.drawn
omit [Dr] in
theorem lw {id:Nat} {o o':AO} (hid:get st id=some o) (hl:o.bf=true) {w':World} (hw:jC (bl id) w w'):
 (mkK x bl cap st w).le (mkK x bl cap (put st id o') w') where
 dom i h:=by
  simp only[mkK] at*
  rw[get_put];split
  ·rfl
  ·exact h
 bl _ _:=rfl
 cap _ _:=rfl
 heap b hb _:=hw.heap b fun h=>hb (.inl ⟨id,o,hid,hl,h⟩)
 M b h:=h.elim (fun h=> .inl (.inl (KQ hid hl h))) (fun h=> .inl (.inr h))
theorem aP.upd (h:aP x bl cap st w) {id:Nat} {o o':AO} (hid:get st id=some o) (hl:o.bf=true) {w':World} (hw:jC (bl id) w w')
 (hr:BG (mkK x bl cap (put st id o') w') id o'):aP x bl cap (put st id o') w' where
 objs i p hp:=by
  rw[get_put] at hp
  by_cases e:id=i
  ·subst e;simp at hp;subst hp;exact hr
  ·simp only[e,if_false] at hp
   cases hp':p.bf with
   |false=>cases p<;>simp[AO.bf] at hp';trivial
   |true=>
   refine(h.objs i p hp).le (lw hid hl hw) (by simp[mkK,hp]) fun b hb=>hw.heap b fun hb'=>e (h.disj id i o p b hid hp hl hp' hb' hb)
 disj i j p q b hi hj hp hq:=by
  have key:∀i p,get (put st id o') i=some p→∃p',get st i=some p'∧(p.bf=true→p'.bf=true):=by
   intro i p hi
   rw[get_put] at hi
   by_cases e:id=i
   ·subst e;exact⟨o,hid,fun _=>hl⟩
   ·simp only[e,if_false] at hi;exact⟨p,hi,fun h=>h⟩
  obtain⟨p',hp1,hp2⟩:=key i p hi
  obtain⟨q',hq1,hq2⟩:=key j q hj
  exact h.disj i j p' q' b hp1 hq1 (hp2 hp) (hq2 hq)
 nodup i p hi hp:=by
  rw[get_put] at hi
  by_cases e:id=i
  ·subst e;exact h.nodup id o hid hl
  ·simp only[e,if_false] at hi;exact h.nodup i p hi hp
 new b hb:=h.new b (KQ hid hl hb)
 lt b hb:=by rw[hw.size];exact h.lt b (KQ hid hl hb)
 fr:=by
  refine⟨by rw[hw.size];exact h.fr.size,fun b hb hm=>?_,by rw[hw.os];exact h.fr.os,by rw[hw.output];exact h.fr.output,by rw[hw.tape];exact h.fr.tape,fun e=>aav (h.fr.drawn e) hw.drawn⟩
  rw[hw.heap b fun hb'=>?_]
  ·exact h.fr.heap b hb hm
  ·rcases h.new b ⟨id,o,hid,hl,hb'⟩ with h'|h'
   ·exact hm h'
   ·omega
 keep i hi:=by
  obtain⟨h1,h2,h3⟩:=h.keep i hi
  refine⟨?_,h2,h3⟩
  rw[get_put];split
  ·rfl
  ·exact h1
 xok:=h.xok
def fu {α:Type} (f:Nat→α) (i:Nat) (x:α):Nat→α:=fun j=>if j=i then x else f j
omit [Dr] in
@[simp] theorem rG {α:Type} (f:Nat→α) (i:Nat) (x:α):fu f i x i=x:=by simp[fu]
omit [Dr] in
theorem dE {α:Type} (f:Nat→α) {i j:Nat} (x:α) (h:j≠i):fu f i x j=f j:=by simp[fu,h]
omit [Dr] in
theorem Dk {id:Nat} {o:AO} (hid:get st id=none) {bs:List Nat} {b:Nat} (h:MM (fu bl id bs) (put st id o) b):MM bl st b∨b∈bs:=by
 obtain⟨i,p,h1,h2,h3⟩:=h
 rw[get_put] at h1
 by_cases e:id=i
 ·subst e;rw[rG] at h3;exact .inr h3
 ·simp only[e,if_false] at h1;rw[dE _ _ (Ne.symm e)] at h3;exact .inl ⟨i,p,h1,h2,h3⟩
omit [Dr] in
theorem oH {id:Nat} {o:AO} (hid:get st id=none) {w':World} {bs:List Nat} {c:Nat} (hw:∀b,b<w.heap.size→w'.heap[b]? =w.heap[b]?)
 (hbs:∀b∈bs,MM bl st b∨w.heap.size≤b):
 (mkK x bl cap st w).le (mkK x (fu bl id bs) (fu cap id c) (put st id o) w') where
 dom i h:=by
  simp only[mkK] at*
  rw[get_put];split
  ·rfl
  ·exact h
 bl i h:=by
  refine dE _ _ ?_
  rintro rfl;simp[mkK,hid] at h
 cap i h:=by
  refine dE _ _ ?_
  rintro rfl;simp[mkK,hid] at h
 heap b _ hb:=hw b hb
 M b h:=by
   rcases h with h|h
   ·rcases Dk hid h with h|h
    ·exact .inl (.inl h)
    ·exact(hbs b h).imp .inl fun h=>h
   ·exact .inl (.inr h)
structure Grew (w w':World):Prop where
 size:w.heap.size≤w'.heap.size
 heap:∀b,b<w.heap.size→w'.heap[b]? =w.heap[b]?
 os:w'.os=w.os
 output:w'.output=w.output
 tape:w'.tape=w.tape
 drawn:w.drawn≤w'.drawn
theorem aP.alloc (h:aP x bl cap st w) {id:Nat} {o:AO} (hid:get st id=none) {w':World} {bs:List Nat} {c:Nat} (hw:Grew w w')
 (hbs:∀b∈bs,w.heap.size≤b∧b<w'.heap.size) (hnd:bs.Nodup) (hr:BG (mkK x (fu bl id bs) (fu cap id c) (put st id o) w') id o):
 aP x (fu bl id bs) (fu cap id c) (put st id o) w' where
 objs i p hp:=by
  rw[get_put] at hp
  by_cases e:id=i
  ·subst e;simp at hp;subst hp;exact hr
  ·simp only[e,if_false] at hp
   cases hp':p.bf with
   |false=>cases p<;>simp[AO.bf] at hp';trivial
   |true=>
   exact(h.objs i p hp).le (oH hid hw.heap fun b hb=> .inr (hbs b hb).1) (by simp[mkK,hp]) fun b hb=>hw.heap b (h.lt b ⟨i,p,hp,hp',hb⟩)
 disj i j p q b hi hj hp hq hbi hbj:=by
  rw[get_put] at hi hj
  by_cases e:id=i
  ·by_cases e':id=j
   ·rw[←e,←e']
   ·subst e
    simp only[e',if_false] at hj
    rw[rG] at hbi
    rw[dE _ _ (Ne.symm e')] at hbj
    have:=h.lt b ⟨j,q,hj,hq,hbj⟩
    have:=(hbs b hbi).1
    omega
  ·simp only[e,if_false] at hi
   rw[dE _ _ (Ne.symm e)] at hbi
   by_cases e':id=j
   ·subst e'
    rw[rG] at hbj
    have:=h.lt b ⟨i,p,hi,hp,hbi⟩
    have:=(hbs b hbj).1
    omega
   ·simp only[e',if_false] at hj
    rw[dE _ _ (Ne.symm e')] at hbj
    exact h.disj i j p q b hi hj hp hq hbi hbj
 nodup i p hi hp:=by
  rw[get_put] at hi
  by_cases e:id=i
  ·subst e;rw[rG];exact hnd
  ·simp only[e,if_false] at hi;rw[dE _ _ (Ne.symm e)];exact h.nodup i p hi hp
 new b hb:=by
  rcases Dk hid hb with hb|hb
  ·exact h.new b hb
  ·have:=(hbs b hb).1;have:=h.fr.size;exact .inr (by omega)
 lt b hb:=by
  rcases Dk hid hb with hb|hb
  ·have:=h.lt b hb;have:=hw.size;omega
  ·exact(hbs b hb).2
 fr:=by
  refine⟨by have:=h.fr.size;have:=hw.size;omega,fun b hb hm=>?_,by rw[hw.os];exact h.fr.os,by rw[hw.output];exact h.fr.output,by rw[hw.tape];exact h.fr.tape,fun e=>aav (h.fr.drawn e) hw.drawn⟩
  rw[hw.heap b (by have:=h.fr.size;omega)]
  exact h.fr.heap b hb hm
 keep i hi:=by
  obtain⟨h1,h2,h3⟩:=h.keep i hi
  have hne:i≠id:=by rintro rfl;simp[hid] at h1
  refine⟨?_,by rw[dE _ _ hne];exact h2,by rw[dE _ _ hne];exact h3⟩
  rw[get_put];split
  ·rfl
  ·exact h1
 xok:=h.xok
omit [Dr] in
theorem lZ {id:Nat} {o:AO} (hid:get st id=some o):(mkK x bl cap st w).le (mkK x bl cap (put st id .dead) w) where
 dom i h:=by
  simp only[mkK] at*
  rw[get_put];split
  ·rfl
  ·exact h
 bl _ _:=rfl
 cap _ _:=rfl
 heap _ _ _:=rfl
 M b h:=by
   rcases h with h|h
   ·obtain⟨i,p,h1,h2,h3⟩:=h
    rw[get_put] at h1
    by_cases e:id=i
    ·subst e;simp at h1;subst h1;simp[AO.bf] at h2
    ·simp only[e,if_false] at h1;exact .inl (.inl ⟨i,p,h1,h2,h3⟩)
   ·exact .inl (.inr h)
omit [Dr] in
theorem vH {id b:Nat} (h:MM bl (put st id .dead) b):∃i p,i≠id∧get st i=some p∧p.bf=true∧b∈bl i:=by
 obtain⟨i,p,h1,h2,h3⟩:=h
 rw[get_put] at h1
 by_cases e:id=i
 ·subst e;simp at h1;subst h1;simp[AO.bf] at h2
 ·simp only[e,if_false] at h1;exact⟨i,p,Ne.symm e,h1,h2,h3⟩
theorem aP.kill (h:aP x bl cap st w) {id:Nat} {o:AO} (hid:get st id=some o):aP x bl cap (put st id .dead) w where
 objs i p hp:=by
  rw[get_put] at hp
  by_cases e:id=i
  ·subst e;simp at hp;subst hp;trivial
  ·simp only[e,if_false] at hp
   exact(h.objs i p hp).le (lZ hid) (by simp[mkK,hp]) fun _ _=>rfl
 disj i j p q b hi hj hp hq:=by
  rw[get_put] at hi hj
  by_cases e:id=i
  ·subst e;simp at hi;subst hi;simp[AO.bf] at hp
  ·by_cases e':id=j
   ·subst e';simp at hj;subst hj;simp[AO.bf] at hq
   ·simp only[e,e',if_false] at hi hj;exact h.disj i j p q b hi hj hp hq
 nodup i p hi hp:=by
  rw[get_put] at hi
  by_cases e:id=i
  ·subst e;simp at hi;subst hi;simp[AO.bf] at hp
  ·simp only[e,if_false] at hi;exact h.nodup i p hi hp
 new b hb:=by obtain⟨i,p,_,h1,h2,h3⟩:=vH hb;exact h.new b ⟨i,p,h1,h2,h3⟩
 lt b hb:=by obtain⟨i,p,_,h1,h2,h3⟩:=vH hb;exact h.lt b ⟨i,p,h1,h2,h3⟩
 fr:=h.fr
 keep i hi:=by
  obtain⟨h1,h2,h3⟩:=h.keep i hi
  refine⟨?_,h2,h3⟩
  rw[get_put];split
  ·rfl
  ·exact h1
 xok:=h.xok
omit [Dr] in
theorem zB {id id':Nat} {o:AO} (hid:get st id=some o) (hl:o.bf=true) (hid':get st id'=none):
 (mkK x bl cap st w).le (mkK x (fu bl id' (bl id)) (fu cap id' (cap id)) (put (put st id .dead) id' o) w) where
 dom i h:=by
  simp only[mkK] at*
  rw[get_put,get_put];split
  ·rfl
  ·split
   ·rfl
   ·exact h
 bl i h:=by
  refine dE _ _ ?_
  rintro rfl;simp[mkK,hid'] at h
 cap i h:=by
  refine dE _ _ ?_
  rintro rfl;simp[mkK,hid'] at h
 heap _ _ _:=rfl
 M b h:=by
   have hne:id≠id':=by rintro rfl;rw[hid] at hid';cases hid'
   rcases h with h|h
   ·rcases Dk (by rw[aZ hne];exact hid') h with h|h
    ·obtain⟨i,p,_,h1,h2,h3⟩:=vH h;exact .inl (.inl ⟨i,p,h1,h2,h3⟩)
    ·exact .inl (.inl ⟨id,o,hid,hl,h⟩)
   ·exact .inl (.inr h)
omit [Dr] in
theorem BG.rename {k k':K} (hk:k.le k') {id id':Nat} {o:AO} (hw:k'.w=k.w) (hb:k'.bl id'=k.bl id) (hc:k'.cap id'=k.cap id) (h:BG k id o):BG k' id' o:=by
 cases o with
 |box cs=>
  obtain⟨b,T,vs,h1,h2,h3⟩:=h
  exact⟨b,T,vs,by rw[hb,h1],by rw[hw];exact h2,h3.mono fun _ _=>ai.le hk⟩
 |arr sz xs=>
  obtain⟨h0,h1,hsz,h2⟩:=h
  refine⟨by rw[hc];exact h0,h1,hsz,?_⟩
  rcases h2 with⟨h2,h3⟩|⟨b,T,vs,h2,h3,h4,h5⟩
  ·exact .inl ⟨by rw[hc];exact h2,by rw[hb];exact h3⟩
  ·exact .inr ⟨b,T,vs,by rw[hb,h2],by rw[hw];exact h3,by rw[hc];exact h4,h5.mono fun _ _=>ai.le hk⟩
 |map es=>
  obtain⟨b,ents,clock,h1,h2,h3,h4⟩:=h
  exact⟨b,ents,clock,by rw[hb,h1],by rw[hw];exact h2,h3,h4.mono fun _ _=>jD.mono fun _ _=>ai.le hk⟩
 |mapx es j β=>
  obtain⟨b,ents,clock,h1,h2,h3,h4,h5⟩:=h
  exact⟨b,ents,clock,by rw[hb,h1],by rw[hw];exact h2,h3,h4.mono fun _ _=>jD.mono fun _ _=>ai.le hk,h5⟩
 |pool sz ps=>
  obtain⟨h0,h1,h2⟩:=h
  refine⟨h0,by rw[hb];exact h1,?_⟩
  intro i v ys hp
  obtain⟨b,cap,T,vs,a1,a2,a3,a4,a5,a6,a7,a8⟩:=h2 i v ys hp
  exact⟨b,cap,T,vs,by rw[hb];exact a1,a2,by rw[hw];exact a3,a4,a5,a6,a7,a8.mono fun _ _=>ai.le hk⟩
 |iter cur left=>
  obtain⟨b,h1,h2⟩:=h
  refine⟨b,by rw[hb,h1],?_⟩
  rcases h2 with⟨h2,hc,since,seen,last,h3⟩|⟨mb,ents,clock,seen,h2,h3,h4,h5,h8,h9⟩
  ·exact .inl ⟨h2,hc,since,seen,last,by rw[hw];exact h3⟩
  ·have hlt:=lt_of_heap h4
   refine .inr ⟨mb,ents,clock,seen,by rw[hw];exact h2,?_,by rw[hw];exact h4,h5,h8.mono fun _ _=>jD.mono fun _ _ h=>h.stable hk.heap hk.M,
    fun c hc=>let⟨e,a1,a2,a3⟩:=h9 c hc;⟨e,a1,a2,a3.mono fun _ _ h=>h.stable hk.heap hk.M⟩⟩
   intro hm;rcases hk.M mb hm with hm|hm
   ·exact h3 hm
   ·omega
 |loop l D env r=>
  obtain⟨h1,h2,h3,h4⟩:=h
  exact⟨by rw[hb];exact h1,by rw[hw];exact h2,by rw[hw];exact h3,fun i v hv=>let⟨u,hu,hr⟩:=h4 i v hv;⟨u,hu,hr.le hk⟩⟩
 |dead=>trivial
theorem aP.move (h:aP x bl cap st w) {id id':Nat} {o:AO} (hid:get st id=some o) (hl:o.bf=true) (hid':get st id'=none):
 aP x (fu bl id' (bl id)) (fu cap id' (cap id)) (put (put st id .dead) id' o) w:=by
 have hne:id≠id':=by rintro rfl;rw[hid] at hid';cases hid'
 have hle:=zB (x:=x) (bl:=bl) (cap:=cap) (w:=w) hid hl hid'
 have key:∀b,MM (fu bl id' (bl id)) (put (put st id .dead) id' o) b→MM bl st b:=by
  intro b h
  rcases Dk (by rw[aZ hne];exact hid') h with h|h
  ·obtain⟨i,p,_,h1,h2,h3⟩:=vH h;exact⟨i,p,h1,h2,h3⟩
  ·exact⟨id,o,hid,hl,h⟩
 have old:∀i p,get (put (put st id .dead) id' o) i=some p→p.bf=true→
  ∃j,get st j=some p∧fu bl id' (bl id) i=bl j∧(i=id'→j=id)∧(i≠id'→j=i∧i≠id):=by
  intro i p hi hp
  rw[get_put] at hi
  by_cases e:id'=i
  ·subst e;simp at hi;subst hi;exact⟨id,hid,by simp,fun _=>rfl,fun h=>absurd rfl h⟩
  ·simp only[e,if_false] at hi
   rw[get_put] at hi
   by_cases e':id=i
   ·subst e';simp at hi;subst hi;simp[AO.bf] at hp
   ·simp only[e',if_false] at hi
    exact⟨i,hi,dE _ _ (Ne.symm e),fun h=>absurd h.symm e,fun _=>⟨rfl,Ne.symm e'⟩⟩
 refine⟨?_,?_,?_,fun b hb=>h.new b (key b hb),fun b hb=>h.lt b (key b hb),h.fr,?_,h.xok⟩
 ·intro i p hp
  cases hp':p.bf with
  |false=>cases p<;>simp[AO.bf] at hp';trivial
  |true=>
   obtain⟨j,hj,hb,h1,h2⟩:=old i p hp hp'
   refine(h.objs j p hj).rename hle rfl hb ?_
   by_cases e:i=id'
   ·show fu cap id' (cap id) i=cap j;rw[e,rG,h1 e]
   ·show fu cap id' (cap id) i=cap j;rw[dE _ _ e,(h2 e).1]
 ·intro i j p q b hi hj hp hq hbi hbj
  obtain⟨i',a1,a2,a3,a4⟩:=old i p hi hp
  obtain⟨j',b1,b2,b3,b4⟩:=old j q hj hq
  rw[a2] at hbi;rw[b2] at hbj
  have:=h.disj i' j' p q b a1 b1 hp hq hbi hbj
  by_cases e:i=id'
  ·by_cases e':j=id'
   ·rw[e,e']
   ·have:=a3 e;have:=b4 e';omega
  ·by_cases e':j=id'
   ·have:=b3 e';have:=a4 e;omega
   ·have:=(a4 e).1;have:=(b4 e').1;omega
 ·intro i p hi hp
  obtain⟨j,hj,hb,_,_⟩:=old i p hi hp
  rw[hb];exact h.nodup j p hj hp
 ·intro i hi
  obtain⟨h1,h2,h3⟩:=h.keep i hi
  have hne':i≠id':=by rintro rfl;simp[hid'] at h1
  refine⟨?_,by rw[dE _ _ hne'];exact h2,by rw[dE _ _ hne'];exact h3⟩
  rw[aZ (Ne.symm hne'),get_put];split
  ·rfl
  ·exact h1
end step
end Go.Ab
namespace Go.Ab
def Xc:TypeDesc→Bool
 | .struct _| .array _ _=>true
 |_=>false
structure TI where
 size:Nat
 agg:Bool
 bytes:Nat
 zero:List Value
def ti (P:Program) (T:TypeId):Option TI:=
 match P.info? T,P.underlying T with
 |some i,some u=>
  match i.zero with
  |some z=>if z.cells.toList.all Value.oneCell'&&i.size=z.cells.size&&i.size≠0&&OC z==Xc u then some ⟨i.size,Xc u,i.bytes,z.cells.toList⟩ else none
  |none=>none
 |_,_=>none
def ji (P:Program) (T f:Nat):Option (Nat×TypeId):=
 match P.underlying T with
 |some (.struct fs)=>(fs[f]?).map fun f=>(f.offset,f.type)
 |_=>none
def xg (P:Program) (T:TypeId):Option TypeId:=
 match P.underlying T with
 |some (.slice e)=>some e
 |_=>none
theorem eG {P:Program} {T:TypeId} {t:TI} (h:ti P T=some t):
 ∃i u z,P.info? T=some i∧P.underlying T=some u∧i.zero=some z∧i.size=t.size∧i.bytes=t.bytes∧z.cells.toList=t.zero∧t.zero.length=t.size∧t.size≠0∧
  (∀v∈t.zero,v.oneCell'=true)∧t.agg=Xc u∧OC z=t.agg:=by
 unfold ti at h
 split at h
 ·rename_i i u hi hu
  split at h
  ·rename_i z hz
   split at h
   ·rename_i hc
    simp at h;subst h
    simp only[aaj,aaC,aae,beq_iff_eq] at hc
    exact⟨i,u,z,hi,hu,hz,rfl,rfl,rfl,by simp[hc.1.1.2],hc.1.2,fun v hv=>hc.1.1.1 v (by simpa using hv),rfl,hc.2⟩
   ·cases h
  ·cases h
 ·cases h
theorem Ah {P:Program} {T f off:Nat} {ft:TypeId} (h:ji P T f=some (off,ft)):∃fs F,P.underlying T=some (.struct fs)∧fs[f]? =some F∧F.offset=off∧F.type=ft:=by
 unfold ji at h
 split at h
 ·rename_i fs hu
  simp only[aap,aa1] at h
  obtain⟨F,h1,h2,h3⟩:=h
  exact⟨fs,F,hu,h1,h2,h3⟩
 ·cases h
theorem iJ {P:Program} {T e:TypeId} (h:xg P T=some e):P.underlying T=some (.slice e):=by
 unfold xg at h
 split at h
 ·simp at h;subst h;assumption
 ·cases h
section run
variable {P:Program} (w:World)
theorem kH {T:TypeId} {t:TI} (h:ti P T=some t):(isAgg T).run P w= .ok t.agg w:=by
 obtain⟨i,u,z,hi,hu,hz,h1,h2,h3,h4,h5,h6,h7,_⟩:=eG h
 rw[h7]
 simp only[isAgg,Sem.run_bind,run_underlying hu,Result.andThen_ok]
 cases u<;>rfl
theorem aQ {T:TypeId} {t:TI} (h:ti P T=some t):(sizeOf T).run P w= .ok t.size w:=by
 obtain⟨i,u,z,hi,hu,hz,h1,h2,h3,h4,h5,h6,h7⟩:=eG h
 simp[sizeOf,typeInfo,hi,h1]
theorem pX {T:TypeId} {t:TI} (h:ti P T=some t):∃z,(zeroValue T).run P w= .ok z w∧z.cells.toList=t.zero:=by
 obtain⟨i,u,z,hi,hu,hz,h1,h2,h3,h4,h5,h6,h7⟩:=eG h
 exact⟨z,by simp[zeroValue,typeInfo,hi,hz],h3⟩
theorem gp (b o j:Nat):(⟨b,o,none⟩:Addr).add j=⟨b,o+j,none⟩:=by unfold Addr.add;split<;>simp_all
theorem jY {T:TypeId} {t:TI} (h:ti P T=some t) (ha:t.agg=true) {b o:Nat} {vs:List Value} (hl:vs.length=t.size)
 (hc:∀j v,vs[j]? =some v→w.cell? ⟨b,o+j,none⟩=some v):(loadVar T ⟨b,o,none⟩).run P w= .ok (.agg vs.toArray) w:=by
 have:=run_loadCells_list (P:=P) w ⟨b,o,none⟩ vs (fun j v hj=>by rw[gp];exact hc j v hj)
 simp only[loadVar,Sem.run_bind,kH w h,ha,Result.andThen_ok,if_true,aQ w h,←hl,this,Sem.run_pure]
theorem jZ {T:TypeId} {t:TI} (h:ti P T=some t) (ha:t.agg=false) {b o:Nat} {v:Value}
 (hc:w.cell? ⟨b,o,none⟩=some v):(loadVar T ⟨b,o,none⟩).run P w= .ok v w:=by
 simp[loadVar,kH w h,ha,hc]
theorem pq {T:TypeId} {t:TI} (h:ti P T=some t) {b o:Nat} {v:Value} {cur:List Value} {E:TypeId} (hl:v.cells.size=t.size)
 (hg:w.heap[b]? =some (.cells cur.toArray E (0,0))) (hfit:o+v.cells.size≤cur.length) (h1:∀u∈v.cells.toList,u.oneCell'=true):
 (storeVar T ⟨b,o,none⟩ v).run P w= .ok () (w.setRow b (cur.take o++v.cells.toList++cur.drop (o+v.cells.size)).toArray):=by
 have:=run_storeCells_at (P:=P) b o E v.cells.toList 0 cur.toArray w hg (by simpa using hfit) h1
 simp only[storeVar,Sem.run_bind,aQ w h,Result.andThen_ok]
 simp[hl] at this⊢
 rw[←hl] at this⊢
 exact this
end run
theorem qC (w:World) (b:Nat) (cells:Array Value):jC [b] w (w.setRow b cells):=by
 refine⟨?_,?_,rfl,rfl,rfl,aat _⟩
 ·simp[World.setRow]
 ·intro i hi
  simp only[World.setRow,aag] at*
  rw[Array.getElem?_modify]
  split
  ·rename_i h;exact absurd h.symm hi
  ·rfl
end Go.Ab
namespace Go.Ab
structure Out where
 v:AV
 upd:List (Nat×AO)
 obl:List Prop
def All:List Prop→Prop
 |[]=>True
 |p::ps=>p∧All ps
def ah (st:List (Nat×AO)):List (Nat×AO)→List (Nat×AO)
 |[]=>st
 |(i,o)::l=>ah (put st i o) l
@[reducible] def AV.un:AV:= .tup []
@[reducible] def B (b:Bool):AV:= .c (.d (.v (.bool b)))
@[reducible] def I (k:IntKind) (n:Int):AV:= .c (.d (.v (.int k n)))
@[reducible] def Str (s:abW):AV:= .c (.d (.v (.string s)))
def cellsOf:AV→Option (List C)
 | .c x=>some [x]
 | .agg cs=>some cs
 |_=>none
def splice (l:List C) (off:Nat) (cs:List C):List C:=l.take off++cs++l.drop (off+cs.length)
def aV:IntKind→Int→Prop
 | .i8,n=> -128≤n∧n≤127
 | .i16,n=> -32768≤n∧n≤32767
 | .i32,n=> -2147483648≤n∧n≤2147483647
 | .i64,n=> -9223372036854775808≤n∧n≤9223372036854775807
 | .u8,n=>0≤n∧n≤255
 | .u16,n=>0≤n∧n≤65535
 | .u32,n=>0≤n∧n≤4294967295
 | .u64,n=>0≤n∧n≤18446744073709551615
theorem aV.wrap {k:IntKind} {n:Int} (h:aV k n):k.wrap n=n:=by
 cases k<;>simp only[aV] at h<;>simp[IntKind.wrap,IntKind.bits,IntKind.signed]<;>(try split)<;>omega
def iM (P:Program) (T:TypeId) (x:AV) (ob:Nat→Option AO):Option Out:=
 match ti P T with
 |none=>none
 |some t=>
  match x with
  | .c (.ptr id off)=>
    match ob id with
    |some (.box cs)=>if t.agg then some ⟨.agg ((cs.drop off).take t.size),[],[off+t.size≤cs.length]⟩ else some ⟨.c (cs.getD off default),[],[off<cs.length]⟩
    |_=>none
  | .c (.pp cs)=>if t.agg then some ⟨.agg ((cs.take t.size).map .d),[],[t.size≤cs.length]⟩ else some ⟨.c (.d (cs.getD 0 (.v (t.zero.getD 0 undef)))),[],[0<cs.length]⟩
  | .c (.ep id sz i off)=>
    match ob id with
    |some (.arr sz' xs)=>
     if t.agg then some ⟨.agg (((xs.getD i []).drop off).take t.size),[],[sz=sz',i<xs.length,off+t.size≤sz]⟩
     else some ⟨.c ((xs.getD i []).getD off default),[],[sz=sz',i<xs.length,off<sz]⟩
    |_=>none
  |_=>none
def je (P:Program) (T:TypeId) (x v:AV) (ob:Nat→Option AO):Option Out:=
 match ti P T,cellsOf v with
 |some t,some cs'=>
  match x with
  | .c (.ptr id off)=>
    match ob id with
    |some (.box cs)=>some ⟨.un,[(id, .box (splice cs off cs'))],[cs'.length=t.size,off+t.size≤cs.length]⟩
    |_=>none
  | .c (.ep id sz i off)=>
    match ob id with
    |some (.arr sz' xs)=>some ⟨.un,[(id, .arr sz' (xs.set i (splice (xs.getD i []) off cs')))],[sz=sz',i<xs.length,cs'.length=t.size,off+t.size≤sz]⟩
    |_=>none
  |_=>none
 |_,_=>none
def wZ (id:Nat) (v:AV) (ob:Nat→Option AO):Option Out:=
 match ob id,cellsOf v with
 |none,some cs=>some ⟨.c (.ptr id 0),[(id, .box cs)],[]⟩
 |_,_=>none
def nC (P:Program) (T id:Nat) (ob:Nat→Option AO):Option Out:=
 match ob id,ti P T with
 |none,some t=>some ⟨.c (.ptr id 0),[(id, .box (t.zero.map fun z=> .d (.v z)))],[]⟩
 |_,_=>none
def qc (P:Program) (T:TypeId) (x:AV) (f:Nat):Option Out:=
 match ji P T f with
 |none=>none
 |some (fo,ft)=>
  match ti P ft with
  |none=>none
  |some _=>
   match x with
   | .c (.ptr id off)=>some ⟨.c (.ptr id (off+fo)),[],[]⟩
   | .c (.ep id sz i off)=>some ⟨.c (.ep id sz i (off+fo)),[],[]⟩
   | .c (.pp cs)=>some ⟨.c (.pp (cs.drop fo)),[],[]⟩
   |_=>none
def rH (P:Program) (T:TypeId) (x:AV) (f:Nat):Option Out:=
 match ji P T f with
 |none=>none
 |some (fo,ft)=>
  match ti P ft,x with
  |some t, .agg cs=>if t.agg then some ⟨.agg ((cs.drop fo).take t.size),[],[fo+t.size≤cs.length]⟩ else some ⟨.c (cs.getD fo default),[],[fo<cs.length]⟩
  |_,_=>none
def ig (P:Program) (T:TypeId) (x ix:AV):Option Out:=
 match xg P T,ix with
 |some e, .c (.d (.v (.int _ n)))=>
  match ti P e with
  |none=>none
  |some t=>
   match x with
   | .c (.d (.ps sz xs))=>some ⟨.c (.pp (xs.getD n.toNat [])),[],[sz=t.size,0≤n,n<xs.length]⟩
   | .c (.ms id sz off len)=>some ⟨.c (.ep id sz (off+n.toNat) 0),[],[sz=t.size,0≤n,n<len]⟩
   |_=>none
 |_,_=>none
def nN (P:Program) (T:TypeId) (x ix:AV):Option Out:=
 match P.underlying T,x,ix with
 |some .string, .c (.d (.v (.string s))), .c (.d (.v (.int _ n)))=>some ⟨I .u8 ((s.data.getD n.toNat 0).toNat),[],[0≤n,n<s.size]⟩
 |_,_,_=>none
def xm (op:BinOp) (x y:AV):Option Out:=
 match x,y with
 | .c (.d (.v (.int k a))), .c (.d (.v (.int k' b)))=>
   match op with
   | .add=>some ⟨I k (a+b),[],[k=k',aV k (a+b)]⟩
   | .sub=>some ⟨I k (a-b),[],[k=k',aV k (a-b)]⟩
   | .mul=>some ⟨I k (a*b),[],[k=k',aV k (a*b)]⟩
   | .eql=>some ⟨B (decide (a=b)),[],[k=k']⟩
   | .neq=>some ⟨B (!decide (a=b)),[],[k=k']⟩
   | .lss=>some ⟨B (decide (a<b)),[],[k=k']⟩
   | .leq=>some ⟨B (decide (a≤b)),[],[k=k']⟩
   | .gtr=>some ⟨B (decide (b<a)),[],[k=k']⟩
   | .geq=>some ⟨B (decide (b≤a)),[],[k=k']⟩
   |_=>none
 | .c (.d (.v (.string a))), .c (.d (.v (.string b)))=>
   match op with
   | .eql=>some ⟨B (decide (a=b)),[],[]⟩
   | .neq=>some ⟨B (!decide (a=b)),[],[]⟩
   |_=>none
 |_,_=>none
def nT (P:Program) (op:BinOp) (T:TypeId) (a:Bool) (y:AV):Option Out:=
 match P.underlying T,op,y with
 |some .bool, .eql, .c (.d (.v (.bool b)))=>some ⟨B (a==b),[],[]⟩
 |some .bool, .neq, .c (.d (.v (.bool b)))=>some ⟨B (!(a==b)),[],[]⟩
 |_,_,_=>none
def qP (op:BinOp) (x y:AV):Option Out:=
 match x,y with
 | .c (.d (.v (.int k a))), .c (.d (.v (.int k' b)))=>
   match op with
   | .add=>some ⟨I k (k.wrap (a+b)),[],[k=k']⟩
   | .sub=>some ⟨I k (k.wrap (a-b)),[],[k=k']⟩
   | .mul=>some ⟨I k (k.wrap (a*b)),[],[k=k']⟩
   |_=>none
 | .c (.d (.v (.string p))), .c (.d (.v (.string q)))=>
   match op with
   | .add=>some ⟨Str (p++q),[],[p.size+q.size≤140737488355328]⟩
   |_=>none
 |_,_=>none
def Dq (x:AV):Option Out:=
 match x with
 | .c (.d (.v (.bool b)))=>some ⟨B (!b),[],[]⟩
 |_=>none
def Am (x:AV):Option Out:=
 match x with
 | .c (.ptr id off)=>some ⟨.c (.ptr id off),[],[]⟩
 | .c (.ep id sz i off)=>some ⟨.c (.ep id sz i off),[],[]⟩
 | .c (.pp cs)=>some ⟨.c (.pp cs),[],[]⟩
 |_=>none
def lC (x:AV) (i:Nat):Option Out:=
 match x with
 | .tup vs=>
   match vs[i]? with
   |some (true,cs)=>some ⟨.agg cs,[],[]⟩
   |some (false,[c])=>some ⟨.c c,[],[]⟩
   |_=>none
 |_=>none
def qH (P:Program) (T:TypeId) (x:AV) (ob:Nat→Option AO):Option Out:=
 match P.underlying T,x with
 |some .string, .c (.d (.v (.string s)))=>some ⟨I .i64 s.size,[],[]⟩
 |some (.slice _), .c (.d (.ps _ xs))=>some ⟨I .i64 xs.length,[],[]⟩
 |some (.slice _), .c (.ms _ _ _ len)=>some ⟨I .i64 len,[],[]⟩
 |some (.slice _), .c (.d (.v (.slice _ n _)))=>some ⟨I .i64 n,[],[]⟩
 |some (.map _ _), .c (.d (.v (.map none)))=>some ⟨I .i64 0,[],[]⟩
 |some (.map _ _), .c (.d (.pm es))=>some ⟨I .i64 es.length,[],[]⟩
 |some (.map _ _), .c (.mp id)=>match ob id with
  |some (.map es)=>some ⟨I .i64 es.length,[],[]⟩
  |_=>none
 |_,_=>none
section
variable {P:Program} {x:X} {bl:Nat→List Nat} {cap:Nat→Nat} {st:List (Nat×AO)} {w:World}
variable [Dr]
def Good (x:X) (bl:Nat→List Nat) (cap:Nat→Nat) (st:List (Nat×AO)) (w:World) (out:Out) (r:Result Next):Prop:=
 ∃bl' cap' w' u,(r= .ok (.value u) w'∨(r= .ok .skip w'∧u=undef))∧aP x bl' cap' (ah st out.upd) w'∧
  (mkK x bl cap st w).le (mkK x bl' cap' (ah st out.upd) w')∧af (mkK x bl' cap' (ah st out.upd) w') out.v u
omit [Dr] in
theorem K.le.refl (k:K):k.le k:=⟨fun _ h=>h,fun _ _=>rfl,fun _ _=>rfl,fun _ _ _=>rfl,fun _ h=> .inl h⟩
omit [Dr] in
theorem K.le.trans {k k' k'':K} (h:k.le k') (h':k'.le k'') (hs:k.w.heap.size≤k'.w.heap.size):k.le k'' where
 dom id hd:=h'.dom id (h.dom id hd)
 bl id hd:=by rw[h'.bl id (h.dom id hd),h.bl id hd]
 cap id hd:=by rw[h'.cap id (h.dom id hd),h.cap id hd]
 heap b hb hlt:=by
  rw[h'.heap b _ (by omega),h.heap b hb hlt]
  intro hm;rcases h.M b hm with hm|hm
  ·exact hb hm
  ·omega
 M b hb:=by
   rcases h'.M b hb with hb|hb
   ·exact h.M b hb
   ·exact .inr (by omega)
theorem Good.pure {out:Out} {u:Value} (hs:aP x bl cap st w) (h0:out.upd=[]) (hr:af (mkK x bl cap st w) out.v u) {r:Result Next} (e:r= .ok (.value u) w):
 Good x bl cap st w out r:=by
 refine⟨bl,cap,w,u, .inl e,?_,?_,?_⟩<;>rw[h0]<;>simp only[ah]
 ·exact hs
 ·exact .refl _
 ·exact hr
omit [Dr] in
theorem kW {α:Type} [Inhabited α] {l:List α} {i:Nat} (h:i<l.length):l[i]? =some (l.getD i default):=by
 simp[List.getD,aab h]
omit [Dr] in
theorem Rl {α:Type} {l:List α} {i:Nat} (z:α) (h:i<l.length):l[i]? =some (l.getD i z):=by
 simp[List.getD,aab h]
theorem Fb {cs:List C} {id:Nat} (hs:aP x bl cap st w) (h:get st id=some (.box cs)):
 ∃b T vs,bl id=[b]∧w.heap[b]? =some (.cells (List.toArray vs) T (0,0))∧aj (ai (mkK x bl cap st w)) cs vs:=hs.objs id _ h
omit [Dr] in
theorem oL {w:World} {b o:Nat} {vs:List Value} {T:TypeId} (h:w.heap[b]? =some (.cells vs.toArray T (0,0))):w.cell? ⟨b,o,none⟩=vs[o]?:=by
 simp[World.cell?,h]
omit [Dr] in
theorem flat_get {α:Type} {sz:Nat}:∀{xs:List (List α)},(∀x∈xs,x.length=sz)→∀{i:Nat},i<xs.length→(xs.flatten.drop (i*sz)).take sz=xs.getD i []
 |[],_,i,h=>by simp at h
 |x::xs,hl,0,_=>by
  have:=hl x (by simp)
  simp[←this]
 |x::xs,hl,i+1,h=>by
  have h0:=hl x (by simp)
  have:=flat_get (xs:=xs) (fun y hy=>hl y (by simp[hy])) (i:=i) (by simpa using h)
  simp only[List.flatten_cons,aaI]
  rw[List.drop_append,abo (by omega),List.nil_append,show i*sz+sz-x.length=i*sz by omega,this]
  simp
omit [Dr] in
theorem flat_length {α:Type} {sz:Nat}:∀{xs:List (List α)},(∀x∈xs,x.length=sz)→xs.flatten.length=xs.length*sz
 |[],_=>by simp
 |x::xs,hl=>by
  have h0:=hl x (by simp)
  have:=flat_length (xs:=xs) (fun y hy=>hl y (by simp[hy]))
  simp only[List.flatten_cons,aan,List.length_cons,aaI];omega
omit [Dr] in
theorem AP {α:Type} {sz:Nat}:∀{xs:List (List α)},(∀x∈xs,x.length=sz)→∀{i:Nat},i<xs.length→∀y:List α,y.length=sz→
 (xs.set i y).flatten=xs.flatten.take (i*sz)++y++xs.flatten.drop (i*sz+sz)
 |[],_,i,h,_,_=>by simp at h
 |x::xs,hl,0,_,y,hy=>by
  have:=hl x (by simp)
  simp[←this]
 |x::xs,hl,i+1,h,y,hy=>by
  have h0:=hl x (by simp)
  have:=AP (xs:=xs) (fun y hy=>hl y (by simp[hy])) (i:=i) (by simpa using h) y hy
  simp only[List.set_cons_succ,List.flatten_cons,this,aaI]
  rw[List.take_append,aaP (l:=x) (by omega),List.drop_append,abo (as:=x) (by omega),show i*sz+sz-x.length=i*sz by omega,
   show i*sz+sz+sz-x.length=i*sz+sz by omega]
  simp
theorem uV {sz:Nat} {xs:List (List C)} {id:Nat} (hs:aP x bl cap st w) (h:get st id=some (.arr sz xs)) {i:Nat} (hi:i<xs.length):
 ∃b T vs,bl id=[b]∧w.heap[b]? =some (.cells (List.toArray vs) T (0,0))∧vs.length=cap id*sz∧xs.length≤cap id∧(∀y∈xs,y.length=sz)∧
  aj (ai (mkK x bl cap st w)) xs.flatten (vs.take (xs.length*sz))∧aj (ai (mkK x bl cap st w)) (xs.getD i []) ((vs.drop (i*sz)).take sz):=by
 obtain⟨h0,h1,hsz,h2⟩:=hs.objs id _ h
 rcases h2 with⟨h2,h3⟩|⟨b,T,vs,h2,h3,h4,h5⟩
 ·simp only[mkK] at h0 h2;omega
 ·refine⟨b,T,vs,h2,h3,h4,h0,h1,h5,?_⟩
  have:=(h5.drop (i*sz)).take sz
  rw[flat_get h1 hi,List.drop_take,List.take_take,Nat.min_eq_left] at this
  ·exact this
  ·have:(i+1)*sz≤xs.length*sz:=aau _ hi
   rw[aaI] at this;omega
theorem Bz {T:TypeId} {a:AV} {u:Value} {out:Out} (hs:aP x bl cap st w) (he:iM P T a (get st)=some out) (ho:All out.obl)
 (hr:af (mkK x bl cap st w) a u):∃v,(Instr.loadAt T u).run P w= .ok v w∧af (mkK x bl cap st w) out.v v∧out.upd=[]:=by
 unfold iM at he
 split at he
 ·cases he
 rename_i t ht
 split at he
 ·-- a box
  rename_i id off
  split at he
  ·rename_i cs hb
   obtain⟨b,T',vs,hbl,hh,hc⟩:=Fb hs hb
   obtain⟨hd,b',hb',rfl⟩:=hr
   simp only[mkK] at hb'
   rw[hbl] at hb';simp at hb';subst hb'
   have hlen:=hc.length
   split at he
   ·rename_i ha
    cases he
    simp only[All] at ho
    refine⟨.agg ((vs.drop off).take t.size).toArray,?_,⟨_,rfl,(hc.drop off).take _⟩,rfl⟩
    simp only[Instr.loadAt,Instr.sureAddr,Sem.run_bind,Sem.run_pure,Result.andThen_ok]
    refine jY w ht ha (by simp;omega) ?_
    intro j v hj
    rw[oL hh,←hj,aaz,aaR]
    split
    ·rfl
    ·rename_i hlt;rw[aaz] at hj;simp[hlt] at hj
   ·rename_i ha
    cases he
    simp only[All] at ho
    obtain⟨v,hv,hrv⟩:=hc.get (kW ho.1)
    refine⟨v,?_,hrv,rfl⟩
    simp only[Instr.loadAt,Instr.sureAddr,Sem.run_bind,Sem.run_pure,Result.andThen_ok]
    exact jZ w ht (by simpa using ha) (by rw[oL hh];exact hv)
  ·cases he
 ·-- data
  rename_i cs
  obtain⟨b,o,rfl,hM,hlt,hc⟩:=hr
  split at he
  ·rename_i ha
   cases he
   simp only[All] at ho
   have hex:∃vs:List Value,vs.length=t.size∧(∀j v,vs[j]? =some v→w.cell? ⟨b,o+j,none⟩=some v)∧aj (aS (mkK x bl cap st w).M w) (cs.take t.size) vs:=by
    clear ht ha
    obtain⟨ho, -⟩:=ho
    generalize t.size=n at*
    induction n with
    |zero=>exact⟨[],rfl,by simp,by simp;exact .nil⟩
    |succ n ih=>
     obtain⟨vs,h1,h2,h3⟩:=ih (by omega)
     obtain⟨v,hv,hrv⟩:=hc n (cs.getD n default) (kW (by omega))
     refine⟨vs++[v],by simp[h1],?_,?_⟩
     ·intro j u hj
      by_cases e:j<vs.length
      ·rw[aa7 e] at hj;exact h2 j u hj
      ·by_cases e':j=vs.length
       ·subst e';simp at hj;subst hj;rw[h1];exact hv
       ·rw[aaB (by simp;omega)] at hj;cases hj
     ·rw[abM,kW (by omega)]
      exact h3.append (.cons hrv .nil)
   obtain⟨vs,h1,h2,h3⟩:=hex
   refine⟨.agg vs.toArray,?_,⟨vs,rfl,?_⟩,rfl⟩
   rotate_left
   ·show aj (ai (mkK x bl cap st w)) ((cs.take t.size).map C.d) vs
    exact aj.jO.2 h3
   simp only[Instr.loadAt,Instr.sureAddr,Sem.run_bind,Sem.run_pure,Result.andThen_ok]
   exact jY w ht ha h1 h2
  ·rename_i ha
   cases he
   simp only[All] at ho
   obtain⟨v,hv,hrv⟩:=hc 0 _ (Rl (.v (t.zero.getD 0 undef)) ho.1)
   refine⟨v,?_,hrv,rfl⟩
   simp only[Instr.loadAt,Instr.sureAddr,Sem.run_bind,Sem.run_pure,Result.andThen_ok]
   exact jZ w ht (by simpa using ha) hv
 ·-- an element
  rename_i id sz i off
  split at he
  ·rename_i sz' xs hb
   obtain⟨hd,b',hb',rfl⟩:=hr
   simp only[mkK] at hb'
   split at he
   ·rename_i ha
    cases he
    simp only[All] at ho
    obtain⟨rfl,hi,hle, -⟩:=ho
    obtain⟨b,T',vs,hbl,hh,hl,_,hl1,_,hc⟩:=uV hs hb hi
    rw[hbl] at hb';simp at hb';subst hb'
    have hlen:=hc.length
    have hxl:(xs.getD i []).length=sz:=hl1 _ (by rw[aam,aab hi];simp)
    refine⟨.agg ((((vs.drop (i*sz)).take sz).drop off).take t.size).toArray,?_,⟨_,rfl,(hc.drop off).take _⟩,rfl⟩
    simp only[Instr.loadAt,Instr.sureAddr,Sem.run_bind,Sem.run_pure,Result.andThen_ok]
    refine jY w ht ha (by rw[aaK,aaQ,←hlen];omega) ?_
    intro j v hj
    rw[oL hh,←hj,aaz,aaR,aaz,aaR]
    have hj2:j<t.size:=by
     rcases aaT j t.size with h|h
     ·exact h
     ·rw[aaB (by simp;omega)] at hj;cases hj
    rw[if_pos hj2,if_pos (by omega),Nat.add_assoc]
   ·rename_i ha
    cases he
    simp only[All] at ho
    obtain⟨rfl,hi,hle, -⟩:=ho
    obtain⟨b,T',vs,hbl,hh,hl,_,hl1,_,hc⟩:=uV hs hb hi
    rw[hbl] at hb';simp at hb';subst hb'
    have hxl:(xs.getD i []).length=sz:=hl1 _ (by rw[aam,aab hi];simp)
    obtain⟨v,hv,hrv⟩:=hc.get (kW (i:=off) (by omega))
    refine⟨v,?_,hrv,rfl⟩
    simp only[Instr.loadAt,Instr.sureAddr,Sem.run_bind,Sem.run_pure,Result.andThen_ok]
    refine jZ w ht (by simpa using ha) ?_
    rw[oL hh,←hv,aaz,if_pos hle,aaR]
  ·cases he
 ·cases he
end
end Go.Ab
namespace Go.Ab
theorem HY {α:Type} (vs ys:List α) (p off sz n:Nat) (h1:p+sz≤n) (h2:n≤vs.length) (h3:off+ys.length≤sz):
 (vs.take (p+off)++ys++vs.drop (p+off+ys.length)).take n=
   List.take p (List.take n vs)++(List.take off ((vs.drop p).take sz)++ys++List.drop (off+ys.length) ((vs.drop p).take sz))++List.drop (p+sz) (List.take n vs):=by
 apply aa6
 intro j
 simp only[aaz,List.getElem?_append,aan,aaK,aaQ,aaR]
 have m1:min (p+off) vs.length=p+off:=by omega
 have m2:min p (min n vs.length)=p:=by omega
 have m3:min off (min sz (vs.length-p))=off:=by omega
 have m4:min sz (vs.length-p)=sz:=by omega
 rw[m1,m2,m3,m4]
 have m5:off+ys.length+(sz-(off+ys.length))=sz:=by omega
 rw[m5]
 repeat' split
 all_goals first|rfl|omega|(congr 1;omega)|skip
section
variable {P:Program} {x:X} {bl:Nat→List Nat} {cap:Nat→Nat} {st:List (Nat×AO)} {w:World}
variable [Dr]
omit [Dr] in
theorem qY {k:K} {a:AV} {u:Value} {cs:List C} (hc:cellsOf a=some cs) (hr:af k a u):aj (ai k) cs u.cells.toList:=by
 cases a with
 |c y=>
  simp[cellsOf] at hc;subst hc
  have h1:=ai.one hr
  have:u.cells= #[u]:=by cases u<;>first|rfl|(simp[Value.oneCell'] at h1)
  rw[this];exact .cons hr .nil
 |agg cs'=>
  simp[cellsOf] at hc;subst hc
  obtain⟨vs,rfl,h⟩:=hr
  simpa[Value.cells] using h
 |_=>simp[cellsOf] at hc
omit [Dr] in
theorem tK {k:K} {cs cs':List C} {vs vs':List Value} (h:aj (ai k) cs vs) (h':aj (ai k) cs' vs') (off:Nat):
 aj (ai k) (splice cs off cs') (vs.take off++vs'++vs.drop (off+vs'.length)):=by
 unfold splice
 rw[h'.length]
 exact((h.take off).append h').append (h.drop _)
theorem He {T:TypeId} {a v:AV} {u uv:Value} {out:Out} (hs:aP x bl cap st w) (he:je P T a v (get st)=some out) (ho:All out.obl)
 (hr:af (mkK x bl cap st w) a u) (hv:af (mkK x bl cap st w) v uv):∃w',(Instr.storeAt T u uv).run P w= .ok () w'∧aP x bl cap (ah st out.upd) w'∧
   (mkK x bl cap st w).le (mkK x bl cap (ah st out.upd) w')∧out.v= .un:=by
 unfold je at he
 split at he
 rotate_left
 ·cases he
 rename_i t cs' ht hcs'
 have hcv:=qY hcs' hv
 have hlv:=hcv.length
 have h1:=VD.one hcv
 split at he
 ·rename_i id off
  split at he
  rotate_left
  ·cases he
  rename_i cs hb
  cases he
  simp only[All] at ho
  obtain⟨b,T',vs,hbl,hh,hc⟩:=Fb hs hb
  obtain⟨hd,b',hb',rfl⟩:=hr
  simp only[mkK] at hb'
  rw[hbl] at hb';simp at hb';subst hb'
  have hlen:=hc.length
  have hrun:=pq (P:=P) w ht (b:=b) (o:=off) (v:=uv) (by simp at hlv;omega) hh (by simp at hlv;omega) h1
  have hon:jC (bl id) w (w.setRow b (vs.take off++uv.cells.toList++vs.drop (off+uv.cells.size)).toArray):=by rw[hbl];exact qC w b _
  have hle:=lw (x:=x) (o':= .box (splice cs off cs')) (bl:=bl) (cap:=cap) hb rfl hon
  refine⟨_,by simp only[Instr.storeAt,Instr.sureAddr,Sem.run_bind,Sem.run_pure,Result.andThen_ok];exact hrun,?_,?_,rfl⟩
  ·refine hs.upd hb rfl hon ⟨b,T',_,hbl,setRow_heap w b _ _ _ _ hh,?_⟩
   have:=(tK hc hcv off).mono fun _ _=>ai.le hle
   simpa using this
  ·exact hle
 ·rename_i id sz i off
  split at he
  rotate_left
  ·cases he
  rename_i sz' xs hb
  cases he
  simp only[All] at ho
  obtain⟨rfl,hi,hl',hle', -⟩:=ho
  obtain⟨hd,b',hb',rfl⟩:=hr
  simp only[mkK] at hb'
  obtain⟨b,T',vs,hbl,hh,hl,hcap,hl1,hall,hc⟩:=uV hs hb hi
  rw[hbl] at hb';simp at hb';subst hb'
  have hxl:(xs.getD i []).length=sz:=hl1 _ (by rw[aam,aab hi];simp)
  have hmul:i*sz+sz≤xs.length*sz:=by have:=aau sz hi;rwa [aaI] at this
  have hmul2:xs.length*sz≤cap id*sz:=aau sz hcap
  have hrun:=pq (P:=P) w ht (b:=b) (o:=i*sz+off) (v:=uv) (by simp at hlv;omega) hh (by simp at hlv;omega) h1
  have hon:jC (bl id) w (w.setRow b (vs.take (i*sz+off)++uv.cells.toList++vs.drop (i*sz+off+uv.cells.size)).toArray):=by rw[hbl];exact qC w b _
  have hle:=lw (x:=x) (o':= .arr sz (xs.set i (splice (xs.getD i []) off cs'))) (bl:=bl) (cap:=cap) hb rfl hon
  refine⟨_,by simp only[Instr.storeAt,Instr.sureAddr,Sem.run_bind,Sem.run_pure,Result.andThen_ok];exact hrun,?_,?_,rfl⟩
  ·have hsl:(splice (xs.getD i []) off cs').length=sz:=by
    simp only[splice,aan,aaK,aaQ,hxl,hl'];omega
   obtain⟨_,_,hsz,_⟩:=hs.objs id _ hb
   refine hs.upd hb rfl hon ⟨by simpa[mkK] using hcap,?_,hsz, .inr ⟨b,T',_,hbl,setRow_heap w b _ _ _ _ hh,?_,?_⟩⟩
   ·intro y hy
    rcases abr hy with hy|rfl
    ·exact hl1 y hy
    ·exact hsl
   ·simp only[mkK,aan,aaK,aaQ,hl];simp at hlv;simp;omega
   ·rw[AP hl1 hi _ hsl]
    have e:=tK hc hcv off
    have a1:=hall.take (i*sz)
    have a2:=hall.drop (i*sz+sz)
    have:=(a1.append e).append a2
    refine aj.mono (fun _ _=>ai.le hle) ?_
    have hn:uv.cells.toList.length=t.size:=by rw[←hlv,hl']
    have key:(vs.take (i*sz+off)++uv.cells.toList++vs.drop (i*sz+off+uv.cells.size)).take ((xs.set i (splice (xs.getD i []) off cs')).length*sz)=
     List.take (i*sz) (List.take (xs.length*sz) vs)++(List.take off ((vs.drop (i*sz)).take sz)++uv.cells.toList++List.drop (off+uv.cells.toList.length) ((vs.drop (i*sz)).take sz))++
      List.drop (i*sz+sz) (List.take (xs.length*sz) vs):=by
     have hn':uv.cells.size=uv.cells.toList.length:=by simp
     rw[hn',List.length_set]
     exact HY vs uv.cells.toList (i*sz) off sz (xs.length*sz) hmul (by omega) (by omega)
    rw[key]
    exact this
  ·exact hle
 ·cases he
omit [Dr] in
theorem Ey {w:World} {o:Obj} {b:Nat} (h:b<w.heap.size):({w with heap:=w.heap.push o}:World).heap[b]? =w.heap[b]?:=by
 simp[Array.getElem?_push,Nat.ne_of_lt h]
omit [Dr] in
theorem eQ (w:World) (o:Obj):Grew w {w with heap:=w.heap.push o}:=
 ⟨by simp,fun b hb=>Ey hb,rfl,rfl,rfl,aat _⟩
theorem Eu {id:Nat} {cs:List C} {cells:Array Value} (T:TypeId) (hs:aP x bl cap st w) (hid:get st id=none) (hc:aj (ai (mkK x bl cap st w)) cs cells.toList):
 ∃bl' cap',aP x bl' cap' (put st id (.box cs)) {w with heap:=w.heap.push (.cells cells T)}∧
  (mkK x bl cap st w).le (mkK x bl' cap' (put st id (.box cs)) {w with heap:=w.heap.push (.cells cells T)})∧
  ai (mkK x bl' cap' (put st id (.box cs)) {w with heap:=w.heap.push (.cells cells T)}) (.ptr id 0) (.pointer (some ⟨w.heap.size,0,none⟩)):=by
 have hle:=oH (x:=x) (bl:=bl) (cap:=cap) (o:= .box cs) (c:=0) hid (eQ w (.cells cells T)).heap (bs:=[w.heap.size]) (by simp)
 refine⟨_,_,hs.alloc hid (eQ w _) (bs:=[w.heap.size]) (c:=0) (by simp) (by simp) ⟨w.heap.size,T,cells.toList,by simp[mkK],by rw[Array.toArray_toList];exact aaY,hc.mono fun _ _=>ai.le hle⟩,hle,?_⟩
 exact⟨by simp[mkK,get_put],w.heap.size,by simp[mkK],rfl⟩
theorem OG {T id:Nat} {v:AV} {uv:Value} {out:Out} (hs:aP x bl cap st w) (he:wZ id v (get st)=some out) (hv:af (mkK x bl cap st w) v uv):
 ∃bl' cap' w' u,(Instr.box T uv).run P w= .ok u w'∧aP x bl' cap' (ah st out.upd) w'∧(mkK x bl cap st w).le (mkK x bl' cap' (ah st out.upd) w')∧
  af (mkK x bl' cap' (ah st out.upd) w') out.v u:=by
 unfold wZ at he
 split at he
 ·rename_i cs hid hcs
  cases he
  obtain⟨bl',cap',h1,h2,h3⟩:=Eu T hs hid (qY hcs hv)
  exact⟨bl',cap',_,_,by simp[Instr.box,newVar,newRow],h1,h2,h3⟩
 ·cases he
omit [Dr] in
theorem vK {k:K} {zs:List Value} (h:∀v∈zs,v.oneCell'=true):aj (ai k) (zs.map fun z=> .d (.v z)) zs:=by
 induction zs with
 |nil=>exact .nil
 |cons z zs ih=>exact .cons (.v z (h z (by simp))) (ih fun v hv=>h v (by simp[hv]))
theorem II {T id:Nat} {out:Out} (hs:aP x bl cap st w) (he:nC P T id (get st)=some out) (old:Value):
 ∃bl' cap' w' u,(Instr.alloc T true old).run P w= .ok u w'∧aP x bl' cap' (ah st out.upd) w'∧(mkK x bl cap st w).le (mkK x bl' cap' (ah st out.upd) w')∧
  af (mkK x bl' cap' (ah st out.upd) w') out.v u:=by
 unfold nC at he
 split at he
 ·rename_i t hid ht
  cases he
  obtain⟨z,hz,hzc⟩:=pX w ht
  obtain⟨i,u,z',hi,hu,hz',g1,g2,g3,g4,g5,g6,g7⟩:=eG ht
  obtain⟨bl',cap',h1,h2,h3⟩:=Eu (cells:=z.cells) T hs hid (by rw[hzc];exact vK g6)
  exact⟨bl',cap',_,_,by simp[Instr.alloc,newVar,newRow,hz],h1,h2,h3⟩
 ·cases he
omit [Dr] in
theorem lq {T f fo ft:Nat} {t:TI} {fs:Array Field} {F:Field} (hu:P.underlying T=some (.struct fs)) (hf:fs[f]? =some F) (ho:F.offset=fo) (hft:F.type=ft)
 (ht:ti P ft=some t) (b o:Nat):(Instr.fieldAt T (.pointer (some ⟨b,o,none⟩)) f).run P w= .ok (.pointer (some ⟨b,o+fo,none⟩)) w:=by
 obtain⟨i,u,z',hi,hu',hz',g1,g2,g3,g4,g5,g6,g7⟩:=eG ht
 simp only[Instr.fieldAt,Sem.run_bind,run_underlying hu,Result.andThen_ok,hf,Instr.sureAddr,Sem.run_pure,fieldPlace,hft,aQ w ht,g5,if_false,ho,gp]
omit [Dr] in
theorem Iu {T f:Nat} {a:AV} {u:Value} {out:Out} (he:qc P T a f=some out) (hr:af (mkK x bl cap st w) a u):
 ∃v,(Instr.fieldAt T u f).run P w= .ok v w∧af (mkK x bl cap st w) out.v v∧out.upd=[]:=by
 unfold qc at he
 split at he
 ·cases he
 rename_i fo ft hf
 obtain⟨fs,F,hu,hF,h1,h2⟩:=Ah hf
 split at he
 ·cases he
 rename_i t ht
 split at he
 ·rename_i id off
  cases he
  obtain⟨hd,b,hb,rfl⟩:=hr
  exact⟨_,lq hu hF h1 h2 ht b off,⟨hd,b,hb,rfl⟩,rfl⟩
 ·rename_i id sz i off
  cases he
  obtain⟨hd,b,hb,rfl⟩:=hr
  exact⟨_,lq hu hF h1 h2 ht b _,⟨hd,b,hb,by rw[Nat.add_assoc]⟩,rfl⟩
 ·rename_i cs
  cases he
  obtain⟨b,o,rfl,hM,hlt,hc⟩:=hr
  refine⟨_,lq hu hF h1 h2 ht b o,⟨b,o+fo,rfl,hM,hlt,?_⟩,rfl⟩
  intro j y hj
  rw[aaR] at hj
  obtain⟨v,hv,hr⟩:=hc _ _ hj
  exact⟨v,by rw[Nat.add_assoc];exact hv,hr⟩
 ·cases he
omit [Dr] in
theorem KO {T f:Nat} {a:AV} {u:Value} {out:Out} (he:rH P T a f=some out) (ho:All out.obl) (hr:af (mkK x bl cap st w) a u):
 ∃v,(Instr.field T u f).run P w= .ok v w∧af (mkK x bl cap st w) out.v v∧out.upd=[]:=by
 unfold rH at he
 split at he
 ·cases he
 rename_i fo ft hf
 obtain⟨fs,F,hu,hF,h1,h2⟩:=Ah hf
 split at he
 rotate_left
 ·cases he
 rename_i t cs ht
 obtain⟨vs,rfl,hc⟩:=hr
 have hlen:=hc.length
 split at he
 ·rename_i ha
  cases he
  simp only[All] at ho
  refine⟨.agg ((vs.drop fo).take t.size).toArray,?_,⟨_,rfl,(hc.drop fo).take _⟩,rfl⟩
  simp only[Instr.field,Sem.run_bind,run_underlying hu,Result.andThen_ok,hF,asAgg,Sem.run_pure,part,h2,kH w ht,ha,if_true,aQ w ht,h1]
  congr 2
  rw[List.extract_toArray,List.extract_eq_take_drop,abd]
 ·rename_i ha
  cases he
  simp only[All] at ho
  obtain⟨v,hv,hrv⟩:=hc.get (kW ho.1)
  refine⟨v,?_,hrv,rfl⟩
  simp[Instr.field,run_underlying hu,hF,asAgg,part,h2,kH w ht,ha,h1,hv]
end
end Go.Ab
namespace Go.Ab
theorem dL {k:K} {z u:Value} (h:ai k (.d (.v z)) u):u=z:=by
 have h':aS k.M k.w (.v z) u:=h
 cases h';rfl
theorem FV (a b:Int):(a==b)=decide (a=b):=by rw[abk];simp
theorem Vb (a b:Int):(a !=b)=!decide (a=b):=by rw[abk];simp
theorem zW (a b:abW):(a.toList==b.toList)=decide (a=b):=by
 rw[abk];simp only[beq_iff_eq,aae]
 rw[ByteArray.toList_eq,ByteArray.toList_eq]
 obtain⟨⟨a⟩⟩:=a;obtain⟨⟨b⟩⟩:=b
 simp
section
variable {P:Program} {x:X} {bl:Nat→List Nat} {cap:Nat→Nat} {st:List (Nat×AO)} {w:World}
variable [Dr]
omit [Dr] in
theorem zq {T:TypeId} {a ix:AV} {u ui:Value} {out:Out} (he:ig P T a ix=some out) (ho:All out.obl) (hr:af (mkK x bl cap st w) a u)
 (hi:af (mkK x bl cap st w) ix ui):∃v,(Instr.indexAt T u ui).run P w= .ok v w∧af (mkK x bl cap st w) out.v v∧out.upd=[]:=by
 unfold ig at he
 split at he
 rotate_left
 ·cases he
 rename_i e k n hel
 have hu:=iJ hel
 cases hi
 split at he
 ·cases he
 rename_i t ht
 split at he
 ·rename_i sz xs
  cases he
  simp only[All] at ho
  obtain⟨rfl,h0,h1, -⟩:=ho
  cases hr with
  |nil=>simp at h1;omega
  |ps _ _ b o cap' f hM hl hc hrr hcap hb=>
   have hn:n.toNat<xs.length:=by omega
   refine⟨.pointer (some ⟨b,o+n.toNat*t.size,none⟩),?_,⟨b,o+n.toNat*t.size,rfl,hM,hb,?_⟩,rfl⟩
   ·simp[Instr.indexAt,asIntOf,run_underlying hu,h0,h1,aQ w ht,gp]
   ·intro j y hj
    have hlen:=hl (xs.getD n.toNat []) (by rw[aam,aab hn];simp)
    have hjl:j<t.size:=by
     rw[←hlen]
     rcases aaT j (xs.getD n.toNat []).length with h|h
     ·exact h
     ·rw[aaB h] at hj;cases hj
    refine⟨f n.toNat j,hc _ _ hn hjl,?_⟩
    have:=hrr n.toNat j hn hjl
    rw[aam,hj] at this
    exact this
 ·rename_i id sz off len
  cases he
  simp only[All] at ho
  obtain⟨rfl,h0,h1, -⟩:=ho
  obtain⟨hd,hcap,hh⟩:=hr
  rcases hh with⟨hz,a,rfl⟩|⟨hz,b,hb,rfl⟩
  ·omega
  ·refine⟨.pointer (some ⟨b,(off+n.toNat)*t.size,none⟩),?_,⟨hd,b,hb,rfl⟩,rfl⟩
   simp[Instr.indexAt,asIntOf,run_underlying hu,h0,h1,aQ w ht,gp,abf]
 ·cases he
omit [Dr] in
theorem Jt {T:TypeId} {a ix:AV} {u ui:Value} {out:Out} (he:nN P T a ix=some out) (ho:All out.obl) (hr:af (mkK x bl cap st w) a u)
 (hi:af (mkK x bl cap st w) ix ui):∃v,(Instr.index T u ui).run P w= .ok v w∧af (mkK x bl cap st w) out.v v∧out.upd=[]:=by
 unfold nN at he
 split at he
 ·rename_i s k n hu
  cases he
  simp only[All] at ho
  obtain⟨h0,h1, -⟩:=ho
  cases hr;cases hi
  have hn:n.toNat<s.size:=by omega
  refine⟨.int .u8 ((s.data.getD n.toNat 0).toNat),?_, .v _ rfl,rfl⟩
  have hs:s[n.toNat]? =some (s.data.getD n.toNat 0):=by
   have:n.toNat<s.data.size:=hn
   rw[getElem?_pos s n.toNat hn]
   congr 1
   simp only[Array.getD,dif_pos this]
   rfl
  simp[Instr.index,asIntOf,run_underlying hu,h0,hs]
 ·cases he
omit [Dr] in
theorem Px {T:TypeId} {op:BinOp} {ox oy:Operand} {a b:AV} {u v:Value} {out:Out} (he:xm op a b=some out) (ho:All out.obl) (hr:af (mkK x bl cap st w) a u)
 (hv:af (mkK x bl cap st w) b v):∃r,(do eqGuard op T ox oy u v;binOp op T u v:Sem Value).run P w= .ok r w∧af (mkK x bl cap st w) out.v r∧out.upd=[]:=by
 unfold xm at he
 split at he
 ·rename_i k a k' b
  cases hr;cases hv
  have hg:(eqGuard op T ox oy (.int k a) (.int k' b)).run P w= .ok () w:=by cases op<;>rfl
  simp only[Sem.run_bind,hg,Result.andThen_ok]
  split at he<;>(first|(cases he;done)|skip)<;>cases he<;>simp only[All] at ho
  ·obtain⟨rfl,h, -⟩:=ho;exact⟨.int k (a+b),by simp[binOp,Op.intArith,aV.wrap h], .v _ rfl,rfl⟩
  ·obtain⟨rfl,h, -⟩:=ho;exact⟨.int k (a-b),by simp[binOp,Op.intArith,aV.wrap h], .v _ rfl,rfl⟩
  ·obtain⟨rfl,h, -⟩:=ho;exact⟨.int k (a*b),by simp[binOp,Op.intArith,aV.wrap h], .v _ rfl,rfl⟩
  ·obtain⟨rfl, -⟩:=ho;exact⟨.bool (decide (a=b)),by simp[binOp,Op.intCmp,FV], .v _ rfl,rfl⟩
  ·obtain⟨rfl, -⟩:=ho;exact⟨.bool (!decide (a=b)),by simp[binOp,Op.intCmp,Vb], .v _ rfl,rfl⟩
  all_goals(obtain⟨rfl, -⟩:=ho;exact⟨_,by simp[binOp,Op.intCmp], .v _ rfl,rfl⟩)
 ·rename_i a b
  cases hr;cases hv
  have hg:(eqGuard op T ox oy (.string a) (.string b)).run P w= .ok () w:=by cases op<;>rfl
  simp only[Sem.run_bind,hg,Result.andThen_ok]
  split at he<;>(first|(cases he;done)|skip)<;>cases he
  ·exact⟨.bool (decide (a=b)),by simp[binOp,Op.stringOp,←zW], .v _ rfl,rfl⟩
  ·exact⟨.bool (!decide (a=b)),by simp[binOp,Op.stringOp,←zW], .v _ rfl,rfl⟩
 ·cases he
omit [Dr] in
theorem zZ {T:TypeId} (hT:P.underlying T=some .bool) (a b:Bool):(Op.equal T (.bool a) (.bool b)).run P w= .ok (a==b) w:=by
 have h:∀d:Nat,(Op.equalIn (d+1) T (.bool a) (.bool b)).run P w= .ok (a==b) w:=fun d=>by simp[Op.equalIn,run_underlying hT]
 unfold Op.equal Op.maxDepth
 exact h 9999
omit [Dr] in
theorem FM {T:TypeId} {op:BinOp} {ox oy:Operand} {a:Bool} {b:AV} {u v:Value} {out:Out} (he:nT P op T a b=some out) (hr:af (mkK x bl cap st w) (.c (.d (.v (.bool a)))) u)
 (hv:af (mkK x bl cap st w) b v):∃r,(do eqGuard op T ox oy u v;binOp op T u v:Sem Value).run P w= .ok r w∧af (mkK x bl cap st w) out.v r∧out.upd=[]:=by
 unfold nT at he
 split at he
 ·rename_i b hT
  cases he;cases hr;cases hv
  have hg:(eqGuard .eql T ox oy (.bool a) (.bool b)).run P w= .ok () w:=rfl
  refine⟨.bool (a==b),?_, .v _ rfl,rfl⟩
  simp only[Sem.run_bind,hg,Result.andThen_ok,binOp,zZ hT,Sem.run_pure]
 ·rename_i b hT
  cases he;cases hr;cases hv
  have hg:(eqGuard .neq T ox oy (.bool a) (.bool b)).run P w= .ok () w:=rfl
  refine⟨.bool (!(a==b)),?_, .v _ rfl,rfl⟩
  simp only[Sem.run_bind,hg,Result.andThen_ok,binOp,zZ hT,Sem.run_pure]
 ·cases he
omit [Dr] in
theorem KT {T:TypeId} {op:BinOp} {ox oy:Operand} {a b:AV} {u v:Value} {out:Out} (he:qP op a b=some out) (ho:All out.obl) (hr:af (mkK x bl cap st w) a u)
 (hv:af (mkK x bl cap st w) b v):∃r,(do eqGuard op T ox oy u v;binOp op T u v:Sem Value).run P w= .ok r w∧af (mkK x bl cap st w) out.v r∧out.upd=[]:=by
 unfold qP at he
 split at he
 ·rename_i k a k' b
  cases hr;cases hv
  have hg:(eqGuard op T ox oy (.int k a) (.int k' b)).run P w= .ok () w:=by cases op<;>rfl
  simp only[Sem.run_bind,hg,Result.andThen_ok]
  split at he<;>(first|(cases he;done)|skip)<;>cases he<;>simp only[All] at ho
  all_goals(obtain⟨rfl, -⟩:=ho;exact⟨_,by simp[binOp,Op.intArith], .v _ rfl,rfl⟩)
 ·rename_i p q
  cases hr;cases hv
  have hg:(eqGuard op T ox oy (.string p) (.string q)).run P w= .ok () w:=by cases op<;>rfl
  simp only[Sem.run_bind,hg,Result.andThen_ok]
  split at he<;>(first|(cases he;done)|skip)<;>cases he<;>simp only[All] at ho
  have:¬140737488355328<p.size+q.size:=by omega
  exact⟨_,by simp[binOp,Op.stringOp,this];omega, .v _ rfl,rfl⟩
 ·cases he
omit [Dr] in
theorem O1 {a:AV} {u:Value} {out:Out} (he:Dq a=some out) (hr:af (mkK x bl cap st w) a u):
 ∃r,(Op.unary .not u).run P w= .ok r w∧af (mkK x bl cap st w) out.v r∧out.upd=[]:=by
 unfold Dq at he
 split at he
 ·cases he;cases hr
  exact⟨_,rfl, .v _ rfl,rfl⟩
 ·cases he
omit [Dr] in
theorem O5 {a:AV} {u:Value} {out:Out} (he:Am a=some out) (hr:af (mkK x bl cap st w) a u):
 (∃b,u= .pointer (some b))∧af (mkK x bl cap st w) out.v u∧out.upd=[]:=by
 unfold Am at he
 split at he
 ·cases he;obtain⟨hd,b,hb,rfl⟩:=hr;exact⟨⟨_,rfl⟩,⟨hd,b,hb,rfl⟩,rfl⟩
 ·cases he;obtain⟨hd,b,hb,rfl⟩:=hr;exact⟨⟨_,rfl⟩,⟨hd,b,hb,rfl⟩,rfl⟩
 ·cases he;obtain⟨b,o,rfl,h⟩:=hr;exact⟨⟨_,rfl⟩,⟨b,o,rfl,h⟩,rfl⟩
 ·cases he
omit [Dr] in
theorem DN {a:AV} {u:Value} {i:Nat} {out:Out} (he:lC a i=some out) (hr:af (mkK x bl cap st w) a u):
 ∃r,(Instr.extract u i).run P w= .ok r w∧af (mkK x bl cap st w) out.v r∧out.upd=[]:=by
 unfold lC at he
 split at he
 rotate_left
 ·cases he
 rename_i vs
 obtain⟨us,rfl,h⟩:=hr
 split at he
 ·rename_i cs hi
  cases he
  obtain⟨r,hr,hb⟩:=h.get hi
  simp only[dC,if_true] at hb
  exact⟨r,by simp[Instr.extract,hr],hb,rfl⟩
 ·rename_i c hi
  cases he
  obtain⟨r,hr,hb⟩:=h.get hi
  simp only[dC,aak,if_false] at hb
  obtain⟨⟨y,hy,hb⟩, -⟩:=hb
  simp at hy;subst hy
  exact⟨r,by simp[Instr.extract,hr],hb,rfl⟩
 ·cases he
theorem PQ {T ty:TypeId} {a:AV} {u:Value} {out:Out} (hs:aP x bl cap st w) (he:qH P T a (get st)=some out) (hr:af (mkK x bl cap st w) a u):
 ∃r,(Builtin.len_ #[T] ty #[u]).run P w= .ok r w∧af (mkK x bl cap st w) out.v r∧out.upd=[]:=by
 unfold qH at he
 split at he
 ·rename_i s hu;cases he;cases hr
  exact⟨_,by simp[Builtin.len_,run_underlying hu,goInt], .v _ rfl,rfl⟩
 ·rename_i e sz xs hu;cases he
  cases hr with
  |nil=>exact⟨_,by simp[Builtin.len_,run_underlying hu,goInt], .v _ rfl,rfl⟩
  |ps=>exact⟨_,by simp[Builtin.len_,run_underlying hu,goInt], .v _ rfl,rfl⟩
 ·rename_i e id sz off len hu;cases he
  obtain⟨hd,hc,h⟩:=hr
  rcases h with⟨h,a,rfl⟩|⟨h,b,hb,rfl⟩
  ·have:len=0:=by omega
   subst this
   exact⟨_,by simp[Builtin.len_,run_underlying hu,goInt], .v _ rfl,rfl⟩
  ·exact⟨_,by simp[Builtin.len_,run_underlying hu,goInt], .v _ rfl,rfl⟩
 ·rename_i e a n c hu;cases he;cases hr
  exact⟨_,by simp[Builtin.len_,run_underlying hu,goInt], .v _ rfl,rfl⟩
 ·rename_i k e hu;cases he;cases hr
  exact⟨_,by simp[Builtin.len_,run_underlying hu,goInt], .v _ rfl,rfl⟩
 ·rename_i k e es hu;cases he
  cases hr with
  |pm _ b ents clock hM hb hsz=>
   have hg:(getObj b).run P w= .ok (.map ents clock) w:=by simp only[getObj,Sem.run];rw[show w.heap[b]? =_ from hb]
   exact⟨_,by simp[Builtin.len_,run_underlying hu,goInt,hg,hsz], .v _ rfl,rfl⟩
 ·rename_i k e id hu
  split at he
  ·rename_i es hb
   cases he
   obtain⟨b,ents,clock,h1,h2,h3,h4⟩:=hs.objs id _ hb
   obtain⟨hd,b',bs,hb',rfl⟩:=hr
   simp only[mkK] at hb' h1 h2
   rw[h1] at hb';simp at hb'
   obtain⟨rfl,rfl⟩:=hb'
   have hg:(getObj b).run P w= .ok (.map ents.toArray clock) w:=by simp only[getObj,Sem.run];rw[h2]
   have:=h4.length
   exact⟨_,by simp[Builtin.len_,run_underlying hu,goInt,hg,←this], .v _ rfl,rfl⟩
  ·cases he
 ·cases he
end
end Go.Ab
