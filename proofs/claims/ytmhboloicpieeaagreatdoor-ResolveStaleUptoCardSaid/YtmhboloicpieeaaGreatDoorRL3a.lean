/- A part of the proof. -/
import Derived.Test.YtmhboloicpieeaaGreatDoorRU7
import Derived.Test.YtmhboloicpieeaaGreatDoorRU6
import Derived.Test.YtmhboloicpieeaaGreatDoorRT7
set_option linter.all false
namespace Go.Proofs.YtmhboloicpieeaaGreatDoor
open Go.Ab
theorem getD_sm {α : Type} {l : List α} {k : Nat} {v z : α} (h : l[k]? = some v) : l.getD k z = v := by simp [List.getD_eq_getElem?_getD, h]
end Go.Proofs.YtmhboloicpieeaaGreatDoor
namespace Go.Ab
variable [Dr]
def callL (P : Program) (f : FuncId) (args : List AV) (r : AV) (st0 : List (Nat × AO)) (st1 : Option (List (Nat × AO))) (ob : Nat → Option AO) : Option Out :=
 some ⟨r, st1.getD [], [∀ p ∈ st0, ob p.1 = some p.2, ∀ p ∈ st0, clAO (domOf st0) p.2, ∀ a ∈ args, clAV (domOf st0) a, AC P f args st0 (fun r' st' => r' = r ∧ st' = st1.getD st0), ∀ p ∈ st1.getD [], domOf st0 p.1 = true ∨ ob p.1 = none]⟩
omit [Dr] in
theorem put_same {l : List (Nat × AO)} {i : Nat} {a : AO} (h : get l i = some a) : put l i a = l := by
 induction l with
 | nil => simp [Ab.get] at h
 | cons p l ih =>
   obtain ⟨j, y⟩ := p
   simp only [Ab.get] at h
   simp only [Ab.put]
   by_cases e : j = i
   ·subst e; simp at h; subst h; simp
   ·rw [if_neg e] at h ⊢
    rw [ih h]
omit [Dr] in
theorem putAll_same {st : List (Nat × AO)} : ∀ {l : List (Nat × AO)}, (∀ p ∈ l, get st p.1 = some p.2) → putAll st l = st
 | [], _ => rfl
 | p :: l, h => by
   have e : putAll st (p :: l) = putAll (put st p.1 p.2) l := rfl
   rw [e, put_same (h p List.mem_cons_self)]
   exact putAll_same fun q hq => h q (List.mem_cons_of_mem _ hq)
omit [Dr] in
theorem dom_mem {l : List (Nat × AO)} {q : Nat × AO} (h : q ∈ l) : domOf l q.1 = true := by
 induction l with
 | nil => cases h
 | cons p l ih =>
   obtain ⟨j, y⟩ := p
   simp only [domOf, Ab.get]
   by_cases e : j = q.1
   ·rw [if_pos e]; rfl
   ·rw [if_neg e]
    rcases List.mem_cons.1 h with rfl | h
    ·exact absurd rfl e
    ·exact ih h
abbrev Lns := List (Nat × (List (Nat × AO) × Option (List (Nat × AO))))
def lnOf (ls : Lns) (o : Oper) : Option (List (Nat × AO) × Option (List (Nat × AO))) := match o.dst with | some d => get ls d | none => none
def stepL (P : Program) (wr : Bool) (ops : List Oper) (cs : List (Nat × AV)) (ls : Lns) (o : Oper) (s : S) : Option Out :=
 match lnOf ls o with
 | some p =>
   match o.guard, o.op with
   | none, .call { callee := .value (.func f), args := ⟨asq⟩, argTypes := _ } =>
     match evAll s asq, get cs (o.dst.getD 0) with
     | some args, some r => callL P f args r p.1 p.2 (get s.st)
     | _, _ => none
   | _, _ => none
 | none => stepO P wr ops cs o s
def readsL (ops : List Oper) (ls : Lns) (o : Oper) (s : S) : List (Res × Option Ct) :=
 readsOf ops o s ++ (match lnOf ls o with | some p => (p.1 ++ p.2.getD []).map fun q => ((false, q.1), look s (false, q.1)) | none => [])
def a1L (ops : List Oper) (ls : Lns) (o : Oper) (s : S) (out : Out) : A1 := ⟨readsL ops ls o s, o.dst.map fun d => (d, out.v), out.upd⟩
def runL (P : Program) (wr : Bool) (ops : List Oper) (cs : List (Nat × AV)) (ls : Lns) : List Oper → S → Option (List A1 × List Prop × S)
 | [], s => some ([], [], s)
 | o :: l, s =>
   if dstOK o s.n then
    match stepL P wr ops cs ls o s with
    | some out =>
      match runL P wr ops cs ls l ⟨s.n, putD s.env o.dst out.v, putAll s.st out.upd⟩ with
      | some (As, ps, s') => some (a1L ops ls o s out :: As, out.obl ++ ps, s')
      | none => none
    | none => none
   else none
omit [Dr] in
theorem app_a1L {ops : List Oper} {ls : Lns} {o : Oper} {s s' : S} {out : Out} (hn : s'.n = s.n) : (a1L ops ls o s out).app s' = ⟨s.n, putD s'.env o.dst out.v, putAll s'.st out.upd⟩ := by
 simp only [A1.app, a1L, hn]
 cases o.dst <;> rfl
section
variable {P : Program} {x : X} {ops : List Oper} {ls : Lns} {o : Oper} {s s' : S} {wr : Bool} {cs : List (Nat × AV)}
omit [Dr] in
theorem readsL_of (h : ∀ p ∈ readsL ops ls o s, look s' p.1 = p.2) : ∀ p ∈ readsOf ops o s, look s' p.1 = p.2 := fun p hp => h p (List.mem_append_left _ hp)
theorem stepL_local (h : ∀ p ∈ readsL ops ls o s, look s' p.1 = p.2) : stepL P wr ops cs ls o s' = stepL P wr ops cs ls o s := by
 have h0 := readsL_of h
 unfold stepL
 cases hl : lnOf ls o with
 | none => exact stepO_local h0
 | some p =>
   have hob : ∀ q ∈ p.1 ++ p.2.getD [], get s'.st q.1 = get s.st q.1 := by
    intro q hq
    refine look_st (h ((false, q.1), look s (false, q.1)) ?_)
    unfold readsL
    rw [hl]
    exact List.mem_append_right _ (List.mem_map.2 ⟨q, hq, rfl⟩)
   simp only
   split
   ·rename_i f asq ats hg hop
    rw [evAll_local h0 fun y hy => by rw [hop]; simp [Op.operands, Call.operands, hy]]
    split
    ·unfold callL
     have e1 : (∀ q ∈ p.1, get s'.st q.1 = some q.2) = (∀ q ∈ p.1, get s.st q.1 = some q.2) :=
      propext ⟨fun g q hq => by rw [← hob q (List.mem_append_left _ hq)]; exact g q hq, fun g q hq => by rw [hob q (List.mem_append_left _ hq)]; exact g q hq⟩
     have e2 : (∀ q ∈ p.2.getD [], domOf p.1 q.1 = true ∨ get s'.st q.1 = none) = (∀ q ∈ p.2.getD [], domOf p.1 q.1 = true ∨ get s.st q.1 = none) :=
      propext ⟨fun g q hq => by rw [← hob q (List.mem_append_right _ hq)]; exact g q hq, fun g q hq => by rw [hob q (List.mem_append_right _ hq)]; exact g q hq⟩
     rw [e1, e2]
    ·rfl
   ·rfl
theorem stepL_sound {out : Out} (h : stepL P wr ops cs ls o s = some out) (ho : All out.obl) (hdst : dstOK o s.n = true) {a : Act} {w : World} (hsat : Sat x s a w)
  {K : Act → World → Prop} {Q : Exit → Act → World → Prop} (hK : ∀ a w, Sat x ⟨s.n, putD s.env o.dst out.v, putAll s.st out.upd⟩ a w → K a w) :
  if Region.wanted o (yielded ops.toArray a.tmps) then o.wp P a w K Q else K (a.put o.dst undef) w := by
 have hd : ∀ i, o.dst = some i → i < s.n := fun i hi => by simpa [dstOK, hi] using hdst
 unfold stepL at h
 cases hl : lnOf ls o with
 | none => rw [hl] at h; exact stepO_sound h ho hdst hsat hK
 | some p =>
   rw [hl] at h
   simp only at h
   split at h
   ·rename_i f asq ats hg hop
    rw [if_pos (by simp [Region.wanted, hg])]
    obtain ⟨bl, cap, hs, henv, hdf, hsz⟩ := hsat
    split at h
    ·rename_i args r hargs hr
     unfold callL at h
     cases h
     simp only [All] at ho
     obtain ⟨o1, o2, o3, o4, o5, -⟩ := ho
     refine call_wp (st0 := p.1) hop hd ⟨o1, o2, o3⟩ o4 hs henv hdf hsz (evAll_rep henv hargs) ?_
     rintro r' st' ⟨rfl, rfl⟩
     obtain ⟨st0, st1⟩ := p
     cases st1 with
     | some st1 => exact ⟨o5, fun a w h => hK a w h⟩
     | none =>
       simp only [Option.getD] at o1 hK ⊢
       refine ⟨fun q hq => .inl ?_, fun a w h => hK a w ?_⟩
       ·exact dom_mem hq
       ·rw [putAll_same o1] at h; exact h
    ·cases h
   ·cases h
omit [Dr] in
theorem readsL_self {q : Res × Option Ct} (h : q ∈ readsL ops ls o s) : q.2 = look s q.1 := by
 unfold readsL at h
 rcases List.mem_append.1 h with h | h
 ·exact runD_ok.reads_self h
 ·split at h
  ·obtain ⟨y, _, rfl⟩ := List.mem_map.1 h; rfl
  ·cases h
theorem runL_ok : ∀ {l : List Oper} {s s' : S} {As : List A1} {ps : List Prop}, runL P wr ops cs ls l s = some (As, ps, s') → All ps →
  As.length = l.length ∧ stAt As s l.length = s' ∧ (∀ (i : Nat) (A : A1), As[i]? = some A → A.Fits (stAt As s i)) ∧ ∀ (i : Nat) (o : Oper) (A : A1), l[i]? = some o → As[i]? = some A → A.Sound P x s.n ops.toArray o
 | [], s, s', As, ps, h, _ => by cases h; exact ⟨rfl, rfl, by simp, by simp⟩
 | o :: l, s, s', As, ps, h, hp => by
   simp only [runL] at h
   split at h
   ·rename_i hd
    split at h
    ·rename_i out hout
     split at h
     ·rename_i As' ps' s'' hrec
      cases h
      obtain ⟨p1, p2⟩ := All.append hp
      obtain ⟨i1, i2, i3, i4⟩ := runL_ok hrec p2
      have shift : ∀ i, stAt (a1L ops ls o s out :: As') s (i + 1) = stAt As' ⟨s.n, putD s.env o.dst out.v, putAll s.st out.upd⟩ i := by
       intro i
       induction i with
       | zero => simp only [stAt, List.getElem?_cons_zero]; exact app_a1L rfl
       | succ i ih =>
         rw [stAt, ih]
         simp only [List.getElem?_cons_succ]
         rfl
      refine ⟨by simp [i1], by rw [List.length_cons, shift]; exact i2, ?_, ?_⟩
      ·intro i A hA
       cases i with
       | zero => simp at hA; subst hA; intro p hp; exact (readsL_self hp).symm
       | succ i => rw [shift]; exact i3 i A (by simpa using hA)
      ·intro i o' A ho' hA
       cases i with
       | zero =>
         simp at ho' hA; subst ho'; subst hA
         intro s1 a w hnn hs1 hf K Q hk
         have hloc := stepL_local (P := P) (wr := wr) (cs := cs) (ls := ls) (ops := ops) (o := o) (s := s) (s' := s1) hf
         rw [hout] at hloc
         refine stepL_sound hloc p1 (by rw [hnn]; exact hd) hs1 fun a w h => hk a w ?_
         rw [app_a1L hnn, ← hnn]; exact h
       | succ i => exact i4 i o' A (by simpa using ho') (by simpa using hA)
     ·cases h
    ·cases h
   ·cases h
theorem T_drawL {id : Nat} {l : List Oper} {s s' : S} {Q : Exit → S → Prop} (cs : List (Nat × AV)) (ls : Lns) {As : List A1} {ps : List Prop} (hm : P.follows .mixedOrders = true)
  (h : runL P wr l cs ls l s = some (As, ps, s')) (ho : All ps) (hc : drawOK l As = true) (hQ : Q .normal s') : T P x (.region id l.toArray true) s Q := by
 obtain ⟨h1, h2, h3, h4⟩ := runL_ok (x := x) h ho
 have hord := order_of h1 h3 hc
 intro a w hs
 refine wp_region_any hm ?_
 refine draw_any hord (fun i o A hi hA => h4 i o A (by simpa using hi) hA) (by simpa [h2] using hQ) _ _ s a _ (by simp) ?_ rfl ?_ ?_ (hs.drew _ (by first | exact Nat.le_succ _ | exact Nat.le_add_right _ _ | (simp; done) | omega))
 ·intro i o e hi hL he hb
  have hlt : i < l.length := by simpa using (Array.getElem?_eq_some_iff.1 hi).1
  rw [getD_in (by simpa using hlt) true false] at hL
  simp [Array.getD, hlt] at hL
 ·intro r
  have hz : ∀ i, (Array.replicate l.toArray.size false).getD i false = false := by
   intro i; simp [Array.getD]
  have : cont As s (fun i => (Array.replicate l.toArray.size false).getD i false) r l.toArray.size = cont As s (fun i => (Array.replicate l.toArray.size false).getD i false) r 0 :=
   cont_stop (Nat.zero_le _) (fun i _ _ _ => hz i)
  rw [this]; rfl
 ·exact filter_len
end
end Go.Ab
namespace Go.Proofs.YtmhboloicpieeaaGreatDoor
open Go.Ab
def pthL (l : List Rev) : List ByteArray := l.foldl (fun acc v => addS acc v.path) []
theorem pthL_snoc (l : List Rev) (v : Rev) : pthL (l ++ [v]) = addS (pthL l) v.path := by simp [pthL, List.foldl_append]
theorem addS_mem {κ : Type} [DecidableEq κ] {l : List κ} {k x : κ} (h : x ∈ addS l k) : x ∈ l ∨ x = k := by
 unfold addS at h
 split at h
 ·exact .inl h
 ·simpa using h
theorem addS_len {κ : Type} [DecidableEq κ] (l : List κ) (k : κ) : (addS l k).length ≤ l.length + 1 := by
 unfold addS; split <;> simp
theorem fold_mem : ∀ (l : List Rev) (acc : List ByteArray) (p : ByteArray), p ∈ l.foldl (fun acc v => addS acc v.path) acc → p ∈ acc ∨ ∃ v ∈ l, v.path = p
 | [], _, _, h => .inl h
 | v :: l, acc, p, h => by
   rcases fold_mem l _ p h with h | ⟨u, h1, h2⟩
   ·rcases addS_mem h with h | h
    ·exact .inl h
    ·exact .inr ⟨v, by simp, h.symm⟩
   ·exact .inr ⟨u, by simp [h1], h2⟩
theorem pthL_mem {l : List Rev} {p : ByteArray} (h : p ∈ pthL l) : ∃ v ∈ l, v.path = p := by
 rcases fold_mem l [] p h with h | h
 ·cases h
 ·exact h
theorem fold_len : ∀ (l : List Rev) (acc : List ByteArray), (l.foldl (fun acc v => addS acc v.path) acc).length ≤ acc.length + l.length
 | [], _ => Nat.le_refl _
 | v :: l, acc => by
   have h1 := fold_len l (addS acc v.path)
   have h2 := addS_len acc v.path
   simp only [List.foldl_cons, List.length_cons] at h1 ⊢; omega
theorem pthL_len (l : List Rev) : (pthL l).length ≤ l.length := by have := fold_len l []; simpa [pthL] using this
def sinkS : Nat → List ByteArray → List ByteArray
 | 0, l => l
 | k + 1, l => if ord (l.getD (k + 1) noS) (l.getD k noS) < 0 then sinkS k ((l.set (k + 1) (l.getD k noS)).set k (l.getD (k + 1) noS)) else l
def sortS (l : List ByteArray) : Nat → List ByteArray
 | 0 => l
 | k + 1 => sinkS k (sortS l k)
def pathsF (d : Dep) : List ByteArray := sortS (pthL d.revs) (pthL d.revs).length
theorem swapS {P : ByteArray → Prop} {t : List ByteArray} {v w : ByteArray} {i j : Nat} (hv : P v) (hw : P w) (h : ∀ r ∈ t, P r) : ∀ r ∈ (t.set j w).set i v, P r := by
 intro r hr
 rcases List.mem_or_eq_of_mem_set hr with hr | rfl
 ·rcases List.mem_or_eq_of_mem_set hr with hr | rfl
  ·exact h r hr
  ·exact hw
 ·exact hv
theorem sinkS_len : ∀ (k : Nat) (l : List ByteArray), (sinkS k l).length = l.length
 | 0, l => rfl
 | k + 1, l => by
   simp only [sinkS]
   split
   ·rw [sinkS_len k]; simp
   ·rfl
theorem sortS_len (l : List ByteArray) : ∀ k, (sortS l k).length = l.length
 | 0 => rfl
 | k + 1 => by rw [sortS, sinkS_len, sortS_len l k]
theorem sinkS_all {P : ByteArray → Prop} : ∀ (k : Nat) (l : List ByteArray), k < l.length → (∀ r ∈ l, P r) → ∀ r ∈ sinkS k l, P r
 | 0, l, _, h => h
 | k + 1, l, hk, h => by
   simp only [sinkS]
   have g : ∀ i, i < l.length → P (l.getD i noS) := fun i hi => by rw [List.getD_eq_getElem?_getD, List.getElem?_eq_getElem hi]; exact h _ (List.getElem_mem hi)
   split
   ·exact sinkS_all k _ (by simp; omega) (swapS (g (k + 1) hk) (g k (by omega)) h)
   ·exact h
theorem sortS_all {P : ByteArray → Prop} {l : List ByteArray} (h : ∀ r ∈ l, P r) : ∀ k, k ≤ l.length → ∀ r ∈ sortS l k, P r
 | 0, _ => h
 | k + 1, hk => sinkS_all k _ (by rw [sortS_len]; omega) (sortS_all h k (by omega))
theorem pathsF_mem {d : Dep} {p : ByteArray} (h : p ∈ pathsF d) : ∃ v ∈ d.revs, v.path = p :=
 sortS_all (P := fun p => ∃ v ∈ d.revs, v.path = p) (fun _ hr => pthL_mem hr) _ (Nat.le_refl _) p h
theorem pathsF_len (d : Dep) : (pathsF d).length ≤ d.revs.length := by unfold pathsF; rw [sortS_len]; exact pthL_len _
theorem away_prev {d : Dep} (hg : Good d.revs) {p : ByteArray} {u w : Rev} (hu : last? d p = some u) (h5 : u.act = 5) (hw : get? d p (u.num - 1) = some w) : w ∈ d.revs ∧ ¬ w.act = 5 := by
 obtain ⟨i, hi, ep, _⟩ := last_some hu
 obtain ⟨j, x, _, hj, xp, xn, _, x5, _⟩ := hg.prv i u hi (by omega) (by omega)
 obtain ⟨k, hk, ek⟩ := (get?_iff hg).1 hw
 have e : fileOf x = fileOf w := by rw [ek]; simp only [fileOf]; rw [xp, xn, ep]
 have := good_file hg hj hk e
 subst this
 rw [hj] at hk; cases hk
 exact ⟨List.mem_of_getElem? hj, x5⟩
theorem last_mem {d : Dep} {p : ByteArray} {u : Rev} (hu : last? d p = some u) : u ∈ d.revs ∧ u.path = p := by
 obtain ⟨i, hi, ep, _⟩ := last_some hu
 exact ⟨List.mem_of_getElem? hi, ep⟩
theorem last_ex {d : Dep} {u : Rev} (hu : u ∈ d.revs) : ∃ v, last? d u.path = some v := by
 cases h : last? d u.path with
 | some v => exact ⟨v, rfl⟩
 | none =>
   have := (lastF (fun v : Rev => decide (v.path = u.path)) d.revs).2 h u hu
   simp at this
theorem mem_lineF {d : Dep} {f : Fil} {u : Rev} : u ∈ line d f ↔ u ∈ d.revs ∧ ¬ u.act = 5 ∧ first d u = f := by
 simp [line, inLine]
theorem line_ne {d : Dep} {u : Rev} (hu : u ∈ d.revs) (h5 : ¬ u.act = 5) : 0 < (line d (first d u)).length :=
 List.length_pos_iff.2 fun h => by have := mem_lineF.2 ⟨hu, h5, rfl⟩; rw [h] at this; cases this
def uOf (d : Dep) (t : ByteArray) : Option Rev := match last? d t with | none => none | some u => if u.act = 5 then get? d t (u.num - 1) else some u
theorem uOf_mem {d : Dep} (hg : Good d.revs) {t : ByteArray} {u : Rev} (h : uOf d t = some u) : u ∈ d.revs ∧ ¬ u.act = 5 := by
 unfold uOf at h
 cases hl : last? d t with
 | none => rw [hl] at h; cases h
 | some v =>
   rw [hl] at h
   simp only at h
   by_cases h5 : v.act = 5
   ·rw [if_pos h5] at h; exact away_prev hg hl h5 h
   ·rw [if_neg h5] at h; cases h; exact ⟨(last_mem hl).1, h5⟩
def lastM (d : Dep) (u : Rev) : Rev := (line d (first d u)).getD ((line d (first d u)).length - 1) zRev
theorem lastM_mem {d : Dep} {u : Rev} (hu : u ∈ d.revs) (h5 : ¬ u.act = 5) : lastM d u ∈ d.revs ∧ ¬ (lastM d u).act = 5 ∧ first d (lastM d u) = first d u := by
 have h := line_ne hu h5
 have hm : lastM d u ∈ line d (first d u) := by
  unfold lastM
  rw [List.getD_eq_getElem?_getD, List.getElem?_eq_getElem (by omega)]
  exact List.getElem_mem _
 exact mem_lineF.1 hm
def tgtAt (d : Dep) (m : List Etr) (self : Fil) (q : ByteArray) : Option Rev :=
 if (byE m q).2 = true then
  match uOf d (byE m q).1 with
  | none => none
  | some u => if ¬ first d u = self ∧ (last? d (lastM d u).path).getD zRev = lastM d u then some (lastM d u) else none
 else none
def tgtK (d : Dep) (m : List Etr) (ln : List Rev) : Nat → Option (Rev × ByteArray)
 | 0 => none
 | k + 1 =>
   if k + 1 < ln.length ∧ (ln.getD (k + 1) zRev).path = (ln.getD k zRev).path then tgtK d m ln k
   else match tgtAt d m (fileOf (ln.getD 0 zRev)) (ln.getD k zRev).path with
    | some w => some (w, (ln.getD k zRev).path)
    | none => tgtK d m ln k
def tgtF (d : Dep) (m : List Etr) (ln : List Rev) : Option (Rev × ByteArray) := tgtK d m ln ln.length
@[reducible] def aTgt : Option (Rev × ByteArray) → AV
 | some (w, q) => .tup [pRev w, pS q, pB true]
 | none => .tup [pRev zRev, pS noS, pB false]
theorem tgtAt_some {d : Dep} (hg : Good d.revs) {m : List Etr} {self : Fil} {q : ByteArray} {w : Rev} (h : tgtAt d m self q = some w) : last? d w.path = some w ∧ ¬ w.act = 5 ∧ ¬ first d w = self := by
 unfold tgtAt at h
 split at h
 ·cases hu : uOf d (byE m q).1 with
  | none => rw [hu] at h; cases h
  | some u =>
    rw [hu] at h
    simp only at h
    split at h
    ·rename_i hc
     cases h
     obtain ⟨u1, u2⟩ := uOf_mem hg hu
     obtain ⟨m1, m2, m3⟩ := lastM_mem u1 u2
     refine ⟨?_, m2, by rw [m3]; exact hc.1⟩
     obtain ⟨v, hv⟩ := last_ex m1
     have := hc.2
     rw [hv] at this ⊢
     exact congrArg some this
    ·cases h
 ·cases h
theorem tgtK_some {d : Dep} (hg : Good d.revs) {m : List Etr} {ln : List Rev} {w : Rev} {q : ByteArray} : ∀ {k : Nat}, tgtK d m ln k = some (w, q) → last? d w.path = some w ∧ ¬ w.act = 5 ∧ ¬ first d w = fileOf (ln.getD 0 zRev)
 | k + 1, h => by
   rw [tgtK] at h
   split at h
   ·exact tgtK_some hg h
   ·cases ht : tgtAt d m (fileOf (ln.getD 0 zRev)) (ln.getD k zRev).path with
    | none => rw [ht] at h; exact tgtK_some hg h
    | some x =>
      rw [ht] at h
      simp only [Option.some.injEq, Prod.mk.injEq] at h
      obtain ⟨rfl, _⟩ := h
      exact tgtAt_some hg ht
theorem tgtK_path {d : Dep} {m : List Etr} {ln : List Rev} {w : Rev} {q : ByteArray} : ∀ {k : Nat}, k ≤ ln.length → tgtK d m ln k = some (w, q) → ∃ v ∈ ln, v.path = q
 | k + 1, hk, h => by
   rw [tgtK] at h
   split at h
   ·exact tgtK_path (by omega) h
   ·cases ht : tgtAt d m (fileOf (ln.getD 0 zRev)) (ln.getD k zRev).path with
    | none => rw [ht] at h; exact tgtK_path (by omega) h
    | some x =>
      rw [ht] at h
      simp only [Option.some.injEq, Prod.mk.injEq] at h
      refine ⟨_, ?_, h.2⟩
      rw [List.getD_eq_getElem?_getD, List.getElem?_eq_getElem (by omega)]
      exact List.getElem_mem _
section
variable {d : Dep} (hg : Good d.revs) (hN : d.revs.length ≤ 512)
include hg hN
end
def brF (p : ByteArray) (ln : List Rev) : Nat → Int → Int
 | 0, fs => fs
 | k + 1, fs => if (ln.getD k zRev).path = p ∧ fs - 1 ≤ (ln.getD k zRev).num then brF p ln k (ln.getD k zRev).num else fs
def endF (rest : List Fil) (ln : List Rev) (p : ByteArray) : Nat → Nat → Nat
 | 0, i => i
 | n + 1, i => if i + 1 < ln.length ∧ fileOf (ln.getD (i + 1) zRev) ∈ rest ∧ (ln.getD (i + 1) zRev).path = p then endF rest ln p n (i + 1) else i
theorem endF_S (rest : List Fil) (ln : List Rev) (p : ByteArray) (n i : Nat) : endF rest ln p (n + 1) i = if i + 1 < ln.length ∧ fileOf (ln.getD (i + 1) zRev) ∈ rest ∧ (ln.getD (i + 1) zRev).path = p then endF rest ln p n (i + 1) else i := rfl
theorem endF_ge (rest : List Fil) (ln : List Rev) (p : ByteArray) : ∀ n i, i ≤ endF rest ln p n i
 | 0, _ => Nat.le_refl _
 | n + 1, i => by
   rw [endF]; split
   ·exact Nat.le_trans (by omega) (endF_ge rest ln p n (i + 1))
   ·exact Nat.le_refl _
theorem endF_enough (rest : List Fil) (ln : List Rev) (p : ByteArray) : ∀ n i, ln.length ≤ n + i → endF rest ln p (n + 1) i = endF rest ln p n i
 | 0, i, h => by rw [endF_S, if_neg (by omega)]; rfl
 | n + 1, i, h => by
   rw [endF_S _ _ _ (n + 1) i, endF_S _ _ _ n i]
   split
   ·exact endF_enough rest ln p n (i + 1) (by omega)
   ·rfl
def endR (rest : List Fil) (ln : List Rev) (p : ByteArray) (i : Nat) : Nat := endF rest ln p ln.length i
theorem endR_step {rest : List Fil} {ln : List Rev} {p : ByteArray} {i : Nat} (h : i + 1 < ln.length ∧ fileOf (ln.getD (i + 1) zRev) ∈ rest ∧ (ln.getD (i + 1) zRev).path = p) : endR rest ln p i = endR rest ln p (i + 1) := by
 unfold endR
 have e : ln.length = (ln.length - 1) + 1 := by omega
 conv => lhs; rw [e, endF_S, if_pos h]
 rw [← endF_enough rest ln p (ln.length - 1) (i + 1) (by omega), ← e]
theorem endR_stop {rest : List Fil} {ln : List Rev} {p : ByteArray} {i : Nat} (h : ¬ (i + 1 < ln.length ∧ fileOf (ln.getD (i + 1) zRev) ∈ rest ∧ (ln.getD (i + 1) zRev).path = p)) : endR rest ln p i = i := by
 unfold endR
 cases hl : ln.length with
 | zero => rfl
 | succ n => rw [endF_S, if_neg h]
def runT (f : Fil) (ln : List Rev) (w : Rev) (mv : ByteArray) (i j : Nat) : Tsk :=
 ⟨if (ln.getD j zRev).act = 3 then 3 else 2, f.path, f.num, (ln.getD i zRev).path, (ln.getD i zRev).num, (ln.getD j zRev).num, w.path, w.num, if 0 < i then (ln.getD (i - 1) zRev).path else noS, if 0 < i then (ln.getD (i - 1) zRev).num else 0, mv⟩
def mrgF (f : Fil) (rest : List Fil) (ln : List Rev) (w : Rev) (mv : ByteArray) : Nat → Nat → List Tsk
 | 0, _ => []
 | n + 1, i =>
   if i < ln.length then
    if fileOf (ln.getD i zRev) ∈ rest then runT f ln w mv i (endR rest ln (ln.getD i zRev).path i) :: mrgF f rest ln w mv n (endR rest ln (ln.getD i zRev).path i + 1)
    else mrgF f rest ln w mv n (i + 1)
   else []
theorem mrgF_S (f : Fil) (rest : List Fil) (ln : List Rev) (w : Rev) (mv : ByteArray) (n i : Nat) : mrgF f rest ln w mv (n + 1) i = if i < ln.length then
   if fileOf (ln.getD i zRev) ∈ rest then runT f ln w mv i (endR rest ln (ln.getD i zRev).path i) :: mrgF f rest ln w mv n (endR rest ln (ln.getD i zRev).path i + 1)
   else mrgF f rest ln w mv n (i + 1)
  else [] := rfl
theorem mrgF_enough (f : Fil) (rest : List Fil) (ln : List Rev) (w : Rev) (mv : ByteArray) : ∀ n i, ln.length ≤ n + i → mrgF f rest ln w mv (n + 1) i = mrgF f rest ln w mv n i
 | 0, i, h => by rw [mrgF_S, if_neg (by omega)]; rfl
 | n + 1, i, h => by
   rw [mrgF_S _ _ _ _ _ (n + 1) i, mrgF_S _ _ _ _ _ n i]
   have he := endF_ge rest ln (ln.getD i zRev).path ln.length i
   rw [mrgF_enough f rest ln w mv n (endR rest ln (ln.getD i zRev).path i + 1) (by unfold endR; omega), mrgF_enough f rest ln w mv n (i + 1) (by omega)]
def mrgR (f : Fil) (rest : List Fil) (ln : List Rev) (w : Rev) (mv : ByteArray) (i : Nat) : List Tsk := mrgF f rest ln w mv ln.length i
theorem mrgR_end {f : Fil} {rest : List Fil} {ln : List Rev} {w : Rev} {mv : ByteArray} {i : Nat} (h : ln.length ≤ i) : mrgR f rest ln w mv i = [] := by
 unfold mrgR
 cases hl : ln.length with
 | zero => rfl
 | succ n => rw [mrgF_S, if_neg (by omega)]
theorem mrgR_skip {f : Fil} {rest : List Fil} {ln : List Rev} {w : Rev} {mv : ByteArray} {i : Nat} (h : i < ln.length) (hn : ¬ fileOf (ln.getD i zRev) ∈ rest) : mrgR f rest ln w mv i = mrgR f rest ln w mv (i + 1) := by
 unfold mrgR
 have e : ln.length = (ln.length - 1) + 1 := by omega
 conv => lhs; rw [e, mrgF_S, if_pos h, if_neg hn]
 rw [← mrgF_enough f rest ln w mv (ln.length - 1) (i + 1) (by omega), ← e]
theorem mrgR_run {f : Fil} {rest : List Fil} {ln : List Rev} {w : Rev} {mv : ByteArray} {i : Nat} (h : i < ln.length) (hn : fileOf (ln.getD i zRev) ∈ rest) : mrgR f rest ln w mv i = runT f ln w mv i (endR rest ln (ln.getD i zRev).path i) :: mrgR f rest ln w mv (endR rest ln (ln.getD i zRev).path i + 1) := by
 unfold mrgR
 have e : ln.length = (ln.length - 1) + 1 := by omega
 have he := endF_ge rest ln (ln.getD i zRev).path ln.length i
 conv => lhs; rw [e, mrgF_S, if_pos h, if_pos hn]
 rw [← mrgF_enough f rest ln w mv (ln.length - 1) (endR rest ln (ln.getD i zRev).path i + 1) (by unfold endR; omega), ← e]
noncomputable def restF (d : Dep) (s : Fil) : Option (Rev × ByteArray) → List Fil
 | some (w, _) => (remS d s (fileOf w)).getD []
 | none => []
def movF (d : Dep) (m : List Etr) (p t : ByteArray) (w : Rev) (q : ByteArray) : ByteArray :=
 if ¬ q = p ∧ (byE m q).1 = w.path ∧ ¬ t = w.path ∧ live d t = false then t else noS
def brT (d : Dep) (p t : ByteArray) (v : Rev) : Tsk :=
 ⟨1, (first d v).path, (first d v).num, p, brF p (line d (first d v)) (line d (first d v)).length v.num, v.num, t, lastNum d t, noS, 0, noS⟩
noncomputable def tskP (d : Dep) (m : List Etr) (p : ByteArray) : List Tsk :=
 let v := (last? d p).getD zRev
 let t := (byE m p).1
 if (byE m p).2 = false ∨ v.act = 5 then []
 else
  let tg := tgtF d m (line d (first d v))
  let rest := restF d (fileOf v) tg
  match tg with
  | none => if v.act = 3 ∨ live d t = true then [] else [brT d p t v]
  | some (w, q) =>
    if w.act = 3 then (if v.act = 3 ∨ live d t = true ∨ rest = [] then [] else [brT d p t v])
    else mrgR (first d v) rest (line d (first d v)) w (movF d m p t w q) 0
noncomputable def tskF (d : Dep) (m : List Etr) : List Tsk := (pathsF d).flatMap (tskP d m)
section
variable {d : Dep} (hg : Good d.revs) (hN : d.revs.length ≤ 512) (hf : FrmOK d) (hpt : PthOK d)
include hg hN hf hpt
end
end Go.Proofs.YtmhboloicpieeaaGreatDoor
namespace Go.Proofs.YtmhboloicpieeaaGreatDoor
open Go.Ab Tys
variable [Dr]
theorem Rcs.get {n : Nat} {l : List Rcd} (h : Rcs n l) {i : Nat} (hi : i < n) : rOK (l.getD i zRcd) := by
 rw [List.getD_eq_getElem?_getD, List.getElem?_eq_getElem (by rw [h.1]; exact hi)]
 exact h.2 _ (by simp)
def k141 := And.intro @Tryz.ntmps141 <| And.intro @bld76 <| And.intro @elt28 <| And.intro @ti28 <| @ti76
theorem v141Y2 {G G' : Prop} (g : G') (h : Hid G' → G := by intro h9; (first | refine nvB ?_ | refine goA (wr := false) (by simp only [kB, kG, kFn, k141, Nat.reduceAdd, Nat.reduceLT, Nat.reduceEqDiff, ↓reduceIte, reduceCtorEq]; first | done | rfl) ?_); (repeat (first | refine nvB ?_ | refine goA (wr := false) (by simp only [kB, kG, kFn, k141, Nat.reduceAdd, Nat.reduceLT, Nat.reduceEqDiff, ↓reduceIte, reduceCtorEq]; first | done | rfl) ?_)); exact h9.out) : G := h ⟨g⟩
set_option maxRecDepth 100000 in
set_option maxHeartbeats 8000000 in
theorem insR_ac (len : Nat) (l : List Rcd) (hl : len ≤ 1000000) (hR : Rcs len l) (a b : Nat) (ha : a ≤ b) (hb : b ≤ len) :
  AC Tryz.prog 141 [.c (.ms 46 6 0 len), I .i64 a, I .i64 b, cmpV] [(46, dArr 6 (l.map encRcd))] (fun r st => ∃ l', Rcs len l' ∧ st = [(46, dArr 6 (l'.map encRcd))]) := by
 refine AC_enter Tryz.func141 rfl rfl (by simp only [Tryz.ntmps141, List.length]; omega) ?_
 intro x hx
 simp only [List.range, List.range.loop, List.length, List.zip, List.zipWith, Nat.reduceAdd, Tryz.ntmps141]
 try refine v141Y2 ?_
 refine T_loop (ι := Nat × List Rcd) (I := fun i => ⟨53, [(0, .c (.ms 46 6 0 len)), (1, I .i64 a), (2, I .i64 b), (3, cmpV), (8, I .i64 i.1)], [(46, dArr 6 (i.2.map encRcd))]⟩)
  (Inv := fun i => a < i.1 ∧ i.1 ≤ b + 1 ∧ Rcs len i.2) (μ := fun i => b + 1 - i.1) (a + 1, l) ⟨by simp, by simp; omega, hR⟩ ?_ ?_
 ·exact enA
 rintro ⟨i, t⟩ ⟨h1, h2, h3⟩
 simp only at h1 h2 h3 ⊢
 try refine v141Y2 ?_
 refine ifA ?_ ?_
 rotate_left
 ·intro _
  try refine v141Y2 ?_
  refine rtN (by simp only [kR, Tryz.results141, ↓reduceIte, Nat.reduceEqDiff, reduceCtorEq]; first | done | rfl) ([(46, dArr 6 (t.map encRcd))]) ?_
  exact ⟨t, h3, rfl⟩
 intro hlt
 have hlt' : i < b := by simpa using hlt
 try refine v141Y2 ?_
 refine T_loop (ι := Nat × List Rcd) (I := fun j => ⟨53, [(0, .c (.ms 46 6 0 len)), (1, I .i64 a), (2, I .i64 b), (3, cmpV), (8, I .i64 i), (9, I .i64 j.1)], [(46, dArr 6 (j.2.map encRcd))]⟩)
  (Inv := fun j => a ≤ j.1 ∧ j.1 ≤ i ∧ Rcs len j.2) (μ := fun j => j.1) (i, t) ⟨by simp; omega, by simp, h3⟩ ?_ ?_
 ·exact enA
 rintro ⟨j, u⟩ ⟨g1, g2, g3⟩
 simp only at g1 g2 g3 ⊢
 have hj1 : ((j : Int) - 1).toNat = j - 1 := by omega
 have hul := g3.1
 have hju : j < u.length := by omega
 have hju1 : j - 1 < u.length := by omega
 have e1 := uGet encRcd u j zRcd hju
 have e2 := uGet encRcd u (j - 1) zRcd hju1
 have hc1 := cmpR_ac _ _ (g3.get (i := j) (by omega)) (g3.get (i := j - 1) (by omega))
 have hsw := g3.swap (i := j) (j := j - 1) (by omega) (by omega)
 generalize u.getD j zRcd = v at e1 hc1 hsw
 generalize u.getD (j - 1) zRcd = w at e2 hc1 hsw
 refine nvA ?_
 refine drA (wr := false) ([(32, I .i64 (cmR v w))] : List (Nat × AV)) (by simp only [kD, kB, kG, kFn, k141, Nat.reduceAdd, Nat.reduceLT, Nat.reduceEqDiff, ↓reduceIte, reduceCtorEq, hj1, e1, e2]; first | done | rfl) ?_ ?_
 ·exact obT (hc1)
 refine nvA ?_
 refine ifA ?_ ?_
 ·intro hc
  have hj : a < j := by
   by_cases h : a < j
   ·exact h
   ·have : ¬ ((a : Nat) : Int) < ((j : Nat) : Int) := by omega
    simp [this] at hc
  have e3 := uGet encRcd (u.set j w) (j - 1) zRcd (by simp; omega)
  refine nvA ?_
  refine T_draw (wr := false) ([] : List (Nat × AV)) (by kernel_rfl) (by simp only [kD, kB, kG, kFn, k141, Nat.reduceAdd, Nat.reduceLT, Nat.reduceEqDiff, ↓reduceIte, reduceCtorEq, hj1, e1, e2, set_R, set_R2]; first | done | rfl) (by first | exact trivial | (simp only [kO]; omega) | (simp [All, InR]; first | done | omega) | (simp +contextual [All, InR]; first | done | grind)) (by kernel_rfl) ?_
  try refine v141Y2 ?_
  refine ⟨(j - 1, (u.set j w).set (j - 1) v), ⟨by simp; omega, by simp; omega, hsw⟩, by simp; omega, ?_⟩
  have hcast : ((j : Nat) : Int) - 1 = ((j - 1 : Nat) : Int) := by omega
  (refine Ent_sub (fun i => i) rfl ?_ ⟨?_, ?_, ?_, keepI hx (by simp [domOf, Ab.get])⟩ <;> first | (simp only [kE, dArr, ↓reduceIte, Nat.reduceEqDiff, reduceCtorEq, hcast]; done) | simp [renAV_id, renAO_id, flat_up, Ab.get, clAV, clC, clCs, clAO, cl_f1, cl_s1, cl_f2, cl_s2, cl_a1, domOf, List.flatten, hcast])
 ·intro _
  try refine v141Y2 ?_
  refine ⟨(i + 1, u), ⟨by simp; omega, by simp; omega, g3⟩, by simp; omega, ?_⟩
  exact enA
end Go.Proofs.YtmhboloicpieeaaGreatDoor
namespace Go.Ab
variable [Dr]
def callZ (P : Program) (f : FuncId) (args : List AV) (r : AV) (Rel : AV → Prop) (ln : List (Nat × AO)) (ob : Nat → Option AO) : Option Out :=
 some ⟨r, ln.map fun p => (p.1, .dead), [∀ p ∈ ln, ob p.1 = some p.2, ∀ p ∈ ln, clAO (domOf ln) p.2, ∀ a ∈ args, clAV (domOf ln) a, AC P f args ln (fun r' st' => Rel r' ∧ st' = ln.map fun p => (p.1, .dead))]⟩
def stepZ (P : Program) (wr : Bool) (ops : List Oper) (cs : List (Nat × AV)) (d0 : Nat) (r : AV) (Rel : AV → Prop) (ln : List (Nat × AO)) (o : Oper) (s : S) : Option Out :=
 if o.dst = some d0 then
  match o.guard, o.op with
  | none, .call { callee := .value (.func f), args := ⟨asq⟩, argTypes := _ } =>
    match evAll s asq with
    | some args => callZ P f args r Rel ln (get s.st)
    | none => none
  | _, _ => none
 else stepO P wr ops cs o s
def readsZ (ops : List Oper) (ln : List (Nat × AO)) (d0 : Nat) (o : Oper) (s : S) : List (Res × Option Ct) :=
 readsOf ops o s ++ (if o.dst = some d0 then ln.map fun q => ((false, q.1), look s (false, q.1)) else [])
def a1Z (ops : List Oper) (ln : List (Nat × AO)) (d0 : Nat) (o : Oper) (s : S) (out : Out) : A1 := ⟨readsZ ops ln d0 o s, o.dst.map fun d => (d, out.v), out.upd⟩
def runZ (P : Program) (wr : Bool) (ops : List Oper) (cs : List (Nat × AV)) (d0 : Nat) (r : AV) (Rel : AV → Prop) (ln : List (Nat × AO)) : List Oper → S → Option (List A1 × List Prop × S)
 | [], s => some ([], [], s)
 | o :: l, s =>
   if dstOK o s.n then
    match stepZ P wr ops cs d0 r Rel ln o s with
    | some out =>
      match runZ P wr ops cs d0 r Rel ln l ⟨s.n, putD s.env o.dst out.v, putAll s.st out.upd⟩ with
      | some (As, ps, s') => some (a1Z ops ln d0 o s out :: As, out.obl ++ ps, s')
      | none => none
    | none => none
   else none
section
variable {P : Program} {x : X} {ops : List Oper} {o : Oper} {s s1 : S} {wr : Bool} {cs : List (Nat × AV)} {d0 : Nat} {r : AV} {Rel : AV → Prop} {ln : List (Nat × AO)}
omit [Dr] in
theorem app_a1Z {out : Out} {s' : S} (hn : s'.n = s.n) : (a1Z ops ln d0 o s out).app s' = ⟨s.n, putD s'.env o.dst out.v, putAll s'.st out.upd⟩ := by
 simp only [A1.app, a1Z, hn]
 cases o.dst <;> rfl
omit [Dr] in
theorem readsZ_of (h : ∀ p ∈ readsZ ops ln d0 o s, look s1 p.1 = p.2) : ∀ p ∈ readsOf ops o s, look s1 p.1 = p.2 := fun p hp => h p (List.mem_append_left _ hp)
omit [Dr] in
theorem readsZ_self {q : Res × Option Ct} (h : q ∈ readsZ ops ln d0 o s) : q.2 = look s q.1 := by
 unfold readsZ at h
 rcases List.mem_append.1 h with h | h
 ·exact runD_ok.reads_self h
 ·split at h
  ·obtain ⟨y, _, rfl⟩ := List.mem_map.1 h; rfl
  ·cases h
theorem stepZ_local (h : ∀ p ∈ readsZ ops ln d0 o s, look s1 p.1 = p.2) : stepZ P wr ops cs d0 r Rel ln o s1 = stepZ P wr ops cs d0 r Rel ln o s := by
 have h0 := readsZ_of h
 unfold stepZ
 split
 ·rename_i hdd
  have hob : ∀ q ∈ ln, get s1.st q.1 = get s.st q.1 := by
   intro q hq
   refine look_st (h ((false, q.1), look s (false, q.1)) ?_)
   unfold readsZ
   rw [if_pos hdd]
   exact List.mem_append_right _ (List.mem_map.2 ⟨q, hq, rfl⟩)
  split
  ·rename_i f asq ats hg hop
   rw [evAll_local h0 fun y hy => by rw [hop]; simp [Op.operands, Call.operands, hy]]
   split
   ·unfold callZ
    have e1 : (∀ q ∈ ln, get s1.st q.1 = some q.2) = (∀ q ∈ ln, get s.st q.1 = some q.2) :=
     propext ⟨fun g q hq => by rw [← hob q hq]; exact g q hq, fun g q hq => by rw [hob q hq]; exact g q hq⟩
    rw [e1]
   ·rfl
  ·rfl
 ·exact stepO_local h0
def CallZ (P : Program) (x : X) (n : Nat) (ops : Array Oper) (o : Oper) (A : A1) (Rel : AV → Prop) : Prop :=
 ∀ s a w, s.n = n → Sat x s a w → A.Fits s → ∀ (K : Act → World → Prop) (Q : Exit → Act → World → Prop), (∀ r', Rel r' → ∀ a w, Sat x ⟨s.n, putD s.env o.dst r', putAll s.st A.sw⟩ a w → K a w) →
   if Region.wanted o (yielded ops a.tmps) then o.wp P a w K Q else K (a.put o.dst undef) w
theorem stepZ_call {out : Out} (hdd : o.dst = some d0) (h : stepZ P wr ops cs d0 r Rel ln o s = some out) (ho : All out.obl) (hdst : dstOK o s.n = true) {a : Act} {w : World} (hsat : Sat x s a w)
  {K : Act → World → Prop} {Q : Exit → Act → World → Prop} (hK : ∀ r', Rel r' → ∀ a w, Sat x ⟨s.n, putD s.env o.dst r', putAll s.st out.upd⟩ a w → K a w) :
  if Region.wanted o (yielded ops.toArray a.tmps) then o.wp P a w K Q else K (a.put o.dst undef) w := by
 have hd : ∀ i, o.dst = some i → i < s.n := fun i hi => by simpa [dstOK, hi] using hdst
 unfold stepZ at h
 rw [if_pos hdd] at h
 split at h
 ·rename_i f asq ats hg hop
  rw [if_pos (by simp [Region.wanted, hg])]
  obtain ⟨bl, cap, hs, henv, hdf, hsz⟩ := hsat
  split at h
  ·rename_i args hargs
   unfold callZ at h
   cases h
   simp only [All] at ho
   obtain ⟨o1, o2, o3, o4, -⟩ := ho
   refine call_wp (st0 := ln) hop hd ⟨o1, o2, o3⟩ o4 hs henv hdf hsz (evAll_rep henv hargs) ?_
   rintro r' st' ⟨hr', rfl⟩
   refine ⟨fun q hq => .inl ?_, fun a w h => hK r' hr' a w h⟩
   obtain ⟨p, hp, rfl⟩ := List.mem_map.1 hq
   exact dom_mem (q := p) hp
  ·cases h
 ·cases h
theorem runZ_fits : ∀ {l : List Oper} {s s' : S} {As : List A1} {ps : List Prop}, runZ P wr ops cs d0 r Rel ln l s = some (As, ps, s') →
  As.length = l.length ∧ stAt As s l.length = s' ∧ (∀ (i : Nat) (A : A1), As[i]? = some A → A.Fits (stAt As s i))
 | [], s, s', As, ps, h => by cases h; exact ⟨rfl, rfl, by simp⟩
 | o :: l, s, s', As, ps, h => by
   simp only [runZ] at h
   split at h
   ·rename_i hd
    split at h
    ·rename_i out hout
     split at h
     ·rename_i As' ps' s'' hrec
      cases h
      obtain ⟨i1, i2, i3⟩ := runZ_fits hrec
      have shift : ∀ i, stAt (a1Z ops ln d0 o s out :: As') s (i + 1) = stAt As' ⟨s.n, putD s.env o.dst out.v, putAll s.st out.upd⟩ i := by
       intro i
       induction i with
       | zero => simp only [stAt, List.getElem?_cons_zero]; exact app_a1Z rfl
       | succ i ih =>
         rw [stAt, ih]
         simp only [List.getElem?_cons_succ]
         rfl
      refine ⟨by simp [i1], by rw [List.length_cons, shift]; exact i2, ?_⟩
      intro i A hA
      cases i with
      | zero => simp at hA; subst hA; intro p hp; exact (readsZ_self hp).symm
      | succ i => rw [shift]; exact i3 i A (by simpa using hA)
     ·cases h
    ·cases h
   ·cases h
theorem runZ_ok : ∀ {l : List Oper} {s s' : S} {As : List A1} {ps : List Prop}, runZ P wr ops cs d0 r Rel ln l s = some (As, ps, s') → All ps →
  ∀ (i : Nat) (o : Oper) (A : A1), l[i]? = some o → As[i]? = some A → (o.dst ≠ some d0 → A.Sound P x s.n ops.toArray o) ∧ (o.dst = some d0 → CallZ P x s.n ops.toArray o A Rel ∧ A.ew = some (d0, r))
 | [], s, s', As, ps, h, _ => by cases h; simp
 | o :: l, s, s', As, ps, h, hp => by
   simp only [runZ] at h
   split at h
   ·rename_i hd
    split at h
    ·rename_i out hout
     split at h
     ·rename_i As' ps' s'' hrec
      cases h
      obtain ⟨p1, p2⟩ := All.append hp
      have i4 := runZ_ok hrec p2
      intro i o' A ho' hA
      cases i with
      | zero =>
        simp at ho' hA; subst ho'; subst hA
        constructor
        ·intro hne s1 a w hnn hs1 hf K Q hk
         have hloc := stepZ_local (P := P) (wr := wr) (cs := cs) (ops := ops) (o := o) (s := s) (s1 := s1) (d0 := d0) (r := r) (Rel := Rel) (ln := ln) hf
         rw [hout] at hloc
         unfold stepZ at hloc
         rw [if_neg hne] at hloc
         refine stepO_sound hloc p1 (by rw [hnn]; exact hd) hs1 fun a w h => hk a w ?_
         rw [app_a1Z hnn, ← hnn]; exact h
        ·intro he
         refine ⟨?_, ?_⟩
         ·intro s1 a w hnn hs1 hf K Q hk
          have hloc := stepZ_local (P := P) (wr := wr) (cs := cs) (ops := ops) (o := o) (s := s) (s1 := s1) (d0 := d0) (r := r) (Rel := Rel) (ln := ln) hf
          rw [hout] at hloc
          exact stepZ_call he hloc p1 (by rw [hnn]; exact hd) hs1 fun r' hr' a w h => hk r' hr' a w h
         ·have hv : out.v = r := by
           unfold stepZ at hout
           rw [if_pos he] at hout
           split at hout
           ·split at hout
            ·unfold callZ at hout
             cases hout; rfl
            ·cases hout
           ·cases hout
          simp [a1Z, he, hv]
      | succ i => exact i4 i o' A (by simpa using ho') (by simpa using hA)
     ·cases h
    ·cases h
   ·cases h
end
theorem T_drawz {P : Program} {x : X} {ι : Type} {wr : Bool} {id : Nat} {l : List Oper} {s : S} {Q : Exit → S → Prop} (cs : List (Nat × AV)) (ln : List (Nat × AO)) (ks : List Nat) (j d0 : Nat) (ans : ι → AV) (Rel : ι → Prop) (i0 : ι) (h0 : Rel i0) {As : ι → List A1} {ps : ι → List Prop} {s' : ι → S}
  (hm : P.follows .mixedOrders = true) (h : ∀ c, runZ P wr l cs d0 (ans c) (fun v => ∃ c, Rel c ∧ v = ans c) ln l s = some (As c, ps c, s' c)) (ho : ∀ c, Rel c → All (ps c)) (hc : ∀ c, drawOK l (As c) = true)
  (hu : dstUniq l j d0 = true) (hsw : ∀ c c', sws j (As c) = sws j (As c')) (hks : (((List.range l.length).filter fun k => decide (k ≠ j) && !((ancs l []).getD k []).contains j).all fun k => ks.contains k) = true) (hse : ∀ c c', ks.map (fun k => (As c)[k]?) = ks.map (fun k => (As c')[k]?)) (hQ : ∀ c, Rel c → Q .normal (s' c)) : T P x (.region id l.toArray true) s Q := by
 have hf := fun c => runZ_fits (h c)
 have hord := fun c => order_of (hf c).1 (hf c).2.2 (hc c)
 simp only [dstUniq, Bool.and_eq_true, decide_eq_true_eq, List.all_eq_true, List.mem_range] at hu
 obtain ⟨hj, hu⟩ := hu
 have huniq : ∀ (i : Nat) (o : Oper), l[i]? = some o → (o.dst = some d0 ↔ i = j) := by
  intro i o hi
  have hlt : i < l.length := (List.getElem?_eq_some_iff.1 hi).1
  have := hu i hlt
  rw [hi] at this
  simpa using this
 intro a w hs
 refine wp_region_any hm ?_
 refine draw_x (As := As) (Rel := Rel) (j := j) (s0 := s) (by simpa using hj) i0 hord ?_ ?_ ?_ (fun c hcr => by simpa [(hf c).2.1] using hQ c hcr) _ _ s a _ (by simp) ?_ rfl ?_ ?_ ?_ (hs.drew _ (by first | exact Nat.le_succ _ | exact Nat.le_add_right _ _ | (simp; done) | omega))
 ·intro c c' k hk hnr
  by_cases hlt : k < l.length
  ·have hnc : ((ancs l []).getD k []).contains j = false := by
    cases hcn : ((ancs l []).getD k []).contains j with
    | false => rfl
    | true =>
      exact absurd (ancs_ok l (l := l) (acc := []) (by simp) (by simp) k j (by simpa using hcn)) hnr
   have hmem : k ∈ (List.range l.length).filter fun k => decide (k ≠ j) && !((ancs l []).getD k []).contains j := by
    simp only [List.mem_filter, List.mem_range, Bool.and_eq_true, decide_eq_true_eq, Bool.not_eq_true']
    exact ⟨hlt, hk, hnc⟩
   have := List.all_eq_true.1 hks k hmem
   exact List.map_inj_left.1 (hse c c') k (by simpa using this)
  ·rw [List.getElem?_eq_none (by rw [(hf c).1]; omega), List.getElem?_eq_none (by rw [(hf c').1]; omega)]
 ·intro c hcr i o A hij _ hi hA
  have hcr' : Rel c := by rcases hcr with h | rfl; exact h; exact h0
  have hi' : l[i]? = some o := by simpa using hi
  exact (runZ_ok (x := x) (h c) (ho c hcr') i o A hi' hA).1 (fun e => hij ((huniq i o hi').1 e))
 ·intro o hi s1 a w hn hs1 hfit K Q hk
  have hi' : l[j]? = some o := by simpa using hi
  have hdo := (huniq j o hi').2 rfl
  obtain ⟨A0, hA0⟩ : ∃ A, (As i0)[j]? = some A := ⟨(As i0)[j]'(by rw [(hf i0).1]; exact hj), by simp [List.getElem?_eq_getElem (by rw [(hf i0).1]; exact hj : j < (As i0).length)]⟩
  obtain ⟨hcall, -⟩ := (runZ_ok (x := x) (h i0) (ho i0 h0) j o A0 hi' hA0).2 hdo
  refine hcall s1 a w hn hs1 (hfit i0 A0 hA0) K Q ?_
  rintro r' ⟨c, hcr, rfl⟩ a w hsat
  obtain ⟨A, hA⟩ : ∃ A, (As c)[j]? = some A := ⟨(As c)[j]'(by rw [(hf c).1]; exact hj), by simp [List.getElem?_eq_getElem (by rw [(hf c).1]; exact hj : j < (As c).length)]⟩
  refine hk c A hcr hA a w ?_
  obtain ⟨-, hew⟩ := (runZ_ok (x := x) (h c) (ho c hcr) j o A hi' hA).2 hdo
  have hsw' : A.sw = A0.sw := by
   have := hsw c i0
   simp only [sws, hA, hA0, Option.map_some, Option.some.injEq] at this
   exact this
  unfold A1.app
  rw [hew, hsw']
  rw [hdo] at hsat
  exact hsat
 ·intro i o e hi hL he hb
  have hlt : i < l.length := by simpa using (Array.getElem?_eq_some_iff.1 hi).1
  rw [getD_in (by simpa using hlt) true false] at hL
  simp [Array.getD, hlt] at hL
 ·intro c r
  have hz : ∀ i, (Array.replicate l.toArray.size false).getD i false = false := by
   intro i; simp [Array.getD]
  have : cont (As c) s (fun i => (Array.replicate l.toArray.size false).getD i false) r l.toArray.size = cont (As c) s (fun i => (Array.replicate l.toArray.size false).getD i false) r 0 :=
   cont_stop (Nat.zero_le _) (fun i _ _ _ => hz i)
  rw [this]; rfl
 ·exact filter_len
 ·simp [Array.getD]
theorem AC_lendD {P : Program} {f : FuncId} {id sz : Nat} {ys : List (List D)} {a0 : AV} {pre post : List D} {R : AV → Prop} (h0 : clAV (fun _ => false) a0) (hR : ∀ r, R r → clAV (fun _ => false) r)
  (h : AC P f [a0, .agg (pre.map C.d ++ .d (.ps sz ys) :: post.map C.d)] [] (fun r st => R r ∧ st = [])) :
  AC P f [a0, .agg (pre.map C.d ++ .ms id sz 0 ys.length :: post.map C.d)] [(id, .arr sz (ys.map fun l => l.map C.d))] (fun r st => R r ∧ st = [(id, .dead)]) := by
 refine ⟨h.1, ?_⟩
 intro bl cap F w us hs hargs
 have hid : get [(id, AO.arr sz (ys.map fun l => l.map C.d))] id = some (.arr sz (ys.map fun l => l.map C.d)) := by simp [get]
 have hputd : put [(id, AO.arr sz (ys.map fun l => l.map C.d))] id .dead = [(id, AO.dead)] := by simp [put]
 cases hargs with
 | @cons _ u0 _ _ hv0 ht =>
 cases ht with
 | @cons _ u1 _ _ hv ht =>
 cases ht
 have hMd : ∀ (bl : Nat → List Nat) b, ¬ MM bl [(id, AO.dead)] b := by
  rintro bl b ⟨i, o, ho, hl, _⟩
  simp only [get] at ho
  split at ho
  ·cases ho; cases hl
  ·cases ho
 have hM0 : ∀ (bl : Nat → List Nat) b, ¬ MM bl [] b := by
  rintro bl b ⟨i, o, ho, _⟩
  simp [get] at ho
 have hs0 : SatS (X.start bl cap F [] w) bl cap [] w := {
  objs := fun i o ho => by simp [get] at ho
  disj := fun i i' o o' b ho => by simp [get] at ho
  nodup := fun i o ho => by simp [get] at ho
  new := fun b hb => absurd hb (hM0 _ b)
  lt := fun b hb => absurd hb (hM0 _ b)
  fr := ⟨Nat.le_refl _, fun _ _ _ => rfl, rfl, rfl, rfl, fun _ => Nat.le_refl _⟩
  keep := fun i hi => by simp [X.start, get] at hi
  xok := ⟨fun b hb => hs.xok.lt b hb, fun b hb => hM0 _ b⟩ }
 have hst : ∀ c u, RepD (mkK (X.start bl cap F [(id, AO.arr sz (ys.map fun l => l.map C.d))] w) bl cap [(id, AO.arr sz (ys.map fun l => l.map C.d))] w).M w c u → RepD (mkK (X.start bl cap F [] w) bl cap [] w).M w c u := fun c u hr =>
  RepD.stable hr (fun _ _ _ => rfl) (fun b hb => by
   rcases hb with hb | hb
   ·exact absurd hb (hM0 _ b)
   ·exact .inl (.inr hb))
 have hrep0 : RepAV (mkK (X.start bl cap F [] w) bl cap [] w) a0 u0 :=
  repAV_ren (k := mkK (X.start bl cap F [(id, AO.arr sz (ys.map fun l => l.map C.d))] w) bl cap [(id, AO.arr sz (ys.map fun l => l.map C.d))] w) (ρ := fun i => i) (dom := fun _ => false)
   (fun c u hcl hc => repC_ren (k := mkK (X.start bl cap F [(id, AO.arr sz (ys.map fun l => l.map C.d))] w) bl cap [(id, AO.arr sz (ys.map fun l => l.map C.d))] w) (k' := mkK (X.start bl cap F [] w) bl cap [] w) (ρ := fun i => i) (dom := fun _ => false) (by simp) (by simp) (by simp) rfl
    (fun b hb => by
     rcases hb with hb | hb
     ·exact absurd hb (hM0 _ b)
     ·exact .inr hb) hcl hc) h0 (by rw [renAV_id]; exact hv0)
 have hrep1 : RepAV (mkK (X.start bl cap F [] w) bl cap [] w) (.agg (pre.map C.d ++ .d (.ps sz ys) :: post.map C.d)) u1 := by
  obtain ⟨vs, e, h2⟩ := hv
  refine ⟨vs, e, ?_⟩
  clear e h
  induction pre generalizing vs with
  | nil =>
    cases h2 with
    | cons h3 h4 =>
      refine .cons ?_ ?_
      ·have := frzArr_rep hs hid h3
       rw [hputd] at this
       exact RepD.stable this (fun _ _ _ => rfl) (fun b hb => by
        rcases hb with hb | hb
        ·exact absurd hb (hM0 _ b)
        ·exact .inl (.inr hb))
      ·rw [All2.map_left] at h4 ⊢
       exact h4.mono fun c u hr => hst c u hr
  | cons p pre ih =>
    cases h2 with
    | cons h3 h4 => exact .cons (hst _ _ h3) (ih _ h4)
 refine (h.2 bl cap F w _ hs0 (.cons hrep0 (.cons hrep1 .nil))).mono ?_
 rintro e w' ⟨r, st', bl', cap', v, he, ⟨hr, rfl⟩, _, hs', hv'⟩
 have hheap : ∀ b, b < w.heap.size → w'.heap[b]? = w.heap[b]? := fun b hb => hs'.fr.heap b hb (hM0 _ b)
 refine ⟨r, [(id, .dead)], bl, cap, v, he, ⟨hr, rfl⟩, by simp, ?_, ?_⟩
 ·exact {
   objs := fun i o ho => by
    simp only [get] at ho
    split at ho
    ·cases ho; trivial
    ·cases ho
   disj := fun i i' o o' b ho ho' hl hl' => by
    simp only [get] at ho
    split at ho
    ·cases ho; cases hl
    ·cases ho
   nodup := fun i o ho hl => by
    simp only [get] at ho
    split at ho
    ·cases ho; cases hl
    ·cases ho
   new := fun b hb => absurd hb (hMd _ b)
   lt := fun b hb => absurd hb (hMd _ b)
   fr := ⟨hs'.fr.size, fun b hb _ => hheap b hb, hs'.fr.os, hs'.fr.output, hs'.fr.tape, hs'.fr.drawn⟩
   keep := fun i hi => by
    refine ⟨?_, rfl, rfl⟩
    simp only [X.start, get] at hi ⊢
    split at hi
    ·rename_i e; simp [e]
    ·cases hi
   xok := hs.xok }
 ·refine repAV_ren (k := mkK (X.start bl cap F [] w) bl' cap' [] w') (ρ := fun i => i) (dom := fun _ => false) ?_ (hR r hr) (by rw [renAV_id]; exact hv')
  intro c u hcl hc
  refine repC_ren (k := mkK (X.start bl cap F [] w) bl' cap' [] w') (k' := mkK (X.start bl cap F [(id, AO.arr sz (ys.map fun l => l.map C.d))] w) bl cap [(id, AO.dead)] w') (ρ := fun i => i) (dom := fun _ => false) (by simp) (by simp) (by simp) rfl ?_ hcl hc
  intro b hb
  rcases hb with hb | hb
  ·exact absurd hb (hMd _ b)
  ·exact .inr hb
end Go.Ab
namespace Go.Proofs.YtmhboloicpieeaaGreatDoor
open Go.Ab Tys
variable [Dr]
structure SV where
 og : Bool
 car : List Fil
 con : List Fil
 cre : List Fil
@[reducible] def vSV (x : SV) : Bool × List D := (true, [.v (.bool x.og), .pm (sEnt kF x.car), .pm (sEnt kF x.con), .pm (sEnt kF x.cre)])
theorem look_SV (A : List (Fil × SV)) (p : ByteArray) (n : Int) : (findE [C.d (.v (.string p)), C.d (.v (.int .i64 n))] ((mEnt kF vSV A).map upE)).getD (true, [C.d (.v (.bool false)), C.d (.v (.map none)), C.d (.v (.map none)), C.d (.v (.map none))]) =
  (true, [C.d (.v (.bool (((alook A ⟨p, n⟩).map SV.og).getD false))), C.d (dSet kF ((alook A ⟨p, n⟩).map SV.car)), C.d (dSet kF ((alook A ⟨p, n⟩).map SV.con)), C.d (dSet kF ((alook A ⟨p, n⟩).map SV.cre))]) := by
 have := findE_ent (ve := vSV) kF_eq A ⟨p, n⟩
 rw [show ((kF ⟨p, n⟩).2.map C.d) = [C.d (.v (.string p)), C.d (.v (.int .i64 n))] from rfl] at this
 rw [this]
 cases alook A ⟨p, n⟩ <;> rfl
theorem ty_SV (A : List (Fil × SV)) : ∀ e ∈ (mEnt kF vSV A).map upE, e.1.1 = true ∧ tyCs [.str, .int .i64] e.1.2 := by
 intro e he
 simp only [mEnt, List.mem_map] at he
 obtain ⟨_, ⟨f, _, rfl⟩, rfl⟩ := he
 exact ⟨rfl, by simp [upE, upD, tyCs]⟩
theorem ins_SV (A : List (Fil × SV)) (p : ByteArray) (n : Int) (og : Bool) (c m r : List Fil) : insE (true, [C.d (.v (.string p)), C.d (.v (.int .i64 n))]) (true, [C.d (.v (.bool og)), C.d (.pm (sEnt kF c)), C.d (.pm (sEnt kF m)), C.d (.pm (sEnt kF r))]) ((mEnt kF vSV A).map upE) = (mEnt kF vSV (aput A ⟨p, n⟩ ⟨og, c, m, r⟩)).map upE :=
 insE_ent (ve := vSV) kF_eq A ⟨p, n⟩ ⟨og, c, m, r⟩
structure SvOK (A : List (Fil × SV)) (S : Fil → SS) : Prop where
 car : ∀ f g, (S f).car g ↔ g ∈ ((alook A f).map SV.car).getD []
 con : ∀ f g, (S f).con g ↔ g ∈ ((alook A f).map SV.con).getD []
 cre : ∀ f g, (S f).cre g ↔ g ∈ ((alook A f).map SV.cre).getD []
def DomA (d : Dep) (k : Nat) (A : List (Fil × SV)) : Prop := ∀ (j : Nat) (w : Rev), j < k → d.revs[j]? = some w → ¬ w.act = 5 → ∃ x, alook A (fileOf w) = some x
theorem DomA.away {d : Dep} {k : Nat} {A : List (Fil × SV)} (h : DomA d k A) {v : Rev} (hv : d.revs[k]? = some v) (h5 : v.act = 5) : DomA d (k + 1) A := by
 intro j w hj hw w5
 by_cases e : j = k
 ·subst e; rw [hv] at hw; cases hw; exact absurd h5 w5
 ·exact h j w (by omega) hw w5
theorem DomA.memb {d : Dep} {k : Nat} {A : List (Fil × SV)} (h : DomA d k A) {v : Rev} (hv : d.revs[k]? = some v) (x : SV) : DomA d (k + 1) (aput A (fileOf v) x) := by
 intro j w hj hw w5
 rw [alook_aput]
 by_cases e : fileOf w = fileOf v
 ·exact ⟨x, if_pos e⟩
 ·rw [if_neg e]
  have : j ≠ k := by rintro rfl; rw [hv] at hw; cases hw; exact e rfl
  exact h j w (by omega) hw w5
def RcGood (rs : List Rcd) : Prop := ∀ r ∈ rs, 1 ≤ r.first ∧ r.first ≤ r.last ∧ r.last ≤ 512 ∧ 1 ≤ r.how ∧ r.how ≤ 4
theorem specA_dom (d : Dep) : ∀ (k : Nat) (f g : Fil), (specA d k f).car g ∨ (specA d k f).con g ∨ (specA d k f).cre g → ∃ (j : Nat) (w : Rev), j < k ∧ d.revs[j]? = some w ∧ fileOf w = f
 | 0, f, g, h => by simp [specA, SS0] at h
 | k + 1, f, g, h => by
   simp only [specA] at h
   cases hv : d.revs[k]? with
   | none => rw [hv] at h; obtain ⟨j, w, h1, h2⟩ := specA_dom d k f g h; exact ⟨j, w, by omega, h2⟩
   | some v =>
     rw [hv] at h
     simp only at h
     by_cases h5 : v.act = 5
     ·rw [if_pos h5] at h; obtain ⟨j, w, h1, h2⟩ := specA_dom d k f g h; exact ⟨j, w, by omega, h2⟩
     ·rw [if_neg h5] at h
      by_cases e : f = fileOf v
      ·exact ⟨k, v, by omega, hv, e.symm⟩
      ·simp only [if_neg e] at h
       obtain ⟨j, w, h1, h2⟩ := specA_dom d k f g h; exact ⟨j, w, by omega, h2⟩
theorem prev_some {d : Dep} (hg : Good d.revs) (hN : d.revs.length ≤ 512) {k : Nat} {v u : Rev} (hv : d.revs[k]? = some v) (h : prev? d v = some u) : fileOf u = befF v := by
 by_cases h1 : v.act = 1
 ·rw [prev?_one h1] at h; cases h
 ·rw [prev?_bef hg hN hv h1] at h
  obtain ⟨j, _, h2⟩ := (get?_iff hg).1 h
  exact h2
theorem prev_none {d : Dep} (hg : Good d.revs) (hN : d.revs.length ≤ 512) {k : Nat} {v : Rev} (hv : d.revs[k]? = some v) (h : prev? d v = none) (g : Fil) : ¬ ((specA d k (befF v)).car g ∨ (specA d k (befF v)).con g ∨ (specA d k (befF v)).cre g) := by
 intro hc
 obtain ⟨j, w, h1, h2, h3⟩ := specA_dom d k _ g hc
 by_cases h1' : v.act = 1
 ·exact zFil_no hg h2 (by rw [h3]; simp [befF, h1'])
 ·rw [prev?_bef hg hN hv h1'] at h
  have := (get?_iff hg (p := (befF v).path) (n := (befF v).num)).2 ⟨j, h2, h3⟩
  rw [h] at this; cases this
structure RecInv (S : Fil → SS) (b : Fil) (rs : List Rcd) (og : Bool) (n : Int) (c r : List Fil) : Prop where
 car : ∀ g, g ∈ c ↔ (S b).car g ∨ ∃ r ∈ rs, (r.how = 1 ∧ (S ⟨r.frm, r.last⟩).car g) ∨ (¬ r.how = 1 ∧ ¬ r.how = 3 ∧ ∃ n, r.first ≤ n ∧ n ≤ r.last ∧ (S ⟨r.frm, n⟩).con g)
 cre : ∀ g, g ∈ r ↔ (S b).cre g ∨ ∃ r ∈ rs, r.how = 3 ∧ ∃ n, r.first ≤ n ∧ n ≤ r.last ∧ (S ⟨r.frm, n⟩).con g
 og : og = true ↔ rs = [] ∨ ∃ r ∈ rs, r.how = 4
 n0 : 0 ≤ n
 nz : n = 0 ↔ rs = []
 nb : n ≤ 2 + rs.length
@[reducible] def bef9 (o : Option SV) : AO := .box [.d (.v (.bool ((o.map SV.og).getD false))), .d (dSet kF (o.map SV.car)), .d (dSet kF (o.map SV.con)), .d (dSet kF (o.map SV.cre))]
theorem RecInv.step {S : Fil → SS} {b : Fil} {rs : List Rcd} {og : Bool} {n : Int} {c r1 c1 c2 r2 : List Fil} (h : RecInv S b rs og n c r1) (q : Rcd) (h4 : 1 ≤ q.how ∧ q.how ≤ 4)
  (hc1 : ∀ g, g ∈ c1 ↔ g ∈ c ∨ (q.how = 1 ∧ (S ⟨q.frm, q.last⟩).car g)) (hc2 : ∀ g, g ∈ c2 ↔ g ∈ c1 ∨ ((q.how = 2 ∨ q.how = 4) ∧ ∃ m, q.first ≤ m ∧ m < q.last + 1 ∧ (S ⟨q.frm, m⟩).con g))
  (hr2 : ∀ g, g ∈ r2 ↔ g ∈ r1 ∨ (q.how = 3 ∧ ∃ m, q.first ≤ m ∧ m < q.last + 1 ∧ (S ⟨q.frm, m⟩).con g)) :
  RecInv S b (rs ++ [q]) (bif decide (q.how = 4) then true else (bif decide (n + 1 = 1) then false else og)) (bif decide (q.how = 4) then 2 else n + 1) c2 r2 := by
 have ex : ∀ g, (∃ m, q.first ≤ m ∧ m < q.last + 1 ∧ (S ⟨q.frm, m⟩).con g) ↔ ∃ m, q.first ≤ m ∧ m ≤ q.last ∧ (S ⟨q.frm, m⟩).con g := fun g =>
  ⟨fun ⟨m, a1, a2, a3⟩ => ⟨m, a1, by omega, a3⟩, fun ⟨m, a1, a2, a3⟩ => ⟨m, a1, by omega, a3⟩⟩
 have hn0 := h.n0
 have hnz := h.nz
 have hnb := h.nb
 refine ⟨fun g => ?_, fun g => ?_, ?_, ?_, ?_, ?_⟩
 ·have : (q.how = 2 ∨ q.how = 4) ↔ (¬ q.how = 1 ∧ ¬ q.how = 3) := by omega
  rw [hc2 g, hc1 g, h.car g, ex g, this]
  simp only [List.mem_append, List.mem_singleton, or_and_right, exists_or, exists_eq_left, or_assoc, and_assoc]
 ·rw [hr2 g, h.cre g, ex g]
  simp only [List.mem_append, List.mem_singleton, or_and_right, exists_or, exists_eq_left, or_assoc]
 ·by_cases q4 : q.how = 4
  ·simp [q4]
  ·rw [decide_eq_false q4]
   simp only [cond_false, List.append_eq_nil_iff, List.cons_ne_nil, and_false, false_or, List.mem_append, List.mem_singleton, or_and_right, exists_or, exists_eq_left, q4, or_false]
   by_cases e : n = 0
   ·have hr := hnz.1 e
    subst hr
    rw [e]; simp
   ·rw [decide_eq_false (by omega : ¬ n + 1 = 1)]
    simp only [cond_false, h.og]
    have : ¬ rs = [] := fun hr => e (hnz.2 hr)
    simp [this]
 ·by_cases q4 : q.how = 4
  ·simp [q4]
  ·rw [decide_eq_false q4]; simp only [cond_false]; omega
 ·by_cases q4 : q.how = 4
  ·simp [q4]
  ·rw [decide_eq_false q4]; simp only [cond_false, List.append_eq_nil_iff, List.cons_ne_nil, and_false, iff_false]; omega
 ·by_cases q4 : q.how = 4
  ·simp [q4]; omega
  ·rw [decide_eq_false q4]; simp only [cond_false, List.length_append, List.length_singleton]; omega
theorem step_in {P : Prop} {p : Prop} {Q : Int → Prop} {a m : Int} (ham : a ≤ m) : ((p ∨ (P ∧ ∃ i, a ≤ i ∧ i < m ∧ Q i)) ∨ (P ∧ Q m)) ↔ (p ∨ (P ∧ ∃ i, a ≤ i ∧ i < m + 1 ∧ Q i)) := by
 constructor
 ·rintro ((h | ⟨h, i, h1, h2, h3⟩) | ⟨h, h3⟩)
  ·exact .inl h
  ·exact .inr ⟨h, i, h1, by omega, h3⟩
  ·exact .inr ⟨h, m, ham, by omega, h3⟩
 ·rintro (h | ⟨h, i, h1, h2, h3⟩)
  ·exact .inl (.inl h)
  ·by_cases e : i = m
   ·subst e; exact .inr ⟨h, h3⟩
   ·exact .inl (.inr ⟨h, i, h1, by omega, h3⟩)
@[reducible] def envR (d : Dep) (k j : Nat) (n : Int) : List (Nat × AV) := [(1, .c (.ptr 1 0)), (3, .c (.mp 17)), (5, .c (.ptr 5 0)), (6, .c (.ptr 6 0)), (7, .c (.ptr 7 0)), (8, I .i64 n), (9, .c (.ptr 9 0)), (13, .c (.ptr 13 0)), (19, aRevs d.revs), (20, I .i64 d.revs.length), (21, I .i64 k), (62, .c (.d (.ps 6 (d.recs.map encRcd)))), (63, I .i64 d.recs.length), (64, I .i64 j)]
@[reducible] def stR (d : Dep) (A : List (Fil × SV)) (v : Rev) (o : Option SV) (rr : Rcd) (og : Bool) (c r : List Fil) : List (Nat × AO) :=
 [(1, .box ((encDep d).map C.d)), (17, .map ((mEnt kF vSV A).map upE)), (5, .box ((encRev v).map C.d)), (6, .box ((encFil (fileOf v)).map C.d)), (33, uMap kF c), (34, uMap kF []), (35, uMap kF r), (7, .box [.d (.v (.bool og)), .mp 33, .mp 34, .mp 35]), (9, bef9 o), (13, .box ((encRcd rr).map C.d))]
theorem SvOK.step {A : List (Fil × SV)} {d : Dep} {k : Nat} (h : SvOK A (specA d k)) {v : Rev} (hv : d.revs[k]? = some v) (h5 : ¬ v.act = 5) (x : SV) (hc : ∀ g, g ∈ x.car ↔ carS (intoR d (fileOf v)) (specA d k) (befF v) (fileOf v) g)
  (hn : ∀ g, g ∈ x.con ↔ g ∈ x.car ∧ ¬ (specA d k (befF v)).car g) (hr : ∀ g, g ∈ x.cre ↔ ((specA d k (befF v)).cre g ∨ ∃ r ∈ intoR d (fileOf v), r.how = 3 ∧ ∃ n, r.first ≤ n ∧ n ≤ r.last ∧ (specA d k ⟨r.frm, n⟩).con g) ∨ g ∈ x.car) :
  SvOK (aput A (fileOf v) x) (specA d (k + 1)) := by
 have hs : specA d (k + 1) = fun f => if f = fileOf v then stepS (intoR d (fileOf v)) (specA d k) v else specA d k f := by simp only [specA, hv, h5, if_false]
 rw [hs]
 refine ⟨fun f g => ?_, fun f g => ?_, fun f g => ?_⟩ <;> rw [alook_aput] <;> by_cases e : f = fileOf v
 ·simp only [if_pos e, stepS]; exact (hc g).symm
 ·simp only [if_neg e]; exact h.car f g
 ·simp only [if_pos e, stepS]; rw [← hc g]; exact (hn g).symm
 ·simp only [if_neg e]; exact h.con f g
 ·simp only [if_pos e, stepS]; rw [← hc g, ← or_assoc]; exact (hr g).symm
 ·simp only [if_neg e]; exact h.cre f g
theorem resA_bad {d : Dep} {t : Tsk} {ch : Int} {w : Rsn} (hf : fitsB d t = true) (h : (allowB t.kind ch && permB t ch w) = false) : resA d t ch w = .tup [nilP, nilP, pI 171] := by
 simp [resA, hf, h]
theorem resA_ok {d : Dep} {t : Tsk} {ch : Int} {w : Rsn} (hf : fitsB d t = true) (h1 : allowB t.kind ch = true) (h2 : permB t ch w = true) : resA d t ch w = .tup [(false, [.d (.ps 12 ((resEs d t ch w).map encEdt))]), (false, [.d (.ps 6 [encRcd (resRc d t ch w)])]), pI 0] := by
 simp [resA, hf, h1, h2]
theorem Built.rc {l : List Chg} {d : Dep} (h : Built l d) : RcGood d.recs := by
 induction h with
 | nil => intro r hr; simp [zDep] at hr
 | skip c h ih => exact ih
 | @app l d c h hc hk ih =>
   refine sortR_mem fun r hr => ?_
   rcases List.mem_append.1 hr with hr | hr
   ·exact ih r hr
   ·obtain ⟨i, hi, e⟩ := List.mem_iff_getElem.1 hr
    have h0 := hk.recd i hi
    rw [show c.recs.getD i zRcd = r by simp [List.getD, hi, e]] at h0
    have h1 := h0.okHi
    have h2 : (log d r.frm).length ≤ d.revs.length := List.length_filter_le ..
    have h3 := h.ok.1
    exact ⟨h0.okLo, h0.okLe, by omega, h0.okHow.1, h0.okHow.2⟩
end Go.Proofs.YtmhboloicpieeaaGreatDoor
