/- A part of the proof. -/
import Derived.Test.YtmhboloicpieeaaGreatDoorRU11
import Derived.Test.YtmhboloicpieeaaGreatDoorRAbJn
import Derived.Test.YtmhboloicpieeaaGreatDoorRPD
import Derived.Test.YtmhboloicpieeaaGreatDoorRG3
import Derived.Test.YtmhboloicpieeaaGreatDoorRT2
import Derived.Test.YtmhboloicpieeaaGreatDoorRU2
set_option linter.all false
namespace Go.Proofs.YtmhboloicpieeaaGreatDoor
open Go.Ab
structure TskB (d : Dep) (x : Tsk) : Prop where
  lo : 1 ≤ x.first
  le : x.first ≤ x.last
  run : RunOK d x
  head : lastNum d x.to = x.head
  kind : (x.kind = 1 ∧ live d x.to = false ∧ ¬ (srcR d x).act = 3 ∧ x.move = noS) ∨
    (x.kind = (if (srcR d x).act = 3 then 3 else 2) ∧ live d x.to = true ∧ ¬ idn d x.to x.head = some x.line ∧ (x.move = noS ∨ (path? x.move).isSome = true ∧ live d x.move = false ∧ ¬ x.move = x.to))
  to : (path? x.to).isSome = true
theorem TskB.fits {d : Dep} {x : Tsk} (h : TskB d x) (ht : x.to.size ≤ 200) (hm : x.move.size ≤ 200) : Fits d x := by
  have hu : usableB x.to = true := by simp [usableB, h.to, ht]
  rcases h.kind with ⟨k, l, s, m⟩ | ⟨k, l, i, m⟩
  · refine ⟨by omega, h.lo, h.le, h.run, hu, h.head, ?_⟩
    simp [kindB, k, l, delB, s, m]
  · have hk : x.kind = 2 ∨ x.kind = 3 := by rw [k]; split <;> simp
    have hd : (delB d x == decide (x.kind = 3)) = true := by
      rw [k]
      unfold delB
      by_cases e : (srcR d x).act = 3 <;> simp [e]
    refine ⟨by omega, h.lo, h.le, h.run, hu, h.head, ?_⟩
    have k1 : ¬ x.kind = 1 := by omega
    simp only [kindB, if_neg k1, l, Bool.true_and, i, decide_false, Bool.not_false, hd]
    rcases m with m | ⟨m1, m2, m3⟩
    · simp [movB, m]
    · simp [movB, usableB, m1, hm, m2, m3]
def DelOK (d : Dep) : Prop := ∀ v ∈ d.revs, v.act = 3 → v.sum = 0 ∧ v.size = 0
theorem delOK_app {d : Dep} {c : Chg} (h : DelOK d) (hk : ChkOK d c) : DelOK (appD d c) := by
  intro v hv ha
  simp only [appD, List.mem_append] at hv
  rcases hv with hv | hv
  · exact h v hv ha
  · obtain ⟨e, he, rfl⟩ := List.mem_map.1 hv
    obtain ⟨i, hi, e2⟩ := List.mem_iff_getElem.1 he
    have hE := hk.edit i hi
    rw [show c.edits.getD i zEdt = e by simp [List.getD, hi, e2]] at hE
    exact hE.okGone (.inl ha)
theorem Built.delOK {l : List Chg} {d : Dep} (h : Built l d) : DelOK d := by
  induction h with
  | nil => intro r hr; simp [zDep] at hr
  | skip c h ih => exact ih
  | app h hc hk ih => exact delOK_app ih hk
end Go.Proofs.YtmhboloicpieeaaGreatDoor
namespace Go.Proofs.YtmhboloicpieeaaGreatDoor
open Go.Ab
structure Pat where
  parts : List ByteArray
  rest : Bool
  deriving DecidableEq
structure Rul where
  excl : Bool
  left : Pat
  right : Pat
structure Rgn where
  base : Pat
  holes : List Pat
structure Etr where
  left : Pat
  right : Pat
  holes : List Pat
@[reducible] def encPat (p : Pat) : List D := [.ps 1 (p.parts.map encS), .v (.bool p.rest)]
@[reducible] def encRul (r : Rul) : List D := [.v (.bool r.excl), .ps 1 (r.left.parts.map encS), .v (.bool r.left.rest), .ps 1 (r.right.parts.map encS), .v (.bool r.right.rest)]
@[reducible] def encRgn (g : Rgn) : List D := [.ps 1 (g.base.parts.map encS), .v (.bool g.base.rest), .ps 2 (g.holes.map encPat)]
@[reducible] def encEtr (x : Etr) : List D := [.ps 1 (x.left.parts.map encS), .v (.bool x.left.rest), .ps 1 (x.right.parts.map encS), .v (.bool x.right.rest), .ps 2 (x.holes.map encPat)]
@[reducible] def aPat (p : Pat) : AV := .agg ((encPat p).map C.d)
@[reducible] def aRul (r : Rul) : AV := .agg ((encRul r).map C.d)
@[reducible] def aRgn (g : Rgn) : AV := .agg ((encRgn g).map C.d)
@[reducible] def aEtr (x : Etr) : AV := .agg ((encEtr x).map C.d)
@[reducible] def aPats (l : List Pat) : AV := .c (.d (.ps 2 (l.map encPat)))
@[reducible] def aEtrs (l : List Etr) : AV := .c (.d (.ps 5 (l.map encEtr)))
@[reducible] def pS (s : ByteArray) : Bool × List C := (false, [.d (.v (.string s))])
@[reducible] def pPat (p : Pat) : Bool × List C := (true, (encPat p).map C.d)
@[reducible] def pRul (r : Rul) : Bool × List C := (true, (encRul r).map C.d)
@[reducible] def pRgn (g : Rgn) : Bool × List C := (true, (encRgn g).map C.d)
def zPat : Pat := ⟨[], false⟩
def zRul : Rul := ⟨false, zPat, zPat⟩
def zRgn : Rgn := ⟨zPat, []⟩
def zEtr : Etr := ⟨zPat, zPat, []⟩
def starB (x : ByteArray) : Bool := !(decide (x = noS) || !decide (byteAt x 0 = 42)) && (List.range x.size).all fun k => decide (k = 0) || okB (byteAt x k)
def suf (x : ByteArray) : ByteArray := if starB x then x.extract 1 x.size else noS
def partB (x : ByteArray) : Bool := starB x || comp x
def checkP (p : Pat) : Int :=
  if p.parts.length = 0 ∨ (p.parts.length = 1 ∧ p.rest = false) ∨ comp (p.parts.getD 0 noS) = false then 30
  else if (p.parts.drop 1).all partB then (if 12 < p.parts.length then 31 else 0) else 30
def okP (p : Pat) : Bool := decide (checkP p = 0)
def hasSuf (s t : ByteArray) : Bool := decide (t.size ≤ s.size) && decide (s.extract (s.size - t.size) s.size = t)
def capt (x c : ByteArray) : ByteArray × Bool :=
  if starB x then (if hasSuf c (suf x) then (c.extract 0 (c.size - (suf x).size), comp (c.extract 0 (c.size - (suf x).size))) else (noS, false)) else (noS, decide (x = c))
def stars (l : List ByteArray) : Nat := (l.filter starB).length
def wilds (p : Pat) : Nat := stars p.parts + (if p.rest then 1 else 0)
def capsT (ps ls : List ByteArray) : Nat → List ByteArray
  | 0 => []
  | k + 1 => capsT ps ls k ++ (if starB (ps.getD k noS) then [(capt (ps.getD k noS) (ls.getD k noS)).1] else [])
def capsOK (ps ls : List ByteArray) (k : Nat) : Bool := (List.range k).all fun i => (capt (ps.getD i noS) (ls.getD i noS)).2
def fitsP (p : Pat) (l : List ByteArray) : Bool := okP p && !(decide (l.length < p.parts.length) || (!p.rest && decide (p.parts.length < l.length)) || (p.rest && decide (l.length = p.parts.length)))
def matchP (p : Pat) (s : ByteArray) : Option (List ByteArray) :=
  match path? s with
  | none => none
  | some l => if fitsP p l && capsOK p.parts l p.parts.length then some (capsT p.parts l p.parts.length ++ (if p.rest then [joinB (l.drop p.parts.length) slash] else [])) else none
def textP (p : Pat) : ByteArray := if p.rest then (dslash ++ joinB p.parts slash) ++ { data := #[47, 46, 46, 46] } else dslash ++ joinB p.parts slash
def fillT (ps cs : List ByteArray) : Nat → List ByteArray
  | 0 => []
  | k + 1 => fillT ps cs k ++ [if starB (ps.getD k noS) then cs.getD (stars (ps.take k)) noS ++ suf (ps.getD k noS) else ps.getD k noS]
def fillOK (ps cs : List ByteArray) (k : Nat) : Bool := (List.range k).all fun i => !starB (ps.getD i noS) || comp (cs.getD (stars (ps.take i)) noS)
def fillP (p : Pat) (cs : List ByteArray) : ByteArray × Int :=
  if okP p then
    if cs.length = wilds p then
      if fillOK p.parts cs p.parts.length then
        if p.rest then
          if (split (cs.getD (stars p.parts) noS)).all comp then (dslash ++ joinB (fillT p.parts cs p.parts.length ++ split (cs.getD (stars p.parts) noS)) slash, 0) else (noS, 32)
        else (dslash ++ joinB (fillT p.parts cs p.parts.length) slash, 0)
      else (noS, 32)
    else (noS, 32)
  else (noS, checkP p)
def insideB (x y : ByteArray) : Bool := if starB y then (if starB x then hasSuf (suf x) (suf y) else (capt y x).2) else decide (x = y)
def withinB (p q : Pat) : Bool :=
  okP p && okP q && decide (q.parts.length ≤ p.parts.length) && (q.rest || (!p.rest && decide (p.parts.length ≤ q.parts.length))) && !(q.rest && decide (p.parts.length = q.parts.length) && !p.rest)
    && (List.range q.parts.length).all fun i => insideB (p.parts.getD i noS) (q.parts.getD i noS)
def meetB (p q : Pat) (i : Nat) : Bool := decide (q.parts.length ≤ i) || insideB (p.parts.getD i noS) (q.parts.getD i noS) || insideB (q.parts.getD i noS) (p.parts.getD i noS)
def meetT (p q : Pat) : Nat → List ByteArray
  | 0 => []
  | k + 1 => meetT p q k ++ [if decide (q.parts.length ≤ k) || insideB (p.parts.getD k noS) (q.parts.getD k noS) then p.parts.getD k noS else q.parts.getD k noS]
def meet1 (p q : Pat) : Option Pat :=
  if (q.parts.length < p.parts.length ∧ q.rest = false) ∨ (p.parts.length = q.parts.length ∧ p.rest ≠ q.rest) then none
  else if (List.range p.parts.length).all (meetB p q) then some ⟨meetT p q p.parts.length, p.rest⟩ else none
def meetP (p q : Pat) : Option Pat := if okP p && okP q then (if p.parts.length < q.parts.length then meet1 q p else meet1 p q) else none
def bindT (p q : Pat) : Nat → List Pat
  | 0 => []
  | k + 1 => bindT p q k ++ (if starB (p.parts.getD k noS) then [⟨[(q.parts.getD k noS).extract 0 ((q.parts.getD k noS).size - (suf (p.parts.getD k noS)).size)], false⟩] else [])
def bindP (p q : Pat) : Option (List Pat) :=
  if withinB q p then some (bindT p q p.parts.length ++ (if p.rest then [⟨q.parts.drop p.parts.length, q.rest⟩] else [])) else none
def subT (ps : List ByteArray) (l : List Pat) : Nat → List ByteArray
  | 0 => []
  | k + 1 => subT ps l k ++ [if starB (ps.getD k noS) then ((l.getD (stars (ps.take k)) zPat).parts.getD 0 noS) ++ suf (ps.getD k noS) else ps.getD k noS]
def subOK1 (b : Pat) : Bool := decide (b.parts.length = 1) && !b.rest && partB (b.parts.getD 0 noS)
def subOK (ps : List ByteArray) (l : List Pat) (k : Nat) : Bool := (List.range k).all fun i => !starB (ps.getD i noS) || subOK1 (l.getD (stars (ps.take i)) zPat)
def subE (p : Pat) : Pat × Int := if 12 < p.parts.length then (zPat, 31) else (p, 0)
def substP (p : Pat) (l : List Pat) : Pat × Int :=
  if okP p then
    if l.length = wilds p then
      if subOK p.parts l p.parts.length then
        if p.rest then
          if (!(l.getD (stars p.parts) zPat).parts.isEmpty || (l.getD (stars p.parts) zPat).rest) && (l.getD (stars p.parts) zPat).parts.all partB then
            subE ⟨subT p.parts l p.parts.length ++ (l.getD (stars p.parts) zPat).parts, (l.getD (stars p.parts) zPat).rest⟩
          else (zPat, 33)
        else subE ⟨subT p.parts l p.parts.length, false⟩
      else (zPat, 33)
    else (zPat, 33)
  else (zPat, checkP p)
def checkR (r : Rul) : Int := if okP r.left then (if okP r.right then (if stars r.left.parts = stars r.right.parts ∧ r.left.rest = r.right.rest then 0 else 42) else 41) else 40
def okR (r : Rul) : Bool := decide (checkR r = 0)
def fwd (r : Rul) (s : ByteArray) : ByteArray × Bool :=
  if okR r then (match matchP r.left s with | none => (noS, false) | some l => ((fillP r.right l).1, decide ((fillP r.right l).2 = 0))) else (noS, false)
def narL (r : Rul) (p : Pat) : Rul × Bool × Int :=
  if okR r then
    if okP p then
      match meetP r.left p with
      | none => (zRul, false, 0)
      | some m => if (substP r.right ((bindP r.left m).getD [])).2 = 0 then (⟨false, m, (substP r.right ((bindP r.left m).getD [])).1⟩, true, 0) else (zRul, false, 43)
    else (zRul, false, checkP p)
  else (zRul, false, checkR r)
def checkG (g : Rgn) : Int := if okP g.base then (if g.holes.all okP then (if 64 < g.holes.length then 52 else 0) else 51) else 50
def hasG (g : Rgn) (s : ByteArray) : Bool := (matchP g.base s).isSome && !g.holes.any fun h => (matchP h s).isSome
def sinkP : Nat → List Pat → List Pat
  | 0, l => l
  | k + 1, l => if cb (textP (l.getD (k + 1) zPat)) (textP (l.getD k zPat)) < 0 then sinkP k ((l.set (k + 1) (l.getD k zPat)).set k (l.getD (k + 1) zPat)) else l
def sortP (l : List Pat) : Nat → List Pat
  | 0 => l
  | k + 1 => sinkP k (sortP l k)
def dropB (l : List Pat) (i j : Nat) : Bool := !decide (i = j) && withinB (l.getD i zPat) (l.getD j zPat) && (decide (j < i) || !decide (l.getD i zPat = l.getD j zPat))
def keepP (l : List Pat) : Nat → List Pat
  | 0 => []
  | k + 1 => keepP l k ++ (if (List.range l.length).any (dropB l k) then [] else [l.getD k zPat])
def metP (b : Pat) (hs : List Pat) : List Pat := hs.filterMap (meetP b)
def simpG (b : Pat) (hs : List Pat) : Rgn := ⟨b, keepP (sortP (metP b hs) (metP b hs).length) (metP b hs).length⟩
@[reducible] def starS : ByteArray := { data := #[42] }
def partN (p : Pat) (i : Nat) : ByteArray := if i < p.parts.length then p.parts.getD i noS else starS
def countsB (p : Pat) (n : Nat) : Bool := if p.rest then decide (p.parts.length < n) else decide (n = p.parts.length)
def coversB (b h : Pat) (n : Nat) : Bool := countsB h n && (List.range (min n h.parts.length)).all fun i => insideB (partN b i) (h.parts.getD i noS)
def fullB (g : Rgn) (n : Nat) : Bool := g.holes.any fun h => coversB g.base h n
def maxH : List Pat → Nat → Nat
  | [], m => m
  | h :: l, m => maxH l (max m h.parts.length)
def lenN (g : Rgn) : Nat :=
  if g.base.rest then (match (List.range (maxH g.holes g.base.parts.length + 1 - g.base.parts.length)).find? (fun j => !fullB g (g.base.parts.length + 1 + j)) with | some j => g.base.parts.length + 1 + j | none => 0)
  else if fullB g g.base.parts.length then 0 else g.base.parts.length
def Etr.line (x : Etr) : Rul := ⟨false, x.left, x.right⟩
def Etr.lrg (x : Etr) : Rgn := ⟨x.left, x.holes⟩
def holesR (x : Etr) : List Pat → Option (List Pat)
  | [] => some []
  | h :: l => if (narL x.line h).2.2 = 0 then (holesR x l).map (fun t => if (narL x.line h).2.1 then (narL x.line h).1.right :: t else t) else none
def rightE (x : Etr) : Option Rgn := (holesR x x.holes).map (simpG x.right)
def commonB (a b : Rgn) : Bool := match meetP a.base b.base with | none => false | some m => decide (0 < lenN ⟨m, a.holes ++ b.holes⟩)
def byE (m : List Etr) (s : ByteArray) : ByteArray × Bool := match m.find? (fun x => hasG x.lrg s) with | none => (noS, false) | some x => fwd x.line s
end Go.Proofs.YtmhboloicpieeaaGreatDoor
namespace Go.Proofs.YtmhboloicpieeaaGreatDoor
open Go.Ab
theorem getD_sm {α : Type} {l : List α} {k : Nat} {v z : α} (h : l[k]? = some v) : l.getD k z = v := by simp [List.getD_eq_getElem?_getD, h]
end Go.Proofs.YtmhboloicpieeaaGreatDoor
namespace Go.Proofs.YtmhboloicpieeaaGreatDoor
open Go.Ab Tys
variable [Dr]
def k122 := And.intro @Tryz.ntmps122 <| And.intro @Tryz.underlying50 <| And.intro @bld56 <| And.intro @bld62 <| And.intro @elt50 <| And.intro @fld56_0 <| And.intro @fld56_1 <| And.intro @fld56_5 <| And.intro @fld62_3 <| And.intro @ti3 <| And.intro @ti50 <| And.intro @ti56 <| And.intro @ti62 <| @ti9
theorem v122H2 {G G' : Prop} (g : G') (h : Hid G' → G := by intro h9; (first | refine nvB ?_ | refine goA (wr := false) (by simp only [kB, kG, k122, Nat.reduceAdd, Nat.reduceLT, Nat.reduceEqDiff, ↓reduceIte, reduceCtorEq]; first | done | rfl) ?_); (repeat (first | refine nvB ?_ | refine goA (wr := false) (by simp only [kB, kG, k122, Nat.reduceAdd, Nat.reduceLT, Nat.reduceEqDiff, ↓reduceIte, reduceCtorEq]; first | done | rfl) ?_)); exact h9.out) : G := h ⟨g⟩
set_option maxRecDepth 100000 in
set_option maxHeartbeats 4000000 in
theorem moved_ac (c : Chg) (z : Edt) (hc : c.edits.length ≤ 1000000) : AC Tryz.prog 122 [aChg c, aEdt z] [] (fun r st => r = B (movedB c z) ∧ st = []) := by
  refine AC_enter Tryz.func122 rfl rfl (by simp only [Tryz.ntmps122, List.length]; omega) ?_
  intro x hx
  simp only [List.range, List.range.loop, List.length, List.zip, List.zipWith, Nat.reduceAdd, Tryz.ntmps122]
  try refine v122H2 ?_
  refine T_loop (ι := Nat) (I := fun k => ⟨62, [(3, .c (.ptr 3 0)), (5, I .i64 ((c.edits.take k).filter (mate z)).length), (9, .c (.d (.ps 12 (c.edits.map encEdt)))), (10, I .i64 c.edits.length), (11, I .i64 k)], [(3, .box ((encEdt z).map C.d))]⟩)
    (Inv := fun k => k ≤ c.edits.length) (μ := fun k => c.edits.length - k) 0 (by omega) ?_ ?_
  · exact enA
  · intro k hk
    have hF := filter_take_le (mate z) c.edits k
    try refine v122H2 ?_
    refine ifA ?_ ?_
    · intro hlt
      have hlt' : k < c.edits.length := by simpa using hlt
      obtain ⟨y, hy, he, htk⟩ := round encEdt c.edits k zEdt hlt'
      (repeat (first | refine nvB ?_ | refine goA (wr := false) (by simp only [kB, kG, k122, Nat.reduceAdd, Nat.reduceLT, Nat.reduceEqDiff, ↓reduceIte, reduceCtorEq, he]; first | done | rfl) ?_))
      refine ifA ?_ ?_
      · intro h
        have h' : mate z y = true := by
          rw [← h]; simp only [mate]; cases decide (z.act = 5) <;> cases decide (y.act = 4) <;> cases decide (y.frm = z.path) <;> cases decide (z.act = 4) <;> cases decide (y.act = 5) <;> cases decide (y.path = z.frm) <;> rfl
        try refine v122H2 ?_
        refine ⟨k + 1, by omega, by omega, ?_⟩
        (refine Ent_sub (fun i => i) rfl ?_ ⟨?_, ?_, ?_, keepI hx (by simp [domOf, Ab.get])⟩ <;> first | (simp only [kE, dArr, ↓reduceIte, Nat.reduceEqDiff, reduceCtorEq, htk, h', List.filter_append]; done) | simp [renAV_id, renAO_id, flat_up, Ab.get, clAV, clC, clCs, clAO, cl_f1, cl_s1, cl_f2, cl_s2, cl_a1, domOf, List.flatten, htk, h', List.filter_append])
      · intro h
        have h' : mate z y = false := by
          rw [← h]; simp only [mate]; cases decide (z.act = 5) <;> cases decide (y.act = 4) <;> cases decide (y.frm = z.path) <;> cases decide (z.act = 4) <;> cases decide (y.act = 5) <;> cases decide (y.path = z.frm) <;> rfl
        try refine v122H2 ?_
        refine ⟨k + 1, by omega, by omega, ?_⟩
        (refine Ent_sub (fun i => i) rfl ?_ ⟨?_, ?_, ?_, keepI hx (by simp [domOf, Ab.get])⟩ <;> first | (simp only [kE, dArr, ↓reduceIte, Nat.reduceEqDiff, reduceCtorEq, htk, h', List.filter_append]; done) | simp [renAV_id, renAO_id, flat_up, Ab.get, clAV, clC, clCs, clAO, cl_f1, cl_s1, cl_f2, cl_s2, cl_a1, domOf, List.flatten, htk, h', List.filter_append])
    · intro hge
      have hge' : k = c.edits.length := by have : ¬ k < c.edits.length := by simpa using hge
                                           omega
      try refine v122H2 ?_
      refine rtA (by simp only [kR, Tryz.results122, ↓reduceIte, Nat.reduceEqDiff, reduceCtorEq]; first | done | rfl) ([]) ?_
      refine ⟨?_, rfl⟩
      rw [hge', List.take_length]
      simp [movedB, mates, Bool.cond_true_left, Bool.cond_false_right]; first | rfl | (congr 2; done)
end Go.Proofs.YtmhboloicpieeaaGreatDoor
namespace Go.Proofs.YtmhboloicpieeaaGreatDoor
open Go.Ab
def wZ : Rsn := ⟨0, false, false, false, 0, 0, false⟩
def oneA (e : Edt) (rc : Rcd) : AV := .tup [(false, [.d (.ps 12 [encEdt e])]), (false, [.d (.ps 6 [encRcd rc])]), pI 0]
theorem resA_one {d : Dep} {x : Tsk} (hf : Fits d x) {ch : Int} (ha : allowB x.kind ch = true) (h3 : ¬ ch = 3) (h4 : ¬ ch = 4) : resA d x ch wZ = oneA (resE d x ch wZ).1 (resRc d x ch wZ) := by
  have e : fitsB d x = true := by simp [fitsB, hf]
  have p : permB x ch wZ = true := by simp [permB, wZ, h3, h4]
  simp only [resA, e, ha, p, Bool.and_self, if_true]
  simp [oneA, resEs, wZ]
theorem yours_branch {d : Dep} {x : Tsk} (hf : Fits d x) (hk : x.kind = 1) : resA d x 1 wZ = .tup [nilP, nilP, pI 171] := by
  have e : fitsB d x = true := by simp [fitsB, hf]
  have a : allowB x.kind 1 = false := by simp [allowB, hk]
  simp only [resA, e, a, Bool.false_and, if_true]
  simp
theorem yours_keeps {d : Dep} {x : Tsk} (hf : Fits d x) (hk : ¬ x.kind = 1) : ∃ e rc, resA d x 1 wZ = oneA e rc ∧ e.act = 2 ∧ e.sum = (tgtR d x).sum ∧ e.size = (tgtR d x).size ∧ e.base = (tgtR d x).base ∧ e.kw = (tgtR d x).kw ∧ e.ex = (tgtR d x).ex ∧ e.xe = (tgtR d x).xe := by
  have a : allowB x.kind 1 = true := by simp [allowB, hk]
  refine ⟨_, _, resA_one hf a (by omega) (by omega), ?_⟩
  simp [resE, hk]
theorem theirs_keeps {d : Dep} {x : Tsk} (hx : TskB d x) (hf : Fits d x) (hD : (srcR d x).act = 3 → (srcR d x).sum = 0 ∧ (srcR d x).size = 0) :
    ∃ e rc, resA d x 2 wZ = oneA e rc ∧ e.sum = (srcR d x).sum ∧ e.size = (srcR d x).size ∧ (e.act = 3 ↔ (srcR d x).act = 3) ∧ (¬ e.act = 3 → e.base = (srcR d x).base ∧ e.kw = (srcR d x).kw ∧ e.ex = (srcR d x).ex ∧ e.xe = (srcR d x).xe) := by
  have a : allowB x.kind 2 = true := by
    have := hf.kind
    unfold allowB; split
    · simp
    · split <;> simp
  refine ⟨_, _, resA_one hf a (by omega) (by omega), ?_⟩
  rcases hx.kind with ⟨k, _, s, _⟩ | ⟨k, _, _, _⟩
  · simp [resE, k, s]
  · by_cases h3 : (srcR d x).act = 3
    · rw [if_pos h3] at k
      obtain ⟨d1, d2⟩ := hD h3
      simp [resE, k, h3, d1, d2]
    · rw [if_neg h3] at k
      simp [resE, k, h3]
end Go.Proofs.YtmhboloicpieeaaGreatDoor
namespace Go.Proofs.YtmhboloicpieeaaGreatDoor
open Go.Ab Tys
variable [Dr]
def k76 := And.intro @Tryz.ntmps76 <| @Tryz.underlying9
theorem v76U5 {G G' : Prop} (g : G') (h : Hid G' → G := by intro h9; (first | refine nvB ?_ | refine goA (wr := false) (by simp only [kB, kG, k76, Nat.reduceAdd, Nat.reduceLT, Nat.reduceEqDiff, ↓reduceIte, reduceCtorEq]; first | done | rfl) ?_); (repeat (first | refine nvB ?_ | refine goA (wr := false) (by simp only [kB, kG, k76, Nat.reduceAdd, Nat.reduceLT, Nat.reduceEqDiff, ↓reduceIte, reduceCtorEq]; first | done | rfl) ?_)); exact h9.out) : G := h ⟨g⟩
set_option maxRecDepth 100000 in
set_option maxHeartbeats 4000000 in
theorem isPath_ac (p : ByteArray) (hs : p.size ≤ 100000) : AC Tryz.prog 76 [Str p] [] (fun r st => r = B (usableB p) ∧ st = []) := by
  have hv := valid_ac p hs
  refine AC_enter Tryz.func76 rfl rfl (by simp only [Tryz.ntmps76, List.length]; omega) ?_
  intro x hx
  simp only [List.range, List.range.loop, List.length, List.zip, List.zipWith, Nat.reduceAdd, Tryz.ntmps76]
  try refine v76U5 ?_
  refine TO_stepO (wr := false) ([(8, B (path? p).isSome)] : List (Nat × AV)) rfl (by simp only [kD, kB, kG, k76, Nat.reduceAdd, Nat.reduceLT, Nat.reduceEqDiff, ↓reduceIte, reduceCtorEq]; first | done | rfl) ?_ ?_
  · simp only [All, List.cons_append, List.nil_append, InR, List.mem_cons, List.not_mem_nil, or_false, forall_eq_or_imp, forall_eq, clAV, clCs, clC, clCaps, clCap, and_true, true_and, implies_true, List.length_map, List.length_cons, List.length_nil, dArr, cl_arr, tyCs]
    repeat' (first | exact trivial | exact hv | refine And.intro ?_ ?_ | intro _ | assumption | rfl | omega | (simp; done) | (simp_all; done))
  simp only [kP, Nat.reduceEqDiff, ↓reduceIte, reduceCtorEq]
  try refine v76U5 ?_
  refine rtA (by simp only [kR, Tryz.results76, ↓reduceIte, Nat.reduceEqDiff, reduceCtorEq]; first | done | rfl) ([]) ?_
  refine ⟨?_, rfl⟩
  simp only [usableB]
  by_cases h : p.size ≤ 200
  · have : (p.size : Int) ≤ 200 := by omega
    simp [h, this]
  · have : ¬ (p.size : Int) ≤ 200 := by omega
    simp [h, this]
def k78 := And.intro @Tryz.ntmps78 <| And.intro @bld46 <| And.intro @fld46_3 <| And.intro @ti3 <| @ti46
theorem v78U5 {G G' : Prop} (g : G') (h : Hid G' → G := by intro h9; (first | refine nvB ?_ | refine goA (wr := false) (by simp only [kB, kG, k78, Nat.reduceAdd, Nat.reduceLT, Nat.reduceEqDiff, ↓reduceIte, reduceCtorEq]; first | done | rfl) ?_); (repeat (first | refine nvB ?_ | refine goA (wr := false) (by simp only [kB, kG, k78, Nat.reduceAdd, Nat.reduceLT, Nat.reduceEqDiff, ↓reduceIte, reduceCtorEq]; first | done | rfl) ?_)); exact h9.out) : G := h ⟨g⟩
set_option maxRecDepth 100000 in
set_option maxHeartbeats 4000000 in
theorem rlive_ac (v : Rev) (f : Bool) : AC Tryz.prog 78 [aRev v, B f] [] (fun r st => r = B (f && !gone v) ∧ st = []) := by
  refine AC_enter Tryz.func78 rfl rfl (by simp only [Tryz.ntmps78, List.length]; omega) ?_
  intro x hx
  simp only [List.range, List.range.loop, List.length, List.zip, List.zipWith, Nat.reduceAdd, Tryz.ntmps78]
  try refine v78U5 ?_
  refine rtA (by simp only [kR, Tryz.results78, ↓reduceIte, Nat.reduceEqDiff, reduceCtorEq]; first | done | rfl) ([]) ?_
  refine ⟨?_, rfl⟩
  cases f <;> simp [gone] <;> (by_cases h3 : v.act = 3 <;> by_cases h5 : v.act = 5 <;> simp [h3, h5])
def k77 := And.intro @Tryz.ntmps77 <| And.intro @bld39 <| And.intro @bld46 <| And.intro @fld39_0 <| And.intro @fld46_3 <| And.intro @ti3 <| And.intro @ti39 <| @ti46
theorem v77U5 {G G' : Prop} (g : G') (h : Hid G' → G := by intro h9; (first | refine nvB ?_ | refine goA (wr := false) (by simp only [kB, kG, k77, Nat.reduceAdd, Nat.reduceLT, Nat.reduceEqDiff, ↓reduceIte, reduceCtorEq]; first | done | rfl) ?_); (repeat (first | refine nvB ?_ | refine goA (wr := false) (by simp only [kB, kG, k77, Nat.reduceAdd, Nat.reduceLT, Nat.reduceEqDiff, ↓reduceIte, reduceCtorEq]; first | done | rfl) ?_)); exact h9.out) : G := h ⟨g⟩
set_option maxRecDepth 100000 in
set_option maxHeartbeats 4000000 in
theorem kindFits_ac (t : Tsk) (s : Rev) (lv on : Bool) : AC Tryz.prog 77 [aTsk t, aRev s, B lv, B on] [] (fun r st => r = B (kindFB t.kind s lv on) ∧ st = []) := by
  refine AC_enter Tryz.func77 rfl rfl (by simp only [Tryz.ntmps77, List.length]; omega) ?_
  intro x hx
  simp only [List.range, List.range.loop, List.length, List.zip, List.zipWith, Nat.reduceAdd, Tryz.ntmps77]
  try refine v77U5 ?_
  refine ifA ?_ ?_
  · intro h
    simp only [decide_eq_true_eq] at h
    try refine v77U5 ?_
    refine rtA (by simp only [kR, Tryz.results77, ↓reduceIte, Nat.reduceEqDiff, reduceCtorEq]; first | done | rfl) ([]) ?_
    refine ⟨?_, rfl⟩
    simp only [kindFB, h, if_true]
    cases lv <;> rfl
  intro h
  simp only [decide_eq_false_iff_not] at h
  try refine v77U5 ?_
  refine ifA ?_ ?_
  · intro h2
    simp only [decide_eq_true_eq] at h2
    try refine v77U5 ?_
    refine rtA (by simp only [kR, Tryz.results77, ↓reduceIte, Nat.reduceEqDiff, reduceCtorEq]; first | done | rfl) ([]) ?_
    refine ⟨?_, rfl⟩
    simp only [kindFB, h2, if_true]
    cases lv <;> cases on <;> rfl
  intro h2
  simp only [decide_eq_false_iff_not] at h2
  try refine v77U5 ?_
  refine ifA ?_ ?_
  · intro h3
    simp only [decide_eq_true_eq] at h3
    try refine v77U5 ?_
    refine rtA (by simp only [kR, Tryz.results77, ↓reduceIte, Nat.reduceEqDiff, reduceCtorEq]; first | done | rfl) ([]) ?_
    refine ⟨?_, rfl⟩
    simp only [kindFB, h3, if_true]
    cases lv <;> cases on <;> rfl
  intro h3
  simp only [decide_eq_false_iff_not] at h3
  try refine v77U5 ?_
  refine rtA (by simp only [kR, Tryz.results77, ↓reduceIte, Nat.reduceEqDiff, reduceCtorEq]; first | done | rfl) ([]) ?_
  refine ⟨?_, rfl⟩
  simp only [kindFB, h, h2, h3, if_false]
def k84 := And.intro @Tryz.ntmps84 <| And.intro @bld41 <| And.intro @fld41_0 <| And.intro @fld41_1 <| And.intro @fld41_3 <| And.intro @ti3 <| And.intro @ti4 <| @ti41
theorem v84U5 {G G' : Prop} (g : G') (h : Hid G' → G := by intro h9; (first | refine nvB ?_ | refine goA (wr := false) (by simp only [kB, kG, k84, Nat.reduceAdd, Nat.reduceLT, Nat.reduceEqDiff, ↓reduceIte, reduceCtorEq]; first | done | rfl) ?_); (repeat (first | refine nvB ?_ | refine goA (wr := false) (by simp only [kB, kG, k84, Nat.reduceAdd, Nat.reduceLT, Nat.reduceEqDiff, ↓reduceIte, reduceCtorEq]; first | done | rfl) ?_)); exact h9.out) : G := h ⟨g⟩
set_option maxRecDepth 100000 in
set_option maxHeartbeats 4000000 in
theorem ftype_ac (base : Int) (kw ex xe : Bool) : AC Tryz.prog 84 [.agg [.d (.v (.int .i64 base)), .d (.v (.bool kw)), .d (.v (.bool ex)), .d (.v (.bool xe))]] [] (fun r st => r = I .i64 (if typBad base kw xe then 90 else 0) ∧ st = []) := by
  refine AC_enter Tryz.func84 rfl rfl (by simp only [Tryz.ntmps84, List.length]; omega) ?_
  intro x hx
  simp only [List.range, List.range.loop, List.length, List.zip, List.zipWith, Nat.reduceAdd, Tryz.ntmps84]
  try refine v84U5 ?_
  refine ifA ?_ ?_
  · intro h
    simp only [decide_eq_true_eq] at h
    try refine v84U5 ?_
    refine rtA (by simp only [kR, Tryz.results84, ↓reduceIte, Nat.reduceEqDiff, reduceCtorEq]; first | done | rfl) ([]) ?_
    refine ⟨?_, rfl⟩
    subst h
    simp [typBad]
  intro h
  simp only [decide_eq_false_iff_not] at h
  try refine v84U5 ?_
  refine ifA ?_ ?_
  · intro h2
    simp only [decide_eq_true_eq] at h2
    subst h2
    try refine v84U5 ?_
    refine ifA ?_ ?_
    · intro h3
      have : kw = false := by simpa using h3
      subst this
      try refine v84U5 ?_
      refine rtA (by simp only [kR, Tryz.results84, ↓reduceIte, Nat.reduceEqDiff, reduceCtorEq]; first | done | rfl) ([]) ?_
      refine ⟨?_, rfl⟩
      simp [typBad]
    · intro h3
      have : kw = true := by simpa using h3
      subst this
      try refine v84U5 ?_
      refine rtA (by simp only [kR, Tryz.results84, ↓reduceIte, Nat.reduceEqDiff, reduceCtorEq]; first | done | rfl) ([]) ?_
      refine ⟨?_, rfl⟩
      simp [typBad]
  intro h2
  simp only [decide_eq_false_iff_not] at h2
  try refine v84U5 ?_
  refine ifA ?_ ?_
  · intro h3
    simp only [decide_eq_true_eq] at h3
    subst h3
    try refine v84U5 ?_
    refine ifA ?_ ?_
    · intro h4
      try refine v84U5 ?_
      refine rtA (by simp only [kR, Tryz.results84, ↓reduceIte, Nat.reduceEqDiff, reduceCtorEq]; first | done | rfl) ([]) ?_
      refine ⟨?_, rfl⟩
      cases kw <;> cases xe <;> simp_all [typBad]
    · intro h4
      try refine v84U5 ?_
      refine rtA (by simp only [kR, Tryz.results84, ↓reduceIte, Nat.reduceEqDiff, reduceCtorEq]; first | done | rfl) ([]) ?_
      refine ⟨?_, rfl⟩
      cases kw <;> cases xe <;> simp_all [typBad]
  intro h3
  simp only [decide_eq_false_iff_not] at h3
  try refine v84U5 ?_
  refine rtA (by simp only [kR, Tryz.results84, ↓reduceIte, Nat.reduceEqDiff, reduceCtorEq]; first | done | rfl) ([]) ?_
  refine ⟨?_, rfl⟩
  have : typBad base kw xe = true := by
    simp only [typBad]
    by_cases h5 : base < 1
    · simp [h5]
    · have : 3 < base := by omega
      simp [this]
  simp [this]
end Go.Proofs.YtmhboloicpieeaaGreatDoor
namespace Go.Proofs.YtmhboloicpieeaaGreatDoor
open Go.Ab Tys
variable [Dr]
theorem fitsB_no {d : Dep} {t : Tsk} (h : ¬ Fits d t) : fitsB d t = false := by simp [fitsB, h]
end Go.Proofs.YtmhboloicpieeaaGreatDoor
namespace Go.Proofs.YtmhboloicpieeaaGreatDoor
open Go.Ab Tys
variable [Dr]
end Go.Proofs.YtmhboloicpieeaaGreatDoor
