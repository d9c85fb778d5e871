/- A part of the proof. -/
import Derived.Test.YtmhboloicpieeaaGreatDoorRT6a
import Derived.Test.YtmhboloicpieeaaGreatDoorRAbJn
import Derived.Test.YtmhboloicpieeaaGreatDoorRG3
import Derived.Test.YtmhboloicpieeaaGreatDoorRU2
import Derived.Test.YtmhboloicpieeaaGreatDoorRAbSc
import Derived.Test.YtmhboloicpieeaaGreatDoorRH1
import Derived.Test.YtmhboloicpieeaaGreatDoorRS5
set_option maxRecDepth 100000
set_option maxHeartbeats 8000000
set_option linter.all false
namespace Go.Proofs.YtmhboloicpieeaaGreatDoor
open Go.Ab
structure Pat where
 parts : List ByteArray
 rest : Bool
 deriving DecidableEq
structure Rul where
 excl : Bool
 left : Pat
 right : Pat
structure Rgn where
 base : Pat
 holes : List Pat
structure Etr where
 left : Pat
 right : Pat
 holes : List Pat
@[reducible] def encPat (p : Pat) : List D := [.ps 1 (p.parts.map encS), .v (.bool p.rest)]
@[reducible] def encRul (r : Rul) : List D := [.v (.bool r.excl), .ps 1 (r.left.parts.map encS), .v (.bool r.left.rest), .ps 1 (r.right.parts.map encS), .v (.bool r.right.rest)]
@[reducible] def encRgn (g : Rgn) : List D := [.ps 1 (g.base.parts.map encS), .v (.bool g.base.rest), .ps 2 (g.holes.map encPat)]
@[reducible] def encEtr (x : Etr) : List D := [.ps 1 (x.left.parts.map encS), .v (.bool x.left.rest), .ps 1 (x.right.parts.map encS), .v (.bool x.right.rest), .ps 2 (x.holes.map encPat)]
@[reducible] def aPat (p : Pat) : AV := .agg ((encPat p).map C.d)
@[reducible] def aRul (r : Rul) : AV := .agg ((encRul r).map C.d)
@[reducible] def aRgn (g : Rgn) : AV := .agg ((encRgn g).map C.d)
@[reducible] def aEtr (x : Etr) : AV := .agg ((encEtr x).map C.d)
@[reducible] def aPats (l : List Pat) : AV := .c (.d (.ps 2 (l.map encPat)))
@[reducible] def aEtrs (l : List Etr) : AV := .c (.d (.ps 5 (l.map encEtr)))
@[reducible] def pS (s : ByteArray) : Bool × List C := (false, [.d (.v (.string s))])
@[reducible] def pPat (p : Pat) : Bool × List C := (true, (encPat p).map C.d)
@[reducible] def pRul (r : Rul) : Bool × List C := (true, (encRul r).map C.d)
@[reducible] def pRgn (g : Rgn) : Bool × List C := (true, (encRgn g).map C.d)
def zPat : Pat := ⟨[], false⟩
def zRul : Rul := ⟨false, zPat, zPat⟩
def zRgn : Rgn := ⟨zPat, []⟩
def zEtr : Etr := ⟨zPat, zPat, []⟩
def starB (x : ByteArray) : Bool := !(decide (x = noS) || !decide (byteAt x 0 = 42)) && (List.range x.size).all fun k => decide (k = 0) || okB (byteAt x k)
def suf (x : ByteArray) : ByteArray := if starB x then x.extract 1 x.size else noS
def partB (x : ByteArray) : Bool := starB x || comp x
def checkP (p : Pat) : Int :=
 if p.parts.length = 0 ∨ (p.parts.length = 1 ∧ p.rest = false) ∨ comp (p.parts.getD 0 noS) = false then 30
 else if (p.parts.drop 1).all partB then (if 12 < p.parts.length then 31 else 0) else 30
def okP (p : Pat) : Bool := decide (checkP p = 0)
def hasSuf (s t : ByteArray) : Bool := decide (t.size ≤ s.size) && decide (s.extract (s.size - t.size) s.size = t)
def capt (x c : ByteArray) : ByteArray × Bool :=
 if starB x then (if hasSuf c (suf x) then (c.extract 0 (c.size - (suf x).size), comp (c.extract 0 (c.size - (suf x).size))) else (noS, false)) else (noS, decide (x = c))
def stars (l : List ByteArray) : Nat := (l.filter starB).length
def wilds (p : Pat) : Nat := stars p.parts + (if p.rest then 1 else 0)
def capsT (ps ls : List ByteArray) : Nat → List ByteArray
 | 0 => []
 | k + 1 => capsT ps ls k ++ (if starB (ps.getD k noS) then [(capt (ps.getD k noS) (ls.getD k noS)).1] else [])
def capsOK (ps ls : List ByteArray) (k : Nat) : Bool := (List.range k).all fun i => (capt (ps.getD i noS) (ls.getD i noS)).2
def fitsP (p : Pat) (l : List ByteArray) : Bool := okP p && !(decide (l.length < p.parts.length) || (!p.rest && decide (p.parts.length < l.length)) || (p.rest && decide (l.length = p.parts.length)))
def matchP (p : Pat) (s : ByteArray) : Option (List ByteArray) :=
 match path? s with
 | none => none
 | some l => if fitsP p l && capsOK p.parts l p.parts.length then some (capsT p.parts l p.parts.length ++ (if p.rest then [joinB (l.drop p.parts.length) slash] else [])) else none
def textP (p : Pat) : ByteArray := if p.rest then (dslash ++ joinB p.parts slash) ++ { data := #[47, 46, 46, 46] } else dslash ++ joinB p.parts slash
def fillT (ps cs : List ByteArray) : Nat → List ByteArray
 | 0 => []
 | k + 1 => fillT ps cs k ++ [if starB (ps.getD k noS) then cs.getD (stars (ps.take k)) noS ++ suf (ps.getD k noS) else ps.getD k noS]
def fillOK (ps cs : List ByteArray) (k : Nat) : Bool := (List.range k).all fun i => !starB (ps.getD i noS) || comp (cs.getD (stars (ps.take i)) noS)
def fillP (p : Pat) (cs : List ByteArray) : ByteArray × Int :=
 if okP p then
  if cs.length = wilds p then
   if fillOK p.parts cs p.parts.length then
    if p.rest then
     if (split (cs.getD (stars p.parts) noS)).all comp then (dslash ++ joinB (fillT p.parts cs p.parts.length ++ split (cs.getD (stars p.parts) noS)) slash, 0) else (noS, 32)
    else (dslash ++ joinB (fillT p.parts cs p.parts.length) slash, 0)
   else (noS, 32)
  else (noS, 32)
 else (noS, checkP p)
def insideB (x y : ByteArray) : Bool := if starB y then (if starB x then hasSuf (suf x) (suf y) else (capt y x).2) else decide (x = y)
def withinB (p q : Pat) : Bool :=
 okP p && okP q && decide (q.parts.length ≤ p.parts.length) && (q.rest || (!p.rest && decide (p.parts.length ≤ q.parts.length))) && !(q.rest && decide (p.parts.length = q.parts.length) && !p.rest)
  && (List.range q.parts.length).all fun i => insideB (p.parts.getD i noS) (q.parts.getD i noS)
def meetB (p q : Pat) (i : Nat) : Bool := decide (q.parts.length ≤ i) || insideB (p.parts.getD i noS) (q.parts.getD i noS) || insideB (q.parts.getD i noS) (p.parts.getD i noS)
def meetT (p q : Pat) : Nat → List ByteArray
 | 0 => []
 | k + 1 => meetT p q k ++ [if decide (q.parts.length ≤ k) || insideB (p.parts.getD k noS) (q.parts.getD k noS) then p.parts.getD k noS else q.parts.getD k noS]
def meet1 (p q : Pat) : Option Pat :=
 if (q.parts.length < p.parts.length ∧ q.rest = false) ∨ (p.parts.length = q.parts.length ∧ p.rest ≠ q.rest) then none
 else if (List.range p.parts.length).all (meetB p q) then some ⟨meetT p q p.parts.length, p.rest⟩ else none
def meetP (p q : Pat) : Option Pat := if okP p && okP q then (if p.parts.length < q.parts.length then meet1 q p else meet1 p q) else none
def bindT (p q : Pat) : Nat → List Pat
 | 0 => []
 | k + 1 => bindT p q k ++ (if starB (p.parts.getD k noS) then [⟨[(q.parts.getD k noS).extract 0 ((q.parts.getD k noS).size - (suf (p.parts.getD k noS)).size)], false⟩] else [])
def bindP (p q : Pat) : Option (List Pat) :=
 if withinB q p then some (bindT p q p.parts.length ++ (if p.rest then [⟨q.parts.drop p.parts.length, q.rest⟩] else [])) else none
def subT (ps : List ByteArray) (l : List Pat) : Nat → List ByteArray
 | 0 => []
 | k + 1 => subT ps l k ++ [if starB (ps.getD k noS) then ((l.getD (stars (ps.take k)) zPat).parts.getD 0 noS) ++ suf (ps.getD k noS) else ps.getD k noS]
def subOK1 (b : Pat) : Bool := decide (b.parts.length = 1) && !b.rest && partB (b.parts.getD 0 noS)
def subOK (ps : List ByteArray) (l : List Pat) (k : Nat) : Bool := (List.range k).all fun i => !starB (ps.getD i noS) || subOK1 (l.getD (stars (ps.take i)) zPat)
def subE (p : Pat) : Pat × Int := if 12 < p.parts.length then (zPat, 31) else (p, 0)
def substP (p : Pat) (l : List Pat) : Pat × Int :=
 if okP p then
  if l.length = wilds p then
   if subOK p.parts l p.parts.length then
    if p.rest then
     if (!(l.getD (stars p.parts) zPat).parts.isEmpty || (l.getD (stars p.parts) zPat).rest) && (l.getD (stars p.parts) zPat).parts.all partB then
      subE ⟨subT p.parts l p.parts.length ++ (l.getD (stars p.parts) zPat).parts, (l.getD (stars p.parts) zPat).rest⟩
     else (zPat, 33)
    else subE ⟨subT p.parts l p.parts.length, false⟩
   else (zPat, 33)
  else (zPat, 33)
 else (zPat, checkP p)
def checkR (r : Rul) : Int := if okP r.left then (if okP r.right then (if stars r.left.parts = stars r.right.parts ∧ r.left.rest = r.right.rest then 0 else 42) else 41) else 40
def okR (r : Rul) : Bool := decide (checkR r = 0)
def fwd (r : Rul) (s : ByteArray) : ByteArray × Bool :=
 if okR r then (match matchP r.left s with | none => (noS, false) | some l => ((fillP r.right l).1, decide ((fillP r.right l).2 = 0))) else (noS, false)
def narL (r : Rul) (p : Pat) : Rul × Bool × Int :=
 if okR r then
  if okP p then
   match meetP r.left p with
   | none => (zRul, false, 0)
   | some m => if (substP r.right ((bindP r.left m).getD [])).2 = 0 then (⟨false, m, (substP r.right ((bindP r.left m).getD [])).1⟩, true, 0) else (zRul, false, 43)
  else (zRul, false, checkP p)
 else (zRul, false, checkR r)
def checkG (g : Rgn) : Int := if okP g.base then (if g.holes.all okP then (if 64 < g.holes.length then 52 else 0) else 51) else 50
def hasG (g : Rgn) (s : ByteArray) : Bool := (matchP g.base s).isSome && !g.holes.any fun h => (matchP h s).isSome
def sinkP : Nat → List Pat → List Pat
 | 0, l => l
 | k + 1, l => if cb (textP (l.getD (k + 1) zPat)) (textP (l.getD k zPat)) < 0 then sinkP k ((l.set (k + 1) (l.getD k zPat)).set k (l.getD (k + 1) zPat)) else l
def sortP (l : List Pat) : Nat → List Pat
 | 0 => l
 | k + 1 => sinkP k (sortP l k)
def dropB (l : List Pat) (i j : Nat) : Bool := !decide (i = j) && withinB (l.getD i zPat) (l.getD j zPat) && (decide (j < i) || !decide (l.getD i zPat = l.getD j zPat))
def keepP (l : List Pat) : Nat → List Pat
 | 0 => []
 | k + 1 => keepP l k ++ (if (List.range l.length).any (dropB l k) then [] else [l.getD k zPat])
def metP (b : Pat) (hs : List Pat) : List Pat := hs.filterMap (meetP b)
def simpG (b : Pat) (hs : List Pat) : Rgn := ⟨b, keepP (sortP (metP b hs) (metP b hs).length) (metP b hs).length⟩
@[reducible] def starS : ByteArray := { data := #[42] }
def partN (p : Pat) (i : Nat) : ByteArray := if i < p.parts.length then p.parts.getD i noS else starS
def countsB (p : Pat) (n : Nat) : Bool := if p.rest then decide (p.parts.length < n) else decide (n = p.parts.length)
def coversB (b h : Pat) (n : Nat) : Bool := countsB h n && (List.range (min n h.parts.length)).all fun i => insideB (partN b i) (h.parts.getD i noS)
def fullB (g : Rgn) (n : Nat) : Bool := g.holes.any fun h => coversB g.base h n
def maxH : List Pat → Nat → Nat
 | [], m => m
 | h :: l, m => maxH l (max m h.parts.length)
def lenN (g : Rgn) : Nat :=
 if g.base.rest then (match (List.range (maxH g.holes g.base.parts.length + 1 - g.base.parts.length)).find? (fun j => !fullB g (g.base.parts.length + 1 + j)) with | some j => g.base.parts.length + 1 + j | none => 0)
 else if fullB g g.base.parts.length then 0 else g.base.parts.length
def Etr.line (x : Etr) : Rul := ⟨false, x.left, x.right⟩
def Etr.lrg (x : Etr) : Rgn := ⟨x.left, x.holes⟩
def holesR (x : Etr) : List Pat → Option (List Pat)
 | [] => some []
 | h :: l => if (narL x.line h).2.2 = 0 then (holesR x l).map (fun t => if (narL x.line h).2.1 then (narL x.line h).1.right :: t else t) else none
def rightE (x : Etr) : Option Rgn := (holesR x x.holes).map (simpG x.right)
def commonB (a b : Rgn) : Bool := match meetP a.base b.base with | none => false | some m => decide (0 < lenN ⟨m, a.holes ++ b.holes⟩)
def byE (m : List Etr) (s : ByteArray) : ByteArray × Bool := match m.find? (fun x => hasG x.lrg s) with | none => (noS, false) | some x => fwd x.line s
end Go.Proofs.YtmhboloicpieeaaGreatDoor
namespace Go.Proofs.YtmhboloicpieeaaGreatDoor
open Go.Ab Tys
variable [Dr]
def k122 := And.intro @Tryz.ntmps122 <| And.intro @Tryz.underlying50 <| And.intro @bld56 <| And.intro @bld62 <| And.intro @elt50 <| And.intro @fld56_0 <| And.intro @fld56_1 <| And.intro @fld56_5 <| And.intro @fld62_3 <| And.intro @ti3 <| And.intro @ti50 <| And.intro @ti56 <| And.intro @ti62 <| @ti9
theorem v122H2 {G G' : Prop} (g : G') (h : Hid G' → G := by intro h9; (first | refine nvB ?_ | refine goA (wr := false) (by simp only [kB, kG, k122, Nat.reduceAdd, Nat.reduceLT, Nat.reduceEqDiff, ↓reduceIte, reduceCtorEq]; first | done | rfl) ?_); (repeat (first | refine nvB ?_ | refine goA (wr := false) (by simp only [kB, kG, k122, Nat.reduceAdd, Nat.reduceLT, Nat.reduceEqDiff, ↓reduceIte, reduceCtorEq]; first | done | rfl) ?_)); exact h9.out) : G := h ⟨g⟩
theorem moved_ac (c : Chg) (z : Edt) (hc : c.edits.length ≤ 1000000) : AC Tryz.prog 122 [aChg c, aEdt z] [] (fun r st => r = B (movedB c z) ∧ st = []) := by
 refine AC_enter Tryz.func122 rfl rfl (by simp only [Tryz.ntmps122, List.length]; omega) ?_
 intro x hx
 simp only [List.range, List.range.loop, List.length, List.zip, List.zipWith, Nat.reduceAdd, Tryz.ntmps122]
 try refine v122H2 ?_
 refine T_loop (ι := Nat) (I := fun k => ⟨62, [(3, .c (.ptr 3 0)), (5, I .i64 ((c.edits.take k).filter (mate z)).length), (9, .c (.d (.ps 12 (c.edits.map encEdt)))), (10, I .i64 c.edits.length), (11, I .i64 k)], [(3, .box ((encEdt z).map C.d))]⟩)
  (Inv := fun k => k ≤ c.edits.length) (μ := fun k => c.edits.length - k) 0 (by omega) ?_ ?_
 ·exact enA
 ·intro k hk
  have hF := filter_take_le (mate z) c.edits k
  try refine v122H2 ?_
  refine ifA ?_ ?_
  ·intro hlt
   have hlt' : k < c.edits.length := by simpa using hlt
   obtain ⟨y, hy, he, htk⟩ := round encEdt c.edits k zEdt hlt'
   (repeat (first | refine nvB ?_ | refine goA (wr := false) (by simp only [kB, kG, k122, Nat.reduceAdd, Nat.reduceLT, Nat.reduceEqDiff, ↓reduceIte, reduceCtorEq, he]; first | done | rfl) ?_))
   refine ifA ?_ ?_
   ·intro h
    have h' : mate z y = true := by
     rw [← h]; simp only [mate]; cases decide (z.act = 5) <;> cases decide (y.act = 4) <;> cases decide (y.frm = z.path) <;> cases decide (z.act = 4) <;> cases decide (y.act = 5) <;> cases decide (y.path = z.frm) <;> rfl
    try refine v122H2 ?_
    refine ⟨k + 1, by omega, by omega, ?_⟩
    (refine Ent_sub (fun i => i) rfl ?_ ⟨?_, ?_, ?_, keepI hx (by simp [domOf, Ab.get])⟩ <;> first | (simp only [kE, dArr, ↓reduceIte, Nat.reduceEqDiff, reduceCtorEq, htk, h', List.filter_append]; done) | simp [renAV_id, renAO_id, flat_up, Ab.get, clAV, clC, clCs, clAO, cl_f1, cl_s1, cl_f2, cl_s2, cl_a1, domOf, List.flatten, htk, h', List.filter_append])
   ·intro h
    have h' : mate z y = false := by
     rw [← h]; simp only [mate]; cases decide (z.act = 5) <;> cases decide (y.act = 4) <;> cases decide (y.frm = z.path) <;> cases decide (z.act = 4) <;> cases decide (y.act = 5) <;> cases decide (y.path = z.frm) <;> rfl
    try refine v122H2 ?_
    refine ⟨k + 1, by omega, by omega, ?_⟩
    (refine Ent_sub (fun i => i) rfl ?_ ⟨?_, ?_, ?_, keepI hx (by simp [domOf, Ab.get])⟩ <;> first | (simp only [kE, dArr, ↓reduceIte, Nat.reduceEqDiff, reduceCtorEq, htk, h', List.filter_append]; done) | simp [renAV_id, renAO_id, flat_up, Ab.get, clAV, clC, clCs, clAO, cl_f1, cl_s1, cl_f2, cl_s2, cl_a1, domOf, List.flatten, htk, h', List.filter_append])
  ·intro hge
   have hge' : k = c.edits.length := by have : ¬ k < c.edits.length := by simpa using hge
                                        omega
   try refine v122H2 ?_
   refine rtA (by simp only [kR, Tryz.results122, ↓reduceIte, Nat.reduceEqDiff, reduceCtorEq]; first | done | rfl) ([]) ?_
   refine ⟨?_, rfl⟩
   rw [hge', List.take_length]
   simp [movedB, mates, Bool.cond_true_left, Bool.cond_false_right]; first | rfl | (congr 2; done)
end Go.Proofs.YtmhboloicpieeaaGreatDoor
namespace Go.Proofs.YtmhboloicpieeaaGreatDoor
open Go.Ab
theorem okP_iff {p : Pat} : okP p = true ↔ (1 ≤ p.parts.length ∧ (p.rest = false → 2 ≤ p.parts.length) ∧ comp (p.parts.getD 0 noS) = true ∧ (p.parts.drop 1).all partB = true ∧ p.parts.length ≤ 12) := by
 unfold okP checkP
 rw [decide_eq_true_eq]
 split
 ·rename_i h
  constructor
  ·intro h; omega
  ·rintro ⟨h1, h2, h3, _⟩
   rcases h with h | ⟨h, h'⟩ | h
   ·omega
   ·have := h2 h'; omega
   ·rw [h] at h3; cases h3
 ·rename_i h
  simp only [not_or, not_and] at h
  split
  ·rename_i ha
   split
   ·constructor
    ·intro h; omega
    ·intro h; omega
   ·refine ⟨fun _ => ⟨by omega, ?_, by simpa using h.2.2, ha, by omega⟩, fun _ => rfl⟩
    intro hr
    have := h.2.1
    by_cases h1 : p.parts.length = 1
    ·exact absurd hr (this h1)
    ·omega
  ·rename_i ha
   constructor
   ·intro h; omega
   ·rintro ⟨_, _, _, h4, _⟩; exact absurd h4 ha
theorem fillT_len (ps cs : List ByteArray) : ∀ k, (fillT ps cs k).length = k
 | 0 => rfl
 | k + 1 => by simp [fillT, fillT_len ps cs k]
end Go.Proofs.YtmhboloicpieeaaGreatDoor
namespace Go.Proofs.YtmhboloicpieeaaGreatDoor
open Go.Ab Tys
variable [Dr]
def k76 := And.intro @Tryz.ntmps76 <| @Tryz.underlying9
theorem v76U5 {G G' : Prop} (g : G') (h : Hid G' → G := by intro h9; (first | refine nvB ?_ | refine goA (wr := false) (by simp only [kB, kG, k76, Nat.reduceAdd, Nat.reduceLT, Nat.reduceEqDiff, ↓reduceIte, reduceCtorEq]; first | done | rfl) ?_); (repeat (first | refine nvB ?_ | refine goA (wr := false) (by simp only [kB, kG, k76, Nat.reduceAdd, Nat.reduceLT, Nat.reduceEqDiff, ↓reduceIte, reduceCtorEq]; first | done | rfl) ?_)); exact h9.out) : G := h ⟨g⟩
theorem isPath_ac (p : ByteArray) (hs : p.size ≤ 100000) : AC Tryz.prog 76 [Str p] [] (fun r st => r = B (usableB p) ∧ st = []) := by
 have hv := valid_ac p hs
 refine AC_enter Tryz.func76 rfl rfl (by simp only [Tryz.ntmps76, List.length]; omega) ?_
 intro x hx
 simp only [List.range, List.range.loop, List.length, List.zip, List.zipWith, Nat.reduceAdd, Tryz.ntmps76]
 try refine v76U5 ?_
 refine TO_stepO (wr := false) ([(8, B (path? p).isSome)] : List (Nat × AV)) rfl (by simp only [kD, kB, kG, k76, Nat.reduceAdd, Nat.reduceLT, Nat.reduceEqDiff, ↓reduceIte, reduceCtorEq]; first | done | rfl) ?_ ?_
 ·simp only [All, List.cons_append, List.nil_append, InR, List.mem_cons, List.not_mem_nil, or_false, forall_eq_or_imp, forall_eq, clAV, clCs, clC, clCaps, clCap, and_true, true_and, implies_true, List.length_map, List.length_cons, List.length_nil, dArr, cl_arr, tyCs]
  repeat' (first | exact trivial | exact hv | refine And.intro ?_ ?_ | intro _ | assumption | rfl | omega | (simp; done) | (simp_all; done))
 simp only [kP, Nat.reduceEqDiff, ↓reduceIte, reduceCtorEq]
 try refine v76U5 ?_
 refine rtA (by simp only [kR, Tryz.results76, ↓reduceIte, Nat.reduceEqDiff, reduceCtorEq]; first | done | rfl) ([]) ?_
 refine ⟨?_, rfl⟩
 simp only [usableB]
 by_cases h : p.size ≤ 200
 ·have : (p.size : Int) ≤ 200 := by omega
  simp [h, this]
 ·have : ¬ (p.size : Int) ≤ 200 := by omega
  simp [h, this]
def k78 := And.intro @Tryz.ntmps78 <| And.intro @bld46 <| And.intro @fld46_3 <| And.intro @ti3 <| @ti46
theorem v78U5 {G G' : Prop} (g : G') (h : Hid G' → G := by intro h9; (first | refine nvB ?_ | refine goA (wr := false) (by simp only [kB, kG, k78, Nat.reduceAdd, Nat.reduceLT, Nat.reduceEqDiff, ↓reduceIte, reduceCtorEq]; first | done | rfl) ?_); (repeat (first | refine nvB ?_ | refine goA (wr := false) (by simp only [kB, kG, k78, Nat.reduceAdd, Nat.reduceLT, Nat.reduceEqDiff, ↓reduceIte, reduceCtorEq]; first | done | rfl) ?_)); exact h9.out) : G := h ⟨g⟩
theorem rlive_ac (v : Rev) (f : Bool) : AC Tryz.prog 78 [aRev v, B f] [] (fun r st => r = B (f && !gone v) ∧ st = []) := by
 refine AC_enter Tryz.func78 rfl rfl (by simp only [Tryz.ntmps78, List.length]; omega) ?_
 intro x hx
 simp only [List.range, List.range.loop, List.length, List.zip, List.zipWith, Nat.reduceAdd, Tryz.ntmps78]
 try refine v78U5 ?_
 refine rtA (by simp only [kR, Tryz.results78, ↓reduceIte, Nat.reduceEqDiff, reduceCtorEq]; first | done | rfl) ([]) ?_
 refine ⟨?_, rfl⟩
 cases f <;> simp [gone] <;> (by_cases h3 : v.act = 3 <;> by_cases h5 : v.act = 5 <;> simp [h3, h5])
def k77 := And.intro @Tryz.ntmps77 <| And.intro @bld39 <| And.intro @bld46 <| And.intro @fld39_0 <| And.intro @fld46_3 <| And.intro @ti3 <| And.intro @ti39 <| @ti46
theorem v77U5 {G G' : Prop} (g : G') (h : Hid G' → G := by intro h9; (first | refine nvB ?_ | refine goA (wr := false) (by simp only [kB, kG, k77, Nat.reduceAdd, Nat.reduceLT, Nat.reduceEqDiff, ↓reduceIte, reduceCtorEq]; first | done | rfl) ?_); (repeat (first | refine nvB ?_ | refine goA (wr := false) (by simp only [kB, kG, k77, Nat.reduceAdd, Nat.reduceLT, Nat.reduceEqDiff, ↓reduceIte, reduceCtorEq]; first | done | rfl) ?_)); exact h9.out) : G := h ⟨g⟩
theorem kindFits_ac (t : Tsk) (s : Rev) (lv on : Bool) : AC Tryz.prog 77 [aTsk t, aRev s, B lv, B on] [] (fun r st => r = B (kindFB t.kind s lv on) ∧ st = []) := by
 refine AC_enter Tryz.func77 rfl rfl (by simp only [Tryz.ntmps77, List.length]; omega) ?_
 intro x hx
 simp only [List.range, List.range.loop, List.length, List.zip, List.zipWith, Nat.reduceAdd, Tryz.ntmps77]
 try refine v77U5 ?_
 refine ifA ?_ ?_
 ·intro h
  simp only [decide_eq_true_eq] at h
  try refine v77U5 ?_
  refine rtA (by simp only [kR, Tryz.results77, ↓reduceIte, Nat.reduceEqDiff, reduceCtorEq]; first | done | rfl) ([]) ?_
  refine ⟨?_, rfl⟩
  simp only [kindFB, h, if_true]
  cases lv <;> rfl
 intro h
 simp only [decide_eq_false_iff_not] at h
 try refine v77U5 ?_
 refine ifA ?_ ?_
 ·intro h2
  simp only [decide_eq_true_eq] at h2
  try refine v77U5 ?_
  refine rtA (by simp only [kR, Tryz.results77, ↓reduceIte, Nat.reduceEqDiff, reduceCtorEq]; first | done | rfl) ([]) ?_
  refine ⟨?_, rfl⟩
  simp only [kindFB, h2, if_true]
  cases lv <;> cases on <;> rfl
 intro h2
 simp only [decide_eq_false_iff_not] at h2
 try refine v77U5 ?_
 refine ifA ?_ ?_
 ·intro h3
  simp only [decide_eq_true_eq] at h3
  try refine v77U5 ?_
  refine rtA (by simp only [kR, Tryz.results77, ↓reduceIte, Nat.reduceEqDiff, reduceCtorEq]; first | done | rfl) ([]) ?_
  refine ⟨?_, rfl⟩
  simp only [kindFB, h3, if_true]
  cases lv <;> cases on <;> rfl
 intro h3
 simp only [decide_eq_false_iff_not] at h3
 try refine v77U5 ?_
 refine rtA (by simp only [kR, Tryz.results77, ↓reduceIte, Nat.reduceEqDiff, reduceCtorEq]; first | done | rfl) ([]) ?_
 refine ⟨?_, rfl⟩
 simp only [kindFB, h, h2, h3, if_false]
def k84 := And.intro @Tryz.ntmps84 <| And.intro @bld41 <| And.intro @fld41_0 <| And.intro @fld41_1 <| And.intro @fld41_3 <| And.intro @ti3 <| And.intro @ti4 <| @ti41
theorem v84U5 {G G' : Prop} (g : G') (h : Hid G' → G := by intro h9; (first | refine nvB ?_ | refine goA (wr := false) (by simp only [kB, kG, k84, Nat.reduceAdd, Nat.reduceLT, Nat.reduceEqDiff, ↓reduceIte, reduceCtorEq]; first | done | rfl) ?_); (repeat (first | refine nvB ?_ | refine goA (wr := false) (by simp only [kB, kG, k84, Nat.reduceAdd, Nat.reduceLT, Nat.reduceEqDiff, ↓reduceIte, reduceCtorEq]; first | done | rfl) ?_)); exact h9.out) : G := h ⟨g⟩
theorem ftype_ac (base : Int) (kw ex xe : Bool) : AC Tryz.prog 84 [.agg [.d (.v (.int .i64 base)), .d (.v (.bool kw)), .d (.v (.bool ex)), .d (.v (.bool xe))]] [] (fun r st => r = I .i64 (if typBad base kw xe then 90 else 0) ∧ st = []) := by
 refine AC_enter Tryz.func84 rfl rfl (by simp only [Tryz.ntmps84, List.length]; omega) ?_
 intro x hx
 simp only [List.range, List.range.loop, List.length, List.zip, List.zipWith, Nat.reduceAdd, Tryz.ntmps84]
 try refine v84U5 ?_
 refine ifA ?_ ?_
 ·intro h
  simp only [decide_eq_true_eq] at h
  try refine v84U5 ?_
  refine rtA (by simp only [kR, Tryz.results84, ↓reduceIte, Nat.reduceEqDiff, reduceCtorEq]; first | done | rfl) ([]) ?_
  refine ⟨?_, rfl⟩
  subst h
  simp [typBad]
 intro h
 simp only [decide_eq_false_iff_not] at h
 try refine v84U5 ?_
 refine ifA ?_ ?_
 ·intro h2
  simp only [decide_eq_true_eq] at h2
  subst h2
  try refine v84U5 ?_
  refine ifA ?_ ?_
  ·intro h3
   have : kw = false := by simpa using h3
   subst this
   try refine v84U5 ?_
   refine rtA (by simp only [kR, Tryz.results84, ↓reduceIte, Nat.reduceEqDiff, reduceCtorEq]; first | done | rfl) ([]) ?_
   refine ⟨?_, rfl⟩
   simp [typBad]
  ·intro h3
   have : kw = true := by simpa using h3
   subst this
   try refine v84U5 ?_
   refine rtA (by simp only [kR, Tryz.results84, ↓reduceIte, Nat.reduceEqDiff, reduceCtorEq]; first | done | rfl) ([]) ?_
   refine ⟨?_, rfl⟩
   simp [typBad]
 intro h2
 simp only [decide_eq_false_iff_not] at h2
 try refine v84U5 ?_
 refine ifA ?_ ?_
 ·intro h3
  simp only [decide_eq_true_eq] at h3
  subst h3
  try refine v84U5 ?_
  refine ifA ?_ ?_
  ·intro h4
   try refine v84U5 ?_
   refine rtA (by simp only [kR, Tryz.results84, ↓reduceIte, Nat.reduceEqDiff, reduceCtorEq]; first | done | rfl) ([]) ?_
   refine ⟨?_, rfl⟩
   cases kw <;> cases xe <;> simp_all [typBad]
  ·intro h4
   try refine v84U5 ?_
   refine rtA (by simp only [kR, Tryz.results84, ↓reduceIte, Nat.reduceEqDiff, reduceCtorEq]; first | done | rfl) ([]) ?_
   refine ⟨?_, rfl⟩
   cases kw <;> cases xe <;> simp_all [typBad]
 intro h3
 simp only [decide_eq_false_iff_not] at h3
 try refine v84U5 ?_
 refine rtA (by simp only [kR, Tryz.results84, ↓reduceIte, Nat.reduceEqDiff, reduceCtorEq]; first | done | rfl) ([]) ?_
 refine ⟨?_, rfl⟩
 have : typBad base kw xe = true := by
  simp only [typBad]
  by_cases h5 : base < 1
  ·simp [h5]
  ·have : 3 < base := by omega
   simp [this]
 simp [this]
end Go.Proofs.YtmhboloicpieeaaGreatDoor
namespace Go.Proofs.YtmhboloicpieeaaGreatDoor
open Go.Ab
def FrmOK (d : Dep) : Prop := ∀ v ∈ d.revs, v.act = 4 → ¬ v.frm = v.path
def PthOK (d : Dep) : Prop := ∀ v ∈ d.revs, (path? v.path).isSome = true ∧ v.path.size ≤ 100000
theorem Built.pths {l : List Chg} {d : Dep} (h : Built l d) : PthOK d := by
 induction h with
 | nil => intro r hr; simp [zDep] at hr
 | skip c h ih => exact ih
 | @app l d c h hc hk ih =>
   intro v hv
   simp only [appD, List.mem_append, List.mem_map] at hv
   rcases hv with hv | ⟨e, he, rfl⟩
   ·exact ih v hv
   ·obtain ⟨i, hi, rfl⟩ := List.mem_iff_getElem.1 he
    have h0 := (hk.edit i hi).okPath
    rw [show c.edits.getD i zEdt = c.edits[i] by simp [List.getD, hi]] at h0
    exact ⟨h0, hc.1 _ he⟩
section
variable {d : Dep} (hg : Good d.revs) (hN : d.revs.length ≤ 512)
include hg hN
end
end Go.Proofs.YtmhboloicpieeaaGreatDoor
namespace Go.Proofs.YtmhboloicpieeaaGreatDoor
open Go.Ab Tys
variable [Dr]
theorem byteAt_eq {p q : ByteArray} {k : Nat} {x y : UInt8} (hx : p.data.toList[k]? = some x) (hy : q.data.toList[k]? = some y) : (byteAt p k = byteAt q k ↔ x = y) ∧ (byteAt p k < byteAt q k ↔ x < y) := by
 have hk : k < p.size := by have := (List.getElem?_eq_some_iff.1 hx).1; simpa using this
 have hk2 : k < q.size := by have := (List.getElem?_eq_some_iff.1 hy).1; simpa using this
 obtain ⟨x', h1, h2⟩ := byteAt_get hk
 obtain ⟨y', h3, h4⟩ := byteAt_get hk2
 rw [hx] at h1; cases h1
 rw [hy] at h3; cases h3
 rw [h2, h4, UInt8.lt_iff_toNat_lt]
 constructor
 ·constructor
  ·intro h; exact UInt8.toNat_inj.1 (by omega)
  ·rintro rfl; rfl
 ·omega
theorem drop_get {l : List UInt8} {k : Nat} {x : UInt8} (h : l[k]? = some x) : l.drop k = x :: l.drop (k + 1) := by
 rw [List.drop_eq_getElem?_toList_append, h]; rfl
def k85 := And.intro @Tryz.ntmps85 <| And.intro @Tryz.underlying9 <| @ti9
theorem v85U3 {G G' : Prop} (g : G') (h : Hid G' → G := by intro h9; (first | refine nvB ?_ | refine goA (wr := false) (by simp only [kB, kG, k85, Nat.reduceAdd, Nat.reduceLT, Nat.reduceEqDiff, ↓reduceIte, reduceCtorEq]; first | done | rfl) ?_); (repeat (first | refine nvB ?_ | refine goA (wr := false) (by simp only [kB, kG, k85, Nat.reduceAdd, Nat.reduceLT, Nat.reduceEqDiff, ↓reduceIte, reduceCtorEq]; first | done | rfl) ?_)); exact h9.out) : G := h ⟨g⟩
theorem pcompare_ac (a b : ByteArray) (ha : a.size ≤ 100000) (hb : b.size ≤ 100000) : AC Tryz.prog 85 [Str a, Str b] [] (fun r st => r = .tup [pI (if (path? a).isSome && (path? b).isSome then ord a b else 0), pI (if (path? a).isSome && (path? b).isSome then 0 else 20)] ∧ st = []) := by
 have hva := valid_ac a ha
 have hvb := valid_ac b hb
 refine AC_enter Tryz.func85 rfl rfl (by simp only [Tryz.ntmps85, List.length]; omega) ?_
 intro x hx
 simp only [List.range, List.range.loop, List.length, List.zip, List.zipWith, Nat.reduceAdd, Tryz.ntmps85]
 (repeat (first | refine v85U3 ?_ | (refine caA [] (hva) ?_; rintro r st' ⟨rfl, rfl⟩; refine frA ?_)))
 refine TO_stepO (wr := false) ([(12, B (path? b).isSome)] : List (Nat × AV)) rfl (by simp only [kD, kB, kG, k85, Nat.reduceAdd, Nat.reduceLT, Nat.reduceEqDiff, ↓reduceIte, reduceCtorEq]; first | done | rfl) ?_ ?_
 ·simp only [All, List.cons_append, List.nil_append, InR, List.mem_cons, List.not_mem_nil, or_false, forall_eq_or_imp, forall_eq, clAV, clCs, clC, clCaps, clCap, and_true, true_and, implies_true, List.length_map, List.length_cons, List.length_nil, dArr, cl_arr, tyCs]
  repeat' (first | exact trivial | exact hvb | refine And.intro ?_ ?_ | intro _ | assumption | rfl | omega | (simp; done) | (simp_all; done))
 simp only [kP, Nat.reduceEqDiff, ↓reduceIte, reduceCtorEq]
 try refine v85U3 ?_
 refine ifA ?_ ?_
 ·intro h
  have h' : ((path? a).isSome && (path? b).isSome) = false := by
   cases e1 : (path? a).isSome <;> cases e2 : (path? b).isSome <;> simp_all
  try refine v85U3 ?_
  refine rtA (by simp only [kR, Tryz.results85, ↓reduceIte, Nat.reduceEqDiff, reduceCtorEq]; first | done | rfl) ([]) ?_
  refine ⟨?_, rfl⟩
  simp [h']
 intro h
 obtain ⟨e1, e2⟩ : (path? a).isSome = true ∧ (path? b).isSome = true := by
  cases e1 : (path? a).isSome <;> cases e2 : (path? b).isSome <;> simp_all
 simp only [e1, e2, Bool.and_self, if_true]
 rw [← cmpP_ord e1 e2]
 try refine v85U3 ?_
 refine T_loop (ι := Nat) (I := fun k => ⟨54, [(0, Str a), (1, Str b), (19, I .i64 (min (a.size : Int) b.size)), (20, I .i64 k)], []⟩)
  (Inv := fun k => k ≤ a.size ∧ k ≤ b.size ∧ cmpP a.data.toList b.data.toList = cmpP (a.data.toList.drop k) (b.data.toList.drop k)) (μ := fun k => a.size - k) 0 ⟨by omega, by omega, rfl⟩ ?_ ?_
 ·exact enA
 rintro k ⟨k1, k2, k3⟩
 rw [k3]
 have sa : a.data.toList.length = a.size := by simp
 have sb : b.data.toList.length = b.size := by simp
 try refine v85U3 ?_
 refine ifA ?_ ?_
 ·intro hlt
  have hlt' : k < a.size ∧ k < b.size := by
   have : (k : Int) < min (a.size : Int) b.size := by simpa using hlt
   omega
  obtain ⟨u, hu, bu⟩ := byteAt_get hlt'.1
  obtain ⟨v, hv, bv⟩ := byteAt_get hlt'.2
  obtain ⟨q1, q2⟩ := byteAt_eq hu hv
  have x47 := byteAt_47 hu
  have y47 := byteAt_47 hv
  rw [drop_get hu, drop_get hv]
  try refine v85U3 ?_
  refine drA (wr := false) ([] : List (Nat × AV)) (by simp only [kD, kB, kG, k85, Nat.reduceAdd, Nat.reduceLT, Nat.reduceEqDiff, ↓reduceIte, reduceCtorEq]; first | done | rfl) ?_ ?_
  ·exact obN
  refine nvA ?_
  refine ifA ?_ ?_
  ·intro he
   have he' : u = v := q1.1 (by simpa [byteAt] using he)
   try refine v85U3 ?_
   refine ⟨k + 1, ⟨by omega, by omega, ?_⟩, by omega, ?_⟩
   ·subst he'; simp [cmpP]
   ·exact enA
  intro he
  have he' : ¬ u = v := fun e => by have := q1.2 e; simp [byteAt] at this; simp [this] at he
  try refine v85U3 ?_
  refine ifA ?_ ?_
  ·intro h47
   have : u = 47 := x47.1 (by simpa [byteAt] using h47)
   try refine v85U3 ?_
   refine rtA (by simp only [kR, Tryz.results85, ↓reduceIte, Nat.reduceEqDiff, reduceCtorEq]; first | done | rfl) ([]) ?_
   refine ⟨?_, rfl⟩
   rw [cmpP, if_neg he', if_pos this]
  intro h47
  have h47' : ¬ u = 47 := fun e => by have := x47.2 e; simp [byteAt] at this; simp [this] at h47
  try refine v85U3 ?_
  refine ifA ?_ ?_
  ·intro g47
   have : v = 47 := y47.1 (by simpa [byteAt] using g47)
   try refine v85U3 ?_
   refine rtA (by simp only [kR, Tryz.results85, ↓reduceIte, Nat.reduceEqDiff, reduceCtorEq]; first | done | rfl) ([]) ?_
   refine ⟨?_, rfl⟩
   rw [cmpP, if_neg he', if_neg h47', if_pos this]
  intro g47
  have g47' : ¬ v = 47 := fun e => by have := y47.2 e; simp [byteAt] at this; simp [this] at g47
  refine nvA ?_
  refine drA (wr := false) ([(47, I .i64 (cmpI (byteAt a k) (byteAt b k)))] : List (Nat × AV)) (by simp only [kD, kB, kG, k85, Nat.reduceAdd, Nat.reduceLT, Nat.reduceEqDiff, ↓reduceIte, reduceCtorEq]; first | done | rfl) ?_ ?_
  ·simp only [All, List.cons_append, List.nil_append, InR, List.mem_cons, List.not_mem_nil, or_false, forall_eq_or_imp, forall_eq, clAV, clCs, clC, clCaps, clCap, and_true, true_and, implies_true, List.length_map, List.length_cons, List.length_nil, dArr, cl_arr, tyCs]
   repeat' (first | exact trivial | exact cmpByte_ac _ _ | refine And.intro ?_ ?_ | intro _ | assumption | rfl | omega | (rw [Bool.not_eq_true']; assumption) | (simp; done) | (simp only [decide_eq_true_eq] at *; omega) | (simp_all; done))
  refine nvA ?_
  refine rtA (by simp only [kR, Tryz.results85, ↓reduceIte, Nat.reduceEqDiff, reduceCtorEq]; first | done | rfl) ([]) ?_
  refine ⟨?_, rfl⟩
  simp only [cmpP, he', h47', g47', if_false, cmpI]
  by_cases hl : u < v
  ·simp [hl, q2.2 hl]
  ·have hg : byteAt b k < byteAt a k := by
    have h1 : ¬ byteAt a k < byteAt b k := fun h => hl (q2.1 h)
    have h2 : ¬ byteAt a k = byteAt b k := fun h => he' (q1.1 h)
    omega
   have : ¬ byteAt a k < byteAt b k := fun h => hl (q2.1 h)
   simp [hl, this, hg]
 ·intro hge
  have hge' : k = a.size ∨ k = b.size := by
   have : ¬ (k : Int) < min (a.size : Int) b.size := by simpa using hge
   omega
  (repeat (first | refine v85U3 ?_ | (refine caA [] (cmpInt_ac _ _) ?_; rintro r st' ⟨rfl, rfl⟩; refine frA ?_)))
  refine rtA (by simp only [kR, Tryz.results85, ↓reduceIte, Nat.reduceEqDiff, reduceCtorEq]; first | done | rfl) ([]) ?_
  refine ⟨?_, rfl⟩
  have e3 : ∀ l m : List UInt8, l = [] ∨ m = [] → cmpP l m = cmpI l.length m.length := by
   intro l m hlm
   cases l <;> cases m <;> simp [cmpP, cmpI] <;> first | omega | simp_all
  rw [e3 _ _ (by rcases hge' with h | h <;> simp [h])]
  have e4 : cmpI a.size b.size = cmpI ((a.size - k : Nat) : Int) ((b.size - k : Nat) : Int) := by
   simp only [cmpI]
   repeat' split
   all_goals first | rfl | omega
  rw [e4]
  simp only [List.length_drop, sa, sb]
def orI : List Int → Int
 | [] => 0
 | a :: l => if a = 0 then orI l else a
def k96 := And.intro @Tryz.ntmps96 <| And.intro @Tryz.underlying63 <| And.intro @elt63 <| And.intro @ti3 <| @ti63
theorem v96W11 {G G' : Prop} (g : G') (h : Hid G' → G := by intro h9; (first | refine nvB ?_ | refine goA (wr := false) (by simp only [kB, k96, Nat.reduceAdd, Nat.reduceLT, Nat.reduceEqDiff, ↓reduceIte, reduceCtorEq]; first | done | rfl) ?_); (repeat (first | refine nvB ?_ | refine goA (wr := false) (by simp only [kB, k96, Nat.reduceAdd, Nat.reduceLT, Nat.reduceEqDiff, ↓reduceIte, reduceCtorEq]; first | done | rfl) ?_)); exact h9.out) : G := h ⟨g⟩
theorem or_ac (l : List Int) (hl : l.length ≤ 1000) : AC Tryz.prog 96 [.c (.d (.ps 1 (l.map fun i => [.v (.int .i64 i)])))] [] (fun r st => r = I .i64 (orI l) ∧ st = []) := by
 refine AC_enter Tryz.func96 rfl rfl (by simp only [Tryz.ntmps96, List.length]; omega) ?_
 intro x hx
 simp only [List.range, List.range.loop, List.length, List.zip, List.zipWith, Nat.reduceAdd, Tryz.ntmps96]
 try refine v96W11 ?_
 refine T_loop (ι := Nat) (I := fun k => ⟨18, [(3, I .i64 0), (6, .c (.d (.ps 1 (l.map fun i => [.v (.int .i64 i)])))), (7, I .i64 l.length), (8, I .i64 k)], []⟩)
  (Inv := fun k => k ≤ l.length ∧ orI l = orI (l.drop k)) (μ := fun k => l.length - k) 0 (by simp) ?_ ?_
 ·exact enA
 rintro k ⟨hk, ho⟩
 try refine v96W11 ?_
 refine ifA ?_ ?_
 ·intro hlt
  have hlt' : k < l.length := by simpa using hlt
  obtain ⟨v, hv, he, htk⟩ := round (fun i : Int => [D.v (.int .i64 i)]) l k 0 hlt'
  have hd : l.drop k = v :: l.drop (k + 1) := by
   rw [List.drop_eq_getElem_cons hlt']
   congr 1
   rw [List.getElem?_eq_getElem hlt'] at hv; simpa using hv
  rw [hd, orI] at ho
  (repeat (first | refine nvB ?_ | refine goA (wr := false) (by simp only [kB, k96, Nat.reduceAdd, Nat.reduceLT, Nat.reduceEqDiff, ↓reduceIte, reduceCtorEq, he]; first | done | rfl) ?_))
  refine ifA ?_ ?_
  ·intro h
   have h : ¬ v = 0 := by simpa using h
   rw [if_neg h] at ho
   try refine v96W11 ?_
   refine rtA (by simp only [kR, Tryz.results96, ↓reduceIte, Nat.reduceEqDiff, reduceCtorEq]; first | done | rfl) ([]) ?_
   refine ⟨?_, rfl⟩
   rw [ho]
  ·intro h
   have h : v = 0 := by simpa using h
   rw [if_pos h] at ho
   try refine v96W11 ?_
   refine ⟨k + 1, ⟨by omega, ho⟩, by omega, ?_⟩
   exact enA
 ·intro hge
  have hge' : k = l.length := by have : ¬ k < l.length := by simpa using hge
                                 omega
  subst hge'
  rw [List.drop_length] at ho
  try refine v96W11 ?_
  refine rtA (by simp only [kR, Tryz.results96, ↓reduceIte, Nat.reduceEqDiff, reduceCtorEq]; first | done | rfl) ([]) ?_
  refine ⟨?_, rfl⟩
  rw [ho]; rfl
def oP (a b : ByteArray) : Int := if (path? a).isSome && (path? b).isSome then ord a b else 0
def k97 := And.intro @Tryz.ntmps97 <| trivial
theorem v97Y0 {G G' : Prop} (g : G') (h : Hid G' → G := by intro h9; (first | refine nvB ?_ | refine goA (wr := false) (by simp only [kB, k97, Nat.reduceAdd, Nat.reduceLT, Nat.reduceEqDiff, ↓reduceIte, reduceCtorEq]; first | done | rfl) ?_); (repeat (first | refine nvB ?_ | refine goA (wr := false) (by simp only [kB, k97, Nat.reduceAdd, Nat.reduceLT, Nat.reduceEqDiff, ↓reduceIte, reduceCtorEq]; first | done | rfl) ?_)); exact h9.out) : G := h ⟨g⟩
theorem cmpPaths_ac (a b : ByteArray) (ha : a.size ≤ 100000) (hb : b.size ≤ 100000) : AC Tryz.prog 97 [Str a, Str b] [] (fun r st => r = I .i64 (oP a b) ∧ st = []) := by
 have h1 := pcompare_ac a b ha hb
 rw [show (if ((path? a).isSome && (path? b).isSome) = true then ord a b else 0) = oP a b from rfl] at h1
 refine AC_enter Tryz.func97 rfl rfl (by simp only [Tryz.ntmps97, List.length]; omega) ?_
 intro x hx
 simp only [List.range, List.range.loop, List.length, List.zip, List.zipWith, Nat.reduceAdd, Tryz.ntmps97]
 (repeat (first | refine v97Y0 ?_ | (refine caA [] (h1) ?_; rintro r st' ⟨rfl, rfl⟩; refine frA ?_)))
 refine rtA (by simp only [kR, Tryz.results97, ↓reduceIte, Nat.reduceEqDiff, reduceCtorEq]; first | done | rfl) ([]) ?_
 refine ⟨?_, rfl⟩
 rfl
def cmR (a b : Rcd) : Int := orI [oP a.to b.to, cmpI a.num b.num, oP a.frm b.frm, cmpI a.first b.first]
def k48 := And.intro @Tryz.ntmps48 <| And.intro @bld76 <| And.intro @elt63 <| And.intro @fld76_0 <| And.intro @fld76_1 <| And.intro @fld76_3 <| And.intro @fld76_4 <| And.intro @ti3 <| And.intro @ti63 <| And.intro @ti76 <| @ti9
theorem v48Y0 {G G' : Prop} (g : G') (h : Hid G' → G := by intro h9; (first | refine nvB ?_ | refine goA (wr := false) (by simp only [kB, kS, k48, Nat.reduceAdd, Nat.reduceLT, Nat.reduceEqDiff, ↓reduceIte, reduceCtorEq]; first | done | rfl) ?_); (repeat (first | refine nvB ?_ | refine goA (wr := false) (by simp only [kB, kS, k48, Nat.reduceAdd, Nat.reduceLT, Nat.reduceEqDiff, ↓reduceIte, reduceCtorEq]; first | done | rfl) ?_)); exact h9.out) : G := h ⟨g⟩
theorem cmpR_ac (a b : Rcd) (ha : rOK a) (hb : rOK b) : AC Tryz.prog 48 [.agg ((encRcd a).map C.d), .agg ((encRcd b).map C.d)] [] (fun r st => r = I .i64 (cmR a b) ∧ st = []) := by
 have h1 := cmpPaths_ac a.to b.to ha.2 hb.2
 have h2 := cmpInt_ac a.num b.num
 have h3 := cmpPaths_ac a.frm b.frm ha.1 hb.1
 have h4 := cmpInt_ac a.first b.first
 have h5 := AC_frz (id := 25) (fun r (h : r = I .i64 (cmR a b)) => by rw [h]; trivial) (or_ac [oP a.to b.to, cmpI a.num b.num, oP a.frm b.frm, cmpI a.first b.first] (by simp))
 simp only [List.map, List.length_cons, List.length_nil] at h5
 refine AC_enter Tryz.func48 rfl rfl (by simp only [Tryz.ntmps48, List.length]; omega) ?_
 intro x hx
 simp only [List.range, List.range.loop, List.length, List.zip, List.zipWith, Nat.reduceAdd, Tryz.ntmps48]
 try refine v48Y0 ?_
 refine drA (wr := false) ([(9, I .i64 (oP a.to b.to)), (14, I .i64 (cmpI a.num b.num)), (19, I .i64 (oP a.frm b.frm)), (24, I .i64 (cmpI a.first b.first)), (26, I .i64 (cmR a b))] : List (Nat × AV)) (by simp only [kD, kB, kS, k48, Nat.reduceAdd, Nat.reduceLT, Nat.reduceEqDiff, ↓reduceIte, reduceCtorEq]; first | done | rfl) ?_ ?_
 ·simp only [All, List.cons_append, List.nil_append, InR, List.mem_cons, List.not_mem_nil, or_false, forall_eq_or_imp, forall_eq, clAV, clCs, clC, clCaps, clCap, and_true, true_and, implies_true, List.length_map, List.length_cons, List.length_nil, dArr, cl_arr, tyCs]
  repeat' (first | exact trivial | exact h1 | exact h2 | exact h3 | exact h4 | exact h5 | refine And.intro ?_ ?_ | intro _ | assumption | rfl | omega | (rw [Bool.not_eq_true']; assumption) | (simp; done) | (simp only [decide_eq_true_eq] at *; omega) | (simp_all; done))
 try refine v48Y0 ?_
 refine rtA (by simp only [kR, Tryz.results48, ↓reduceIte, Nat.reduceEqDiff, reduceCtorEq]; first | done | rfl) ([]) ?_
 refine ⟨?_, rfl⟩
 rfl
end Go.Proofs.YtmhboloicpieeaaGreatDoor
namespace Go.Proofs.YtmhboloicpieeaaGreatDoor
open Go.Ab
variable [Dr]
def unV {κ β : Type} (G : List (κ × (Value × List β))) : List (κ × List β) := G.map fun g => (g.1, g.2.2)
def poolOf {κ β : Type} (enc : β → List D) (G : List (κ × (Value × List β))) : List (Value × List (List D)) := G.map fun g => (g.2.1, g.2.2.map enc)
theorem aput_unV {κ β : Type} [DecidableEq κ] (G : List (κ × (Value × List β))) (k : κ) (v : Value) (ys : List β) : unV (aput G k (v, ys)) = aput (unV G) k ys := by
 induction G with
 | nil => rfl
 | cons g G ih => simp only [unV, List.map_cons, aput] at ih ⊢; split <;> simp_all
section
variable {x : X} {κ β : Type} [DecidableEq κ] {ke : κ → Bool × List D} (hk : ∀ a b, keyB ((ke a).2.map C.d) ((ke b).2.map C.d) = decide (a = b))
include hk
end
end Go.Proofs.YtmhboloicpieeaaGreatDoor
namespace Go.Proofs.YtmhboloicpieeaaGreatDoor
open Go.Ab Tys
variable [Dr]
theorem fitsB_no {d : Dep} {t : Tsk} (h : ¬ Fits d t) : fitsB d t = false := by simp [fitsB, h]
end Go.Proofs.YtmhboloicpieeaaGreatDoor
