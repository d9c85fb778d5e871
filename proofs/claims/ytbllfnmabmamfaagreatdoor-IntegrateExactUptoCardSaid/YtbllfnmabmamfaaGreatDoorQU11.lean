/- The members of a line, as the program finds them. -/
import Derived.Test.YtbllfnmabmamfaaGreatDoorQP7
import Derived.Test.YtbllfnmabmamfaaGreatDoorQP2
set_option linter.all false

namespace Go.Proofs.YtbllfnmabmamfaaGreatDoor
open Go.Ab
def nextB (b r : Rev) : Bool := !(decide (r.act = 5) || decide (r.act = 1)) && (if r.act = 4 then decide (r.frm = b.path) && decide (r.fnum = b.num) else decide (r.path = b.path) && decide (wr (r.num - 1) = b.num))
def lnStep (acc : List Rev) (r : Rev) : List Rev := if nextB ((acc.getLast?).getD zRev) r then acc ++ [r] else acc
def lnP (d : Dep) (f : Fil) : List Rev := match get? d f.path f.num with | some v => if v.act = 1 then d.revs.foldl lnStep [v] else [] | none => []
section
variable {d : Dep} (hg : Good d.revs) (hN : d.revs.length ≤ 512)
include hg hN
theorem nextB_iff {k : Nat} {r b : Rev} (hr : d.revs[k]? = some r) : nextB b r = true ↔ ¬ r.act = 5 ∧ ¬ r.act = 1 ∧ befF r = fileOf b := by
  have hn := hg.num k r hr
  have hk := (List.getElem?_eq_some_iff.1 hr).1
  have hw : wr (r.num - 1) = r.num - 1 := wr_id (by omega) (by omega)
  unfold nextB befF fileOf
  rw [hw]
  by_cases h5 : r.act = 5
  · simp [h5]
  by_cases h1 : r.act = 1
  · simp [h1]
  by_cases h4 : r.act = 4
  · simp [h4]
  · simp [h5, h1, h4]
theorem first_next {k j : Nat} {r b : Rev} (hr : d.revs[k]? = some r) (hb : d.revs[j]? = some b) (r5 : ¬ r.act = 5) (r1 : ¬ r.act = 1) (h : befF r = fileOf b) : first d r = first d b ∧ j < k := by
  have hp : prev? d r = some b := by
    rw [prev?_bef hg hN hr r1]
    exact (get?_iff hg).2 ⟨j, hb, by rw [h]⟩
  have hc : b.chg < r.chg ∧ j < k := by
    by_cases h4 : r.act = 4
    · obtain ⟨i, u, h1, h2, h3, h5, _, _, h6⟩ := hg.mov k r hr h4
      have e : fileOf u = fileOf b := by rw [← h]; simp [befF, h4, fileOf, h3, h5]
      have := good_file hg h2 hb e
      subst this; rw [h2] at hb; cases hb; exact ⟨h6, h1⟩
    · obtain ⟨i, u, h1, h2, h3, h5, _, _, h6⟩ := hg.prv k r hr r1 h4
      have e : fileOf u = fileOf b := by rw [← h]; simp [befF, h4, r1, fileOf, h3, h5]
      have := good_file hg h2 hb e
      subst this; rw [h2] at hb; cases hb; exact ⟨h6, h1⟩
  exact ⟨first_step hp hc.1, hc.2⟩
theorem bef_ex {k : Nat} {r : Rev} (hr : d.revs[k]? = some r) (r1 : ¬ r.act = 1) : ∃ (j : Nat) (u : Rev), j < k ∧ d.revs[j]? = some u ∧ befF r = fileOf u ∧ ¬ u.act = 5 := by
  by_cases h4 : r.act = 4
  · obtain ⟨i, u, h1, h2, h3, h5, _, h7, h6⟩ := hg.mov k r hr h4
    exact ⟨i, u, h1, h2, by simp [befF, h4, fileOf, h3, h5], h7⟩
  · obtain ⟨i, u, h1, h2, h3, h5, _, h7, h6⟩ := hg.prv k r hr r1 h4
    exact ⟨i, u, h1, h2, by simp [befF, h4, r1, fileOf, h3, h5], h7⟩
def inLn (d : Dep) (f : Fil) (u : Rev) : Bool := decide (¬ u.act = 5 ∧ ¬ u.act = 1 ∧ first d u = f)
theorem ln_take {f : Fil} {iv : Nat} {v : Rev} (hv : d.revs[iv]? = some v) (hf : fileOf v = f) (v1 : v.act = 1) : ∀ k, k ≤ d.revs.length → (d.revs.take k).foldl lnStep [v] = v :: (d.revs.take k).filter (inLn d f)
  | 0, _ => by simp
  | k + 1, hk => by
    have ih := ln_take hv hf v1 k (by omega)
    obtain ⟨r, hr⟩ : ∃ r, d.revs[k]? = some r := ⟨_, List.getElem?_eq_getElem (by omega)⟩
    have ht : d.revs.take (k + 1) = d.revs.take k ++ [r] := by rw [List.take_add_one, hr]; rfl
    have hfv : first d v = f := by rw [first_none (prev?_one v1)]; exact hf
    rw [ht, List.foldl_append, ih, List.filter_append, List.foldl_cons, List.foldl_nil]
    have key : nextB (((v :: (d.revs.take k).filter (inLn d f)).getLast?).getD zRev) r = inLn d f r := by
      obtain ⟨b, jb, hb, hlast, hbv, hmax⟩ : ∃ (b : Rev) (jb : Nat), d.revs[jb]? = some b ∧ (v :: (d.revs.take k).filter (inLn d f)).getLast? = some b ∧ (¬ b.act = 5 ∧ first d b = f) ∧
          ((b = v ∧ ∀ (i : Nat) (u : Rev), i < k → d.revs[i]? = some u → inLn d f u = false) ∨ (inLn d f b = true ∧ ∀ (i : Nat) (u : Rev), i < k → d.revs[i]? = some u → inLn d f u = true → i ≤ jb)) := by
        rw [List.getLast?_cons]
        obtain ⟨h1, h2⟩ := lastF (inLn d f) (d.revs.take k)
        cases hl : ((d.revs.take k).filter (inLn d f)).getLast? with
        | none =>
          refine ⟨v, iv, hv, rfl, ⟨by omega, hfv⟩, .inl ⟨rfl, fun i u hi hu => h2 hl u ?_⟩⟩
          exact List.mem_of_getElem? (i := i) (by rw [List.getElem?_take, if_pos hi]; exact hu)
        | some b =>
          obtain ⟨j, g1, g2, g3⟩ := h1 b hl
          have hjk : j < k := by have := (List.getElem?_eq_some_iff.1 g1).1; simp at this; omega
          rw [List.getElem?_take, if_pos hjk] at g1
          have g2' := g2
          simp only [inLn, decide_eq_true_eq] at g2'
          refine ⟨b, j, g1, rfl, ⟨g2'.1, g2'.2.2⟩, .inr ⟨g2, fun i u hi hu hp => g3 i u ?_ hp⟩⟩
          rw [List.getElem?_take, if_pos hi]; exact hu
      rw [hlast, Option.getD_some, Bool.eq_iff_iff, nextB_iff hg hN hr]
      simp only [inLn, decide_eq_true_eq]
      constructor
      · rintro ⟨r5, r1, e⟩
        exact ⟨r5, r1, (first_next hg hN hr hb r5 r1 e).1.trans hbv.2⟩
      · rintro ⟨r5, r1, e⟩
        refine ⟨r5, r1, ?_⟩
        obtain ⟨j, u, hj, hu, eu, u5⟩ := bef_ex hg hN hr r1
        have hfu : first d u = f := by rw [← (first_next hg hN hr hu r5 r1 eu).1]; exact e
        rw [eu]
        by_cases u1 : u.act = 1
        · have huv : u = v := by
            have e1 : fileOf u = fileOf v := by rw [first_none (prev?_one u1)] at hfu; rw [hfu, hf]
            have := good_file hg hu hv e1
            subst this; rw [hu] at hv; exact Option.some.inj hv
          rcases hmax with ⟨hbv2, _⟩ | ⟨hbl, hm⟩
          · rw [huv, hbv2]
          · exfalso
            simp only [inLn, decide_eq_true_eq] at hbl
            have hjb : jb < k := by
              rcases Nat.lt_or_ge jb k with h | h
              · exact h
              · exfalso
                have hmem : b ∈ (v :: (d.revs.take k).filter (inLn d f)) := List.mem_of_getLast? hlast
                rcases List.mem_cons.1 hmem with rfl | hmem
                · exact hbl.2.1 v1
                · obtain ⟨i, hi⟩ := List.getElem?_of_mem (List.mem_filter.1 hmem).1
                  have hik : i < k := by have := (List.getElem?_eq_some_iff.1 hi).1; simp at this; omega
                  rw [List.getElem?_take, if_pos hik] at hi
                  have := good_file hg hi hb rfl
                  omega
            obtain ⟨k', w, w1, w2, w3, w4, w5, w6⟩ := line_prev hg hN hjb hb hr hbl.1 r5 (hbl.2.2.trans e.symm)
            have e2 : fileOf w = fileOf u := by rw [w5, eu]
            have hkj := good_file hg w3 hu e2
            subst hkj
            rcases Nat.lt_or_ge jb k' with hlt | hge
            · obtain ⟨k2, w', _, _, _, _, q5, _⟩ := line_prev hg hN hlt hb hu hbl.1 u5 (hbl.2.2.trans hfu.symm)
              have : (befF u) = zFil := by simp [befF, u1]
              rename_i hw' _ _
              rw [this] at q5
              have := hg.num k2 w' (by assumption)
              have h0 : w'.num = 0 := congrArg Fil.num q5
              omega
            · have : jb = k' := by omega
              subst this
              rw [hb] at hu; cases hu; exact hbl.2.1 u1
        · have hul : inLn d f u = true := by simp only [inLn, decide_eq_true_eq]; exact ⟨u5, u1, hfu⟩
          rcases hmax with ⟨_, hm⟩ | ⟨hbl, hm⟩
          · rw [hm j u hj hu] at hul; cases hul
          · have h1 := hm j u hj hu hul
            have hbl' := hbl
            simp only [inLn, decide_eq_true_eq] at hbl
            have hjb : jb < k := by
              rcases Nat.lt_or_ge jb k with h | h
              · exact h
              · exfalso
                have hmem : b ∈ (v :: (d.revs.take k).filter (inLn d f)) := List.mem_of_getLast? hlast
                rcases List.mem_cons.1 hmem with rfl | hmem
                · exact hbl.2.1 v1
                · obtain ⟨i, hi⟩ := List.getElem?_of_mem (List.mem_filter.1 hmem).1
                  have hik : i < k := by have := (List.getElem?_eq_some_iff.1 hi).1; simp at this; omega
                  rw [List.getElem?_take, if_pos hik] at hi
                  have := good_file hg hi hb rfl
                  omega
            obtain ⟨k', w, w1, w2, w3, w4, w5, w6⟩ := line_prev hg hN hjb hb hr hbl.1 r5 (hbl.2.2.trans e.symm)
            have e2 : fileOf w = fileOf u := by rw [w5, eu]
            have hkj := good_file hg w3 hu e2
            subst hkj
            have : jb = k' := by omega
            subst this
            rw [hb] at hu; cases hu; rfl
    rw [lnStep, key]
    cases h : inLn d f r with
    | true => simp [h]
    | false => simp [h]
theorem lnP_mem {f : Fil} {u : Rev} : u ∈ lnP d f ↔ u ∈ d.revs ∧ ¬ u.act = 5 ∧ first d u = f := by
  unfold lnP
  have hfirst : ∀ (n k : Nat) (u : Rev), k < n → d.revs[k]? = some u → ¬ u.act = 5 → ∃ (j : Nat) (v : Rev), d.revs[j]? = some v ∧ v.act = 1 ∧ fileOf v = first d u := by
    intro n
    induction n with
    | zero => intro k u hk; omega
    | succ n ih =>
      intro k u hk hu u5
      by_cases u1 : u.act = 1
      · exact ⟨k, u, hu, u1, (first_none (prev?_one u1)).symm⟩
      · obtain ⟨j, w, hj, hw, ew, w5⟩ := bef_ex hg hN hu u1
        obtain ⟨i, v, h1, h2, h3⟩ := ih j w (by omega) hw w5
        exact ⟨i, v, h1, h2, by rw [h3, (first_next hg hN hu hw u5 u1 ew).1]⟩
  constructor
  · intro h
    cases hgt : get? d f.path f.num with
    | none => rw [hgt] at h; simp at h
    | some v =>
      rw [hgt] at h
      simp only at h
      split at h
      · rename_i v1
        obtain ⟨iv, hv, ev⟩ := (get?_iff hg).1 hgt
        have ht := ln_take hg hN hv ev v1 d.revs.length (Nat.le_refl _)
        rw [List.take_length] at ht
        rw [ht] at h
        rcases List.mem_cons.1 h with rfl | h
        · exact ⟨List.mem_of_getElem? hv, by omega, by rw [first_none (prev?_one v1)]; exact ev⟩
        · obtain ⟨h1, h2⟩ := List.mem_filter.1 h
          simp only [inLn, decide_eq_true_eq] at h2
          exact ⟨h1, h2.1, h2.2.2⟩
      · simp at h
  · rintro ⟨h1, u5, hf⟩
    obtain ⟨k, hk⟩ := List.getElem?_of_mem h1
    obtain ⟨iv, v, hv, v1, ev⟩ := hfirst (k + 1) k u (by omega) hk u5
    rw [hf] at ev
    rw [(get?_iff hg).2 ⟨iv, hv, ev⟩]
    simp only [v1, if_true]
    have ht := ln_take hg hN hv ev v1 d.revs.length (Nat.le_refl _)
    rw [List.take_length] at ht
    rw [ht]
    by_cases u1 : u.act = 1
    · have e1 : fileOf u = fileOf v := by rw [first_none (prev?_one u1)] at hf; rw [hf, ev]
      have := good_file hg hk hv e1
      subst this; rw [hk] at hv; cases hv; simp
    · exact List.mem_cons_of_mem _ (List.mem_filter.2 ⟨h1, by simp only [inLn, decide_eq_true_eq]; exact ⟨u5, u1, hf⟩⟩)
end
end Go.Proofs.YtbllfnmabmamfaaGreatDoor

/- The greatest revision of a path, as the program finds it. -/
namespace Go.Proofs.YtbllfnmabmamfaaGreatDoor
open Go.Ab
def grStep (q : Rev → Bool) (acc : Option Rev) (r : Rev) : Option Rev := if q r && (match acc with | none => true | some f => decide (f.num < r.num)) then some r else acc
def grt (q : Rev → Bool) (l : List Rev) : Option Rev := l.foldl (grStep q) none
theorem grt_path {l : List Rev} (p : ByteArray) (h : ∀ (i j : Nat) (u v : Rev), i < j → l[i]? = some u → l[j]? = some v → u.path = v.path → u.num < v.num) :
    grt (fun r => decide (r.path = p)) l = (l.filter fun r => decide (r.path = p)).getLast? := by
  have : ∀ k, k ≤ l.length → (l.take k).foldl (grStep fun r => decide (r.path = p)) none = ((l.take k).filter fun r => decide (r.path = p)).getLast? := by
    intro k
    induction k with
    | zero => simp
    | succ k ih =>
      intro hk
      have hr : l[k]? = some l[k] := List.getElem?_eq_getElem (by omega)
      have ht : l.take (k + 1) = l.take k ++ [l[k]] := by rw [List.take_add_one, hr]; rfl
      rw [ht, List.foldl_append, ih (by omega), List.foldl_cons, List.foldl_nil]
      have hA := (lastF (fun r : Rev => decide (r.path = p)) (l.take k)).1
      by_cases hp : l[k].path = p
      · have e : ((l.take k ++ [l[k]]).filter fun r => decide (r.path = p)).getLast? = some l[k] := by
          rw [List.filter_append, show [l[k]].filter (fun r => decide (r.path = p)) = [l[k]] by simp [hp], List.getLast?_append]; rfl
        rw [e]
        cases hf : ((l.take k).filter fun r => decide (r.path = p)).getLast? with
        | none => simp [grStep, hp]
        | some f =>
          obtain ⟨j, g1, g2, _⟩ := hA f hf
          have hjk : j < k := by have := (List.getElem?_eq_some_iff.1 g1).1; simp at this; omega
          rw [List.getElem?_take, if_pos hjk] at g1
          have := h j k f l[k] hjk g1 hr (by rw [hp]; simpa using g2)
          simp [grStep, hp, this]
      · have e : (l.take k ++ [l[k]]).filter (fun r => decide (r.path = p)) = (l.take k).filter fun r => decide (r.path = p) := by
          rw [List.filter_append, show [l[k]].filter (fun r => decide (r.path = p)) = [] by simp [hp], List.append_nil]
        rw [e]
        simp [grStep, hp]
  have := this l.length (Nat.le_refl _)
  rw [List.take_length] at this
  exact this
theorem grt_last {d : Dep} (hg : Good d.revs) (p : ByteArray) : grt (fun r => decide (r.path = p)) d.revs = last? d p :=
  grt_path p fun i j u v hij hu hv e => (hg.path i j u v hij hu hv e).2
theorem grt_num (q : Rev → Bool) (n : Int) : ∀ (l : List Rev), grt (fun r => q r && decide (r.num = n)) l = (l.filter q).find? fun r => decide (r.num = n) := by
  have stay : ∀ (l : List Rev) (f : Rev), f.num = n → l.foldl (grStep fun r => q r && decide (r.num = n)) (some f) = some f := by
    intro l f hf
    induction l with
    | nil => rfl
    | cons r l ih =>
      rw [List.foldl_cons, show grStep (fun r => q r && decide (r.num = n)) (some f) r = some f from ?_, ih]
      unfold grStep
      rw [if_neg]
      simp only [Bool.and_eq_true, decide_eq_true_eq]
      rintro ⟨⟨_, h1⟩, h2⟩; omega
  intro l
  unfold grt
  induction l with
  | nil => rfl
  | cons r l ih =>
    rw [List.foldl_cons, List.filter_cons]
    conv => lhs; arg 2; unfold grStep
    by_cases hq : q r = true
    · rw [if_pos hq, List.find?_cons]
      by_cases hn : r.num = n
      · simp only [hq, hn, decide_true, Bool.and_true, if_true]; exact stay l r hn
      · simp only [hq, hn, decide_false, Bool.and_false, Bool.false_and, Bool.false_eq_true, if_false]; exact ih
    · rw [if_neg hq]
      have : q r = false := by simpa using hq
      simp only [this, Bool.false_and, Bool.false_eq_true, if_false]; exact ih
theorem grt_get (d : Dep) (p : ByteArray) (n : Int) : grt (fun r => decide (r.path = p) && decide (r.num = n)) d.revs = get? d p n := grt_num _ n d.revs
end Go.Proofs.YtbllfnmabmamfaaGreatDoor

/- Tasks, and by what they are carried out. -/
namespace Go.Proofs.YtbllfnmabmamfaaGreatDoor
open Go.Ab
structure Tsk where
  kind : Int
  lpath : ByteArray
  lnum : Int
  frm : ByteArray
  first : Int
  last : Int
  to : ByteArray
  head : Int
  bpath : ByteArray
  bnum : Int
  move : ByteArray
structure Rsn where
  base : Int
  kw : Bool
  ex : Bool
  xe : Bool
  sum : Int
  size : Int
  mv : Bool
@[reducible] def encTsk (t : Tsk) : List D := [.v (.int .i64 t.kind), .v (.string t.lpath), .v (.int .i64 t.lnum), .v (.string t.frm), .v (.int .i64 t.first), .v (.int .i64 t.last), .v (.string t.to), .v (.int .i64 t.head), .v (.string t.bpath), .v (.int .i64 t.bnum), .v (.string t.move)]
@[reducible] def aTsk (t : Tsk) : AV := .agg ((encTsk t).map C.d)
@[reducible] def encRsn (w : Rsn) : List D := [.v (.int .i64 w.base), .v (.bool w.kw), .v (.bool w.ex), .v (.bool w.xe), .v (.int .u64 w.sum), .v (.int .i64 w.size), .v (.bool w.mv)]
@[reducible] def aRsn (w : Rsn) : AV := .agg ((encRsn w).map C.d)
@[reducible] def encPrb (d : Dep) (t : Tsk) (s h : Rev) : List D := encDep d ++ encTsk t ++ encRev s ++ encRev h
def Tsk.line (t : Tsk) : Fil := ⟨t.lpath, t.lnum⟩
@[reducible] def noS : ByteArray := { data := #[] }
def usableB (p : ByteArray) : Bool := (path? p).isSome && decide (p.size ≤ 200)
def idn (d : Dep) (p : ByteArray) (n : Int) : Option Fil := (member? d p n).map (first d)
def RunOK (d : Dep) (t : Tsk) : Prop := ∀ n : Int, t.first ≤ n → n ≤ t.last → idn d t.frm n = some t.line
def srcR (d : Dep) (t : Tsk) : Rev := (get? d t.frm t.last).getD zRev
def tgtR (d : Dep) (t : Tsk) : Rev := (last? d t.to).getD zRev
def delB (d : Dep) (t : Tsk) : Bool := decide ((srcR d t).act = 3)
def movB (d : Dep) (t : Tsk) : Bool := decide (t.move = noS) || (usableB t.move && !live d t.move && !decide (t.move = t.to))
def kindB (d : Dep) (t : Tsk) : Bool := if t.kind = 1 then !live d t.to && !delB d t && decide (t.move = noS) else live d t.to && !decide (idn d t.to t.head = some t.line) && (delB d t == decide (t.kind = 3)) && movB d t
structure Fits (d : Dep) (t : Tsk) : Prop where
  kind : 1 ≤ t.kind ∧ t.kind ≤ 3
  lo : 1 ≤ t.first
  le : t.first ≤ t.last
  run : RunOK d t
  use : usableB t.to = true
  head : lastNum d t.to = t.head
  rest : kindB d t = true
open Classical in
noncomputable def fitsB (d : Dep) (t : Tsk) : Bool := decide (Fits d t)
def allowB (k ch : Int) : Bool := if k = 1 then decide (ch = 2) else if k = 3 then decide (ch = 1) || decide (ch = 2) else decide (1 ≤ ch) && decide (ch ≤ 4)
def permB (t : Tsk) (ch : Int) (w : Rsn) : Bool := !(w.mv && (decide (t.move = noS) || decide (ch = 1) || decide (t.kind = 3))) && (if ch = 3 ∨ ch = 4 then !typBad w.base w.kw w.xe && decide (0 ≤ w.size) else true)
def resE (d : Dep) (t : Tsk) (ch : Int) (w : Rsn) : Edt × Int :=
  let s := srcR d t
  let h := tgtR d t
  let mk := fun (a : Int) (v : Rev) (sm sz : Int) => (⟨t.to, a, v.base, v.kw, v.ex, v.xe, sm, sz, t.head, noS, 0, 0⟩ : Edt)
  if t.kind = 1 then (mk 1 s s.sum s.size, 1)
  else if ch = 1 then (mk 2 h h.sum h.size, 3)
  else if t.kind = 3 then (mk 3 h 0 0, 1)
  else if ch = 2 then (mk 2 s s.sum s.size, 1)
  else (⟨t.to, 2, w.base, w.kw, w.ex, w.xe, w.sum, w.size, t.head, noS, 0, 0⟩, if ch = 4 then 4 else 2)
def awayE (d : Dep) (t : Tsk) : Edt := ⟨t.to, 5, (tgtR d t).base, (tgtR d t).kw, (tgtR d t).ex, (tgtR d t).xe, 0, 0, t.head, noS, 0, 0⟩
def hereE (d : Dep) (t : Tsk) (e : Edt) : Edt := ⟨t.move, 4, e.base, e.kw, e.ex, e.xe, e.sum, e.size, lastNum d t.move, t.to, t.head, e.fence⟩
def movE (d : Dep) (t : Tsk) (e : Edt) : List Edt := if ord t.to t.move < 0 then [awayE d t, hereE d t e] else [hereE d t e, awayE d t]
def resEs (d : Dep) (t : Tsk) (ch : Int) (w : Rsn) : List Edt := if w.mv then movE d t (resE d t ch w).1 else [(resE d t ch w).1]
def resRc (d : Dep) (t : Tsk) (ch : Int) (w : Rsn) : Rcd := ⟨t.frm, t.first, t.last, if w.mv then t.move else t.to, if w.mv then lastNum d t.move + 1 else t.head + 1, (resE d t ch w).2⟩
@[reducible] def nilP : Bool × List C := (false, [.d (.v (.slice none 0 0))])
noncomputable def resA (d : Dep) (t : Tsk) (ch : Int) (w : Rsn) : AV :=
  if fitsB d t then
    if allowB t.kind ch && permB t ch w then .tup [(false, [.d (.ps 12 ((resEs d t ch w).map encEdt))]), (false, [.d (.ps 6 [encRcd (resRc d t ch w)])]), pI 0]
    else .tup [nilP, nilP, pI 171]
  else .tup [nilP, nilP, pI 170]
def NumOK (d : Dep) : Prop := ∀ v ∈ d.revs, v.num ≤ (log d v.path).length
theorem NumOK.last {d : Dep} (h : NumOK d) (p : ByteArray) : lastNum d p ≤ (log d p).length := by
  unfold lastNum
  cases hl : last? d p with
  | none => simp [zRev]
  | some v =>
    obtain ⟨j, h1, h2, _⟩ := last_some hl
    have := h v (List.mem_of_getElem? h1)
    rw [h2] at this; exact this
theorem numOK_app {d : Dep} {c : Chg} (hg : Good d.revs) (hN : d.revs.length ≤ 512) (h : NumOK d) (hk : ChkOK d c) : NumOK (appD d c) := by
  intro v hv
  have hlog : (log (appD d c) v.path).length = (log d v.path).length + ((c.edits.map (made c)).filter fun u => decide (u.path = v.path)).length := by
    simp only [log, appD, List.filter_append, List.length_append]
  simp only [appD, List.mem_append] at hv
  rcases hv with hv | hv
  · have := h v hv; rw [hlog]; omega
  · have hpos : 0 < ((c.edits.map (made c)).filter fun u => decide (u.path = v.path)).length := List.length_pos_of_mem (List.mem_filter.2 ⟨hv, by simp⟩)
    obtain ⟨e, he, rfl⟩ := List.mem_map.1 hv
    obtain ⟨i, hi, e2⟩ := List.mem_iff_getElem.1 he
    have hE := hk.edit i hi
    rw [show c.edits.getD i zEdt = e by simp [List.getD, hi, e2]] at hE
    have h1 := hE.okPrev
    have h2 := lastNum_le hg e.path
    have h3 := h.last e.path
    have hw : wr (e.prev + 1) = e.prev + 1 := wr_id (by omega) (by omega)
    rw [hlog]
    simp only [made] at hpos ⊢
    rw [hw]
    omega
theorem Built.numOK {l : List Chg} {d : Dep} (h : Built l d) : NumOK d := by
  induction h with
  | nil => intro r hr; simp [zDep] at hr
  | skip c h ih => exact ih
  | app h hc hk ih => exact numOK_app h.good h.ok.1 ih hk
theorem idn_iff {d : Dep} (hg : Good d.revs) {p : ByteArray} {n : Int} {f : Fil} : idn d p n = some f ↔ ∃ (j : Nat) (v : Rev), d.revs[j]? = some v ∧ fileOf v = ⟨p, n⟩ ∧ ¬ v.act = 5 ∧ first d v = f := by
  simp only [idn, Option.map_eq_some_iff]
  constructor
  · rintro ⟨v, h1, h2⟩
    obtain ⟨j, a, b, c⟩ := (member?_iff hg (f := ⟨p, n⟩)).1 h1
    exact ⟨j, v, a, b, c, h2⟩
  · rintro ⟨j, v, a, b, c, e⟩
    exact ⟨v, (member?_iff hg (f := ⟨p, n⟩)).2 ⟨j, a, b, c⟩, e⟩
theorem idn_line {d : Dep} (hg : Good d.revs) (hN : d.revs.length ≤ 512) {p : ByteArray} {n : Int} {f : Fil} : idn d p n = some f ↔ (⟨p, n⟩ : Fil) ∈ (lnP d f).map fileOf := by
  rw [idn_iff hg, List.mem_map]
  constructor
  · rintro ⟨j, v, a, b, c, e⟩
    exact ⟨v, (lnP_mem hg hN).2 ⟨List.mem_of_getElem? a, c, e⟩, b⟩
  · rintro ⟨v, h, b⟩
    obtain ⟨h1, h2, h3⟩ := (lnP_mem hg hN).1 h
    obtain ⟨j, hj⟩ := List.getElem?_of_mem h1
    exact ⟨j, v, hj, b, h2, h3⟩
theorem idn_num {d : Dep} (hg : Good d.revs) (hn : NumOK d) {p : ByteArray} {n : Int} {f : Fil} (h : idn d p n = some f) : 1 ≤ n ∧ n ≤ (log d p).length ∧ n ≤ d.revs.length := by
  obtain ⟨j, v, a, b, c, e⟩ := (idn_iff hg).1 h
  have h1 := hg.num j v a
  have h2 := hn v (List.mem_of_getElem? a)
  have hj := (List.getElem?_eq_some_iff.1 a).1
  have b1 : v.path = p := congrArg Fil.path b
  have b2 : v.num = n := congrArg Fil.num b
  rw [b1] at h2
  omega
theorem fits_run {d : Dep} (hg : Good d.revs) (hn : NumOK d) {t : Tsk} (h1 : t.first ≤ t.last) (h : RunOK d t) : 1 ≤ t.first ∧ t.last ≤ (log d t.frm).length ∧ t.last ≤ d.revs.length := by
  have a := idn_num hg hn (h t.first (by omega) (by omega))
  have b := idn_num hg hn (h t.last (by omega) (by omega))
  omega
theorem line_num {d : Dep} (hg : Good d.revs) (hN : d.revs.length ≤ 512) {p : ByteArray} {n : Int} {f : Fil} (h : idn d p n = some f) : 1 ≤ f.num := by
  have h2 := (idn_line hg hN).1 h
  unfold lnP at h2
  cases hgt : get? d f.path f.num with
  | none => rw [hgt] at h2; simp at h2
  | some v =>
    obtain ⟨j, hj, e⟩ := (get?_iff hg).1 hgt
    have := hg.num j v hj
    have e2 : v.num = f.num := congrArg Fil.num e
    omega
@[reducible] def encN (n : Int) : List D := [.v (.int .i64 n)]
def chL (k : Int) : List Int := if k = 1 then [2] else if k = 3 then [1, 2] else [1, 2, 3, 4]
theorem chL_any (k ch : Int) (h : 1 ≤ k ∧ k ≤ 3) : (chL k).any (fun c => decide (c = ch)) = allowB k ch := by
  unfold chL allowB
  by_cases h1 : k = 1
  · rw [if_pos h1, if_pos h1, Bool.eq_iff_iff]; simp; omega
  · rw [if_neg h1, if_neg h1]
    by_cases h3 : k = 3
    · rw [if_pos h3, if_pos h3, Bool.eq_iff_iff]; simp; omega
    · rw [if_neg h3, if_neg h3, Bool.eq_iff_iff]; simp; omega
theorem chL_len (k : Int) : (chL k).length ≤ 4 := by
  unfold chL
  split
  · simp
  · split <;> simp
end Go.Proofs.YtbllfnmabmamfaaGreatDoor

/- The tasks that fit, as the program looks for them. -/
namespace Go.Proofs.YtbllfnmabmamfaaGreatDoor
open Go.Ab
theorem live_eq (d : Dep) (p : ByteArray) : live d p = ((last? d p).isSome && !gone ((last? d p).getD zRev)) := by
  unfold live
  cases last? d p <;> simp
def kindFB (k : Int) (s : Rev) (lv on : Bool) : Bool := if k = 1 then !lv && !decide (s.act = 3) else if k = 2 then lv && !on && !decide (s.act = 3) else if k = 3 then lv && !on && decide (s.act = 3) else false
def moveFB (d : Dep) (t : Tsk) : Bool := decide (t.move = noS) || (!decide (t.kind = 1) && usableB t.move && !decide (t.move = t.to) && !live d t.move)
theorem lnS_len : ∀ (l acc : List Rev), (l.foldl lnStep acc).length ≤ acc.length + l.length
  | [], acc => by simp
  | r :: l, acc => by
    have := lnS_len l (lnStep acc r)
    have h2 : (lnStep acc r).length ≤ acc.length + 1 := by unfold lnStep; split <;> simp
    simp only [List.foldl_cons, List.length_cons]; omega
theorem lnP_len {d : Dep} (hN : d.revs.length ≤ 512) (f : Fil) : (lnP d f).length ≤ 600 := by
  unfold lnP
  split
  · rename_i v _
    split
    · have := lnS_len d.revs [v]; simp at this; omega
    · simp
  · simp
theorem kindFB_on {k : Int} {s : Rev} {lv on on' : Bool} (h : lv = true → on = on') : kindFB k s lv on = kindFB k s lv on' := by
  cases lv with
  | true => rw [h rfl]
  | false => simp [kindFB]
theorem open_on {d : Dep} (hg : Good d.revs) (hN : d.revs.length ≤ 512) {t : Tsk} {s : List Fil} (hs : ∀ f, f ∈ s ↔ f ∈ (lnP d t.line).map fileOf) (hh : lastNum d t.to = t.head) (hl : live d t.to = true) :
    decide ((⟨(tgtR d t).path, (tgtR d t).num⟩ : Fil) ∈ s) = decide (idn d t.to t.head = some t.line) := by
  unfold live at hl
  cases hv : last? d t.to with
  | none => rw [hv] at hl; cases hl
  | some v =>
    obtain ⟨j, h1, h2, _⟩ := last_some hv
    have e : tgtR d t = v := by simp [tgtR, hv]
    have e2 : v.num = t.head := by rw [← hh]; simp [lastNum, hv]
    rw [e, h2, e2, Bool.eq_iff_iff, decide_eq_true_eq, decide_eq_true_eq, hs, idn_line hg hN]
theorem open_eq {d : Dep} {t : Tsk} (c1 : 1 ≤ t.first) (c2 : t.first ≤ t.last) (hu : usableB t.to = true) (hr : RunOK d t) (hh : lastNum d t.to = t.head) :
    fitsB d t = (kindFB t.kind (srcR d t) (live d t.to) (decide (idn d t.to t.head = some t.line)) && moveFB d t) := by
  have hF : Fits d t ↔ (1 ≤ t.kind ∧ t.kind ≤ 3) ∧ kindB d t = true := ⟨fun h => ⟨h.kind, h.rest⟩, fun h => ⟨h.1, c1, c2, hr, hu, hh, h.2⟩⟩
  have hf : fitsB d t = true ↔ Fits d t := by simp [fitsB]
  rw [Bool.eq_iff_iff, hf, hF]
  by_cases k1 : t.kind = 1
  · simp [kindB, kindFB, moveFB, delB, k1]
  by_cases k2 : t.kind = 2
  · simp only [kindB, kindFB, moveFB, movB, delB, k1, k2, if_false, if_true, decide_false, Bool.not_false, Bool.true_and]
    generalize live d t.to = a; generalize decide (idn d t.to t.head = some t.line) = b; generalize decide (t.move = noS) = c; generalize usableB t.move = e; generalize live d t.move = g; generalize decide (t.move = t.to) = i
    generalize decide ((srcR d t).act = 3) = j
    cases a <;> cases b <;> cases c <;> cases e <;> cases g <;> cases i <;> cases j <;> simp
  by_cases k3 : t.kind = 3
  · simp only [kindB, kindFB, moveFB, movB, delB, k1, k2, k3, if_false, if_true, decide_false, Bool.not_false, Bool.true_and]
    generalize live d t.to = a; generalize decide (idn d t.to t.head = some t.line) = b; generalize decide (t.move = noS) = c; generalize usableB t.move = e; generalize live d t.move = g; generalize decide (t.move = t.to) = i
    generalize decide ((srcR d t).act = 3) = j
    cases a <;> cases b <;> cases c <;> cases e <;> cases g <;> cases i <;> cases j <;> simp
  · have : kindFB t.kind (srcR d t) (live d t.to) (decide (idn d t.to t.head = some t.line)) = false := by simp [kindFB, k1, k2, k3]
    rw [this]
    simp; omega
end Go.Proofs.YtbllfnmabmamfaaGreatDoor
