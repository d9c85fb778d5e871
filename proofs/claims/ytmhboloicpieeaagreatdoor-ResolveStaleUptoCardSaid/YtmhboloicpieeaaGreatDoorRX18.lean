/- A part of the proof. -/
import Derived.Test.YtmhboloicpieeaaGreatDoorRX10
set_option linter.all false
namespace Go.Proofs.YtmhboloicpieeaaGreatDoor
open Go.Ab Tys
theorem tgtK_skip {d : Dep} {m : List Etr} {ln : List Rev} {k : Nat} (h : k + 1 < ln.length) (he : (ln.getD (k + 1) zRev).path = (ln.getD k zRev).path) : tgtK d m ln (k + 1) = tgtK d m ln k := by
 rw [tgtK, if_pos ⟨h, he⟩]
theorem tgtK_none {d : Dep} {m : List Etr} {ln : List Rev} {k : Nat} (h : ¬ (k + 1 < ln.length ∧ (ln.getD (k + 1) zRev).path = (ln.getD k zRev).path)) (ht : tgtAt d m (fileOf (ln.getD 0 zRev)) (ln.getD k zRev).path = none) : tgtK d m ln (k + 1) = tgtK d m ln k := by
 rw [tgtK, if_neg h, ht]
theorem tgtK_found {d : Dep} {m : List Etr} {ln : List Rev} {k : Nat} {w : Rev} (h : ¬ (k + 1 < ln.length ∧ (ln.getD (k + 1) zRev).path = (ln.getD k zRev).path)) (ht : tgtAt d m (fileOf (ln.getD 0 zRev)) (ln.getD k zRev).path = some w) : tgtK d m ln (k + 1) = some (w, (ln.getD k zRev).path) := by
 rw [tgtK, if_neg h, ht]
theorem getD_is {α : Type} {l : List α} {k : Nat} {v z : α} (h : l[k]? = some v) : l.getD k z = v := by rw [List.getD_eq_getElem?_getD, h]; rfl
theorem rev_ext {x w : Rev} (h1 : x.path = w.path) (h2 : x.num = w.num) (h3 : x.chg = w.chg) (h4 : x.act = w.act) (h5 : x.base = w.base) (h6 : x.kw = w.kw) (h7 : x.ex = w.ex) (h8 : x.xe = w.xe) (h9 : x.sum = w.sum) (h10 : x.size = w.size) (h11 : x.frm = w.frm) (h12 : x.fnum = w.fnum) : x = w := by
 cases x; cases w; simp_all
theorem path0 (l : List Rev) (i : Nat) : ((l.map encRev).getD i []).getD 0 (D.v (.string ByteArray.empty)) = D.v (.string (l.getD i zRev).path) := by
 simp only [List.getD_eq_getElem?_getD, List.getElem?_map]
 cases l[i]? <;> rfl
variable [DrF]
def k31 := And.intro @Tryz.ntmps31 <| And.intro @Tryz.underlying27 <| And.intro @bld30 <| And.intro @bld37 <| And.intro @bld46 <| And.intro @elt27 <| And.intro @eqt37 <| And.intro @eqt46 <| And.intro @fld46_0 <| And.intro @fld46_1 <| And.intro @fld46_3 <| And.intro @ti27 <| And.intro @ti3 <| And.intro @ti30 <| And.intro @ti37 <| And.intro @ti46 <| @ti9
theorem v31X18 {G G' : Prop} (g : G') (h : Hid G' → G := by intro h9; (first | refine nvB ?_ | refine goA (wr := false) (by simp only [kB, kG, kS, k31, Nat.reduceAdd, Nat.reduceLT, Nat.reduceEqDiff, ↓reduceIte, reduceCtorEq]; first | done | rfl) ?_); (repeat (first | refine nvB ?_ | refine goA (wr := false) (by simp only [kB, kG, kS, k31, Nat.reduceAdd, Nat.reduceLT, Nat.reduceEqDiff, ↓reduceIte, reduceCtorEq]; first | done | rfl) ?_)); exact h9.out) : G := h ⟨g⟩
set_option maxRecDepth 100000 in
set_option maxHeartbeats 16000000 in
theorem target_ac (d : Dep) (hg : Good d.revs) (hN : d.revs.length ≤ 512) (m : List Etr) (hm : m.length ≤ 1000000) (hb : ∀ e ∈ m, EB 100000 e) (ln : List Rev) (h0 : 0 < ln.length) (hl : ln.length ≤ 512) (hpt : ∀ v ∈ ln, v.path.size ≤ 100000) :
  AC Tryz.prog 31 [aDep d, aEtrs m, aRevs ln] [] (fun r st => r = aTgt (tgtF d m ln) ∧ st = []) := by
 obtain ⟨v0, hv0, he0, _⟩ := round encRev ln 0 zRev h0
 have hg0 : ln.getD 0 zRev = v0 := getD_is hv0
 have hfile := file_ac v0
 have hself : fileOf (ln.getD 0 zRev) = fileOf v0 := by rw [hg0]
 have hskip := fun k => @tgtK_skip d m ln k
 have hnone := fun k => @tgtK_none d m ln k
 have hfound := fun k w => @tgtK_found d m ln k w
 rw [hself] at hnone hfound
 have hF : tgtF d m ln = tgtK d m ln ln.length := rfl
 generalize tgtF d m ln = R at hF
 generalize hsf : fileOf v0 = self at hfile hnone hfound
 refine AC_enter Tryz.func31 rfl rfl (by simp only [Tryz.ntmps31, List.length]; omega) ?_
 intro x hx
 simp only [List.range, List.range.loop, List.length, List.zip, List.zipWith, Nat.reduceAdd, Tryz.ntmps31]
 have e00 : Int.toNat 0 = 0 := rfl
 (repeat (first | refine nvB ?_ | refine goA (wr := false) (by simp only [kB, kG, kS, k31, Nat.reduceAdd, Nat.reduceLT, Nat.reduceEqDiff, ↓reduceIte, reduceCtorEq, e00, he0]; first | done | rfl) ?_ | (refine caA [] (hfile) ?_; rintro r st' ⟨rfl, rfl⟩; refine frA ?_)))
 refine T_loop (ι := Nat) (I := fun k => ⟨112, [(1, aEtrs m), (2, aRevs ln), (3, .c (.ptr 3 0)), (6, .c (.ptr 6 0)), (9, .c (.ptr 9 0)), (10, I .i64 ((k : Int) - 1))], [(3, .box ((encDep d).map C.d)), (6, .box ((encRev zRev).map C.d)), (9, .box ((encFil self).map C.d))]⟩)
  (Inv := fun k => k ≤ ln.length ∧ R = tgtK d m ln k) (μ := fun k => k) ln.length ⟨Nat.le_refl _, hF⟩ ?_ ?_
 ·(refine Ent_sub (fun i => i) rfl ?_ ⟨?_, ?_, ?_, keepI hx (by simp [domOf, Ab.get])⟩ <;> first | (simp only [kE, dArr, ↓reduceIte, Nat.reduceEqDiff, reduceCtorEq, zRev]; done) | simp [renAV_id, renAO_id, flat_up, Ab.get, clAV, clC, clCs, clAO, cl_f1, cl_s1, cl_f2, cl_s2, cl_a1, domOf, List.flatten, zRev])
 rintro k ⟨hk, hK⟩
 try refine v31X18 ?_
 refine ifA ?_ ?_
 ·intro hge
  obtain ⟨j, rfl⟩ : ∃ j, k = j + 1 := by
   cases k with
   | zero => simp at hge
   | succ j => exact ⟨j, rfl⟩
  have hj : j < ln.length := by omega
  have ej : (((j + 1 : Nat)) : Int) - 1 = (j : Int) := by omega
  simp only [ej]
  obtain ⟨v, hv, he, _⟩ := round encRev ln j zRev hj
  have hgv : ln.getD j zRev = v := getD_is hv
  have hpv := hpt v (List.mem_of_getElem? hv)
  have hnone := hnone j
  have hfound := hfound j
  have hskip := hskip j
  rw [hgv] at hnone hfound hskip
  have e1 : (((j : Nat) : Int) + 1).toNat = j + 1 := by omega
  (repeat (first | refine nvB ?_ | refine goA (wr := false) (by simp only [kB, kG, kS, k31, Nat.reduceAdd, Nat.reduceLT, Nat.reduceEqDiff, ↓reduceIte, reduceCtorEq, he, e1, path0 ln]; first | done | rfl) ?_))
  refine ifA ?_ ?_
  ·intro hc
   have hc' : j + 1 < ln.length ∧ (ln.getD (j + 1) zRev).path = v.path := by
    by_cases hn : j + 1 < ln.length
    ·have : ((j : Nat) : Int) + 1 < ((ln.length : Nat) : Int) := by omega
     exact ⟨hn, by simpa [this] using hc⟩
    ·have : ¬ ((j : Nat) : Int) + 1 < ((ln.length : Nat) : Int) := by omega
     simp [this] at hc
   try refine v31X18 ?_
   refine ⟨j, ⟨by omega, by rw [hK, hskip hc'.1 hc'.2]⟩, by omega, ?_⟩
   exact enA
  intro hc
  have hc' : ¬ (j + 1 < ln.length ∧ (ln.getD (j + 1) zRev).path = v.path) := by
   rintro ⟨hn, hp⟩
   have : ((j : Nat) : Int) + 1 < ((ln.length : Nat) : Int) := by omega
   rw [hp] at hc
   simp [this] at hc
  have hnone := hnone hc'
  have hfound := fun w => hfound w hc'
  have hby := by_ac m hm hb v.path (by omega)
  have htd : tgtAt d m self v.path = if (byE m v.path).2 = true then (match uOf d (byE m v.path).1 with
   | none => none
   | some u => if ¬ first d u = self ∧ (last? d (lastM d u).path).getD zRev = lastM d u then some (lastM d u) else none) else none := rfl
  generalize (byE m v.path).1 = t at hby htd
  generalize (byE m v.path).2 = b at hby htd
  (repeat (first | refine v31X18 ?_ | (refine caA [] (hby) ?_; rintro r st' ⟨rfl, rfl⟩; refine frA ?_)))
  refine ifA ?_ ?_
  ·intro hb0
   have hb' : b = false := by simpa using hb0
   rw [hb'] at htd
   try refine v31X18 ?_
   refine ⟨j, ⟨by omega, by rw [hK, hnone htd]⟩, by omega, ?_⟩
   exact enA
  intro hb0
  have hb' : b = true := by simpa using hb0
  rw [hb', if_pos rfl] at htd
  have hla := last_ac d t (by omega)
  (repeat (first | refine v31X18 ?_ | (refine caA [] (hla) ?_; rintro r st' ⟨rfl, rfl⟩; refine frA ?_)))
  refine T_joinE (ι := Option Rev) (fun o => ⟨112, [(1, aEtrs m), (2, aRevs ln), (3, .c (.ptr 3 0)), (6, .c (.ptr 6 0)), (9, .c (.ptr 9 0)), (10, I .i64 (j : Int)), (11, Str v.path), (13, B o.isSome), (14, .c (.ptr 14 0))],
    [(3, .box ((encDep d).map C.d)), (6, .box ((encRev zRev).map C.d)), (9, .box ((encFil self).map C.d)), (14, .box ((encRev (o.getD zRev)).map C.d))]⟩) (fun o => o = uOf d t) ?_ ?_
  ·unfold uOf
   cases hlt2 : last? d t with
   | none =>
     simp only [Option.isSome_some, Option.getD_some, Option.isSome_none, Option.getD_none]
     refine ifA ?_ ?_
     ·intro h; simp at h
     intro _
     refine nvA ?_
     refine ⟨rfl, none, rfl, ?_⟩
     (refine Ent_sub (fun i => i) rfl ?_ ⟨?_, ?_, ?_, keepI hx (by simp [domOf, Ab.get])⟩ <;> first | (simp only [kE, dArr, ↓reduceIte, Nat.reduceEqDiff, reduceCtorEq, zRev]; done) | simp [renAV_id, renAO_id, flat_up, Ab.get, clAV, clC, clCs, clAO, cl_f1, cl_s1, cl_f2, cl_s2, cl_a1, domOf, List.flatten, zRev])
   | some u =>
     simp only [Option.isSome_some, Option.getD_some, Option.isSome_none, Option.getD_none]
     refine ifA ?_ ?_
     ·intro h5
      have h5' : u.act = 5 := by simpa using h5
      have hub : 1 ≤ u.num ∧ u.num ≤ 512 := by
       obtain ⟨i, hi⟩ := List.getElem?_of_mem (last_mem hlt2).1
       have := hg.num i u hi
       have := (List.getElem?_eq_some_iff.1 hi).1
       omega
      (repeat (first | refine v31X18 ?_ | (refine caA [] (get_ac d t (u.num - 1) (by omega)) ?_; rintro r st' ⟨rfl, rfl⟩; refine frA ?_)))
      refine ⟨rfl, get? d t (u.num - 1), by rw [if_pos h5'], ?_⟩
      exact enA
     ·intro h5
      have h5' : ¬ u.act = 5 := by simpa using h5
      refine nvA ?_
      refine ⟨rfl, some u, by rw [if_neg h5'], ?_⟩
      exact enA
  rintro o ho
  try refine v31X18 ?_
  refine ifA ?_ ?_
  ·intro h
   have h' : o = none := by cases o with
    | none => rfl
    | some _ => simp at h
   rw [← ho, h'] at htd
   try refine v31X18 ?_
   refine ⟨j, ⟨by omega, by rw [hK, hnone htd]⟩, by omega, ?_⟩
   exact enA
  intro h
  obtain ⟨u, rfl⟩ : ∃ u, o = some u := by cases o with
   | none => simp at h
   | some u => exact ⟨u, rfl⟩
  obtain ⟨u1, u2⟩ := uOf_mem hg ho.symm
  rw [← ho] at htd
  simp only [Option.getD_some, Option.isSome_some] at htd ⊢
  have hlm := line_ne u1 u2
  have hfi := first_ac d u (by omega)
  have hli := Line_ac d (first d u) (by omega)
  have hlw : lastM d u = (line d (first d u)).getD ((line d (first d u)).length - 1) zRev := rfl
  have hle : (line d (first d u)).length ≤ 512 := Nat.le_trans (List.length_filter_le ..) hN
  have hel := getD_enc encRev (line d (first d u)) ((line d (first d u)).length - 1) zRev (by omega)
  rw [← hlw] at hel
  have hla2 := last_ac d (lastM d u).path (by omega)
  generalize (last? d (lastM d u).path).isSome = b2 at hla2
  generalize (last? d (lastM d u).path).getD zRev = x at hla2 htd
  generalize lastM d u = w at hel hla2 htd
  generalize line d (first d u) = L at hlm hli hle hel
  generalize first d u = f at hfi hli htd
  have hi : (((L.length : Nat) : Int) - 1).toNat = L.length - 1 := by omega
  (repeat (first | refine nvB ?_ | refine goA (wr := false) (by simp only [kB, kG, kS, k31, Nat.reduceAdd, Nat.reduceLT, Nat.reduceEqDiff, ↓reduceIte, reduceCtorEq, hi, hel]; first | done | rfl) ?_ | (refine caA [] (hfi) ?_; rintro r st' ⟨rfl, rfl⟩; refine frA ?_) | (refine caA [] (hli) ?_; rintro r st' ⟨rfl, rfl⟩; refine frA ?_) | (refine caA [] (hla2) ?_; rintro r st' ⟨rfl, rfl⟩; refine frA ?_)))
  refine ifA ?_ ?_
  ·intro hc
   have hc' : ¬ f = self ∧ x = w := by
    cases hcc : !(decide (f.path = self.path) && decide (f.num = self.num)) with
    | false => rw [hcc] at hc; cases hc
    | true =>
      rw [hcc] at hc
      simp only [cond_true, Bool.and_eq_true, decide_eq_true_eq] at hc
      obtain ⟨h1, h2, h3, h4, h5, h6, h7, h8, h9, h10, h11, h12⟩ := hc
      exact ⟨fun e => by rw [e] at hcc; simp at hcc, rev_ext h1 h2 h3 h4 h5 h6 h7 h8 h9 h10 h11 h12⟩
   rw [if_pos hc'] at htd
   try refine v31X18 ?_
   refine rtA (by simp only [kR, Tryz.results31, ↓reduceIte, Nat.reduceEqDiff, reduceCtorEq, effLoad, cellsOf, List.map, List.length_cons, List.length_nil, List.getD_cons_zero, List.getD_cons_succ, List.getD_nil, List.drop, List.take, splice, ti46]; first | done | rfl) ([]) ?_
   refine ⟨?_, rfl⟩
   rw [hK, hfound w htd]; rfl
  ·intro hc
   have hc' : ¬ (¬ f = self ∧ x = w) := by
    rintro ⟨h1, rfl⟩
    obtain ⟨f1, f2⟩ := f; obtain ⟨s1, s2⟩ := self
    simp_all
   rw [if_neg hc'] at htd
   try refine v31X18 ?_
   refine ⟨j, ⟨by omega, by rw [hK, hnone htd]⟩, by omega, ?_⟩
   exact enA
 intro hlt
 have hk0 : k = 0 := by have : ¬ 0 ≤ (k : Int) - 1 := by simpa using hlt
                        omega
 subst hk0
 try refine v31X18 ?_
 refine rtA (by simp only [kR, Tryz.results31, ↓reduceIte, Nat.reduceEqDiff, reduceCtorEq, effLoad, cellsOf, List.map, List.length_cons, List.length_nil, List.getD_cons_zero, List.getD_cons_succ, List.getD_nil, List.drop, List.take, splice, ti46]; first | done | rfl) ([]) ?_
 refine ⟨?_, rfl⟩
 rw [hK]; rfl
end Go.Proofs.YtmhboloicpieeaaGreatDoor
