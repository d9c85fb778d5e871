/- A part of the proof. -/
import Derived.Test.YtmhboloicpieeaaGreatDoorRR2
import Derived.Test.YtmhboloicpieeaaGreatDoorRU15
set_option linter.all false
namespace Go.Proofs.YtmhboloicpieeaaGreatDoor
open Go.Ab Tys
variable [Dr]
def k32 := And.intro @Tryz.ntmps32 <| And.intro @Tryz.underlying27 <| And.intro @Tryz.underlying70 <| And.intro @bld159 <| And.intro @bld30 <| And.intro @bld37 <| And.intro @bld46 <| And.intro @elt27 <| And.intro @elt70 <| And.intro @fld159_2 <| And.intro @fld159_3 <| And.intro @fld37_0 <| And.intro @fld37_1 <| And.intro @fld46_2 <| And.intro @kyt37 <| And.intro @mpt85 <| And.intro @ti157 <| And.intro @ti159 <| And.intro @ti27 <| And.intro @ti3 <| And.intro @ti30 <| And.intro @ti37 <| And.intro @ti46 <| And.intro @ti70 <| And.intro @ti85 <| @ti9
theorem v32R3 {G G' : Prop} (g : G') (h : Hid G' → G := by intro h9; (first | refine nvB ?_ | refine goA (wr := false) (by simp only [kB, kG, kS, kM, k32, Nat.reduceAdd, Nat.reduceLT, Nat.reduceEqDiff, ↓reduceIte, reduceCtorEq]; first | done | rfl) ?_); (repeat (first | refine nvB ?_ | refine goA (wr := false) (by simp only [kB, kG, kS, kM, k32, Nat.reduceAdd, Nat.reduceLT, Nat.reduceEqDiff, ↓reduceIte, reduceCtorEq]; first | done | rfl) ?_)); exact h9.out) : G := h ⟨g⟩
set_option maxRecDepth 100000 in
set_option maxHeartbeats 16000000 in
theorem remaining_ac (d : Dep) (hg : Good d.revs) (hn : d.revs.length ≤ 512) (A : List (Fil × SV)) (hA : SvOK A (SA d)) (hD : DomA d d.revs.length A) (s t : Fil) :
  AC Tryz.prog 32 [aDep d, .c (.d (.pm (mEnt kF vSV A))), aFil s, aFil t] [] (fun r st => r = remA d s t ∧ st = []) := by
 have h1 := Member_ac d s.path s.num (by omega)
 have h2 := Member_ac d t.path t.num (by omega)
 cases hs : member? d s.path s.num with
 | none =>
   rw [hs] at h1
   simp only [pRev, pB, Option.isSome, Option.getD] at h1
   generalize hmt : (member? d t.path t.num) = mt at h2
   generalize mt.getD zRev = tv at h2
   generalize mt.isSome = tb at h2
   refine AC_enter Tryz.func32 rfl rfl (by simp only [Tryz.ntmps32, List.length]; omega) ?_
   intro x hx
   simp only [List.range, List.range.loop, List.length, List.zip, List.zipWith, Nat.reduceAdd, Tryz.ntmps32]
   (repeat (first | refine v32R3 ?_ | (refine caA [] (h1) ?_; rintro r st' ⟨rfl, rfl⟩; refine frA ?_) | (refine caA [] (h2) ?_; rintro r st' ⟨rfl, rfl⟩; refine frA ?_)))
   refine ifA ?_ ?_
   rotate_left
   ·intro h; cases h
   intro _
   refine nvA ?_
   refine goA (wr := false) (by simp only [kB, kG, kS, kM, k32, Nat.reduceAdd, Nat.reduceLT, Nat.reduceEqDiff, ↓reduceIte, reduceCtorEq]; first | done | rfl) ?_
   refine TO_ent (Ent_nilSlot (i := 8) 2 rfl) ?_
   refine fzA ?_
   try refine v32R3 ?_
   refine rtA (by simp only [kR, Tryz.results32, ↓reduceIte, Nat.reduceEqDiff, reduceCtorEq]; first | done | rfl) ([]) ?_
   refine ⟨?_, rfl⟩
   exact remA_none (by simp [remS, hs])
 | some v =>
   rw [hs] at h1
   simp only [pRev, pB, Option.isSome, Option.getD] at h1
   cases ht : member? d t.path t.num with
   | none =>
     rw [ht] at h2
     simp only [pRev, pB, Option.isSome, Option.getD] at h2
     refine AC_enter Tryz.func32 rfl rfl (by simp only [Tryz.ntmps32, List.length]; omega) ?_
     intro x hx
     simp only [List.range, List.range.loop, List.length, List.zip, List.zipWith, Nat.reduceAdd, Tryz.ntmps32]
     (repeat (first | refine v32R3 ?_ | (refine caA [] (h1) ?_; rintro r st' ⟨rfl, rfl⟩; refine frA ?_) | (refine caA [] (h2) ?_; rintro r st' ⟨rfl, rfl⟩; refine frA ?_)))
     refine ifA ?_ ?_
     rotate_left
     ·intro h; cases h
     intro _
     refine nvA ?_
     refine goA (wr := false) (by simp only [kB, kG, kS, kM, k32, Nat.reduceAdd, Nat.reduceLT, Nat.reduceEqDiff, ↓reduceIte, reduceCtorEq]; first | done | rfl) ?_
     refine TO_ent (Ent_nilSlot (i := 8) 2 rfl) ?_
     refine fzA ?_
     try refine v32R3 ?_
     refine rtA (by simp only [kR, Tryz.results32, ↓reduceIte, Nat.reduceEqDiff, reduceCtorEq]; first | done | rfl) ([]) ?_
     refine ⟨?_, rfl⟩
     exact remA_none (by simp [remS, hs, ht])
   | some tv =>
     rw [ht] at h2
     simp only [pRev, pB, Option.isSome, Option.getD] at h2
     obtain ⟨jt, t1, t2, t3⟩ := (member?_iff hg).1 ht
     obtain ⟨xt, hxt⟩ := hD jt tv (List.getElem?_eq_some_iff.1 t1).1 t1 t3
     rw [t2] at hxt
     have hxt' : alook A ⟨t.path, t.num⟩ = some xt := hxt
     have hll : (line d (first d v)).length ≤ 512 := Nat.le_trans (List.length_filter_le ..) hn
     have hlm : ∀ u ∈ line d (first d v), u ∈ d.revs ∧ ¬ u.act = 5 := fun u hu => line_mem hu
     have hfin := remR_eq hA t v
     have hline := Line_ac d (first d v) (by omega)
     generalize hln : line d (first d v) = l at hll hlm hfin hline
     refine AC_enter Tryz.func32 rfl rfl (by simp only [Tryz.ntmps32, List.length]; omega) ?_
     intro x hx
     simp only [List.range, List.range.loop, List.length, List.zip, List.zipWith, Nat.reduceAdd, Tryz.ntmps32]
     (repeat (first | refine v32R3 ?_ | (refine caA [] (h1) ?_; rintro r st' ⟨rfl, rfl⟩; refine frA ?_) | (refine caA [] (h2) ?_; rintro r st' ⟨rfl, rfl⟩; refine frA ?_)))
     refine ifA ?_ ?_
     ·intro h; cases h
     intro _
     refine nvA ?_
     refine goA (wr := false) (by simp only [kB, kG, kS, kM, k32, Nat.reduceAdd, Nat.reduceLT, Nat.reduceEqDiff, ↓reduceIte, reduceCtorEq]; first | done | rfl) ?_
     refine nvA ?_
     refine drA (wr := false) ([(44, aFil (first d v)), (45, aRevs l)] : List (Nat × AV)) (by simp only [kD, kB, kG, kS, kM, k32, Nat.reduceAdd, Nat.reduceLT, Nat.reduceEqDiff, ↓reduceIte, reduceCtorEq]; first | done | rfl) ?_ ?_
     ·simp only [All, List.cons_append, List.nil_append, InR, List.mem_cons, List.not_mem_nil, or_false, forall_eq_or_imp, forall_eq, clAV, clCs, clC, clCaps, clCap, and_true, true_and, implies_true, List.length_map, List.length_cons, List.length_nil, dArr, cl_arr, tyCs]
      repeat' (first | exact trivial | exact first_ac d v (by omega) | exact hline | refine And.intro ?_ ?_ | intro _ | assumption | rfl | omega | (rw [Bool.not_eq_true']; assumption) | (simp; done) | (simp only [decide_eq_true_eq] at *; omega) | (simp_all; done))
     refine nvA ?_
     refine T_ent (Ent_adopt (i := 14) (id := 100) (sz := 2) rfl rfl (by omega)) ?_
     refine fzA ?_
     refine T_loop (ι := Nat) (I := fun k => ⟨76, [(1, .c (.d (.pm (mEnt kF vSV A)))), (7, .c (.ptr 7 0)), (10, .c (.ptr 10 0)), (14, .c (.ms 100 2 0 (remR A t v (l.take k)).length)), (45, aRevs l), (46, I .i64 l.length), (47, I .i64 k)],
       [(7, .box ((encFil t).map C.d)), (10, .box ((encRev v).map C.d)), (100, dArr 2 ((remR A t v (l.take k)).map encFil))]⟩)
      (Inv := fun k => k ≤ l.length) (μ := fun k => l.length - k) 0 (by simp) ?_ ?_
     ·(refine Ent_sub (fun i => i) rfl ?_ ⟨?_, ?_, ?_, keepI hx (by simp [domOf, Ab.get])⟩ <;> first | (simp only [kE, dArr, ↓reduceIte, Nat.reduceEqDiff, reduceCtorEq, remR]; done) | simp [renAV_id, renAO_id, flat_up, Ab.get, clAV, clC, clCs, clAO, cl_f1, cl_s1, cl_f2, cl_s2, cl_a1, domOf, List.flatten, remR])
     intro k hk
     have hF := remR_len A t v (l.take k)
     have hF2 : (l.take k).length ≤ 512 := by simp; omega
     try refine v32R3 ?_
     refine ifA ?_ ?_
     ·intro hlt
      have hlt' : k < l.length := by simpa using hlt
      obtain ⟨u, hu, he, htk⟩ := round encRev l k zRev hlt'
      obtain ⟨u1, u2⟩ := hlm u (List.mem_of_getElem? hu)
      obtain ⟨ju, hju⟩ := List.getElem?_of_mem u1
      obtain ⟨xu, hxu⟩ := hD ju u (List.getElem?_eq_some_iff.1 hju).1 hju u2
      have hxu' : alook A ⟨(fileOf u).path, (fileOf u).num⟩ = some xu := hxu
      have hop : (bif decide (u.chg ≤ v.chg) then !subB xu.con xt.cre else false) = opA A t v u := by simp only [opA, hxu, hxt, Option.map, Option.getD]
      (repeat (first | refine nvB ?_ | refine goA (wr := false) (by simp only [kB, kG, kS, kM, k32, Nat.reduceAdd, Nat.reduceLT, Nat.reduceEqDiff, ↓reduceIte, reduceCtorEq, he]; first | done | rfl) ?_))
      refine drA (wr := false) ([(59, aFil (fileOf u)), (66, B (subB xu.con xt.cre))] : List (Nat × AV)) (by simp only [kD, kB, kG, kS, kM, k32, Nat.reduceAdd, Nat.reduceLT, Nat.reduceEqDiff, ↓reduceIte, reduceCtorEq, look_SV, hxu', hxt']; first | done | rfl) ?_ ?_
      ·exact obH (file_ac u) (Within_ac xu.con xt.cre) (ty_SV A)
      refine nvA ?_
      refine ifA ?_ ?_
      ·intro ho
       rw [hop] at ho
       (repeat (first | refine v32R3 ?_ | (refine caA [] (file_ac u) ?_; rintro r st' ⟨rfl, rfl⟩; refine frA ?_)))
       refine ⟨k + 1, by omega, by omega, ?_⟩
       have e : remR A t v (l.take (k + 1)) = remR A t v (l.take k) ++ [fileOf u] := by rw [htk, remR, List.filter_append, List.map_append]; simp [remR, ho]
       rw [e]
       exact enR (fun i => if i = 100 then 73 else i)
      ·intro ho
       rw [hop] at ho
       try refine v32R3 ?_
       refine ⟨k + 1, by omega, by omega, ?_⟩
       have e : remR A t v (l.take (k + 1)) = remR A t v (l.take k) := by rw [htk, remR, List.filter_append, List.map_append]; simp [remR, ho]
       rw [e]
       exact enA
     ·intro hge
      have hge' : k = l.length := by have : ¬ k < l.length := by simpa using hge
                                     omega
      refine nvA ?_
      refine TO_ent (Ent_frzSlot (i := 14) (id := 100) (ys := (remR A t v (l.take k)).map encFil) rfl rfl (by simp)) ?_
      refine fzA ?_
      try refine v32R3 ?_
      refine rtA (by simp only [kR, Tryz.results32, ↓reduceIte, Nat.reduceEqDiff, reduceCtorEq]; first | done | rfl) ([]) ?_
      refine ⟨?_, rfl⟩
      rw [hge', List.take_length, hfin]
      exact remA_some (by simp [remS, hs, ht])
end Go.Proofs.YtmhboloicpieeaaGreatDoor
