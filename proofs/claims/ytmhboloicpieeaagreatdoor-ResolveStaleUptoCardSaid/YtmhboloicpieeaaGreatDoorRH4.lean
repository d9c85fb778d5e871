/- A part of the proof. -/
import Derived.Test.YtmhboloicpieeaaGreatDoorRT6a
import Derived.Test.YtmhboloicpieeaaGreatDoorRH1
set_option linter.all false
namespace Go.Proofs.YtmhboloicpieeaaGreatDoor
open Go.Ab Tys
variable [Dr]
def k123 := And.intro @Tryz.ntmps123 <| And.intro @Tryz.underlying27 <| And.intro @Tryz.underlying28 <| And.intro @Tryz.underlying4 <| And.intro @Tryz.underlying50 <| And.intro @bld30 <| And.intro @bld37 <| And.intro @bld41 <| And.intro @bld44 <| And.intro @bld46 <| And.intro @bld56 <| And.intro @bld62 <| And.intro @bld76 <| And.intro @elt27 <| And.intro @elt28 <| And.intro @elt50 <| And.intro @eqt37 <| And.intro @eqt41 <| And.intro @eqt44 <| And.intro @fld46_3 <| And.intro @fld46_4 <| And.intro @fld46_5 <| And.intro @fld56_0 <| And.intro @fld56_1 <| And.intro @fld56_2 <| And.intro @fld56_3 <| And.intro @fld56_4 <| And.intro @fld62_3 <| And.intro @fld62_4 <| And.intro @fld76_0 <| And.intro @fld76_1 <| And.intro @fld76_2 <| And.intro @fld76_3 <| And.intro @fld76_4 <| And.intro @fld76_5 <| And.intro @ti28 <| And.intro @ti3 <| And.intro @ti30 <| And.intro @ti37 <| And.intro @ti41 <| And.intro @ti44 <| And.intro @ti46 <| And.intro @ti50 <| And.intro @ti56 <| And.intro @ti62 <| And.intro @ti76 <| @ti9
theorem v123H4 {G G' : Prop} (g : G') (h : Hid G' → G := by intro h9; (first | refine nvB ?_ | refine goA (wr := false) (by simp only [kB, kG, k123, Nat.reduceAdd, Nat.reduceLT, Nat.reduceEqDiff, ↓reduceIte, reduceCtorEq]; first | done | rfl) ?_); (repeat (first | refine nvB ?_ | refine goA (wr := false) (by simp only [kB, kG, k123, Nat.reduceAdd, Nat.reduceLT, Nat.reduceEqDiff, ↓reduceIte, reduceCtorEq]; first | done | rfl) ?_)); exact h9.out) : G := h ⟨g⟩
set_option maxRecDepth 100000 in
set_option maxHeartbeats 16000000 in
theorem record_ac (d : Dep) (c : Chg) (i : Nat) (hi : i < c.recs.length) (hd : d.revs.length ≤ 1000000) (hc : ∀ r ∈ c.recs, rOK r) (hl : c.edits.length ≤ 1000000) (hl2 : c.recs.length ≤ 1000000) :
  AC Tryz.prog 123 [aDep d, aChg c, I .i64 i] [] (fun r st => (∃ b : Bool, r = B b ∧ (b = true → RecOK d c (c.recs.getD i zRcd))) ∧ st = []) := by
 have ei : (c.recs.map encRcd).getD i [] = encRcd (c.recs.getD i zRcd) := getD_enc encRcd c.recs i zRcd hi
 have ei2 : (c.recs.map encRcd).getD (i - 1) [] = encRcd (c.recs.getD (i - 1) zRcd) := getD_enc encRcd c.recs (i - 1) zRcd (by omega)
 have hm : rOK (c.recs.getD i zRcd) := hc _ (by rw [List.getD_eq_getElem?_getD, List.getElem?_eq_getElem hi]; simp)
 have hm2 : rOK (c.recs.getD (i - 1) zRcd) := hc _ (by rw [List.getD_eq_getElem?_getD, List.getElem?_eq_getElem (by omega : i - 1 < c.recs.length)]; simp)
 have h1 : ((i : Int) - 1).toNat = i - 1 := by omega
 generalize c.recs.getD (i - 1) zRcd = p at ei2 hm2
 generalize c.recs.getD i zRcd = r at ei hm
 have hL : (log d r.frm).length ≤ d.revs.length := List.length_filter_le ..
 refine AC_enter Tryz.func123 rfl rfl (by simp only [Tryz.ntmps123, List.length]; omega) ?_
 intro x hx
 simp only [List.range, List.range.loop, List.length, List.zip, List.zipWith, Nat.reduceAdd, Tryz.ntmps123]
 (repeat (first | refine nvB ?_ | refine goA (wr := false) (by simp only [kB, kG, k123, Nat.reduceAdd, Nat.reduceLT, Nat.reduceEqDiff, ↓reduceIte, reduceCtorEq, ei]; first | done | rfl) ?_))
 refine drA (wr := false) ([(40, B (before p r))] : List (Nat × AV)) (by simp only [kD, kB, kG, k123, Nat.reduceAdd, Nat.reduceLT, Nat.reduceEqDiff, ↓reduceIte, reduceCtorEq, h1, ei2]; first | done | rfl) ?_ ?_
 ·simp only [All, List.cons_append, List.nil_append, InR, List.mem_cons, List.not_mem_nil, or_false, forall_eq_or_imp, forall_eq, clAV, clCs, clC, clCaps, clCap, and_true, true_and, implies_true, List.length_map, List.length_cons, List.length_nil, dArr, cl_arr, tyCs]
  repeat' (first | exact trivial | exact before_ac _ _ hm2 hm | refine And.intro ?_ ?_ | intro _ | assumption | rfl | omega | (rw [Bool.not_eq_true']; assumption) | (simp; done) | (simp only [decide_eq_true_eq] at *; omega) | (simp_all; done))
 refine nvA ?_
 refine ifA ?_ ?_
 ·intro _
  try refine v123H4 ?_
  refine rtA (by simp only [kR, Tryz.results123, ↓reduceIte, Nat.reduceEqDiff, reduceCtorEq]; first | done | rfl) ([]) ?_
  refine ⟨?_, rfl⟩
  exact ⟨_, rfl, fun h => by cases h⟩
 intro hh
 have hhow : 1 ≤ r.how ∧ r.how ≤ 4 := by simp at hh; omega
 try refine v123H4 ?_
 refine T_loop (ι := Nat × Edt) (I := fun k => ⟨243, [(3, .c (.ptr 3 0)), (4, .c (.ptr 4 0)), (7, .c (.ptr 7 0)), (8, .c (.ptr 8 0)), (9, B true), (54, .c (.d (.ps 12 (c.edits.map encEdt)))), (55, I .i64 c.edits.length), (56, I .i64 k.1)],
   [(3, .box ((encDep d).map C.d)), (4, .box ((encChg c).map C.d)), (7, .box ((encRcd r).map C.d)), (8, .box ((encEdt k.2).map C.d))]⟩)
  (Inv := fun k => k.1 ≤ c.edits.length ∧ (k.2.act = 0 ∨ (k.2 ∈ c.edits ∧ tgtB r k.2))) (μ := fun k => c.edits.length - k.1) (0, zEdt) ⟨by simp, .inl rfl⟩ ?_ ?_
 ·(refine Ent_sub (fun i => i) rfl ?_ ⟨?_, ?_, ?_, keepI hx (by simp [domOf, Ab.get])⟩ <;> first | (simp only [kE, dArr, ↓reduceIte, Nat.reduceEqDiff, reduceCtorEq, zEdt]; done) | simp [renAV_id, renAO_id, flat_up, Ab.get, clAV, clC, clCs, clAO, cl_f1, cl_s1, cl_f2, cl_s2, cl_a1, domOf, List.flatten, zEdt])
 rintro ⟨k, t⟩ ⟨hk, ht⟩
 simp only at hk ht ⊢
 try refine v123H4 ?_
 refine ifA ?_ ?_
 ·intro hlt
  have hlt' : k < c.edits.length := by simpa using hlt
  obtain ⟨y, hy, he, htk⟩ := round encEdt c.edits k zEdt hlt'
  refine nvA ?_
  refine goA (wr := false) (by simp only [kB, kG, k123, Nat.reduceAdd, Nat.reduceLT, Nat.reduceEqDiff, ↓reduceIte, reduceCtorEq, he]; first | done | rfl) ?_
  refine nvA ?_
  refine TO_go (wr := true) 400 (by simp only [kB, kG, k123, Nat.reduceAdd, Nat.reduceLT, Nat.reduceEqDiff, ↓reduceIte, reduceCtorEq]; first | done | rfl) (by first | exact trivial | (simp only [kO]; omega) | (simp [All, InR]; first | done | omega) | (simp +contextual [All, InR]; first | done | grind)) ?_
  refine nvA ?_
  refine ifA ?_ ?_
  ·intro h
   have h' : tgtB r y := by simp at h; exact ⟨h.1.1, h.1.2, h.2⟩
   try refine v123H4 ?_
   refine ⟨(k + 1, y), ⟨by simp; omega, .inr ⟨List.mem_of_getElem? hy, h'⟩⟩, by simp; omega, ?_⟩
   exact enA
  ·intro h
   try refine v123H4 ?_
   refine ⟨(k + 1, t), ⟨by simp; omega, ht⟩, by simp; omega, ?_⟩
   exact enA
 intro _
 try refine v123H4 ?_
 refine T_loop (ι := Nat × Bool) (I := fun k => ⟨243, [(3, .c (.ptr 3 0)), (4, .c (.ptr 4 0)), (7, .c (.ptr 7 0)), (8, .c (.ptr 8 0)), (9, B k.2), (81, .c (.d (.ps 6 (c.recs.map encRcd)))), (82, I .i64 c.recs.length), (83, I .i64 k.1)],
   [(3, .box ((encDep d).map C.d)), (4, .box ((encChg c).map C.d)), (7, .box ((encRcd r).map C.d)), (8, .box ((encEdt t).map C.d))]⟩)
  (Inv := fun k => k.1 ≤ c.recs.length) (μ := fun k => c.recs.length - k.1) (0, true) (by simp) ?_ ?_
 ·exact enA
 rintro ⟨k, g⟩ hk
 simp only at hk ⊢
 try refine v123H4 ?_
 refine ifA ?_ ?_
 ·intro hlt
  have hlt' : k < c.recs.length := by simpa using hlt
  obtain ⟨y, hy, he, htk⟩ := round encRcd c.recs k zRcd hlt'
  (repeat (first | refine nvB ?_ | refine goA (wr := false) (by simp only [kB, kG, k123, Nat.reduceAdd, Nat.reduceLT, Nat.reduceEqDiff, ↓reduceIte, reduceCtorEq, he]; first | done | rfl) ?_))
  refine ⟨(k + 1, bif g then bif bif !decide (y.to = r.to) then true else !decide (y.num = r.num) then true else decide (y.how = 3) else false), by simp; omega, by simp; omega, ?_⟩
  exact enA
 intro _
 refine nvA ?_
 refine drA (wr := false) ([(129, aRevs (log d r.frm))] : List (Nat × AV)) (by simp only [kD, kB, kG, k123, Nat.reduceAdd, Nat.reduceLT, Nat.reduceEqDiff, ↓reduceIte, reduceCtorEq]; first | done | rfl) ?_ ?_
 ·exact obT (log_ac d r.frm hd)
 refine nvA ?_
 refine ifA ?_ ?_
 ·intro _
  try refine v123H4 ?_
  refine rtA (by simp only [kR, Tryz.results123, ↓reduceIte, Nat.reduceEqDiff, reduceCtorEq]; first | done | rfl) ([]) ?_
  refine ⟨?_, rfl⟩
  exact ⟨_, rfl, fun h => by cases h⟩
 intro hb
 have hb' : ¬ t.act = 0 ∧ 1 ≤ r.first ∧ r.first ≤ r.last ∧ r.last ≤ (log d r.frm).length := by simp at hb; omega
 obtain ⟨b0, b1, b2, b3⟩ := hb'
 rcases ht with ht | ⟨ht, ht2⟩
 ·exact absurd ht b0
 (repeat (first | refine v123H4 ?_ | (refine caA [] (get_ac d r.frm r.last hd) ?_; rintro r st' ⟨rfl, rfl⟩; refine frA ?_) | (refine caA [] (first_ac d _ hd) ?_; rintro r st' ⟨rfl, rfl⟩; refine frA ?_)))
 refine T_loop (ι := Int) (I := fun n => ⟨243, [(3, .c (.ptr 3 0)), (4, .c (.ptr 4 0)), (7, .c (.ptr 7 0)), (8, .c (.ptr 8 0)), (9, B g), (14, .c (.ptr 14 0)), (16, .c (.ptr 16 0)), (17, I .i64 n)],
   [(3, .box ((encDep d).map C.d)), (4, .box ((encChg c).map C.d)), (7, .box ((encRcd r).map C.d)), (8, .box ((encEdt t).map C.d)), (14, .box ((encRev (getZ d r.frm r.last)).map C.d)), (16, .box ((encFil (first d (getZ d r.frm r.last))).map C.d))]⟩)
  (Inv := fun n => r.first ≤ n ∧ n ≤ r.last + 1 ∧ ∀ m, r.first ≤ m → m < n → ¬ (getZ d r.frm m).act = 5 ∧ first d (getZ d r.frm m) = first d (getZ d r.frm r.last)) (μ := fun n => (r.last + 1 - n).toNat) r.first ⟨by omega, by omega, by omega⟩ ?_ ?_
 ·exact enA
 rintro n ⟨n1, n2, n3⟩
 try refine v123H4 ?_
 refine ifA ?_ ?_
 ·intro hlt
  have hlt' : n ≤ r.last := by simpa using hlt
  (repeat (first | refine v123H4 ?_ | (refine caA [] (get_ac d r.frm n hd) ?_; rintro r st' ⟨rfl, rfl⟩; refine frA ?_)))
  refine drA (wr := false) ([(167, aFil (first d (getZ d r.frm n)))] : List (Nat × AV)) (by simp only [kD, kB, kG, k123, Nat.reduceAdd, Nat.reduceLT, Nat.reduceEqDiff, ↓reduceIte, reduceCtorEq]; first | done | rfl) ?_ ?_
  ·simp only [All, List.cons_append, List.nil_append, InR, List.mem_cons, List.not_mem_nil, or_false, forall_eq_or_imp, forall_eq, clAV, clCs, clC, clCaps, clCap, and_true, true_and, implies_true, List.length_map, List.length_cons, List.length_nil, dArr, cl_arr, tyCs]
   repeat' (first | exact trivial | exact first_ac d _ hd | refine And.intro ?_ ?_ | intro _ | assumption | rfl | omega | (rw [Bool.not_eq_true']; assumption) | (simp; done) | (simp only [decide_eq_true_eq] at *; omega) | (simp_all; done))
  refine nvA ?_
  refine ifA ?_ ?_
  ·intro _
   try refine v123H4 ?_
   refine rtA (by simp only [kR, Tryz.results123, ↓reduceIte, Nat.reduceEqDiff, reduceCtorEq]; first | done | rfl) ([]) ?_
   refine ⟨?_, rfl⟩
   exact ⟨_, rfl, fun h => by cases h⟩
  intro hn
  have hn' : ¬ (getZ d r.frm n).act = 5 ∧ first d (getZ d r.frm n) = first d (getZ d r.frm r.last) := by
   simp at hn
   refine ⟨hn.1, ?_⟩
   generalize first d (getZ d r.frm n) = f1 at hn ⊢
   generalize first d (getZ d r.frm r.last) = f2 at hn ⊢
   cases f1; cases f2; simp at hn ⊢; exact hn.2
  try refine v123H4 ?_
  refine ⟨n + 1, ⟨by omega, by omega, ?_⟩, by omega, ?_⟩
  ·intro m m1 m2
   rcases Int.lt_or_eq_of_le (by omega : m ≤ n) with h | rfl
   ·exact n3 m m1 h
   ·exact hn'
  ·exact enA
 intro hge
 have hge' : n = r.last + 1 := by have : ¬ n ≤ r.last := by simpa using hge
                                  omega
 have hln : ∀ m, r.first ≤ m → m ≤ r.last → ¬ (getZ d r.frm m).act = 5 ∧ first d (getZ d r.frm m) = first d (getZ d r.frm r.last) := fun m m1 m2 => n3 m m1 (by omega)
 try refine v123H4 ?_
 refine ifA ?_ ?_
 ·intro _
  refine nvA ?_
  refine drA (wr := false) ([(178, aRev (made c t)), (179, .tup [pRev ((prev? d (made c t)).getD zRev), pB (prev? d (made c t)).isSome])] : List (Nat × AV)) (by simp only [kD, kB, kG, k123, Nat.reduceAdd, Nat.reduceLT, Nat.reduceEqDiff, ↓reduceIte, reduceCtorEq]; first | done | rfl) ?_ ?_
  ·simp only [All, List.cons_append, List.nil_append, InR, List.mem_cons, List.not_mem_nil, or_false, forall_eq_or_imp, forall_eq, clAV, clCs, clC, clCaps, clCap, and_true, true_and, implies_true, List.length_map, List.length_cons, List.length_nil, dArr, cl_arr, tyCs]
   repeat' (first | exact trivial | exact made_ac c t | exact prev_ac d _ hd | refine And.intro ?_ ?_ | intro _ | assumption | rfl | omega | (rw [Bool.not_eq_true']; assumption) | (simp; done) | (simp only [decide_eq_true_eq] at *; omega) | (simp_all; done))
  refine nvA ?_
  refine drA (wr := false) ([(184, aFil (first d ((prev? d (made c t)).getD zRev)))] : List (Nat × AV)) (by simp only [kD, kB, kG, k123, Nat.reduceAdd, Nat.reduceLT, Nat.reduceEqDiff, ↓reduceIte, reduceCtorEq]; first | done | rfl) ?_ ?_
  ·simp only [All, List.cons_append, List.nil_append, InR, List.mem_cons, List.not_mem_nil, or_false, forall_eq_or_imp, forall_eq, clAV, clCs, clC, clCaps, clCap, and_true, true_and, implies_true, List.length_map, List.length_cons, List.length_nil, dArr, cl_arr, tyCs]
   repeat' (first | exact trivial | exact first_ac d _ hd | refine And.intro ?_ ?_ | intro _ | assumption | rfl | omega | (rw [Bool.not_eq_true']; assumption) | (simp; done) | (simp only [decide_eq_true_eq] at *; omega) | (simp_all; done))
  refine nvA ?_
  refine ifA ?_ ?_
  ·intro _
   try refine v123H4 ?_
   refine rtA (by simp only [kR, Tryz.results123, ↓reduceIte, Nat.reduceEqDiff, reduceCtorEq]; first | done | rfl) ([]) ?_
   refine ⟨?_, rfl⟩
   exact ⟨_, rfl, fun h => by cases h⟩
  intro hq
  have hq' : ¬ first d ((prev? d (made c t)).getD zRev) = first d (getZ d r.frm r.last) := by
   intro e
   rw [e] at hq
   simp at hq
  have hok : RecOK d c r := ⟨hhow, b1, b2, b3, hln, t, ht, ht2, fun _ => hq'⟩
  try refine v123H4 ?_
  refine ifA ?_ ?_
  ·intro _
   try refine v123H4 ?_
   refine ifA ?_ ?_
   ·intro _
    try refine v123H4 ?_
    refine rtA (by simp only [kR, Tryz.results123, ↓reduceIte, Nat.reduceEqDiff, reduceCtorEq]; first | done | rfl) ([]) ?_
    refine ⟨?_, rfl⟩
    exact ⟨_, rfl, fun h => by cases h⟩
   intro _
   try refine v123H4 ?_
   refine ifA ?_ ?_
   ·intro _
    (repeat (first | refine v123H4 ?_ | (refine caA [] (get_ac d r.to t.prev hd) ?_; rintro r st' ⟨rfl, rfl⟩; refine frA ?_)))
    refine rtA (by simp only [kR, Tryz.results123, ↓reduceIte, Nat.reduceEqDiff, reduceCtorEq]; first | done | rfl) ([]) ?_
    refine ⟨?_, rfl⟩
    exact ⟨_, rfl, fun _ => hok⟩
   ·intro _
    try refine v123H4 ?_
    refine rtA (by simp only [kR, Tryz.results123, ↓reduceIte, Nat.reduceEqDiff, reduceCtorEq]; first | done | rfl) ([]) ?_
    refine ⟨?_, rfl⟩
    exact ⟨_, rfl, fun _ => hok⟩
  ·intro _
   try refine v123H4 ?_
   refine ifA ?_ ?_
   ·intro _
    (repeat (first | refine v123H4 ?_ | (refine caA [] (get_ac d r.to t.prev hd) ?_; rintro r st' ⟨rfl, rfl⟩; refine frA ?_)))
    refine rtA (by simp only [kR, Tryz.results123, ↓reduceIte, Nat.reduceEqDiff, reduceCtorEq]; first | done | rfl) ([]) ?_
    refine ⟨?_, rfl⟩
    exact ⟨_, rfl, fun _ => hok⟩
   ·intro _
    try refine v123H4 ?_
    refine rtA (by simp only [kR, Tryz.results123, ↓reduceIte, Nat.reduceEqDiff, reduceCtorEq]; first | done | rfl) ([]) ?_
    refine ⟨?_, rfl⟩
    exact ⟨_, rfl, fun _ => hok⟩
 ·intro ha
  have ha' : t.act = 1 := by simpa using ha
  have hok : RecOK d c r := ⟨hhow, b1, b2, b3, hln, t, ht, ht2, fun h => absurd ha' h⟩
  try refine v123H4 ?_
  refine ifA ?_ ?_
  ·intro _
   try refine v123H4 ?_
   refine ifA ?_ ?_
   ·intro _
    try refine v123H4 ?_
    refine rtA (by simp only [kR, Tryz.results123, ↓reduceIte, Nat.reduceEqDiff, reduceCtorEq]; first | done | rfl) ([]) ?_
    refine ⟨?_, rfl⟩
    exact ⟨_, rfl, fun h => by cases h⟩
   intro _
   try refine v123H4 ?_
   refine ifA ?_ ?_
   ·intro _
    (repeat (first | refine v123H4 ?_ | (refine caA [] (get_ac d r.to t.prev hd) ?_; rintro r st' ⟨rfl, rfl⟩; refine frA ?_)))
    refine rtA (by simp only [kR, Tryz.results123, ↓reduceIte, Nat.reduceEqDiff, reduceCtorEq]; first | done | rfl) ([]) ?_
    refine ⟨?_, rfl⟩
    exact ⟨_, rfl, fun _ => hok⟩
   ·intro _
    try refine v123H4 ?_
    refine rtA (by simp only [kR, Tryz.results123, ↓reduceIte, Nat.reduceEqDiff, reduceCtorEq]; first | done | rfl) ([]) ?_
    refine ⟨?_, rfl⟩
    exact ⟨_, rfl, fun _ => hok⟩
  ·intro _
   try refine v123H4 ?_
   refine ifA ?_ ?_
   ·intro _
    (repeat (first | refine v123H4 ?_ | (refine caA [] (get_ac d r.to t.prev hd) ?_; rintro r st' ⟨rfl, rfl⟩; refine frA ?_)))
    refine rtA (by simp only [kR, Tryz.results123, ↓reduceIte, Nat.reduceEqDiff, reduceCtorEq]; first | done | rfl) ([]) ?_
    refine ⟨?_, rfl⟩
    exact ⟨_, rfl, fun _ => hok⟩
   ·intro _
    try refine v123H4 ?_
    refine rtA (by simp only [kR, Tryz.results123, ↓reduceIte, Nat.reduceEqDiff, reduceCtorEq]; first | done | rfl) ([]) ?_
    refine ⟨?_, rfl⟩
    exact ⟨_, rfl, fun _ => hok⟩
end Go.Proofs.YtmhboloicpieeaaGreatDoor
