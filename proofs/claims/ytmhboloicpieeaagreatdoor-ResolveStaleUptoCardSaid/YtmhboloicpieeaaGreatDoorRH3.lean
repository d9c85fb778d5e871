/- A part of the proof. -/
import Derived.Test.YtmhboloicpieeaaGreatDoorRT6a
import Derived.Test.YtmhboloicpieeaaGreatDoorRH1
set_option linter.all false
namespace Go.Proofs.YtmhboloicpieeaaGreatDoor
open Go.Ab Tys
variable [Dr]
def k121 := And.intro @Tryz.ntmps121 <| And.intro @Tryz.underlying4 <| And.intro @Tryz.underlying9 <| And.intro @bld30 <| And.intro @bld41 <| And.intro @bld44 <| And.intro @bld46 <| And.intro @bld56 <| And.intro @bld62 <| And.intro @elt50 <| And.intro @eqt41 <| And.intro @eqt44 <| And.intro @fld44_1 <| And.intro @fld46_4 <| And.intro @fld56_0 <| And.intro @fld56_1 <| And.intro @fld56_2 <| And.intro @fld56_3 <| And.intro @fld56_4 <| And.intro @fld56_5 <| And.intro @fld56_6 <| And.intro @fld62_3 <| And.intro @ti3 <| And.intro @ti30 <| And.intro @ti41 <| And.intro @ti44 <| And.intro @ti46 <| And.intro @ti50 <| And.intro @ti56 <| And.intro @ti62 <| @ti9
theorem v121H3 {G G' : Prop} (g : G') (h : Hid G' → G := by intro h9; (first | refine nvB ?_ | refine goA (wr := false) (by simp only [kB, kG, kS, k121, Nat.reduceAdd, Nat.reduceLT, Nat.reduceEqDiff, ↓reduceIte, reduceCtorEq]; first | done | rfl) ?_); (repeat (first | refine nvB ?_ | refine goA (wr := false) (by simp only [kB, kG, kS, k121, Nat.reduceAdd, Nat.reduceLT, Nat.reduceEqDiff, ↓reduceIte, reduceCtorEq]; first | done | rfl) ?_)); exact h9.out) : G := h ⟨g⟩
set_option maxRecDepth 100000 in
set_option maxHeartbeats 8000000 in
theorem edit_ac (d : Dep) (c : Chg) (i : Nat) (hi : i < c.edits.length) (hd : d.revs.length ≤ 1000000) (hc : ∀ e ∈ c.edits, eOK e) (hl : c.edits.length ≤ 1000000) :
  AC Tryz.prog 121 [aDep d, aChg c, I .i64 i] [] (fun r st => (∃ e : Int, r = I .i64 e ∧ (e = 0 → EditOK d c i (c.edits.getD i zEdt))) ∧ st = []) := by
 have ei : (c.edits.map encEdt).getD i [] = encEdt (c.edits.getD i zEdt) := getD_enc encEdt c.edits i zEdt hi
 have ei2 : (c.edits.map encEdt).getD (i - 1) [] = encEdt (c.edits.getD (i - 1) zEdt) := getD_enc encEdt c.edits (i - 1) zEdt (by omega)
 have hm : eOK (c.edits.getD i zEdt) := hc _ (by rw [List.getD_eq_getElem?_getD, List.getElem?_eq_getElem hi]; simp)
 have hm2 : eOK (c.edits.getD (i - 1) zEdt) := hc _ (by rw [List.getD_eq_getElem?_getD, List.getElem?_eq_getElem (by omega : i - 1 < c.edits.length)]; simp)
 have h1 : ((i : Int) - 1).toNat = i - 1 := by omega
 have h0 : (fun n : Nat => n) i = i := rfl
 generalize hp : c.edits.getD (i - 1) zEdt = p at ei2 hm2
 generalize he : c.edits.getD i zEdt = e at ei hm
 unfold eOK at hm hm2
 have hpc := path_ac e.path (by omega)
 cases ep : path? e.path with
 | none =>
   rw [ep] at hpc
   simp only [pStrs, pB, Option.isSome] at hpc
   refine AC_enter Tryz.func121 rfl rfl (by simp only [Tryz.ntmps121, List.length]; omega) ?_
   intro x hx
   simp only [List.range, List.range.loop, List.length, List.zip, List.zipWith, Nat.reduceAdd, Tryz.ntmps121]
   (repeat (first | refine nvB ?_ | refine goA (wr := false) (by simp only [kB, kG, kS, k121, Nat.reduceAdd, Nat.reduceLT, Nat.reduceEqDiff, ↓reduceIte, reduceCtorEq, ei]; first | done | rfl) ?_ | (refine caA [] (hpc) ?_; rintro r st' ⟨rfl, rfl⟩; refine frA ?_)))
   refine ifA ?_ ?_
   ·intro _
    try refine v121H3 ?_
    refine rtA (by simp only [kR, Tryz.results121, ↓reduceIte, Nat.reduceEqDiff, reduceCtorEq]; first | done | rfl) ([]) ?_
    refine ⟨?_, rfl⟩
    exact ⟨_, rfl, fun h => absurd h (by decide)⟩
   ·intro h; simp at h
 | some l =>
   rw [ep] at hpc
   simp only [pStrs, pB, Option.isSome] at hpc
   refine AC_enter Tryz.func121 rfl rfl (by simp only [Tryz.ntmps121, List.length]; omega) ?_
   intro x hx
   simp only [List.range, List.range.loop, List.length, List.zip, List.zipWith, Nat.reduceAdd, Tryz.ntmps121]
   (repeat (first | refine nvB ?_ | refine goA (wr := false) (by simp only [kB, kG, kS, k121, Nat.reduceAdd, Nat.reduceLT, Nat.reduceEqDiff, ↓reduceIte, reduceCtorEq, ei]; first | done | rfl) ?_ | (refine caA [] (hpc) ?_; rintro r st' ⟨rfl, rfl⟩; refine frA ?_)))
   refine ifA ?_ ?_
   ·intro _
    try refine v121H3 ?_
    refine rtA (by simp only [kR, Tryz.results121, ↓reduceIte, Nat.reduceEqDiff, reduceCtorEq]; first | done | rfl) ([]) ?_
    refine ⟨?_, rfl⟩
    exact ⟨_, rfl, fun h => absurd h (by decide)⟩
   intro _
   refine nvA ?_
   refine drA (wr := false) ([(47, I .i64 (ord p.path e.path))] : List (Nat × AV)) (by simp only [kD, kB, kG, kS, k121, Nat.reduceAdd, Nat.reduceLT, Nat.reduceEqDiff, ↓reduceIte, reduceCtorEq, h1, ei2]; first | done | rfl) ?_ ?_
   ·simp only [All, List.cons_append, List.nil_append, InR, List.mem_cons, List.not_mem_nil, or_false, forall_eq_or_imp, forall_eq, clAV, clCs, clC, clCaps, clCap, and_true, true_and, implies_true, List.length_map, List.length_cons, List.length_nil, dArr, cl_arr, tyCs]
    repeat' (first | exact trivial | exact ord_ac _ _ hm2 hm | refine And.intro ?_ ?_ | intro _ | assumption | rfl | omega | (rw [Bool.not_eq_true']; assumption) | (simp; done) | (simp only [decide_eq_true_eq] at *; omega) | (simp_all; done))
   refine nvA ?_
   refine ifA ?_ ?_
   ·intro _
    try refine v121H3 ?_
    refine rtA (by simp only [kR, Tryz.results121, ↓reduceIte, Nat.reduceEqDiff, reduceCtorEq]; first | done | rfl) ([]) ?_
    refine ⟨?_, rfl⟩
    exact ⟨_, rfl, fun h => absurd h (by decide)⟩
   intro ho
   have ho' : 0 < i → ord p.path e.path < 0 := by
    intro hi0
    rw [show decide ((0 : Int) < (i : Int)) = true by simp; omega] at ho
    simpa using ho
   (repeat (first | refine v121H3 ?_ | (refine caA [] (live_ac d e.path hd) ?_; rintro r st' ⟨rfl, rfl⟩; refine frA ?_)))
   refine ifA ?_ ?_
   ·intro _
    try refine v121H3 ?_
    refine rtA (by simp only [kR, Tryz.results121, ↓reduceIte, Nat.reduceEqDiff, reduceCtorEq]; first | done | rfl) ([]) ?_
    refine ⟨?_, rfl⟩
    exact ⟨_, rfl, fun h => absurd h (by decide)⟩
   intro ha
   try refine v121H3 ?_
   refine ifA ?_ ?_
   ·intro _
    try refine v121H3 ?_
    refine rtA (by simp only [kR, Tryz.results121, ↓reduceIte, Nat.reduceEqDiff, reduceCtorEq]; first | done | rfl) ([]) ?_
    refine ⟨?_, rfl⟩
    exact ⟨_, rfl, fun h => absurd h (by decide)⟩
   intro hb
   have hb' : e.prev = lastNum d e.path := by simpa using hb
   try refine v121H3 ?_
   refine ifA ?_ ?_
   ·intro h4
    have h4' : e.act = 4 := by simpa using h4
    (repeat (first | refine v121H3 ?_ | (refine caA [] (live_ac d e.frm hd) ?_; rintro r st' ⟨rfl, rfl⟩; refine frA ?_)))
    refine ifA ?_ ?_
    ·intro _
     try refine v121H3 ?_
     refine rtA (by simp only [kR, Tryz.results121, ↓reduceIte, Nat.reduceEqDiff, reduceCtorEq]; first | done | rfl) ([]) ?_
     refine ⟨?_, rfl⟩
     exact ⟨_, rfl, fun h => absurd h (by decide)⟩
    intro hf
    have hok : (e.act = 3 ∨ e.act = 5 → e.sum = 0 ∧ e.size = 0) → EditOK d c i e := by
     intro hgo
     refine ⟨by rw [ep]; rfl, by rw [hp]; exact ho', ?_, ?_, ?_, hb', fun _ => ?_, hgo⟩
     ·simp at ha; omega
     ·simp at ha; omega
     ·simp [h4'] at ha ⊢; exact ha
     ·simp at hf; exact ⟨hf.1.1, hf.1.2, hf.2⟩
    (repeat (first | refine v121H3 ?_ | (refine caA [] (type_ac _ _ _ _) ?_; rintro r st' ⟨rfl, rfl⟩; refine frA ?_)))
    refine ifA ?_ ?_
    ·intro _
     try refine v121H3 ?_
     refine rtA (by simp only [kR, Tryz.results121, ↓reduceIte, Nat.reduceEqDiff, reduceCtorEq]; first | done | rfl) ([]) ?_
     refine ⟨?_, rfl⟩
     exact ⟨_, rfl, fun h => absurd h (by decide)⟩
    intro _
    (repeat (first | refine v121H3 ?_ | (refine caA [] (last_ac d e.path hd) ?_; rintro r st' ⟨rfl, rfl⟩; refine frA ?_) | (refine caA [] (made_ac c e) ?_; rintro r st' ⟨rfl, rfl⟩; refine frA ?_) | (refine caA [] (gone_ac _) ?_; rintro r st' ⟨rfl, rfl⟩; refine frA ?_)))
    refine ifA ?_ ?_
    ·intro _
     try refine v121H3 ?_
     refine rtA (by simp only [kR, Tryz.results121, ↓reduceIte, Nat.reduceEqDiff, reduceCtorEq]; first | done | rfl) ([]) ?_
     refine ⟨?_, rfl⟩
     exact ⟨_, rfl, fun h => absurd h (by decide)⟩
    intro hg
    try refine v121H3 ?_
    refine rtA (by simp only [kR, Tryz.results121, ↓reduceIte, Nat.reduceEqDiff, reduceCtorEq]; first | done | rfl) ([]) ?_
    refine ⟨?_, rfl⟩
    refine ⟨0, rfl, fun _ => he ▸ hok ?_⟩
    intro ha
    have hgo : gone (made c e) = true := by rcases ha with h9 | h9 <;> simp [gone, made, h9]
    rw [hgo] at hg
    simp at hg
    exact hg.2
   ·intro h4
    have h4' : ¬ e.act = 4 := by simpa using h4
    try refine v121H3 ?_
    refine ifA ?_ ?_
    ·intro _
     try refine v121H3 ?_
     refine rtA (by simp only [kR, Tryz.results121, ↓reduceIte, Nat.reduceEqDiff, reduceCtorEq]; first | done | rfl) ([]) ?_
     refine ⟨?_, rfl⟩
     exact ⟨_, rfl, fun h => absurd h (by decide)⟩
    intro hf
    have hok : (e.act = 3 ∨ e.act = 5 → e.sum = 0 ∧ e.size = 0) → EditOK d c i e := by
     intro hgo
     refine ⟨by rw [ep]; rfl, by rw [hp]; exact ho', ?_, ?_, ?_, hb', fun h => absurd h h4', hgo⟩
     ·simp at ha; omega
     ·simp at ha; omega
     ·simp [h4'] at ha ⊢; cases hl2 : live d e.path <;> simp [hl2] at ha ⊢ <;> exact ha.2
    (repeat (first | refine v121H3 ?_ | (refine caA [] (type_ac _ _ _ _) ?_; rintro r st' ⟨rfl, rfl⟩; refine frA ?_)))
    refine ifA ?_ ?_
    ·intro _
     try refine v121H3 ?_
     refine rtA (by simp only [kR, Tryz.results121, ↓reduceIte, Nat.reduceEqDiff, reduceCtorEq]; first | done | rfl) ([]) ?_
     refine ⟨?_, rfl⟩
     exact ⟨_, rfl, fun h => absurd h (by decide)⟩
    intro _
    (repeat (first | refine v121H3 ?_ | (refine caA [] (last_ac d e.path hd) ?_; rintro r st' ⟨rfl, rfl⟩; refine frA ?_) | (refine caA [] (made_ac c e) ?_; rintro r st' ⟨rfl, rfl⟩; refine frA ?_) | (refine caA [] (gone_ac _) ?_; rintro r st' ⟨rfl, rfl⟩; refine frA ?_)))
    refine ifA ?_ ?_
    ·intro _
     try refine v121H3 ?_
     refine rtA (by simp only [kR, Tryz.results121, ↓reduceIte, Nat.reduceEqDiff, reduceCtorEq]; first | done | rfl) ([]) ?_
     refine ⟨?_, rfl⟩
     exact ⟨_, rfl, fun h => absurd h (by decide)⟩
    intro hg
    try refine v121H3 ?_
    refine rtA (by simp only [kR, Tryz.results121, ↓reduceIte, Nat.reduceEqDiff, reduceCtorEq]; first | done | rfl) ([]) ?_
    refine ⟨?_, rfl⟩
    refine ⟨0, rfl, fun _ => he ▸ hok ?_⟩
    intro ha
    have hgo : gone (made c e) = true := by rcases ha with h9 | h9 <;> simp [gone, made, h9]
    rw [hgo] at hg
    simp at hg
    exact hg.2
end Go.Proofs.YtmhboloicpieeaaGreatDoor
