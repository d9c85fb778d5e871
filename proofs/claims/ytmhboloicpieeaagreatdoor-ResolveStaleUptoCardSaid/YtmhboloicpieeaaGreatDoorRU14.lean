/- A part of the proof. -/
import Derived.Test.YtmhboloicpieeaaGreatDoorRL3a
set_option maxRecDepth 100000
set_option maxHeartbeats 16000000
set_option linter.all false
namespace Go.Proofs.YtmhboloicpieeaaGreatDoor
open Go.Ab Tys
variable [Dr]
@[reducible] def pFils (l : List Fil) : Bool × List C := (false, [.d (.ps 2 (l.map encFil))])
noncomputable def remA (d : Dep) (s t : Fil) : AV := .tup [pFils ((remS d s t).getD []), pI (if (remS d s t).isSome then 0 else 150)]
theorem remA_none {d : Dep} {s t : Fil} (h : remS d s t = none) : .tup [pFils [], pI 150] = remA d s t := by simp [remA, h]
theorem remA_some {d : Dep} {s t : Fil} {l : List Fil} (h : remS d s t = some l) : .tup [pFils l, pI 0] = remA d s t := by simp [remA, h]
@[reducible] def vW (w : Int × Int × Nat) : Bool × List D := (true, [.v (.int .i64 w.1), .v (.int .i64 w.2.1), .v (.func (.func w.2.2) #[] #[])])
def wayL (k : Int) : List (Int × (Int × Int × Nat)) := if k = 1 then [(2, (1, 1, 80))] else if k = 3 then [(1, (2, 3, 81)), (2, (3, 1, 82))] else [(1, (2, 3, 81)), (2, (2, 1, 80)), (3, (2, 2, 83)), (4, (2, 4, 83))]
theorem look_W (m : List (Int × (Int × Int × Nat))) (n : Int) : findE [C.d (.v (.int .i64 n))] ((mEnt kN vW m).map upE) = (alook m n).map fun v => upD (vW v) := findE_ent (ve := vW) kN_eq m n
theorem ty_W (m : List (Int × (Int × Int × Nat))) : ∀ e ∈ (mEnt kN vW m).map upE, e.1.1 = false ∧ tyCs [.int .i64] e.1.2 := by
 intro e he
 simp only [mEnt, List.mem_map] at he
 obtain ⟨_, ⟨f, _, rfl⟩, rfl⟩ := he
 exact ⟨rfl, by simp [upE, upD, tyCs]⟩
def k38 := And.intro @Tryz.ntmps38 <| And.intro @bld105 <| And.intro @fld105_0 <| And.intro @fld105_1 <| And.intro @fld105_2 <| And.intro @kyt3 <| And.intro @mpt107 <| And.intro @ti103 <| And.intro @ti105 <| And.intro @ti107 <| @ti3
theorem v38U13 {G G' : Prop} (g : G') (h : Hid G' → G := by intro h9; (first | refine nvB ?_ | refine goA (wr := false) (by simp only [kB, kS, kM, k38, Nat.reduceAdd, Nat.reduceLT, Nat.reduceEqDiff, ↓reduceIte, reduceCtorEq]; first | done | rfl) ?_); (repeat (first | refine nvB ?_ | refine goA (wr := false) (by simp only [kB, kS, kM, k38, Nat.reduceAdd, Nat.reduceLT, Nat.reduceEqDiff, ↓reduceIte, reduceCtorEq]; first | done | rfl) ?_)); exact h9.out) : G := h ⟨g⟩
theorem ways_ac (k : Int) : AC Tryz.prog 38 [I .i64 k] [] (fun r st => r = .c (.d (.pm (mEnt kN vW (wayL k)))) ∧ st = []) := by
 refine AC_enter Tryz.func38 rfl rfl (by simp only [Tryz.ntmps38, List.length]; omega) ?_
 intro x hx
 simp only [List.range, List.range.loop, List.length, List.zip, List.zipWith, Nat.reduceAdd, Tryz.ntmps38]
 try refine v38U13 ?_
 refine ifA ?_ ?_
 ·intro h
  have h' : k = 1 := by simpa using h
  refine nvA ?_
  refine TO_go (wr := false) 400 (by simp only [kB, kS, kM, k38, Nat.reduceAdd, Nat.reduceLT, Nat.reduceEqDiff, ↓reduceIte, reduceCtorEq, insE, keyB, eqC]; first | done | rfl) ?_ ?_
  ·simp [All, InR, tyCs, insE, keyB, eqC]
  refine TO_ent (Ent_frzMapSlot (i := 2) (id := 6) (es := mEnt kN vW [(2, (1, 1, 80))]) rfl rfl) ?_
  refine fzA ?_
  try refine v38U13 ?_
  refine rtA (by simp only [kR, Tryz.results38, ↓reduceIte, Nat.reduceEqDiff, reduceCtorEq]; first | done | rfl) ([]) ?_
  refine ⟨?_, rfl⟩
  simp [wayL, h']
 intro h
 have h' : ¬ k = 1 := by simpa using h
 try refine v38U13 ?_
 refine ifA ?_ ?_
 ·intro h3
  have h3' : k = 3 := by simpa using h3
  refine nvA ?_
  refine TO_go (wr := false) 400 (by simp only [kB, kS, kM, k38, Nat.reduceAdd, Nat.reduceLT, Nat.reduceEqDiff, ↓reduceIte, reduceCtorEq, insE, keyB, eqC]; first | done | rfl) ?_ ?_
  ·simp [All, InR, tyCs, insE, keyB, eqC]
  refine TO_ent (Ent_frzMapSlot (i := 2) (id := 11) (es := mEnt kN vW [(1, (2, 3, 81)), (2, (3, 1, 82))]) rfl rfl) ?_
  refine fzA ?_
  try refine v38U13 ?_
  refine rtA (by simp only [kR, Tryz.results38, ↓reduceIte, Nat.reduceEqDiff, reduceCtorEq]; first | done | rfl) ([]) ?_
  refine ⟨?_, rfl⟩
  simp [wayL, h3']
 intro h3
 have h3' : ¬ k = 3 := by simpa using h3
 refine nvA ?_
 refine TO_go (wr := false) 400 (by simp only [kB, kS, kM, k38, Nat.reduceAdd, Nat.reduceLT, Nat.reduceEqDiff, ↓reduceIte, reduceCtorEq, insE, keyB, eqC]; first | done | rfl) ?_ ?_
 ·simp [All, InR, tyCs, insE, keyB, eqC]
 refine TO_ent (Ent_frzMapSlot (i := 2) (id := 15) (es := mEnt kN vW [(1, (2, 3, 81)), (2, (2, 1, 80)), (3, (2, 2, 83)), (4, (2, 4, 83))]) rfl rfl) ?_
 refine fzA ?_
 try refine v38U13 ?_
 refine rtA (by simp only [kR, Tryz.results38, ↓reduceIte, Nat.reduceEqDiff, reduceCtorEq]; first | done | rfl) ([]) ?_
 refine ⟨?_, rfl⟩
 simp [wayL, h', h3']
theorem way_none {k ch : Int} (h : alook (wayL k) ch = none) : allowB k ch = false := by
 unfold wayL at h
 unfold allowB
 by_cases k1 : k = 1
 ·rw [if_pos k1] at h ⊢
  by_cases c2 : ch = 2
  ·simp [alook, c2] at h
  ·simp [c2]
 rw [if_neg k1] at h ⊢
 by_cases c1 : ch = 1
 ·exfalso; revert h; split <;> simp [alook, c1]
 by_cases c2 : ch = 2
 ·exfalso; revert h; split <;> simp [alook, c2]
 by_cases k3 : k = 3
 ·rw [if_pos k3]
  simp [c1, c2]
 rw [if_neg k3] at h ⊢
 by_cases c3 : ch = 3
 ·simp [alook, c3] at h
 by_cases c4 : ch = 4
 ·simp [alook, c4] at h
 simp; omega
theorem way_some {d : Dep} {t : Tsk} {ch : Int} {w : Rsn} {a h : Int} {F : Nat} (hw : alook (wayL t.kind) ch = some (a, h, F)) : allowB t.kind ch = true ∧ ∃ (b : Int) (kw ex xe : Bool) (sm sz : Int),
  resE d t ch w = (⟨t.to, a, b, kw, ex, xe, sm, sz, t.head, noS, 0, 0⟩, h) ∧ AC Tryz.prog F [.agg ((encPrb d t (srcR d t) (tgtR d t)).map C.d), aRsn w] [] (fun r st => r = .tup [(true, [.d (.v (.int .i64 b)), .d (.v (.bool kw)), .d (.v (.bool ex)), .d (.v (.bool xe))]), (true, [.d (.v (.int .u64 sm)), .d (.v (.int .i64 sz))])] ∧ st = []) := by
 unfold wayL at hw
 by_cases k1 : t.kind = 1
 ·rw [if_pos k1] at hw
  by_cases c2 : ch = 2
  ·subst c2
   simp [alook] at hw
   obtain ⟨rfl, rfl, rfl⟩ := hw
   exact ⟨by simp [allowB, k1], _, _, _, _, _, _, by simp [resE, k1] <;> rfl, ofSource_ac d t (srcR d t) (tgtR d t) w⟩
  ·simp [alook, c2] at hw
 rw [if_neg k1] at hw
 by_cases k3 : t.kind = 3
 ·rw [if_pos k3] at hw
  by_cases c1 : ch = 1
  ·subst c1
   simp [alook] at hw
   obtain ⟨rfl, rfl, rfl⟩ := hw
   exact ⟨by simp [allowB, k3], _, _, _, _, _, _, by simp [resE, k3] <;> rfl, ofTarget_ac d t (srcR d t) (tgtR d t) w⟩
  by_cases c2 : ch = 2
  ·subst c2
   simp [alook] at hw
   obtain ⟨rfl, rfl, rfl⟩ := hw
   exact ⟨by simp [allowB, k3], _, _, _, _, _, _, by simp [resE, k3] <;> rfl, ofDeleted_ac d t (srcR d t) (tgtR d t) w⟩
  ·simp [alook, c1, c2] at hw
 rw [if_neg k3] at hw
 by_cases c1 : ch = 1
 ·subst c1
  simp [alook] at hw
  obtain ⟨rfl, rfl, rfl⟩ := hw
  exact ⟨by simp [allowB, k1, k3], _, _, _, _, _, _, by simp [resE, k1] <;> rfl, ofTarget_ac d t (srcR d t) (tgtR d t) w⟩
 by_cases c2 : ch = 2
 ·subst c2
  simp [alook] at hw
  obtain ⟨rfl, rfl, rfl⟩ := hw
  exact ⟨by simp [allowB, k1, k3], _, _, _, _, _, _, by simp [resE, k1, k3] <;> rfl, ofSource_ac d t (srcR d t) (tgtR d t) w⟩
 by_cases c3 : ch = 3
 ·subst c3
  simp [alook] at hw
  obtain ⟨rfl, rfl, rfl⟩ := hw
  exact ⟨by simp [allowB, k1, k3], _, _, _, _, _, _, by simp [resE, k1, k3] <;> rfl, ofMerge_ac d t (srcR d t) (tgtR d t) w⟩
 by_cases c4 : ch = 4
 ·subst c4
  simp [alook] at hw
  obtain ⟨rfl, rfl, rfl⟩ := hw
  exact ⟨by simp [allowB, k1, k3], _, _, _, _, _, _, by simp [resE, k1, k3] <;> rfl, ofMerge_ac d t (srcR d t) (tgtR d t) w⟩
 ·simp [alook, c1, c2, c3, c4] at hw
def k40 := And.intro @Tryz.ntmps40 <| And.intro @bld100 <| And.intro @bld30 <| And.intro @bld39 <| And.intro @bld41 <| And.intro @bld46 <| And.intro @bld56 <| And.intro @elt50 <| And.intro @fld100_0 <| And.intro @fld100_1 <| And.intro @fld100_3 <| And.intro @fld39_5 <| And.intro @fld39_6 <| And.intro @fld39_8 <| And.intro @fld46_1 <| And.intro @fld46_4 <| And.intro @fld56_0 <| And.intro @fld56_1 <| And.intro @fld56_2 <| And.intro @fld56_4 <| And.intro @fld56_5 <| And.intro @fld56_6 <| And.intro @ti100 <| And.intro @ti3 <| And.intro @ti30 <| And.intro @ti39 <| And.intro @ti41 <| And.intro @ti46 <| And.intro @ti50 <| And.intro @ti56 <| @ti9
theorem v40U13 {G G' : Prop} (g : G') (h : Hid G' → G := by intro h9; (first | refine nvB ?_ | refine goA (wr := false) (by simp only [kB, kS, k40, Nat.reduceAdd, Nat.reduceLT, Nat.reduceEqDiff, ↓reduceIte, reduceCtorEq]; first | done | rfl) ?_); (repeat (first | refine nvB ?_ | refine goA (wr := false) (by simp only [kB, kS, k40, Nat.reduceAdd, Nat.reduceLT, Nat.reduceEqDiff, ↓reduceIte, reduceCtorEq]; first | done | rfl) ?_)); exact h9.out) : G := h ⟨g⟩
theorem pmoved_ac (d : Dep) (hg : Good d.revs) (hd : d.revs.length ≤ 1000000) (t : Tsk) (s : Rev) (e : Edt) (hto : usableB t.to = true) (hmv : usableB t.move = true) (ht : t.to.size ≤ 1500) (hm : t.move.size ≤ 1500) :
  AC Tryz.prog 40 [.agg ((encPrb d t s (tgtR d t)).map C.d), aEdt e] [] (fun r st => r = .c (.d (.ps 12 ((movE d t e).map encEdt))) ∧ st = []) := by
 have hL := hLast_ac d hg hd t.move
 have hC := pcompare_ac t.to t.move (by omega) (by omega)
 have v1 : (path? t.to).isSome = true := by
  cases h : (path? t.to).isSome with
  | true => rfl
  | false => simp [usableB, h] at hto
 have v2 : (path? t.move).isSome = true := by
  cases h : (path? t.move).isSome with
  | true => rfl
  | false => simp [usableB, h] at hmv
 rw [v1, v2] at hC
 simp only [Bool.and_self, if_true] at hC
 have hln : lastNum d t.move = ((last? d t.move).getD zRev).num := rfl
 generalize (last? d t.move).getD zRev = lm at hL hln
 generalize (last? d t.move).isSome = lb at hL
 refine AC_enter Tryz.func40 rfl rfl (by simp only [Tryz.ntmps40, List.length]; omega) ?_
 intro x hx
 simp only [List.range, List.range.loop, List.length, List.zip, List.zipWith, Nat.reduceAdd, Tryz.ntmps40]
 (repeat (first | refine v40U13 ?_ | (refine caA [] (hL) ?_; rintro r st' ⟨rfl, rfl⟩; refine frA ?_)))
 refine drA (wr := false) ([] : List (Nat × AV)) (by simp only [kD, kB, kS, k40, Nat.reduceAdd, Nat.reduceLT, Nat.reduceEqDiff, ↓reduceIte, reduceCtorEq]; first | done | rfl) ?_ ?_
 ·exact obN
 refine nvA ?_
 refine drA (wr := false) ([] : List (Nat × AV)) (by simp only [kD, kB, kS, k40, Nat.reduceAdd, Nat.reduceLT, Nat.reduceEqDiff, ↓reduceIte, reduceCtorEq]; first | done | rfl) ?_ ?_
 ·exact obN
 refine nvA ?_
 (repeat (first | refine v40U13 ?_ | (refine caA [] (hC) ?_; rintro r st' ⟨rfl, rfl⟩; refine frA ?_)))
 refine ifA ?_ ?_
 ·intro h
  have h' : ord t.to t.move < 0 := by simpa using h
  refine nvA ?_
  refine goA (wr := false) (by simp only [kB, kS, k40, Nat.reduceAdd, Nat.reduceLT, Nat.reduceEqDiff, ↓reduceIte, reduceCtorEq]; first | done | rfl) ?_
  refine TO_ent (Ent_frzSlot (i := 4) (id := 56) (ys := [encEdt (awayE d t), encEdt (hereE d t e)]) rfl ?_ rfl) ?_
  ·simp only [awayE, hereE, hln]; rfl
  refine fzA ?_
  try refine v40U13 ?_
  refine rtA (by simp only [kR, Tryz.results40, ↓reduceIte, Nat.reduceEqDiff, reduceCtorEq]; first | done | rfl) ([]) ?_
  refine ⟨?_, rfl⟩
  simp only [movE, if_pos h', List.map]
 intro h
 have h' : ¬ ord t.to t.move < 0 := by simpa using h
 refine nvA ?_
 refine goA (wr := false) (by simp only [kB, kS, k40, Nat.reduceAdd, Nat.reduceLT, Nat.reduceEqDiff, ↓reduceIte, reduceCtorEq]; first | done | rfl) ?_
 refine TO_ent (Ent_frzSlot (i := 4) (id := 59) (ys := [encEdt (hereE d t e), encEdt (awayE d t)]) rfl ?_ rfl) ?_
 ·simp only [awayE, hereE, hln]; rfl
 refine fzA ?_
 try refine v40U13 ?_
 refine rtA (by simp only [kR, Tryz.results40, ↓reduceIte, Nat.reduceEqDiff, reduceCtorEq]; first | done | rfl) ([]) ?_
 refine ⟨?_, rfl⟩
 simp only [movE, if_neg h', List.map]
theorem fits_move {d : Dep} {t : Tsk} {ch : Int} {w : Rsn} (hF : Fits d t) (hp : permB t ch w = true) (hm : w.mv = true) : usableB t.to = true ∧ usableB t.move = true := by
 refine ⟨hF.use, ?_⟩
 have h1 : ¬ t.move = noS := by
  intro e; simp [permB, hm, e] at hp
 have h2 := hF.rest
 unfold kindB movB at h2
 split at h2
 ·simp [h1] at h2
 ·simp [h1] at h2
  exact h2.2.1.1
def k14 := And.intro @Tryz.ntmps14 <| And.intro @bld100 <| And.intro @bld105 <| And.intro @bld30 <| And.intro @bld39 <| And.intro @bld41 <| And.intro @bld44 <| And.intro @bld46 <| And.intro @bld54 <| And.intro @bld56 <| And.intro @bld76 <| And.intro @elt28 <| And.intro @elt50 <| And.intro @fld105_0 <| And.intro @fld105_1 <| And.intro @fld105_2 <| And.intro @fld39_0 <| And.intro @fld39_2 <| And.intro @fld39_3 <| And.intro @fld39_4 <| And.intro @fld39_5 <| And.intro @fld39_6 <| And.intro @fld39_8 <| And.intro @fld46_1 <| And.intro @fld54_2 <| And.intro @fld56_0 <| And.intro @fld56_1 <| And.intro @fld56_2 <| And.intro @fld56_3 <| And.intro @fld56_4 <| And.intro @fld76_0 <| And.intro @fld76_1 <| And.intro @fld76_2 <| And.intro @fld76_3 <| And.intro @fld76_4 <| And.intro @fld76_5 <| And.intro @kyt3 <| And.intro @mpt107 <| And.intro @ti100 <| And.intro @ti103 <| And.intro @ti105 <| And.intro @ti107 <| And.intro @ti28 <| And.intro @ti3 <| And.intro @ti30 <| And.intro @ti39 <| And.intro @ti4 <| And.intro @ti41 <| And.intro @ti44 <| And.intro @ti46 <| And.intro @ti50 <| And.intro @ti54 <| And.intro @ti56 <| And.intro @ti76 <| @ti9
theorem v14U14 {G G' : Prop} (g : G') (h : Hid G' → G := by intro h9; (first | refine nvB ?_ | refine goA (wr := false) (by simp only [kB, kG, kS, kM, kFn, k14, Nat.reduceAdd, Nat.reduceLT, Nat.reduceEqDiff, ↓reduceIte, reduceCtorEq]; first | done | rfl) ?_); (repeat (first | refine nvB ?_ | refine goA (wr := false) (by simp only [kB, kG, kS, kM, kFn, k14, Nat.reduceAdd, Nat.reduceLT, Nat.reduceEqDiff, ↓reduceIte, reduceCtorEq]; first | done | rfl) ?_)); exact h9.out) : G := h ⟨g⟩
theorem Resolve_ac (d : Dep) (hg : Good d.revs) (hN : d.revs.length ≤ 512) (hn : NumOK d) (t : Tsk) (ht : t.to.size ≤ 1500) (hm : t.move.size ≤ 1500) (ch : Int) (w : Rsn) : AC Tryz.prog 14 [aDep d, aTsk t, I .i64 ch, aRsn w] [] (fun r st => r = resA d t ch w ∧ st = []) := by
 have hO := open_ac d hg hN hn t (by omega) (by omega)
 refine AC_enter Tryz.func14 rfl rfl (by simp only [Tryz.ntmps14, List.length]; omega) ?_
 intro x hx
 simp only [List.range, List.range.loop, List.length, List.zip, List.zipWith, Nat.reduceAdd, Tryz.ntmps14]
 try refine v14U14 ?_
 refine caA [] (hO) ?_
 rintro r st' ⟨⟨rfl, hf⟩ | rfl, rfl⟩ <;> refine frA ?_
 ·try refine v14U14 ?_
  refine ifA ?_ ?_
  rotate_left
  ·intro h; cases h
  intro _
  try refine v14U14 ?_
  refine rtA (by simp only [kR, Tryz.results14, ↓reduceIte, Nat.reduceEqDiff, reduceCtorEq]; first | done | rfl) ([]) ?_
  refine ⟨?_, rfl⟩
  simp [resA, hf]
 cases hf : fitsB d t with
 | false =>
   try refine v14U14 ?_
   refine ifA ?_ ?_
   rotate_left
   ·intro h; cases h
   intro _
   try refine v14U14 ?_
   refine rtA (by simp only [kR, Tryz.results14, ↓reduceIte, Nat.reduceEqDiff, reduceCtorEq]; first | done | rfl) ([]) ?_
   refine ⟨?_, rfl⟩
   simp [resA, hf]
 | true =>
 have hF : Fits d t := by simpa [fitsB] using hf
 have hW := ways_ac t.kind
 have hP := permitted_ac t ch w
 have hhd := lastNum_le hg t.to
 rw [hF.head] at hhd
 have hbs := lastNum_le hg t.move
 try refine v14U14 ?_
 refine ifA ?_ ?_
 ·intro h; cases h
 intro _
 (repeat (first | refine v14U14 ?_ | (refine caA [] (hW) ?_; rintro r st' ⟨rfl, rfl⟩; refine frA ?_)))
 cases hw : alook (wayL t.kind) ch with
 | none =>
   refine TO_go (wr := false) 400 (by simp only [kB, kG, kS, kM, kFn, k14, Nat.reduceAdd, Nat.reduceLT, Nat.reduceEqDiff, ↓reduceIte, reduceCtorEq, look_W, hw, Option.map_none, Option.isSome]; first | done | rfl) ?_ ?_
   ·exact obF ty_W
   try refine v14U14 ?_
   refine TO_stepO (wr := false) ([(41, B (permB t ch w))] : List (Nat × AV)) rfl (by simp only [kD, kB, kG, kS, kM, kFn, k14, Nat.reduceAdd, Nat.reduceLT, Nat.reduceEqDiff, ↓reduceIte, reduceCtorEq]; first | done | rfl) ?_ ?_
   ·simp only [All, List.cons_append, List.nil_append, InR, List.mem_cons, List.not_mem_nil, or_false, forall_eq_or_imp, forall_eq, clAV, clCs, clC, clCaps, clCap, and_true, true_and, implies_true, List.length_map, List.length_cons, List.length_nil, dArr, cl_arr, tyCs]
    repeat' (first | exact trivial | exact hP | refine And.intro ?_ ?_ | intro _ | assumption | rfl | omega | (simp; done) | (simp_all; done))
   simp only [kP, Nat.reduceEqDiff, ↓reduceIte, reduceCtorEq]
   try refine v14U14 ?_
   refine ifA ?_ ?_
   rotate_left
   ·intro h; cases h
   intro _
   try refine v14U14 ?_
   refine rtA (by simp only [kR, Tryz.results14, ↓reduceIte, Nat.reduceEqDiff, reduceCtorEq]; first | done | rfl) ([]) ?_
   refine ⟨?_, rfl⟩
   exact (resA_bad hf (by rw [way_none hw]; rfl)).symm
 | some v =>
 obtain ⟨a, h, F⟩ := v
 obtain ⟨hal, b, kw, ex, xe, sm, sz, hE, hC⟩ := way_some (d := d) (w := w) hw
 refine TO_go (wr := false) 400 (by simp only [kB, kG, kS, kM, kFn, k14, Nat.reduceAdd, Nat.reduceLT, Nat.reduceEqDiff, ↓reduceIte, reduceCtorEq, look_W, hw, Option.map_some, upD, Option.isSome]; first | done | rfl) ?_ ?_
 ·exact obF ty_W
 try refine v14U14 ?_
 refine TO_stepO (wr := false) ([(41, B (permB t ch w))] : List (Nat × AV)) rfl (by simp only [kD, kB, kG, kS, kM, kFn, k14, Nat.reduceAdd, Nat.reduceLT, Nat.reduceEqDiff, ↓reduceIte, reduceCtorEq]; first | done | rfl) ?_ ?_
 ·simp only [All, List.cons_append, List.nil_append, InR, List.mem_cons, List.not_mem_nil, or_false, forall_eq_or_imp, forall_eq, clAV, clCs, clC, clCaps, clCap, and_true, true_and, implies_true, List.length_map, List.length_cons, List.length_nil, dArr, cl_arr, tyCs]
  repeat' (first | exact trivial | exact hP | refine And.intro ?_ ?_ | intro _ | assumption | rfl | omega | (simp; done) | (simp_all; done))
 simp only [kP, Nat.reduceEqDiff, ↓reduceIte, reduceCtorEq]
 try refine v14U14 ?_
 refine ifA ?_ ?_
 ·intro h2
  try refine v14U14 ?_
  refine rtA (by simp only [kR, Tryz.results14, ↓reduceIte, Nat.reduceEqDiff, reduceCtorEq]; first | done | rfl) ([]) ?_
  refine ⟨?_, rfl⟩
  refine (resA_bad hf ?_).symm
  have : permB t ch w = false := by simpa using h2
  rw [this, Bool.and_false]
 intro h2
 have hperm : permB t ch w = true := by simpa using h2
 rw [resA_ok hf hal hperm]
 try refine v14U14 ?_
 refine TO_callv [] (by simp) (by simp only [kV, ↓reduceIte, Nat.reduceEqDiff, reduceCtorEq]; first | done | rfl) (by simp only [kFn, List.map]; first | done | rfl) (by simp only [kV, ↓reduceIte, Nat.reduceEqDiff, reduceCtorEq]; first | done | rfl) ⟨by simp, by simp, by simp [clAV, clC, clCs, clCaps, clCap]⟩ (hC) ?_
 rintro r st' ⟨rfl, rfl⟩ <;> (refine ⟨by simp [Fresh], ?_⟩; simp only [kP, Nat.reduceEqDiff, ↓reduceIte, reduceCtorEq])
 try refine v14U14 ?_
 refine T_ent (Ent_frzSlot (i := 15) (id := 62) (ys := [encEdt ⟨t.to, a, b, kw, ex, xe, sm, sz, t.head, noS, 0, 0⟩]) rfl rfl rfl) ?_
 refine fzA ?_
 refine T_join ⟨101, [(4, .c (.ptr 4 0)), (5, .c (.ptr 5 0)), (7, .c (.ptr 7 0)), (13, .c (.ptr 13 0)), (15, .c (.d (.ps 12 ((resEs d t ch w).map encEdt))))],
  [(4, .box ((encDep d).map C.d)), (5, .box ((encTsk t).map C.d)), (7, .box ((encRsn w).map C.d)), (13, .box [.d (.v (.int .i64 a)), .d (.v (.int .i64 h)), .d (.v (.func (.func F) #[] #[]))])]⟩ ?_ ?_
 ·refine ifA ?_ ?_
  ·intro hmv
   have hM := pmoved_ac d hg (by omega) t (srcR d t) ⟨t.to, a, b, kw, ex, xe, sm, sz, t.head, noS, 0, 0⟩ (fits_move hF hperm hmv).1 (fits_move hF hperm hmv).2 ht hm
   (repeat (first | refine v14U14 ?_ | (refine caA [] (hM) ?_; rintro r st' ⟨rfl, rfl⟩; refine frA ?_)))
   refine ⟨rfl, ?_⟩
   (refine Ent_sub (fun i => i) rfl ?_ ⟨?_, ?_, ?_, keepI hx (by simp [domOf, Ab.get])⟩ <;> first | (simp only [kE, dArr, ↓reduceIte, Nat.reduceEqDiff, reduceCtorEq, resEs, hmv, hE]; done) | simp [renAV_id, renAO_id, flat_up, Ab.get, clAV, clC, clCs, clAO, cl_f1, cl_s1, cl_f2, cl_s2, cl_a1, domOf, List.flatten, resEs, hmv, hE])
  intro hmv
  refine nvA ?_
  refine ⟨rfl, ?_⟩
  (refine Ent_sub (fun i => i) rfl ?_ ⟨?_, ?_, ?_, keepI hx (by simp [domOf, Ab.get])⟩ <;> first | (simp only [kE, dArr, ↓reduceIte, Nat.reduceEqDiff, reduceCtorEq, resEs, hmv, hE]; done) | simp [renAV_id, renAO_id, flat_up, Ab.get, clAV, clC, clCs, clAO, cl_f1, cl_s1, cl_f2, cl_s2, cl_a1, domOf, List.flatten, resEs, hmv, hE])
 have hL := hLast_ac d hg (by omega) t.move
 have hln : lastNum d t.move = ((last? d t.move).getD zRev).num := rfl
 rw [hln] at hbs
 generalize (last? d t.move).getD zRev = lm at hL hln hbs
 generalize (last? d t.move).isSome = lb at hL
 try refine v14U14 ?_
 refine T_join ⟨101, [(15, .c (.d (.ps 12 ((resEs d t ch w).map encEdt)))), (16, .c (.ptr 16 0))], [(16, .box ((encRcd (resRc d t ch w)).map C.d))]⟩ ?_ ?_
 ·refine ifA ?_ ?_
  ·intro hmv
   (repeat (first | refine v14U14 ?_ | (refine caA [] (hL) ?_; rintro r st' ⟨rfl, rfl⟩; refine frA ?_)))
   refine drA (wr := false) ([] : List (Nat × AV)) (by simp only [kD, kB, kG, kS, kM, kFn, k14, Nat.reduceAdd, Nat.reduceLT, Nat.reduceEqDiff, ↓reduceIte, reduceCtorEq]; first | done | rfl) ?_ ?_
   ·exact obN
   refine nvA ?_
   refine ⟨rfl, ?_⟩
   (refine Ent_sub (fun i => i) rfl ?_ ⟨?_, ?_, ?_, keepI hx (by simp [domOf, Ab.get])⟩ <;> first | (simp only [kE, dArr, ↓reduceIte, Nat.reduceEqDiff, reduceCtorEq, resRc, hmv, hE, hln]; done) | simp [renAV_id, renAO_id, flat_up, Ab.get, clAV, clC, clCs, clAO, cl_f1, cl_s1, cl_f2, cl_s2, cl_a1, domOf, List.flatten, resRc, hmv, hE, hln])
  intro hmv
  refine nvA ?_
  refine ⟨rfl, ?_⟩
  (refine Ent_sub (fun i => i) rfl ?_ ⟨?_, ?_, ?_, keepI hx (by simp [domOf, Ab.get])⟩ <;> first | (simp only [kE, dArr, ↓reduceIte, Nat.reduceEqDiff, reduceCtorEq, resRc, hmv, hE]; done) | simp [renAV_id, renAO_id, flat_up, Ab.get, clAV, clC, clCs, clAO, cl_f1, cl_s1, cl_f2, cl_s2, cl_a1, domOf, List.flatten, resRc, hmv, hE])
 refine nvA ?_
 refine drA (wr := false) ([] : List (Nat × AV)) (by simp only [kD, kB, kG, kS, kM, kFn, k14, Nat.reduceAdd, Nat.reduceLT, Nat.reduceEqDiff, ↓reduceIte, reduceCtorEq]; first | done | rfl) ?_ ?_
 ·exact obN
 try refine then_normal ?_
 refine T_ent (Ent_frzSlot (i := 9) (id := 100) (ys := [encRcd (resRc d t ch w)]) rfl rfl rfl) ?_
 refine fzA ?_
 refine nvA ?_
 refine rtA (by simp only [kR, Tryz.results14, ↓reduceIte, Nat.reduceEqDiff, reduceCtorEq]; first | done | rfl) ([]) ?_
 refine ⟨?_, rfl⟩
 rfl
end Go.Proofs.YtmhboloicpieeaaGreatDoor
