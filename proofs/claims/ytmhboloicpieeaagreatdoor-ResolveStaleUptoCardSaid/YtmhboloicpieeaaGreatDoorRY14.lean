/- A part of the proof. -/
import Derived.Test.YtmhboloicpieeaaGreatDoorRY13
import Derived.Test.YtmhboloicpieeaaGreatDoorRX19
set_option linter.all false
namespace Go.Proofs.YtmhboloicpieeaaGreatDoor
open Go.Ab Tys
variable [DrF]
def kZ := And.intro @runZ.eq_1 <| And.intro @runZ.eq_2 <| And.intro @stepZ.eq_def <| And.intro @callZ.eq_def @Option.some.injEq.{0}
theorem smallM_E2 {m : List Etr} (h : smallM m = true) (hb : ∀ e ∈ m, EB 1048576 e ∧ e.holes.length ≤ 1000000) : m.length ≤ 10000 ∧ (∀ e ∈ m, EB1 e) ∧ ∀ e ∈ m, ∀ x ∈ e.right.parts, x.size ≤ 60 := by
 obtain ⟨h1, h2⟩ := smallM_PB h
 refine ⟨by omega, fun e he => ⟨?_, ?_, (hb e he).2, fun x hx => ?_⟩, fun e he x hx => ?_⟩
 ·exact (h2 e he e.left (by simp [ptsE])).mono (by omega)
 ·exact (h2 e he e.right (by simp [ptsE])).mono (by omega)
 ·exact (h2 e he x (by simp [ptsE, hx])).mono (by omega)
 ·exact (h2 e he e.right (by simp [ptsE])).2 x hx
theorem tasks_rel2 {l : List Chg} {d : Dep} (hB : Built l d) (hl : ∀ c ∈ l, sC c) (m : List Etr) (hm : m.length ≤ 10000) (hb : ∀ e ∈ m, EB1 e) (hr : ∀ e ∈ m, ∀ x ∈ e.right.parts, x.size ≤ 60) :
  AC Tryz.prog 11 [aDep d, aEtrs m] [] (fun r st => (∃ (ts : List Tsk) (e : Int), r = .tup [pTsks ts, pI e] ∧ ∀ x ∈ ts, TskC d x ∧ x.to.size ≤ 100000 ∧ x.move.size ≤ 100000) ∧ st = []) := by
 obtain ⟨o1, o2, o3⟩ := hB.ok
 refine (tasks_ac d hB.good o1 o2 hB.rc (fun v hv => (hB.pths v hv).2) m hm hb).mono fun r st ⟨h, hst⟩ => ⟨?_, hst⟩
 rcases h with ⟨_, rfl⟩ | ⟨_, rfl⟩
 ·exact ⟨_, _, rfl, fun x hx => tskF_C hB.good (hB.p500 hl) hr x hx⟩
 ·exact ⟨_, _, rfl, fun x hx => by cases hx⟩
def zTsk2 : Tsk := ⟨0, noS, 0, noS, 0, 0, noS, 0, noS, 0, noS⟩
@[reducible] def edT (x : Tsk) (act sum size : Int) : Edt := ⟨x.to, act, 2, false, false, false, sum, size, x.head, ByteArray.empty, 0, 0⟩
def AppRel (d : Dep) (n : Int) (z : Edt) (c : D × D × Int) : Prop :=
 (∃ rs : List Rcd, c = (.ps 12 ((d.revs ++ [revZ d n z]).map encRev), .ps 6 (rs.map encRcd), 0)) ∨ ∃ e : Int, ¬ e = 0 ∧ c = (.v (.slice none 0 0), .v (.slice none 0 0), e)
theorem appT_ac (d : Dep) (hg : Good d.revs) (h0 : d.revs ≠ []) (hd : d.revs.length ≤ 500) (hd2 : d.recs.length ≤ 512) (hdr : ∀ r ∈ d.recs, rOK r) (n : Int) (z : Edt) (hz : z.act = 1 ∨ z.act = 2) (hs : z.path.size ≤ 100000) :
  AC Tryz.prog 15 [aDep d, .agg [.d (.v (.int .i64 n)), .d (.v (.string ByteArray.empty)), .d (.v (.string ByteArray.empty)), .ms 71 12 0 1, nilC]] [(71, dArr 12 [encEdt z])]
   (fun r st => (∃ c : D × D × Int, AppRel d n z c ∧ r = .tup [(true, [.d c.1, .d c.2.1]), pI c.2.2]) ∧ st = [(71, .dead)]) := by
 have h := Append1_ac d hg h0 hd hd2 hdr n ByteArray.empty ByteArray.empty z hz hs
 have h2 : AC Tryz.prog 15 [aDep d, .agg ([D.v (.int .i64 n), .v (.string ByteArray.empty), .v (.string ByteArray.empty)].map C.d ++ .d (.ps 12 [encEdt z]) :: [D.v (.slice none 0 0)].map C.d)] []
   (fun r st => (∃ c : D × D × Int, AppRel d n z c ∧ r = .tup [(true, [.d c.1, .d c.2.1]), pI c.2.2]) ∧ st = []) := by
  refine (AC_args h ?_).mono ?_
  ·intro k us hr
   cases hr with
   | cons h1 ht =>
   cases ht with
   | cons h2 ht =>
   cases ht
   refine .cons h1 (.cons ?_ .nil)
   obtain ⟨vs, e, h3⟩ := h2
   refine ⟨vs, e, ?_⟩
   cases h3 with
   | cons g1 h3 =>
   cases h3 with
   | cons g2 h3 =>
   cases h3 with
   | cons g3 h3 =>
   cases h3 with
   | cons g4 h3 =>
   cases h3 with
   | cons g5 h3 =>
   cases h3
   refine .cons g1 (.cons g2 (.cons g3 (.cons g4 (.cons ?_ .nil))))
   cases g5
   exact RepD.nil 6 none 0
  ·rintro r st ⟨⟨rs, rfl⟩ | ⟨e, hne, rfl⟩, rfl⟩
   ·exact ⟨⟨_, .inl ⟨rs, rfl⟩, rfl⟩, rfl⟩
   ·exact ⟨⟨_, .inr ⟨e, hne, rfl⟩, rfl⟩, rfl⟩
 exact AC_lendD (id := 71) (by simp [clAV, clCs, clC]) (by rintro r ⟨c, _, rfl⟩; simp [clAV, clPs, clCs, clC]) h2
def k17 := And.intro @Tryz.ntmps17 <| And.intro @Tryz.underlying63 <| And.intro @bld100 <| And.intro @bld105 <| And.intro @bld30 <| And.intro @bld39 <| And.intro @elt63 <| And.intro @fld39_0 <| And.intro @kyt3 <| And.intro @mpt107 <| And.intro @ti100 <| And.intro @ti105 <| And.intro @ti107 <| And.intro @ti3 <| And.intro @ti30 <| And.intro @ti39 <| @ti63
theorem v17Y14 {G G' : Prop} (g : G') (h : Hid G' → G := by intro h9; (first | refine nvB ?_ | refine goA (wr := false) (by simp only [kB, kS, kM, k17, Nat.reduceAdd, Nat.reduceLT, Nat.reduceEqDiff, ↓reduceIte, reduceCtorEq]; first | done | rfl) ?_); (repeat (first | refine nvB ?_ | refine goA (wr := false) (by simp only [kB, kS, kM, k17, Nat.reduceAdd, Nat.reduceLT, Nat.reduceEqDiff, ↓reduceIte, reduceCtorEq]; first | done | rfl) ?_)); exact h9.out) : G := h ⟨g⟩
set_option maxRecDepth 100000 in
set_option maxHeartbeats 8000000 in
theorem ChoicesNo_ac (d : Dep) (hg : Good d.revs) (hN : d.revs.length ≤ 512) (hn : NumOK d) (t : Tsk) (ht : t.to.size ≤ 100000) (hm : t.move.size ≤ 100000) (hf : fitsB d t = false) :
  AC Tryz.prog 17 [aDep d, aTsk t] [] (fun r st => r = .tup [nilP, pI 170] ∧ st = []) := by
 have hO := open_ac d hg hN hn t ht hm
 rw [hf] at hO
 refine AC_enter Tryz.func17 rfl rfl (by simp only [Tryz.ntmps17, List.length]; omega) ?_
 intro x hx
 simp only [List.range, List.range.loop, List.length, List.zip, List.zipWith, Nat.reduceAdd, Tryz.ntmps17]
 try refine v17Y14 ?_
 refine caA [] (hO) ?_
 rintro r st' ⟨⟨rfl, _⟩ | rfl, rfl⟩ <;> refine frA ?_
 ·try refine v17Y14 ?_
  refine ifA ?_ ?_
  rotate_left
  ·intro h; cases h
  intro _
  try refine v17Y14 ?_
  refine rtA (by simp only [kR, Tryz.results17, ↓reduceIte, Nat.reduceEqDiff, reduceCtorEq]; first | done | rfl) ([]) ?_
  refine ⟨?_, rfl⟩
  rfl
 try refine v17Y14 ?_
 refine ifA ?_ ?_
 rotate_left
 ·intro h; cases h
 intro _
 try refine v17Y14 ?_
 refine rtA (by simp only [kR, Tryz.results17, ↓reduceIte, Nat.reduceEqDiff, reduceCtorEq]; first | done | rfl) ([]) ?_
 refine ⟨?_, rfl⟩
 rfl
def k4 := And.intro @Tryz.ntmps4 <| And.intro @Tryz.underlying32 <| And.intro @Tryz.underlying63 <| And.intro @bld30 <| And.intro @bld39 <| And.intro @bld41 <| And.intro @bld44 <| And.intro @bld56 <| And.intro @bld62 <| And.intro @elt32 <| And.intro @elt50 <| And.intro @elt63 <| And.intro @fld39_0 <| And.intro @fld39_5 <| And.intro @fld39_6 <| And.intro @fld41_0 <| And.intro @fld44_1 <| And.intro @fld56_0 <| And.intro @fld56_1 <| And.intro @fld56_2 <| And.intro @fld56_3 <| And.intro @fld56_4 <| And.intro @fld62_0 <| And.intro @fld62_3 <| And.intro @ti3 <| And.intro @ti30 <| And.intro @ti32 <| And.intro @ti39 <| And.intro @ti41 <| And.intro @ti44 <| And.intro @ti50 <| And.intro @ti56 <| And.intro @ti62 <| @ti9
theorem v4Y14 {G G' : Prop} (g : G') (h : Hid G' → G := by intro h9; (first | refine nvB ?_ | refine goA (wr := false) (by simp only [kB, kG, kS, k4, Nat.reduceAdd, Nat.reduceLT, Nat.reduceEqDiff, ↓reduceIte, reduceCtorEq]; first | done | rfl) ?_); (repeat (first | refine nvB ?_ | refine goA (wr := false) (by simp only [kB, kG, kS, k4, Nat.reduceAdd, Nat.reduceLT, Nat.reduceEqDiff, ↓reduceIte, reduceCtorEq]; first | done | rfl) ?_)); exact h9.out) : G := h ⟨g⟩
set_option maxRecDepth 100000 in
set_option maxHeartbeats 16000000 in
theorem ResolveStale_ac (l : List Chg) (hf : Few l) (m : List Etr) (hm : m.length ≤ 1048576) (hb : ∀ e ∈ m, EB 1048576 e ∧ e.holes.length ≤ 1000000) (pick sum size : Int) :
  AC Tryz.prog 4 [.c (.d (.ps 5 (l.map encChg))), aEtrs m, I .i64 pick, .agg [.d (.v (.int .u64 sum)), .d (.v (.int .i64 size))]] [] (fun r st => r = B true ∧ st = []) := by
 have haw := awake17_ac
 have hsm := small17_ac m hm (fun e he => (hb e he).1)
 have hsz := fun h => smallM_E2 (m := m) h hb
 generalize smallM m = sb at hsm hsz
 refine AC_enter Tryz.func4 rfl rfl (by simp only [Tryz.ntmps4, List.length]; omega) ?_
 intro x hx
 simp only [List.range, List.range.loop, List.length, List.zip, List.zipWith, Nat.reduceAdd, Tryz.ntmps4]
 try refine v4Y14 ?_
 refine caA [] (small_ac l hf) ?_
 rintro r st' ⟨⟨b, rfl, hb1⟩, rfl⟩ <;> refine frA ?_
 try refine v4Y14 ?_
 refine TO_stepO (wr := false) ([(21, B sb)] : List (Nat × AV)) rfl (by simp only [kD, kB, kG, kS, k4, Nat.reduceAdd, Nat.reduceLT, Nat.reduceEqDiff, ↓reduceIte, reduceCtorEq]; first | done | rfl) ?_ ?_
 ·simp only [All, List.cons_append, List.nil_append, InR, List.mem_cons, List.not_mem_nil, or_false, forall_eq_or_imp, forall_eq, clAV, clCs, clC, clCaps, clCap, and_true, true_and, implies_true, List.length_map, List.length_cons, List.length_nil, dArr, cl_arr, tyCs]
  repeat' (first | exact trivial | exact hsm | refine And.intro ?_ ?_ | intro _ | assumption | rfl | omega | (simp; done) | (simp_all; done))
 simp only [kP, Nat.reduceEqDiff, ↓reduceIte, reduceCtorEq]
 try refine v4Y14 ?_
 refine ifA ?_ ?_
 ·intro _
  (repeat (first | refine v4Y14 ?_ | (refine caA [] (haw) ?_; rintro r st' ⟨rfl, rfl⟩; refine frA ?_)))
  refine rtA (by simp only [kR, Tryz.results4, ↓reduceIte, Nat.reduceEqDiff, reduceCtorEq]; first | done | rfl) ([]) ?_
  refine ⟨?_, rfl⟩
  rfl
 intro hc
 have hb2 : b = true := by cases b <;> simp_all
 have hs1 : sb = true := by cases sb <;> simp_all
 obtain ⟨b1, b2, b3⟩ := hb1 hb2
 obtain ⟨m1, m2, m3⟩ := hsz hs1
 try refine v4Y14 ?_
 refine caA [] (build_ac l (by omega) (sC_ok b2 b3)) ?_
 rintro r st' ⟨⟨d, rfl, hB⟩, rfl⟩ <;> refine frA ?_
 obtain ⟨o1, o2, o3⟩ := hB.ok
 have o4 := hB.tot
 try refine v4Y14 ?_
 refine caA [] (tasks_rel2 hB b3 m m1 m2 m3) ?_
 rintro r st' ⟨⟨ts, e, rfl, hT⟩, rfl⟩ <;> refine frA ?_
 try refine v4Y14 ?_
 refine ifA ?_ ?_
 ·intro _
  (repeat (first | refine v4Y14 ?_ | (refine caA [] (haw) ?_; rintro r st' ⟨rfl, rfl⟩; refine frA ?_)))
  refine rtA (by simp only [kR, Tryz.results4, ↓reduceIte, Nat.reduceEqDiff, reduceCtorEq]; first | done | rfl) ([]) ?_
  refine ⟨?_, rfl⟩
  rfl
 intro hc2
 have hpk : 0 ≤ pick ∧ pick < ts.length := by
  by_cases h1 : e = 0
  ·by_cases h2 : pick < 0
   ·simp [h1, h2] at hc2
   ·simp [h1, h2] at hc2; omega
  ·simp [h1] at hc2
 obtain ⟨x, hx, hxe, _⟩ := round encTsk ts pick.toNat zTsk2 (by omega)
 obtain ⟨hxB, hx1, hx2⟩ := hT x (List.mem_of_getElem? hx)
 have hnx := next_ac d (by omega) (fun v hv => by have := hB.chgs v hv; omega)
 rw [show d.revs.foldl (fun n v => max n (v.chg + 1)) 1 = nxt d from rfl] at hnx
 have hne := hxB.ne
 (repeat (first | refine nvB ?_ | refine goA (wr := false) (by simp only [kB, kG, kS, k4, Nat.reduceAdd, Nat.reduceLT, Nat.reduceEqDiff, ↓reduceIte, reduceCtorEq, hxe]; first | done | rfl) ?_))
 refine T_joinE (ι := Int) (fun a => ⟨95, [(8, B false), (9, .c (.ptr 9 0)), (12, .c (.ptr 12 0)), (13, .c (.ptr 13 0))], [(9, .box ((encDep d).map C.d)), (12, .box ((encTsk x).map C.d)), (13, .box ((encEdt (edT x a sum size)).map C.d))]⟩) (fun a => a = 1 ∨ (a = 2 ∧ ¬ x.kind = 1)) ?_ ?_
 ·refine ifA ?_ ?_
  ·intro _
   try refine v4Y14 ?_
   refine ⟨rfl, 1, .inl rfl, ?_⟩
   exact enA
  ·intro h
   refine nvA ?_
   refine ⟨rfl, 2, .inr ⟨rfl, by simpa using h⟩, ?_⟩
   exact enA
 intro a ha
 have hA := appT_ac d hB.good hne (by omega) o2 o3 (nxt d) (edT x a sum size) (by show a = 1 ∨ a = 2; omega) hx1
 refine nvA ?_
 refine T_drawz (wr := false) [(69, I .i64 (nxt d))] [(71, dArr 12 [encEdt (edT x a sum size)])] [0, 1, 2, 3, 4, 5, 10] 6 73 (fun c : D × D × Int => .tup [(true, [.d c.1, .d c.2.1]), pI c.2.2]) (AppRel d (nxt d) (edT x a sum size)) (.v (.slice none 0 0), .v (.slice none 0 0), 1) (.inr ⟨1, by decide, rfl⟩) (by kernel_rfl) (fun c => by simp only [kZ, kD, kB, kG, kS, k4, Nat.reduceAdd, Nat.reduceLT, Nat.reduceEqDiff, ↓reduceIte, reduceCtorEq, edT]; first | done | rfl) ?_ (fun c => by kernel_rfl) (by kernel_rfl) (fun _ _ => by kernel_rfl) (by kernel_rfl) (fun _ _ => by simp only [List.map_cons, List.map_nil, List.getElem?_cons_zero, List.getElem?_cons_succ]; repeat' (first | (with_reducible rfl) | refine congr (congrArg List.cons ?_) ?_ | refine congrArg some ?_ | kernel_rfl)) ?_
 ·intro c hcr
  (simp only [All, List.cons_append, List.nil_append, InR, List.mem_cons, List.not_mem_nil, or_false, forall_eq_or_imp, forall_eq, and_true, true_and, implies_true, List.length_map, List.length_cons, List.length_nil]; repeat' (first | exact trivial | exact hnx | exact hA | refine And.intro ?_ ?_ | (rintro _ ⟨⟩; done) | assumption | rfl | omega | (simp [clAO, cl_f1, cl_s1, cl_f2, cl_s2, cl_a1, flat_up, clCs, clC, clAV, clPs, domOf, Ab.get]; done)))
 rintro ⟨c1, c2, c3⟩ hcr
 rcases hcr with ⟨rs, hc⟩ | ⟨e2, hne2, hc⟩
 ·cases hc
  have hR : AppR d (revZ d (nxt d) (edT x a sum size)) := ⟨rfl, nxt_gt d, by
   rcases ha with rfl | ⟨rfl, hk⟩
   ·exact .inl rfl
   ·exact .inr ⟨rfl, hxB.live hk⟩⟩
  have hst := hxB.stale (r := revZ d (nxt d) (edT x a sum size)) rfl rfl rs
  have hCh := ChoicesNo_ac ⟨d.revs ++ [revZ d (nxt d) (edT x a sum size)], rs⟩ (good_appR hB.good hR) (by simp; omega) (numOK_appR rs hB.numOK rfl) x hx1 hx2 hst
  try refine v4Y14 ?_
  refine ifA ?_ ?_
  ·intro h; simp at h
  intro _
  (repeat (first | refine v4Y14 ?_ | (refine caA [] (hCh) ?_; rintro r st' ⟨rfl, rfl⟩; refine frA ?_)))
  refine TO_stepO (wr := false) ([(93, B true)] : List (Nat × AV)) rfl (by simp only [kD, kB, kG, kS, k4, Nat.reduceAdd, Nat.reduceLT, Nat.reduceEqDiff, ↓reduceIte, reduceCtorEq]; first | done | rfl) ?_ ?_
  ·simp only [All, List.cons_append, List.nil_append, InR, List.mem_cons, List.not_mem_nil, or_false, forall_eq_or_imp, forall_eq, clAV, clCs, clC, clCaps, clCap, and_true, true_and, implies_true, List.length_map, List.length_cons, List.length_nil, dArr, cl_arr, tyCs]
   repeat' (first | exact trivial | exact haw | refine And.intro ?_ ?_ | intro _ | assumption | rfl | omega | (simp; done) | (simp_all; done))
  simp only [kP, Nat.reduceEqDiff, ↓reduceIte, reduceCtorEq]
  try refine v4Y14 ?_
  refine rtA (by simp only [kR, Tryz.results4, ↓reduceIte, Nat.reduceEqDiff, reduceCtorEq]; first | done | rfl) ([]) ?_
  refine ⟨?_, rfl⟩
  rfl
 ·cases hc
  try refine v4Y14 ?_
  refine ifA ?_ ?_
  rotate_left
  ·intro h; simp [hne2] at h
  intro _
  (repeat (first | refine v4Y14 ?_ | (refine caA [] (haw) ?_; rintro r st' ⟨rfl, rfl⟩; refine frA ?_)))
  refine rtA (by simp only [kR, Tryz.results4, ↓reduceIte, Nat.reduceEqDiff, reduceCtorEq]; first | done | rfl) ([]) ?_
  refine ⟨?_, rfl⟩
  rfl
end Go.Proofs.YtmhboloicpieeaaGreatDoor
