/- A part of the proof: contracts of functions of the program over abstract states. -/
import Derived.Test.YtmlhfnodnnbbnaaDoorQP11
import Derived.Test.YtmlhfnodnnbbnaaDoorQL3a
set_option linter.all false
namespace Go.Proofs.YtmlhfnodnnbbnaaDoor
open Go.Ab Tys
theorem remS_len {d : Dep} (hn : d.revs.length ≤ 512) (s t : Fil) : ((remS d s t).getD []).length ≤ 512 := by
  unfold remS
  split
  · simp only [Option.getD, remL, List.length_map]; exact Nat.le_trans (List.length_filter_le ..) hn
  · simp
theorem remS_some {d : Dep} {s t : Fil} {l : List Fil} (h : remS d s t = some l) : ∃ v w, member? d s.path s.num = some v ∧ member? d t.path t.num = some w ∧ l = remL d v t := by
  unfold remS at h
  split at h
  · rename_i v w h1 h2
    exact ⟨v, w, h1, h2, by simpa using h.symm⟩
  · cases h
theorem app_M {d : Dep} {c : Chg} (hk : ChkOK d c) : (appD d c).recs.length ≤ 512 := by
  have h1 := hk.tot2
  have h2 : (sortR (d.recs ++ c.recs)).length = (d.recs ++ c.recs).length := (sortN_perm _ _ (Nat.le_refl _)).length_eq
  simp only [appD, h2, List.length_append]
  omega
theorem enc2t (rl : List Fil) (n : Nat) : ∀ l ∈ List.map (fun l => List.map C.d l) (List.take n (List.map encFil rl)), l.length = 2 := by
  intro l hl
  obtain ⟨y, hy, rfl⟩ := List.mem_map.1 hl
  obtain ⟨z, hz, rfl⟩ := List.mem_map.1 (List.mem_of_mem_take hy)
  rfl
theorem enc2d (rl : List Fil) (n : Nat) : ∀ l ∈ List.map (fun l => List.map C.d l) (List.drop n (List.map encFil rl)), l.length = 2 := by
  intro l hl
  obtain ⟨y, hy, rfl⟩ := List.mem_map.1 hl
  obtain ⟨z, hz, rfl⟩ := List.mem_map.1 (List.mem_of_mem_drop hy)
  rfl
def RvOK (d : Dep) : Prop := ∀ v ∈ d.revs, v.path.size ≤ 100000 ∧ 1 ≤ v.chg ∧ v.chg ≤ 1073741824
theorem Built.rv {l : List Chg} {d : Dep} (h : Built l d) : RvOK d := by
  induction h with
  | nil => intro r hr; simp [zDep] at hr
  | skip c h ih => exact ih
  | @app l d c h hc hk ih =>
    intro v hv
    simp only [appD, List.mem_append, List.mem_map] at hv
    rcases hv with hv | ⟨e, he, rfl⟩
    · exact ih v hv
    · exact ⟨hc.1 e he, hk.num.1, hk.num.2⟩
def intoE (w : Rev) (how : Int) : Edt := ⟨w.path, 2, w.base, w.kw, w.ex, w.xe, if how = 3 then w.sum else 77, if how = 3 then w.size else 7, w.num, ByteArray.empty, 0, 0⟩
def intoRc (w : Rev) (from' : ByteArray) (a b how : Int) : Rcd := ⟨from', a, b, w.path, w.num + 1, how⟩
def k14 := And.intro @Tryd.ntmps14 <| And.intro @Tryd.underlying27 <| And.intro @bld24 <| And.intro @bld30 <| And.intro @bld45 <| And.intro @bld48 <| And.intro @bld50 <| And.intro @bld54 <| And.intro @bld59 <| And.intro @bld69 <| And.intro @elt27 <| And.intro @elt28 <| And.intro @elt55 <| And.intro @fld24_0 <| And.intro @fld24_1 <| And.intro @fld30_0 <| And.intro @fld48_0 <| And.intro @fld48_1 <| And.intro @fld50_0 <| And.intro @fld50_1 <| And.intro @fld50_2 <| And.intro @fld50_4 <| And.intro @fld50_5 <| And.intro @fld54_0 <| And.intro @fld54_1 <| And.intro @fld54_2 <| And.intro @fld54_3 <| And.intro @fld54_4 <| And.intro @fld59_0 <| And.intro @fld59_3 <| And.intro @fld59_4 <| And.intro @fld69_0 <| And.intro @fld69_1 <| And.intro @fld69_2 <| And.intro @fld69_3 <| And.intro @fld69_4 <| And.intro @fld69_5 <| And.intro @ti24 <| And.intro @ti27 <| And.intro @ti28 <| And.intro @ti3 <| And.intro @ti30 <| And.intro @ti45 <| And.intro @ti46 <| And.intro @ti48 <| And.intro @ti50 <| And.intro @ti54 <| And.intro @ti55 <| And.intro @ti59 <| And.intro @ti69 <| @ti9
set_option maxRecDepth 100000 in
set_option maxHeartbeats 16000000 in
theorem into_ac (d : Dep) (hg : Good d.revs) (hN : d.revs.length ≤ 512) (hM : d.recs.length ≤ 512) (hrk : ∀ r ∈ d.recs, rOK r) (hrv : RvOK d) (fr : ByteArray) (hfr : fr.size ≤ 100000) (a b : Int) (t : Fil) (how : Int) :
    AC Tryd.prog 14 [aDep d, Str fr, I .i64 a, I .i64 b, aFil t, I .i64 how] [] (fun r st => (r = .tup [(true, [nilC, nilC]), pB false] ∨ ∃ c w, ChkOK d c ∧ IntoC d c w (intoRc w fr a b how) ∧ fileOf w = t ∧ r = .tup [(true, (encDep (appD d c)).map C.d), pB true]) ∧ st = []) := by
  have hla := last_ac d t.path (by omega)
  cases hl : last? d t.path with
  | none =>
    rw [hl] at hla
    simp only [pRev, pB, Option.isSome, Option.getD] at hla
    refine AC_enter Tryd.func14 rfl rfl (by simp only [Tryd.ntmps14, List.length]; omega) ?_
    intro x hx
    simp only [List.range, List.range.loop, List.length, List.zip, List.zipWith, Nat.reduceAdd, Tryd.ntmps14]
    (repeat (first | (with_reducible first | refine na ?_ | refine nb ?_ | refine nc ?_ | refine nd ?_ | refine ne ?_ | refine nf ?_ | refine ng ?_ | refine nh ?_ | refine ni ?_ | refine nj ?_ | refine nk ?_ | refine nl ?_ | refine nm (by decide) ?_ | refine nn ?_) | refine TO_go (wr := false) 400 (by simp only [kB, kG, kS, k14, Nat.reduceAdd, Nat.reduceLT, Nat.reduceEqDiff, ↓reduceIte, reduceCtorEq]; first | done | rfl) (by first | exact trivial | (simp only [kO]; omega) | (simp [All, InR]; first | done | omega) | (simp +contextual [All, InR]; first | done | grind)) ?_ | (refine TO_call [] (by simp) (by simp only [kV, ↓reduceIte, Nat.reduceEqDiff, reduceCtorEq]; first | done | rfl) ⟨by simp, by simp, by simp [clAV, clC, clCs]⟩ (hla) ?_; (rintro r st' ⟨rfl, rfl⟩; refine ⟨by simp [Fresh], ?_⟩; simp only [kP, Nat.reduceEqDiff, ↓reduceIte, reduceCtorEq]))))
    refine T_cond (by simp only [kV, ↓reduceIte, Nat.reduceEqDiff, reduceCtorEq]; first | done | rfl) ?_ ?_
    rotate_left
    · intro h; cases h
    intro _
    (repeat (first | (with_reducible first | refine na ?_ | refine nb ?_ | refine nc ?_ | refine nd ?_ | refine ne ?_ | refine nf ?_ | refine ng ?_ | refine nh ?_ | refine ni ?_ | refine nj ?_ | refine nk ?_ | refine nl ?_ | refine nm (by decide) ?_ | refine nn ?_) | refine TO_go (wr := false) 400 (by simp only [kB, kG, kS, k14, Nat.reduceAdd, Nat.reduceLT, Nat.reduceEqDiff, ↓reduceIte, reduceCtorEq]; first | done | rfl) (by first | exact trivial | (simp only [kO]; omega) | (simp [All, InR]; first | done | omega) | (simp +contextual [All, InR]; first | done | grind)) ?_))
    refine RetQ_intro (by simp only [kR, Tryd.results14, ↓reduceIte, Nat.reduceEqDiff, reduceCtorEq, effLoad, cellsOf, List.map, List.length_cons, List.length_nil, List.getD_cons_zero, List.getD_cons_succ, List.getD_nil, List.drop, List.take, splice, ti30]; first | done | rfl) (by first | exact trivial | (simp only [kO]; omega) | (simp [All, InR]; first | done | omega) | (simp +contextual [All, InR]; first | done | grind)) [] ⟨by simp [Ab.get, renAO_id], by simp, by simp [clAO, cl_f1, cl_s1, cl_f2, cl_s2, cl_a1, flat_up, clCs, clC, domOf, Ab.get], keepI hx (by simp [domOf, Ab.get])⟩ (by simp [clAV, clPs, clCs, clC, domOf, Ab.get]) ⟨?_, rfl⟩
    exact .inl rfl
  | some w =>
    rw [hl] at hla
    simp only [pRev, pB, Option.isSome, Option.getD] at hla
    obtain ⟨j, w1, w2, w3⟩ := last_some hl
    have hwn := hg.num j w w1
    have hjl := (List.getElem?_eq_some_iff.1 w1).1
    refine AC_enter Tryd.func14 rfl rfl (by simp only [Tryd.ntmps14, List.length]; omega) ?_
    intro x hx
    simp only [List.range, List.range.loop, List.length, List.zip, List.zipWith, Nat.reduceAdd, Tryd.ntmps14]
    (repeat (first | (with_reducible first | refine na ?_ | refine nb ?_ | refine nc ?_ | refine nd ?_ | refine ne ?_ | refine nf ?_ | refine ng ?_ | refine nh ?_ | refine ni ?_ | refine nj ?_ | refine nk ?_ | refine nl ?_ | refine nm (by decide) ?_ | refine nn ?_) | refine TO_go (wr := false) 400 (by simp only [kB, kG, kS, k14, Nat.reduceAdd, Nat.reduceLT, Nat.reduceEqDiff, ↓reduceIte, reduceCtorEq]; first | done | rfl) (by first | exact trivial | (simp only [kO]; omega) | (simp [All, InR]; first | done | omega) | (simp +contextual [All, InR]; first | done | grind)) ?_ | (refine TO_call [] (by simp) (by simp only [kV, ↓reduceIte, Nat.reduceEqDiff, reduceCtorEq]; first | done | rfl) ⟨by simp, by simp, by simp [clAV, clC, clCs]⟩ (hla) ?_; (rintro r st' ⟨rfl, rfl⟩; refine ⟨by simp [Fresh], ?_⟩; simp only [kP, Nat.reduceEqDiff, ↓reduceIte, reduceCtorEq]))))
    refine T_cond (by simp only [kV, ↓reduceIte, Nat.reduceEqDiff, reduceCtorEq]; first | done | rfl) ?_ ?_
    · intro _
      (repeat (first | (with_reducible first | refine na ?_ | refine nb ?_ | refine nc ?_ | refine nd ?_ | refine ne ?_ | refine nf ?_ | refine ng ?_ | refine nh ?_ | refine ni ?_ | refine nj ?_ | refine nk ?_ | refine nl ?_ | refine nm (by decide) ?_ | refine nn ?_) | refine TO_go (wr := false) 400 (by simp only [kB, kG, kS, k14, Nat.reduceAdd, Nat.reduceLT, Nat.reduceEqDiff, ↓reduceIte, reduceCtorEq]; first | done | rfl) (by first | exact trivial | (simp only [kO]; omega) | (simp [All, InR]; first | done | omega) | (simp +contextual [All, InR]; first | done | grind)) ?_))
      refine RetQ_intro (by simp only [kR, Tryd.results14, ↓reduceIte, Nat.reduceEqDiff, reduceCtorEq, effLoad, cellsOf, List.map, List.length_cons, List.length_nil, List.getD_cons_zero, List.getD_cons_succ, List.getD_nil, List.drop, List.take, splice, ti30]; first | done | rfl) (by first | exact trivial | (simp only [kO]; omega) | (simp [All, InR]; first | done | omega) | (simp +contextual [All, InR]; first | done | grind)) [] ⟨by simp [Ab.get, renAO_id], by simp, by simp [clAO, cl_f1, cl_s1, cl_f2, cl_s2, cl_a1, flat_up, clCs, clC, domOf, Ab.get], keepI hx (by simp [domOf, Ab.get])⟩ (by simp [clAV, clPs, clCs, clC, domOf, Ab.get]) ⟨?_, rfl⟩
      exact .inl rfl
    intro hne
    have hnum : w.num = t.num := by simpa using hne
    (repeat (first | (with_reducible first | refine na ?_ | refine nb ?_ | refine nc ?_ | refine nd ?_ | refine ne ?_ | refine nf ?_ | refine ng ?_ | refine nh ?_ | refine ni ?_ | refine nj ?_ | refine nk ?_ | refine nl ?_ | refine nm (by decide) ?_ | refine nn ?_) | refine TO_go (wr := false) 400 (by simp only [kB, kG, kS, k14, Nat.reduceAdd, Nat.reduceLT, Nat.reduceEqDiff, ↓reduceIte, reduceCtorEq]; first | done | rfl) (by first | exact trivial | (simp only [kO]; omega) | (simp [All, InR]; first | done | omega) | (simp +contextual [All, InR]; first | done | grind)) ?_))
    refine T_loop (ι := Nat × Int) (I := fun k => ⟨92, [(1, Str fr), (2, I .i64 a), (3, I .i64 b), (5, I .i64 how), (6, .c (.ptr 6 0)), (12, .c (.ptr 12 0)), (14, .c (.ptr 14 0)), (16, I .i64 k.2), (40, aRevs d.revs), (41, I .i64 d.revs.length), (42, I .i64 k.1)],
        [(6, .box ((encDep d).map C.d)), (12, .box [nilC, nilC]), (14, .box ((encRev w).map C.d))]⟩)
      (Inv := fun k => k.1 ≤ d.revs.length ∧ 1 ≤ k.2 ∧ k.2 ≤ 1073741825) (μ := fun k => d.revs.length - k.1) (0, 1) ⟨by simp, by simp, by simp⟩ ?_ ?_
    · (refine Ent_sub (fun i => i) rfl ?_ ⟨?_, ?_, ?_, keepI hx (by simp [domOf, Ab.get])⟩ <;> first | (simp only [kE, dArr, ↓reduceIte, Nat.reduceEqDiff, reduceCtorEq]; done) | simp [renAV_id, renAO_id, flat_up, Ab.get, clAV, clC, clCs, clAO, cl_f1, cl_s1, cl_f2, cl_s2, cl_a1, domOf, List.flatten])
    rintro ⟨k, m⟩ ⟨hk, m1, m2⟩
    simp only at hk m1 m2 ⊢
    (repeat (first | (with_reducible first | refine na ?_ | refine nb ?_ | refine nc ?_ | refine nd ?_ | refine ne ?_ | refine nf ?_ | refine ng ?_ | refine nh ?_ | refine ni ?_ | refine nj ?_ | refine nk ?_ | refine nl ?_ | refine nm (by decide) ?_ | refine nn ?_) | refine TO_go (wr := false) 400 (by simp only [kB, kG, kS, k14, Nat.reduceAdd, Nat.reduceLT, Nat.reduceEqDiff, ↓reduceIte, reduceCtorEq]; first | done | rfl) (by first | exact trivial | (simp only [kO]; omega) | (simp [All, InR]; first | done | omega) | (simp +contextual [All, InR]; first | done | grind)) ?_))
    refine T_cond (by simp only [kV, ↓reduceIte, Nat.reduceEqDiff, reduceCtorEq]; first | done | rfl) ?_ ?_
    · intro hlt
      have hlt' : k < d.revs.length := by simpa using hlt
      obtain ⟨v, hv, he, htk⟩ := round encRev d.revs k zRev hlt'
      obtain ⟨v1, v2, v3⟩ := hrv v (List.mem_of_getElem? hv)
      (repeat (first | (with_reducible first | refine na ?_ | refine nb ?_ | refine nc ?_ | refine nd ?_ | refine ne ?_ | refine nf ?_ | refine ng ?_ | refine nh ?_ | refine ni ?_ | refine nj ?_ | refine nk ?_ | refine nl ?_ | refine nm (by decide) ?_ | refine nn ?_) | refine TO_go (wr := false) 400 (by simp only [kB, kG, kS, k14, Nat.reduceAdd, Nat.reduceLT, Nat.reduceEqDiff, ↓reduceIte, reduceCtorEq, he]; first | done | rfl) (by first | exact trivial | (simp only [kO]; omega) | (simp [All, InR]; first | done | omega) | (simp +contextual [All, InR]; first | done | grind)) ?_))
      refine ⟨(k + 1, max m (v.chg + 1)), ⟨by simp; omega, by simp; omega, by simp; omega⟩, by simp; omega, ?_⟩
      (refine Ent_sub (fun i => i) rfl ?_ ⟨?_, ?_, ?_, keepI hx (by simp [domOf, Ab.get])⟩ <;> first | (simp only [kE, dArr, ↓reduceIte, Nat.reduceEqDiff, reduceCtorEq]; done) | simp [renAV_id, renAO_id, flat_up, Ab.get, clAV, clC, clCs, clAO, cl_f1, cl_s1, cl_f2, cl_s2, cl_a1, domOf, List.flatten])
    intro _
    (repeat (first | (with_reducible first | refine na ?_ | refine nb ?_ | refine nc ?_ | refine nd ?_ | refine ne ?_ | refine nf ?_ | refine ng ?_ | refine nh ?_ | refine ni ?_ | refine nj ?_ | refine nk ?_ | refine nl ?_ | refine nm (by decide) ?_ | refine nn ?_) | refine TO_go (wr := false) 400 (by simp only [kB, kG, kS, k14, Nat.reduceAdd, Nat.reduceLT, Nat.reduceEqDiff, ↓reduceIte, reduceCtorEq]; first | done | rfl) (by first | exact trivial | (simp only [kO]; omega) | (simp [All, InR]; first | done | omega) | (simp +contextual [All, InR]; first | done | grind)) ?_))
    refine T_join ⟨92, [(1, Str fr), (2, I .i64 a), (3, I .i64 b), (5, I .i64 how), (6, .c (.ptr 6 0)), (12, .c (.ptr 12 0)), (14, .c (.ptr 14 0)), (19, .c (.ptr 19 0))],
        [(6, .box ((encDep d).map C.d)), (12, .box [nilC, nilC]), (14, .box ((encRev w).map C.d)), (62, dArr 12 ([intoE w how].map encEdt)), (19, .box [.d (.v (.int .i64 m)), .d (.v (.string ByteArray.empty)), .d (.v (.string ByteArray.empty)), .ms 62 12 0 1, nilC])]⟩ ?_ ?_
    · refine T_cond (by simp only [kV, ↓reduceIte, Nat.reduceEqDiff, reduceCtorEq]; first | done | rfl) ?_ ?_
      · intro h
        have h' : ¬ how = 3 := by simpa using h
        (repeat (first | (with_reducible first | refine na ?_ | refine nb ?_ | refine nc ?_ | refine nd ?_ | refine ne ?_ | refine nf ?_ | refine ng ?_ | refine nh ?_ | refine ni ?_ | refine nj ?_ | refine nk ?_ | refine nl ?_ | refine nm (by decide) ?_ | refine nn ?_) | refine TO_go (wr := false) 400 (by simp only [kB, kG, kS, k14, Nat.reduceAdd, Nat.reduceLT, Nat.reduceEqDiff, ↓reduceIte, reduceCtorEq]; first | done | rfl) (by first | exact trivial | (simp only [kO]; omega) | (simp [All, InR]; first | done | omega) | (simp +contextual [All, InR]; first | done | grind)) ?_))
        refine ⟨rfl, ?_⟩
        (refine Ent_sub (fun i => i) rfl ?_ ⟨?_, ?_, ?_, keepI hx (by simp [domOf, Ab.get])⟩ <;> first | (simp only [kE, dArr, ↓reduceIte, Nat.reduceEqDiff, reduceCtorEq, intoE, h']; done) | simp [renAV_id, renAO_id, flat_up, Ab.get, clAV, clC, clCs, clAO, cl_f1, cl_s1, cl_f2, cl_s2, cl_a1, domOf, List.flatten, intoE, h'])
      · intro h
        have h' : how = 3 := by simpa using h
        (repeat (with_reducible first | refine na ?_ | refine nb ?_ | refine nc ?_ | refine nd ?_ | refine ne ?_ | refine nf ?_ | refine ng ?_ | refine nh ?_ | refine ni ?_ | refine nj ?_ | refine nk ?_ | refine nl ?_ | refine nm (by decide) ?_ | refine nn ?_))
        refine ⟨rfl, ?_⟩
        (refine Ent_sub (fun i => i) rfl ?_ ⟨?_, ?_, ?_, keepI hx (by simp [domOf, Ab.get])⟩ <;> first | (simp only [kE, dArr, ↓reduceIte, Nat.reduceEqDiff, reduceCtorEq, intoE, h']; done) | simp [renAV_id, renAO_id, flat_up, Ab.get, clAV, clC, clCs, clAO, cl_f1, cl_s1, cl_f2, cl_s2, cl_a1, domOf, List.flatten, intoE, h'])
    (repeat (with_reducible first | refine na ?_ | refine nb ?_ | refine nc ?_ | refine nd ?_ | refine ne ?_ | refine nf ?_ | refine ng ?_ | refine nh ?_ | refine ni ?_ | refine nj ?_ | refine nk ?_ | refine nl ?_ | refine nm (by decide) ?_ | refine nn ?_))
    refine TO_ent (Ent_frzCell (bid := 19) (id := 62) (j := 3) (ys := [intoE w how].map encEdt) (by decide) rfl rfl rfl rfl) ?_
    simp only [Ab.put, Nat.reduceEqDiff, ↓reduceIte, reduceCtorEq, if_false, if_true]
    refine TO_go (wr := false) 400 (by simp only [kB, kG, kS, k14, Nat.reduceAdd, Nat.reduceLT, Nat.reduceEqDiff, ↓reduceIte, reduceCtorEq]; first | done | rfl) (by first | exact trivial | (simp only [kO]; omega) | (simp [All, InR]; first | done | omega) | (simp +contextual [All, InR]; first | done | grind)) ?_
    refine TO_ent (Ent_frzCell (bid := 19) (id := 81) (j := 4) (ys := [intoRc w fr a b how].map encRcd) (by decide) rfl rfl rfl rfl) ?_
    simp only [Ab.put, Nat.reduceEqDiff, ↓reduceIte, reduceCtorEq, if_false, if_true]
    simp only [List.set]
    (repeat (first | (with_reducible first | refine na ?_ | refine nb ?_ | refine nc ?_ | refine nd ?_ | refine ne ?_ | refine nf ?_ | refine ng ?_ | refine nh ?_ | refine ni ?_ | refine nj ?_ | refine nk ?_ | refine nl ?_ | refine nm (by decide) ?_ | refine nn ?_) | refine TO_go (wr := false) 400 (by simp only [kB, kG, kS, k14, Nat.reduceAdd, Nat.reduceLT, Nat.reduceEqDiff, ↓reduceIte, reduceCtorEq]; first | done | rfl) (by first | exact trivial | (simp only [kO]; omega) | (simp [All, InR]; first | done | omega) | (simp +contextual [All, InR]; first | done | grind)) ?_))
    refine TO_call [] (by simp) (by simp only [kV, ↓reduceIte, Nat.reduceEqDiff, reduceCtorEq]; first | done | rfl) ⟨by simp, by simp, by simp [clAV, clC, clCs]⟩ (append_ac d ⟨m, ByteArray.empty, ByteArray.empty, [intoE w how], [intoRc w fr a b how]⟩ (by omega) (by omega) hrk (by simp [eOK, intoE]; exact (hrv w (List.mem_of_getElem? w1)).1) (by simp [rOK, intoRc]; exact ⟨hfr, (hrv w (List.mem_of_getElem? w1)).1⟩) (by simp) (by simp)) ?_
    rintro r st' ⟨⟨rfl, hk2⟩ | ⟨e, hne2, rfl⟩, rfl⟩ <;> (refine ⟨by simp [Fresh], ?_⟩; simp only [kP, Nat.reduceEqDiff, ↓reduceIte, reduceCtorEq])
    · (repeat (first | (with_reducible first | refine na ?_ | refine nb ?_ | refine nc ?_ | refine nd ?_ | refine ne ?_ | refine nf ?_ | refine ng ?_ | refine nh ?_ | refine ni ?_ | refine nj ?_ | refine nk ?_ | refine nl ?_ | refine nm (by decide) ?_ | refine nn ?_) | refine TO_go (wr := false) 400 (by simp only [kB, kG, kS, k14, Nat.reduceAdd, Nat.reduceLT, Nat.reduceEqDiff, ↓reduceIte, reduceCtorEq]; first | done | rfl) (by first | exact trivial | (simp only [kO]; omega) | (simp [All, InR]; first | done | omega) | (simp +contextual [All, InR]; first | done | grind)) ?_))
      refine RetQ_intro (by simp only [kR, Tryd.results14, ↓reduceIte, Nat.reduceEqDiff, reduceCtorEq, effLoad, cellsOf, List.map, List.length_cons, List.length_nil, List.getD_cons_zero, List.getD_cons_succ, List.getD_nil, List.drop, List.take, splice, ti30]; first | done | rfl) (by first | exact trivial | (simp only [kO]; omega) | (simp [All, InR]; first | done | omega) | (simp +contextual [All, InR]; first | done | grind)) [] ⟨by simp [Ab.get, renAO_id], by simp, by simp [clAO, cl_f1, cl_s1, cl_f2, cl_s2, cl_a1, flat_up, clCs, clC, domOf, Ab.get], keepI hx (by simp [domOf, Ab.get])⟩ (by simp [clAV, clPs, clCs, clC, domOf, Ab.get]) ⟨?_, rfl⟩
      refine .inr ⟨⟨m, ByteArray.empty, ByteArray.empty, [intoE w how], [intoRc w fr a b how]⟩, w, hk2, ⟨by rw [w2]; exact hl, ⟨intoE w how, rfl, rfl, rfl, rfl⟩, rfl, rfl, rfl⟩, by simp [fileOf, w2, hnum], rfl⟩
    · (repeat (first | (with_reducible first | refine na ?_ | refine nb ?_ | refine nc ?_ | refine nd ?_ | refine ne ?_ | refine nf ?_ | refine ng ?_ | refine nh ?_ | refine ni ?_ | refine nj ?_ | refine nk ?_ | refine nl ?_ | refine nm (by decide) ?_ | refine nn ?_) | refine TO_go (wr := false) 400 (by simp only [kB, kG, kS, k14, Nat.reduceAdd, Nat.reduceLT, Nat.reduceEqDiff, ↓reduceIte, reduceCtorEq]; first | done | rfl) (by first | exact trivial | (simp only [kO]; omega) | (simp [All, InR]; first | done | omega) | (simp +contextual [All, InR]; first | done | grind)) ?_))
      refine RetQ_intro (by simp only [kR, Tryd.results14, ↓reduceIte, Nat.reduceEqDiff, reduceCtorEq, effLoad, cellsOf, List.map, List.length_cons, List.length_nil, List.getD_cons_zero, List.getD_cons_succ, List.getD_nil, List.drop, List.take, splice, ti30]; first | done | rfl) (by first | exact trivial | (simp only [kO]; omega) | (simp [All, InR]; first | done | omega) | (simp +contextual [All, InR]; first | done | grind)) [] ⟨by simp [Ab.get, renAO_id], by simp, by simp [clAO, cl_f1, cl_s1, cl_f2, cl_s2, cl_a1, flat_up, clCs, clC, domOf, Ab.get], keepI hx (by simp [domOf, Ab.get])⟩ (by simp [clAV, clPs, clCs, clC, domOf, Ab.get]) ⟨?_, rfl⟩
      exact .inl (by simp [hne2])
end Go.Proofs.YtmlhfnodnnbbnaaDoor
