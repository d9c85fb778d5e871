/- A part of the proof. -/
import Derived.Test.YtbllfnmabmamfaaGreatDoorRBd2
import Derived.Test.YtbllfnmabmamfaaGreatDoorRW5
import Derived.Test.YtbllfnmabmamfaaGreatDoorRP17
set_option linter.all false
namespace Go.Proofs.YtbllfnmabmamfaaGreatDoor
open Go.Ab Tys
theorem look_Rc (m : List (Fil × List Rcd)) (p : ByteArray) (n : Int) : findE [C.d (.v (.string p)), C.d (.v (.int .i64 n))] ((mEnt kF vRc m).map upE) = (alook m ⟨p, n⟩).map fun l => (false, [C.d (.ps 6 (l.map encRcd))]) := findE_ent (ve := vRc) kF_eq m ⟨p, n⟩
theorem ty_Rc (m : List (Fil × List Rcd)) : ∀ e ∈ (mEnt kF vRc m).map upE, e.1.1 = true ∧ tyCs [.str, .int .i64] e.1.2 := by
  intro e he
  simp only [mEnt, List.mem_map] at he
  obtain ⟨_, ⟨f, _, rfl⟩, rfl⟩ := he
  exact ⟨rfl, by simp [upE, upD, tyCs]⟩
def k94 := And.intro @Tryz.ntmps94 <| And.intro @Tryz.underlying28 <| And.intro @bld180 <| And.intro @bld37 <| And.intro @bld76 <| And.intro @elt28 <| And.intro @fld180_2 <| And.intro @kyt37 <| And.intro @mpt177 <| And.intro @ti177 <| And.intro @ti180 <| And.intro @ti28 <| And.intro @ti37 <| @ti76
theorem v94W6 {G G' : Prop} (g : G') (h : Hid G' → G := by intro h9; (first | refine nvB ?_ | refine goA (wr := false) (by simp only [kB, kG, kM, k94, Nat.reduceAdd, Nat.reduceLT, Nat.reduceEqDiff, ↓reduceIte, reduceCtorEq]; first | done | rfl) ?_); (repeat (first | refine nvB ?_ | refine goA (wr := false) (by simp only [kB, kG, kM, k94, Nat.reduceAdd, Nat.reduceLT, Nat.reduceEqDiff, ↓reduceIte, reduceCtorEq]; first | done | rfl) ?_)); exact h9.out) : G := h ⟨g⟩
set_option maxRecDepth 100000 in
set_option maxHeartbeats 8000000 in
theorem original_ac (M : List (Fil × Rev)) (N : List (ByteArray × List Int)) (R : List (Fil × List Rcd)) (c r k : List (Fil × Option (List Fil))) (f : Fil) (rs : List Rcd) (hR : (alook R f).getD [] = rs) (hl : rs.length ≤ 512) :
    AC Tryz.prog 94 [.c (.ptr 1200 0), aFil f] (credSt M N R c r k) (fun x st => x = B (decide (rs = [] ∨ ∃ r ∈ rs, r.how = 4)) ∧ st = credSt M N R c r k) := by
  cases hk : alook R f with
  | none =>
    have hk' : alook R ⟨f.path, f.num⟩ = none := hk
    rw [hk] at hR
    simp only [Option.getD] at hR
    subst hR
    refine AC_enter Tryz.func94 rfl rfl (by simp only [Tryz.ntmps94, List.length]; omega) ?_
    intro x hx
    simp only [List.range, List.range.loop, List.length, List.zip, List.zipWith, Nat.reduceAdd, Tryz.ntmps94]
    try refine v94W6 ?_
    refine drA (wr := false) ([] : List (Nat × AV)) (by simp only [kD, kB, kG, kM, k94, Nat.reduceAdd, Nat.reduceLT, Nat.reduceEqDiff, ↓reduceIte, reduceCtorEq, look_Rc, hk', Option.map_none, Option.getD]; first | done | rfl) ?_ ?_
    · exact obF ty_Rc
    refine nvA ?_
    refine TO_ent (Ent_nilSlot (i := 5) 6 rfl) ?_
    refine fzA ?_
    try refine v94W6 ?_
    refine TO_stepO (wr := false) ([(17, B (decide (∃ r ∈ ([] : List Rcd), r.how = 4)))] : List (Nat × AV)) rfl (by simp only [kD, kB, kG, kM, k94, Nat.reduceAdd, Nat.reduceLT, Nat.reduceEqDiff, ↓reduceIte, reduceCtorEq]; first | done | rfl) ?_ ?_
    · simp only [All, List.cons_append, List.nil_append, InR, List.mem_cons, List.not_mem_nil, or_false, forall_eq_or_imp, forall_eq, clAV, clCs, clC, clCaps, clCap, and_true, true_and, implies_true, List.length_map, List.length_cons, List.length_nil, dArr, cl_arr, tyCs]
      repeat' (first | exact trivial | exact containsF_ac [] (by simp) | refine And.intro ?_ ?_ | intro _ | assumption | rfl | omega | (simp; done) | (simp_all; done))
    simp only [kP, Nat.reduceEqDiff, ↓reduceIte, reduceCtorEq]
    try refine v94W6 ?_
    refine rtA (by simp only [kR, Tryz.results94, ↓reduceIte, Nat.reduceEqDiff, reduceCtorEq]; first | done | rfl) ((credSt M N R c r k)) ?_
    refine ⟨?_, rfl⟩
    rfl
  | some l =>
    have hk' : alook R ⟨f.path, f.num⟩ = some l := hk
    rw [hk] at hR
    simp only [Option.getD] at hR
    subst hR
    refine AC_enter Tryz.func94 rfl rfl (by simp only [Tryz.ntmps94, List.length]; omega) ?_
    intro x hx
    simp only [List.range, List.range.loop, List.length, List.zip, List.zipWith, Nat.reduceAdd, Tryz.ntmps94]
    try refine v94W6 ?_
    refine drA (wr := false) ([] : List (Nat × AV)) (by simp only [kD, kB, kG, kM, k94, Nat.reduceAdd, Nat.reduceLT, Nat.reduceEqDiff, ↓reduceIte, reduceCtorEq, look_Rc, hk', Option.map_some, Option.getD]; first | done | rfl) ?_ ?_
    · exact obF ty_Rc
    try refine v94W6 ?_
    refine TO_stepO (wr := false) ([(17, B (decide (∃ r ∈ l, r.how = 4)))] : List (Nat × AV)) rfl (by simp only [kD, kB, kG, kM, k94, Nat.reduceAdd, Nat.reduceLT, Nat.reduceEqDiff, ↓reduceIte, reduceCtorEq]; first | done | rfl) ?_ ?_
    · simp only [All, List.cons_append, List.nil_append, InR, List.mem_cons, List.not_mem_nil, or_false, forall_eq_or_imp, forall_eq, clAV, clCs, clC, clCaps, clCap, and_true, true_and, implies_true, List.length_map, List.length_cons, List.length_nil, dArr, cl_arr, tyCs]
      repeat' (first | exact trivial | exact containsF_ac l hl | refine And.intro ?_ ?_ | intro _ | assumption | rfl | omega | (simp; done) | (simp_all; done))
    simp only [kP, Nat.reduceEqDiff, ↓reduceIte, reduceCtorEq]
    try refine v94W6 ?_
    refine rtA (by simp only [kR, Tryz.results94, ↓reduceIte, Nat.reduceEqDiff, reduceCtorEq]; first | done | rfl) ((credSt M N R c r k)) ?_
    refine ⟨?_, rfl⟩
    cases l with
    | nil => simp
    | cons a l => simp; intro h; omega
structure CredOK (d : Dep) (M : List (Fil × Rev)) (N : List (ByteArray × List Int)) (R : List (Fil × List Rcd)) : Prop where
  M : M = memL d.revs
  N : ∀ p, (alook N p).getD [] = (d.revs.filter fun v => decide (¬ v.act = 5 ∧ v.path = p)).map (·.num)
  R : ∀ f, (alook R f).getD [] = intoR d f
def k95 := And.intro @Tryz.ntmps95 <| And.intro @bld180 <| And.intro @bld37 <| And.intro @bld46 <| And.intro @fld180_0 <| And.intro @fld37_0 <| And.intro @fld37_1 <| And.intro @fld46_3 <| And.intro @fld46_6 <| And.intro @fld46_7 <| And.intro @kyt37 <| And.intro @mpt116 <| And.intro @ti116 <| And.intro @ti180 <| And.intro @ti3 <| And.intro @ti37 <| And.intro @ti46 <| @ti9
theorem v95W6 {G G' : Prop} (g : G') (h : Hid G' → G := by intro h9; (first | refine nvB ?_ | refine goA (wr := false) (by simp only [kB, kS, kM, k95, Nat.reduceAdd, Nat.reduceLT, Nat.reduceEqDiff, ↓reduceIte, reduceCtorEq]; first | done | rfl) ?_); (repeat (first | refine nvB ?_ | refine goA (wr := false) (by simp only [kB, kS, kM, k95, Nat.reduceAdd, Nat.reduceLT, Nat.reduceEqDiff, ↓reduceIte, reduceCtorEq]; first | done | rfl) ?_)); exact h9.out) : G := h ⟨g⟩
set_option maxRecDepth 100000 in
set_option maxHeartbeats 8000000 in
theorem previousC_ac (M : List (Fil × Rev)) (N : List (ByteArray × List Int)) (R : List (Fil × List Rcd)) (c r k : List (Fil × Option (List Fil))) (v : Rev) (hv : alook M (fileOf v) = some v) (hn : 1 ≤ v.num ∧ v.num ≤ 1000000) (hb : ¬ v.act = 1 → ∃ u, alook M (befF v) = some u) :
    AC Tryz.prog 95 [.c (.ptr 1200 0), aFil (fileOf v)] (credSt M N R c r k) (fun x st => x = .tup [(true, (encFil (befF v)).map C.d), pB (decide (¬ v.act = 1))] ∧ st = credSt M N R c r k) := by
  have hv' : alook M ⟨v.path, v.num⟩ = some v := hv
  refine AC_enter Tryz.func95 rfl rfl (by simp only [Tryz.ntmps95, List.length]; omega) ?_
  intro x hx
  simp only [List.range, List.range.loop, List.length, List.zip, List.zipWith, Nat.reduceAdd, Tryz.ntmps95]
  simp only [fileOf]
  try refine v95W6 ?_
  refine drA (wr := false) ([] : List (Nat × AV)) (by simp only [kD, kB, kS, kM, k95, Nat.reduceAdd, Nat.reduceLT, Nat.reduceEqDiff, ↓reduceIte, reduceCtorEq, lookRv, hv', Option.map_some, Option.getD]; first | done | rfl) ?_ ?_
  · exact obF tyRv
  try refine v95W6 ?_
  refine ifA ?_ ?_
  · intro h1
    have h1 : v.act = 1 := by simpa using h1
    have e : befF v = zFil := by simp [befF, h1]
    rw [e]
    try refine v95W6 ?_
    refine rtA (by simp only [kR, Tryz.results95, ↓reduceIte, Nat.reduceEqDiff, reduceCtorEq, effLoad, cellsOf, List.map, List.length_cons, List.length_nil, List.getD_cons_zero, List.getD_cons_succ, List.getD_nil, List.drop, List.take, splice, ti37]; first | done | rfl) ((credSt M N R c r k)) ?_
    refine ⟨?_, rfl⟩
    simp [h1, zFil]
  intro h1
  have h1 : ¬ v.act = 1 := by simpa using h1
  obtain ⟨u, hu⟩ := hb h1
  try refine v95W6 ?_
  refine ifA ?_ ?_
  · intro h4
    have h4 : v.act = 4 := by simpa using h4
    have e : befF v = ⟨v.frm, v.fnum⟩ := by simp [befF, h4]
    rw [e] at hu ⊢
    try refine v95W6 ?_
    refine drA (wr := false) ([] : List (Nat × AV)) (by simp only [kD, kB, kS, kM, k95, Nat.reduceAdd, Nat.reduceLT, Nat.reduceEqDiff, ↓reduceIte, reduceCtorEq, lookRv, hu, Option.map_some, Option.getD, Option.isSome]; first | done | rfl) ?_ ?_
    · exact obF tyRv
    try refine v95W6 ?_
    refine rtA (by simp only [kR, Tryz.results95, ↓reduceIte, Nat.reduceEqDiff, reduceCtorEq, effLoad, cellsOf, List.map, List.length_cons, List.length_nil, List.getD_cons_zero, List.getD_cons_succ, List.getD_nil, List.drop, List.take, splice, ti37]; first | done | rfl) ((credSt M N R c r k)) ?_
    refine ⟨?_, rfl⟩
    simp [h1]
  · intro h4
    have h4 : ¬ v.act = 4 := by simpa using h4
    have e : befF v = ⟨v.path, v.num - 1⟩ := by simp [befF, h1, h4]
    rw [e] at hu ⊢
    try refine v95W6 ?_
    refine drA (wr := false) ([] : List (Nat × AV)) (by simp only [kD, kB, kS, kM, k95, Nat.reduceAdd, Nat.reduceLT, Nat.reduceEqDiff, ↓reduceIte, reduceCtorEq, lookRv, hu, Option.map_some, Option.getD, Option.isSome]; first | done | rfl) ?_ ?_
    · exact obF tyRv
    try refine v95W6 ?_
    refine rtA (by simp only [kR, Tryz.results95, ↓reduceIte, Nat.reduceEqDiff, reduceCtorEq, effLoad, cellsOf, List.map, List.length_cons, List.length_nil, List.getD_cons_zero, List.getD_cons_succ, List.getD_nil, List.drop, List.take, splice, ti37]; first | done | rfl) ((credSt M N R c r k)) ?_
    refine ⟨?_, rfl⟩
    simp [h1]
end Go.Proofs.YtbllfnmabmamfaaGreatDoor
namespace Go.Proofs.YtbllfnmabmamfaaGreatDoor
open Go.Ab Tys
abbrev CM := List (Fil × Option (List Fil))
structure CMap (S : Fil → Fil → Prop) (B : Fil → Prop) (c : CM) : Prop where
  ok : ∀ f o, alook c f = some o → B f ∨ ∃ l, o = some l ∧ IsS l (S f)
theorem CMap.begin {S : Fil → Fil → Prop} {B : Fil → Prop} {c : CM} (h : CMap S B c) (v : Fil) : CMap S (fun f => B f ∨ f = v) (aput c v none) := by
  refine ⟨fun f o ho => ?_⟩
  rw [alook_aput] at ho
  split at ho
  · rename_i e; exact .inl (.inr e)
  · exact (h.ok f o ho).imp .inl id
theorem CMap.done {S : Fil → Fil → Prop} {B : Fil → Prop} {c : CM} {v : Fil} (h : CMap S (fun f => B f ∨ f = v) c) {l : List Fil} (hl : IsS l (S v)) : CMap S B (aput c v (some l)) := by
  refine ⟨fun f o ho => ?_⟩
  rw [alook_aput] at ho
  split at ho
  · rename_i e; subst e; cases ho; exact .inr ⟨l, rfl, hl⟩
  · rename_i e
    rcases h.ok f o ho with (h | h) | h
    · exact .inl h
    · exact absurd h e
    · exact .inr h
theorem CMap.put {S : Fil → Fil → Prop} {B : Fil → Prop} {c : CM} (h : CMap S B c) {v : Fil} {l : List Fil} (hl : IsS l (S v)) : CMap S B (aput c v (some l)) := by
  refine ⟨fun f o ho => ?_⟩
  rw [alook_aput] at ho
  split at ho
  · rename_i e; subst e; cases ho; exact .inr ⟨l, rfl, hl⟩
  · exact h.ok f o ho
def Bi (d : Dep) (i : Nat) (B : Fil → Prop) : Prop := ∀ f, B f → ∀ j w, d.revs[j]? = some w → fileOf w = f → i < j
theorem Bi.no {d : Dep} {i : Nat} {B : Fil → Prop} (h : Bi d i B) {v : Rev} (hv : d.revs[i]? = some v) : ¬ B (fileOf v) := fun hb => by have := h _ hb i v hv rfl; omega
theorem Bi.lower {d : Dep} {i j : Nat} {B : Fil → Prop} (h : Bi d i B) (hj : j ≤ i) : Bi d j B := fun f hf k w hk e => by have := h f hf k w hk e; omega
theorem Bi.begin {d : Dep} (hg : Good d.revs) {i j : Nat} {B : Fil → Prop} (h : Bi d i B) {v : Rev} (hv : d.revs[i]? = some v) (hj : j < i) : Bi d j (fun f => B f ∨ f = fileOf v) := by
  rintro f (hf | rfl) k w hk e
  · have := h f hf k w hk e; omega
  · have := good_file hg hk hv e; omega
def noB : Fil → Prop := fun _ => False
theorem findE_nil (k : List C) : findE k [] = none := rfl
theorem look_S (c : CM) (p : ByteArray) (n : Int) : findE [C.d (.v (.string p)), C.d (.v (.int .i64 n))] ((mEnt kF vSt c).map upE) = (alook c ⟨p, n⟩).map fun o => (false, [C.d (dSet kF o)]) := findE_ent (ve := vSt) kF_eq c ⟨p, n⟩
theorem ty_S (c : CM) : ∀ e ∈ (mEnt kF vSt c).map upE, e.1.1 = true ∧ tyCs [.str, .int .i64] e.1.2 := by
  intro e he
  simp only [mEnt, List.mem_map] at he
  obtain ⟨_, ⟨f, _, rfl⟩, rfl⟩ := he
  exact ⟨rfl, by simp [upE, upD, tyCs]⟩
theorem ins_S (c : CM) (p : ByteArray) (n : Int) (l : List Fil) : insE (true, [C.d (.v (.string p)), C.d (.v (.int .i64 n))]) (false, [C.d (.pm (sEnt kF l))]) ((mEnt kF vSt c).map upE) = (mEnt kF vSt (aput c ⟨p, n⟩ (some l))).map upE := insE_ent (ve := vSt) kF_eq c ⟨p, n⟩ (some l)
theorem ins_S0 (c : CM) (p : ByteArray) (n : Int) : insE (true, [C.d (.v (.string p)), C.d (.v (.int .i64 n))]) (false, [C.d (.v (.map none))]) ((mEnt kF vSt c).map upE) = (mEnt kF vSt (aput c ⟨p, n⟩ none)).map upE := insE_ent (ve := vSt) kF_eq c ⟨p, n⟩ none
def CarC (d : Dep) (M : List (Fil × Rev)) (N : List (ByteArray × List Int)) (R : List (Fil × List Rcd)) (i : Nat) : Prop :=
  ∀ v, d.revs[i]? = some v → ¬ v.act = 5 → ∀ (B : Fil → Prop) (c r k : CM), Bi d i B → CMap (fun f => (SA d f).car) B c → CMap (fun f => (SA d f).con) noB k →
    AC Tryz.prog 49 [.c (.ptr 1200 0), aFil (fileOf v)] (credSt M N R c r k) (fun x st => ∃ (l : List Fil) (c' k' : CM), IsS l (SA d (fileOf v)).car ∧ CMap (fun f => (SA d f).car) B c' ∧ CMap (fun f => (SA d f).con) noB k' ∧ x = .c (.d (.pm (sEnt kF l))) ∧ st = credSt M N R c' r k')
def ConC (d : Dep) (M : List (Fil × Rev)) (N : List (ByteArray × List Int)) (R : List (Fil × List Rcd)) (i : Nat) : Prop :=
  ∀ v, d.revs[i]? = some v → ¬ v.act = 5 → ∀ (B : Fil → Prop) (c r k : CM), Bi d i B → CMap (fun f => (SA d f).car) B c → CMap (fun f => (SA d f).con) noB k →
    AC Tryz.prog 51 [.c (.ptr 1200 0), aFil (fileOf v)] (credSt M N R c r k) (fun x st => ∃ (l : List Fil) (c' k' : CM), IsS l (SA d (fileOf v)).con ∧ CMap (fun f => (SA d f).car) B c' ∧ CMap (fun f => (SA d f).con) noB k' ∧ x = .c (.d (.pm (sEnt kF l))) ∧ st = credSt M N R c' r k')
theorem alook_memL_get {d : Dep} (hg : Good d.revs) {i : Nat} {v : Rev} (hv : d.revs[i]? = some v) (h5 : ¬ v.act = 5) : alook (memL d.revs) (fileOf v) = some v := by
  cases h : alook (memL d.revs) (fileOf v) with
  | none =>
    exfalso
    have : ∀ l : List Rev, v ∈ l → alook (memL l) (fileOf v) ≠ none := by
      intro l
      induction l with
      | nil => intro h; cases h
      | cons a l ih =>
        intro hm
        by_cases a5 : a.act = 5
        · have e : memL (a :: l) = memL l := by simp [memL, List.filter_cons, isM, a5]
          rw [e]
          rcases List.mem_cons.1 hm with rfl | hm
          · exact absurd a5 h5
          · exact ih hm
        · have e : memL (a :: l) = (fileOf a, a) :: memL l := by simp [memL, List.filter_cons, isM, a5]
          rw [e, alook]
          split
          · simp
          · rename_i hne
            rcases List.mem_cons.1 hm with rfl | hm
            · exact absurd rfl hne
            · exact ih hm
    exact this _ (List.mem_of_getElem? hv) h
  | some u =>
    have hm : ∀ l : List Rev, ∀ {f : Fil} {u : Rev}, alook (memL l) f = some u → u ∈ l ∧ fileOf u = f := by
      intro l
      induction l with
      | nil => intro f u h; simp [alook] at h
      | cons a l ih =>
        intro f u h
        by_cases a5 : a.act = 5
        · have e : memL (a :: l) = memL l := by simp [memL, List.filter_cons, isM, a5]
          rw [e] at h
          obtain ⟨h1, h2⟩ := ih h
          exact ⟨by simp [h1], h2⟩
        · have e : memL (a :: l) = (fileOf a, a) :: memL l := by simp [memL, List.filter_cons, isM, a5]
          rw [e, alook] at h
          split at h
          · rename_i ef; cases h; exact ⟨by simp, ef.symm⟩
          · obtain ⟨h1, h2⟩ := ih h
            exact ⟨by simp [h1], h2⟩
    obtain ⟨h1, h2⟩ := hm _ h
    obtain ⟨j, hj⟩ := List.getElem?_of_mem h1
    have := good_file hg hj hv h2
    subst this
    rw [hv] at hj; exact hj.symm ▸ rfl
def k51 := And.intro @Tryz.ntmps51 <| And.intro @bld180 <| And.intro @bld37 <| And.intro @fld180_5 <| And.intro @kyt37 <| And.intro @mpt178 <| And.intro @mpt181 <| And.intro @ti178 <| And.intro @ti180 <| And.intro @ti181 <| And.intro @ti37 <| @ti4
theorem v51W8 {G G' : Prop} (g : G') (h : Hid G' → G := by intro h9; (first | refine nvB ?_ | refine goA (wr := false) (by simp only [kB, kM, k51, Nat.reduceAdd, Nat.reduceLT, Nat.reduceEqDiff, ↓reduceIte, reduceCtorEq]; first | done | rfl) ?_); (repeat (first | refine nvB ?_ | refine goA (wr := false) (by simp only [kB, kM, k51, Nat.reduceAdd, Nat.reduceLT, Nat.reduceEqDiff, ↓reduceIte, reduceCtorEq]; first | done | rfl) ?_)); exact h9.out) : G := h ⟨g⟩
set_option maxRecDepth 100000 in
set_option maxHeartbeats 16000000 in
theorem contribution_ac (d : Dep) (hg : Good d.revs) (hN : d.revs.length ≤ 512) (M : List (Fil × Rev)) (N : List (ByteArray × List Int)) (R : List (Fil × List Rcd)) (hL : CredOK d M N R) (i : Nat) (hC : ∀ j, j ≤ i → CarC d M N R j) : ConC d M N R i := by
  intro v hv h5 B c r k hB hc hk
  have hn := hg.num i v hv
  have hil := (List.getElem?_eq_some_iff.1 hv).1
  have hMv : alook M (fileOf v) = some v := by rw [hL.M]; exact alook_memL_get hg hv h5
  cases hkv : alook k (fileOf v) with
  | some o =>
    obtain ⟨l, rfl, hl⟩ := (hk.ok _ _ hkv).resolve_left (fun h => h)
    have hkv' : alook k ⟨v.path, v.num⟩ = some (some l) := hkv
    refine AC_enter Tryz.func51 rfl rfl (by simp only [Tryz.ntmps51, List.length]; omega) ?_
    intro x hx
    simp only [List.range, List.range.loop, List.length, List.zip, List.zipWith, Nat.reduceAdd, Tryz.ntmps51]
    simp only [fileOf]
    try refine v51W8 ?_
    refine drA (wr := false) ([] : List (Nat × AV)) (by simp only [kD, kB, kM, k51, Nat.reduceAdd, Nat.reduceLT, Nat.reduceEqDiff, ↓reduceIte, reduceCtorEq, look_S, hkv', Option.map_some, Option.getD, Option.isSome, dSet]; first | done | rfl) ?_ ?_
    · exact obF ty_S
    try refine v51W8 ?_
    refine ifA ?_ ?_
    rotate_left
    · intro h; cases h
    intro _
    try refine v51W8 ?_
    refine rtA (by simp only [kR, Tryz.results51, ↓reduceIte, Nat.reduceEqDiff, reduceCtorEq]; first | done | rfl) ((credSt M N R c r k)) ?_
    exact ⟨l, c, k, hl, hc, hk, rfl, rfl⟩
  | none =>
    have hkv' : alook k ⟨v.path, v.num⟩ = none := hkv
    have hP := fun c r k => previousC_ac M N R c r k v hMv (by omega) (fun h1 => by
      obtain ⟨j, u, _, h2, h3, h4⟩ := bef_ex hg hN hv h1
      exact ⟨u, by rw [hL.M, h3]; exact alook_memL_get hg h2 h4⟩)
    refine AC_enter Tryz.func51 rfl rfl (by simp only [Tryz.ntmps51, List.length]; omega) ?_
    intro x hx
    simp only [List.range, List.range.loop, List.length, List.zip, List.zipWith, Nat.reduceAdd, Tryz.ntmps51]
    simp only [fileOf]
    try refine v51W8 ?_
    refine drA (wr := false) ([] : List (Nat × AV)) (by simp only [kD, kB, kM, k51, Nat.reduceAdd, Nat.reduceLT, Nat.reduceEqDiff, ↓reduceIte, reduceCtorEq, look_S, hkv', Option.map_none, Option.getD, Option.isSome]; first | done | rfl) ?_ ?_
    · exact obF ty_S
    try refine v51W8 ?_
    refine ifA ?_ ?_
    · intro h; cases h
    intro _
    try refine v51W8 ?_
    refine caA ((credSt M N R c r k)) (hP c r k) ?_
    rintro rv9 st' ⟨rfl, rfl⟩ <;> refine frA ?_
    try refine v51W8 ?_
    refine T_joinE (ι := Option (List Fil) × CM × CM) (fun j => ⟨55, [(0, .c (.ptr 1200 0)), (3, .c (.ptr 3 0)), (7, .c (.d (dSet kF j.1)))], credSt M N R j.2.1 r j.2.2 ++ [(3, .box ((encFil ⟨v.path, v.num⟩).map C.d))]⟩)
      (fun j => IsS (j.1.getD []) (SA d (befF v)).car ∧ CMap (fun f => (SA d f).car) B j.2.1 ∧ CMap (fun f => (SA d f).con) noB j.2.2) ?_ ?_
    · refine ifA ?_ ?_
      · intro h1
        have h1 : ¬ v.act = 1 := by simpa using h1
        obtain ⟨j, u, j1, j2, j3, j4⟩ := bef_ex hg hN hv h1
        have hCu := hC j (by omega) u j2 j4 B c r k (hB.lower (by omega)) hc hk
        rw [← j3] at hCu
        try refine v51W8 ?_
        refine caA ((credSt M N R c r k)) (hCu) ?_
        rintro rv9 st' ⟨l, c', k', hl, hc', hk', rfl, rfl⟩ <;> refine frA ?_
        try refine v51W8 ?_
        refine ⟨rfl, (some l, c', k'), ⟨hl, hc', hk'⟩, ?_⟩
        exact enA
      · intro h1
        have h1 : v.act = 1 := by simpa using h1
        try refine v51W8 ?_
        refine ⟨rfl, (none, c, k), ⟨?_, hc, hk⟩, ?_⟩
        · have e : befF v = zFil := by simp [befF, h1]
          rw [e, SA_zero hg]
          exact ⟨.nil, fun g => by simp [SS0]⟩
        · exact enA
    rintro ⟨b0, c1, k1⟩ ⟨hb0, hc1, hk1⟩
    simp only at hb0 hc1 hk1 ⊢
    try refine v51W8 ?_
    refine caA ((credSt M N R c1 r k1)) (hC i (Nat.le_refl _) v hv h5 B c1 r k1 hB hc1 hk1) ?_
    rintro rv9 st' ⟨l, c2, k2, hl, hc2, hk2, rfl, rfl⟩ <;> refine frA ?_
    try refine v51W8 ?_
    refine T_loop (ι := Option EntD × List Fil × List Fil) (I := fun j => ⟨55, [(0, .c (.ptr 1200 0)), (3, .c (.ptr 3 0)), (7, .c (.d (dSet kF b0))), (10, .c (.mp 33)), (37, .c (.ptr 37 0))], credSt M N R c2 r k2 ++ [(3, .box ((encFil ⟨v.path, v.num⟩).map C.d)), (33, uMap kF j.2.2), (37, .iter j.1 (sEnt kF j.2.1))]⟩)
      (Inv := fun j => (∀ g, (g ∈ j.2.2 ∨ (g ∈ j.2.1 ∧ ¬ g ∈ b0.getD [])) ↔ (g ∈ l ∧ ¬ g ∈ b0.getD [])) ∧ j.2.2.Nodup) (μ := fun j => j.2.1.length) (none, l, []) ⟨by simp, .nil⟩ ?_ ?_
    · exact enA
    rintro ⟨cur, rest, m⟩ ⟨h, hnd⟩
    simp only at h hnd ⊢
    refine nvA ?_
    refine TO_next (id := 37) (by simp) (by simp only [kV, ↓reduceIte, Nat.reduceEqDiff, reduceCtorEq]; first | done | rfl) rfl ?_ ?_
    · intro h0
      have hrest : rest = [] := by simpa [sEnt] using h0
      subst hrest
      have hm : IsS m (SA d (fileOf v)).con := ⟨hnd, fun g => by
        rw [SA_con hg hv h5, ← hl.mem, ← hb0.mem, ← h g]; simp⟩
      refine fzA ?_
      try refine v51W8 ?_
      refine ifA ?_ ?_
      · intro hh; cases hh
      intro _
      refine T_ent (Ent_frzMapSlot (i := 10) (id := 33) rfl rfl) ?_
      refine fzA ?_
      refine nvA ?_
      refine drA (wr := false) ([] : List (Nat × AV)) (by simp only [kD, kB, kM, k51, Nat.reduceAdd, Nat.reduceLT, Nat.reduceEqDiff, ↓reduceIte, reduceCtorEq, ins_S]; first | done | rfl) ?_ ?_
      · exact obF ty_S
      try refine v51W8 ?_
      refine rtA (by simp only [kR, Tryz.results51, ↓reduceIte, Nat.reduceEqDiff, reduceCtorEq]; first | done | rfl) ((credSt M N R c2 r (aput k2 ⟨v.path, v.num⟩ (some m)))) ?_
      exact ⟨m, c2, _, hm, hc2, hk2.put hm, rfl, rfl⟩
    intro l1 e l2 hsp
    obtain ⟨xs, g, y, rfl, rfl, rfl, rfl⟩ := sEnt_split hsp
    refine fzA ?_
    (repeat (first | refine nvB ?_ | refine goA (wr := false) (by simp only [kB, kM, k51, Nat.reduceAdd, Nat.reduceLT, Nat.reduceEqDiff, ↓reduceIte, reduceCtorEq, upD]; first | done | rfl) ?_))
    refine ifA ?_ ?_
    rotate_left
    · intro hh; cases hh
    intro _
    have hin : (decide (g ∈ b0.getD []) = true) ↔ g ∈ b0.getD [] := decide_eq_true_iff
    cases b0 with
    | none =>
      (repeat (first | refine nvB ?_ | refine goA (wr := false) (by simp only [kB, kM, k51, Nat.reduceAdd, Nat.reduceLT, Nat.reduceEqDiff, ↓reduceIte, reduceCtorEq, upD]; first | done | rfl) ?_))
      refine TO_go (wr := false) 400 (by simp only [kB, kM, k51, Nat.reduceAdd, Nat.reduceLT, Nat.reduceEqDiff, ↓reduceIte, reduceCtorEq, findE_nil, Option.getD]; first | done | rfl) ?_ ?_
      · exact obN
      try refine v51W8 ?_
      refine ifA ?_ ?_
      rotate_left
      · intro hh; cases hh
      intro _
      (repeat (first | refine nvB ?_ | refine goA (wr := false) (by simp only [kB, kM, k51, Nat.reduceAdd, Nat.reduceLT, Nat.reduceEqDiff, ↓reduceIte, reduceCtorEq, upD]; first | done | rfl) ?_))
      refine TO_go (wr := false) 400 (by simp only [kB, kM, k51, Nat.reduceAdd, Nat.reduceLT, Nat.reduceEqDiff, ↓reduceIte, reduceCtorEq, ins_F]; first | done | rfl) ?_ ?_
      · exact obT (ty_F m)
      try refine v51W8 ?_
      refine ⟨(some (kF g, (false, [.v (.bool true)])), xs ++ y, addS m g), ⟨?_, addS_nodup hnd g⟩, by simp, ?_⟩
      · intro f
        rw [← h f, mem_addS]
        simp only [List.mem_append, List.mem_cons, Option.getD, List.not_mem_nil, not_false_eq_true, and_true]
        constructor
        · rintro ((h | h) | h | h)
          · exact .inl h
          · exact .inr (.inr (.inl h))
          · exact .inr (.inl h)
          · exact .inr (.inr (.inr h))
        · rintro (h | h | h | h)
          · exact .inl (.inl h)
          · exact .inr (.inl h)
          · exact .inl (.inr h)
          · exact .inr (.inr h)
      · exact enA
    | some b1 =>
      (repeat (first | refine nvB ?_ | refine goA (wr := false) (by simp only [kB, kM, k51, Nat.reduceAdd, Nat.reduceLT, Nat.reduceEqDiff, ↓reduceIte, reduceCtorEq, upD]; first | done | rfl) ?_))
      refine TO_go (wr := false) 400 (by simp only [kB, kM, k51, Nat.reduceAdd, Nat.reduceLT, Nat.reduceEqDiff, ↓reduceIte, reduceCtorEq, look_F]; first | done | rfl) ?_ ?_
      · exact obT (ty_F b1)
      try refine v51W8 ?_
      refine ifA ?_ ?_
      · intro hg1
        have hg1 : ¬ g ∈ b1 := by simpa using hg1
        (repeat (first | refine nvB ?_ | refine goA (wr := false) (by simp only [kB, kM, k51, Nat.reduceAdd, Nat.reduceLT, Nat.reduceEqDiff, ↓reduceIte, reduceCtorEq, upD]; first | done | rfl) ?_))
        refine TO_go (wr := false) 400 (by simp only [kB, kM, k51, Nat.reduceAdd, Nat.reduceLT, Nat.reduceEqDiff, ↓reduceIte, reduceCtorEq, ins_F]; first | done | rfl) ?_ ?_
        · exact obT (ty_F m)
        try refine v51W8 ?_
        refine ⟨(some (kF g, (false, [.v (.bool true)])), xs ++ y, addS m g), ⟨?_, addS_nodup hnd g⟩, by simp, ?_⟩
        · intro f
          rw [← h f, mem_addS]
          simp only [List.mem_append, List.mem_cons, Option.getD]
          constructor
          · rintro ((h | h) | h | h)
            · exact .inl h
            · subst h; exact .inr ⟨.inr (.inl rfl), hg1⟩
            · exact .inr ⟨.inl h, ‹_›⟩
            · exact .inr ⟨.inr (.inr h), ‹_›⟩
          · rintro (h | ⟨h | h | h, h'⟩)
            · exact .inl (.inl h)
            · exact .inr ⟨.inl h, h'⟩
            · exact .inl (.inr h)
            · exact .inr ⟨.inr h, h'⟩
        · exact enA
      · intro hg1
        have hg1 : g ∈ b1 := by simpa using hg1
        try refine v51W8 ?_
        refine ⟨(some (kF g, (false, [.v (.bool true)])), xs ++ y, m), ⟨?_, hnd⟩, by simp, ?_⟩
        · intro f
          rw [← h f]
          simp only [List.mem_append, List.mem_cons, Option.getD]
          constructor
          · rintro (h | ⟨h | h, h'⟩)
            · exact .inl h
            · exact .inr ⟨.inl h, h'⟩
            · exact .inr ⟨.inr (.inr h), h'⟩
          · rintro (h | ⟨h | h | h, h'⟩)
            · exact .inl h
            · exact .inr ⟨.inl h, h'⟩
            · subst h; exact absurd hg1 h'
            · exact .inr ⟨.inr h, h'⟩
        · exact enA
end Go.Proofs.YtbllfnmabmamfaaGreatDoor
