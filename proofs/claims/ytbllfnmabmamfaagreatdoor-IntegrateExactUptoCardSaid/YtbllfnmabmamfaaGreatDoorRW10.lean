/- A part of the proof. -/
import Derived.Test.YtbllfnmabmamfaaGreatDoorRBd2
import Derived.Test.YtbllfnmabmamfaaGreatDoorRW8
set_option linter.all false
namespace Go.Proofs.YtbllfnmabmamfaaGreatDoor
open Go.Ab Tys
def offS (d : Dep) (rc : Rcd) (g : Fil) : Prop := ∃ n, rc.first ≤ n ∧ n ≤ rc.last ∧ (SA d ⟨rc.frm, n⟩).con g
theorem look_Ns (m : List (ByteArray × List Int)) (p : ByteArray) : findE [C.d (.v (.string p))] ((mEnt kS' vNs m).map upE) = (alook m p).map fun l => (false, [C.d (.ps 1 (l.map fun i => [D.v (.int .i64 i)]))]) := findE_ent (ve := vNs) kS_eq m p
theorem ty_Ns (m : List (ByteArray × List Int)) : ∀ e ∈ (mEnt kS' vNs m).map upE, e.1.1 = false ∧ tyCs [.str] e.1.2 := by
  intro e he
  simp only [mEnt, List.mem_map] at he
  obtain ⟨_, ⟨f, _, rfl⟩, rfl⟩ := he
  exact ⟨rfl, by simp [upE, upD, tyCs]⟩
@[reducible] def eNn (i : Int) : List D := [.v (.int .i64 i)]
def k97 := And.intro @Tryz.ntmps97 <| And.intro @Tryz.underlying59 <| And.intro @bld180 <| And.intro @bld37 <| And.intro @bld76 <| And.intro @elt229 <| And.intro @elt59 <| And.intro @fld180_1 <| And.intro @fld37_0 <| And.intro @fld37_1 <| And.intro @fld76_0 <| And.intro @fld76_1 <| And.intro @fld76_2 <| And.intro @kyt37 <| And.intro @kyt9 <| And.intro @mpt176 <| And.intro @mpt181 <| And.intro @ti176 <| And.intro @ti180 <| And.intro @ti181 <| And.intro @ti229 <| And.intro @ti3 <| And.intro @ti37 <| And.intro @ti4 <| And.intro @ti59 <| And.intro @ti76 <| @ti9
theorem v97W9 {G G' : Prop} (g : G') (h : Hid G' → G := by intro h9; (first | refine nvB ?_ | refine goA (wr := false) (by simp only [kB, kG, kS, kM, k97, Nat.reduceAdd, Nat.reduceLT, Nat.reduceEqDiff, ↓reduceIte, reduceCtorEq]; first | done | rfl) ?_); (repeat (first | refine nvB ?_ | refine goA (wr := false) (by simp only [kB, kG, kS, kM, k97, Nat.reduceAdd, Nat.reduceLT, Nat.reduceEqDiff, ↓reduceIte, reduceCtorEq]; first | done | rfl) ?_)); exact h9.out) : G := h ⟨g⟩
set_option maxRecDepth 100000 in
set_option maxHeartbeats 16000000 in
theorem offered_ac (d : Dep) (hg : Good d.revs) (hN : d.revs.length ≤ 512) (hS : SrcOK d) (M : List (Fil × Rev)) (N : List (ByteArray × List Int)) (R : List (Fil × List Rcd)) (hL : CredOK d M N R) (i : Nat) (hC : ∀ j, j < i → ConC d M N R j)
    (v : Rev) (hv : d.revs[i]? = some v) (rc : Rcd) (hrc : rc ∈ intoR d (fileOf v)) (B : Fil → Prop) (c r k : CM) (hB : ∀ j, j < i → Bi d j B) (hc : CMap (fun f => (SA d f).car) B c) (hk : CMap (fun f => (SA d f).con) noB k) :
    AC Tryz.prog 97 [.c (.ptr 1200 0), aRcd rc] (credSt M N R c r k) (fun x st => ∃ (l : List Fil) (c' k' : CM), IsS l (offS d rc) ∧ CMap (fun f => (SA d f).car) B c' ∧ CMap (fun f => (SA d f).con) noB k' ∧ x = .c (.d (.pm (sEnt kF l))) ∧ st = credSt M N R c' r k') := by
  obtain ⟨s1, s2, _, _, s5⟩ := hS i v hv rc hrc
  obtain ⟨nums, hnums, hmem⟩ : ∃ nums, alook N rc.frm = some nums ∧ ∀ n, n ∈ nums ↔ ∃ u ∈ d.revs, ¬ u.act = 5 ∧ fileOf u = ⟨rc.frm, n⟩ := by
    have h0 := hL.N rc.frm
    have key : ∀ n, n ∈ (alook N rc.frm).getD [] ↔ ∃ u ∈ d.revs, ¬ u.act = 5 ∧ fileOf u = ⟨rc.frm, n⟩ := by
      intro n
      rw [h0]
      simp only [List.mem_map, List.mem_filter, decide_eq_true_eq]
      constructor
      · rintro ⟨u, ⟨h1, h2, h3⟩, rfl⟩; exact ⟨u, h1, h2, by simp [fileOf, h3]⟩
      · rintro ⟨u, h1, h2, h3⟩
        simp only [fileOf, Fil.mk.injEq] at h3
        exact ⟨u, ⟨h1, h2, h3.1⟩, h3.2⟩
    cases h : alook N rc.frm with
    | some nums => rw [h] at key; exact ⟨nums, rfl, key⟩
    | none =>
      exfalso
      obtain ⟨j, u, _, j2, j3, j4⟩ := s5 rc.first (Int.le_refl _) s2
      have := (key rc.first).2 ⟨u, List.mem_of_getElem? j2, j4, j3⟩
      rw [h] at this; cases this
  have hlen : nums.length ≤ 512 := by
    have h0 := hL.N rc.frm
    rw [hnums] at h0
    simp only [Option.getD] at h0
    rw [h0, List.length_map]
    have := List.length_filter_le (fun w : Rev => decide (¬ w.act = 5 ∧ w.path = rc.frm)) d.revs
    omega
  refine AC_enter Tryz.func97 rfl rfl (by simp only [Tryz.ntmps97, List.length]; omega) ?_
  intro x hx
  simp only [List.range, List.range.loop, List.length, List.zip, List.zipWith, Nat.reduceAdd, Tryz.ntmps97]
  try refine v97W9 ?_
  refine drA (wr := false) ([] : List (Nat × AV)) (by simp only [kD, kB, kG, kS, kM, k97, Nat.reduceAdd, Nat.reduceLT, Nat.reduceEqDiff, ↓reduceIte, reduceCtorEq, look_Ns, hnums, Option.map_some, Option.getD]; first | done | rfl) ?_ ?_
  · exact obF ty_Ns
  refine nvA ?_
  refine T_loop (ι := Nat × List Fil × CM × CM) (I := fun j => ⟨42, [(0, .c (.ptr 1200 0)), (3, .c (.ptr 3 0)), (5, .c (.mp 8)), (15, .c (.d (.ps 1 (nums.map eNn)))), (16, I .i64 nums.length), (17, I .i64 j.1)], credSt M N R j.2.2.1 r j.2.2.2 ++ [(3, .box ((encRcd rc).map C.d)), (8, uMap kF j.2.1)]⟩)
    (Inv := fun j => j.1 ≤ nums.length ∧ j.2.1.Nodup ∧ (∀ g, g ∈ j.2.1 ↔ ∃ n ∈ nums.take j.1, rc.first ≤ n ∧ n ≤ rc.last ∧ (SA d ⟨rc.frm, n⟩).con g) ∧ CMap (fun f => (SA d f).car) B j.2.2.1 ∧ CMap (fun f => (SA d f).con) noB j.2.2.2) (μ := fun j => nums.length - j.1) (0, [], c, k) ⟨by simp, .nil, by simp, hc, hk⟩ ?_ ?_
  · exact enA
  rintro ⟨q, l, c1, k1⟩ ⟨hq, hnd, hl, hc1, hk1⟩
  simp only at hq hnd hl hc1 hk1 ⊢
  try refine v97W9 ?_
  refine ifA ?_ ?_
  rotate_left
  · intro hge
    have hge' : q = nums.length := by have : ¬ q < nums.length := by simpa using hge
                                      omega
    subst hge'
    rw [List.take_length] at hl
    refine T_ent (Ent_frzMapSlot (i := 5) (id := 8) rfl rfl) ?_
    refine fzA ?_
    try refine v97W9 ?_
    refine rtA (by simp only [kR, Tryz.results97, ↓reduceIte, Nat.reduceEqDiff, reduceCtorEq]; first | done | rfl) ((credSt M N R c1 r k1)) ?_
    refine ⟨l, c1, k1, ⟨hnd, fun g => ?_⟩, hc1, hk1, rfl, rfl⟩
    rw [hl g]
    constructor
    · rintro ⟨n, _, h1, h2, h3⟩; exact ⟨n, h1, h2, h3⟩
    · rintro ⟨n, h1, h2, h3⟩
      obtain ⟨j, u, _, j2, j3, j4⟩ := s5 n h1 h2
      exact ⟨n, (hmem n).2 ⟨u, List.mem_of_getElem? j2, j4, j3⟩, h1, h2, h3⟩
  intro hlt
  have hlt' : q < nums.length := by simpa using hlt
  obtain ⟨n, hn, he, htk⟩ := round eNn nums q 0 hlt'
  (repeat (first | refine nvB ?_ | refine goA (wr := false) (by simp only [kB, kG, kS, kM, k97, Nat.reduceAdd, Nat.reduceLT, Nat.reduceEqDiff, ↓reduceIte, reduceCtorEq, he]; first | done | rfl) ?_))
  refine ifA ?_ ?_
  · intro hin
    have hin' : rc.first ≤ n ∧ n ≤ rc.last := by simpa using hin
    obtain ⟨j, u, j1, j2, j3, j4⟩ := s5 n hin'.1 hin'.2
    have hCj := hC j j1 u j2 j4 B c1 r k1 (hB j j1) hc1 hk1
    rw [j3] at hCj
    try refine v97W9 ?_
    refine caA ((credSt M N R c1 r k1)) (hCj) ?_
    rintro rv9 st' ⟨l2, c2, k2, hl2, hc2, hk2, rfl, rfl⟩ <;> refine frA ?_
    refine goA (wr := false) (by simp only [kB, kG, kS, kM, k97, Nat.reduceAdd, Nat.reduceLT, Nat.reduceEqDiff, ↓reduceIte, reduceCtorEq]; first | done | rfl) ?_
    refine TO_ent (Ent_frzSlot (i := 38) (id := 38) (ys := [[.pm (sEnt kF l2)]]) rfl rfl rfl) ?_
    refine fzA ?_
    refine caA ([(8, uMap kF l)]) (addC_ac 8 (by decide) (by decide) l hnd l2) ?_
    rintro rv9 st' ⟨l3, ⟨hnd3, hl3⟩, rfl⟩ <;> refine frA ?_
    try refine v97W9 ?_
    refine ⟨(q + 1, l3, c2, k2), ⟨by simp; omega, hnd3, ?_, hc2, hk2⟩, by simp; omega, ?_⟩
    · intro g
      rw [hl3 g, hl g, htk, hl2.mem]
      constructor
      · rintro (⟨m, h1, h2⟩ | h)
        · exact ⟨m, by simp [h1], h2⟩
        · exact ⟨n, by simp, hin'.1, hin'.2, h⟩
      · rintro ⟨m, h1, h2, h3, h4⟩
        rcases List.mem_append.1 h1 with h1 | h1
        · exact .inl ⟨m, h1, h2, h3, h4⟩
        · simp at h1; subst h1; exact .inr h4
    · exact enA
  · intro hin
    have hin' : ¬ (rc.first ≤ n ∧ n ≤ rc.last) := by simpa using hin
    try refine v97W9 ?_
    refine ⟨(q + 1, l, c1, k1), ⟨by simp; omega, hnd, ?_, hc1, hk1⟩, by simp; omega, ?_⟩
    · intro g
      rw [hl g, htk]
      constructor
      · rintro ⟨m, h1, h2⟩; exact ⟨m, by simp [h1], h2⟩
      · rintro ⟨m, h1, h2, h3, h4⟩
        rcases List.mem_append.1 h1 with h1 | h1
        · exact ⟨m, h1, h2, h3, h4⟩
        · simp at h1; subst h1; exact absurd ⟨h2, h3⟩ hin'
    · exact enA
end Go.Proofs.YtbllfnmabmamfaaGreatDoor
namespace Go.Proofs.YtbllfnmabmamfaaGreatDoor
open Go.Ab Tys
theorem car_zero {d : Dep} (hg : Good d.revs) {v : Rev} (h1 : v.act = 1) (g : Fil) : ¬ (SA d (befF v)).car g := by
  have e : befF v = zFil := by simp [befF, h1]
  rw [e, SA_zero hg]; exact fun h => h
def recS (d : Dep) (rc : Rcd) (g : Fil) : Prop := (rc.how = 1 ∧ (SA d ⟨rc.frm, rc.last⟩).car g) ∨ (¬ rc.how = 1 ∧ ¬ rc.how = 3 ∧ offS d rc g)
theorem intoR_len {d : Dep} (hm : d.recs.length ≤ 512) (f : Fil) : (intoR d f).length ≤ 512 := Nat.le_trans (List.length_filter_le ..) hm
theorem rec_step {d : Dep} {rs : List Rcd} {q : Nat} {rc : Rcd} {l l1 l2 l3 : List Fil} (hl : ∀ g, g ∈ l ↔ g ∈ l1 ∨ ∃ rc ∈ rs.take q, recS d rc g) (htk : rs.take (q + 1) = rs.take q ++ [rc]) (hl3 : ∀ g, g ∈ l3 ↔ g ∈ l ∨ g ∈ l2) (hl2 : ∀ g, g ∈ l2 ↔ recS d rc g) :
    ∀ g, g ∈ l3 ↔ g ∈ l1 ∨ ∃ rc ∈ rs.take (q + 1), recS d rc g := by
  intro g
  rw [hl3 g, hl g, hl2 g, htk]
  constructor
  · rintro ((h | ⟨r, h1, h2⟩) | h)
    · exact .inl h
    · exact .inr ⟨r, by simp [h1], h2⟩
    · exact .inr ⟨rc, by simp, h⟩
  · rintro (h | ⟨r, h1, h2⟩)
    · exact .inl (.inl h)
    · rcases List.mem_append.1 h1 with h1 | h1
      · exact .inl (.inr ⟨r, h1, h2⟩)
      · simp at h1; subst h1; exact .inr h2
theorem rec_none {d : Dep} {rs : List Rcd} {q : Nat} {rc : Rcd} {l l1 : List Fil} (hl : ∀ g, g ∈ l ↔ g ∈ l1 ∨ ∃ rc ∈ rs.take q, recS d rc g) (htk : rs.take (q + 1) = rs.take q ++ [rc]) (h3 : rc.how = 3) :
    ∀ g, g ∈ l ↔ g ∈ l1 ∨ ∃ rc ∈ rs.take (q + 1), recS d rc g :=
  rec_step (l2 := []) hl htk (fun g => by simp) (fun g => by simp [recS, h3])
def k49 := And.intro @Tryz.ntmps49 <| And.intro @Tryz.underlying28 <| And.intro @bld180 <| And.intro @bld37 <| And.intro @bld76 <| And.intro @elt229 <| And.intro @elt28 <| And.intro @fld180_2 <| And.intro @fld180_3 <| And.intro @fld37_0 <| And.intro @fld37_1 <| And.intro @fld76_0 <| And.intro @fld76_2 <| And.intro @fld76_5 <| And.intro @kyt37 <| And.intro @mpt177 <| And.intro @mpt178 <| And.intro @mpt181 <| And.intro @ti177 <| And.intro @ti178 <| And.intro @ti180 <| And.intro @ti181 <| And.intro @ti229 <| And.intro @ti28 <| And.intro @ti3 <| And.intro @ti37 <| And.intro @ti4 <| And.intro @ti76 <| @ti9
theorem v49W10 {G G' : Prop} (g : G') (h : Hid G' → G := by intro h9; (first | refine nvB ?_ | refine goA (wr := false) (by simp only [kB, kS, kM, k49, Nat.reduceAdd, Nat.reduceLT, Nat.reduceEqDiff, ↓reduceIte, reduceCtorEq]; first | done | rfl) ?_); (repeat (first | refine nvB ?_ | refine goA (wr := false) (by simp only [kB, kS, kM, k49, Nat.reduceAdd, Nat.reduceLT, Nat.reduceEqDiff, ↓reduceIte, reduceCtorEq]; first | done | rfl) ?_)); exact h9.out) : G := h ⟨g⟩
set_option maxRecDepth 100000 in
set_option maxHeartbeats 32000000 in
theorem carried_step (d : Dep) (hg : Good d.revs) (hN : d.revs.length ≤ 512) (hm : d.recs.length ≤ 512) (hS : SrcOK d) (M : List (Fil × Rev)) (N : List (ByteArray × List Int)) (R : List (Fil × List Rcd)) (hL : CredOK d M N R) (i : Nat) (hC : ∀ j, j < i → CarC d M N R j) : CarC d M N R i := by
  intro v hv h5 B c r k hB hc hk
  have hn := hg.num i v hv
  have hil := (List.getElem?_eq_some_iff.1 hv).1
  have hMv : alook M (fileOf v) = some v := by rw [hL.M]; exact alook_memL_get hg hv h5
  have hD : ∀ j, j < i → ConC d M N R j := fun j hj => contribution_ac d hg hN M N R hL j fun j' h => hC j' (by omega)
  cases hkv : alook c (fileOf v) with
  | some o =>
    obtain ⟨l, rfl, hl⟩ := (hc.ok _ _ hkv).resolve_left (hB.no hv)
    have hkv' : alook c ⟨v.path, v.num⟩ = some (some l) := hkv
    refine AC_enter Tryz.func49 rfl rfl (by simp only [Tryz.ntmps49, List.length]; omega) ?_
    intro x hx
    simp only [List.range, List.range.loop, List.length, List.zip, List.zipWith, Nat.reduceAdd, Tryz.ntmps49]
    simp only [fileOf]
    try refine v49W10 ?_
    refine drA (wr := false) ([] : List (Nat × AV)) (by simp only [kD, kB, kS, kM, k49, Nat.reduceAdd, Nat.reduceLT, Nat.reduceEqDiff, ↓reduceIte, reduceCtorEq, look_S, hkv', Option.map_some, Option.getD, Option.isSome, dSet]; first | done | rfl) ?_ ?_
    · exact obF ty_S
    try refine v49W10 ?_
    refine ifA ?_ ?_
    rotate_left
    · intro h; cases h
    intro _
    try refine v49W10 ?_
    refine rtA (by simp only [kR, Tryz.results49, ↓reduceIte, Nat.reduceEqDiff, reduceCtorEq]; first | done | rfl) ((credSt M N R c r k)) ?_
    exact ⟨l, c, k, hl, hc, hk, rfl, rfl⟩
  | none =>
    have hkv' : alook c ⟨v.path, v.num⟩ = none := hkv
    have hP := fun c r k => previousC_ac M N R c r k v hMv (by omega) (fun h1 => by
      obtain ⟨j, u, _, h2, h3, h4⟩ := bef_ex hg hN hv h1
      exact ⟨u, by rw [hL.M, h3]; exact alook_memL_get hg h2 h4⟩)
    have hrl := intoR_len hm (fileOf v)
    have hO := fun c r k => original_ac M N R c r k (fileOf v) (intoR d (fileOf v)) (hL.R _) hrl
    have hc0 := hc.begin (fileOf v)
    have hB0 : ∀ j, j < i → Bi d j (fun f => B f ∨ f = fileOf v) := fun j hj => hB.begin hg hv hj
    have hcar := carS_SA hg hS hv h5
    have hsrc := hS i v hv
    have hRv : (alook R ⟨v.path, v.num⟩).getD [] = intoR d (fileOf v) := hL.R (fileOf v)
    refine AC_enter Tryz.func49 rfl rfl (by simp only [Tryz.ntmps49, List.length]; omega) ?_
    intro x hx
    simp only [List.range, List.range.loop, List.length, List.zip, List.zipWith, Nat.reduceAdd, Tryz.ntmps49]
    simp only [fileOf]
    try refine v49W10 ?_
    refine drA (wr := false) ([] : List (Nat × AV)) (by simp only [kD, kB, kS, kM, k49, Nat.reduceAdd, Nat.reduceLT, Nat.reduceEqDiff, ↓reduceIte, reduceCtorEq, look_S, hkv', Option.map_none, Option.getD, Option.isSome]; first | done | rfl) ?_ ?_
    · exact obF ty_S
    try refine v49W10 ?_
    refine ifA ?_ ?_
    · intro h; cases h
    intro _
    try refine v49W10 ?_
    refine drA (wr := false) ([] : List (Nat × AV)) (by simp only [kD, kB, kS, kM, k49, Nat.reduceAdd, Nat.reduceLT, Nat.reduceEqDiff, ↓reduceIte, reduceCtorEq, ins_S0]; first | done | rfl) ?_ ?_
    · exact obF ty_S
    change CMap _ _ (aput c ⟨v.path, v.num⟩ none) at hc0
    generalize aput c ⟨v.path, v.num⟩ none = c0 at hc0 ⊢
    try refine v49W10 ?_
    refine caA ((credSt M N R c0 r k)) (hO c0 r k) ?_
    rintro rv9 st' ⟨rfl, rfl⟩ <;> refine frA ?_
    try refine v49W10 ?_
    refine T_joinE (ι := List Fil) (fun l => ⟨89, [(0, .c (.ptr 1200 0)), (3, .c (.ptr 3 0)), (7, .c (.mp 28))], credSt M N R c0 r k ++ [(3, .box ((encFil ⟨v.path, v.num⟩).map C.d)), (28, uMap kF l)]⟩)
      (fun l => l.Nodup ∧ ∀ g, g ∈ l ↔ (intoR d (fileOf v) = [] ∨ ∃ r ∈ intoR d (fileOf v), r.how = 4) ∧ g = fileOf v) ?_ ?_
    · refine ifA ?_ ?_
      · intro ho
        have ho := of_decide_eq_true ho
        try refine v49W10 ?_
        refine TO_go (wr := false) 400 (by simp only [kB, kS, kM, k49, Nat.reduceAdd, Nat.reduceLT, Nat.reduceEqDiff, ↓reduceIte, reduceCtorEq, ins_F]; first | done | rfl) ?_ ?_
        · exact obT (ty_F [])
        try refine v49W10 ?_
        refine ⟨rfl, [⟨v.path, v.num⟩], ⟨by simp, fun g => List.mem_singleton.trans ⟨fun h => ⟨ho, h⟩, fun h => h.2⟩⟩, ?_⟩
        (refine Ent_sub (fun i => i) rfl ?_ ⟨?_, ?_, ?_, keepI hx (by simp [domOf, Ab.get])⟩ <;> first | (simp only [kE, dArr, ↓reduceIte, Nat.reduceEqDiff, reduceCtorEq, clPs, clCs, clC, upE, upD, insE]; done) | simp [renAV_id, renAO_id, flat_up, Ab.get, clAV, clC, clCs, clAO, cl_f1, cl_s1, cl_f2, cl_s2, cl_a1, domOf, List.flatten, clPs, clCs, clC, upE, upD, insE])
      · intro ho
        have ho := of_decide_eq_false ho
        try refine v49W10 ?_
        refine ⟨rfl, [], ⟨.nil, fun g => by simp [ho]⟩, ?_⟩
        exact enA
    rintro l ⟨hnd, hl⟩
    try refine v49W10 ?_
    refine caA ((credSt M N R c0 r k)) (hP c0 r k) ?_
    rintro rv9 st' ⟨rfl, rfl⟩ <;> refine frA ?_
    try refine v49W10 ?_
    refine T_joinE (ι := List Fil × CM × CM) (fun j => ⟨89, [(0, .c (.ptr 1200 0)), (3, .c (.ptr 3 0)), (7, .c (.mp 28))], credSt M N R j.2.1 r j.2.2 ++ [(3, .box ((encFil ⟨v.path, v.num⟩).map C.d)), (28, uMap kF j.1)]⟩)
      (fun j => j.1.Nodup ∧ (∀ g, g ∈ j.1 ↔ (SA d (befF v)).car g ∨ ((intoR d (fileOf v) = [] ∨ ∃ r ∈ intoR d (fileOf v), r.how = 4) ∧ g = fileOf v)) ∧ CMap (fun f => (SA d f).car) (fun f => B f ∨ f = fileOf v) j.2.1 ∧ CMap (fun f => (SA d f).con) noB j.2.2) ?_ ?_
    · refine ifA ?_ ?_
      · intro h1
        have h1 : ¬ v.act = 1 := by simpa using h1
        obtain ⟨j, u, j1, j2, j3, j4⟩ := bef_ex hg hN hv h1
        have hCu := hC j j1 u j2 j4 _ c0 r k (hB0 j j1) hc0 hk
        rw [← j3] at hCu
        try refine v49W10 ?_
        refine caA ((credSt M N R c0 r k)) (hCu) ?_
        rintro rv9 st' ⟨l2, c2, k2, hl2, hc2, hk2, rfl, rfl⟩ <;> refine frA ?_
        refine goA (wr := false) (by simp only [kB, kS, kM, k49, Nat.reduceAdd, Nat.reduceLT, Nat.reduceEqDiff, ↓reduceIte, reduceCtorEq]; first | done | rfl) ?_
        refine TO_ent (Ent_frzSlot (i := 45) (id := 45) (ys := [[.pm (sEnt kF l2)]]) rfl rfl rfl) ?_
        refine fzA ?_
        refine caA ([(28, uMap kF l)]) (addC_ac 28 (by decide) (by decide) l hnd l2) ?_
        rintro rv9 st' ⟨l3, ⟨hnd3, hl3⟩, rfl⟩ <;> refine frA ?_
        try refine v49W10 ?_
        refine ⟨rfl, (l3, c2, k2), ⟨hnd3, fun g => ?_, hc2, hk2⟩, ?_⟩
        · rw [hl3 g, hl g, hl2.mem]; exact or_comm
        · exact enA
      · intro h1
        have h1 : v.act = 1 := by simpa using h1
        try refine v49W10 ?_
        refine ⟨rfl, (l, c0, k), ⟨hnd, fun g => ?_, hc0, hk⟩, ?_⟩
        · rw [hl g]; exact ⟨.inr, fun h => h.resolve_left (car_zero hg h1 g)⟩
        · exact enA
    rintro ⟨l1, c1, k1⟩ ⟨hnd1, hl1, hc1, hk1⟩
    simp only at hnd1 hl1 hc1 hk1 ⊢
    generalize hrs : intoR d (fileOf v) = rs at hl1 hrl hcar hsrc hRv
    refine nvA ?_
    refine T_join ⟨89, [(0, .c (.ptr 1200 0)), (3, .c (.ptr 3 0)), (7, .c (.mp 28)), (52, .c (.d (.ps 6 (rs.map encRcd)))), (53, I .i64 rs.length), (54, I .i64 0)], credSt M N R c1 r k1 ++ [(3, .box ((encFil ⟨v.path, v.num⟩).map C.d)), (28, uMap kF l1)]⟩ ?_ ?_
    · cases hkR : alook R ⟨v.path, v.num⟩ with
      | none =>
        rw [hkR] at hRv
        simp only [Option.getD] at hRv
        subst hRv
        refine drA (wr := false) ([] : List (Nat × AV)) (by simp only [kD, kB, kS, kM, k49, Nat.reduceAdd, Nat.reduceLT, Nat.reduceEqDiff, ↓reduceIte, reduceCtorEq, look_Rc, hkR, Option.map_none, Option.getD]; first | done | rfl) ?_ ?_
        · exact obF ty_Rc
        refine ⟨rfl, Ent.trans (Ent_nilSlot (i := 52) 6 rfl) ?_⟩
        refine fzA ?_
        exact enA
      | some rs' =>
        rw [hkR] at hRv
        simp only [Option.getD] at hRv
        subst hRv
        refine drA (wr := false) ([] : List (Nat × AV)) (by simp only [kD, kB, kS, kM, k49, Nat.reduceAdd, Nat.reduceLT, Nat.reduceEqDiff, ↓reduceIte, reduceCtorEq, look_Rc, hkR, Option.map_some, Option.getD]; first | done | rfl) ?_ ?_
        · exact obF ty_Rc
        refine ⟨rfl, ?_⟩
        exact enA
    refine nvA ?_
    refine T_loop (ι := Nat × List Fil × CM × CM) (I := fun j => ⟨89, [(0, .c (.ptr 1200 0)), (3, .c (.ptr 3 0)), (7, .c (.mp 28)), (52, .c (.d (.ps 6 (rs.map encRcd)))), (53, I .i64 rs.length), (54, I .i64 j.1)], credSt M N R j.2.2.1 r j.2.2.2 ++ [(3, .box ((encFil ⟨v.path, v.num⟩).map C.d)), (28, uMap kF j.2.1)]⟩)
      (Inv := fun j => j.1 ≤ rs.length ∧ j.2.1.Nodup ∧ (∀ g, g ∈ j.2.1 ↔ g ∈ l1 ∨ ∃ rc ∈ rs.take j.1, recS d rc g) ∧ CMap (fun f => (SA d f).car) (fun f => B f ∨ f = fileOf v) j.2.2.1 ∧ CMap (fun f => (SA d f).con) noB j.2.2.2) (μ := fun j => rs.length - j.1) (0, l1, c1, k1) ⟨by simp, hnd1, by simp, hc1, hk1⟩ ?_ ?_
    · exact enA
    rintro ⟨q, l, c3, k3⟩ ⟨hq, hnd, hl, hc3, hk3⟩
    simp only at hq hnd hl hc3 hk3 ⊢
    try refine v49W10 ?_
    refine ifA ?_ ?_
    rotate_left
    · intro hge
      have hge' : q = rs.length := by have : ¬ q < rs.length := by simpa using hge
                                      omega
      subst hge'
      rw [List.take_length] at hl
      have hfin : IsS l (SA d (fileOf v)).car := ⟨hnd, fun g => by
        rw [hl g, hl1 g, hcar g]
        unfold carS
        constructor
        · rintro ((h | h) | ⟨rc, h1, h2⟩)
          · exact .inl h
          · exact .inr (.inr h)
          · exact .inr (.inl ⟨rc, h1, h2⟩)
        · rintro (h | ⟨rc, h1, h2⟩ | h)
          · exact .inl (.inl h)
          · exact .inr ⟨rc, h1, h2⟩
          · exact .inl (.inr h)⟩
      refine T_ent (Ent_frzMapSlot (i := 7) (id := 28) rfl rfl) ?_
      refine fzA ?_
      try refine v49W10 ?_
      refine drA (wr := false) ([] : List (Nat × AV)) (by simp only [kD, kB, kS, kM, k49, Nat.reduceAdd, Nat.reduceLT, Nat.reduceEqDiff, ↓reduceIte, reduceCtorEq, ins_S]; first | done | rfl) ?_ ?_
      · exact obF ty_S
      try refine v49W10 ?_
      refine rtA (by simp only [kR, Tryz.results49, ↓reduceIte, Nat.reduceEqDiff, reduceCtorEq]; first | done | rfl) ((credSt M N R (aput c3 ⟨v.path, v.num⟩ (some l)) r k3)) ?_
      exact ⟨l, _, k3, hfin, hc3.done hfin, hk3, rfl, rfl⟩
    intro hlt
    have hlt' : q < rs.length := by simpa using hlt
    obtain ⟨rc, hrc, he, htk⟩ := round encRcd rs q zRcd hlt'
    obtain ⟨s1, s2, s3, s4, s5⟩ := hsrc rc (List.mem_of_getElem? hrc)
    have hrin : rc ∈ intoR d (fileOf v) := by rw [hrs]; exact List.mem_of_getElem? hrc
    (repeat (first | refine nvB ?_ | refine goA (wr := false) (by simp only [kB, kS, kM, k49, Nat.reduceAdd, Nat.reduceLT, Nat.reduceEqDiff, ↓reduceIte, reduceCtorEq, he]; first | done | rfl) ?_))
    refine ifA ?_ ?_
    · intro h1
      have h1 : rc.how = 1 := by simpa using h1
      obtain ⟨j, u, j1, j2, j3, j4⟩ := s5 rc.last s2 (Int.le_refl _)
      have hCu := hC j j1 u j2 j4 _ c3 r k3 (hB0 j j1) hc3 hk3
      rw [j3] at hCu
      try refine v49W10 ?_
      refine caA ((credSt M N R c3 r k3)) (hCu) ?_
      rintro rv9 st' ⟨l2, c2, k2, hl2, hc2, hk2, rfl, rfl⟩ <;> refine frA ?_
      refine goA (wr := false) (by simp only [kB, kS, kM, k49, Nat.reduceAdd, Nat.reduceLT, Nat.reduceEqDiff, ↓reduceIte, reduceCtorEq]; first | done | rfl) ?_
      refine TO_ent (Ent_frzSlot (i := 70) (id := 70) (ys := [[.pm (sEnt kF l2)]]) rfl rfl rfl) ?_
      refine fzA ?_
      refine caA ([(28, uMap kF l)]) (addC_ac 28 (by decide) (by decide) l hnd l2) ?_
      rintro rv9 st' ⟨l3, ⟨hnd3, hl3⟩, rfl⟩ <;> refine frA ?_
      try refine v49W10 ?_
      refine ⟨(q + 1, l3, c2, k2), ⟨by simp; omega, hnd3, rec_step hl htk hl3 (fun g => by rw [hl2.mem]; simp [recS, h1]), hc2, hk2⟩, by simp; omega, ?_⟩
      exact enA
    intro h1
    have h1 : ¬ rc.how = 1 := by simpa using h1
    have hOf := offered_ac d hg hN hS M N R hL i hD v hv rc hrin _ c3 r k3 hB0 hc3 hk3
    (repeat (first | refine nvB ?_ | refine goA (wr := false) (by simp only [kB, kS, kM, k49, Nat.reduceAdd, Nat.reduceLT, Nat.reduceEqDiff, ↓reduceIte, reduceCtorEq, he]; first | done | rfl) ?_))
    refine ifA ?_ ?_
    · intro h2
      have h3 : ¬ rc.how = 3 := by have : rc.how = 2 := by simpa using h2
                                   omega
      try refine v49W10 ?_
      refine ifA ?_ ?_
      rotate_left
      · intro h; rw [h2] at h; cases h
      intro _
      (repeat (first | refine nvB ?_ | refine goA (wr := false) (by simp only [kB, kS, kM, k49, Nat.reduceAdd, Nat.reduceLT, Nat.reduceEqDiff, ↓reduceIte, reduceCtorEq, he]; first | done | rfl) ?_))
      refine caA ((credSt M N R c3 r k3)) (hOf) ?_
      rintro rv9 st' ⟨l2, c2, k2, hl2, hc2, hk2, rfl, rfl⟩ <;> refine frA ?_
      refine goA (wr := false) (by simp only [kB, kS, kM, k49, Nat.reduceAdd, Nat.reduceLT, Nat.reduceEqDiff, ↓reduceIte, reduceCtorEq]; first | done | rfl) ?_
      refine TO_ent (Ent_frzSlot (i := 79) (id := 79) (ys := [[.pm (sEnt kF l2)]]) rfl rfl rfl) ?_
      refine fzA ?_
      refine caA ([(28, uMap kF l)]) (addC_ac 28 (by decide) (by decide) l hnd l2) ?_
      rintro rv9 st' ⟨l3, ⟨hnd3, hl3⟩, rfl⟩ <;> refine frA ?_
      try refine v49W10 ?_
      refine ⟨(q + 1, l3, c2, k2), ⟨by simp; omega, hnd3, rec_step hl htk hl3 (fun g => by rw [hl2.mem]; simp [recS, h1, h3]), hc2, hk2⟩, by simp; omega, ?_⟩
      exact enA
    · intro h2
      have h2 : ¬ rc.how = 2 := by simpa using h2
      (repeat (first | refine nvB ?_ | refine goA (wr := false) (by simp only [kB, kS, kM, k49, Nat.reduceAdd, Nat.reduceLT, Nat.reduceEqDiff, ↓reduceIte, reduceCtorEq, he]; first | done | rfl) ?_))
      refine ifA ?_ ?_
      · intro h4
        have h3 : ¬ rc.how = 3 := by have : rc.how = 4 := by simpa using h4
                                     omega
        (repeat (first | refine nvB ?_ | refine goA (wr := false) (by simp only [kB, kS, kM, k49, Nat.reduceAdd, Nat.reduceLT, Nat.reduceEqDiff, ↓reduceIte, reduceCtorEq, he]; first | done | rfl) ?_))
        refine caA ((credSt M N R c3 r k3)) (hOf) ?_
        rintro rv9 st' ⟨l2, c2, k2, hl2, hc2, hk2, rfl, rfl⟩ <;> refine frA ?_
        refine goA (wr := false) (by simp only [kB, kS, kM, k49, Nat.reduceAdd, Nat.reduceLT, Nat.reduceEqDiff, ↓reduceIte, reduceCtorEq]; first | done | rfl) ?_
        refine TO_ent (Ent_frzSlot (i := 79) (id := 79) (ys := [[.pm (sEnt kF l2)]]) rfl rfl rfl) ?_
        refine fzA ?_
        refine caA ([(28, uMap kF l)]) (addC_ac 28 (by decide) (by decide) l hnd l2) ?_
        rintro rv9 st' ⟨l3, ⟨hnd3, hl3⟩, rfl⟩ <;> refine frA ?_
        try refine v49W10 ?_
        refine ⟨(q + 1, l3, c2, k2), ⟨by simp; omega, hnd3, rec_step hl htk hl3 (fun g => by rw [hl2.mem]; simp [recS, h1, h3]), hc2, hk2⟩, by simp; omega, ?_⟩
        exact enA
      · intro h4
        have h4 : ¬ rc.how = 4 := by simpa using h4
        try refine v49W10 ?_
        refine ⟨(q + 1, l, c3, k3), ⟨by simp; omega, hnd, rec_none hl htk (by omega), hc3, hk3⟩, by simp; omega, ?_⟩
        exact enA
end Go.Proofs.YtbllfnmabmamfaaGreatDoor
