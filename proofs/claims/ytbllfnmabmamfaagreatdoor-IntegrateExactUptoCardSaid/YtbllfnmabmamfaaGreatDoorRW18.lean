/- A part of the proof. -/
import Derived.Test.YtbllfnmabmamfaaGreatDoorRBd2
import Derived.Test.YtbllfnmabmamfaaGreatDoorRW13
import Derived.Test.YtbllfnmabmamfaaGreatDoorRW12
import Derived.Test.YtbllfnmabmamfaaGreatDoorRU10
import Derived.Test.YtbllfnmabmamfaaGreatDoorRT8
import Derived.Test.YtbllfnmabmamfaaGreatDoorRR2a
import Derived.Test.YtbllfnmabmamfaaGreatDoorRH8
import Derived.Test.YtbllfnmabmamfaaGreatDoorRP17
import Derived.Test.YtbllfnmabmamfaaGreatDoorQU11
set_option linter.all false
namespace Go.Proofs.YtbllfnmabmamfaaGreatDoor
open Go.Ab
section
variable {d : Dep} (hg : Good d.revs) (hS : SrcOK d)
include hg hS
theorem cre_SA {k : Nat} {v : Rev} (hv : d.revs[k]? = some v) (h5 : ¬ v.act = 5) (g : Fil) : (SA d (fileOf v)).cre g ↔
    (SA d (befF v)).cre g ∨ (∃ r ∈ intoR d (fileOf v), r.how = 3 ∧ ∃ n, r.first ≤ n ∧ n ≤ r.last ∧ (SA d ⟨r.frm, n⟩).con g) ∨ (SA d (fileOf v)).car g := by
  have hc := carS_SA hg hS hv h5 g
  have h0 := SA_step hg hv h5
  have e1 : (SA d (fileOf v)).car g ↔ carS (intoR d (fileOf v)) (specA d k) (befF v) (fileOf v) g := by rw [h0]; rfl
  rw [e1]
  conv => lhs; rw [h0]
  show (specA d k (befF v)).cre g ∨ _ ∨ _ ↔ _
  rw [SA_bef hg hv h5]
  refine or_congr Iff.rfl (or_congr ?_ Iff.rfl)
  refine exists_congr fun r => and_congr_right fun hr => and_congr_right fun _ => exists_congr fun n => and_congr_right fun n1 => and_congr_right fun n2 => ?_
  rw [src_spec hg hS hv hr n1 n2]
end
end Go.Proofs.YtbllfnmabmamfaaGreatDoor
namespace Go.Proofs.YtbllfnmabmamfaaGreatDoor
open Go.Ab
section
variable {d : Dep} (hg : Good d.revs) (hN : d.revs.length ≤ 512)
include hg hN
open Classical in
theorem rem_take {v : Rev} {p : Nat} (t : Fil) (hp : (lnP d (first d v))[p]? = some v) : remL d v t = (((lnP d (first d v)).take (p + 1)).filter fun u => decide (Open d t u)).map fileOf := by
  have hpl := (List.getElem?_eq_some_iff.1 hp).1
  have hpr := line_pair hg hN (first d v)
  have e1 : remL d v t = (((lnP d (first d v)).filter fun u => decide (u.chg ≤ v.chg)).filter fun u => decide (Open d t u)).map fileOf := by
    rw [remL, lnP_line hg hN, List.filter_filter, List.filter_filter]
    congr 1
    apply List.filter_congr
    intro u _
    rw [Bool.eq_iff_iff]
    simp only [decide_eq_true_eq, Bool.and_eq_true]
    constructor
    · rintro ⟨a, b, c, e⟩; exact ⟨⟨e, c⟩, a, b⟩
    · rintro ⟨⟨e, c⟩, a, b⟩; exact ⟨a, b, c, e⟩
  rw [e1]
  congr 2
  generalize lnP d (first d v) = l at hp hpl hpr
  have hsp : l = l.take (p + 1) ++ l.drop (p + 1) := (List.take_append_drop _ _).symm
  conv => lhs; rw [hsp]
  rw [List.filter_append]
  have a1 : (l.take (p + 1)).filter (fun u => decide (u.chg ≤ v.chg)) = l.take (p + 1) := by
    rw [List.filter_eq_self]
    intro u hu
    obtain ⟨i, hi⟩ := List.getElem?_of_mem hu
    have hil : i < p + 1 := by have := (List.getElem?_eq_some_iff.1 hi).1; simp at this; omega
    rw [List.getElem?_take, if_pos hil] at hi
    simp only [decide_eq_true_eq]
    by_cases e : i = p
    · subst e; rw [hp] at hi; cases hi; omega
    · obtain ⟨q1, q2⟩ := List.getElem?_eq_some_iff.1 hi
      have := (List.pairwise_iff_getElem.1 hpr) i p q1 hpl (by omega)
      rw [q2, (List.getElem?_eq_some_iff.1 hp).2] at this
      omega
  have a2 : (l.drop (p + 1)).filter (fun u => decide (u.chg ≤ v.chg)) = [] := by
    rw [List.filter_eq_nil_iff]
    intro u hu h
    simp only [decide_eq_true_eq] at h
    obtain ⟨i, hi⟩ := List.getElem?_of_mem hu
    rw [List.getElem?_drop] at hi
    obtain ⟨q1, q2⟩ := List.getElem?_eq_some_iff.1 hi
    have := (List.pairwise_iff_getElem.1 hpr) p (p + 1 + i) hpl q1 (by omega)
    rw [q2, (List.getElem?_eq_some_iff.1 hp).2] at this
    omega
  rw [a1, a2, List.append_nil]
end
end Go.Proofs.YtbllfnmabmamfaaGreatDoor
namespace Go.Proofs.YtbllfnmabmamfaaGreatDoor
open Go.Ab Tys
theorem cre_zero {d : Dep} (hg : Good d.revs) {v : Rev} (h1 : v.act = 1) (g : Fil) : ¬ (SA d (befF v)).cre g := by
  have e : befF v = zFil := by simp [befF, h1]
  rw [e, SA_zero hg]; exact fun h => h
def ignS (d : Dep) (rc : Rcd) (g : Fil) : Prop := rc.how = 3 ∧ offS d rc g
theorem ign_step {d : Dep} {rs : List Rcd} {q : Nat} {rc : Rcd} {l l1 l2 l3 : List Fil} (hl : ∀ g, g ∈ l ↔ g ∈ l1 ∨ ∃ rc ∈ rs.take q, ignS d rc g) (htk : rs.take (q + 1) = rs.take q ++ [rc]) (hl3 : ∀ g, g ∈ l3 ↔ g ∈ l ∨ g ∈ l2) (hl2 : ∀ g, g ∈ l2 ↔ ignS d rc g) :
    ∀ g, g ∈ l3 ↔ g ∈ l1 ∨ ∃ rc ∈ rs.take (q + 1), ignS d rc g := by
  intro g
  rw [hl3 g, hl g, hl2 g, htk]
  constructor
  · rintro ((h | ⟨r, h1, h2⟩) | h)
    · exact .inl h
    · exact .inr ⟨r, by simp [h1], h2⟩
    · exact .inr ⟨rc, by simp, h⟩
  · rintro (h | ⟨r, h1, h2⟩)
    · exact .inl (.inl h)
    · rcases List.mem_append.1 h1 with h1 | h1
      · exact .inl (.inr ⟨r, h1, h2⟩)
      · simp at h1; subst h1; exact .inr h2
theorem ign_none {d : Dep} {rs : List Rcd} {q : Nat} {rc : Rcd} {l l1 : List Fil} (hl : ∀ g, g ∈ l ↔ g ∈ l1 ∨ ∃ rc ∈ rs.take q, ignS d rc g) (htk : rs.take (q + 1) = rs.take q ++ [rc]) (h3 : ¬ rc.how = 3) :
    ∀ g, g ∈ l ↔ g ∈ l1 ∨ ∃ rc ∈ rs.take (q + 1), ignS d rc g :=
  ign_step (l2 := []) hl htk (fun g => by simp) (fun g => by simp [ignS, h3])
def CreC (d : Dep) (M : List (Fil × Rev)) (N : List (ByteArray × List Int)) (R : List (Fil × List Rcd)) (i : Nat) : Prop :=
  ∀ v, d.revs[i]? = some v → ¬ v.act = 5 → ∀ (B : Fil → Prop) (c r k : CM), Bi d i B → CMap (fun f => (SA d f).car) noB c → CMap (fun f => (SA d f).cre) B r → CMap (fun f => (SA d f).con) noB k →
    AC Tryz.prog 56 [.c (.ptr 1200 0), aFil (fileOf v)] (credSt M N R c r k) (fun x st => ∃ (l : List Fil) (c' r' k' : CM), IsS l (SA d (fileOf v)).cre ∧ CMap (fun f => (SA d f).car) noB c' ∧ CMap (fun f => (SA d f).cre) B r' ∧ CMap (fun f => (SA d f).con) noB k' ∧ x = .c (.d (.pm (sEnt kF l))) ∧ st = credSt M N R c' r' k')
def k56 := And.intro @Tryz.ntmps56 <| And.intro @Tryz.underlying28 <| And.intro @bld180 <| And.intro @bld37 <| And.intro @bld76 <| And.intro @elt229 <| And.intro @elt28 <| And.intro @fld180_2 <| And.intro @fld180_4 <| And.intro @fld76_5 <| And.intro @kyt37 <| And.intro @mpt177 <| And.intro @mpt178 <| And.intro @mpt181 <| And.intro @ti177 <| And.intro @ti178 <| And.intro @ti180 <| And.intro @ti181 <| And.intro @ti229 <| And.intro @ti28 <| And.intro @ti3 <| And.intro @ti37 <| And.intro @ti4 <| @ti76
theorem v56W17 {G G' : Prop} (g : G') (h : Hid G' → G := by intro h9; (first | refine nvB ?_ | refine goA (wr := false) (by simp only [kB, kS, kM, k56, Nat.reduceAdd, Nat.reduceLT, Nat.reduceEqDiff, ↓reduceIte, reduceCtorEq]; first | done | rfl) ?_); (repeat (first | refine nvB ?_ | refine goA (wr := false) (by simp only [kB, kS, kM, k56, Nat.reduceAdd, Nat.reduceLT, Nat.reduceEqDiff, ↓reduceIte, reduceCtorEq]; first | done | rfl) ?_)); exact h9.out) : G := h ⟨g⟩
set_option maxRecDepth 100000 in
set_option maxHeartbeats 32000000 in
theorem credited_step (d : Dep) (hg : Good d.revs) (hN : d.revs.length ≤ 512) (hm : d.recs.length ≤ 512) (hS : SrcOK d) (M : List (Fil × Rev)) (N : List (ByteArray × List Int)) (R : List (Fil × List Rcd)) (hL : CredOK d M N R) (i : Nat) (hC : ∀ j, j < i → CreC d M N R j) : CreC d M N R i := by
  intro v hv h5 B c r k hB hc hr hk
  have hn := hg.num i v hv
  have hil := (List.getElem?_eq_some_iff.1 hv).1
  have hMv : alook M (fileOf v) = some v := by rw [hL.M]; exact alook_memL_get hg hv h5
  have hnB : ∀ j, Bi d j noB := fun j f h => h.elim
  have hD : ∀ j, j < i → ConC d M N R j := fun j _ => contrib_ac d hg hN hm hS M N R hL j
  cases hkv : alook r (fileOf v) with
  | some o =>
    obtain ⟨l, rfl, hl⟩ := (hr.ok _ _ hkv).resolve_left (hB.no hv)
    have hkv' : alook r ⟨v.path, v.num⟩ = some (some l) := hkv
    refine AC_enter Tryz.func56 rfl rfl (by simp only [Tryz.ntmps56, List.length]; omega) ?_
    intro x hx
    simp only [List.range, List.range.loop, List.length, List.zip, List.zipWith, Nat.reduceAdd, Tryz.ntmps56]
    simp only [fileOf]
    try refine v56W17 ?_
    refine drA (wr := false) ([] : List (Nat × AV)) (by simp only [kD, kB, kS, kM, k56, Nat.reduceAdd, Nat.reduceLT, Nat.reduceEqDiff, ↓reduceIte, reduceCtorEq, look_S, hkv', Option.map_some, Option.getD, Option.isSome, dSet]; first | done | rfl) ?_ ?_
    · exact obF ty_S
    try refine v56W17 ?_
    refine ifA ?_ ?_
    rotate_left
    · intro h; cases h
    intro _
    try refine v56W17 ?_
    refine rtA (by simp only [kR, Tryz.results56, ↓reduceIte, Nat.reduceEqDiff, reduceCtorEq]; first | done | rfl) ((credSt M N R c r k)) ?_
    exact ⟨l, c, r, k, hl, hc, hr, hk, rfl, rfl⟩
  | none =>
    have hkv' : alook r ⟨v.path, v.num⟩ = none := hkv
    have hP := fun c r k => previousC_ac M N R c r k v hMv (by omega) (fun h1 => by
      obtain ⟨j, u, _, h2, h3, h4⟩ := bef_ex hg hN hv h1
      exact ⟨u, by rw [hL.M, h3]; exact alook_memL_get hg h2 h4⟩)
    have hrl := intoR_len hm (fileOf v)
    have hr0 := hr.begin (fileOf v)
    have hB0 : ∀ j, j < i → Bi d j (fun f => B f ∨ f = fileOf v) := fun j hj => hB.begin hg hv hj
    have hcre := cre_SA hg hS hv h5
    have hsrc := hS i v hv
    have hRv : (alook R ⟨v.path, v.num⟩).getD [] = intoR d (fileOf v) := hL.R (fileOf v)
    have hCar := fun c r k hc hk => carried_ac d hg hN hm hS M N R hL i v hv h5 noB c r k (hnB i) hc hk
    refine AC_enter Tryz.func56 rfl rfl (by simp only [Tryz.ntmps56, List.length]; omega) ?_
    intro x hx
    simp only [List.range, List.range.loop, List.length, List.zip, List.zipWith, Nat.reduceAdd, Tryz.ntmps56]
    simp only [fileOf]
    try refine v56W17 ?_
    refine drA (wr := false) ([] : List (Nat × AV)) (by simp only [kD, kB, kS, kM, k56, Nat.reduceAdd, Nat.reduceLT, Nat.reduceEqDiff, ↓reduceIte, reduceCtorEq, look_S, hkv', Option.map_none, Option.getD, Option.isSome]; first | done | rfl) ?_ ?_
    · exact obF ty_S
    try refine v56W17 ?_
    refine ifA ?_ ?_
    · intro h; cases h
    intro _
    try refine v56W17 ?_
    refine drA (wr := false) ([] : List (Nat × AV)) (by simp only [kD, kB, kS, kM, k56, Nat.reduceAdd, Nat.reduceLT, Nat.reduceEqDiff, ↓reduceIte, reduceCtorEq, ins_S0]; first | done | rfl) ?_ ?_
    · exact obF ty_S
    change CMap _ _ (aput r ⟨v.path, v.num⟩ none) at hr0
    generalize aput r ⟨v.path, v.num⟩ none = r0 at hr0 ⊢
    try refine v56W17 ?_
    refine caA ((credSt M N R c r0 k)) (hP c r0 k) ?_
    rintro rv9 st' ⟨rfl, rfl⟩ <;> refine frA ?_
    try refine v56W17 ?_
    refine T_joinE (ι := List Fil × CM × CM × CM) (fun j => ⟨76, [(0, .c (.ptr 1200 0)), (3, .c (.ptr 3 0)), (7, .c (.mp 28))], credSt M N R j.2.1 j.2.2.1 j.2.2.2 ++ [(3, .box ((encFil ⟨v.path, v.num⟩).map C.d)), (28, uMap kF j.1)]⟩)
      (fun j => j.1.Nodup ∧ (∀ g, g ∈ j.1 ↔ (SA d (befF v)).cre g) ∧ CMap (fun f => (SA d f).car) noB j.2.1 ∧ CMap (fun f => (SA d f).cre) (fun f => B f ∨ f = fileOf v) j.2.2.1 ∧ CMap (fun f => (SA d f).con) noB j.2.2.2) ?_ ?_
    · refine ifA ?_ ?_
      · intro h1
        have h1 : ¬ v.act = 1 := by simpa using h1
        obtain ⟨j, u, j1, j2, j3, j4⟩ := bef_ex hg hN hv h1
        have hCu := hC j j1 u j2 j4 _ c r0 k (hB0 j j1) hc hr0 hk
        rw [← j3] at hCu
        try refine v56W17 ?_
        refine caA ((credSt M N R c r0 k)) (hCu) ?_
        rintro rv9 st' ⟨l2, c2, r2, k2, hl2, hc2, hr2, hk2, rfl, rfl⟩ <;> refine frA ?_
        refine goA (wr := false) (by simp only [kB, kS, kM, k56, Nat.reduceAdd, Nat.reduceLT, Nat.reduceEqDiff, ↓reduceIte, reduceCtorEq]; first | done | rfl) ?_
        refine TO_ent (Ent_frzSlot (i := 40) (id := 40) (ys := [[.pm (sEnt kF l2)]]) rfl rfl rfl) ?_
        refine fzA ?_
        refine TO_call ([(28, uMap kF [])]) (by simp) (by simp only [kV, ↓reduceIte, Nat.reduceEqDiff, reduceCtorEq]; first | done | rfl) ⟨by simp [Ab.get, uMap, sEnt, clPs], by simp [clAO, cl_f1, cl_s1, cl_f2, cl_s2, cl_a1, flat_up, clCs, clC, domOf, Ab.get, uMap, sEnt, clPs], by simp [clAV, clC, clCs, domOf, Ab.get, uMap, sEnt, clPs]⟩ (addC_ac 28 (by decide) (by decide) [] .nil l2) ?_
        rintro rv9 st' ⟨l3, ⟨hnd3, hl3⟩, rfl⟩ <;> (refine ⟨by simp [Fresh, domOf, Ab.get], ?_⟩; simp only [kP, Nat.reduceEqDiff, ↓reduceIte, reduceCtorEq, List.cons_append, List.nil_append])
        try refine v56W17 ?_
        refine ⟨rfl, (l3, c2, r2, k2), ⟨hnd3, fun g => ?_, hc2, hr2, hk2⟩, ?_⟩
        · rw [hl3 g, hl2.mem]; simp
        · exact enA
      · intro h1
        have h1 : v.act = 1 := by simpa using h1
        try refine v56W17 ?_
        refine ⟨rfl, ([], c, r0, k), ⟨.nil, fun g => ?_, hc, hr0, hk⟩, ?_⟩
        · exact ⟨fun h => by simp at h, fun h => (cre_zero hg h1 g h).elim⟩
        · exact enA
    rintro ⟨l, c1, r1, k1⟩ ⟨hnd, hl, hc1, hr1, hk1⟩
    simp only at hnd hl hc1 hr1 hk1 ⊢
    have hCv := hCar c1 r1 k1 hc1 hk1
    try refine v56W17 ?_
    refine caA ((credSt M N R c1 r1 k1)) (hCv) ?_
    rintro rv9 st' ⟨l2, c2, k2, hl2, hc2, hk2, rfl, rfl⟩ <;> refine frA ?_
    refine goA (wr := false) (by simp only [kB, kS, kM, k56, Nat.reduceAdd, Nat.reduceLT, Nat.reduceEqDiff, ↓reduceIte, reduceCtorEq]; first | done | rfl) ?_
    refine TO_ent (Ent_frzSlot (i := 46) (id := 46) (ys := [[.pm (sEnt kF l2)]]) rfl rfl rfl) ?_
    refine fzA ?_
    refine caA ([(28, uMap kF l)]) (addC_ac 28 (by decide) (by decide) l hnd l2) ?_
    rintro rv9 st' ⟨l3, ⟨hnd3, hl3⟩, rfl⟩ <;> refine frA ?_
    try refine v56W17 ?_
    have hl3' : ∀ g, g ∈ l3 ↔ (SA d (befF v)).cre g ∨ (SA d (fileOf v)).car g := fun g => by rw [hl3 g, hl g, hl2.mem]
    clear hl3
    generalize hrs : intoR d (fileOf v) = rs at hrl hcre hsrc hRv
    refine nvA ?_
    refine T_join ⟨76, [(0, .c (.ptr 1200 0)), (3, .c (.ptr 3 0)), (7, .c (.mp 28)), (53, .c (.d (.ps 6 (rs.map encRcd)))), (54, I .i64 rs.length), (55, I .i64 0)], credSt M N R c2 r1 k2 ++ [(3, .box ((encFil ⟨v.path, v.num⟩).map C.d)), (28, uMap kF l3)]⟩ ?_ ?_
    · cases hkR : alook R ⟨v.path, v.num⟩ with
      | none =>
        rw [hkR] at hRv
        simp only [Option.getD] at hRv
        subst hRv
        refine drA (wr := false) ([] : List (Nat × AV)) (by simp only [kD, kB, kS, kM, k56, Nat.reduceAdd, Nat.reduceLT, Nat.reduceEqDiff, ↓reduceIte, reduceCtorEq, look_Rc, hkR, Option.map_none, Option.getD]; first | done | rfl) ?_ ?_
        · exact obF ty_Rc
        refine ⟨rfl, Ent.trans (Ent_nilSlot (i := 53) 6 rfl) ?_⟩
        refine fzA ?_
        exact enA
      | some rs' =>
        rw [hkR] at hRv
        simp only [Option.getD] at hRv
        subst hRv
        refine drA (wr := false) ([] : List (Nat × AV)) (by simp only [kD, kB, kS, kM, k56, Nat.reduceAdd, Nat.reduceLT, Nat.reduceEqDiff, ↓reduceIte, reduceCtorEq, look_Rc, hkR, Option.map_some, Option.getD]; first | done | rfl) ?_ ?_
        · exact obF ty_Rc
        refine ⟨rfl, ?_⟩
        exact enA
    refine nvA ?_
    refine T_loop (ι := Nat × List Fil × CM × CM) (I := fun j => ⟨76, [(0, .c (.ptr 1200 0)), (3, .c (.ptr 3 0)), (7, .c (.mp 28)), (53, .c (.d (.ps 6 (rs.map encRcd)))), (54, I .i64 rs.length), (55, I .i64 j.1)], credSt M N R j.2.2.1 r1 j.2.2.2 ++ [(3, .box ((encFil ⟨v.path, v.num⟩).map C.d)), (28, uMap kF j.2.1)]⟩)
      (Inv := fun j => j.1 ≤ rs.length ∧ j.2.1.Nodup ∧ (∀ g, g ∈ j.2.1 ↔ g ∈ l3 ∨ ∃ rc ∈ rs.take j.1, ignS d rc g) ∧ CMap (fun f => (SA d f).car) noB j.2.2.1 ∧ CMap (fun f => (SA d f).con) noB j.2.2.2) (μ := fun j => rs.length - j.1) (0, l3, c2, k2) ⟨by simp, hnd3, by simp, hc2, hk2⟩ ?_ ?_
    · exact enA
    rintro ⟨q, l, c3, k3⟩ ⟨hq, hnd, hl, hc3, hk3⟩
    simp only at hq hnd hl hc3 hk3 ⊢
    try refine v56W17 ?_
    refine ifA ?_ ?_
    rotate_left
    · intro hge
      have hge' : q = rs.length := by have : ¬ q < rs.length := by simpa using hge
                                      omega
      subst hge'
      rw [List.take_length] at hl
      have hfin : IsS l (SA d (fileOf v)).cre := ⟨hnd, fun g => by
        rw [hl g, hl3' g, hcre g]
        constructor
        · rintro ((h | h) | ⟨rc, h1, h2, h3⟩)
          · exact .inl h
          · exact .inr (.inr h)
          · exact .inr (.inl ⟨rc, h1, h2, h3⟩)
        · rintro (h | ⟨rc, h1, h2, h3⟩ | h)
          · exact .inl (.inl h)
          · exact .inr ⟨rc, h1, h2, h3⟩
          · exact .inl (.inr h)⟩
      refine T_ent (Ent_frzMapSlot (i := 7) (id := 28) rfl rfl) ?_
      refine fzA ?_
      try refine v56W17 ?_
      refine drA (wr := false) ([] : List (Nat × AV)) (by simp only [kD, kB, kS, kM, k56, Nat.reduceAdd, Nat.reduceLT, Nat.reduceEqDiff, ↓reduceIte, reduceCtorEq, ins_S]; first | done | rfl) ?_ ?_
      · exact obF ty_S
      try refine v56W17 ?_
      refine rtA (by simp only [kR, Tryz.results56, ↓reduceIte, Nat.reduceEqDiff, reduceCtorEq]; first | done | rfl) ((credSt M N R c3 (aput r1 ⟨v.path, v.num⟩ (some l)) k3)) ?_
      exact ⟨l, c3, _, k3, hfin, hc3, hr1.done hfin, hk3, rfl, rfl⟩
    intro hlt
    have hlt' : q < rs.length := by simpa using hlt
    obtain ⟨rc, hrc, he, htk⟩ := round encRcd rs q zRcd hlt'
    have hrin : rc ∈ intoR d (fileOf v) := by rw [hrs]; exact List.mem_of_getElem? hrc
    (repeat (first | refine nvB ?_ | refine goA (wr := false) (by simp only [kB, kS, kM, k56, Nat.reduceAdd, Nat.reduceLT, Nat.reduceEqDiff, ↓reduceIte, reduceCtorEq, he]; first | done | rfl) ?_))
    refine ifA ?_ ?_
    · intro h1
      have h1 : rc.how = 3 := by simpa using h1
      have hOf := offered_ac d hg hN hS M N R hL i hD v hv rc hrin noB c3 r1 k3 (fun j _ => hnB j) hc3 hk3
      (repeat (first | refine nvB ?_ | refine goA (wr := false) (by simp only [kB, kS, kM, k56, Nat.reduceAdd, Nat.reduceLT, Nat.reduceEqDiff, ↓reduceIte, reduceCtorEq, he]; first | done | rfl) ?_))
      refine caA ((credSt M N R c3 r1 k3)) (hOf) ?_
      rintro rv9 st' ⟨l2, c2, k2, hl2, hc2, hk2, rfl, rfl⟩ <;> refine frA ?_
      refine goA (wr := false) (by simp only [kB, kS, kM, k56, Nat.reduceAdd, Nat.reduceLT, Nat.reduceEqDiff, ↓reduceIte, reduceCtorEq]; first | done | rfl) ?_
      refine TO_ent (Ent_frzSlot (i := 66) (id := 66) (ys := [[.pm (sEnt kF l2)]]) rfl rfl rfl) ?_
      refine fzA ?_
      refine caA ([(28, uMap kF l)]) (addC_ac 28 (by decide) (by decide) l hnd l2) ?_
      rintro rv9 st' ⟨l4, ⟨hnd4, hl4⟩, rfl⟩ <;> refine frA ?_
      try refine v56W17 ?_
      refine ⟨(q + 1, l4, c2, k2), ⟨by simp; omega, hnd4, ign_step hl htk hl4 (fun g => by rw [hl2.mem]; simp [ignS, h1]), hc2, hk2⟩, by simp; omega, ?_⟩
      exact enA
    intro h1
    have h1 : ¬ rc.how = 3 := by simpa using h1
    try refine v56W17 ?_
    refine ⟨(q + 1, l, c3, k3), ⟨by simp; omega, hnd, ign_none hl htk h1, hc3, hk3⟩, by simp; omega, ?_⟩
    exact enA
theorem credited_ac (d : Dep) (hg : Good d.revs) (hN : d.revs.length ≤ 512) (hm : d.recs.length ≤ 512) (hS : SrcOK d) (M : List (Fil × Rev)) (N : List (ByteArray × List Int)) (R : List (Fil × List Rcd)) (hL : CredOK d M N R) (i : Nat) : CreC d M N R i := by
  induction i using Nat.strongRecOn with
  | _ i ih => exact credited_step d hg hN hm hS M N R hL i ih
def k24 := And.intro @Tryz.ntmps24 <| And.intro @bld30 <| @ti30
theorem v24W17 {G G' : Prop} (g : G') (h : Hid G' → G := by intro h9; (first | refine nvB ?_ | refine goA (wr := false) (by simp only [kB, k24, Nat.reduceAdd, Nat.reduceLT, Nat.reduceEqDiff, ↓reduceIte, reduceCtorEq]; first | done | rfl) ?_); (repeat (first | refine nvB ?_ | refine goA (wr := false) (by simp only [kB, k24, Nat.reduceAdd, Nat.reduceLT, Nat.reduceEqDiff, ↓reduceIte, reduceCtorEq]; first | done | rfl) ?_)); exact h9.out) : G := h ⟨g⟩
set_option maxRecDepth 100000 in
set_option maxHeartbeats 4000000 in
theorem Credited_ac (d : Dep) (hg : Good d.revs) (hN : d.revs.length ≤ 512) (hm : d.recs.length ≤ 512) (hS : SrcOK d) (hL : ListC d) (hF : ∀ f g, (SA d f).cre g → ∃ u ∈ d.revs, fileOf u = g) (i : Nat) (v : Rev) (hv : d.revs[i]? = some v) (h5 : ¬ v.act = 5) :
    AC Tryz.prog 24 [aDep d, Str v.path, I .i64 v.num] [] (fun x st => (∃ l, (∀ g, g ∈ l ↔ (SA d (fileOf v)).cre g) ∧ l.length ≤ 512 ∧ x = .tup [pFilsC l, pI 0]) ∧ st = []) := by
  have hC := compute_ac d hg hN hm hL i v hv h5 56 (SA d (fileOf v)).cre (hF _) (fun M N R hM => (credited_ac d hg hN hm hS M N R hM i v hv h5 noB [] [] [] (fun f h => h.elim) ⟨by simp [alook]⟩ ⟨by simp [alook]⟩ ⟨by simp [alook]⟩).mono fun x st ⟨l, c, r, k, h1, _, _, _, h4, h6⟩ => ⟨l, c, r, k, h1, h4, h6⟩)
  refine AC_enter Tryz.func24 rfl rfl (by simp only [Tryz.ntmps24, List.length]; omega) ?_
  intro x hx
  simp only [List.range, List.range.loop, List.length, List.zip, List.zipWith, Nat.reduceAdd, Tryz.ntmps24]
  try refine v24W17 ?_
  refine caA [] (hC) ?_
  rintro r st' ⟨⟨l, h1, h2, rfl⟩, rfl⟩ <;> refine frA ?_
  try refine v24W17 ?_
  refine rtA (by simp only [kR, Tryz.results24, ↓reduceIte, Nat.reduceEqDiff, reduceCtorEq]; first | done | rfl) ([]) ?_
  refine ⟨?_, rfl⟩
  exact ⟨l, h1, h2, rfl⟩
end Go.Proofs.YtbllfnmabmamfaaGreatDoor
namespace Go.Proofs.YtbllfnmabmamfaaGreatDoor
open Go.Ab Tys
theorem remS_some9 {d : Dep} {s t : Fil} {l : List Fil} (h : remS d s t = some l) : ∃ v w, member? d s.path s.num = some v ∧ member? d t.path t.num = some w ∧ l = remL d v t := by
  unfold remS at h
  split at h
  · rename_i v w h1 h2
    exact ⟨v, w, h1, h2, by simpa using h.symm⟩
  · cases h
@[reducible] def stE (s t : Fil) (d : Dep) (f : Fil) : List (Nat × AO) := [(4, .box ((encFil s).map C.d)), (5, .box ((encFil t).map C.d)), (7, .box ((encDep d).map C.d)), (12, .box ((encFil f).map C.d))]
open Classical in
noncomputable def cntO (d : Dep) (t : Fil) (l : List Rev) (k : Nat) : Nat := ((l.take k).filter fun u => decide (Open d t u)).length
section
variable {d : Dep} {t : Fil} {l : List Rev} {k : Nat} {u : Rev}
theorem cntO_le (n : Nat) (hl : l.length ≤ n) : cntO d t l k ≤ n := by
  unfold cntO
  have h1 := List.length_filter_le (fun u => @decide (Open d t u) (Classical.propDecidable _)) (l.take k)
  have h2 : (l.take k).length ≤ l.length := by simp; omega
  omega
theorem cntO_yes (htk : l.take (k + 1) = l.take k ++ [u]) (h : Open d t u) : cntO d t l (k + 1) = cntO d t l k + 1 := by
  simp [cntO, htk, List.filter_append, h]
theorem cntO_no (htk : l.take (k + 1) = l.take k ++ [u]) (h : ¬ Open d t u) : cntO d t l (k + 1) = cntO d t l k := by
  simp [cntO, htk, List.filter_append, h]
open Classical in
theorem cntO_at {p : Nat} (hp : k ≤ p) (hpl : p < l.length) (hu : l[k]? = some u) (h : Open d t u) :
    (((l.take (p + 1)).filter fun u => decide (Open d t u)).map fileOf)[cntO d t l k]? = some (fileOf u) := by
  have hs : l.take (p + 1) = l.take k ++ u :: (l.take (p + 1)).drop (k + 1) := by
    have hk : k < (l.take (p + 1)).length := by simp; omega
    have e0 : (l.take (p + 1))[k]? = some u := by rw [List.getElem?_take, if_pos (by omega)]; exact hu
    have e1 := List.take_append_drop k (l.take (p + 1))
    rw [List.drop_eq_getElem_cons hk, List.take_take, Nat.min_eq_left (by omega), (List.getElem?_eq_some_iff.1 e0).2] at e1
    exact e1.symm
  rw [hs, List.filter_append, List.filter_cons, if_pos (decide_eq_true h), List.map_append, List.map_cons]
  rw [List.getElem?_append_right (by simp [cntO])]
  simp [cntO]
end
def k6 := And.intro @Tryz.ntmps6 <| And.intro @Tryz.underlying27 <| And.intro @Tryz.underlying65 <| And.intro @Tryz.underlying9 <| And.intro @bld30 <| And.intro @bld37 <| And.intro @bld46 <| And.intro @elt27 <| And.intro @elt65 <| And.intro @eqt37 <| And.intro @fld37_0 <| And.intro @fld37_1 <| And.intro @fld46_0 <| And.intro @fld46_1 <| And.intro @kyt37 <| And.intro @mpt68 <| And.intro @ti27 <| And.intro @ti3 <| And.intro @ti30 <| And.intro @ti37 <| And.intro @ti4 <| And.intro @ti46 <| And.intro @ti65 <| And.intro @ti68 <| @ti9
theorem v6W18 {G G' : Prop} (g : G') (h : Hid G' → G := by intro h9; (first | refine nvB ?_ | refine goA (wr := false) (by simp only [kB, kG, kS, kM, k6, Nat.reduceAdd, Nat.reduceLT, Nat.reduceEqDiff, ↓reduceIte, reduceCtorEq]; first | done | rfl) ?_); (repeat (first | refine nvB ?_ | refine goA (wr := false) (by simp only [kB, kG, kS, kM, k6, Nat.reduceAdd, Nat.reduceLT, Nat.reduceEqDiff, ↓reduceIte, reduceCtorEq]; first | done | rfl) ?_)); exact h9.out) : G := h ⟨g⟩
set_option maxRecDepth 100000 in
set_option maxHeartbeats 32000000 in
theorem exactL_ac (hL : ∀ d, Good d.revs → d.revs.length ≤ 512 → PathOK d → ListC d) (l : List Chg) (hf : Few l) (s t : Fil) (hs : s.path.size ≤ 2000000) (ht : t.path.size ≤ 2000000) :
    AC Tryz.prog 6 [.c (.d (.ps 5 (l.map encChg))), aFil s, aFil t] [] (fun r st => r = B true ∧ st = []) := by
  have haw := awake_ac
  refine AC_enter Tryz.func6 rfl rfl (by simp only [Tryz.ntmps6, List.length]; omega) ?_
  intro x hx
  simp only [List.range, List.range.loop, List.length, List.zip, List.zipWith, Nat.reduceAdd, Tryz.ntmps6]
  try refine v6W18 ?_
  refine caA [] (small_ac l hf) ?_
  rintro r st' ⟨⟨b, rfl, hb⟩, rfl⟩ <;> refine frA ?_
  try refine v6W18 ?_
  refine ifA ?_ ?_
  · intro _
    (repeat (first | refine v6W18 ?_ | (refine caA [] (haw) ?_; rintro r st' ⟨rfl, rfl⟩; refine frA ?_)))
    refine rtA (by simp only [kR, Tryz.results6, ↓reduceIte, Nat.reduceEqDiff, reduceCtorEq]; first | done | rfl) ([]) ?_
    refine ⟨?_, rfl⟩
    rfl
  intro hc
  have hb1 : b = true := by cases b <;> simp_all
  obtain ⟨b1, b2, b3⟩ := hb hb1
  try refine v6W18 ?_
  refine caA [] (build_ac l (by omega) (sC_ok b2 b3)) ?_
  rintro r st' ⟨⟨d, rfl, hB⟩, rfl⟩ <;> refine frA ?_
  obtain ⟨o1, o2, o3⟩ := hB.ok
  have hg := hB.good
  have hR := Remaining_ac d hg o1 o2 s t
  cases hrs : remS d s t with
  | none =>
    rw [← remA_none hrs] at hR
    (repeat (first | refine v6W18 ?_ | (refine caA [] (hR) ?_; rintro r st' ⟨rfl, rfl⟩; refine frA ?_)))
    refine ifA ?_ ?_
    rotate_left
    · intro h; simp at h
    intro _
    try refine v6W18 ?_
    refine TO_stepO (wr := false) ([(58, B true)] : List (Nat × AV)) rfl (by simp only [kD, kB, kG, kS, kM, k6, Nat.reduceAdd, Nat.reduceLT, Nat.reduceEqDiff, ↓reduceIte, reduceCtorEq]; first | done | rfl) ?_ ?_
    · simp only [All, List.cons_append, List.nil_append, InR, List.mem_cons, List.not_mem_nil, or_false, forall_eq_or_imp, forall_eq, clAV, clCs, clC, clCaps, clCap, and_true, true_and, implies_true, List.length_map, List.length_cons, List.length_nil, dArr, cl_arr, tyCs]
      repeat' (first | exact trivial | exact haw | refine And.intro ?_ ?_ | intro _ | assumption | rfl | omega | (simp; done) | (simp_all; done))
    simp only [kP, Nat.reduceEqDiff, ↓reduceIte, reduceCtorEq]
    try refine v6W18 ?_
    refine rtA (by simp only [kR, Tryz.results6, ↓reduceIte, Nat.reduceEqDiff, reduceCtorEq]; first | done | rfl) ([]) ?_
    refine ⟨?_, rfl⟩
    rfl
  | some L =>
    rw [← remA_some hrs] at hR
    obtain ⟨v, w, hmv, hmw, rfl⟩ := remS_some9 hrs
    obtain ⟨iv, hv, rfl, v5⟩ := (member?_iff hg).1 hmv
    obtain ⟨iw, hw, rfl, w5⟩ := (member?_iff hg).1 hmw
    have hI := Identity_ac d hg (by omega) (fileOf v).path (fileOf v).num
    have e1 : idM (memL d.revs) ⟨(fileOf v).path, (fileOf v).num⟩ = some (first d v) := idM_first hg o1 hv v5
    rw [e1] at hI
    simp only [pB, Option.isSome, Option.getD] at hI
    have hS := hB.src
    have hP := hL d hg o1 hB.paths
    have hCr := Credited_ac d hg o1 o2 hS hP (fun f g h => SA_file f g (.inr (.inr h))) iw w hw w5
    have hLn := hLine_ac d (by omega) (first d v)
    have hmem := fun u => lnP_mem hg o1 (f := first d v) (u := u)
    have hpw := line_pair hg o1 (first d v)
    have hlen : (lnP d (first d v)).length ≤ 512 := by rw [lnP_line hg o1]; exact Nat.le_trans (List.length_filter_le ..) o1
    obtain ⟨p, hp⟩ := List.getElem?_of_mem ((hmem v).2 ⟨List.mem_of_getElem? hv, v5, rfl⟩)
    have hrt := rem_take hg o1 (fileOf w) hp
    generalize lnP d (first d v) = line at hLn hmem hpw hlen hp hrt
    generalize hrest : remL d v (fileOf w) = rest at hR hrt
    have hpl := (List.getElem?_eq_some_iff.1 hp).1
    have hrl : rest.length = cntO d (fileOf w) line (p + 1) := by rw [hrt]; simp [cntO]
    have hcnt : ∀ k, cntO d (fileOf w) line k ≤ 512 := fun k => cntO_le 512 hlen
    generalize hff : first d v = ff at hI hLn
    (repeat (first | refine v6W18 ?_ | (refine caA [] (hR) ?_; rintro r st' ⟨rfl, rfl⟩; refine frA ?_)))
    refine ifA ?_ ?_
    · intro h; simp at h
    intro _
    try refine v6W18 ?_
    refine caA [] (hCr) ?_
    rintro r st' ⟨⟨lc, hlc, hlcl, rfl⟩, rfl⟩ <;> refine frA ?_
    (repeat (first | refine v6W18 ?_ | (refine caA [] (hI) ?_; rintro r st' ⟨rfl, rfl⟩; refine frA ?_)))
    refine ifA ?_ ?_
    · intro h; simp at h
    intro _
    try refine v6W18 ?_
    refine T_loop (ι := Nat × List Fil) (I := fun j => ⟨166, [(4, .c (.ptr 4 0)), (5, .c (.ptr 5 0)), (7, .c (.ptr 7 0)), (8, aFils rest), (12, .c (.ptr 12 0)), (14, .c (.mp 84)), (85, aFils lc), (86, I .i64 lc.length), (87, I .i64 j.1)], stE (fileOf v) (fileOf w) d ff ++ [(84, uMap kF j.2)]⟩)
      (Inv := fun j => j.1 ≤ lc.length ∧ ∀ g, g ∈ j.2 ↔ g ∈ lc.take j.1) (μ := fun j => lc.length - j.1) (0, []) ⟨by simp, by simp⟩ ?_ ?_
    · exact enA
    rintro ⟨q, hs0⟩ ⟨hq, hh⟩
    simp only at hq hh ⊢
    try refine v6W18 ?_
    refine ifA ?_ ?_
    · intro hlt
      have hlt' : q < lc.length := by simpa using hlt
      obtain ⟨x0, hx0, he, htk⟩ := round encFil lc q zFil hlt'
      (repeat (first | refine nvB ?_ | refine goA (wr := false) (by simp only [kB, kG, kS, kM, k6, Nat.reduceAdd, Nat.reduceLT, Nat.reduceEqDiff, ↓reduceIte, reduceCtorEq, he]; first | done | rfl) ?_))
      refine TO_go (wr := false) 400 (by simp only [kB, kG, kS, kM, k6, Nat.reduceAdd, Nat.reduceLT, Nat.reduceEqDiff, ↓reduceIte, reduceCtorEq, ins_F]; first | done | rfl) ?_ ?_
      · exact obT (ty_F hs0)
      try refine v6W18 ?_
      refine ⟨(q + 1, addS hs0 x0), ⟨by simp; omega, fun g => ?_⟩, by simp; omega, ?_⟩
      · rw [mem_addS, hh g, htk]; simp
      · exact enA
    intro hge
    have hge' : q = lc.length := by have : ¬ q < lc.length := by simpa using hge
                                    omega
    subst hge'
    rw [List.take_length] at hh
    refine T_ent (Ent_frzMapSlot (i := 14) (id := 84) rfl rfl) ?_
    refine fzA ?_
    (repeat (first | refine v6W18 ?_ | (refine caA [] (hLn) ?_; rintro r st' ⟨rfl, rfl⟩; refine frA ?_)))
    refine T_loop (ι := Nat) (I := fun k => ⟨166, [(4, .c (.ptr 4 0)), (5, .c (.ptr 5 0)), (7, .c (.ptr 7 0)), (8, aFils rest), (14, .c (.d (.pm (sEnt kF hs0)))), (17, I .i64 (cntO d (fileOf w) line k)), (96, aRevs line), (97, I .i64 line.length), (98, I .i64 k)], stE (fileOf v) (fileOf w) d ff⟩)
      (Inv := fun k => k ≤ p) (μ := fun k => line.length - k) 0 (Nat.zero_le _) ?_ ?_
    · have h0 : cntO d (fileOf w) line 0 = 0 := by simp [cntO]
      rw [h0]
      exact enA
    intro k hk
    try refine v6W18 ?_
    refine ifA ?_ ?_
    rotate_left
    · intro hge
      exfalso
      have : ¬ k < line.length := by simpa using hge
      omega
    intro hlt
    have hlt' : k < line.length := by simpa using hlt
    obtain ⟨u, hu, he, htk⟩ := round encRev line k zRev hlt'
    obtain ⟨u1, u2, u3⟩ := (hmem u).1 (List.mem_of_getElem? hu)
    obtain ⟨iu, hiu⟩ := List.getElem?_of_mem u1
    have hCt := Contribution_ac d hg o1 o2 hS hP (fun f g h => SA_file f g (.inr (.inl h))) iu u hiu u2
    (repeat (first | refine nvB ?_ | refine goA (wr := false) (by simp only [kB, kG, kS, kM, k6, Nat.reduceAdd, Nat.reduceLT, Nat.reduceEqDiff, ↓reduceIte, reduceCtorEq, he]; first | done | rfl) ?_))
    refine caA [] (hCt) ?_
    rintro r st' ⟨⟨la, hla, hlal, rfl⟩, rfl⟩ <;> refine frA ?_
    try refine v6W18 ?_
    refine ifA ?_ ?_
    · intro h; simp at h
    intro _
    try refine v6W18 ?_
    refine T_loop (ι := Nat × Bool) (I := fun j => ⟨166, [(4, .c (.ptr 4 0)), (5, .c (.ptr 5 0)), (7, .c (.ptr 7 0)), (8, aFils rest), (14, .c (.d (.pm (sEnt kF hs0)))), (17, I .i64 (cntO d (fileOf w) line k)), (19, .c (.ptr 19 0)), (22, B j.2), (96, aRevs line), (97, I .i64 line.length), (98, I .i64 k), (113, aFils la), (114, I .i64 la.length), (115, I .i64 j.1)], stE (fileOf v) (fileOf w) d ff ++ [(19, .box ((encRev u).map C.d))]⟩)
      (Inv := fun j => j.1 ≤ la.length ∧ (j.2 = true ↔ ∀ g ∈ la.take j.1, g ∈ hs0)) (μ := fun j => la.length - j.1) (0, true) ⟨by simp, by simp⟩ ?_ ?_
    · exact enA
    rintro ⟨q, p2⟩ ⟨hq, hp2⟩
    simp only at hq hp2 ⊢
    try refine v6W18 ?_
    refine ifA ?_ ?_
    · intro hlt2
      have hlt2' : q < la.length := by simpa using hlt2
      obtain ⟨x0, hx0, he2, htk2⟩ := round encFil la q zFil hlt2'
      cases p2 with
      | false =>
        (repeat (first | refine nvB ?_ | refine goA (wr := false) (by simp only [kB, kG, kS, kM, k6, Nat.reduceAdd, Nat.reduceLT, Nat.reduceEqDiff, ↓reduceIte, reduceCtorEq, he2]; first | done | rfl) ?_))
        refine TO_go (wr := false) 400 (by simp only [kB, kG, kS, kM, k6, Nat.reduceAdd, Nat.reduceLT, Nat.reduceEqDiff, ↓reduceIte, reduceCtorEq, look_F]; first | done | rfl) ?_ ?_
        · exact obT (ty_F hs0)
        try refine v6W18 ?_
        refine ⟨(q + 1, false), ⟨by simp; omega, ?_⟩, by simp; omega, ?_⟩
        · constructor
          · intro h; cases h
          · intro h
            exact hp2.2 fun g hg' => h g (by rw [htk2]; simp [hg'])
        · exact enA
      | true =>
        (repeat (first | refine nvB ?_ | refine goA (wr := false) (by simp only [kB, kG, kS, kM, k6, Nat.reduceAdd, Nat.reduceLT, Nat.reduceEqDiff, ↓reduceIte, reduceCtorEq, he2]; first | done | rfl) ?_))
        refine TO_go (wr := false) 400 (by simp only [kB, kG, kS, kM, k6, Nat.reduceAdd, Nat.reduceLT, Nat.reduceEqDiff, ↓reduceIte, reduceCtorEq, look_F]; first | done | rfl) ?_ ?_
        · exact obT (ty_F hs0)
        try refine v6W18 ?_
        refine ⟨(q + 1, decide (x0 ∈ hs0)), ⟨by simp; omega, ?_⟩, by simp; omega, ?_⟩
        · constructor
          · intro h g hg'
            rw [htk2, List.mem_append] at hg'
            rcases hg' with hg' | hg'
            · exact hp2.1 rfl g hg'
            · simp at hg'; subst hg'; exact of_decide_eq_true h
          · intro h
            exact decide_eq_true (h x0 (by rw [htk2]; simp))
        · exact enA
    intro hge2
    have hge2' : q = la.length := by have : ¬ q < la.length := by simpa using hge2
                                     omega
    subst hge2'
    rw [List.take_length] at hp2
    have hop : p2 = true ↔ ¬ Open d (fileOf w) u := by
      rw [hp2, Open, Classical.not_not]
      constructor
      · intro h g hcon
        exact (hlc g).1 ((hh g).1 (h g ((hla g).2 hcon)))
      · intro h g hg'
        exact (hh g).2 ((hlc g).2 (h g ((hla g).1 hg')))
    have hck := hcnt k
    try refine v6W18 ?_
    refine T_join ⟨166, [(4, .c (.ptr 4 0)), (5, .c (.ptr 5 0)), (7, .c (.ptr 7 0)), (8, aFils rest), (14, .c (.d (.pm (sEnt kF hs0)))), (17, I .i64 (cntO d (fileOf w) line (k + 1))), (19, .c (.ptr 19 0)), (96, aRevs line), (97, I .i64 line.length), (98, I .i64 k)], stE (fileOf v) (fileOf w) d ff ++ [(19, .box ((encRev u).map C.d))]⟩ ?_ ?_
    · refine ifA ?_ ?_
      · intro hin
        have hin : p2 = false := by simpa using hin
        have hou : Open d (fileOf w) u := by
          have := hop
          rw [hin] at this
          exact Classical.not_not.1 fun h => by simp [h] at this
        have hat : rest[cntO d (fileOf w) line k]? = some (fileOf u) := by rw [hrt]; exact cntO_at hk hpl hu hou
        have hil := (List.getElem?_eq_some_iff.1 hat).1
        obtain ⟨x1, hx1, he3, _⟩ := round encFil rest (cntO d (fileOf w) line k) zFil hil
        rw [hat] at hx1; cases hx1
        have hcs := cntO_yes htk hou
        rw [hcs]
        generalize cntO d (fileOf w) line k = cc at hck hil he3 ⊢
        have hge3 : decide ((rest.length : Int) ≤ (cc : Int)) = false := by simp; omega
        (repeat (first | refine nvB ?_ | refine goA (wr := false) (by simp only [kB, kG, kS, kM, k6, Nat.reduceAdd, Nat.reduceLT, Nat.reduceEqDiff, ↓reduceIte, reduceCtorEq, he3, hge3]; first | done | rfl) ?_))
        refine drA (wr := false) ([] : List (Nat × AV)) (by simp only [kD, kB, kG, kS, kM, k6, Nat.reduceAdd, Nat.reduceLT, Nat.reduceEqDiff, ↓reduceIte, reduceCtorEq, he3, hge3]; first | done | rfl) ?_ ?_
        · exact obT (hil)
        try refine v6W18 ?_
        refine ifA ?_ ?_
        · intro h; simp [fileOf] at h
        intro _
        try refine v6W18 ?_
        refine ⟨rfl, ?_⟩
        exact enA
      · intro hin
        have hin : p2 = true := by simpa using hin
        rw [cntO_no htk (hop.1 hin)]
        try refine v6W18 ?_
        refine ⟨rfl, ?_⟩
        exact enA
    try refine v6W18 ?_
    refine ifA ?_ ?_
    · intro hbr
      simp [fileOf] at hbr
      have hbr : u.path = v.path ∧ u.num = v.num := ⟨of_decide_eq_true hbr.1, of_decide_eq_true hbr.2⟩
      have hiv := good_file hg hiu hv (by simp [fileOf, hbr.1, hbr.2])
      subst hiv
      have huv : v = u := by rw [hv] at hiu; cases hiu; rfl
      subst huv
      have hkp : k = p := by
        rcases Nat.lt_or_ge k p with h9 | h9
        · have := (List.pairwise_iff_getElem.1 hpw) k p hlt' hpl h9
          rw [(List.getElem?_eq_some_iff.1 hu).2, (List.getElem?_eq_some_iff.1 hp).2] at this
          omega
        · omega
      subst hkp
      rw [← hrl]
      try refine v6W18 ?_
      refine TO_stepO (wr := false) ([(164, B true)] : List (Nat × AV)) rfl (by simp only [kD, kB, kG, kS, kM, k6, Nat.reduceAdd, Nat.reduceLT, Nat.reduceEqDiff, ↓reduceIte, reduceCtorEq]; first | done | rfl) ?_ ?_
      · simp only [All, List.cons_append, List.nil_append, InR, List.mem_cons, List.not_mem_nil, or_false, forall_eq_or_imp, forall_eq, clAV, clCs, clC, clCaps, clCap, and_true, true_and, implies_true, List.length_map, List.length_cons, List.length_nil, dArr, cl_arr, tyCs]
        repeat' (first | exact trivial | exact haw | refine And.intro ?_ ?_ | intro _ | assumption | rfl | omega | (simp; done) | (simp_all; done))
      simp only [kP, Nat.reduceEqDiff, ↓reduceIte, reduceCtorEq]
      try refine v6W18 ?_
      refine rtA (by simp only [kR, Tryz.results6, ↓reduceIte, Nat.reduceEqDiff, reduceCtorEq]; first | done | rfl) ([]) ?_
      refine ⟨?_, rfl⟩
      rfl
    · intro hbr
      have hkp : ¬ k = p := by
        intro e
        subst e
        rw [hp] at hu; cases hu
        simp [fileOf] at hbr
      try refine v6W18 ?_
      refine ⟨k + 1, by omega, by omega, ?_⟩
      exact enA
end Go.Proofs.YtbllfnmabmamfaaGreatDoor
