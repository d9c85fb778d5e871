/- A part of the proof. -/
import Derived.Test.YtbllfnmabmamfaaGreatDoorQPD
import Derived.Test.YtbllfnmabmamfaaGreatDoorQP0
import Derived.Test.YtbllfnmabmamfaaGreatDoorRBd2
import Derived.Test.YtbllfnmabmamfaaGreatDoorRS5
import Derived.Test.YtbllfnmabmamfaaGreatDoorRT4
set_option linter.all false
namespace Go.Proofs.YtbllfnmabmamfaaGreatDoor
open Go.Ab Tys
theorem set_S1 (l : List (Option (List Int))) (i : Nat) (v : List Int) : ((l.map eSet).map fun l => l.map C.d).set i (C.d (.pm (sEnt kN v)) :: List.drop 1 (((l.map eSet).map fun l => l.map C.d).getD i [])) = ((l.set i (some v)).map eSet).map fun l => l.map C.d :=
  set_gen eSet l i (some v) 1 (fun _ => rfl)
end Go.Proofs.YtbllfnmabmamfaaGreatDoor
namespace Go.Proofs.YtbllfnmabmamfaaGreatDoor
open Go.Ab Tys
def kX := And.intro @runX.eq_1 <| And.intro @runX.eq_2 <| And.intro @stepX.eq_def <| And.intro @callX.eq_def @Option.some.injEq.{0}
theorem accK_len (L : Led) (i : Nat) (rs : List Rcd) (k : Nat) (hk : rs.length ≤ 512) : (accK L i rs k).car.length ≤ 300000 ∧ (accK L i rs k).ign.length ≤ 300000 := by
  have := acc_len L (rs.take k) (acc0 L i (decide ((rs.length : Int) = 0)))
  have h2 : (rs.take k).length ≤ rs.length := by simp; omega
  simp only [acc0, List.length_cons, List.length_nil] at this
  unfold accK acc0; omega
theorem T_drawy {P : Program} {x : X} {ι : Type} {wr : Bool} {id : Nat} {l : List Oper} {s : S} {Q : Exit → S → Prop} (ks : List Nat) (cs : List (Nat × AV)) (j d0 : Nat) (ans : ι → AV) (Rel : ι → Prop) (i0 : ι) (h0 : Rel i0) {As : ι → List A1} {ps : ι → List Prop} {s' : ι → S}
    (hm : P.follows .mixedOrders = true) (h : ∀ c, runX P wr l cs d0 (ans c) (fun v => ∃ c, Rel c ∧ v = ans c) l s = some (As c, ps c, s' c)) (ho : ∀ c, Rel c → All (ps c)) (hc : ∀ c, drawOK l (As c) = true)
    (hu : dstUniq l j d0 = true) (hsw : ∀ c c', sws j (As c) = sws j (As c')) (hks : (((List.range l.length).filter fun k => decide (k ≠ j) && !((ancs l []).getD k []).contains j).all fun k => ks.contains k) = true)
    (hse : ∀ c c', ks.map (fun k => (As c)[k]?) = ks.map (fun k => (As c')[k]?)) (hQ : ∀ c, Rel c → Q .normal (s' c)) : T P x (.region id l.toArray true) s Q :=
  T_drawx cs j d0 ans Rel i0 h0 hm h ho hc hu hsw (fun c c' => by
    unfold sel
    apply List.map_congr_left
    intro k hk
    have := List.all_eq_true.1 hks k hk
    exact List.map_inj_left.1 (hse c c') k (by simpa using this)) hQ
def k100 := And.intro @Tryz.ntmps100 <| And.intro @Tryz.underlying137 <| And.intro @Tryz.underlying28 <| And.intro @bld139 <| And.intro @bld37 <| And.intro @bld76 <| And.intro @elt137 <| And.intro @elt28 <| And.intro @elt59 <| And.intro @fld139_1 <| And.intro @fld139_3 <| And.intro @fld139_6 <| And.intro @fld139_7 <| And.intro @fld139_8 <| And.intro @fld37_0 <| And.intro @fld37_1 <| And.intro @fld76_0 <| And.intro @fld76_2 <| And.intro @fld76_5 <| And.intro @kyt3 <| And.intro @kyt37 <| And.intro @mpt134 <| And.intro @mpt191 <| And.intro @ti134 <| And.intro @ti137 <| And.intro @ti139 <| And.intro @ti191 <| And.intro @ti28 <| And.intro @ti3 <| And.intro @ti37 <| And.intro @ti4 <| And.intro @ti59 <| And.intro @ti76 <| @ti9
theorem v100T6 {G G' : Prop} (g : G') (h : Hid G' → G := by intro h9; (first | refine nvB ?_ | refine goA (wr := false) (by simp only [kB, kG, kS, kM, k100, Nat.reduceAdd, Nat.reduceLT, Nat.reduceEqDiff, ↓reduceIte, reduceCtorEq]; first | done | rfl) ?_); (repeat (first | refine nvB ?_ | refine goA (wr := false) (by simp only [kB, kG, kS, kM, k100, Nat.reduceAdd, Nat.reduceLT, Nat.reduceEqDiff, ↓reduceIte, reduceCtorEq]; first | done | rfl) ?_)); exact h9.out) : G := h ⟨g⟩
set_option maxRecDepth 100000 in
set_option maxHeartbeats 16000000 in
theorem account_ac (L : Led) (hL : LedOK L) (el em : List EntD) (i : Nat) (hi : i < L.revs.length) (hpr : L.prev.getD i 0 < L.revs.length) (rs : List Rcd) (hrs : rs.length ≤ 512) :
    AC Tryz.prog 100 [.c (.ptr 1000 0), I .i64 i, .c (.d (.ps 6 (rs.map encRcd)))] (ledSt L el em) (fun _ st => ∃ c k cr, AccR L i rs c k cr ∧ st = ledSt (setL L i c k cr) el em) := by
  have hN := hL.n
  have hp := hL.prev
  have hc := hL.car
  have hcr := hL.cre
  have hco := hL.con
  have ep := uG eI L.prev i 0 (by omega)
  generalize hq : L.prev.getD i 0 = q at ep hpr
  have hbe : ∃ o1 o2, befS L i = o1 ∧ knoS L i = o2 := ⟨_, _, rfl, rfl⟩
  obtain ⟨o1, o2, hb, hkn⟩ := hbe
  refine AC_enter Tryz.func100 rfl rfl (by simp only [Tryz.ntmps100, List.length]; omega) ?_
  intro x hx
  simp only [List.range, List.range.loop, List.length, List.zip, List.zipWith, Nat.reduceAdd, Tryz.ntmps100]
  (repeat (first | refine nvB ?_ | refine goA (wr := false) (by simp only [kB, kG, kS, kM, k100, Nat.reduceAdd, Nat.reduceLT, Nat.reduceEqDiff, ↓reduceIte, reduceCtorEq, ep]; first | done | rfl) ?_))
  refine T_join ⟨146, [(0, .c (.ptr 1000 0)), (1, I .i64 i), (2, .c (.d (.ps 6 (rs.map encRcd)))), (6, .c (.d (dSet kN o1))), (7, .c (.d (dSet kN o2)))], ledSt L el em⟩ ?_ ?_
  · refine ifA ?_ ?_
    · intro h
      have h' : 0 ≤ q := by simpa using h
      have e1 := uG eSet L.car q.toNat none (by omega)
      have e2 := uG eSet L.cre q.toNat none (by omega)
      have b1 : L.car.getD q.toNat none = o1 := by rw [← hb]; simp only [befS, hq, h', if_true]
      have b2 : L.cre.getD q.toNat none = o2 := by rw [← hkn]; simp only [knoS, hq, h', if_true]
      rw [b1] at e1
      rw [b2] at e2
      refine nvA ?_
      refine drA (wr := false) ([] : List (Nat × AV)) (by simp only [kD, kB, kG, kS, kM, k100, Nat.reduceAdd, Nat.reduceLT, Nat.reduceEqDiff, ↓reduceIte, reduceCtorEq, e1, e2]; first | done | rfl) ?_ ?_
      · exact obN
      refine nvA ?_
      refine ⟨rfl, ?_⟩
      exact enA
    · intro h
      have h' : ¬ 0 ≤ q := by simpa using h
      have b1 : o1 = none := by rw [← hb]; simp only [befS, hq, h', if_false]
      have b2 : o2 = none := by rw [← hkn]; simp only [knoS, hq, h', if_false]
      subst b1 b2
      refine nvA ?_
      refine ⟨rfl, ?_⟩
      exact enA
  clear ep
  try refine v100T6 ?_
  refine T_loop (ι := Nat × Acc) (I := fun j => ⟨146, [(0, .c (.ptr 1000 0)), (1, I .i64 i), (6, .c (.d (dSet kN o1))), (9, .c (.ms 200 1 0 j.2.car.length)), (10, .c (.ms 201 1 0 j.2.ign.length)), (11, B j.2.orig), (46, .c (.d (.ps 6 (rs.map encRcd)))), (47, I .i64 rs.length), (48, I .i64 j.1)],
      ledSt L el em ++ [(200, dArr 1 (j.2.car.map eSet)), (201, dArr 1 (j.2.ign.map eSet))]⟩)
    (Inv := fun j => j.1 ≤ rs.length ∧ j.2 = accK L i rs j.1) (μ := fun j => rs.length - j.1) (0, acc0 L i (decide ((rs.length : Int) = 0))) ⟨by simp, by simp [accK]⟩ ?_ ?_
  · rw [acc0, hb, hkn]
    exact enR (fun i => if i = 200 then 40 else if i = 201 then 42 else i)
  rintro ⟨j, ca, ig, og⟩ ⟨hj, ha⟩
  simp only at hj ha ⊢
  obtain ⟨l1, l2⟩ := accK_len L i rs j hrs
  rw [← ha] at l1 l2
  simp only at l1 l2
  try refine v100T6 ?_
  refine ifA ?_ ?_
  · intro hlt
    have hlt' : j < rs.length := by simpa using hlt
    obtain ⟨r, hr, he, htk⟩ := round encRcd rs j zRcd hlt'
    have hst : accK L i rs (j + 1) = accStep L ⟨ca, ig, og⟩ r := by rw [accK, htk, List.foldl_append, ha]; rfl
    (repeat (first | refine nvB ?_ | refine goA (wr := false) (by simp only [kB, kG, kS, kM, k100, Nat.reduceAdd, Nat.reduceLT, Nat.reduceEqDiff, ↓reduceIte, reduceCtorEq, he]; first | done | rfl) ?_))
    refine ifA ?_ ?_
    · intro h1
      have h1' : r.how = 1 := by simpa using h1
      cases hk : alook L.index ⟨r.frm, r.last⟩ with
      | none =>
        have hst' : accK L i rs (j + 1) = ⟨ca, ig, og⟩ := by rw [hst]; simp only [accStep, h1', if_true, hk]
        refine nvA ?_
        refine drA (wr := false) ([] : List (Nat × AV)) (by simp only [kD, kB, kG, kS, kM, k100, Nat.reduceAdd, Nat.reduceLT, Nat.reduceEqDiff, ↓reduceIte, reduceCtorEq, look_I, hk, Option.map_none, Option.isSome]; first | done | rfl) ?_ ?_
        · exact obF ty_I
        try refine v100T6 ?_
        refine ifA ?_ ?_
        · intro h; cases h
        intro _
        try refine v100T6 ?_
        refine ⟨(j + 1, ⟨ca, ig, og⟩), ⟨by simp; omega, hst'.symm⟩, by simp; omega, ?_⟩
        exact enA
      | some k =>
        obtain ⟨k1, k2⟩ := hL.ix _ _ hk
        have hkl : k.toNat < L.car.length := by omega
        have ek := uG eSet L.car k.toNat none hkl
        generalize hoo : L.car.getD k.toNat none = o at ek
        have hst' : accK L i rs (j + 1) = ⟨ca ++ [o], ig, og⟩ := by rw [hst]; simp only [accStep, h1', if_true, hk, hoo]
        have hk2 : k < (L.car.length : Int) := by omega
        refine nvA ?_
        refine drA (wr := false) ([] : List (Nat × AV)) (by simp only [kD, kB, kG, kS, kM, k100, Nat.reduceAdd, Nat.reduceLT, Nat.reduceEqDiff, ↓reduceIte, reduceCtorEq, look_I, hk, Option.isSome]; first | done | rfl) ?_ ?_
        · exact obF ty_I
        try refine v100T6 ?_
        refine ifA ?_ ?_
        rotate_left
        · intro h; cases h
        intro _
        (repeat (first | refine nvB ?_ | refine goA (wr := false) (by simp only [kB, kG, kS, kM, k100, Nat.reduceAdd, Nat.reduceLT, Nat.reduceEqDiff, ↓reduceIte, reduceCtorEq, ek, Nat.zero_add]; first | done | rfl) ?_))
        refine ⟨(j + 1, ⟨ca ++ [o], ig, og⟩), ⟨by simp; omega, hst'.symm⟩, by simp; omega, ?_⟩
        exact enR (fun i => if i = 200 then 90 else i)
    intro h1
    have h1' : ¬ r.how = 1 := by simpa using h1
    have hcl := conts_len L r
    try refine v100T6 ?_
    refine ifA ?_ ?_
    · intro h3
      have h3' : r.how = 3 := by simpa using h3
      have hst' : accK L i rs (j + 1) = ⟨ca, ig ++ conts L r, og⟩ := by rw [hst]; simp only [accStep, h1', h3', if_true, if_false]; rfl
      try refine v100T6 ?_
      refine caA (ledSt L el em) (contributions_ac L hL el em r) ?_
      rintro rv9 st' ⟨rfl, rfl⟩ <;> refine frA ?_
      try refine v100T6 ?_
      refine ⟨(j + 1, ⟨ca, ig ++ conts L r, og⟩), ⟨by simp; omega, hst'.symm⟩, by simp; omega, ?_⟩
      exact enR (fun i => if i = 201 then 97 else i)
    · intro h3
      have h3' : ¬ r.how = 3 := by simpa using h3
      have hst' : accK L i rs (j + 1) = ⟨ca ++ conts L r, ig, og || decide (r.how = 4)⟩ := by rw [hst]; simp only [accStep, h1', h3', if_false]
      try refine v100T6 ?_
      refine caA (ledSt L el em) (contributions_ac L hL el em r) ?_
      rintro rv9 st' ⟨rfl, rfl⟩ <;> refine frA ?_
      try refine v100T6 ?_
      have hog : (bif og then true else decide (r.how = 4)) = (og || decide (r.how = 4)) := by cases og <;> rfl
      refine ⟨(j + 1, ⟨ca ++ conts L r, ig, og || decide (r.how = 4)⟩), ⟨by simp; omega, hst'.symm⟩, by simp; omega, ?_⟩
      rw [hog]
      exact enR (fun i => if i = 200 then 64 else i)
  intro hge
  have hge' : j = rs.length := by have : ¬ j < rs.length := by simpa using hge
                                  omega
  have hall : accAll L i rs = ⟨ca, ig, og⟩ := by rw [ha, hge', accK, List.take_length]; rfl
  obtain ⟨cf, hcf⟩ : ∃ cf, accCar L i rs = cf := ⟨_, rfl⟩
  have hcl : cf.length ≤ 400000 := by rw [← hcf, accCar, hall]; simp only [List.length_append]; split <;> simp <;> omega
  try refine v100T6 ?_
  refine T_join ⟨146, [(0, .c (.ptr 1000 0)), (1, I .i64 i), (6, .c (.d (dSet kN o1))), (9, .c (.ms 200 1 0 cf.length)), (10, .c (.ms 201 1 0 ig.length))], ledSt L el em ++ [(200, dArr 1 (cf.map eSet)), (201, dArr 1 (ig.map eSet))]⟩ ?_ ?_
  · refine ifA ?_ ?_
    · intro h
      have e : cf = ca ++ [some [(i : Int)]] := by rw [← hcf, accCar, hall, h]; rfl
      subst e
      refine nvA ?_
      refine TO_go (wr := false) 4 (by simp only [kB, kG, kS, kM, k100, Nat.reduceAdd, Nat.reduceLT, Nat.reduceEqDiff, ↓reduceIte, reduceCtorEq, insE]; first | done | rfl) ?_ ?_
      · exact obN
      refine TO_ent (Ent_frzMapSlot (i := 103) (id := 101) (es := sEnt kN [(i : Int)]) rfl rfl) ?_
      refine fzA ?_
      try refine v100T6 ?_
      refine ⟨rfl, ?_⟩
      exact enR (fun i => if i = 200 then 105 else i)
    · intro h
      have e : cf = ca := by rw [← hcf, accCar, hall, h]; simp
      subst e
      refine nvA ?_
      refine ⟨rfl, ?_⟩
      exact enA
  have hU : AC Tryz.prog 138 [.c (.ms 200 1 0 cf.length)] [(200, dArr 1 (cf.map eSet))] (fun r st => (∃ l, Uni l cf ∧ r = .c (.d (.pm (sEnt kN l)))) ∧ st = [(200, .dead)]) := by
    have := AC_frz (id := 200) (R := fun r => ∃ l, Uni l cf ∧ r = .c (.d (.pm (sEnt kN l)))) (fun r ⟨l, _, e⟩ => by rw [e]; simp [clAV, clC]) (union_ac cf (by omega))
    simpa [dArr] using this
  have hli : (i : Int) < (L.car.length : Int) := by omega
  have hlk : (i : Int) < (L.con.length : Int) := by omega
  have hlc : (i : Int) < (L.cre.length : Int) := by omega
  refine nvA ?_
  refine T_drawy (wr := false) [0, 1, 2, 3, 4, 5, 7] [] 6 112 (fun l => .c (.d (.pm (sEnt kN l)))) (fun l => Uni l cf) (cf.flatMap (fun o => o.getD [])) (fun k => by simp) (by kernel_rfl) (fun c => by simp only [kX, kD, kB, kG, kS, kM, k100, Nat.reduceAdd, Nat.reduceLT, Nat.reduceEqDiff, ↓reduceIte, reduceCtorEq, set_S1]; first | done | rfl) ?_ (fun c => by kernel_rfl) (by kernel_rfl) (fun _ _ => by kernel_rfl) (by kernel_rfl) (fun _ _ => by simp only [List.map_cons, List.map_nil, List.getElem?_cons_zero, List.getElem?_cons_succ]; repeat' (first | (with_reducible rfl) | refine congr (congrArg List.cons ?_) ?_ | refine congrArg some ?_ | kernel_rfl)) ?_
  · intro c hc2
    exact obT (hU)
  intro c hcU
  have eci : (List.map (fun l => List.map C.d l) (List.map eSet (L.car.set i (some c)))).getD i [] = [C.d (.pm (sEnt kN c))] := by rw [uG eSet (L.car.set i (some c)) i none (by simp; omega)]; simp [List.getD, show i < L.car.length by omega]
  refine nvA ?_
  refine T_drawy (wr := false) [0, 1, 2, 3, 4, 5, 6, 7, 8, 9, 10, 11, 12, 14] [] 13 127 (fun l => .c (.d (.pm (sEnt kN l)))) (fun l => ∀ x, x ∈ l ↔ x ∈ c ∧ ¬ x ∈ o1.getD []) (c.filter (fun x => !decide (x ∈ o1.getD []))) (fun k => by simp) (by kernel_rfl) (fun c => by simp only [kX, kD, kB, kG, kS, kM, k100, Nat.reduceAdd, Nat.reduceLT, Nat.reduceEqDiff, ↓reduceIte, reduceCtorEq, set_S1, eci]; first | done | rfl) ?_ (fun c => by kernel_rfl) (by kernel_rfl) (fun _ _ => by kernel_rfl) (by kernel_rfl) (fun _ _ => by simp only [List.map_cons, List.map_nil, List.getElem?_cons_zero, List.getElem?_cons_succ]; repeat' (first | (with_reducible rfl) | refine congr (congrArg List.cons ?_) ?_ | refine congrArg some ?_ | kernel_rfl)) ?_
  · intro m hm2
    exact obT (without_ac c o1)
  intro m hmU
  have hV : AC Tryz.prog 138 [.c (.ms 143 1 0 (ig.length + 1))] [(143, dArr 1 ((ig ++ [some c]).map eSet))] (fun r st => (∃ l, Uni l (ig ++ [some c]) ∧ r = .c (.d (.pm (sEnt kN l)))) ∧ st = [(143, .dead)]) := by
    have := AC_frz (id := 143) (R := fun r => ∃ l, Uni l (ig ++ [some c]) ∧ r = .c (.d (.pm (sEnt kN l)))) (fun r ⟨l, _, e⟩ => by rw [e]; simp [clAV, clC]) (union_ac (ig ++ [some c]) (by simp; omega))
    simpa [dArr] using this
  have happ : List.map (fun l => List.map C.d l) (List.map eSet ig) ++ [[C.d (.pm (sEnt kN c))]] = List.map (fun l => List.map C.d l) (List.map eSet (ig ++ [some c])) := by simp
  refine nvA ?_
  refine T_drawy (wr := false) [0, 1, 2, 3, 4, 5, 6, 7, 8, 9, 10, 11, 12, 13, 14, 16] [] 15 144 (fun l => .c (.d (.pm (sEnt kN l)))) (fun l => Uni l (ig ++ [some c])) ((ig ++ [some c]).flatMap (fun o => o.getD [])) (fun k => by simp only [List.mem_flatMap]) (by kernel_rfl) (fun c => by simp only [kX, kD, kB, kG, kS, kM, k100, Nat.reduceAdd, Nat.reduceLT, Nat.reduceEqDiff, ↓reduceIte, reduceCtorEq, set_S1, eci, happ]; first | done | rfl) ?_ (fun c => by kernel_rfl) (by kernel_rfl) (fun _ _ => by kernel_rfl) (by kernel_rfl) (fun _ _ => by simp only [List.map_cons, List.map_nil, List.getElem?_cons_zero, List.getElem?_cons_succ]; repeat' (first | (with_reducible rfl) | refine congr (congrArg List.cons ?_) ?_ | refine congrArg some ?_ | kernel_rfl)) ?_
  · intro cr hcr2
    exact obT (hV)
  intro cr hcrU
  refine nvA ?_
  have hS : setL L i c m cr = ⟨L.revs, L.index, L.prev, L.fst, L.car.set i (some c), L.con.set i (some m), L.cre.set i (some cr)⟩ := rfl
  have hR : AccR L i rs c m cr := ⟨by rw [hcf]; exact hcU, by rw [hb]; exact hmU, by rw [hall]; exact hcrU⟩
  generalize L.car.set i (some c) = A' at *
  generalize L.con.set i (some m) = B' at *
  generalize L.cre.set i (some cr) = C' at *
  refine rtV (by simp only [kR, Tryz.results100, ↓reduceIte, Nat.reduceEqDiff, reduceCtorEq]; first | done | rfl) ((ledSt ⟨L.revs, L.index, L.prev, L.fst, A', B', C'⟩ el em)) ?_
  exact ⟨c, m, cr, hR, by rw [hS]⟩
end Go.Proofs.YtbllfnmabmamfaaGreatDoor
