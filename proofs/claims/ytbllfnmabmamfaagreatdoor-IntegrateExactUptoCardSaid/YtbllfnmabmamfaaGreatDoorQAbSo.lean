/- Contracts of the library's sort, as the kit has them, over abstract states: rows of one-cell elements. -/
import Derived.Test.YtbllfnmabmamfaaGreatDoorQAbV
import Derived.Sort.Grow
set_option linter.all false

namespace Go.Ab
open Go.Sort
section
variable {x : X} {bl : Nat → List Nat} {cap : Nat → Nat} {st : List (Nat × AO)} {w : World}
theorem K.le_grew {w' : World} (hw : Grew w w') : (mkK x bl cap st w).le (mkK x bl cap st w') :=
  ⟨fun _ h => h, fun _ _ => rfl, fun _ _ => rfl, fun b _ hb => hw.heap b hb, fun _ h => .inl h⟩
theorem SatS.grew (h : SatS x bl cap st w) {w' : World} (hw : Grew w w') : SatS x bl cap st w' where
  objs i p hp := by
    cases hp' : p.isLive with
    | false => cases p <;> simp [AO.isLive] at hp'; trivial
    | true => exact (h.objs i p hp).le (K.le_grew hw) (by simp [mkK, hp]) fun b hb => hw.heap b (h.lt b ⟨i, p, hp, hp', hb⟩)
  disj := h.disj
  nodup := h.nodup
  new := h.new
  lt b hb := Nat.lt_of_lt_of_le (h.lt b hb) hw.size
  fr := ⟨Nat.le_trans h.fr.size hw.size, fun b hb hm => by rw [hw.heap b (Nat.lt_of_lt_of_le hb h.fr.size)]; exact h.fr.heap b hb hm, by rw [hw.os]; exact h.fr.os, by rw [hw.output]; exact h.fr.output, by rw [hw.tape]; exact h.fr.tape, Nat.le_trans h.fr.drawn hw.drawn⟩
  keep := h.keep
  xok := h.xok
end
theorem flat1 {α β : Type} (f : α → β) : ∀ l : List α, (l.map fun z => [f z]).flatten = l.map f
  | [] => rfl
  | a :: l => by have := flat1 f l; simp_all
theorem getBang {α : Type} [Inhabited α] (l : List α) (j : Nat) (h : j < l.length) : (l.toArray)[j]! = l[j] := by
  rw [getElem!_pos _ j (by simpa using h)]; simp
theorem AC_sort1 {P : Program} {f : FuncId} {α : Type} [Inhabited α] {enc : α → Value} (h1 : ∀ z, (enc z).oneCell' = true) {l l' : List α} (hl : l'.length = l.length) (hc : Callable P f)
    (hC : ∀ blk off cap w, Holds enc w blk off l.toArray → blk < w.heap.size → Calls P f #[.slice (some ⟨blk, off, none⟩) l.length cap] w fun e w' => e = .returned (.tuple #[]) ∧ ∃ n os, w' = grow (putRow enc (Sort.ahead w n) blk off l'.toArray) os)
    (hnil : l = [] → ∀ p cap w, Calls P f #[.slice p 0 cap] w fun e w' => e = .returned (.tuple #[]) ∧ w' = w) (id : Nat) :
    AC P f [.c (.ms id 1 0 l.length)] [(id, .arr 1 (l.map fun z => [C.d (.v (enc z))]))] (fun r st => r = .tup [] ∧ st = [(id, .arr 1 (l'.map fun z => [C.d (.v (enc z))]))]) := by
  refine ⟨hc, ?_⟩
  intro bl cap F w us hs hargs
  have hid : get [(id, AO.arr 1 (l.map fun z => [C.d (.v (enc z))]))] id = some (.arr 1 (l.map fun z => [C.d (.v (enc z))])) := by simp [get]
  have hput : put [(id, AO.arr 1 (l.map fun z => [C.d (.v (enc z))]))] id (AO.arr 1 (l'.map fun z => [C.d (.v (enc z))])) = [(id, AO.arr 1 (l'.map fun z => [C.d (.v (enc z))]))] := by simp [put]
  cases hargs with
  | cons hv ht =>
  cases ht
  obtain ⟨_, hle, hv⟩ := hv
  obtain ⟨g1, g2, g3, g4⟩ := hs.objs id _ hid
  simp only [mkK, Nat.zero_add, Nat.sub_zero, List.length_map, Nat.zero_mul] at hv g1 hle g4
  rcases hv with ⟨c0, a, rfl⟩ | ⟨c0, b, hb, rfl⟩
  · have hl0 : l = [] := List.length_eq_zero_iff.1 (by omega)
    have hl1 : l' = [] := List.length_eq_zero_iff.1 (by rw [hl, hl0]; rfl)
    subst hl0 hl1
    refine (hnil rfl a 0 w).mono ?_
    rintro e w' ⟨rfl, rfl⟩
    exact ⟨.tup [], _, bl, cap, _, rfl, ⟨rfl, rfl⟩, by simp, hs, [], rfl, .nil⟩
  · rcases g4 with ⟨c1, _⟩ | ⟨b', T, vs, hb', hh, hlen, hA⟩
    · exact absurd c1 c0
    rw [hb] at hb'
    cases hb'
    have hbl : b < w.heap.size := by
      rcases Nat.lt_or_ge b w.heap.size with h | h
      · exact h
      · rw [Array.getElem?_eq_none h] at hh; cases hh
    have hcell : ∀ j (hj : j < l.length), vs[j]? = some (enc l[j]) := by
      intro j hj
      have e1 : (l.map fun z => [C.d (.v (enc z))]).flatten[j]? = some (C.d (.v (enc l[j]))) := by
        rw [show (l.map fun z => [C.d (.v (enc z))]).flatten = l.map fun z => C.d (.v (enc z)) from flat1 _ _]
        simp [hj]
      obtain ⟨u, hu, hr⟩ := hA.get e1
      rw [List.getElem?_take] at hu
      split at hu
      · rw [hu]; congr 1
        have hr' : RepD _ _ (.v (enc l[j])) u := hr
        cases hr'; rfl
      · cases hu
    have hH : Holds enc w b 0 l.toArray := by
      intro j hj
      simp only [List.size_toArray] at hj
      rw [getBang l j hj]
      constructor
      · simp only [World.cell?, hh, Nat.zero_add]
        simpa using hcell j hj
      · simp [World.frozen?, hh]
    refine (hC b 0 (cap id) w hH hbl).mono ?_
    rintro e w' ⟨rfl, n, os, rfl⟩
    have hheap : ∀ c, c ≠ b → (putRow enc (Sort.ahead w n) b 0 l'.toArray).heap[c]? = w.heap[c]? := by
      intro c hcb
      simp only [putRow, mapBlock, Array.getElem?_modify, heap_ahead]
      rw [if_neg (Ne.symm hcb)]
    have hat : (putRow enc (Sort.ahead w n) b 0 l'.toArray).heap[b]? = some (.cells (putCells enc 0 l'.toArray (List.toArray vs)) T (0, 0)) := by
      simp only [putRow, mapBlock, Array.getElem?_modify, heap_ahead, if_true, hh, Option.map_some, onCells]
    have hs1 : SatS (X.start bl cap F [(id, .arr 1 (l.map fun z => [C.d (.v (enc z))]))] w) bl cap [(id, AO.arr 1 (l'.map fun z => [C.d (.v (enc z))]))] (putRow enc (Sort.ahead w n) b 0 l'.toArray) := by
      rw [← hput]
      refine hs.upd hid rfl ⟨by simp, fun c hcb => hheap c (by rw [hb] at hcb; simpa using hcb), rfl, rfl, rfl, Nat.le_add_right _ _⟩ ?_
      refine ⟨?_, ?_, by omega, .inr ⟨b, T, (putCells enc 0 l'.toArray (List.toArray vs)).toList, ?_, ?_, ?_, ?_⟩⟩
      · simp only [mkK, List.length_map]; omega
      · intro y hy
        obtain ⟨z, _, rfl⟩ := List.mem_map.1 hy
        rfl
      · exact hb
      · simp only [mkK]; rw [hat]
      · simp only [mkK, putCells, Array.length_toList, Array.size_mapIdx, List.size_toArray]; exact hlen
      · refine All2.of_get ?_ ?_
        · rw [show (l'.map fun z => [C.d (.v (enc z))]).flatten = l'.map fun z => C.d (.v (enc z)) from flat1 _ _]
          simp only [putCells, List.length_map, List.length_take, Array.length_toList, Array.size_mapIdx, List.size_toArray]
          omega
        · intro i c v hc hv
          rw [show (l'.map fun z => [C.d (.v (enc z))]).flatten = l'.map fun z => C.d (.v (enc z)) from flat1 _ _] at hc
          have hi : i < l'.length := by
            have := (List.getElem?_eq_some_iff.1 hc).1; simpa using this
          simp only [List.getElem?_map, List.getElem?_eq_getElem hi, Option.map_some, Option.some.injEq] at hc
          subst hc
          rw [List.getElem?_take] at hv
          split at hv
          · simp only [putCells, Array.getElem?_toList, Array.getElem?_mapIdx, Nat.zero_le, true_and, Nat.zero_add, Nat.sub_zero, List.size_toArray, hi, if_true] at hv
            obtain ⟨q, hq, rfl⟩ := Option.map_eq_some_iff.1 hv
            rw [getBang l' i hi]
            exact .v _ (h1 _)
          · cases hv
    refine ⟨.tup [], _, bl, cap, _, rfl, ⟨rfl, rfl⟩, by simp, hs1.grew ⟨by simp, fun c hc => ?_, rfl, rfl, rfl, Nat.le_refl _⟩, [], rfl, .nil⟩
    exact heap_grow_old _ _ hc
end Go.Ab
