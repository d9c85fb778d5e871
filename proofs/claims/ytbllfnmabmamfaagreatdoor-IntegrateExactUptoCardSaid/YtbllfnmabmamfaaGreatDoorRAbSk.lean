/- A part of the proof. -/
import Derived.Test.YtbllfnmabmamfaaGreatDoorQAbSo
import Derived.Deep.Draws
set_option linter.all false
namespace Go.Ab
open Go.Sort
@[reducible] def vArr (sz : Nat) (xs : List (List Value)) : AO := .arr sz (xs.map fun x => x.map fun v => C.d (.v v))
theorem vArr_flat (xs : List (List Value)) : (xs.map fun x => x.map fun v => C.d (.v v)).flatten = xs.flatten.map fun v => C.d (.v v) := by rw [List.map_flatten]
theorem flat_len {sz : Nat} : ∀ {xs : List (List Value)}, (∀ x ∈ xs, x.length = sz) → xs.flatten.length = xs.length * sz
  | [], _ => by simp
  | x :: l, h => by
    have := flat_len (xs := l) fun y hy => h y (List.mem_cons_of_mem _ hy)
    have := h x List.mem_cons_self
    simp only [List.flatten_cons, List.length_append, List.length_cons, Nat.add_mul, Nat.one_mul]; omega
theorem AC_sortK {P : Program} {f : FuncId} {sz : Nat} (hz : 0 < sz) {xs : List (List Value)} (hx : ∀ x ∈ xs, x.length = sz) {extra : List Value} {Q : List (List Value) → Prop}
    (hQ : ∀ ys, Q ys → ys.length = xs.length ∧ ∀ y ∈ ys, y.length = sz ∧ ∀ v ∈ y, v.oneCell' = true) (hc : Callable P f)
    (hC : ∀ blk off cap w, Holds id w blk off xs.flatten.toArray → blk < w.heap.size → Calls P f (.slice (some ⟨blk, off, none⟩) xs.length cap :: extra).toArray w fun e w' => e = .returned (.tuple #[]) ∧ ∃ ys n os, Q ys ∧ w' = grow (putRow id (Sort.ahead w n) blk off ys.flatten.toArray) os)
    (hnil : xs = [] → ∀ p cap w, Calls P f (.slice p 0 cap :: extra).toArray w fun e w' => e = .returned (.tuple #[]) ∧ w' = w) (hQ0 : xs = [] → Q []) (id' : Nat) :
    AC P f (.c (.ms id' sz 0 xs.length) :: extra.map fun v => .c (.d (.v v))) [(id', vArr sz xs)] (fun r st => r = .tup [] ∧ ∃ ys, Q ys ∧ st = [(id', vArr sz ys)]) := by
  refine ⟨hc, ?_⟩
  intro bl cap F w us hs hargs
  have hid : get [(id', vArr sz xs)] id' = some (vArr sz xs) := by simp [get]
  have hput : ∀ ys, put [(id', vArr sz xs)] id' (vArr sz ys) = [(id', vArr sz ys)] := fun ys => by simp [put]
  cases hargs with
  | cons hv ht =>
  rename_i u us'
  have hus : us' = extra := by
    rw [All2.map_left] at ht
    clear hC hnil
    induction ht with
    | nil => rfl
    | cons h _ ih =>
      rename_i a b as bs _
      have h' : RepD _ _ (.v a) b := h
      cases h'
      rw [ih]
  subst hus
  obtain ⟨_, hle, hv⟩ := hv
  obtain ⟨g1, g2, g3, g4⟩ := hs.objs id' _ hid
  simp only [mkK, Nat.zero_add, Nat.sub_zero, List.length_map, Nat.zero_mul] at hv g1 hle g4
  rcases hv with ⟨c0, a, rfl⟩ | ⟨c0, b, hb, rfl⟩
  · have hl0 : xs = [] := List.length_eq_zero_iff.1 (by omega)
    subst hl0
    refine (hnil rfl a 0 w).mono ?_
    rintro e w' ⟨rfl, rfl⟩
    exact ⟨.tup [], _, bl, cap, _, rfl, ⟨rfl, [], hQ0 rfl, rfl⟩, by simp, hs, [], rfl, .nil⟩
  · rcases g4 with ⟨c1, _⟩ | ⟨b', T, vs, hb', hh, hlen, hA⟩
    · exact absurd c1 c0
    rw [hb] at hb'
    cases hb'
    have hbl : b < w.heap.size := by
      rcases Nat.lt_or_ge b w.heap.size with h | h
      · exact h
      · rw [Array.getElem?_eq_none h] at hh; cases hh
    have hfl := flat_len hx
    rw [vArr_flat] at hA
    have hcell : ∀ j (hj : j < xs.flatten.length), vs[j]? = some xs.flatten[j] := by
      intro j hj
      have e1 : (xs.flatten.map fun v => C.d (.v v))[j]? = some (C.d (.v xs.flatten[j])) := by rw [List.getElem?_map, List.getElem?_eq_getElem hj]; rfl
      obtain ⟨u, hu, hr⟩ := hA.get e1
      rw [List.getElem?_take] at hu
      split at hu
      · rw [hu]; congr 1
        have hr' : RepD _ _ (.v xs.flatten[j]) u := hr
        cases hr'; rfl
      · cases hu
    have hH : Holds id w b 0 xs.flatten.toArray := by
      intro j hj
      simp only [List.size_toArray] at hj
      rw [getBang xs.flatten j hj]
      constructor
      · simp only [World.cell?, hh, Nat.zero_add]
        simpa using hcell j hj
      · simp [World.frozen?, hh]
    refine (hC b 0 (cap id') w hH hbl).mono ?_
    rintro e w' ⟨rfl, ys, n, os, hq, rfl⟩
    obtain ⟨q1, q2⟩ := hQ ys hq
    have hfy := flat_len fun y hy => (q2 y hy).1
    rw [q1] at hfy
    have hheap : ∀ c, c ≠ b → (putRow id (Sort.ahead w n) b 0 ys.flatten.toArray).heap[c]? = w.heap[c]? := by
      intro c hcb
      simp only [putRow, mapBlock, Array.getElem?_modify, heap_ahead]
      rw [if_neg (Ne.symm hcb)]
    have hat : (putRow id (Sort.ahead w n) b 0 ys.flatten.toArray).heap[b]? = some (.cells (putCells id 0 ys.flatten.toArray (List.toArray vs)) T (0, 0)) := by
      simp only [putRow, mapBlock, Array.getElem?_modify, heap_ahead, if_true, hh, Option.map_some, onCells]
    have hs1 : SatS (X.start bl cap F [(id', vArr sz xs)] w) bl cap [(id', vArr sz ys)] (putRow id (Sort.ahead w n) b 0 ys.flatten.toArray) := by
      rw [← hput ys]
      refine hs.upd hid rfl ⟨by simp, fun c hcb => hheap c (by rw [hb] at hcb; simpa using hcb), rfl, rfl, rfl, Nat.le_add_right _ _⟩ ?_
      refine ⟨?_, ?_, hz, .inr ⟨b, T, (putCells id 0 ys.flatten.toArray (List.toArray vs)).toList, ?_, ?_, ?_, ?_⟩⟩
      · simp only [mkK, List.length_map]; omega
      · intro y hy
        obtain ⟨z, hz, rfl⟩ := List.mem_map.1 hy
        rw [List.length_map]; exact (q2 z hz).1
      · exact hb
      · simp only [mkK]; rw [hat]
      · simp only [mkK, putCells, Array.length_toList, Array.size_mapIdx, List.size_toArray]; exact hlen
      · have hcs : (xs.length : Nat) * sz ≤ cap id' * sz := Nat.mul_le_mul_right _ g1
        rw [vArr_flat]
        refine All2.of_get ?_ ?_
        · simp only [putCells, List.length_map, List.length_take, Array.length_toList, Array.size_mapIdx, List.size_toArray]
          rw [q1]; omega
        · intro i c v hc hv
          have hi : i < ys.flatten.length := by
            have := (List.getElem?_eq_some_iff.1 hc).1; rwa [List.length_map] at this
          simp only [List.getElem?_map, List.getElem?_eq_getElem hi, Option.map_some, Option.some.injEq] at hc
          subst hc
          rw [List.getElem?_take] at hv
          split at hv
          · simp only [putCells, Array.getElem?_toList, Array.getElem?_mapIdx, Nat.zero_le, true_and, Nat.zero_add, Nat.sub_zero, List.size_toArray, hi, if_true] at hv
            obtain ⟨q, hq', rfl⟩ := Option.map_eq_some_iff.1 hv
            rw [getBang ys.flatten i hi]
            obtain ⟨y, hy1, hy2⟩ := List.mem_flatten.1 (List.getElem_mem hi)
            exact .v _ ((q2 y hy1).2 _ hy2)
          · cases hv
    refine ⟨.tup [], _, bl, cap, _, rfl, ⟨rfl, ys, hq, rfl⟩, by simp, hs1.grew ⟨by simp, fun c hc => ?_, rfl, rfl, rfl, Nat.le_refl _⟩, [], rfl, .nil⟩
    exact heap_grow_old _ _ hc
theorem AC_lays {P : Program} {g : FuncId} {args : List AV} {r : Value} (hr : r.oneCell' = true) (h : AC P g args [] (fun x st => x = .c (.d (.v r)) ∧ st = [])) (us : List Value)
    (ha : ∀ k, All2 (RepAV k) args us) (W : World) : Calls P g us.toArray W fun e w' => e = .returned r ∧ ∃ q os', w' = grow (W.drewN q) os' := by
  have hM : ∀ bl b, ¬ MM bl [] b := by
    rintro bl b ⟨id, o, h, _⟩; simp [get] at h
  have hs : SatS (X.start (fun _ => []) (fun _ => 0) (fun _ => False) [] W) (fun _ => []) (fun _ => 0) [] W := {
    objs := fun i o ho => by simp [get] at ho
    disj := fun i i' o o' b ho => by simp [get] at ho
    nodup := fun i o ho => by simp [get] at ho
    new := fun b hb => absurd hb (hM _ b)
    lt := fun b hb => absurd hb (hM _ b)
    fr := ⟨Nat.le_refl _, fun _ _ _ => rfl, rfl, rfl, rfl, Nat.le_refl _⟩
    keep := fun i hi => by simp [X.start, get] at hi
    xok := ⟨fun b hb => False.elim hb, fun b hb => False.elim hb⟩ }
  refine (h.2 _ _ _ W us hs (ha _)).mono ?_
  rintro e w' ⟨x, st', bl', cap', v, rfl, ⟨rfl, rfl⟩, _, hs', hv⟩
  have hv' : RepD _ _ (.v r) v := hv
  cases hv'
  refine ⟨rfl, w'.drawn - W.drawn, w'.heap.extract W.heap.size w'.heap.size, ?_⟩
  have h1 := hs'.fr.size
  have h2 := hs'.fr.drawn
  have h3 : w'.heap = W.heap ++ w'.heap.extract W.heap.size w'.heap.size := by
    apply Array.ext_getElem?
    intro k
    rw [Array.getElem?_append]
    split
    · rename_i hk
      exact hs'.fr.heap k hk (hM _ k)
    · rename_i hk
      rw [Array.getElem?_extract]
      simp only [X.start] at h1
      by_cases hk2 : k < w'.heap.size
      · rw [if_pos (by omega)]; congr 1; omega
      · rw [if_neg (by omega), Array.getElem?_eq_none (by omega)]
  obtain ⟨heap, tape, drawn, os, output⟩ := w'
  obtain ⟨heap0, tape0, drawn0, os0, output0⟩ := W
  have h4 := hs'.fr.tape
  have h5 := hs'.fr.os
  have h6 := hs'.fr.output
  simp only [X.start] at h1 h2 h3 h4 h5 h6
  simp only [grow, World.drewN]
  subst h4 h5 h6
  rw [← h3, Nat.add_sub_cancel' h2]
end Go.Ab
