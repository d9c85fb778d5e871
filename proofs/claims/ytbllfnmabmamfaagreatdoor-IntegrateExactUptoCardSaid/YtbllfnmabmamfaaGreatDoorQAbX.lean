/- What an operation reads; regions that draw their order, by one run. -/
import Derived.Test.YtbllfnmabmamfaaGreatDoorQAbW
set_option linter.all false

namespace Go.Ab
def idOf : AV → List Nat
  | .c (.ptr id _) => [id]
  | .c (.ep id _ _ _) => [id]
  | .c (.ms id _ _ _) => [id]
  | .c (.mp id) => [id]
  | _ => []
section
variable {P : Program} {ob ob' : Nat → Option AO}
theorem effLoad_local {T : TypeId} {v : AV} (h : ∀ id ∈ idOf v, ob id = ob' id) : effLoad P T v ob = effLoad P T v ob' := by
  unfold effLoad
  cases ti P T with
  | none => rfl
  | some t => cases v with
    | c y => cases y <;> simp only [idOf, List.mem_singleton, forall_eq] at h ⊢ <;> rw [h]
    | _ => rfl
theorem effStore_local {T : TypeId} {v u : AV} (h : ∀ id ∈ idOf v, ob id = ob' id) : effStore P T v u ob = effStore P T v u ob' := by
  unfold effStore
  cases ti P T with
  | none => rfl
  | some t => cases cellsOf u with
    | none => rfl
    | some cs => cases v with
      | c y => cases y <;> simp only [idOf, List.mem_singleton, forall_eq] at h ⊢ <;> rw [h]
      | _ => rfl
theorem effLen_local {T : TypeId} {v : AV} (h : ∀ id ∈ idOf v, ob id = ob' id) : effLen P T v ob = effLen P T v ob' := by
  unfold effLen
  split <;> first | rfl | (simp only [idOf, List.mem_singleton, forall_eq] at h; rw [h]) | (split <;> first | rfl | (simp only [idOf, List.mem_singleton, forall_eq] at h; rw [h]) | (split <;> first | rfl | (simp only [idOf, List.mem_singleton, forall_eq] at h; rw [h]) | (split <;> first | rfl | (simp only [idOf, List.mem_singleton, forall_eq] at h; rw [h]))))
theorem elemsOf_local {v : AV} (h : ∀ id ∈ idOf v, ob id = ob' id) : elemsOf v ob = elemsOf v ob' := by
  unfold elemsOf
  split <;> first | rfl | (simp only [idOf, List.mem_singleton, forall_eq] at h; rw [h]) | (split <;> first | rfl | (simp only [idOf, List.mem_singleton, forall_eq] at h; rw [h]) | (split <;> first | rfl | (simp only [idOf, List.mem_singleton, forall_eq] at h; rw [h]) | (split <;> first | rfl | (simp only [idOf, List.mem_singleton, forall_eq] at h; rw [h]))))
theorem entsOf_local {v : AV} (h : ∀ id ∈ idOf v, ob id = ob' id) : entsOf v ob = entsOf v ob' := by
  unfold entsOf
  split <;> first | rfl | (simp only [idOf, List.mem_singleton, forall_eq] at h; rw [h]) | (split <;> first | rfl | (simp only [idOf, List.mem_singleton, forall_eq] at h; rw [h]) | (split <;> first | rfl | (simp only [idOf, List.mem_singleton, forall_eq] at h; rw [h]) | (split <;> first | rfl | (simp only [idOf, List.mem_singleton, forall_eq] at h; rw [h]))))
theorem effAppend_local {T T' id : Nat} {u v : AV} (h0 : ob id = ob' id) (hu : ∀ id ∈ idOf u, ob id = ob' id) (hv : ∀ id ∈ idOf v, ob id = ob' id) : effAppend P T T' id u v ob = effAppend P T T' id u v ob' := by
  unfold effAppend
  rw [h0, elemsOf_local hv]
  split <;> first | rfl | (simp only [idOf, List.mem_singleton, forall_eq] at hu; rw [hu]) | (split <;> first | rfl | (simp only [idOf, List.mem_singleton, forall_eq] at hu; rw [hu]) | (split <;> first | rfl | (simp only [idOf, List.mem_singleton, forall_eq] at hu; rw [hu]) | (split <;> first | rfl | (simp only [idOf, List.mem_singleton, forall_eq] at hu; rw [hu]))))
theorem effMapUpdate_local {T : TypeId} {m k v : AV} (h : ∀ id ∈ idOf m, ob id = ob' id) : effMapUpdate P T m k v ob = effMapUpdate P T m k v ob' := by
  unfold effMapUpdate
  split <;> first | rfl | (simp only [idOf, List.mem_singleton, forall_eq] at h; rw [h]) | (split <;> first | rfl | (simp only [idOf, List.mem_singleton, forall_eq] at h; rw [h]) | (split <;> first | rfl | (simp only [idOf, List.mem_singleton, forall_eq] at h; rw [h]) | (split <;> first | rfl | (simp only [idOf, List.mem_singleton, forall_eq] at h; rw [h]))))
theorem effEntry_local {v : AV} (h : ∀ id ∈ idOf v, ob id = ob' id) : effEntry v ob = effEntry v ob' := by
  unfold effEntry
  split <;> first | rfl | (simp only [idOf, List.mem_singleton, forall_eq] at h; rw [h]) | (split <;> first | rfl | (simp only [idOf, List.mem_singleton, forall_eq] at h; rw [h]) | (split <;> first | rfl | (simp only [idOf, List.mem_singleton, forall_eq] at h; rw [h]) | (split <;> first | rfl | (simp only [idOf, List.mem_singleton, forall_eq] at h; rw [h]))))
theorem effLookup_local {T : TypeId} {m k : AV} {ok : Bool} (h : ∀ id ∈ idOf m, ob id = ob' id) : effLookup P T m k ok ob = effLookup P T m k ok ob' := by
  unfold effLookup; rw [entsOf_local h]
theorem evParts_local {e e' : Operand → Option AV} : ∀ {ps : List (Nat × Operand)}, (∀ y ∈ ps.map (·.2), e y = e' y) → evParts e ps = evParts e' ps
  | [], _ => rfl
  | p :: ps, h => by
    simp only [evParts]
    rw [h p.2 (by simp), evParts_local fun y hy => h y (by simp at hy ⊢; exact .inr hy)]
theorem evCaps_local {e e' : Operand → Option AV} : ∀ {ys : List Operand}, (∀ y ∈ ys, e y = e' y) → evCaps e ys = evCaps e' ys
  | [], _ => rfl
  | y :: ys, h => by
    simp only [evCaps]
    rw [h y (by simp), evCaps_local fun z hz => h z (by simp [hz])]
def noOb : Op → Bool
  | .move _ | .assign _ | .indexAddr _ _ _ | .fieldAddr _ _ _ => true
  | _ => false
theorem eff_local {wr : Bool} {op : Op} {id : Nat} {e e' : Operand → Option AV} (he : ∀ y ∈ op.operands, e y = e' y) (hob0 : noOb op = false → ∀ y ∈ op.operands, ∀ v, e y = some v → ∀ i ∈ idOf v, ob i = ob' i) (hid : ob id = ob' id) :
    eff P wr op id e ob = eff P wr op id e' ob' := by
  have bnd : ∀ {y : Operand} {f g : AV → Option Out}, y ∈ op.operands → (∀ v, e y = some v → f v = g v) → (e y).bind f = (e' y).bind g := by
    intro y f g hy h
    rw [← he y hy]
    cases hv : e y with
    | none => rfl
    | some v => exact h v hv
  have hob : noOb op = true ∨ ∀ y ∈ op.operands, ∀ v, e y = some v → ∀ i ∈ idOf v, ob i = ob' i := by
    cases h : noOb op
    · exact .inr (hob0 h)
    · exact .inl rfl
  clear hob0
  unfold eff
  split
  all_goals (simp only [Op.operands, Call.operands, noOb, Bool.false_eq_true, false_or] at bnd hob he)
  · rw [he _ (by simp)]
  · rw [he _ (by simp)]
  · unfold effAlloc; rw [hid]
  · exact bnd (by simp) fun v _ => by unfold effBox; rw [hid]
  · exact bnd (by simp) fun v hv => effLoad_local (hob _ (by simp) v hv)
  · exact bnd (by simp) fun v hv => bnd (by simp) fun u _ => effStore_local (hob _ (by simp) v hv)
  · exact bnd (by simp) fun v _ => rfl
  · exact bnd (by simp) fun v _ => bnd (by simp) fun u _ => rfl
  · exact bnd (by simp) fun v _ => rfl
  · exact bnd (by simp) fun v _ => rfl
  · exact bnd (by simp) fun v _ => rfl
  · exact bnd (by simp) fun v _ => bnd (by simp) fun u _ => rfl
  · exact bnd (by simp) fun v _ => bnd (by simp) fun u _ => rfl
  · exact bnd (by simp) fun v _ => rfl
  · exact bnd (by simp) fun v hv => effLen_local (hob _ (by simp) v hv)
  · exact bnd (by simp) fun v hv => bnd (by simp) fun u hu => effAppend_local hid (hob _ (by simp) v hv) (hob _ (by simp) u hu)
  · exact bnd (by simp) fun v _ => bnd (by simp) fun u _ => rfl
  · exact bnd (by simp) fun v _ => bnd (by simp) fun u _ => rfl
  · rw [evParts_local fun y hy => he y (by simpa using hy)]
  · rw [evParts_local fun y hy => he y (by simpa using hy)]
    congr 1; funext vs; unfold effBuildSlice; rw [hid]
  · exact bnd (by simp) fun v _ => bnd (by simp) fun u _ => by unfold effMakeSlice; rw [hid]
  · unfold effMakeMap; rw [hid]
  · exact bnd (by simp) fun v _ => by unfold mkMapHint effMakeMap; rw [hid]
  · exact bnd (by simp) fun v _ => bnd (by simp) fun u _ => bnd (by simp) fun t _ => rfl
  · exact bnd (by simp) fun v _ => bnd (by simp) fun u _ => rfl
  · exact bnd (by simp) fun v _ => bnd (by simp) fun u _ => rfl
  · exact bnd (by simp) fun v _ => rfl
  · exact bnd (by simp) fun v hv => bnd (by simp) fun u _ => effLookup_local (hob _ (by simp) v hv)
  · exact bnd (by simp) fun v hv => bnd (by simp) fun u _ => bnd (by simp) fun t _ => effMapUpdate_local (hob _ (by simp) v hv)
  · exact bnd (by simp) fun v hv => bnd (by simp) fun u _ => bnd (by simp) fun t _ => effMapUpdate_local (hob _ (by simp) v hv)
  · exact bnd (by simp) fun v _ => by unfold effRange; rw [hid]
  · exact bnd (by simp) fun v hv => effEntry_local (hob _ (by simp) v hv)
  · rw [evCaps_local fun y hy => he y (by simpa using hy)]
  · rfl
end
end Go.Ab
