/- The order of paths is a strict order. -/
import Derived.Test.YtbllfnmabmamfaaGreatDoorQPD
set_option linter.all false

namespace Go.Proofs.YtbllfnmabmamfaaGreatDoor
open Go.Ab
theorem cbl_refl : ∀ l : List UInt8, Lib.compareBytes l l = 0
  | [] => rfl
  | a :: l => by
    have : ¬ a < a := by simp
    rw [Lib.compareBytes, if_neg this, if_neg this]; exact cbl_refl l
theorem cbl_vals : ∀ l m : List UInt8, Lib.compareBytes l m = -1 ∨ Lib.compareBytes l m = 0 ∨ Lib.compareBytes l m = 1
  | [], [] => by simp [Lib.compareBytes]
  | [], _ :: _ => by simp [Lib.compareBytes]
  | _ :: _, [] => by simp [Lib.compareBytes]
  | a :: l, b :: m => by
    rw [Lib.compareBytes]
    split
    · exact .inl rfl
    · split
      · exact .inr (.inr rfl)
      · exact cbl_vals l m
theorem cbl_eq : ∀ l m : List UInt8, Lib.compareBytes l m = 0 → l = m
  | [], [], _ => rfl
  | [], _ :: _, h => by simp [Lib.compareBytes] at h
  | _ :: _, [], h => by simp [Lib.compareBytes] at h
  | a :: l, b :: m, h => by
    rw [Lib.compareBytes] at h
    split at h
    · cases h
    · split at h
      · cases h
      · rename_i h1 h2
        have : a = b := by
          apply UInt8.toNat_inj.1
          simp only [UInt8.lt_iff_toNat_lt] at h1 h2; omega
        rw [this, cbl_eq l m h]
theorem cbl_trans : ∀ l m k : List UInt8, Lib.compareBytes l m < 0 → Lib.compareBytes m k < 0 → Lib.compareBytes l k < 0
  | [], [], _, h, _ => by simp [Lib.compareBytes] at h
  | [], _ :: _, [], _, h => by simp [Lib.compareBytes] at h
  | [], _ :: _, _ :: _, _, _ => by simp [Lib.compareBytes]
  | _ :: _, [], _, h, _ => by simp [Lib.compareBytes] at h
  | _ :: _, _ :: _, [], _, h => by simp [Lib.compareBytes] at h
  | a :: l, b :: m, c :: k, h1, h2 => by
    rw [Lib.compareBytes] at h1 h2 ⊢
    simp only [UInt8.lt_iff_toNat_lt] at h1 h2 ⊢
    split at h1
    · split at h2
      · rw [if_pos (by omega)]; omega
      · split at h2
        · omega
        · rw [if_pos (by omega)]; omega
    · split at h1
      · omega
      · split at h2
        · rw [if_pos (by omega)]; omega
        · split at h2
          · omega
          · rw [if_neg (by omega), if_neg (by omega)]; exact cbl_trans l m k h1 h2
theorem cb_refl (a : ByteArray) : cb a a = 0 := cbl_refl _
theorem cb_eq {a b : ByteArray} (h : cb a b = 0) : a = b := ByteArray.ext (by simpa using congrArg List.toArray (cbl_eq _ _ h))
theorem cb_trans {a b c : ByteArray} (h1 : cb a b < 0) (h2 : cb b c < 0) : cb a c < 0 := cbl_trans _ _ _ h1 h2
theorem cmpL_refl : ∀ l : List ByteArray, cmpL l l = 0
  | [] => rfl
  | a :: l => by rw [cmpL, if_pos (cb_refl a)]; exact cmpL_refl l
theorem cmpL_trans : ∀ l m k : List ByteArray, cmpL l m < 0 → cmpL m k < 0 → cmpL l k < 0
  | [], [], _, h, _ => by simp [cmpL] at h
  | [], _ :: _, [], _, h => by simp [cmpL] at h
  | [], _ :: _, _ :: _, _, _ => by simp [cmpL]
  | _ :: _, [], _, h, _ => by simp [cmpL] at h
  | _ :: _, _ :: _, [], _, h => by simp [cmpL] at h
  | a :: l, b :: m, c :: k, h1, h2 => by
    rw [cmpL] at h1 h2 ⊢
    by_cases e1 : cb a b = 0
    · have := cb_eq e1; subst this
      rw [if_pos e1] at h1
      by_cases e2 : cb a c = 0
      · rw [if_pos e2] at h2 ⊢; exact cmpL_trans l m k h1 h2
      · rw [if_neg e2] at h2 ⊢; exact h2
    · rw [if_neg e1] at h1
      by_cases e2 : cb b c = 0
      · have := cb_eq e2; subst this
        rw [if_neg e1]; exact h1
      · rw [if_neg e2] at h2
        have := cb_trans h1 h2
        rw [if_neg (by omega)]; exact this
theorem ord_path {p q : ByteArray} (hp : (path? p).isSome = true) (hq : (path? q).isSome = true) : ∃ a b, path? p = some a ∧ path? q = some b ∧ ord p q = cmpL a b := by
  cases h1 : path? p with
  | none => rw [h1] at hp; cases hp
  | some a =>
    cases h2 : path? q with
    | none => rw [h2] at hq; cases hq
    | some b => exact ⟨a, b, rfl, rfl, by simp [ord, h1, h2]⟩
theorem ord_trans {p q r : ByteArray} (hp : (path? p).isSome = true) (hq : (path? q).isSome = true) (hr : (path? r).isSome = true) (h1 : ord p q < 0) (h2 : ord q r < 0) : ord p r < 0 := by
  obtain ⟨a, b, ea, eb, e1⟩ := ord_path hp hq
  obtain ⟨b', c, eb', ec, e2⟩ := ord_path hq hr
  rw [eb] at eb'; cases eb'
  obtain ⟨a', c', ea', ec', e3⟩ := ord_path hp hr
  rw [ea] at ea'; cases ea'
  rw [ec] at ec'; cases ec'
  rw [e3]; rw [e1] at h1; rw [e2] at h2
  exact cmpL_trans _ _ _ h1 h2
theorem ord_irr {p : ByteArray} (hp : (path? p).isSome = true) : ord p p = 0 := by
  obtain ⟨a, b, ea, eb, e1⟩ := ord_path hp hp
  rw [ea] at eb; cases eb
  rw [e1]; exact cmpL_refl _
def cmpI (a b : Int) : Int := if a < b then -1 else if b < a then 1 else 0
end Go.Proofs.YtbllfnmabmamfaaGreatDoor

/- Paths: the program's way to look at them, and the reference's. -/
namespace Go.Proofs.YtbllfnmabmamfaaGreatDoor
open Go.Ab
def splitL : List UInt8 → List (List UInt8)
  | [] => [[]]
  | a :: l => if a = 47 then [] :: splitL l else match splitL l with | [] => [[a]] | h :: t => (a :: h) :: t
theorem splitL_cons : ∀ l, ∃ h t, splitL l = h :: t
  | [] => ⟨[], [], rfl⟩
  | a :: l => by
    obtain ⟨h, t, e⟩ := splitL_cons l
    simp only [splitL]
    split
    · exact ⟨_, _, rfl⟩
    · rw [e]; exact ⟨_, _, rfl⟩
def cmpP : List UInt8 → List UInt8 → Int
  | [], [] => 0
  | [], _ :: _ => -1
  | _ :: _, [] => 1
  | a :: l, b :: m => if a = b then cmpP l m else if a = 47 then -1 else if b = 47 then 1 else if a < b then -1 else 1
def cmpLL : List (List UInt8) → List (List UInt8) → Int
  | [], [] => 0
  | [], _ :: _ => -1
  | _ :: _, [] => 1
  | a :: l, b :: m => if Lib.compareBytes a b = 0 then cmpLL l m else Lib.compareBytes a b
theorem cmpP_split : ∀ l m : List UInt8, cmpP l m = cmpLL (splitL l) (splitL m)
  | [], [] => by simp [cmpP, splitL, cmpLL, Lib.compareBytes]
  | [], b :: m => by
    obtain ⟨h, t, e⟩ := splitL_cons m
    simp only [cmpP, splitL]
    split
    · rw [e]; simp [cmpLL, Lib.compareBytes]
    · rw [e]; simp [cmpLL, Lib.compareBytes]
  | a :: l, [] => by
    obtain ⟨h, t, e⟩ := splitL_cons l
    simp only [cmpP, splitL]
    split
    · rw [e]; simp [cmpLL, Lib.compareBytes]
    · rw [e]; simp [cmpLL, Lib.compareBytes]
  | a :: l, b :: m => by
    obtain ⟨h1, t1, e1⟩ := splitL_cons l
    obtain ⟨h2, t2, e2⟩ := splitL_cons m
    have ih := cmpP_split l m
    simp only [cmpP, splitL]
    by_cases hab : a = b
    · subst hab
      rw [if_pos rfl, ih]
      by_cases ha : a = 47
      · rw [if_pos ha, if_pos ha]; simp [cmpLL, Lib.compareBytes]
      · have : ¬ a < a := by simp
        rw [if_neg ha, if_neg ha, e1, e2]
        simp only [cmpLL]
        rw [show Lib.compareBytes (a :: h1) (a :: h2) = Lib.compareBytes h1 h2 by rw [Lib.compareBytes, if_neg this, if_neg this]]
    · rw [if_neg hab]
      by_cases ha : a = 47
      · have hb : ¬ b = 47 := by rintro rfl; exact hab ha
        rw [if_pos ha, if_pos ha, if_neg hb, e2]; simp [cmpLL, Lib.compareBytes]
      · rw [if_neg ha, if_neg ha]
        by_cases hb : b = 47
        · rw [if_pos hb, if_pos hb, e1]; simp [cmpLL, Lib.compareBytes]
        · rw [if_neg hb, if_neg hb, e1, e2]
          simp only [cmpLL]
          by_cases hl : a < b
          · rw [if_pos hl, Lib.compareBytes, if_pos hl]; simp
          · have hg : b < a := by
              simp only [UInt8.lt_iff_toNat_lt] at hl ⊢
              have : a.toNat ≠ b.toNat := fun h => hab (UInt8.toNat_inj.1 h)
              omega
            rw [if_neg hl, Lib.compareBytes, if_neg hl, if_pos hg]; simp
def mkB (l : List UInt8) : ByteArray := ⟨l.toArray⟩
theorem mkB_list (l : List UInt8) : (mkB l).data.toList = l := rfl
theorem mkB_of (s : ByteArray) : mkB s.data.toList = s := rfl
theorem splitL_no : ∀ {pre : List UInt8}, (∀ x ∈ pre, x ≠ 47) → splitL pre = [pre]
  | [], _ => rfl
  | a :: l, h => by
    rw [splitL, if_neg (h a (by simp)), splitL_no fun x hx => h x (by simp [hx])]
theorem splitL_pre : ∀ {pre post : List UInt8}, (∀ x ∈ pre, x ≠ 47) → splitL (pre ++ 47 :: post) = pre :: splitL post
  | [], _, _ => by simp [splitL]
  | a :: l, post, h => by
    rw [List.cons_append, splitL, if_neg (h a (by simp)), splitL_pre fun x hx => h x (by simp [hx])]
theorem idx_spec : ∀ l : List UInt8, (Lib.indexByte l 47 < 0 ∧ ∀ x ∈ l, x ≠ 47) ∨ ∃ pre post, l = pre ++ 47 :: post ∧ Lib.indexByte l 47 = pre.length ∧ ∀ x ∈ pre, x ≠ 47
  | [] => .inl ⟨by simp [Lib.indexByte], by simp⟩
  | a :: l => by
    by_cases ha : a = 47
    · subst ha; exact .inr ⟨[], l, rfl, by simp [Lib.indexByte], by simp⟩
    · rcases idx_spec l with ⟨h1, h2⟩ | ⟨pre, post, h1, h2, h3⟩
      · refine .inl ⟨?_, ?_⟩
        · have := Lib.indexByte_ge l 47
          have e : Lib.indexByte l 47 = -1 := by omega
          simp [Lib.indexByte, ha, e]
        · intro x hx
          rcases List.mem_cons.1 hx with rfl | hx
          · exact ha
          · exact h2 x hx
      · refine .inr ⟨a :: pre, post, by rw [h1]; rfl, ?_, ?_⟩
        · have : ¬ (pre.length : Int) = -1 := by omega
          simp [Lib.indexByte, ha, h2, this]
        · intro x hx
          rcases List.mem_cons.1 hx with rfl | hx
          · exact ha
          · exact h3 x hx
theorem splitN_L : ∀ (n : Nat) (l : List UInt8), Lib.countByte l 47 ≤ n → splitN n (mkB l) = (splitL l).map mkB
  | 0, l, h => by
    have : ∀ x ∈ l, x ≠ 47 := by
      intro x hx e
      subst e
      have := List.count_pos_iff.2 hx
      simp only [Lib.countByte] at h; omega
    rw [splitL_no this]; rfl
  | n + 1, l, h => by
    rcases idx_spec l with ⟨h1, h2⟩ | ⟨pre, post, h1, h2, h3⟩
    · rw [splitL_no h2, splitN_neg (by simpa [idxS, mkB_list] using h1)]; rfl
    · have hi : idxS (mkB l) = pre.length := h2
      have hnn : ¬ idxS (mkB l) < 0 := by omega
      subst h1
      rw [splitL_pre h3, splitN, if_neg hnn, hi, List.map_cons]
      have hc : Lib.countByte post 47 ≤ n := by
        simp only [Lib.countByte] at h ⊢
        rw [List.count_append, List.count_cons_self] at h; omega
      rw [← splitN_L n post hc]
      congr 1
      · apply ByteArray.ext; rw [ByteArray.data_extract]; simp [mkB]
      · congr 1
        apply ByteArray.ext; rw [ByteArray.data_extract]; simp [mkB, ByteArray.size]; exact List.take_of_length_le (by omega)
theorem split_L (s : ByteArray) : split s = (splitL s.data.toList).map mkB := splitN_L _ _ (Nat.le_refl _)
theorem cmpL_L : ∀ a b : List (List UInt8), cmpL (a.map mkB) (b.map mkB) = cmpLL a b
  | [], [] => rfl
  | [], _ :: _ => rfl
  | _ :: _, [] => rfl
  | a :: l, b :: m => by
    simp only [List.map_cons, cmpL, cmpLL, cb, mkB_list, cmpL_L l m]
theorem byteAt_get {p : ByteArray} {k : Nat} (hk : k < p.size) : ∃ x, p.data.toList[k]? = some x ∧ byteAt p k = (x.toNat : Int) := by
  have h : k < p.data.size := hk
  exact ⟨p.data[k], by simp [h], by simp [byteAt, Array.getD, h, hk]⟩
theorem byteAt_47 {p : ByteArray} {k : Nat} {x : UInt8} (hx : p.data.toList[k]? = some x) : byteAt p k = 47 ↔ x = 47 := by
  have hk : k < p.size := by have := (List.getElem?_eq_some_iff.1 hx).1; simpa using this
  obtain ⟨y, h1, h2⟩ := byteAt_get hk
  rw [hx] at h1; cases h1
  rw [h2]
  constructor
  · intro h; exact UInt8.toNat_inj.1 (by simpa using (by omega : x.toNat = 47))
  · rintro rfl; rfl
theorem mkB_seg (p : ByteArray) (b i : Nat) : mkB ((p.data.toList.drop b).take (i - b)) = p.extract b i := by
  apply ByteArray.ext
  rw [ByteArray.data_extract]
  simp only [mkB]
  apply Array.ext'
  simp [List.extract, List.drop_take]
def vB (p : ByteArray) (c b : Nat) : Bool := if b ≤ p.size then (splitL (p.data.toList.drop b)).all (fun x => comp (mkB x)) && decide (2 ≤ c + (splitL (p.data.toList.drop b)).length) else decide (2 ≤ c)
theorem vB_next {p : ByteArray} {c b i : Nat} (hb : b ≤ i) (hi : i ≤ p.size) (hno : ∀ k, b ≤ k → k < i → byteAt p k ≠ 47) (hst : i = p.size ∨ (i < p.size ∧ byteAt p i = 47)) :
    vB p c b = (comp (p.extract b i) && vB p (c + 1) (i + 1)) := by
  have hn : ∀ x ∈ (p.data.toList.drop b).take (i - b), x ≠ 47 := by
    intro x hx e
    obtain ⟨k, hk⟩ := List.getElem?_of_mem hx
    have hkl := (List.getElem?_eq_some_iff.1 hk).1
    simp at hkl
    rw [List.getElem?_take, if_pos (by omega), List.getElem?_drop] at hk
    exact hno (b + k) (by omega) (by omega) ((byteAt_47 hk).2 e)
  rw [← mkB_seg]
  unfold vB
  rw [if_pos (by omega)]
  rcases hst with h | ⟨h, h47⟩
  · have hall : (p.data.toList.drop b).take (i - b) = p.data.toList.drop b := List.take_of_length_le (by have : p.data.size = p.size := rfl; simp; omega)
    rw [hall] at hn ⊢
    rw [splitL_no hn, if_neg (by omega)]
    simp
  · obtain ⟨x, hx, _⟩ := byteAt_get h
    have hx47 := (byteAt_47 hx).1 h47
    subst hx47
    have e : p.data.toList.drop b = (p.data.toList.drop b).take (i - b) ++ 47 :: p.data.toList.drop (i + 1) := by
      have h1 : (p.data.toList.drop b).drop (i - b) = 47 :: p.data.toList.drop (i + 1) := by
        rw [List.drop_drop, show b + (i - b) = i by omega, List.drop_eq_getElem?_toList_append, hx]; rfl
      conv => lhs; rw [← List.take_append_drop (i - b) (p.data.toList.drop b), h1]
    have e2 : splitL (p.data.toList.drop b) = (p.data.toList.drop b).take (i - b) :: splitL (p.data.toList.drop (i + 1)) := by
      conv => lhs; rw [e]
      exact splitL_pre hn
    rw [e2, if_pos (by omega), List.all_cons, List.length_cons, Bool.and_assoc, show c + 1 + (splitL (p.data.toList.drop (i + 1))).length = c + ((splitL (p.data.toList.drop (i + 1))).length + 1) by omega]
theorem vB_start {p : ByteArray} (h : hasPrefix p dslash = true) : (path? p).isSome = vB p 0 2 := by
  have h2 : 2 ≤ p.size := by
    exact of_decide_eq_true (Bool.and_eq_true_iff.1 h).1
  have hb : (p.extract 2 p.size).data.toList = p.data.toList.drop 2 := by
    rw [← mkB_seg, mkB_list]
    exact List.take_of_length_le (by simp)
  have hs : split (p.extract 2 p.size) = (splitL (p.data.toList.drop 2)).map mkB := by rw [split_L, hb]
  unfold path? parts? vB
  rw [if_pos h, if_pos h2, hs, List.all_map]
  cases ha : (splitL (p.data.toList.drop 2)).all fun x => comp (mkB x) with
  | true =>
    rw [if_pos (by simpa [Function.comp] using ha)]
    simp only [List.length_map, Bool.true_and, Nat.zero_add]
    by_cases hl : (splitL (p.data.toList.drop 2)).length < 2
    · rw [if_pos hl]; symm; simp; omega
    · rw [if_neg hl]; symm; simp; omega
  | false =>
    rw [if_neg (by simpa [Function.comp] using ha)]
    simp
theorem path_noprefix {p : ByteArray} (h : hasPrefix p dslash = false) : (path? p).isSome = false := by
  simp [path?, parts?, h]
theorem cmpP_ord {p q : ByteArray} (hp : (path? p).isSome = true) (hq : (path? q).isSome = true) : cmpP p.data.toList q.data.toList = ord p q := by
  have key : ∀ {p : ByteArray}, (path? p).isSome = true → ∃ l, p.data.toList = 47 :: 47 :: l ∧ path? p = some ((splitL l).map mkB) := by
    intro p hp
    have hpre : hasPrefix p dslash = true := by
      cases h : hasPrefix p dslash with
      | true => rfl
      | false => rw [path_noprefix h] at hp; cases hp
    have h2 : 2 ≤ p.size := by
      exact of_decide_eq_true (Bool.and_eq_true_iff.1 hpre).1
    have hext : p.extract 0 2 = dslash := by
      have := (Bool.and_eq_true_iff.1 hpre).2
      exact of_decide_eq_true this
    have hb : (p.extract 2 p.size).data.toList = p.data.toList.drop 2 := by
      rw [← mkB_seg, mkB_list]
      exact List.take_of_length_le (by simp)
    refine ⟨p.data.toList.drop 2, ?_, ?_⟩
    · have : (p.data.toList.drop 0).take (2 - 0) = [47, 47] := by
        have := mkB_seg p 0 2
        rw [hext] at this
        have := congrArg (fun b : ByteArray => b.data.toList) this
        simpa [mkB] using this
      conv => lhs; rw [← List.take_append_drop 2 p.data.toList]
      rw [show p.data.toList.take 2 = [47, 47] by simpa using this]; rfl
    · have hs : split (p.extract 2 p.size) = (splitL (p.data.toList.drop 2)).map mkB := by rw [split_L, hb]
      unfold path? parts? at hp ⊢
      rw [if_pos hpre, hs] at hp ⊢
      by_cases ha : ((splitL (p.data.toList.drop 2)).map mkB).all comp = true
      · rw [if_pos ha] at hp ⊢
        simp only at hp ⊢
        split
        · rename_i hl; rw [if_pos hl] at hp; cases hp
        · rfl
      · rw [if_neg ha] at hp; cases hp
  obtain ⟨l, e1, p1⟩ := key hp
  obtain ⟨m, e2, p2⟩ := key hq
  rw [e1, e2]
  have : cmpP (47 :: 47 :: l) (47 :: 47 :: m) = cmpP l m := by simp [cmpP]
  rw [this, cmpP_split]
  unfold ord
  rw [p1, p2]
  exact (cmpL_L _ _).symm
end Go.Proofs.YtbllfnmabmamfaaGreatDoor
