/- A part of the proof. -/
import Derived.Test.YtbllfnmabmamfaaGreatDoorQAbCk
import Derived.Lib.Bytealg
set_option linter.all false
namespace Go.Ab
theorem cbT : ∀ l m : List UInt8, (Op.bytesLess l m = true ↔ Lib.compareBytes l m < 0) ∧ ((Op.bytesLess l m || l == m) = false ↔ 0 < Lib.compareBytes l m)
  | [], [] => by simp [Op.bytesLess, Lib.compareBytes]
  | [], _ :: _ => by simp [Op.bytesLess, Lib.compareBytes]
  | _ :: _, [] => by simp [Op.bytesLess, Lib.compareBytes]
  | a :: l, b :: m => by
    obtain ⟨i1, i2⟩ := cbT l m
    simp only [Op.bytesLess, Lib.compareBytes]
    by_cases h1 : a < b
    · simp [h1]
    · by_cases h2 : b < a
      · have : ¬ a = b := by rintro rfl; exact absurd h2 h1
        simp [h1, h2, this]
      · have : a = b := by
          have h3 := UInt8.not_lt.1 h1
          have h4 := UInt8.not_lt.1 h2
          exact UInt8.le_antisymm h4 h3
        subst this
        simp only [h1, if_false, decide_false, Bool.false_or, beq_self_eq_true, Bool.true_and]
        refine ⟨i1, ?_⟩
        rw [← i2]; simp
section
variable {P : Program} {x : X}
theorem TO_strop {Q : Exit → S → Prop} {s : S} {ops l : List Oper} {d : Tmp} {op : BinOp} {T T' : TypeId} {y z : Operand} {ty : TypeId} {pos : String} {after : Array Edge} {p q : ByteArray} {b : Bool} (hd : d < s.n)
    (hy : ev s y = some (Str p)) (hz : ev s z = some (Str q)) (hb : (op = .lss ∧ b = decide (Lib.compareBytes p.data.toList q.data.toList < 0)) ∨ (op = .gtr ∧ b = decide (0 < Lib.compareBytes p.data.toList q.data.toList)))
    (hk : TO P x ops l ⟨s.n, put s.env d (B b), s.st⟩ Q) : TO P x ops (⟨some d, .binOp op T y z T', ty, pos, after, none⟩ :: l) s Q := by
  rintro a w ⟨bl, cap, hs, henv, hdf, hsz⟩
  have h1 : a.eval y = .string p := rep_v (ev_rep henv hy)
  have h2 : a.eval z = .string q := rep_v (ev_rep henv hz)
  refine wpList_plain rfl fun K hK => ?_
  unfold Oper.wp
  have hrun : (execOp a.eval ⟨some d, .binOp op T y z T', ty, pos, after, none⟩).run P w = .ok (.value (.bool b)) w := by
    obtain ⟨i1, i2⟩ := cbT p.data.toList q.data.toList
    rcases hb with ⟨rfl, rfl⟩ | ⟨rfl, rfl⟩
    · have : Op.bytesLess p.data.toList q.data.toList = decide (Lib.compareBytes p.data.toList q.data.toList < 0) := by rw [Bool.eq_iff_iff, i1, decide_eq_true_iff]
      simp [execOp, h1, h2, eqGuard, binOp, Op.stringOp, ByteArray.toList_eq, this]
    · have : (Op.bytesLess p.data.toList q.data.toList || p.data.toList == q.data.toList) = !decide (0 < Lib.compareBytes p.data.toList q.data.toList) := by
        by_cases h : 0 < Lib.compareBytes p.data.toList q.data.toList
        · rw [i2.2 h]; simp [h]
        · cases h' : (Op.bytesLess p.data.toList q.data.toList || p.data.toList == q.data.toList) with
          | true => simp [h]
          | false => exact absurd (i2.1 h') h
      have e : (execOp a.eval ⟨some d, .binOp .gtr T y z T', ty, pos, after, none⟩).run P w = .ok (.value (.bool !(Op.bytesLess p.toList q.toList || p.toList == q.toList))) w := by
        simp [execOp, h1, h2, eqGuard, binOp, Op.stringOp]
      rw [e, ByteArray.toList_eq, ByteArray.toList_eq, this, Bool.not_not]
  rw [hrun]
  exact hK _ _ (hk _ _ ⟨bl, cap, hs, henv.put (by rw [hsz]; exact hd) (.v _ rfl), by rw [Act.put_defers]; exact hdf, by rw [Act.put_size]; exact hsz⟩)
end
end Go.Ab
