/- The order '<=' of texts, said by '<'. For all texts. -/
import Derived.Test.YtlbhighbhchdmaaWWords
namespace Go.Proofs.Ytlbhighbhchdmaa.Q
open Go.RowKit
theorem leq_less : ∀ (x y : List UInt8), (Op.bytesLess x y || x == y) = !(Op.bytesLess y x)
  | [], [] => rfl
  | [], _ :: _ => rfl
  | _ :: _, [] => rfl
  | a :: x, b :: y => by
    have ih := leq_less x y
    show ((decide (a < b) || (a == b && Op.bytesLess x y)) || (a == b && x == y)) = !(decide (b < a) || (b == a && Op.bytesLess y x))
    by_cases h : a = b
    · subst h
      have h1 : ¬ a < a := UInt8.lt_irrefl a
      simp [h1, ← ih]
    · have e1 : (a == b) = false := beq_eq_false_iff_ne.mpr h
      have e2 : (b == a) = false := beq_eq_false_iff_ne.mpr (fun e => h e.symm)
      rw [e1, e2]
      by_cases h2 : a < b
      · have h3 : ¬ b < a := UInt8.lt_asymm h2
        simp [h2, h3]
      · have h3 : b < a := by
          rcases UInt8.lt_or_eq_of_le (UInt8.not_lt.1 h2) with h4 | h4
          · exact h4
          · exact absurd h4.symm h
        simp [h2, h3]
theorem put_leq (t : TypeId) (a b : ByteArray) : binOp .leq t (.string a) (.string b) = pure (.bool (!(Op.bytesLess b.toList a.toList))) := by
  rw [← leq_less]
  simp [binOp, Op.stringOp]
theorem put_gtr (t : TypeId) (a b : ByteArray) : binOp .gtr t (.string a) (.string b) = pure (.bool (Op.bytesLess b.toList a.toList)) := by
  have h := leq_less a.toList b.toList
  have e : Op.bytesLess b.toList a.toList = !(Op.bytesLess a.toList b.toList || a.toList == b.toList) := by rw [h, Bool.not_not]
  rw [e]
  simp [binOp, Op.stringOp]
end Go.Proofs.Ytlbhighbhchdmaa.Q
