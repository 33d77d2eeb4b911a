/- Strings' order: '<=' and '>' in the words of '<' alone, for the walks of this seat. -/
import Derived.Test.YtbllmpfdhcbkpaaDoorBytes
import Derived.Lib.Bytealg
set_option linter.unusedVariables false
set_option linter.unusedSimpArgs false
namespace Go.Proofs.YtbllmpfdhcbkpaaDoor.Ord
open Go

theorem less_total : ∀ (a b : List UInt8), (Op.bytesLess a b || a == b) = !Op.bytesLess b a
  | [], [] => by simp [Op.bytesLess]
  | [], _ :: _ => by simp [Op.bytesLess]
  | _ :: _, [] => by simp [Op.bytesLess]
  | x :: a, y :: b => by
    have ih := less_total a b
    simp only [Op.bytesLess]
    by_cases h : x = y
    · subst h
      have : ¬ x < x := by rw [UInt8.lt_iff_toNat_lt]; omega
      simp only [this, decide_false, Bool.false_or, beq_self_eq_true, Bool.true_and]
      rw [← ih]
      congr 1
      rw [Bool.eq_iff_iff]
      simp
    · have hn : ¬ x.toNat = y.toNat := fun e => h (UInt8.toNat_inj.1 e)
      have e1 : (x == y) = false := beq_eq_false_iff_ne.2 h
      have e2 : (y == x) = false := beq_eq_false_iff_ne.2 (fun e => h e.symm)
      have e3 : (x :: a == y :: b) = false := by rw [beq_eq_false_iff_ne]; intro e; injection e with e _; exact h e
      rw [e1, e2, e3]
      simp only [Bool.false_and, Bool.or_false]
      rw [Bool.eq_iff_iff]
      simp only [decide_eq_true_eq, Bool.not_eq_true', decide_eq_false_iff_not, UInt8.lt_iff_toNat_lt]
      omega
theorem str_leq (t : TypeId) (a b : ByteArray) : binOp .leq t (.string a) (.string b) = pure (.bool (!Op.bytesLess b.toList a.toList)) := by
  simp [binOp, Op.stringOp, ← less_total]
theorem str_gtr (t : TypeId) (a b : ByteArray) : binOp .gtr t (.string a) (.string b) = pure (.bool (Op.bytesLess b.toList a.toList)) := by
  have := less_total a.toList b.toList
  simp [binOp, Op.stringOp] 
  cases h1 : Op.bytesLess a.toList b.toList <;> cases h2 : (a.toList == b.toList) <;> cases h3 : Op.bytesLess b.toList a.toList <;> simp_all
theorem str_geq (t : TypeId) (a b : ByteArray) : binOp .geq t (.string a) (.string b) = pure (.bool !(Op.bytesLess a.toList b.toList)) := by simp [binOp, Op.stringOp]
/-- The order of three answers. -/
theorem compare_less : ∀ (a b : List UInt8), (Op.bytesLess a b = true ↔ Lib.compareBytes a b = -1)
  | [], [] => by simp [Op.bytesLess, Lib.compareBytes]
  | [], _ :: _ => by simp [Op.bytesLess, Lib.compareBytes]
  | _ :: _, [] => by simp [Op.bytesLess, Lib.compareBytes]
  | x :: a, y :: b => by
    have ih := compare_less a b
    simp only [Op.bytesLess, Lib.compareBytes, Bool.or_eq_true, Bool.and_eq_true, decide_eq_true_eq, beq_iff_eq]
    by_cases h : x < y
    · simp [h]
    · by_cases h2 : y < x
      · have : ¬ x = y := by intro e; subst e; exact h h2
        simp [h, h2, this]
      · have e : x = y := by
          rw [UInt8.lt_iff_toNat_lt] at h h2
          exact UInt8.toNat_inj.1 (by omega)
        subst e
        simp [h, ih]
theorem compare_eq : ∀ (a b : List UInt8), (Lib.compareBytes a b = 0 ↔ a = b)
  | [], [] => by simp [Lib.compareBytes]
  | [], _ :: _ => by simp [Lib.compareBytes]
  | _ :: _, [] => by simp [Lib.compareBytes]
  | x :: a, y :: b => by
    have ih := compare_eq a b
    simp only [Lib.compareBytes]
    by_cases h : x < y
    · have : ¬ x = y := by intro e; subst e; rw [UInt8.lt_iff_toNat_lt] at h; omega
      simp [h, this]
    · by_cases h2 : y < x
      · have : ¬ x = y := by intro e; subst e; exact h h2
        simp [h, h2, this]
      · have e : x = y := by
          rw [UInt8.lt_iff_toNat_lt] at h h2
          exact UInt8.toNat_inj.1 (by omega)
        subst e
        simp [h, ih]
theorem compare_range : ∀ (a b : List UInt8), Lib.compareBytes a b = -1 ∨ Lib.compareBytes a b = 0 ∨ Lib.compareBytes a b = 1
  | [], [] => by simp [Lib.compareBytes]
  | [], _ :: _ => by simp [Lib.compareBytes]
  | _ :: _, [] => by simp [Lib.compareBytes]
  | x :: a, y :: b => by
    have ih := compare_range a b
    simp only [Lib.compareBytes]
    split
    · simp
    · split
      · simp
      · exact ih
end Go.Proofs.YtbllmpfdhcbkpaaDoor.Ord
