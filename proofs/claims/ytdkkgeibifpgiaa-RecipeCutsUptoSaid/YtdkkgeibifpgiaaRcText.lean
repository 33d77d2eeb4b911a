/- The recipe's text: quotes and commas, as plain Lean. -/
import Derived.Test.YtdkkgeibifpgiaaRcModel
namespace Go.Proofs.Ytdkkgeibifpgiaa.Rc
open Go.RowKit Go.Proofs.Ytdkkgeibifpgiaa.Bytes
set_option linter.unusedVariables false
set_option linter.unusedSimpArgs false

/-- A byte between quotes. -/
def qesc (x : UInt8) : List UInt8 := if x = 34 ∨ x = 92 then [92, x] else if x = 10 then [92, 110] else if x = 9 then [92, 116] else [x]
/-- A text between quotes. -/
def quoteL (l : List UInt8) : List UInt8 := 34 :: (l.flatMap qesc ++ [34])
def quoteB (b : ByteArray) : List UInt8 := quoteL (bs b)
/-- Things with commas between. -/
def commaL : List (List UInt8) → List UInt8
  | [] => []
  | x :: xs => x ++ xs.flatMap (44 :: ·)
theorem qesc_len (x : UInt8) : (qesc x).length ≤ 2 := by
  unfold qesc
  split
  · exact Nat.le_refl _
  · split
    · exact Nat.le_refl _
    · split
      · exact Nat.le_refl _
      · simp
theorem flat_len (l : List UInt8) : (l.flatMap qesc).length ≤ 2 * l.length := by
  induction l with
  | nil => simp
  | cons x l ih =>
    rw [List.flatMap_cons, List.length_append, List.length_cons]
    have := qesc_len x
    omega
theorem quoteB_le (b : ByteArray) : (quoteB b).length ≤ 2 * b.size + 2 := by
  have h1 := flat_len (bs b)
  rw [← size_bs] at h1
  show (34 :: ((bs b).flatMap qesc ++ [34]) : List UInt8).length ≤ _
  rw [List.length_cons, List.length_append, List.length_singleton]
  omega
end Go.Proofs.Ytdkkgeibifpgiaa.Rc
