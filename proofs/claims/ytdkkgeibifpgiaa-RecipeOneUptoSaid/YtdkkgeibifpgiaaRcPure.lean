/- The recipe's reference: its words are the reader's. -/
import Derived.Test.YtdkkgeibifpgiaaQ21
import Derived.Test.YtdkkgeibifpgiaaRcReader
namespace Go.Proofs.Ytdkkgeibifpgiaa.Rc
open Go.RowKit Go.Proofs.YtdkkgeibifpgiaaW.PrintWords Go.Proofs.Ytdkkgeibifpgiaa.Bytes Go.Proofs.Ytdkkgeibifpgiaa.Q
set_option linter.unusedVariables false
set_option linter.unusedSimpArgs false

/-- A place and whether all went well, as the reference tells it. -/
def toRef (n : Nat) (r : Res Unit) : Int × Bool := match r with | .ok _ s => (((n - s.length : Nat) : Int), true) | .bad l => (((n - l : Nat) : Int), false)
theorem wrap_up (x : Nat) (h : x ≤ 1099511627776) : wrap64 ((x : Int) + 1) = ((x + 1 : Nat) : Int) := by
  unfold wrap64
  omega
theorem word_law (T word : ByteArray) (hT : T.size < 1099511627776) (hw : word.size ≤ 1000) : ∀ (k i p : Nat), i ≤ word.size → p ≤ T.size → word.size - i < k →
    depotref21_word.l0 k T (p : Int) word (i : Int) = some (toRef T.size (wordL ((bs word).drop i) ((bs T).drop p)))
  | 0, i, p, hi, hp, hk => by omega
  | k + 1, i, p, hi, hp, hk => by
    rw [depotref21_word.l0]
    by_cases h1 : i < word.size
    · rw [if_pos (by omega), drop_cons word i h1]
      by_cases h2 : p < T.size
      · rw [if_neg (by omega), if_pos (by omega), if_pos (by omega), if_pos (by omega), drop_cons T p h2, wordL]
        have e1 : bt T (p : Int) = ((T[p]'h2).toNat : Int) := by
          unfold bt
          simp [h2]
        have e2 : bt word (i : Int) = ((word[i]'h1).toNat : Int) := by
          unfold bt
          simp [h1]
        rw [e1, e2]
        by_cases h3 : (T[p]'h2) = (word[i]'h1)
        · rw [if_pos (by rw [h3]), if_pos h3, wrap_up p (by omega), wrap_up i (by omega)]
          exact word_law T word hT hw k (i + 1) (p + 1) h1 h2 (by omega)
        · rw [if_neg (fun e => h3 (UInt8.toNat_inj.1 (by omega))), if_neg h3]
          have : ((bs T).drop (p + 1)).length = T.size - (p + 1) := by rw [List.length_drop, ← size_bs]
          simp only [toRef, this]
          congr 2
          omega
      · obtain rfl : p = T.size := by omega
        rw [if_pos (by omega), List.drop_of_length_le (l := bs T) (by rw [← size_bs]; exact Nat.le_refl _), wordL]
        simp [toRef]
    · obtain rfl : i = word.size := by omega
      rw [if_neg (by omega), List.drop_of_length_le (l := bs word) (by rw [← size_bs]; exact Nat.le_refl _), wordL]
      have : ((bs T).drop p).length = T.size - p := by rw [List.length_drop, ← size_bs]
      simp only [toRef, this]
      congr 2
      omega
end Go.Proofs.Ytdkkgeibifpgiaa.Rc
